/- Part 8 of the proof of TopSafe. No condition. -/
import Derived.Test.YtnpancjkjheffaaGreatP05
namespace Go.Proofs.YtnpancjkjheffaaGreat
set_option linter.unusedVariables false
set_option linter.unusedSimpArgs false
set_option maxRecDepth 100000
set_option maxHeartbeats 8000000
open Go.RowKit
open Go.Proofs.Tryz
open _root_.List renaming setIfInBounds_toArray->PI,replicate->Xa0,getElem?_eq_getElem->Xa1,eq_nil_of_length_eq_zero->Xa2,map_cons->Xa3,mem_map->Xa4,getD->Xa5,map_append->Xa6,length_set->Xa7,find?_cons->Xa8
open _root_.Nat renaming le_trans->Xa9,mod_eq_of_lt->Xb0,or_lt_two_pow->Xb1,shiftLeft_eq->Xb2,mul_mod_left->Xb3,le_refl->Xb4,pow_lt_pow_right->Xb5,testBit_two_pow->Xb6,lt_of_le_of_lt->Xb7,testBit_or->Xb8,mod_lt->Xb9
open IntKind renaming u64->Xc0,signed->Xc1,wrap->Xc2,bits->Xc3
open _root_.Array renaming getElem?_eq_some_iff->Xc4
variable {p:Addr}{c cs:Array Value}{live sl tn x:Int}{f:Int->Option Value}{q:IntKind}{zs:List Int}{xs:List Value}{B B' L M P T X cap g i j k n room:Nat}{S:Nat->Prop}{o:Obj}{A:Option Addr}{t t' tL tP ty:TypeId}{u v:Value}{a b w w' w1:World}
def pL(d:De)(t:Int):Int:=match d.tracks[fi t (d.tracks.map Tr.id)]? with|some x=>x.owner|none=>0
def kC(c:Cf)(d:De)(q:Rq):De×Int:=
 if(bits .and .i64 (mW d q.who) 2==0)=true then(d,24) else if decide (q.track∈d.tracks.map Tr.id)=false then(d,21)
 else if(nU d.people (pL d q.track)==nU d.people q.who)=false then(d,24) else if decide ((q.who,q.track)∈bD d.subs)=true then(d,22)
 else if(ja q.layer 0 2&&ja q.tid 0 3)=false then(d,1) else if decide (c.subs<=PA d.subs q.who)=true then(d,25) else if decide (c.slots<=d.subs.length)=true then(d,20)
 else(⟨d.people,d.tracks,d.subs.insertIdx (kR (q.who,q.track) (bD d.subs)) ⟨q.who,q.track,q.layer,q.tid,false⟩⟩,0)
theorem vK{c:Cf}{d:De}{q:Rq}{b1 b2 b3 b4 b5 b6 b7:Bool}(e1:(bits .and .i64 (mW d q.who) 2==0)=b1)(e2:decide (q.track∈d.tracks.map Tr.id)=b2)(e3:(nU d.people (pL d q.track)==nU d.people q.who)=b3)(e4:decide ((q.who,q.track)∈bD d.subs)=b4)(e5:(ja q.layer 0 2&&ja q.tid 0 3)=b5)(e6:decide (c.subs<=PA d.subs q.who)=b6)(e7:decide (c.slots<=d.subs.length)=b7) :
  (b1=true/\kC c d q=(d,24))\/(b1=false/\b2=false/\kC c d q=(d,21))\/(b1=false/\b2=true/\b3=false/\kC c d q=(d,24))\/(b1=false/\b2=true/\b3=true/\b4=true/\kC c d q=(d,22))\/(b1=false/\b2=true/\b3=true/\b4=false/\b5=false/\kC c d q=(d,1))\/(b1=false/\b2=true/\b3=true/\b4=false/\b5=true/\b6=true/\kC c d q=(d,25))\/(b1=false/\b2=true/\b3=true/\b4=false/\b5=true/\b6=false/\b7=true/\kC c d q=(d,20))\/(b1=false/\b2=true/\b3=true/\b4=false/\b5=true/\b6=false/\b7=false/\kC c d q=(⟨d.people,d.tracks,d.subs.insertIdx (kR (q.who,q.track) (bD d.subs)) ⟨q.who,q.track,q.layer,q.tid,false⟩⟩,0)):=by
 unfold kC;rw[e1,e2,e3,e4,e5,e6,e7];cases b1<;>cases b2<;>cases b3<;>cases b4<;>cases b5<;>cases b6<;>cases b7<;>simp
theorem AW{c:Cf}{d:De}{q:Rq}(h:DX w B X c d)(hB:B<=w.heap.size)(hBX:B<=X)(h1:d.people.length<=999)(h2:d.tracks.length<=999)(h3:d.subs.length<=999)(hs:p8 (d.people.map Pe.who))(hs2:p8 (d.tracks.map Tr.id))(hs3:B9 (bD d.subs))(hw:q.who∈d.people.map Pe.who)(ho:∀t∈d.tracks,t.owner∈d.people.map Pe.who) :
  az 194 #[OV X,.agg (fq q A cap)] w λe w'=>e=aA (JI (kC c d q).2)/\DX w' B X c (kC c d q).1/\Below B w w':=by
 refine zq39;have hss:=λW (hb:aC w W)=>NN (w:=W) (aT gP) A2 A3 d.people.length ks.length d.subs.length n1 n2 n3 q.who q.track (aX HS.out hb) oM hs3 c.people c.tracks c.subs c.slots
 have hrc:=λW (hb:ag af w W) (hm:pL d q.track∈d.people.map Pe.who)=>room_t (w:=W) (pL d q.track) ((hb.block _ hXl id).trans hX) (ah HP.out hb cy) h1 hs hm
 have hhs:=λW (hb:ag af w W)=>has_t (w:=W) q.who ((hb.block _ hXl id).trans hX) (ah HS.out hb cy) oM
 refine WS;obtain⟨J,hJ0⟩:∃J,J=kC c d q:=⟨_,rfl⟩
 rw[←hJ0];have e1:(bits .and .i64 (mW d q.who) 2==0)=_:=rfl;refine Vx;have hrf2:nU d.people q.who=rm:=by rw[nU,←hpi0,Xa1 hpi,hrm]
 obtain⟨ti,hti⟩:∃ti,ti=fi q.track (d.tracks.map Tr.id):=⟨_,rfl⟩
 obtain⟨si,hsi⟩:∃si,si=kR (q.who,q.track) (bD d.subs):=⟨_,rfl⟩
 have hsl:si<=d.subs.length:=by rw[hsi];have:=(nf (mL (q.who,q.track)) (bD d.subs)).1;rw[show(bD d.subs).length=d.subs.length by simp[bD]]at this;exact this
 obtain⟨hn,hhn⟩:∃hn,hn=PA d.subs q.who:=⟨_,rfl⟩
 obtain⟨ow,how⟩:∃ow,ow=pL d q.track:=⟨_,rfl⟩
 obtain⟨ro,hro⟩:∃ro,ro=nU d.people ow:=⟨_,rfl⟩
 obtain⟨b2,e2⟩:∃b,decide (q.track∈d.tracks.map Tr.id)=b:=⟨_,rfl⟩
 obtain⟨b4,e4⟩:∃b,decide ((q.who,q.track)∈bD d.subs)=b:=⟨_,rfl⟩
 obtain⟨b5,e5⟩:∃b,(ja q.layer 0 2&&ja q.tid 0 3)=b:=⟨_,rfl⟩
 obtain⟨b1,f1⟩:∃b,(bits .and .i64 rt 2==0)=b:=⟨_,rfl⟩
 obtain⟨b3,f3⟩:∃b,(ro==rm)=b:=⟨_,rfl⟩
 obtain⟨b6,f6⟩:∃b,decide (c.subs<=hn)=b:=⟨_,rfl⟩
 obtain⟨b7,f7⟩:∃b,decide (c.slots<=d.subs.length)=b:=⟨_,rfl⟩
 rw[e2,←hti]at hts;rw[e4,←hsi]at hss;rw[←how,←hro]at hrc;rw[←hhn]at hhs;rw[e5]at hly;have hcs:=vK (c:=c) (d:=d) (q:=q) (b1:=b1) (b2:=b2) (b3:=b3) (b4:=b4) (b5:=b5) (b6:=b6) (b7:=b7) (by rw[hrf];exact f1) e2 (by rw[←how,←hro,hrf2];exact f3) e4 e5 (by rw[←hhn];exact f6) f7;rw[←hJ0,←hsi]at hcs;have hg0:=hg;refine nQ;obtain⟨cP,fP,zP⟩:=ab hg;have hc:True:=trivial;have hZ:True:=trivial;have cZ:True:=trivial;have fZ:True:=trivial;have zZ:True:=trivial;have HLK:=OH (show b2=true->∃h:ti<d.tracks.length,ow=d.tracks[ti].owner/\ow∈d.people.map Pe.who from λhb=>by
  subst hb;obtain⟨h5,-⟩:=tp hs2 (t:=q.track) (by simpa using e2);rw[List.length_map,←hti]at h5;have h6:ow=d.tracks[ti].owner:=by rw[how,pL,←hti,Xa1 h5]
  exact⟨h5,h6,h6 ▸ ho _ (List.getElem_mem h5)⟩)
 clear e1 hrf hrf2 hpi0 hpe hrow hrt hs hs2 hs3 hw ho hti hsi hhn how hro e2 e4 e5 hJ0;refine qf;clear hps;have HTS:=OH hts;clear hts;have HSS:=OH hss;clear hss;have HRC:=OH hrc;clear hrc;have HHS:=OH hhs;clear hhs;have HLY:=OH hly;clear hly;have HG0:=OH hg0;clear hg0;have HSL:=OH hsl;clear hsl;rcases hcs with⟨rfl,hJ⟩|⟨rfl,rfl,hJ⟩|⟨rfl,rfl,rfl,hJ⟩|⟨rfl,rfl,rfl,rfl,hJ⟩|⟨rfl,rfl,rfl,rfl,rfl,hJ⟩|⟨rfl,rfl,rfl,rfl,rfl,rfl,hJ⟩|⟨rfl,rfl,rfl,rfl,rfl,rfl,rfl,hJ⟩|⟨rfl,rfl,rfl,rfl,rfl,rfl,rfl,hJ⟩;all_goals(
  have HJ:=OH hJ;clear hJ;go_enter func194,ntmps194;go_wp2_with fail;refine rg 10 (λw'=>Bk w' X (gi c (.slice (aT gP) d.people.length n1) (.slice A2 ks.length n2) (.slice A3 d.subs.length n3)) 42/\Bk w' w.heap.size (fq q A cap) 50/\Bk w' gP cr 167/\ag af w w') ⟨bk,bk,bk,bu⟩ (λhHeld0=>?_);refine tk 0 ?_;refine tk 1 ?_;refine tk 2 ?_;refine tk 3 ?_;refine tk 4 ?_;refine on 5 λK hK=>?_
  go_simp;have hz9:=hHeld0;go_split_ands;refine(HPS.out _ uk).mono ?_;rintro e w5 ⟨rfl,hb5⟩;refine hK.out _ _ QU (λhHeld1=>?_);clear hK K;(try clear hHeld0);try simp only[pu]
  refine tk 6 ?_;refine tk 7 ?_;refine tk 8 ?_;refine tk 9 ?_;refine la (λK hK=>?_);go_simp;refine hK.out _ _ ?_;clear hK K;have hq5:=hHeld1;clear hHeld1 hb5 hX cX fX zX hZ cZ fZ zZ hg cP fP zP hc;obtain⟨⟨hX,cX,fX,zX⟩,⟨hZ,cZ,fZ,zZ⟩,⟨hg,cP,fP,zP⟩,hc⟩:=hq5;go_wp2_with fail;refine rg 10 (λw'=>Bk w' X (gi c (.slice (aT gP) d.people.length n1) (.slice A2 ks.length n2) (.slice A3 d.subs.length n3)) 42/\Bk w' w.heap.size (fq q A cap) 50/\Bk w' gP cr 167/\ag af w w') ⟨bk,bk,bk,bu⟩ (λhHeld0=>?_);refine tk 0 ?_;refine tk 1 ?_;refine tk 2 ?_;refine tk 3 ?_;refine tk 4 ?_;refine on 5 λK hK=>?_
  go_simp;have hz9:=hHeld0;go_split_ands;refine(HTS.out _ uk).mono ?_;rintro e w5 ⟨rfl,hb5⟩;refine hK.out _ _ QU (λhHeld1=>?_);clear hK K;(try clear hHeld0);try simp only[pu]
  refine tk 6 ?_;refine tk 7 ?_;refine tk 8 ?_;refine tk 9 ?_;refine la (λK hK=>?_);go_simp;refine hK.out _ _ ?_;clear hK K;have hq5:=hHeld1;clear hHeld1 hb5 hX cX fX zX hZ cZ fZ zZ hg cP fP zP hc;obtain⟨⟨hX,cX,fX,zX⟩,⟨hZ,cZ,fZ,zZ⟩,⟨hg,cP,fP,zP⟩,hc⟩:=hq5;go_wp2_with fail;refine rg 12 (λw'=>Bk w' X (gi c (.slice (aT gP) d.people.length n1) (.slice A2 ks.length n2) (.slice A3 d.subs.length n3)) 42/\Bk w' w.heap.size (fq q A cap) 50/\Bk w' gP cr 167/\ag af w w') ⟨bk,bk,bk,bu⟩ (λhHeld0=>?_);refine tk 0 ?_;refine tk 1 ?_;refine tk 2 ?_;refine tk 3 ?_;refine tk 4 ?_;refine tk 5 ?_;refine tk 6 ?_;refine on 7 λK hK=>?_
  go_simp;have hz9:=hHeld0;go_split_ands;refine(HSS.out _ uk).mono ?_;rintro e w5 ⟨rfl,hb5⟩;refine hK.out _ _ QU (λhHeld1=>?_);clear hK K;(try clear hHeld0);try simp only[pu]
  refine tk 8 ?_;refine tk 9 ?_;refine tk 10 ?_;refine tk 11 ?_;refine la (λK hK=>?_);go_simp;refine hK.out _ _ ?_;clear hK K;have hq5:=hHeld1;clear hHeld1 hb5 hX cX fX zX hZ cZ fZ zZ hg cP fP zP hc;obtain⟨⟨hX,cX,fX,zX⟩,⟨hZ,cZ,fZ,zZ⟩,⟨hg,cP,fP,zP⟩,hc⟩:=hq5;go_wp2_with fail)
 exact Ik;exact Ik;all_goals(
  obtain⟨hti,how,hom⟩:=HLK.out yO;have hti2:ti<ks.length:=by have:=HKL.out;omega
  rcases bW HT.out with⟨_,h0,_⟩|⟨gT,cap3,hA,-,hgl3,-,-⟩
  .omega
  simp only[Value.slice.injEq]at hA;obtain⟨rfl,-,rfl⟩:=hA;obtain⟨-,-,-,-,crt,hgt,-,hrowt⟩:=gH HT.out;have hdt:=hrowt ti hti2 1 dM;simp only[eU,List.getElem?_cons_zero,List.getElem?_cons_succ]at hdt;rw[(HK.out.2 ti hti2 hti).2.1,←how]at hdt;have hT:=(hc.block gT hgl3 id).trans hgt;obtain⟨cT,fT,zT⟩:=ab hT;clear hrowt how hgt;refine rg 19 (λw'=>Bk w' X (gi c (.slice (aT gP) d.people.length n1) (.slice (aT gT) ks.length n2) (.slice A3 d.subs.length n3)) 42/\Bk w' w.heap.size (fq q A cap) 50/\Bk w' gP cr 167/\Bk w' gT crt 173/\ag af w w') ⟨bk,bk,bk,bk,bu⟩ (λhHeld0=>?_);refine tk 0 ?_;refine tk 1 ?_;refine tk 2 ?_;refine tk 3 ?_;refine tk 4 ?_;refine tk 5 ?_;refine tk 6 ?_;refine tk 7 ?_;refine tk 8 ?_;refine tk 10 ?_;refine tk 11 ?_;refine tk 12 ?_;refine tk 13 ?_;refine tk 14 ?_;refine tk 15 ?_;refine tk 16 ?_;refine tk 17 ?_;refine on 9 λK hK=>?_
  go_simp;have hz9:=hHeld0;go_split_ands;refine(HRC.out _ aM hom).mono ?_;rintro e w5 ⟨rfl,hb5⟩;refine hK.out _ _ Ue (λhHeld1=>?_);clear hK K;(try clear hHeld0);try simp only[pu]
  refine tk 18 ?_;refine la (λK hK=>?_);go_simp;refine hK.out _ _ ?_;clear hK K;have hq5:=hHeld1;clear hHeld1 hb5 hX cX fX zX hZ cZ fZ zZ hg cP fP zP hT cT fT zT hc;obtain⟨⟨hX,cX,fX,zX⟩,⟨hZ,cZ,fZ,zZ⟩,⟨hg,cP,fP,zP⟩,⟨hT,cT,fT,zT⟩,hc⟩:=hq5;go_wp2_with fail)
 exact Ik;exact Ik;all_goals(
  refine(HLY.out _).mono ?_;rintro e w6 ⟨rfl,hb6⟩;have hX6:=(hb6.block _ zX).trans hX;have hZ6:=(hb6.block _ zZ).trans hZ;have hg6:=(hb6.block _ zP).trans hg;have hT6:=(hb6.block _ zT).trans hT;have hc6:ag af w w6:=hc.next hb6;clear hb6 hX cX fX zX hZ cZ fZ zZ hg cP fP zP hT cT fT zT hc;obtain⟨hX,hZ,hg,hT,hc⟩:=And.intro hX6 (And.intro hZ6 (And.intro hg6 (And.intro hT6 hc6)));clear hX6 hZ6 hg6 hT6 hc6;obtain⟨cX,fX,zX⟩:=ab hX;obtain⟨cZ,fZ,zZ⟩:=ab hZ;obtain⟨cP,fP,zP⟩:=ab hg;obtain⟨cT,fT,zT⟩:=ab hT;go_wp2_with fail)
 exact Ik;all_goals(
  refine rg 10 (λw'=>Bk w' X (gi c (.slice (aT gP) d.people.length n1) (.slice (aT gT) ks.length n2) (.slice A3 d.subs.length n3)) 42/\Bk w' w.heap.size (fq q A cap) 50/\Bk w' gP cr 167/\Bk w' gT crt 173/\ag af w w') ⟨bk,bk,bk,bk,bu⟩ (λhHeld0=>?_);refine tk 0 ?_;refine tk 1 ?_;refine tk 2 ?_;refine tk 4 ?_;refine tk 5 ?_;refine tk 6 ?_;refine tk 7 ?_;refine tk 8 ?_;refine on 3 λK hK=>?_
  go_simp;have hz9:=hHeld0;go_split_ands;refine(HHS.out _ aM).mono ?_;rintro e w5 ⟨rfl,hb5⟩;refine hK.out _ _ Ue (λhHeld1=>?_);clear hK K;(try clear hHeld0);try simp only[pu]
  refine tk 9 ?_;refine la (λK hK=>?_);go_simp;refine hK.out _ _ ?_;clear hK K;have hq5:=hHeld1;clear hHeld1 hb5 hX cX fX zX hZ cZ fZ zZ hg cP fP zP hT cT fT zT hc;obtain⟨⟨hX,cX,fX,zX⟩,⟨hZ,cZ,fZ,zZ⟩,⟨hg,cP,fP,zP⟩,⟨hT,cT,fT,zT⟩,hc⟩:=hq5;go_wp2_with fail)
 exact Ik;all_goals(
  go_quiet (fail);go_wp2_with fail)
 .go_ret
  rw[HJ.out];exact⟨rfl,⟨_,_,_,eM,ah HP.out (hc.drewN nq) cy,⟨ks,ah HT.out (hc.drewN nq) cy,HK.out.kept (hc.drewN nq) cy⟩,ah HS.out (hc.drewN nq) cy⟩,(hc.drewN nq).none.mono hB⟩
 refine rg 19 (λw'=>Bk w' X (gi c (.slice (aT gP) d.people.length n1) (.slice (aT gT) ks.length n2) (.slice A3 d.subs.length n3)) 42/\Bk w' w.heap.size (fq q A cap) 50/\ag (oy 170 B w5) w5 w') ⟨bk,bk,bu⟩ (λhHeld0=>?_);refine rP;refine Fi;refine hK.out _ _ ⟨bk,bk,bu⟩ (λhHeld1=>?_);refine nR;refine on 16 λK hK=>?_
 go_simp;have hc9:ag af w5 ((w5.drewN (nq+1)).alloc (.cells #[JI q.who,JI q.track,JI q.layer,JI q.tid,.bool false] 170)):=bu;have hS5:=ah HS.out hc cy;have hS9:=ah hS5 hc9 cy;have hlo9:=HSL.out;have hsz9:=hc.size;refine Calls.mono (ins_su (V:=w5.heap.size) (x:=⟨q.who,q.track,q.layer,q.tid,false⟩) hS9 (by simp only[aD,lu];omega) oM hlo9 eM (GR hS5)) ?_;rintro e w6 ⟨v6,rfl,hown6,hb5⟩;have hb5:=yj hS9 hb5;refine Ly;have HO6:=OH hown6;clear hown6 hS9 hlo9;refine Xx;refine tk 17 ?_;refine tk 18 ?_;refine eY;have hw:=hHeld2;go_split_ands;have hcA:ag (oy 170 B w5) w5 w6:=aM;have hX6:w6.heap[X]?=OC (gi c (.slice (aT gP) d.people.length n1) (.slice (aT gT) ks.length n2) (.slice A3 d.subs.length n3)) 42:=aM;have hs7:ag (λj=>j=X) w6 (w6.setCell ⟨X,6,none⟩ (.slice A7 (d.subs.length+1) n7)):=ag.set (S:=λj=>j=X) dp ⟨X,6,none⟩ (.inl rfl) _;refine FQ;refine lS;have hl7:(d.subs.insertIdx si (⟨q.who,q.track,q.layer,q.tid,false⟩:Su)).length=d.subs.length+1:=gF _ _ _ HSL.out;have h7:=HO6.out;rw[←hl7]at h7;have hto:∀ {e:TypeId} {s n:Nat} {v:Value} {xs:List Value},e≠170->e≠42->w.ownsRow B e s v n xs->(w6.setCell ⟨X,6,none⟩ (.slice A7 (d.subs.length+1) n7)).ownsRow B e s v n xs:=λh1 h2 h=>ah (ah (ah h hc cy) hcA (sY (Ne.symm h1))) hs7 (ho7 h2)
 refine⟨rfl,⟨_,_,_,Ey,hto dM dM HP.out,⟨ks,hto dM dM HT.out,((HK.out.kept hc cy).kept hcA kj).kept hs7 (ho7 dM)⟩,ah h7 hs7 (ho7 dM)⟩,?_⟩;exact(((hc.mono (T:=λj=>j=X\/B<=j) λ_ _ q=>q.elim).call hcA λj _ q=> .inr q.1).trans (hs7.mono λj _ q=> .inl q)).below (λj q=>q.elim (λq=>oM) id) hB
structure Fit(d:De):Prop where
 p:d.people.length<=900
 t:d.tracks.length<=900
 s:d.subs.length<=900
 ss:∀t∈d.tracks,t.ssrcs.length<=1000
 fr:∀t∈d.tracks,0<=t.frm/\t.frm<=1000000
 up:p8 (d.people.map Pe.who)
 ut:p8 (d.tracks.map Tr.id)
 us:B9 (bD d.subs)
 ow:∀t∈d.tracks,t.owner∈d.people.map Pe.who
def GS(k:Nat)(c:Cf)(d:De)(q:Rq):De×Int:=match k with
 |0=>mN c d q|1=>(xP d q.who,0)|2=>ig c d q|3=>j6 d q|4=>oS d q|5=>kC c d q|6=>j4 d q|7=>ii d q true|8=>ii d q false|_=>ie d q
theorem op_t{c:Cf}{d:De}{q:Rq}(k:Nat)(hk:k<=9)(h:DX w B X c d)(hB:B<=w.heap.size)(hBX:B<=X)(hF:Fit d)(hw:k≠0->q.who∈d.people.map Pe.who)(hq:rh w A cap q) :
  az (189+k) #[OV X,.agg (fq q A cap)] w λe w'=>e=aA (JI (GS k c d q).2)/\DX w' B X c (GS k c d q).1/\Below B w w':=by
 obtain⟨a1,a2,a3,a4,a5,a6,a7,a8,a9⟩:=hF;match k,hk with
 |0,_=>
  exact join_t h hB hBX oM a6
 |1,_=>
  exact SV h hB hBX oM oM oM a7
 |2,_=>
  exact IQ h hB hBX oM oM a4 a6 a7 (hw dM) hq
 |3,_=>
  exact Rw h hB hBX oM oM a7
 |4,_=>
  exact repl_t h hB hBX oM a4 a5 a7 hq
 |5,_=>
  exact AW h hB hBX oM oM oM a6 a7 a8 (hw dM) a9
 |6,_=>
  exact Ru h hB hBX oM a8
 |7,_=>
  exact mute_t h hB hBX oM a8
 |8,_=>
  exact NE h hB hBX oM a8
 |9,_=>
  exact IJ h hB hBX oM a8
 |k+10,hk=>omega
def BR(w:World)(B:Nat)(v:Value)(zs:List Int):Prop:=
 ∃A cap,v=.slice A zs.length cap/\zs.length<=cap/\cap<=maxLen/\((zs=[]/\(A=none->cap=0))\/∃g off cur,A=some ⟨g,off,none⟩/\B<=g/\w.heap[g]?=OC cur 5/\off+cap<=cur.size/\∀j,j<zs.length->cur[off+j]?=some (JW (zs.getD j 0)))
def jF(S:Nat->Prop)(w:World):Prop:=∀j cur,S j->w.heap[j]?≠OC cur 5
theorem Jt(w:World):jF af w:=λ_ _ h=>h.elim
theorem ci(h:w.heap[g]?=OC c t)(ht:t≠5):jF (λj=>j=g) w:=λj cur hj q=>by subst hj;exact V3
theorem Tx{T:Nat->Prop}(h:jF S w)(k:jF T w):jF (λj=>S j\/T j) w:=λj cur hj=>hj.elim (h j cur) (k j cur)
theorem BR.chg(h:BR w B v zs)(hc:ag S w w')(hS:jF S w):BR w' B v zs:=by obtain⟨A,cap,h1,h2,h3,h4⟩:=h;refine⟨A,cap,h1,h2,h3,h4.imp id ?_⟩;rintro⟨g,off,cur,k1,k2,k3,k4⟩;exact⟨g,off,cur,k1,k2,ae hc k3 (λq=>hS g cur q k3),k4⟩
theorem BR.below(h:BR w B v zs)(hb:aC w w'):BR w' B v zs:=h.chg (S:=af) (.of hb) iF
theorem BR.mono(h:BR w B v zs)(hB:B'<=B):BR w B' v zs:=by obtain⟨A,cap,h1,h2,h3,h4⟩:=h;refine⟨A,cap,h1,h2,h3,h4.imp id ?_⟩;rintro⟨g,off,cur,k1,k2,k3⟩;exact⟨g,off,cur,k1,Xa9 hB k2,k3⟩
theorem eq(w:World)(B:Nat):BR w B (.slice none 0 0) []:=⟨none,0,rfl,Xb4 _,lM,.inl ⟨rfl,λ_=>rfl⟩⟩
theorem BI(zs:List Int)(j:Nat)(h:j<zs.length):(zs.map (Value.int .u8))[j]?=some (JW (zs.getD j 0)):=by rw[List.getElem?_map,Xa1 h];simp[Xa5,h]
theorem mR(h:w.ownsRow B 5 1 v zs.length (zs.map (Value.int .u8))):BR w B v zs:=by
 rcases bW h with⟨h1,h2,h3⟩|⟨g,cap,h1,h2,h3,h4,h5⟩
 .have:zs=[]:=Xa2 h2
  subst this;exact h1 ▸ eq w B
 .rcases h.2 with⟨k1,_⟩|⟨g',cap',cur,k1,k2,k3,k4,k5,k6,k7⟩
  .rw[h1]at k1
   cases k1
  .refine Xa
   refine⟨_,cap,h1,h4,k5,.inr ⟨g,0,cur,rfl,k2,k3,oM,λj hj=>?_⟩⟩;rw[Nat.zero_add,←BI zs j hj,←k7,List.getElem?_take_of_lt oM,Array.getElem?_toList]
theorem kf(h:BR w B (.slice A n cap) zs):A=none->cap=0:=λq=>by
 refine Ai;rcases h4 with⟨-,h⟩|⟨g,off,cur,k1,_⟩
 .exact h q
 .rw[q]at k1
  cases k1
theorem gG(h:BR w B (.slice A n cap) zs)(hj:j<zs.length):∃g off,A=some ⟨g,off,none⟩/\w.cell? ⟨g,off+j,none⟩=some (JW (zs.getD j 0)):=by
 refine Ai;rcases h4 with⟨rfl,-⟩|⟨g,off,cur,k1,k2,k3,k4,k5⟩
 .simp at hj
 .exact⟨g,off,k1,((ab k3).1 _).trans (k5 j hj)⟩
theorem iD(h:BR w B (.slice A n cap) zs):bd w A .u8 zs:=by
 intro i hi;refine Ai;rcases h4 with⟨rfl,-⟩|⟨g,off,cur,k1,k2,k3,k4,k5⟩
 .simp at hi
 .exact⟨g,off,k1,aB k3,((ab k3).1 _).trans (k5 i hi)⟩
theorem Ho(h:BR w B (.slice A zs.length cap) zs)(hk:k<=zs.length):BR w B (.slice A k k) (zs.take k):=by refine AL;refine nI;have e:(zs.take k).length=k:=xM;refine⟨A,k,by rw[e],oM,oM,h4.elim (λq=> .inl ⟨by simp[q.1],λr=>by have:=q.1;subst this;simp at hk;omega⟩) ?_⟩;rintro⟨g,off,cur,k1,k2,k3,k4,k5⟩;refine .inr ⟨g,off,cur,k1,k2,k3,oM,λj hj=>?_⟩;rw[e]at hj;rw[k5 j oM];simp[Xa5,hj]
theorem TR(h:BR w B (.slice A zs.length cap) zs)(hk:k<=zs.length):BR w B (.slice (A.map (λx=>x.add k)) (zs.length-k) (cap-k)) (zs.drop k):=by refine AL;refine nI;have e:(zs.drop k).length=zs.length-k:=sM;refine⟨_,cap-k,by rw[e],oM,oM,h4.elim (λq=> .inl ⟨by simp[q.1],λr=>by have:=q.2 (by cases A with|none=>rfl|some x=>cases r);omega⟩) ?_⟩;rintro⟨g,off,cur,rfl,k2,k3,k4,k5⟩;refine .inr ⟨g,off+k,cur,by simp[Addr.add_lit],k2,k3,oM,λj hj=>?_⟩;rw[e]at hj;rw[Nat.add_assoc,k5 (k+j) oM];simp[Xa5]
theorem TQ(h:zs=[])(hn:n=0):BR w B (.slice A n 0) zs:=by subst h;subst hn;exact⟨A,0,rfl,Xb4 _,lM,.inl ⟨rfl,λ_=>rfl⟩⟩
def cu(w:World)(B c:Nat)(zs:List Int)(e:Int):Prop:=∃v,w.heap[c]?=OC #[v,JI e] 274/\BR w B v zs
theorem cu.kept{c:Nat}{e:Int}(h:cu w B c zs e)(hc:ag S w w')(h1:¬S c)(hS:jF S w):cu w' B c zs e:=by obtain⟨v,k1,k2⟩:=h;exact⟨v,ae hc k1 h1,k2.chg hc hS⟩
theorem cu.below{c:Nat}{e:Int}(h:cu w B c zs e)(hb:aC w w'):cu w' B c zs e:=h.kept (S:=af) (.of hb) id iF
theorem cu.lt{c:Nat}{e:Int}(h:cu w B c zs e):c<w.heap.size:=aB h.choose_spec.1
section
variable {w:World}{B c:Nat}{zs:List Int}{e:Int}
theorem O0(k:Int)(w:World):az 120 #[JI k] w λr w'=>r=aA (.bool (decide (1<=k)&&decide (k<=8)))/\w'=w:=by generalize h1:decide (1<=k)=x;generalize h2:decide (k<=8)=y;cases x<;>cases y<;>(go_enter func120,ntmps120;go_wp2_with fail;go_ret;exact⟨rfl,rfl⟩)
theorem jV(h:cu w B c zs e):az 150 #[OV c] w λr w'=>r=aA (JI e)/\w'=w:=by obtain⟨v,h1,h2⟩:=h;refine jQ;go_enter func150,ntmps150;exact ga
theorem mK(h:cu w B c zs e):az 151 #[OV c] w λr w'=>r=aA (JI zs.length)/\w'=w:=by obtain⟨v,h1,A,cap,rfl,h2⟩:=h;refine jQ;go_enter func151,ntmps151;exact ga
theorem jx(A:Option Addr)(n cap:Nat)(hl:zs.length=n)(hn:n<=1000000)(hi:bd w A .u8 zs)(hc:A=none->cap=0) :
  az 86 #[.slice A n cap] w λr w'=>∃c,r=aA (OV c)/\w.heap.size<=c/\cu w' w.heap.size c zs 0/\aC w w':=by
 subst hl;go_enter func86,ntmps86;refine ay;refine(lI _ A _ cap (zs.map (Value.int .u8)) sM hn (jB _ _) (fk hi hc)).mono ?_;rintro r w1 ⟨v,rfl,hown,hb⟩;obtain⟨A2,cap2,rfl⟩:=aj hown;have hz:=hb.size;refine bj;refine⟨w1.heap.size,rfl,oM,⟨_,bZ,(mR hown).below oA⟩,jI⟩
theorem AU(h:cu w B c zs e)(he:e≠0)(n:Int)(is:Bool):az 123 #[OV c,JI n,.bool is] w λr w'=>r=aA (.slice none 0 0)/\w'=w:=by
 have hne:(e==0)=false:=by simpa using he
 have hh:=OH h;refine FW;exact ga
theorem NL(h:cu w B c zs 0)(n:Int):az 123 #[OV c,JI n,.bool false] w λr w'=>r=aA (.slice none 0 0)/\cu w' B c zs 1/\ag (λj=>j=c) w w':=by have hh:=OH h;obtain⟨v,h1,h2⟩:=h;refine jQ;refine FW;refine bj;exact⟨rfl,⟨v,bZ,h2.chg (S:=λj=>j=c) bu yQ⟩,bu⟩
theorem sL(h:cu w B c zs 0)(n:Int)(hn:(zs.length:Int)<n):az 123 #[OV c,JI n,.bool true] w λr w'=>r=aA (.slice none 0 0)/\cu w' B c zs 10/\ag (λj=>j=c) w w':=by have hh:=OH h;obtain⟨v,h1,h2⟩:=h;obtain⟨A,cap,rfl,h3⟩:=id h2;have H3:=OH h3;refine jQ;refine FW;refine bj;exact⟨rfl,⟨_,bZ,h2.chg (S:=λj=>j=c) bu yQ⟩,bu⟩
theorem Gy(h:cu w B c zs 0)(k:Nat)(n:Int)(hk:n=k)(hn:k<=zs.length):az 123 #[OV c,JI n,.bool true] w λr w'=>∃v,r=aA v/\BR w' B v (zs.take k)/\cu w' B c (zs.drop k) 0/\ag (λj=>j=c) w w':=by
 subst hk;have hh:=OH h;obtain⟨v,h1,h2⟩:=h;obtain⟨A,cap,rfl,h3,h4,h5⟩:=id h2;have H5:=OH h5;refine jQ;refine FW;go_wp2_with fail
 .go_ret
  exact⟨_,rfl,(Ho h2 hn).chg (S:=λj=>j=c) bu (ci h1 dM),⟨_,bZ,TQ (Xa2 xM) oM⟩,bu⟩
 .go_ret
  exact⟨_,rfl,(Ho h2 hn).chg (S:=λj=>j=c) bu (ci h1 dM),⟨_,bZ,(TR h2 hn).chg (S:=λj=>j=c) bu (ci h1 dM)⟩,bu⟩
end
def Fr(ts:List (TypeId×Nat×Nat))(ms:List Nat)(w:World)(j:Nat):Prop:=(j∈ms/\∀c t,w.heap[j]?≠OC c t)\/∃p∈ts,p.2.1<=j/\(p.2.2=0\/j<p.2.2)/\∃cur,w.heap[j]?=OC cur p.1
section
variable {ts us:List (TypeId×Nat×Nat)}{ms ns:List Nat}{a b c w w':World}
theorem dq(h:ag (Fr ts ms a) a b)(h1:ts ⊆ us)(h2:ms ⊆ ns):ag (Fr us ns a) a b:=h.mono λj _ q=>q.imp (λq=>⟨h2 q.1,q.2⟩) (λ⟨p,hp,q⟩=>⟨p,h1 hp,q⟩)
theorem aF(h:ag (Fr ts ms a) a b)(k:ag (Fr ts ms b) b c):ag (Fr ts ms a) a c:=h.call k λj hj hF=>by
 by_cases hn:Fr ts ms a j
 .exact hn
 .have hb:=h.block j hj hn
  exact hF.imp (λq=>⟨q.1,λx t=>hb ▸ q.2 x t⟩) (λ⟨p,hp,q,q2,cur,hc⟩=>⟨p,hp,q,q2,cur,hb ▸ hc⟩)
theorem aY(h:ag af a b):ag (Fr ts ms a) a b:=h.mono λ_ _ q=>q.elim
theorem tH(h:aC a b):ag (Fr ts ms a) a b:=.of h
theorem eN(hj:a.heap[j]?=OC cs t)(ht:(t,B,0)∈ts)(hB:B<=j):Fr ts ms a j:=.inr ⟨_,ht,hB,.inl rfl,cs,hj⟩
theorem tG{E:Nat}(hj:a.heap[j]?=OC cs t)(ht:(t,B,E)∈ts)(hB:B<=j)(hE:j<E):Fr ts ms a j:=.inr ⟨_,ht,hB,.inr hE,cs,hj⟩
theorem tF(h:ag (λj=>j=X) a b)(hX:a.heap[X]?=OC cs t)(ht:(t,B,0)∈ts)(hB:B<=X):ag (Fr ts ms a) a b:=h.mono λj _ q=>by subst q;exact eN hX ht hB
theorem xX{Y:Nat}{cs':Array Value}(h:ag (λj=>j=X\/j=Y) a b)(hX:a.heap[X]?=OC cs t)(hY:a.heap[Y]?=OC cs' t')(ht:(t,B,0)∈ts)(ht':(t',B',0)∈ts)(hB:B<=X)(hB':B'<=Y):ag (Fr ts ms a) a b:=h.mono λj _ q=>by
 rcases q with q|q<;>subst q
 .exact eN hX ht hB
 .exact eN hY ht' hB'
theorem tE{B2:Nat}(h:ag (OrB B P t a) a b)(hP:a.heap[P]?=OC cs t')(ht:(t,B2,0)∈ts)(ht':(t',B',0)∈ts)(hB2:B2<=B)(hB:B'<=P):ag (Fr ts ms a) a b:=h.mono λj _ q=>by
 rcases q with q|⟨q2,cur,hc⟩
 .subst q
  exact eN hP ht' hB
 .exact eN hc ht (Xa9 hB2 q2)
theorem gh{e:TypeId}(h:(ts.all λp=>p.1 !=e)=true):gk (Fr ts ms w) e w:=λj cur hF hc=>by
 rcases hF with⟨_,q⟩|⟨p,hp,_,_,cur',hc'⟩
 .exact q _ _ hc
 .have h1:=List.all_eq_true.1 h p hp
  exact au hc (λq=>by simp[q]at h1) hc'
theorem bJ{e:TypeId}(h:ag (Fr ts ms w) w w')(hi:w.heap[i]?=OC cs e)(he:(ts.all λp=>p.1 !=e)=true):w'.heap[i]?=OC cs e:=ae h hi λq=>gh he i cs q hi
theorem fr_obj(h:ag (Fr ts ms w) w w')(hi:w.heap[i]?=some o)(ho:∀c t,o≠ .cells c t (0,0))(hm:i ∉ ms):w'.heap[i]?=some o:=(h.block i (Xc4.1 hi).1 λq=>by
 rcases q with⟨q,_⟩|⟨p,_,_,_,cur,hc⟩
 .exact hm q
 .exact ho _ _ (Option.some.inj (hi.symm.trans hc))).trans hi
end
namespace Dd
structure En where
 id:Int
 ans:ByteArray
 done:Bool
instance:Inhabited En:=⟨⟨0,⟨#[]⟩,false⟩⟩
def dB(L:List En)(x:Int):Option En:=L.find? (λe=>decide (e.id=x))
def new(x:Int):En:=⟨x,⟨#[]⟩,false⟩
def wQ(L:List En)(room:Nat)(x:Int):List En×Int:=
 if(dB L x).isSome then(L,22) else if L.length=room then(match L with| []=>(L,20)|e::r=>if e.done then(r++ [new x],0) else(L,20)) else(L++ [new x],0)
def pF(L:List En)(x:Int)(a:ByteArray):List En:=L.map λe=>if e.id=x then⟨x,a,true⟩ else e
def endF(L:List En)(x:Int)(a:ByteArray):List En×Int:=
 match dB L x with
 |none=>(L,21)
 |some e=>if e.done then(L,23) else(pF L x a,0)
structure Ok(L:List En)(room:Nat):Prop where
 nd:(L.map En.id).Nodup
 le:L.length<=room
 lo:∀e∈L,0<=e.id/\e.id<=18446744073709551615
theorem ok_nil(room:Nat):Ok [] room:=⟨List.nodup_nil,sM,λe h=>by simp at h⟩
theorem tK{L:List En}:dB L x=none↔x ∉ L.map En.id:=by unfold dB;rw[List.find?_eq_none];simp only[decide_eq_true_eq,Xa4,not_exists,not_and]
theorem findF_some{L:List En}{e:En}(h:dB L x=some e):e∈L/\e.id=x:=⟨List.mem_of_find?_eq_some h,by simpa using List.find?_some h⟩
theorem Js{L:List En}{e:En}(h:(L.map En.id).Nodup)(he:e∈L):dB L e.id=some e:=by
 induction L with
 |nil=>
  simp at he
 |cons a L ih=>
  refine Fb;unfold dB;rw[Xa8];rcases List.mem_cons.1 he with q|q
  .subst q
   simp
  .have hne:a.id≠e.id:=λq2=>h.1 (by rw[q2];exact Xa4.2 ⟨e,q,rfl⟩)
   simp only[hne,decide_false,Bool.false_eq_true];exact ih h.2 q
theorem eO(e:En)(L:List En)(y:Int):dB (e::L) y=if e.id=y then some e else dB L y:=by
 unfold dB;rw[Xa8];by_cases h:e.id=y
 .simp[h]
 .simp[h]
theorem DH{L:List En}(h:dB L x=none)(y:Int):dB (L++ [new x]) y=if y=x then some (new x) else dB L y:=by
 induction L with
 |nil=>
  rw[List.nil_append,eO];by_cases q:y=x
  .subst q
   simp[new]
  .rw[if_neg (show ¬(new x).id=y from λq2=>q q2.symm),if_neg q]
 |cons a L ih=>
  rw[eO]at h;split at h
  .cases h
  .rename_i hne
   rw[List.cons_append,eO,eO,ih h];by_cases q:y=x
   .subst q
    rw[if_neg hne,if_pos rfl,if_pos rfl]
   .rw[if_neg q,if_neg q]
theorem DG{e:En}{L:List En}(h:((e::L).map En.id).Nodup)(y:Int):dB L y=if y=e.id then none else dB (e::L) y:=by
 refine Fb;by_cases q:y=e.id
 .rw[if_pos q,q,tK]
  exact h.1
 .rw[if_neg q,eO,if_neg (λq2=>q q2.symm)]
theorem Jr(L:List En)(x:Int)(a:ByteArray)(y:Int):dB (pF L x a) y=if y=x then(dB L x).map (λ_=>⟨x,a,true⟩) else dB L y:=by
 induction L with
 |nil=>
  simp[pF,dB]
 |cons e L ih=>
  refine UW;rw[e1,eO,eO,eO,ih];by_cases h:e.id=x
  .rw[if_pos h,if_pos h]
   by_cases q:y=x
   .subst q
    simp
   .rw[if_neg (λq2=>q q2.symm),if_neg q,if_neg q,if_neg (λq2=>q oM)]
  .rw[if_neg h,if_neg h]
   by_cases q:y=x
   .subst q
    rw[if_neg h,if_pos rfl,if_pos rfl]
   .rw[if_neg q,if_neg q]
theorem GF(L:List En)(x:Int)(a:ByteArray):(pF L x a).map En.id=L.map En.id:=by
 induction L with
 |nil=>
  rfl
 |cons e L ih=>
  refine UW;rw[e1,Xa3,Xa3,ih];split
  .rename_i h;rw[h]
  .rfl
theorem CH(L:List En)(x:Int)(a:ByteArray):(pF L x a).length=L.length:=by simp[pF]
theorem GO{L:List En}(h:Ok L room)(hx:dB L x=none)(hl:L.length<room)(h0:0<=x)(h1:x<=18446744073709551615):Ok (L++ [new x]) room:=by
 refine⟨?_,xM,λe he=>?_⟩
 .rw[Xa6,List.nodup_append]
  refine⟨h.nd,sM,λa ha b hb=>?_⟩;simp[new]at hb;subst hb;intro q;subst q;exact(tK.1 hx) ha
 .rcases List.mem_append.1 he with q|q
  .exact h.lo e q
  .simp at q
   subst q;exact⟨h0,h1⟩
theorem RH{e:En}{L:List En}(h:Ok (e::L) room):Ok L room:=
 ⟨by have:=h.nd;rw[Xa3,List.nodup_cons]at this;exact this.2,by have:=h.le;simp at this;omega,λa ha=>h.lo a (by simp[ha])⟩
theorem vJ{e:En}{L:List En}(h:dB (e::L) x=none):dB L x=none:=by
 rw[eO]at h;split at h
 .cases h
 .exact h
theorem set_ok{L:List En}(h:Ok L room)(x:Int)(a:ByteArray):Ok (pF L x a) room:=by
 refine⟨by rw[GF];exact h.nd,by rw[CH];exact h.le,λe he=>?_⟩;unfold pF at he;rw[Xa4]at he;obtain⟨b,hb,rfl⟩:=he;have:=h.lo b hb;by_cases q:b.id=x
 .rw[if_pos q]
  show 0<=x/\x<=_;omega
 .rw[if_neg q]
  exact this
theorem startF_ok{L:List En}(h:Ok L room)(h0:0<=x)(h1:x<=18446744073709551615)(hr:1<=room):Ok (wQ L room x).1 room:=by
 unfold wQ;split
 .exact h
 .rename_i hs
  have hn:dB L x=none:=Vv
  split
  .rename_i hl
   match L,h,hn,hl with
   | [],h,_,_=>
    exact h
   |e::r,h,hn,hl=>
    dsimp only;split
    .exact GO (RH h) (vJ hn) (by simp at hl;omega) h0 h1
    .exact h
  .rename_i hl
   exact GO h hn (by have:=h.le;omega) h0 h1
end Dd
namespace Dd
theorem Rg(w:World):(zeroValue 322).run prog w=.ok (.agg #[.string ⟨#[]⟩,.bool false]) w:=kM
theorem Ps:(prog.info? 47).map (λi=>(i.zero,i.size,i.bytes))=some (some (JU 0),1,8):=kM
def entV(e:En):Value:=.agg #[.string e.ans,.bool e.done]
def dW(L:List En)(x:Int):Option Value:=(dB L x).map entV
def ka(L:List En):List Value:=(L.map En.id).map (Value.int .u64)
structure ed(w:World)(T M B room n:Nat)(L:List En):Prop where
 row:∃v,w.heap[T]?=OC #[JI room,v,.map (some M)] 238/\cE w B 47 v (ka L)
 map:aP w prog 47 .u64 M n (dW L)
 bT:B<=T
 bM:B<=M
 bw:B<=w.heap.size
structure aQ(T B M:Nat)(w w':World):Prop where
 below:Below B w w'
 size:w.heap.size<=w'.heap.size
 other:∀ (j:Nat) (o:Obj),w.heap[j]?=some o->j≠T->j≠M->(∀c,o≠ .cells c 47 (0,0))->w'.heap[j]?=some o
theorem CW(h:w.heap[j]?=some o):j<w.heap.size:=(Xc4.1 h).1
theorem aQ.refl(T B M:Nat)(w:World):aQ T B M w w:=⟨Below.refl _ _,Xb4 _,λ_ _ h _ _ _=>h⟩
theorem aQ.trans{c:World}(h:aQ T B M a b)(k:aQ T B M b c):aQ T B M a c:=
 ⟨h.below.trans k.below,Xa9 h.size k.size,λj o hj h1 h2 h3=>k.other j o (h.other j o hj h1 h2 h3) h1 h2 h3⟩
theorem aQ.of(h:aC w w')(hB:B<=w.heap.size):aQ T B M w w':=
 ⟨h.mono hB,h.size,λj o hj _ _ _=>aZ h (CW hj) hj⟩
theorem aQ.call(h:aQ T B M a w)(hb:aC w w')(hB:B<=w.heap.size):aQ T B M a w':=h.trans (.of hb hB)
theorem aQ.alloc(h:aQ T B M a w)(hB:B<=w.heap.size)(o:Obj):aQ T B M a (w.alloc o):=h.call wH hB
theorem aQ.drewN(h:aQ T B M a w)(n:Nat):aQ T B M a (w.drewN n):=⟨bF h.below n,h.size,h.other⟩
theorem aQ.set(h:aQ T B M a w)(hB:B<=T)(j:Nat)(v:Value):aQ T B M a (w.setCell ⟨T,j,none⟩ v):=
 ⟨h.below.setCell hB v,QR,λi o hi h1 h2 h3=>aN h1 (h.other i o hi h1 h2 h3)⟩
theorem aQ.grownMap{P:Program}{k:TypeId}(h:aQ T B M a w)(hm:aP w P k q M n f)(hg:w.grownBy w' (some M))(hB:B<=M)(hs:B<=w.heap.size):aQ T B M a w':=
 ⟨h.below.grown hg hs (λk hk=>by cases hk;exact hB),Xa9 h.size hg.size,λi o hi h1 h2 h3=>by have h4:=h.other i o hi h1 h2 h3;exact(hg.block i (CW h4) (λq=>h2 (by cases q;rfl))).trans h4⟩
theorem aQ.grownRow(h:aQ T B M a w)(hq:cE w B 47 v xs)(hg:w.grownBy w' v.ownBlock)(hs:B<=w.heap.size):aQ T B M a w':=
 ⟨h.below.grown hg hs (λk hk=>(hq.block hk).1),Xa9 h.size hg.size,λi o hi h1 h2 h3=>by have h4:=h.other i o hi h1 h2 h3;refine(hg.block i (CW h4) (λq=>?_)).trans h4;obtain⟨c,hc⟩:=(hq.block q.symm).2.2;exact h3 c (Option.some.inj (h4.symm.trans hc))⟩
theorem jU(hB:B<=w.heap.size)(h:aQ T B M a w):aQ T B M a (w.alloc o):=h.alloc hB o
theorem na(hB:B<=T)(h:aQ T B M a w):aQ T B M a (w.setCell ⟨T,j,none⟩ v):=h.set hB j v
section
variable {w w':World}{T M B room n:Nat}{L:List En}
theorem ed.below(h:ed w T M B room n L)(hb:aC w w'):ed w' T M B room n L:=by obtain⟨v,h1,h2⟩:=h.row;exact⟨⟨v,aZ hb (aB h1) h1,h2.below hb⟩,h.map.below hb,h.bT,h.bM,Xa9 h.bw hb.size⟩
theorem ed.alloc(h:ed w T M B room n L)(o:Obj):ed (w.alloc o) T M B room n L:=h.below wH
theorem ed.drewN(h:ed w T M B room n L)(k:Nat):ed (w.drewN k) T M B room n L:=h.below (bF yN k)
theorem ed.lt(h:ed w T M B room n L):T<w.heap.size:=by obtain⟨v,h1,h2⟩:=h.row;exact aB h1
theorem ed.mono(h:ed w T M B room n L){m:Nat}(hm:n<=m):ed w T M B room m L:=⟨h.row,h.map.mono hm,h.bT,h.bM,h.bw⟩
end
theorem CZ{P:Program}{k:TypeId}(hm:aP w P k q M n f)(hT:w.heap[T]?=OC c t):M≠T:=hm.not_cells hT
theorem uw{P:Program}{k e:TypeId}(hm:aP w P k q M n f)(hv:cE w B e v xs)(hg:w.grownBy w' v.ownBlock):aP w' P k q M n f:=
 hm.grown hg (λh=>by obtain⟨_,_,cur,hb⟩:=hv.block h.symm;exact hm.not_cells hb rfl)
theorem uC{e:TypeId}(hb:w.heap[g]?=OC c t)(ht:t≠e)(hv:cE w B e v xs)(hg:w.grownBy w' v.ownBlock):w'.heap[g]?=OC c t:=
 (hg.block g rH (λh=>hv.ne hb ht h.symm)).trans hb
theorem cj{P:Program}{k:TypeId}(hb:w.heap[g]?=OC c t)(hm:aP w P k q M n f)(hg:w.grownBy w' (some M)):w'.heap[g]?=OC c t:=
 (hg.block g rH (λh=>hm.not_cells hb (by cases h;rfl))).trans hb
theorem j7{e:Nat}{P:Program}{k:TypeId}(hv:cE w B e v xs)(hm:aP w P k q M n f)(hg:w.grownBy w' (some M)):cE w' B e v xs:=
 hv.kept (λg h=>by obtain⟨_,hl,cur,hb⟩:=hv.block h;exact hg.block g hl (λq=>hm.not_cells hb (by cases q;rfl)))
theorem IX{P:Program}{k:TypeId}{b:Nat}{a:Addr}(ha:b≠a.block)(h:aP w P k q b n f):aP (w.setCell a u) P k q b n f:=h.set ha u
theorem oo{W:World}{room:Int}{v1:Value}{ids:List Value}(hT:W.heap[T]?=OC #[JI room,v,.map (some M)] 238)(hv:cE W B 47 v ids)(hM:aP W prog 47 .u64 M n f)(hMv:aQ T B M w W)(hs:B<=W.heap.size)(hv1:cE w1 B 47 v1 (ids++ [u]))(hg1:W.grownBy w1 v.ownBlock) :
  (∃A cap,v1=.slice A (ids.length+1) cap)/\w1.heap[T]?=OC #[JI room,v,.map (some M)] 238/\aP w1 prog 47 .u64 M n f/\aQ T B M w w1/\W.heap.size<=w1.heap.size:=by
 obtain⟨A,cap,e⟩:=hv1.slice;rw[List.length_append,List.length_singleton]at e;exact⟨⟨A,cap,e⟩,uC hT dM hv hg1,uw hM hv hg1,hMv.grownRow hv hg1 hs,hg1.size⟩
theorem wA{W:World}{ids:List Value}(hT:W.heap[T]?=OC c 238)(hv:cE W B 47 v ids)(hM:aP W prog 47 .u64 M n f)(hMv:aQ T B M w W)(hs:B<=W.heap.size)(bM:B<=M)(hg1:W.grownBy w1 (some M)) :
  w1.heap[T]?=OC c 238/\cE w1 B 47 v ids/\aQ T B M w w1/\W.heap.size<=w1.heap.size:=
 ⟨cj hT hM hg1,j7 hv hM hg1,hMv.grownMap hM hg1 bM hs,hg1.size⟩
theorem Qi(hn:n=w.heap.size):(w.alloc (.cells #[u] t)).cell? ((⟨n,0,none⟩:Addr).add 0)=some u:=fy (l:=[u]) hn 0 u rfl
theorem tY(hn:n=w.heap.size):((w.alloc (.cells #[u] t)).drewN k).cell? ((⟨n,0,none⟩:Addr).add 0)=some u:=fy (l:=[u]) hn 0 u rfl
theorem BV(hn:n=w.heap.size):((w.drewN k).alloc (.cells #[u] t)).cell? ((⟨n,0,none⟩:Addr).add 0)=some u:=fy (l:=[u]) (w:=w.drewN k) hn 0 u rfl
theorem vZ{L:List En}(h:dB L x=none)(y:Int):(if y=x then some (.agg #[.string ⟨#[]⟩,.bool false]) else dW L y)=dW (L++ [new x]) y:=by unfold dW;rw[DH h];split<;>rfl
theorem vY{e:En}{L:List En}(h:((e::L).map En.id).Nodup)(y:Int):(if y=e.id then none else dW (e::L) y)=dW L y:=by unfold dW;rw[DG h y];split<;>rfl
theorem O1{L:List En}{e:En}(h:dB L x=some e)(a:ByteArray)(y:Int):(if y=x then some (.agg #[.string a,.bool true]) else dW L y)=dW (pF L x a) y:=by unfold dW;rw[Jr,h];split<;>rfl
theorem Je(L:List En)(x:Int):ka (L++ [new x])=ka L++ [JU x]:=by simp[ka,new]
theorem iN(L:List En):(ka L).length=L.length:=by simp[ka]
theorem Px(L:List En)(x:Int)(a:ByteArray):ka (pF L x a)=ka L:=by unfold ka;rw[GF]
def PL(L:List En)(x:Int):ByteArray×Bool×Bool:=match dB L x with|none=>(⟨#[]⟩,false,false)|some e=>(e.ans,e.done,true)
theorem O6{L:List En}{a:ByteArray}{d is:Bool}(h:PL L x=(a,d,is)) :
  (dW L x).getD (.agg #[.string ⟨#[]⟩,.bool false])=.agg #[.string a,.bool d]/\(dW L x).isSome=is:=by
 unfold PL at h;unfold dW;split at h
 .rename_i q
  cases h;rw[q];exact gO
 .rename_i e q
  cases h;rw[q];exact gO
theorem pC(h0:0<=x)(h1:x<=18446744073709551615):(Lit.int .u64 x).wf=true:=by first|exact WalkArith.wf_u64 ⟨h0,h1⟩|(simp[Lit.wf,Xc2,Xc3,Xc1];omega)
end Dd
namespace Dd
theorem new_t(m:Int)(room:Nat)(hm:m=room)(w:World)(h0:1<=room)(h1:room<=4096) :
  az 56 #[JI m] w λe w'=>∃T M,e=aA (OV T)/\ed w' T M w.heap.size room 0 []/\aC w w':=by
 subst hm;refine oN;go_enter func56,ntmps56;refine bj;refine⟨w.heap.size+1,w.heap.size,J3,⟨⟨.slice none 0 0,vQ,Bi _ _ _⟩,(aP.made w prog 47 .u64).alloc _,oM,oM,xM⟩,gM⟩
theorem find_t(w:World)(T M B room n:Nat)(L:List En)(x:Int)(h:ed w T M B room n L)(hx0:0<=x)(hx1:x<=18446744073709551615)(a:ByteArray)(d is:Bool)(hf:PL L x=(a,d,is)) :
  az 109 #[OV T,JU x] w λe w'=>e=aA (.tuple #[.string a,.bool d,.bool is])/\aC w w':=by
 refine so;refine jP;obtain⟨l1,l2⟩:=O6 hf;refine sB;have hxw:=pC hx0 hx1;go_enter func109,ntmps109;refine Nb;refine qm
 go_ret3
 exact⟨rfl,bF oA _⟩
end Dd
namespace Dd
theorem PP(a:ByteArray)(d:Bool)(w:World):(Instr.field 322 (.agg #[.string a,.bool d]) 1).run prog w=.ok (.bool d) w:=kM
theorem PT(w:World)(T M B room n:Nat)(L:List En)(x:Int)(s:ByteArray)(h:ed w T M B room n L)(hx0:0<=x)(hx1:x<=18446744073709551615)(hf:dB L x=none) :
  az 161 #[OV T,JU x,.string s] w λe w'=>e=aA (JI 21)/\aC w w':=by
 refine so;refine Y8;refine sB;refine Lq;refine Nb;go_ret;exact ql
theorem PU(w:World)(T M B room n:Nat)(L:List En)(x:Int)(s:ByteArray)(h:ed w T M B room n L)(hx0:0<=x)(hx1:x<=18446744073709551615)(e:En)(hf:dB L x=some e)(hd:e.done=true) :
  az 161 #[OV T,JU x,.string s] w λe w'=>e=aA (JI 23)/\aC w w':=by
 refine so;refine jP;have l1:(dW L x).getD (.agg #[.string ⟨#[]⟩,.bool false])=.agg #[.string e.ans,.bool true]:=by unfold dW;rw[hf,←hd];rfl
 refine LR;refine Lq;refine Nb;go_ret;exact ql
theorem TA(w:World)(T M B room n:Nat)(L:List En)(x:Int)(s:ByteArray)(h:ed w T M B room n L)(hx0:0<=x)(hx1:x<=18446744073709551615)(hn:n<=1000000)(e:En)(hf:dB L x=some e)(hd:e.done=false) :
  az 161 #[OV T,JU x,.string s] w λe w'=>e=aA (JI 0)/\ed w' T M B room (n+1) (pF L x s)/\aQ T B M w w':=by
 refine so;refine jP;have l1:(dW L x).getD (.agg #[.string ⟨#[]⟩,.bool false])=.agg #[.string e.ans,.bool false]:=by unfold dW;rw[hf,←hd];rfl
 refine LR;refine kt;have hMT:=CZ hM hT;refine Lq;go_wp2_with (first|(at_lookup;refine ex _ rfl (.tmp 15) (.tmp 16) 236 rfl 47 322 .u64 underlying47 underlying236 rI M n (dW L) rfl hM x rfl hxw _ _ H1.out H2.out ?_)|(at_mapUpdate;refine fe _ rfl (.tmp 29) (.tmp 30) (.tmp 32) 236 rfl 47 322 .u64 underlying47 underlying236 M n (dW L) rfl Oh lM x _ rfl rfl hxw ?_;intro w2 hM2 hg2))
 go_ret;refine⟨rfl,⟨⟨v,cj (ai hT) (hM.alloc _) hg2,?_⟩,hM2.congr (O1 HF.out s),bT,bM,KD⟩,((aQ.refl T B M w).alloc bw _).grownMap (hM.alloc _) hg2 bM xM⟩;rw[Px];exact j7 (hv.alloc _) (hM.alloc _) hg2
theorem end_t(w:World)(T M B room n:Nat)(L:List En)(x:Int)(s:ByteArray)(h:ed w T M B room n L)(hx0:0<=x)(hx1:x<=18446744073709551615)(hn:n<=1000000)(L':List En)(c:Int)(he:endF L x s=(L',c)) :
  az 161 #[OV T,JU x,.string s] w λe w'=>e=aA (JI c)/\ed w' T M B room (n+1) L'/\aQ T B M w w':=by
 unfold endF at he;split at he
 .rename_i q
  cases he;exact(PT w T M B room n L x s h hx0 hx1 q).mono λe w' ⟨h1,h2⟩=>⟨h1,(h.below h2).mono oM,.of h2 h.bw⟩
 .rename_i en q
  cases hd:en.done with
  |true=>
   rw[hd]at he;cases he;exact(PU w T M B room n L x s h hx0 hx1 en q hd).mono λe w' ⟨h1,h2⟩=>⟨h1,(h.below h2).mono oM,.of h2 h.bw⟩
  |false=>rw[hd]at he;cases he;exact TA w T M B room n L x s h hx0 hx1 hn en q hd
theorem AX(w:World)(T M B room n:Nat)(L:List En)(x:Int)(h:ed w T M B room n L)(hx0:0<=x)(hx1:x<=18446744073709551615)(hf:(dB L x).isSome=true) :
  az 111 #[OV T,JU x] w λe w'=>e=aA (JI 22)/\aC w w':=by
 obtain⟨en,hf⟩:=Option.isSome_iff_exists.1 hf;refine so;refine jP;have l1:(dW L x).getD (.agg #[.string ⟨#[]⟩,.bool false])=.agg #[.string en.ans,.bool en.done]:=Ae
 refine LR;have hxw:=pC hx0 hx1;refine Zl;go_ret;exact ql
theorem CF(w:World)(T M B room n:Nat)(L:List En)(x:Int)(h:ed w T M B room n L)(hx0:0<=x)(hx1:x<=18446744073709551615)(hn:n<=1000000)(hl:L.length<=5000)(hf:dB L x=none)(hr:L.length≠room) :
  az 111 #[OV T,JU x] w λe w'=>e=aA (JI 0)/\ed w' T M B room (n+1) (L++ [new x])/\aQ T B M w w':=by
 obtain⟨i29,hi,hz0,hz1,hz2⟩:=info_parts Ps;refine so;obtain⟨A,cap,rfl⟩:=hv.slice;have e1:=iN L;rw[e1]at hT hv;clear e1;refine Y8;have H1:=OH l1;clear l1;have H2:=OH l2;clear l2;refine kt;clear hf;have hMT:=CZ hM hT;have hxw:=pC hx0 hx1;have hr1:((L.length:Int)==(room:Int))=false:=beq_eq_false_iff_ne.2 oM;refine Zl;go_quiet (fail);go_upto_region 13 with(at_builtin;refine iW _ rfl (.tmp 61) (.tmp 63) 133 rfl B 47 i29 (JU 0) 8 underlying133 hi hz0 hz1 hz2 rfl (.slice A L.length cap) (ka L) rfl qx6 ⟨_,0,none⟩ 1 (JU x) rfl zt62 rfl KJ Kl nM ?_;intro v1 w1 hv1 hg1;obtain⟨⟨A1,cap1,rfl⟩,hT1,hM1,hMv,z1⟩:=oo (w:=w) (T:=T) (room:=room) (v:=(.slice A L.length cap)) (f:=(dW L)) (n:=n) (M:=M) qx7 qx6 Oh qx8 nM hv1 hg1;(try simp at z1);clear hg1 cT fT zT;obtain⟨cT,fT,zT⟩:=ab hT1;clear hT hM hv)
 go_wp2_with (at_mapUpdate;refine fe _ rfl (.tmp 70) (.tmp 71) (.tmp 72) 236 rfl 47 322 .u64 underlying47 underlying236 M n (dW L) rfl Oh lM x _ rfl rfl hxw ?_;intro w2 hM2 hg2)
 go_ret;refine⟨rfl,⟨⟨.slice A1 ((ka L).length+1) cap1,?_,?_⟩,hM2.congr (vZ HF.out),bT,bM,KD⟩,hMv.set bT 1 _ |>.grownMap (hM1.set hMT _) hg2 bM xM⟩
 .exact UL
 .exact VL
theorem CD(w:World)(T M B room n:Nat)(e:En)(r:List En)(x:Int)(h:ed w T M B room n (e::r))(hok:Ok (e::r) room)(hx0:0<=x)(hx1:x<=18446744073709551615)(hl:(e::r).length<=5000)(hf:dB (e::r) x=none)(hr:r.length+1=room)(hd:e.done=false) :
  az 111 #[OV T,JU x] w λe w'=>e=aA (JI 20)/\aC w w':=by
 refine zq80;have l3:(dW (e::r) e.id).getD (.agg #[.string ⟨#[]⟩,.bool false])=.agg #[.string e.ans,.bool false]:=by unfold dW;rw[hfe,←hd];rfl
 refine sB;have H3:=OH l3;refine kt;refine Xr;refine Nf;go_wp2_with (at_lookup;refine iV _ rfl (.tmp 39) (.tmp 40) 236 rfl 47 322 .u64 underlying47 underlying236 rI M n (dW (e::r)) rfl Oh e.id rfl hex _ H3.out ?_)
 go_ret;exact⟨rfl,by first|(go_grown;done)|exact bF gM _⟩
theorem CE(w:World)(T M B room n:Nat)(e:En)(r:List En)(x:Int)(h:ed w T M B room n (e::r))(hok:Ok (e::r) room)(hx0:0<=x)(hx1:x<=18446744073709551615)(hn:n<=1000000)(hl:(e::r).length<=5000)(hf:dB (e::r) x=none)(hr:r.length+1=room)(hd:e.done=true) :
  az 111 #[OV T,JU x] w λe w'=>e=aA (JI 0)/\ed w' T M B room (n+1) (r++ [new x])/\aQ T B M w w':=by
 obtain⟨i29,hi,hz0,hz1,hz2⟩:=info_parts Ps;refine zq80;have l3:(dW (e::r) e.id).getD (.agg #[.string ⟨#[]⟩,.bool false])=.agg #[.string e.ans,.bool true]:=by unfold dW;rw[hfe,←hd];rfl
 refine sB;have H3:=OH l3;have HF:=OH (vJ hf);have HN:=OH hok.nd;have hMT:=CZ hM hT;refine Xr;by_cases hc1:cap=1
 .subst hc1
  have hr0:r.length=0:=oM;have HR0:=OH hr0;refine Nf;go_upto_region 11 with(first|(at_lookup;refine iV _ rfl (.tmp 39) (.tmp 40) 236 rfl 47 322 .u64 underlying47 underlying236 rI M n (dW (e::r)) rfl Oh e.id rfl hex _ H3.out ?_)|(at_delete;refine jr _ rfl (.tmp 47) (.tmp 48) 236 47 rfl 322 .u64 underlying47 underlying236 M n (dW (e::r)) rfl Oh e.id rfl hex ?_;intro w3 hM3 hg3;obtain⟨hT3,hv3,hMv3,z3⟩:=wA (w:=w) (T:=T) (c:=#[JI ((r.length+1:Nat):Int),.slice (some ⟨g,off,none⟩) (r.length+1) 1,.map (some M)]) (v:=.slice (some ⟨g,off,none⟩) (r.length+1) 1) qx7 qx6 Oh qx8 nM bM hg3;(try simp at z3);have hM4:aP w3 prog 47 .u64 M n (dW r):=hM3.congr (vY HN.out);obtain⟨cT,fT,zT⟩:=ab hT3))
  refine oI;have hT5:(w3.setCell ⟨T,1,none⟩ (.slice (some ⟨g,off,none⟩) 0 0)).heap[T]?=OC #[JI ((r.length+1:Nat):Int),(.slice (some ⟨g,off,none⟩) 0 0),.map (some M)] 238:=av 1 _ hT3;have hv5:cE (w3.setCell ⟨T,1,none⟩ (.slice (some ⟨g,off,none⟩) 0 0)) B 47 (.slice (some ⟨g,off,none⟩) 0 0) (ka r):=mF hT3 dM (by have h9:=kH (xs:=ka r) (x:=JU e.id) hv3 (off) (.inl ⟨rfl,rfl⟩);rw[iN,HR0.out]at h9;exact h9);have hM5:aP (w3.setCell ⟨T,1,none⟩ (.slice (some ⟨g,off,none⟩) 0 0)) prog 47 .u64 M n (dW r):=hM4.set hMT _;have hMv5:aQ T B M w (w3.setCell ⟨T,1,none⟩ (.slice (some ⟨g,off,none⟩) 0 0)):=hMv3.set bT 1 _;obtain⟨cT,fT,zT⟩:=ab hT5;have z5:B<=(w3.setCell ⟨T,1,none⟩ (.slice (some ⟨g,off,none⟩) 0 0)).heap.size:=by rw[ic];omega
  go_upto_region 13 with(at_builtin;refine iW _ rfl (.tmp 61) (.tmp 63) 133 rfl B 47 i29 (JU 0) 8 underlying133 hi hz0 hz1 hz2 rfl (.slice (some ⟨g,off,none⟩) 0 0) (ka r) rfl qx6 ⟨_,0,none⟩ 1 (JU x) rfl zt62 rfl KJ Kl nM ?_;intro v1 w1 hv1 hg1;obtain⟨⟨A1,cap1,rfl⟩,hT1,hM1,hMv,z1⟩:=oo (w:=w) (T:=T) (room:=((r.length+1:Nat):Int)) (v:=(.slice (some ⟨g,off,none⟩) 0 0)) (f:=dW r) (n:=n) (M:=M) (ai hT5) (hv5.alloc _) (hM5.alloc _) (hMv5.alloc z5 _) oC hv1 hg1;(try simp at z1);obtain⟨cT,fT,zT⟩:=ab hT1)
  refine YZ;go_ret;exact ZS
 .have hc2:1<cap:=oM
  refine Nf;go_upto_region 11 with(first|(at_lookup;refine iV _ rfl (.tmp 39) (.tmp 40) 236 rfl 47 322 .u64 underlying47 underlying236 rI M n (dW (e::r)) rfl Oh e.id rfl hex _ H3.out ?_)|(at_delete;refine jr _ rfl (.tmp 47) (.tmp 48) 236 47 rfl 322 .u64 underlying47 underlying236 M n (dW (e::r)) rfl Oh e.id rfl hex ?_;intro w3 hM3 hg3;obtain⟨hT3,hv3,hMv3,z3⟩:=wA (w:=w) (T:=T) (c:=#[JI ((r.length+1:Nat):Int),.slice (some ⟨g,off,none⟩) (r.length+1) cap,.map (some M)]) (v:=.slice (some ⟨g,off,none⟩) (r.length+1) cap) qx7 qx6 Oh qx8 nM bM hg3;(try simp at z3);have hM4:aP w3 prog 47 .u64 M n (dW r):=hM3.congr (vY HN.out);obtain⟨cT,fT,zT⟩:=ab hT3))
  refine oI;have hT5:(w3.setCell ⟨T,1,none⟩ (.slice (some ⟨g,off+1,none⟩) r.length (cap-1))).heap[T]?=OC #[JI ((r.length+1:Nat):Int),(.slice (some ⟨g,off+1,none⟩) r.length (cap-1)),.map (some M)] 238:=av 1 _ hT3;have hv5:cE (w3.setCell ⟨T,1,none⟩ (.slice (some ⟨g,off+1,none⟩) r.length (cap-1))) B 47 (.slice (some ⟨g,off+1,none⟩) r.length (cap-1)) (ka r):=mF hT3 dM (by have h9:=kH (xs:=ka r) (x:=JU e.id) hv3 (off+1) (.inr ⟨hc1,rfl⟩);rw[iN]at h9;exact h9);have hM5:aP (w3.setCell ⟨T,1,none⟩ (.slice (some ⟨g,off+1,none⟩) r.length (cap-1))) prog 47 .u64 M n (dW r):=hM4.set hMT _;have hMv5:aQ T B M w (w3.setCell ⟨T,1,none⟩ (.slice (some ⟨g,off+1,none⟩) r.length (cap-1))):=hMv3.set bT 1 _;obtain⟨cT,fT,zT⟩:=ab hT5;have z5:B<=(w3.setCell ⟨T,1,none⟩ (.slice (some ⟨g,off+1,none⟩) r.length (cap-1))).heap.size:=by rw[ic];omega
  go_upto_region 13 with(at_builtin;refine iW _ rfl (.tmp 61) (.tmp 63) 133 rfl B 47 i29 (JU 0) 8 underlying133 hi hz0 hz1 hz2 rfl (.slice (some ⟨g,off+1,none⟩) r.length (cap-1)) (ka r) rfl qx6 ⟨_,0,none⟩ 1 (JU x) rfl zt62 rfl KJ Kl nM ?_;intro v1 w1 hv1 hg1;obtain⟨⟨A1,cap1,rfl⟩,hT1,hM1,hMv,z1⟩:=oo (w:=w) (T:=T) (room:=((r.length+1:Nat):Int)) (v:=(.slice (some ⟨g,off+1,none⟩) r.length (cap-1))) (f:=dW r) (n:=n) (M:=M) (ai hT5) (hv5.alloc _) (hM5.alloc _) (hMv5.alloc z5 _) oC hv1 hg1;(try simp at z1);obtain⟨cT,fT,zT⟩:=ab hT1)
  refine YZ;go_ret;exact ZS
theorem start_t(w:World)(T M B room n:Nat)(L:List En)(x:Int)(h:ed w T M B room n L)(hok:Ok L room)(hx0:0<=x)(hx1:x<=18446744073709551615)(hn:n<=1000000)(hr0:1<=room)(hr1:room<=4096)(L':List En)(c:Int)(he:wQ L room x=(L',c)) :
  az 111 #[OV T,JU x] w λe w'=>e=aA (JI c)/\ed w' T M B room (n+1) L'/\aQ T B M w w':=by
 have hle:=hok.le;unfold wQ at he;by_cases hs:(dB L x).isSome=true
 .rw[if_pos hs]at he
  cases he;exact(AX w T M B room n L x h hx0 hx1 hs).mono λe w' ⟨h1,h2⟩=>⟨h1,(h.below h2).mono oM,.of h2 h.bw⟩
 .rw[if_neg hs]at he
  have hf:dB L x=none:=Vv
  by_cases hr:L.length=room
  .rw[if_pos hr]at he
   match L,h,hok,hle,hf,hr,he with
   | [],_,_,_,_,hr,_=>
    simp at hr;omega
   |e::r,h,hok,hle,hf,hr,he=>
    have hr':r.length+1=room:=by simpa using hr
    cases hd:e.done with
    |false=>
     simp only[hd]at he;cases he;exact(CD w T M B room n e r x h hok hx0 hx1 oM hf hr' hd).mono λe w' ⟨h1,h2⟩=>⟨h1,(h.below h2).mono oM,.of h2 h.bw⟩
    |true=>simp only[hd]at he;cases he;exact CE w T M B room n e r x h hok hx0 hx1 hn oM hf hr' hd
  .rw[if_neg hr]at he
   cases he;exact CF w T M B room n L x h hx0 hx1 hn oM hf hr
end Dd
structure Sl where
 x:Value
 turn:Int
 used:Bool
def RO(z:Value):Sl:=⟨z,0,false⟩
instance:Inhabited Sl:=⟨RO (JI 0)⟩
def eo:List Sl->List Value
 | []=> []
 |s::l=>s.x::JT s.turn:: .bool s.used::eo l
theorem uB(l:List Sl):(eo l).length=l.length*3:=by
 induction l with
 |nil=>
  rfl
 |cons s l ih=>simp[eo,ih];omega
theorem tX(l:List Sl)(i:Nat)(hi:i<l.length) :
  (eo l)[i*3]?=some l[i].x/\(eo l)[i*3+1]?=some (JT l[i].turn)/\(eo l)[i*3+2]?=some (.bool l[i].used):=by
 induction l generalizing i with
 |nil=>
  simp at hi
 |cons s l ih=>exact Yq
theorem tW(l:List Sl)(i:Nat)(hi:i<l.length)(s:Sl) :
  ((((eo l).set (i*3+1) (JT s.turn)).set (i*3) s.x).set (i*3+2) (.bool s.used))=eo (l.set i s):=by
 induction l generalizing i with
 |nil=>
  simp at hi
 |cons a l ih=>exact Yq
theorem BU(l:List Sl)(i:Nat)(hi:i<l.length)(x:Value)(u:Bool) :
  (((eo l).set (i*3) x).set (i*3+2) (.bool u))=eo (l.set i ⟨x,l[i].turn,u⟩):=by
 rw[←tW l i hi]
 congr 2
 apply List.ext_getElem?;intro j;rw[List.getElem?_set];split
 .rename_i h
  subst h;split
  .exact(tX l i hi).2.1
  .rename_i h2
   rw[uB]at h2;omega
 .rfl
theorem ir{l:List Sl}(hL:w.heap[L]?=OC (eo l).toArray t)(hi:i<l.length) :
  w.cell? ⟨L,i*3,none⟩=some l[i].x/\w.cell? ⟨L,i*3+1,none⟩=some (JT l[i].turn)/\w.cell? ⟨L,i*3+2,none⟩=some (.bool l[i].used):=by
 obtain⟨h1,h2,h3⟩:=tX l i hi;refine⟨?_,?_,?_⟩<;>rw[(ab hL).1]<;>simpa
theorem C3(a b c:Value)(n:Nat):madeCells #[a,b,c] (n*3)=((Xa0 n [a,b,c]).flatten).toArray:=by
 refine L3;induction n with
 |zero=>
  rfl
 |succ n ih=>rw[show(n+1)*3=n*3+3 by omega,List.range_add,Xa6,ih,List.replicate_succ',List.flatten_append];simp[List.range_succ,Nat.add_mod,Xb3]
theorem C1(z:Value)(n:Nat):madeCells #[z,JT 0,.bool false] (n*3)=(eo (Xa0 n (RO z))).toArray:=by
 rw[C3]
 congr 1
 induction n with
 |zero=>
  rfl
 |succ n ih=>simp[List.replicate_succ,eo,ih,RO]
structure At(w:World)(P L:Nat)(tP tL:TypeId)(l:List Sl)(live:Int):Prop where
 p:w.heap[P]?=OC #[.slice (aT L) l.length l.length,JI live] tP
 l:w.heap[L]?=OC (eo l).toArray tL
 ne:P≠L
structure da(P L:Nat)(w w':World):Prop where
 os:w'.os=w.os
 tape:w'.tape=w.tape
 output:w'.output=w.output
 size:w.heap.size<=w'.heap.size
 block:∀j,j<w.heap.size->j≠P->j≠L->w'.heap[j]?=w.heap[j]?
theorem da.refl(P L:Nat)(w:World):da P L w w:=⟨rfl,rfl,rfl,Xb4 _,λ_ _ _ _=>rfl⟩
theorem da.of(h:aC w w'):da P L w w':=⟨h.os,h.tape,h.output,h.size,λj hj _ _=>h.block j hj⟩
theorem da.trans{c:World}(h:da P L a b)(k:da P L b c):da P L a c:=
 ⟨k.os.trans h.os,k.tape.trans h.tape,k.output.trans h.output,Xa9 h.size k.size,λj hj h1 h2=>(k.block j J5 h1 h2).trans (h.block j hj h1 h2)⟩
theorem da.alloc(h:da P L a w)(o:Obj):da P L a (w.alloc o):=h.trans (.of wH)
theorem da.drewN(h:da P L a w)(n:Nat):da P L a (w.drewN n):=⟨h.os,h.tape,h.output,h.size,h.block⟩
theorem da.drew(h:da P L a w):da P L a w.drew:=⟨h.os,h.tape,h.output,h.size,h.block⟩
theorem da.set(h:da P L a w)(p:Addr)(hp:p.block=P\/p.block=L\/a.heap.size<=p.block)(v:Value):da P L a (w.setCell p v):=
 ⟨h.os,h.tape,h.output,QR,λj hj h1 h2=>(eA w p v j (by rcases hp with q|q|q<;>omega)).trans (h.block j hj h1 h2)⟩
theorem Cy(hp:p.block=P\/p.block=L\/a.heap.size<=p.block)(h:da P L a w):da P L a (w.setCell p v):=h.set p hp v
theorem da.call(h:da P L a w)(hb:aC w w'):da P L a w':=h.trans (.of hb)
theorem At.below{l:List Sl}(h:At w P L tP tL l live)(hb:aC w w'):At w' P L tP tL l live:=
 ⟨(hb.block P (aB h.p)).trans h.p,(hb.block L (aB h.l)).trans h.l,h.ne⟩
theorem At.alloc{l:List Sl}(h:At w P L tP tL l live)(o:Obj):At (w.alloc o) P L tP tL l live:=⟨ai h.p,ai h.l,h.ne⟩
theorem At.drewN{l:List Sl}(h:At w P L tP tL l live)(n:Nat):At (w.drewN n) P L tP tL l live:=⟨h.p,h.l,h.ne⟩
theorem At.set{l:List Sl}(h:At w P L tP tL l live)(h1:P≠p.block)(h2:L≠p.block)(v:Value):At (w.setCell p v) P L tP tL l live:=⟨aN h1 h.p,aN h2 h.l,h.ne⟩
def o9(l:List Sl)(sl tn:Int):Option Nat:=if h:0<=sl/\sl.toNat<l.length then(if l[sl.toNat].used=true/\l[sl.toNat].turn=tn then some sl.toNat else none) else none
theorem kY{l:List Sl}(h:o9 l sl tn=some i):sl=i/\∃hi:i<l.length,l[i].used=true/\l[i].turn=tn:=by
 unfold o9 at h;split at h
 .rename_i hc
  split at h
  .rename_i hd
   cases h;exact⟨oM,hc.2,hd⟩
  .cases h
 .cases h
theorem Qu{l:List Sl}(h:o9 l sl tn=none):sl<0\/(l.length:Int)<=sl\/∃i:Nat,sl=i/\∃hi:i<l.length,l[i].used=false\/(l[i].used=true/\l[i].turn≠tn):=by
 unfold o9 at h;by_cases h1:sl<0
 .exact .inl h1
 by_cases h2:(l.length:Int)<=sl
 .exact .inr (.inl h2)
 right;right
 rw[dif_pos ⟨oM,oM⟩]at h;split at h
 .cases h
 .rename_i hc
  refine⟨sl.toNat,oM,oM,?_⟩;cases hu:l[sl.toNat].used with
  |false=>
   exact jm
  |true=>exact .inr ⟨rfl,λq=>hc ⟨hu,q⟩⟩
theorem O3(t e:TypeId)(i:TypeInfo)(z:Value)(a b c:Value)(bytes n:Nat)(ht:prog.underlying t=some (.slice e))(hi:prog.info? e=some i)(hz:i.zero=some z)(hs:i.size=3)(hb:i.bytes=bytes)(hc:z.cells=#[a,JT 0,.bool false])(hn:bytes*n<=281474976710656)(h63:n<=9223372036854775807)(w:World) :
  (Instr.makeSlice t (JI (n:Int)) (JI (n:Int))).run prog w=.ok (.slice (aT w.heap.size) n n) (w.alloc (.cells (eo (Xa0 n (RO a))).toArray e)):=by
 have hr:=run_make (P:=prog) w t e i z ht hi hz .i64 .i64 n n oM oM (by rw[hb];omega) oM;rw[hs,hc,Int.toNat_natCast,C1]at hr;exact hr
theorem NS{l:List Sl}{sx x:Value}{st st':Int}{su:Bool}(hk:k<l.length)(hs:l[k]=⟨sx,st,su⟩)(h:w.heap[L]?=OC ((((eo l).toArray.setIfInBounds (k*3+1) (JT st')).setIfInBounds (k*3) x).setIfInBounds (k*3+2) (.bool true)) ty) :
  w.heap[L]?=OC (eo (l.set k ⟨x,st',true⟩)).toArray ty:=by
 rw[h,PI,PI,PI,←tW l k hk ⟨x,st',true⟩]
theorem NT{l:List Sl}{x:Value}(hk:k<l.length)(h:w.heap[L]?=OC (((eo l).toArray.setIfInBounds (k*3) x).setIfInBounds (k*3+2) (.bool false)) ty) :
  w.heap[L]?=OC (eo (l.set k ⟨x,l[k].turn,false⟩)).toArray ty:=by
 rw[h,PI,PI,←BU l k hk x false]
theorem wf_get{l:List Sl}(h:∀s∈l,0<=s.turn/\s.turn<=1000000)(hi:i<l.length):0<=l[i].turn/\l[i].turn<=1000000:=h _ sM
theorem info_d:(prog.info? 352).map (λi=>(i.zero,i.size,i.bytes))=some (some (.agg #[.pointer none,JT 0,.bool false]),3,16):=kM
theorem new_d(m:Int)(n:Nat)(hm:m=n)(w:World)(h0:1<=n)(h1:n<=64) :
  az 18 #[JI m] w λe w'=>∃P L,e=aA (OV P)/\At w' P L 124 352 (Xa0 n (RO (.pointer none))) 0/\w.heap.size<=P/\w.heap.size<=L/\aC w w':=by
 subst hm;obtain⟨i0,hi,hz0,hz1,hz2⟩:=info_parts info_d;have hmk:=O3 122 352 i0 _ (.pointer none) undef undef 16 n underlying122 hi hz0 hz1 hz2 rfl oM oM;have e1:(Xa0 n (RO (.pointer none))).length=n:=sM;go_enter func18,ntmps18;refine bj;refine⟨w.heap.size+1,w.heap.size,J3,⟨?_,?_,oM⟩,oM,oM,gM⟩
 .rw[e1]
  exact qx9
 .exact qx9
theorem take_d(w:World)(P L:Nat)(l:List Sl)(live:Int)(x:Option Addr)(hA:At w P L 124 352 l live)(hl:l.length<=64)(ht:∀s∈l,0<=s.turn/\s.turn<=1000000)(hv0: -1000<=live)(hv1:live<=1000)(i:Nat)(hi:i<l.length)(hfree:l[i].used=false)(hlow:∀j,j<i->∀h:j<l.length,l[j].used=true) :
  az 155 #[OV P,.pointer x] w λe w'=>e=aA (.tuple #[.agg #[JI i,JT (l[i].turn+1)],JI 0])/\At w' P L 124 352 (l.set i ⟨.pointer x,l[i].turn+1,true⟩) (live+1)/\da P L w w':=by
 have HLOW:=OH hlow;clear hlow;have HT:=OH ht;clear ht;refine Xy;go_loop [16] (λj=>∃k:Nat,k<=i/\j=JI k) (λj=>l.length- (intOf j).toNat);case atStart=>exact⟨0,oM,rfl⟩
 case round=>
  obtain⟨k,hk,rfl⟩:=hrel;have hkl:k<l.length:=oM;obtain⟨d0,d1,d2⟩:=ir hL hkl;obtain⟨t0,t1⟩:=wf_get HT.out hkl;by_cases hlt:k<i
  .have hu:=HLOW.out k hlt hkl
   rw[hu]at d2;exact Mn
  .have hki:k=i:=oM
   subst hki;rw[hfree]at d2;generalize hs:l[k]=s at *;obtain⟨sx,st,su⟩:=s;dsimp only at *;refine jM;clear hs;refine kv;refine bQ rfl rfl underlying66 rfl rfl ⟨_,_,Sn,kM,?_,⟨?_,?_,hne⟩,qx11⟩
   .rw[HS.out]
    rfl
   .rw[Xa7]
    exact qx9
   .rw[HS.out]
    exact NS hkl HS.out Sn
theorem AT(w:World)(P L:Nat)(l:List Sl)(live:Int)(x:Option Addr)(hA:At w P L 124 352 l live)(hl:l.length<=64)(hall:∀j,∀h:j<l.length,l[j].used=true) :
  az 155 #[OV P,.pointer x] w λe w'=>e=aA (.tuple #[.agg #[JI 0,JT 0],JI 20])/\aC w w':=by
 have HALL:=OH hall;clear hall;refine Xy;go_loop [16] (λj=>∃k:Nat,k<=l.length/\j=JI k) (λj=>l.length- (intOf j).toNat);case atStart=>exact⟨0,oM,rfl⟩
 case round=>
  obtain⟨k,hk,rfl⟩:=hrel;refine rO
  .have hu:=HALL.out k hlt
   obtain⟨d0,d1,d2⟩:=ir hL hlt;rw[hu]at d2;exact Mn
  .refine kv
   exact bQ rfl rfl underlying66 rfl rfl ⟨_,_,Sn,kM,rfl,gM⟩
theorem live_d(w:World)(P L:Nat)(l:List Sl)(live:Int)(hA:At w P L 124 352 l live) :
  az 33 #[OV P] w λe w'=>e=aA (JI live)/\w=w':=by
 obtain⟨hP,hL,hne⟩:=hA;refine zu;go_enter func33,ntmps33;exact ga
theorem JR(w:World)(P L:Nat)(l:List Sl)(live sl tn:Int)(i:Nat)(hA:At w P L 124 352 l live)(hl:l.length<=64)(h:o9 l sl tn=some i) :
  az 168 #[OV P,.agg #[JI sl,JT tn]] w λe w'=>e=aA (.tuple #[.pointer (some ⟨L,i*3,none⟩),JI 0])/\aC w w':=by
 obtain⟨rfl,hi,hu,ht⟩:=kY h;have HA:=OH h;obtain⟨hP,hL,hne⟩:=hA;refine zu;obtain⟨d0,d1,d2⟩:=ir hL hi;refine ES;have CL:=OH cL;rw[hu]at d2;rw[ht]at d1;have hU:=OH hu;have hT:=OH ht;refine YC;exact Ng
theorem JV(w:World)(P L:Nat)(l:List Sl)(live sl tn:Int)(hA:At w P L 124 352 l live)(hl:l.length<=64)(h:o9 l sl tn=none) :
  az 168 #[OV P,.agg #[JI sl,JT tn]] w λe w'=>e=aA (.tuple #[.pointer none,JI 26])/\aC w w':=by
 have hw:=Qu h;have HA:=OH h;clear h;obtain⟨hP,hL,hne⟩:=hA;refine MU;clear cL;rcases hw with hn|hn|⟨i,rfl,hi,hn⟩
 .have b0:decide (sl<0)=true:=by simpa using hn
  exact YI
 .have b0:decide (sl<0)=false:=xM
  have b3:decide ((l.length:Int)<=sl)=true:=by simpa using hn
  exact YI
 .obtain⟨d0,d1,d2⟩:=ir hL hi
  refine YC;rcases hn with hn|⟨hn,hm⟩
  .rw[hn]at d2
   have hU:=OH hn;clear hn;exact Ng
  .rw[hn]at d2
   have hU:=OH hn;clear hn;have b4:(l[i].turn==tn)=false:=beq_eq_false_iff_ne.2 hm;generalize l[i].turn=tu at *;exact Ng
theorem Dv(w:World)(P L:Nat)(l:List Sl)(live sl tn:Int)(x:Option Addr)(i:Nat)(hA:At w P L 124 352 l live)(hl:l.length<=64)(h:o9 l sl tn=some i)(hx:∀hi:i<l.length,l[i].x=.pointer x) :
  az 139 #[OV P,.agg #[JI sl,JT tn]] w λe w'=>e=aA (.tuple #[.pointer x,JI 0])/\aC w w':=by
 have HA:=OH h;refine nG;have AA:=OH hA;go_enter func139,ntmps139;refine Yn;have hi:=(kY HA.out).2.1;obtain⟨d0,_,_⟩:=ir hA1.l hi;rw[HX.out hi]at d0;have zL:=aB hA1.l;have A1:=OH hA1;have HB:=hb;refine df;exact V8
theorem BL(w:World)(P L:Nat)(l:List Sl)(live sl tn:Int)(hA:At w P L 124 352 l live)(hl:l.length<=64)(h:o9 l sl tn=none) :
  az 117 #[OV P,.agg #[JI sl,JT tn]] w λe w'=>e=aA (JI 26)/\aC w w':=by
 have HA:=OH h;have AA:=OH hA;go_enter func117,ntmps117;refine ay;refine(JV _ P L l live sl tn (AA.out.alloc _) hl HA.out).mono ?_;refine jp;refine bj;exact V8
theorem BK(w:World)(P L:Nat)(l:List Sl)(live sl tn:Int)(i:Nat)(hA:At w P L 124 352 l live)(hl:l.length<=64)(hv0: -1000<=live)(hv1:live<=1000)(h:o9 l sl tn=some i) :
  az 117 #[OV P,.agg #[JI sl,JT tn]] w λe w'=>e=aA (JI 0)/\At w' P L 124 352 (l.set i ⟨.pointer none,tn,false⟩) (live-1)/\da P L w w':=by
 have HA:=OH h;have AA:=OH hA;go_enter func117,ntmps117;refine Yn;have ht1:da P L w w1:=((da.refl P L w).alloc _).trans (.of hb);obtain⟨rfl,hi,hu,ht⟩:=kY HA.out;obtain⟨d0,d1,d2⟩:=ir hA1.l hi;have hP:=hA1.p;have hL:=hA1.l;have hne:=hA1.ne;have hne':L≠P:=λh=>hne h.symm
 refine MU;have A1:=OH hA1;have HU:=OH hu;have HT:=OH ht;refine bj;refine⟨rfl,⟨?_,?_,hne⟩,?_⟩
 .rw[Xa7]
  exact qx9
 .rw[←HT.out]
  exact NT hi Sn
 .exact qx11
def eQ(a b:Int):Int:=if 32768<=(b-a) % 65536 then(b-a) % 65536-65536 else(b-a) % 65536
theorem mP(a b:Int): -32768<=eQ a b/\eQ a b<=32767:=zk
theorem Jv(a b:Int):(a+eQ a b) % 65536=b % 65536:=zk
theorem DI(a b:Int):eQ (a % 65536) b=eQ a b:=by unfold eQ;split<;>split<;>omega
theorem Ju(a b d:Int)(h0: -32768<=d)(h1:d<=32767)(hb:(b-a-d) % 65536=0):eQ a b=d:=zk
def bC(l x:Int):Int:=l+eQ l x
theorem pN(l x:Int):l-32768<=bC l x/\bC l x<=l+32767:=by have:=mP l x;unfold bC;omega
theorem CX(l x:Int):bC l x % 65536=x % 65536:=Jv l x
theorem vX(l y x:Int)(h0: -32768<=y-l)(h1:y-l<=32767)(hx:(x-y) % 65536=0):bC l x=y:=by unfold bC;rw[Ju l x (y-l) h0 h1 oM];omega
def lZ(a b:Int):Int:=if 2147483648<=(b-a) % 4294967296 then(b-a) % 4294967296-4294967296 else(b-a) % 4294967296
theorem PQ(a b:Int): -2147483648<=lZ a b/\lZ a b<=2147483647:=by unfold lZ;split<;>omega
namespace Rv
structure Tr where
 on:Bool
 base:Int
 high:Int
 got:Int
 seen:Nat
deriving DecidableEq
def sO(s d:Nat):Nat:=(s <<< d) % 2 ^ 64|||1
def orN(s b:Nat):Nat:=s|||2 ^ b
theorem RQ(s d:Nat):sO s d<2 ^ 64:=Xb1 (Xb9 _ dM) dM
theorem orN_lt(s b:Nat)(h:s<2 ^ 64)(hb:b<64):orN s b<2 ^ 64:=Xb1 h (Xb5 dM hb)
theorem qJ(i:Nat):Nat.testBit 1 i=decide (i=0):=by have:=Xb6 (n:=0) (m:=i);simpa[eq_comm]using this
theorem NQ(s d i:Nat):(sO s d).testBit i=(decide (i=0)||(decide (i<64)&&decide (d<=i)&&s.testBit (i-d))):=by unfold sO;rw[Xb8,Nat.testBit_mod_two_pow,Nat.testBit_shiftLeft,qJ];cases decide (i=0)<;>simp[Bool.and_assoc]
theorem SF(s b i:Nat):(orN s b).testBit i=(s.testBit i||decide (b=i)):=by unfold orN;rw[Xb8,Xb6]
def eG(t:Tr)(x:Int):Tr×Int×Int:=
 if t.on then
  if t.high<bC t.high x then(⟨true,t.base,bC t.high x,t.got+1,sO t.seen (bC t.high x-t.high).toNat⟩,bC t.high x,0)
  else if 64<=t.high-bC t.high x then(t,bC t.high x,3)
  else if t.seen.testBit (t.high-bC t.high x).toNat then(t,bC t.high x,2)
  else(⟨true,min t.base (bC t.high x),t.high,t.got+1,orN t.seen (t.high-bC t.high x).toNat⟩,bC t.high x,1)
 else(⟨true,x,x,1,1⟩,x,0)
structure Tr.Small(t:Tr)(B:Int):Prop where
 h0: -B<=t.high
 h1:t.high<=B
 b0: -B<=t.base
 b1:t.base<=B
 g0:0<=t.got
 g1:t.got<=B
 s1:t.seen<2 ^ 64
theorem takeF_small{t:Tr}{B:Int}(h:t.Small B)(x0:0<=x)(x1:x<65536)(hB:0<=B):(eG t x).1.Small (B+65536):=by
 obtain⟨a1,a2,a3,a4,a5,a6,a7⟩:=h;have hn:=pN t.high x;unfold eG;split
 .split
  .exact⟨mc,mc,mc,mc,mc,mc,RQ _ _⟩
  .split
   .exact WB
   .split
    .exact WB
    .exact⟨mc,mc,mc,mc,mc,mc,orN_lt _ _ a7 oM⟩
 .exact⟨mc,mc,mc,mc,mc,mc,by dsimp;decide⟩
end Rv
namespace Rv
theorem Gu(x:Int):Xc0.wrap x=x % 2 ^ 64:=by simp[Xc2,Xc3,Xc1]
theorem rr(a:Nat):(BitVec.ofInt 64 (a:Int)).toNat=a % 2 ^ 64:=by rw[BitVec.toNat_ofInt];omega
theorem lp(a:Nat)(ha:a<2 ^ 64):Xc0.wrap (a:Int)=a:=by rw[Gu];omega
theorem yo(a b:Nat)(ha:a<2 ^ 64)(hb:b<2 ^ 64):bits .and .u64 (a:Int) (b:Int)=((a&&&b:Nat):Int):=by show Xc0.wrap ((BitVec.ofInt 64 (a:Int)&&&BitVec.ofInt 64 (b:Int)).toNat:Int)=_;rw[BitVec.toNat_and,rr,rr,Xb0 ha,Xb0 hb];exact lp _ (Xb7 Nat.and_le_left ha)
theorem qN(a b:Nat)(ha:a<2 ^ 64)(hb:b<2 ^ 64):bits .or .u64 (a:Int) (b:Int)=((a|||b:Nat):Int):=by show Xc0.wrap ((BitVec.ofInt 64 (a:Int)|||BitVec.ofInt 64 (b:Int)).toNat:Int)=_;rw[BitVec.toNat_or,rr,rr,Xb0 ha,Xb0 hb];exact lp _ (Xb1 (n:=64) ha hb)
theorem mB(n:Nat):((2:Int) ^ n)=((2 ^ n:Nat):Int):=sM
theorem JO(s n:Nat)(hs:s<2 ^ 64):(bits .and .u64 ((s:Int) / 2 ^ n) 1==1)=s.testBit n:=by
 have e:((s:Int) / 2 ^ n)=((s / 2 ^ n:Nat):Int):=by rw[mB];simp
 have hlt:s / 2 ^ n<2 ^ 64:=Xb7 (Nat.div_le_self _ _) hs;have:=yo (s / 2 ^ n) 1 hlt dM;rw[show((1:Nat):Int)=1 from rfl]at this;rw[e,this,Nat.and_one_is_mod,Nat.testBit_eq_decide_div_mod_eq];rw[Bool.eq_iff_iff];simp;omega
theorem ww(s d:Nat)(hs:s<2 ^ 64)(hd:1<=d):bits .or .u64 (Xc0.wrap ((s:Int)*2 ^ d)) 1=(sO s d:Int):=by
 have e:Xc0.wrap ((s:Int)*2 ^ d)=((s*2 ^ d % 2 ^ 64:Nat):Int):=by rw[Gu,mB,←Int.natCast_mul,show((2:Int) ^ 64)=((2 ^ 64:Nat):Int) by simp,←Int.natCast_emod]
 have:=qN (s*2 ^ d % 2 ^ 64) 1 (Xb9 _ dM) dM;rw[show((1:Nat):Int)=1 from rfl]at this;rw[e,this];unfold sO;rw[Xb2]
theorem uD(s d:Nat)(hs:s<2 ^ 64)(hd:64<=d):bits .or .u64 (Xc0.wrap ((s:Int)*2 ^ 64)) 1=(sO s d:Int):=by
 rw[ww s 64 hs oM];unfold sO;rw[Xb2,Xb2];have h1:s*2 ^ 64 % 2 ^ 64=0:=Xb3 _ _;have h2:s*2 ^ d % 2 ^ 64=0:=by
  obtain⟨k,rfl⟩:∃k,d=64+k:=⟨d-64,oM⟩
  rw[Nat.pow_add,Nat.mul_comm (2 ^ 64),←Nat.mul_assoc];exact Xb3 _ _
 rw[h1,h2]
theorem TV(s n:Nat)(hs:s<2 ^ 64)(hn:n<64):bits .or .u64 (s:Int) (Xc0.wrap (2 ^ n))=(orN s n:Int):=by have hp:2 ^ n<2 ^ 64:=Xb5 dM hn;rw[mB,lp _ hp,qN _ _ hs hp];rfl
end Rv
end Go.Proofs.YtnpancjkjheffaaGreat
