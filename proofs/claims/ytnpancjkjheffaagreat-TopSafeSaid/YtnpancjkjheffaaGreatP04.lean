/- Part 6 of the proof of TopSafe. No condition. -/
import Derived.Test.YtnpancjkjheffaaGreatP03
namespace Go.Proofs.YtnpancjkjheffaaGreat
set_option linter.unusedVariables false
set_option linter.unusedSimpArgs false
set_option maxRecDepth 100000
set_option maxHeartbeats 8000000
open Go.RowKit
open Go.Proofs.Tryz
open _root_.List renaming getElem?_eq_getElem->PI,getElem?_cons_zero->Xa0,getElem?_cons_succ->Xa1,getD_eq_getElem?_getD->Xa2,any_eq_true->Xa3,range->Xa4,take_length->Xa5,getElem_mem->Xa6,getElem_cons_zero->Xa7,getElem?_eq_none->Xa8,takeWhile_cons->Xa9,take_add_one->Xb0,any_eq_false->Xb1,length_cons->Xb2,filter_cons->Xb3,length_map->Xb4,map_cons->Xb5,mem_map->Xb6
open _root_.Nat renaming lt_of_le_of_lt->Xb7,add_zero->Xb8,lt_of_succ_lt_succ->Xb9,succ_lt_succ->Xc0
open _root_.Bool renaming false_eq_true->Xc1,eq_iff_iff->Xc2
open Value renaming int->Xc3
open World renaming ownsRow_nil->Xc4,setCells->Xc5
open IntKind renaming i64->Xc6
variable {caps:Array Value}{a b:Int}{x:Int×Int}{zs:List Int}{ks xs:List Tk}{B B' X i m:Nat}{f:Nat->Bool}{S:Nat->Prop}{A:Option Addr}{k:Tk}{p:Tk->Bool}{e:TypeId}{v:Value}{w w':World}
theorem bH.empty{α:Type}{P:Program}{k:TypeId}{enc:α->Value}{ok:α->Prop}{b:Nat}(h:w.heap[b]?=some (.map #[] 0)):bH w P k enc ok b []:=
 ⟨⟨#[],0,h,rfl,sM,sM⟩,sM,sM⟩
theorem Ix{α:Type}(l:List α)(k:Nat)(h:k<l.length):l.take (k+1)=l.take k++ [l[k]]:=by rw[Xb0,PI h];rfl
theorem o3{α β:Type}[DecidableEq α](f:β->α)(g:β->Value)(l:List β)(hn:(l.map f).Nodup)(k:Nat)(hk:k<l.length):dK ((l.take k).map λx=>(f x,g x)) (f l[k])=none:=by
 rw[ix];intro p hp;obtain⟨x,hx,rfl⟩:=Xb6.1 hp;refine Am;have hjk:j<k:=by simp at hj;omega
 rw[List.getElem_take];intro e;have:=(List.getElem_inj (xs:=l.map f) (i:=j) (j:=k) (h₀:=by simp;omega) (h₁:=by simp;omega) hn).1 Up;omega
theorem oT{α β:Type}[DecidableEq α](f:β->α)(g:β->Value)(l:List β)(hn:(l.map f).Nodup)(k:Nat)(hk:k<l.length):jv ((l.take k).map λx=>(f x,g x)) (f l[k]) (g l[k])=(l.take (k+1)).map λx=>(f x,g x):=by rw[gr (o3 f g l hn k hk),Ix l k hk,List.map_append];rfl
theorem cM{α:Type}{f:α->List Value}{s:Nat}(hf:∀a,(f a).length=s){e cap:Nat}{l:List α}(h:w.ownsRow B e s (.slice A l.length cap) l.length (l.flatMap f)){k:Nat}(hk:k<l.length):∃g,A=some ⟨g,0,none⟩/\B<=g/\g<w.heap.size/\∀j,j<s->w.cell? ⟨g,k*s+j,none⟩=(f l[k])[j]?:=by
 rcases bW h with⟨_,h2,_⟩|⟨g,cap',h1,h2,h3,_⟩
 .omega
 .refine mh
  refine⟨g,h1.1,h2,h3,λj hj=>?_⟩;obtain⟨g',hA,_,_,hc,_⟩:=iL h hk hj;rw[h1.1]at hA;simp only[Option.some.injEq,Addr.mk.injEq]at hA;obtain⟨rfl,_⟩:=hA;rw[Nat.zero_add]at hc;rw[hc,bY hf l k j hk hj]
theorem jR(w:World):(zeroValue 3).run prog w=.ok (JI 0) w:=kM
section
variable {w:World}{B:Nat}{ep:Int}{rs:List Rt}{ds:List Dn}{vr vd:Value}
theorem make_t(hB:B<=w.heap.size)(hr:w.ownsRow B 203 5 vr rs.length (rs.flatMap kE))(hd:w.ownsRow B 198 10 vd ds.length (ds.flatMap eW))(r0:rs.length<=1000)(r1:∀x∈rs,OI .u32 x.ssrc/\x.ssrc<2147483648/\O2 .i64 .i64 (x.track,x.layer))(r2:(rs.map Rt.ssrc).Nodup)(r3:(rs.map λx=>(x.track,x.layer)).Nodup)(d0:ds.length<=1000)(d1:∀x∈ds,OI .u32 x.ssrc/\2147483648<=x.ssrc/\O2 .i64 .i64 (x.who,x.track)/\O2 .i64 .u32 (x.slot,x.turn))(d2:(ds.map Dn.ssrc).Nodup)(d3:(ds.map λx=>(x.who,x.track)).Nodup)(d4:(ds.map λx=>(x.slot,x.turn)).Nodup) :
  az 204 #[JU ep,vr,vd] w λe w'=>∃T,e=aA (.tuple #[OV T,JI 0])/\w.heap.size<=T/\dE w' (λj=>w.heap.size<=j) T ep rs ds/\aC w w':=by
 obtain⟨A,cap,rfl⟩:=aj hr;obtain⟨A2,cap2,rfl⟩:=aj hd;refine ml;refine ku;have R1:=OH r1;have R2:=OH r2;have R3:=OH r3;have D1:=OH d1;have D2:=OH d2;have D3:=OH d3;have D4:=OH d4;refine oN;go_enter func204,ntmps204;refine ay;go_loopw [24] (λi wr=>∃k:Nat,k<=rs.length/\i=JI k/\wr.heap[w.heap.size+1+1]?=OC #[JU ep,.map (some w.heap.size),.map (some (w.heap.size+1))] 279/\bH wr prog 52 (Xc3 .u32) (OI .u32) (w.heap.size) ((rs.take k).map λx=>(x.ssrc,GG x))/\bH wr prog 455 (E2 .i64 .i64) (O2 .i64 .i64) (w.heap.size+1+1+1) ((rs.take k).map λx=>((x.track,x.layer),JI 1))/\bH wr prog 52 (Xc3 .u32) (OI .u32) (w.heap.size+1) ([])/\aC w wr) (λi _=>rs.length- (intOf i).toNat);case atStart=>exact⟨0,oM,rfl,gD,bH.empty ur,bH.empty ur,bH.empty ur,gM⟩
 case round=>
  obtain⟨k,hk,rfl,hT,hMR,hML,hMD,hB1⟩:=hrel;have H1:=OH hMR;have H2:=OH hML;have H3:=OH hMD;by_cases hlt:k<rs.length
  .obtain⟨g,rfl,hg1,hg2,hg3⟩:=cM RU HR.out hlt
   have hg0:=(hB1.cell (p:=⟨g,k*5,none⟩) hg2).trans (hg3 0 dM);have hg_1:=(hB1.cell (p:=⟨g,k*5+1,none⟩) hg2).trans (hg3 1 dM);have hg_2:=(hB1.cell (p:=⟨g,k*5+2,none⟩) hg2).trans (hg3 2 dM);have hg_3:=(hB1.cell (p:=⟨g,k*5+3,none⟩) hg2).trans (hg3 3 dM);have hg_4:=(hB1.cell (p:=⟨g,k*5+4,none⟩) hg2).trans (hg3 4 dM);simp only[Xa0,Xa1]at hg0 hg_1 hg_2 hg_3 hg_4;have y1:=hB1.size;have y3:=H2.out.lt;refine gq;go_cut [11,24] from 24 to 48 (λs11 s24 wx=>s24=JI (k:Int)/\s11=OV wr.heap.size/\wx.heap[wr.heap.size]?=OC (kE rs[k]).toArray 203/\aC wr wx);case first=>all_goals(go_wp2_with fail;go_meet;go_split_ands;exact⟨rfl,rfl,gD,gM⟩)
   case rest=>
    obtain⟨rfl,rfl,hX,hB2⟩:=hcut;obtain⟨u1,hu1⟩:∃u1,u1=wc:=⟨_,rfl⟩
    subst hu1;obtain⟨q1,q2,q3⟩:=R1.out rs[k] sM;have hn1:=oT Rt.ssrc GG rs R2.out k hlt;have hn2:=oT (λx:Rt=>(x.track,x.layer)) (λ_=>JI 1) rs R3.out k hlt;have hn3:=o3 (λx:Rt=>(x.track,x.layer)) (λ_=>JI 1) rs R3.out k hlt;have HN1:=OH hn1;have HN2:=OH hn2;have HN3:=OH hn3;have Q3:=OH q3;have Q1:=OH q1;have q4:decide ((2147483648:Int)<=rs[k].ssrc)=false:=by simpa using q2
    have Q4:=OH q4;have hT1:=aZ hB2 (aB hT) hT;have HT:=OH hT;have hm1:=H1.out.below hB2;have hm2:=H2.out.below hB2;have G1:=OH hm1;have G2:=OH hm2;generalize rs[k]=x at *;obtain⟨ssrc,track,frm,layer,shard⟩:=x;dsimp only[kE,GG]at *;obtain⟨c0,f0,z0⟩:=ab hX;obtain⟨c1,f1,z1⟩:=ab hT1;go_upto_region 6 with fail;obtain⟨u2,hrunu2,hMu2,hcu2,hzu2⟩:=(G1.out.same (w':=u1.drew) rfl).run_put lY underlying276 (x:=ssrc) Q1.out (GG ⟨ssrc,track,frm,layer,shard⟩);rw[HN1.out]at hMu2;have HMu2:=OH hMu2;have hdu2:ag (λj=>j=w.heap.size) u1 u2:=(ag.drew dp).trans hcu2;have HCu2:=OH hdu2;have HZu2:=OH hzu2;refine rg 7 (λw'=>Bk w' (w.heap.size+1+1) #[JU ep,.map (some w.heap.size),.map (some (w.heap.size+1))] 279/\Bk w' wr.heap.size #[JT ssrc,JI track,JI frm,JI layer,JI shard] 203/\u1.heap.size<=w'.heap.size/\ag af u1 w') QY (λhHeld0=>?_);refine qU;refine je;(try clear hHeld0);have z9:=aB hT1;have yy:=hB2.size;have hX2:=(HCu2.out.block wr.heap.size z0 jJ).trans hX;have hT2:=(HCu2.out.block (w.heap.size+1+1) z1 jJ).trans hT1;have hm3:=G2.out.chg HCu2.out jJ;have G3:=OH hm3;obtain⟨c0,f0,z2⟩:=ab hX2;obtain⟨c1,f1,z3⟩:=ab hT2;go_upto_region 7 with fail;obtain⟨stu3,u3a,hrunu3,hcu3,hzu3,hMau3,hstu3⟩:=(G3.out.same (w':=u2.drew) rfl).run_entry pT underlying453 jR (x:=(track,layer)) Q3.out (u:=JI 0) Hz;obtain⟨u3,hrunbu3,hMbu3,hcbu3,hzbu3⟩:=hstu3 (JI 1) _ rfl;have hlku3:=λW (h:bH W prog 455 (E2 .i64 .i64) (O2 .i64 .i64) (w.heap.size+1+1+1) (_))=>h.run_look pT underlying453 (jR W) (x:=(track,layer)) Q3.out false (v:=JI 0) (is:=false) Hz Hz
    have hlku30:=hlku3 _ (G3.out.same (w':=u2.drew) rfl);have hlku31:=hMau3.run_look pT underlying453 (jR _) (x:=(track,layer)) Q3.out false (v:=JI 0) (is:=true) zt56 zt56;simp only[Xc1,if_false]at hlku30 hlku31;rw[HN2.out]at hMbu3;have HMu3:=OH hMbu3;have hcau3:ag (λj=>j=w.heap.size+1+1+1) u2 u3a:=(ag.drew dp).trans hcu3;have HCu3:=OH (hcau3.trans hcbu3);have hw1:Xc6.wrap 1=1:=dM;refine rg 10 (λw'=>Bk w' wr.heap.size #[JT ssrc,JI track,JI frm,JI layer,JI shard] 203/\(Instr.lookup 453 (.map (some (w.heap.size+1+1+1))) (.agg #[JI track,JI layer]) false).run prog w'=.ok (JI 0) w'/\u2.heap.size<=w'.heap.size/\ag (λj=>j=w.heap.size+1+1+1) u2 w') zt68 (λhHeld0=>?_);refine qU;refine tk 7 ?_;refine rW;refine hK.out _ _ ⟨aO ((hcau3.block _ aM (by show ¬(_=_);omega)).trans aM),aM,by first|omega|(simp at *;omega),hcau3⟩ (λhHeld1=>?_);refine bV;refine gN;refine As;have hX3:=(HCu3.out.block wr.heap.size z2 jJ).trans hX2;have hT3:=(HCu3.out.block (w.heap.size+1+1) z3 jJ).trans hT2;have hB3:aC w u3:=((hB1.trans (hB2.mono hB1.size)).trans (HCu2.out.below (B:=w.heap.size) (λj e=>by subst e;omega) oM)).trans (HCu3.out.below (B:=w.heap.size) (λj e=>by subst e;omega) oM);have hmD:=(H3.out.below hB2).chg HCu2.out jJ;have HMD:=OH (hmD.chg HCu3.out jJ);have HMR:=OH (HMu2.out.chg HCu3.out jJ);obtain⟨c0,f0,z4⟩:=ab hX3;have q5:=Q4.out;refine dA;case rel=>exact⟨k+1,oM,eT,hT3,HMR.out,HMu3.out,HMD.out,hB3⟩
    case measure=>exact di
  .skip
   have hkn:k=rs.length:=oM;subst hkn;rw[Xa5]at H1 H2;have y1:=hB1.size;have y3:=H2.out.lt;have HT:=OH hT;obtain⟨v,hv⟩:∃v,v=wr:=⟨_,rfl⟩
   subst hv;have HB1:=OH hB1;go_upto_region 14 with fail;go_loopw [53] (λi wr=>∃k:Nat,k<=ds.length/\i=JI k/\wr.heap[w.heap.size+1+1]?=OC #[JU ep,.map (some w.heap.size),.map (some (w.heap.size+1))] 279/\bH wr prog 52 (Xc3 .u32) (OI .u32) (w.heap.size) (rs.map λx=>(x.ssrc,GG x))/\bH wr prog 455 (E2 .i64 .i64) (O2 .i64 .i64) (w.heap.size+1+1+1) (rs.map λx=>((x.track,x.layer),JI 1))/\bH wr prog 52 (Xc3 .u32) (OI .u32) (w.heap.size+1) ((ds.take k).map λx=>(x.ssrc,tT x))/\bH wr prog 455 (E2 .i64 .i64) (O2 .i64 .i64) (v.heap.size) ((ds.take k).map λx=>((x.who,x.track),JI 1))/\bH wr prog 66 (E2 .i64 .u32) (O2 .i64 .u32) (v.heap.size+1) ((ds.take k).map λx=>((x.slot,x.turn),JI 1))/\aC w wr) (λi _=>ds.length- (intOf i).toNat);case atStart=>exact⟨0,oM,rfl,(by have hT:=HT.out;exact gD),H1.out.below gM,H2.out.below gM,H3.out.below gM,bH.empty ur,bH.empty ur,(by have hB1:=HB1.out;go_grown)⟩
   case round=>
    obtain⟨k,hk,rfl,hT,hMR,hML,hMD,hMP,hMF,hB1⟩:=hrel;have H1':=OH hMR;have H2':=OH hML;have H3':=OH hMD;have H4':=OH hMP;have H5':=OH hMF;by_cases hlt:k<ds.length
    .obtain⟨g,rfl,hg1,hg2,hg3⟩:=cM jW HD.out hlt
     have hg_0:=(hB1.cell (p:=⟨g,k*10,none⟩) hg2).trans (hg3 0 dM);have hg_1:=(hB1.cell (p:=⟨g,k*10+1,none⟩) hg2).trans (hg3 1 dM);have hg_2:=(hB1.cell (p:=⟨g,k*10+2,none⟩) hg2).trans (hg3 2 dM);have hg_3:=(hB1.cell (p:=⟨g,k*10+3,none⟩) hg2).trans (hg3 3 dM);have hg_4:=(hB1.cell (p:=⟨g,k*10+4,none⟩) hg2).trans (hg3 4 dM);have hg_5:=(hB1.cell (p:=⟨g,k*10+5,none⟩) hg2).trans (hg3 5 dM);have hg_6:=(hB1.cell (p:=⟨g,k*10+6,none⟩) hg2).trans (hg3 6 dM);have hg_7:=(hB1.cell (p:=⟨g,k*10+7,none⟩) hg2).trans (hg3 7 dM);have hg_8:=(hB1.cell (p:=⟨g,k*10+8,none⟩) hg2).trans (hg3 8 dM);have hg_9:=(hB1.cell (p:=⟨g,k*10+9,none⟩) hg2).trans (hg3 9 dM);simp only[Xa0,Xa1,Xb8]at hg_0 hg_1 hg_2 hg_3 hg_4 hg_5 hg_6 hg_7 hg_8 hg_9;have y4:=H4'.out.lt;have y5:=H5'.out.lt;have y9:=hB1.size;go_upto_region 15 with fail;go_cut [15,53] from 53 to 84 (λs15 s53 wx=>s53=JI (k:Int)/\s15=OV wr.heap.size/\wx.heap[wr.heap.size]?=OC (eW ds[k]).toArray 198/\aC wr wx);case first=>all_goals(go_wp2_with fail;go_meet;go_split_ands;exact⟨rfl,rfl,gD,gM⟩)
     case rest=>
      obtain⟨rfl,rfl,hX,hB2⟩:=hcut;obtain⟨u1,hu1⟩:∃u1,u1=wc:=⟨_,rfl⟩
      subst hu1;obtain⟨q1,q2,q3,q4⟩:=D1.out ds[k] sM;have HN1:=OH (oT Dn.ssrc tT ds D2.out k hlt);have HN2:=OH (oT (λx:Dn=>(x.who,x.track)) (λ_=>JI 1) ds D3.out k hlt);have HN3:=OH (o3 (λx:Dn=>(x.who,x.track)) (λ_=>JI 1) ds D3.out k hlt);have HN4:=OH (oT (λx:Dn=>(x.slot,x.turn)) (λ_=>JI 1) ds D4.out k hlt);have HN5:=OH (o3 (λx:Dn=>(x.slot,x.turn)) (λ_=>JI 1) ds D4.out k hlt);have Q1:=OH q1;have Q3:=OH q3;have Q4:=OH q4;have q5:decide (ds[k].ssrc<(2147483648:Int))=false:=by simpa using q2
      have Q5:=OH q5;have hT1:=aZ hB2 (aB hT) hT;have z9:=aB hT;have G3:=OH (H3'.out.below hB2);have G4:=OH (H4'.out.below hB2);have G5:=OH (H5'.out.below hB2);generalize ds[k]=x at *;obtain⟨ssrc,slot,turn,who,track,shard,frm,layer,tid,muted⟩:=x;dsimp only[eW,tT]at *;have yy:=hB2.size;obtain⟨c0,f0,z0⟩:=ab hX;obtain⟨c1,f1,z1⟩:=ab hT1;go_upto_region 16 with fail;obtain⟨u2,hrunu2,hMu2,hcu2,hzu2⟩:=(G3.out.same (w':=u1.drew) rfl).run_put lY underlying277 (x:=ssrc) Q1.out (tT ⟨ssrc,slot,turn,who,track,shard,frm,layer,tid,muted⟩);rw[HN1.out]at hMu2;have HMu2:=OH hMu2;have hdu2:ag (λj=>j=w.heap.size+1) u1 u2:=(ag.drew dp).trans hcu2;have HCu2:=OH hdu2;have HZu2:=OH hzu2;refine rg 7 (λw'=>Bk w' (w.heap.size+1+1) #[JU ep,.map (some w.heap.size),.map (some (w.heap.size+1))] 279/\Bk w' wr.heap.size #[JT ssrc,JI slot,JT turn,JI who,JI track,JI shard,JI frm,JI layer,JI tid,.bool muted] 198/\u1.heap.size<=w'.heap.size/\ag af u1 w') QY (λhHeld0=>?_);refine qU;refine je;(try clear hHeld0);have hX2:=(HCu2.out.block wr.heap.size z0 jJ).trans hX;have hT2:=(HCu2.out.block (w.heap.size+1+1) z1 jJ).trans hT1;have G4b:=OH (G4.out.chg HCu2.out jJ);have G5b:=OH (G5.out.chg HCu2.out jJ);obtain⟨c0,f0,z2⟩:=ab hX2;go_upto_region 17 with fail;obtain⟨stu3,u3a,hrunu3,hcu3,hzu3,hMau3,hstu3⟩:=(G4b.out.same (w':=u2.drew) rfl).run_entry pT underlying453 jR (x:=(who,track)) Q3.out (u:=JI 0) Hz;obtain⟨u3,hrunbu3,hMbu3,hcbu3,hzbu3⟩:=hstu3 (JI 1) _ rfl;have hlku3:=λW (h:bH W prog 455 (E2 .i64 .i64) (O2 .i64 .i64) (v.heap.size) (_))=>h.run_look pT underlying453 (jR W) (x:=(who,track)) Q3.out false (v:=JI 0) (is:=false) Hz Hz
      have hlku30:=hlku3 _ (G4b.out.same (w':=u2.drew) rfl);have hlku31:=hMau3.run_look pT underlying453 (jR _) (x:=(who,track)) Q3.out false (v:=JI 0) (is:=true) zt57 zt57;simp only[Xc1,if_false]at hlku30 hlku31;rw[HN2.out]at hMbu3;have HMu3:=OH hMbu3;have hcau3:ag (λj=>j=v.heap.size) u2 u3a:=(ag.drew dp).trans hcu3;have HCu3:=OH (hcau3.trans hcbu3);have hw1:Xc6.wrap 1=1:=dM;refine rg 10 (λw'=>Bk w' wr.heap.size #[JT ssrc,JI slot,JT turn,JI who,JI track,JI shard,JI frm,JI layer,JI tid,.bool muted] 198/\(Instr.lookup 453 (.map (some (v.heap.size))) (.agg #[JI who,JI track]) false).run prog w'=.ok (JI 0) w'/\u2.heap.size<=w'.heap.size/\ag (λj=>j=v.heap.size) u2 w') zt68 (λhHeld0=>?_);refine qU;refine tk 7 ?_;refine rW;refine hK.out _ _ ⟨aO ((hcau3.block _ aM (by show ¬(_=_);omega)).trans aM),aM,by first|omega|(simp at *;omega),hcau3⟩ (λhHeld1=>?_);refine bV;refine gN;refine As;have z3:=aB hT2;have hX3:=(HCu3.out.block wr.heap.size z2 jJ).trans hX2;have hT3:=(HCu3.out.block (w.heap.size+1+1) z3 jJ).trans hT2;have G5c:=OH (G5b.out.chg HCu3.out jJ);obtain⟨c0,f0,z4⟩:=ab hX3;go_upto_region 18 with fail;obtain⟨stu4,u4a,hrunu4,hcu4,hzu4,hMau4,hstu4⟩:=(G5c.out.same (w':=u3.drew) rfl).run_entry Pm underlying456 jR (x:=(slot,turn)) Q4.out (u:=JI 0) (by rw[HN5.out];rfl);obtain⟨u4,hrunbu4,hMbu4,hcbu4,hzbu4⟩:=hstu4 (JI 1) _ rfl;have hlku4:=λW (h:bH W prog 66 (E2 .i64 .u32) (O2 .i64 .u32) (v.heap.size+1) (_))=>h.run_look Pm underlying456 (jR W) (x:=(slot,turn)) Q4.out false (v:=JI 0) (is:=false) (by rw[HN5.out];rfl) (by rw[HN5.out];rfl)
      have hlku40:=hlku4 _ (G5c.out.same (w':=u3.drew) rfl);have hlku41:=hMau4.run_look Pm underlying456 (jR _) (x:=(slot,turn)) Q4.out false (v:=JI 0) (is:=true) zt67 zt67;simp only[Xc1,if_false]at hlku40 hlku41;rw[HN4.out]at hMbu4;have HMu4:=OH hMbu4;have hcau4:ag (λj=>j=v.heap.size+1) u3 u4a:=(ag.drew dp).trans hcu4;have HCu4:=OH (hcau4.trans hcbu4);have hw1:Xc6.wrap 1=1:=dM;refine rg 7 (λw'=>Bk w' wr.heap.size #[JT ssrc,JI slot,JT turn,JI who,JI track,JI shard,JI frm,JI layer,JI tid,.bool muted] 198/\(Instr.lookup 456 (.map (some (v.heap.size+1))) (.agg #[JI slot,JT turn]) false).run prog w'=.ok (JI 0) w'/\u3.heap.size<=w'.heap.size/\ag (λj=>j=v.heap.size+1) u3 w') zt68 (λhHeld0=>?_);refine Ce;refine on 5 λK hK=>?_
      go_simp;refine hK.out _ _ ⟨aO ((hcau4.block _ aM jJ).trans aM),aM,by first|omega|(simp at *;omega),hcau4⟩ (λhHeld1=>?_);refine bV;refine tk 6 ?_;refine je;(try clear hHeld0);(try clear hHeld1);have z5:=aB hT3;have hX4:=(HCu4.out.block wr.heap.size z4 jJ).trans hX3;have hT4:=(HCu4.out.block (w.heap.size+1+1) z5 jJ).trans hT3;have hc14:ag (λj=>(j=w.heap.size+1\/j=v.heap.size)\/j=v.heap.size+1) u1 u4:=((HCu2.out.mono (λj _ e=> .inl (.inl e))).trans (HCu3.out.mono (λj _ e=> .inl (.inr e)))).trans (HCu4.out.mono (λj _ e=> .inr e));have hB4:aC w u4:=(hB1.trans (hB2.mono hB1.size)).trans (hc14.below (B:=w.heap.size) (λj e=>by rcases e with(e|e)|e<;>(subst e;omega)) oM);have HC14:=OH hc14;have F1:=OH ((H1'.out.below hB2).chg HC14.out (by rintro((e|e)|e)<;>omega));have F2:=OH ((H2'.out.below hB2).chg HC14.out (by rintro((e|e)|e)<;>omega));have F3:=OH ((HMu2.out.chg HCu3.out jJ).chg HCu4.out jJ);have F4:=OH (HMu3.out.chg HCu4.out jJ);obtain⟨c0,f0,z6⟩:=ab hX4;have q6:=Q5.out;refine dA;case rel=>exact⟨k+1,oM,eT,hT4,F1.out,F2.out,F3.out,F4.out,HMu4.out,hB4⟩
      case measure=>exact di
    .have hkn:k=ds.length:=oM
     subst hkn;rw[Xa5]at H3' H4' H5';have e1:=H1'.out.run_len underlying276;have e2:=H2'.out.run_len underlying453;have e3:=H3'.out.run_len underlying277;have e4:=H4'.out.run_len underlying453;have e5:=H5'.out.run_len underlying456;simp only[Xb4]at e1 e2 e3 e4 e5;obtain⟨c1,f1,z1⟩:=ab hT;have d8:decide (((rs.length:Int)+(rs.length:Int))<2*(rs.length:Int))=false:=xM;have d9:decide (((ds.length:Int)+(ds.length:Int)+(ds.length:Int))<3*(ds.length:Int))=false:=xM;refine df;exact⟨w.heap.size+1+1,rfl,oM,⟨_,_,hT,H1'.out,H3'.out,sM,sM⟩,hB1⟩
end
theorem of_u32{n:Int}(h:(Lit.int .u32 n).wf=true):0<=n/\n<=4294967295:=by simp[Lit.wf,IntKind.min,IntKind.max,IntKind.signed,IntKind.bits]at h;omega
section
variable {w w':World}{M:Nat->Prop}{T:Nat}{ep:Int}{rs:List Rt}{ds:List Dn}
theorem AZ(track layer:Int)(w:World):az 143 #[.pointer none,JI track,JI layer] w λe w'=>e=aA (.tuple #[JT 0,.bool false])/\w=w':=by go_enter func143,ntmps143;exact zf
def Ht(w:World)(e:Ending)(w':World):Prop:=∃ (s:Int) (is:Bool),e=aA (.tuple #[JT s,.bool is])/\0<=s/\s<=4294967295/\aC w w'
theorem NP(h:dE w M T ep rs ds)(track layer:Int):az 143 #[OV T,JI track,JI layer] w (Ht w):=by
 refine AI;obtain⟨o,hrun,hI⟩:=fm.made h3 underlying276;have zM:=h3.lt;have HI:=OH hI;go_enter func143,ntmps143;refine ay;go_loopw [17] (λ_ wr=>∃S,fm wr prog 52 (Xc3 .u32) (OI .u32) MR w.heap.size (rs.map λx=>(x.ssrc,GG x)) S/\aC w wr) (λ_ wr=>ik wr w.heap.size);case atStart=>exact⟨[],HI.out,gM⟩
 case round=>
  obtain⟨S,hI,hB⟩:=hrel;rcases hI.next lY.inj 0 with⟨_,hn⟩|⟨p,hp,hpS,w1,hn,hI1,hc1,hz1,hlt,hen⟩
  .refine df
   exact⟨0,false,rfl,oM,oM,hB⟩
  .have hok:=hI.m.ok p hp
   obtain⟨x,hx,rfl⟩:=Xb6.1 hp;refine VG;have h9:=of_u32 hok;have y1:=hB1.size;have HI1:=OH hI1;have HL:=OH hlt;obtain⟨ssrc,tr,frm,ly,sh⟩:=x;dsimp only at *;have hIa:fm (w1.alloc (.cells #[JT ssrc,JI tr,JI frm,JI ly,JI sh] 203)) prog 52 (Xc3 .u32) (OI .u32) MR w.heap.size (rs.map λx=>(x.ssrc,GG x)) (ssrc::S):=HI1.out.chg (.of oA) (T:=af) id id;have hLa:ik (w1.alloc (.cells #[JT ssrc,JI tr,JI frm,JI ly,JI sh] 203)) w.heap.size=ik w1 w.heap.size:=lG (dZ _ _ _ HI1.out.lt.2.1) HI1.out (dZ _ _ _ HI1.out.lt.1);have HIA:=OH hIa;have HLA:=OH hLa;cases e1:(tr==track)with
   |false=>
    exact WX
   |true=>
    cases e2:(ly==layer)with
    |false=>
     exact WX
    |true=>refine df;exact⟨ssrc,true,rfl,h9.1,h9.2,gM⟩
end
theorem nan_t(x:Int)(w:World):az 266 #[JI x] w λe w'=>e=aA (.bool false)/\w=w':=by go_enter func266,ntmps266;refine bj;exact⟨sM,rfl⟩
def fl(x y:Int):Int:=if x<y then -1 else if y<x then 1 else 0
theorem pY(x y:Int)(w:World):az 224 #[JI x,JI y] w λe w'=>e=aA (JI (fl x y))/\w=w':=by
 rcases Int.lt_trichotomy x y with h|h|h
 .have e:fl x y= -1:=by simp[fl,h]
  have E:=OH e;have h1:decide (x<y)=true:=by simpa using h
  refine MM;exact vg
 .subst h
  have e:fl x x=0:=by simp[fl]
  have E:=OH e;refine MM;exact vg
 .have e:fl x y=1:=by simp[fl,h];omega
  have E:=OH e;have h1:decide (x<y)=false:=xM;have h2:decide (y<x)=true:=by simpa using h
  refine MM;exact vg
theorem dcmp_t(x y:Dn)(w:World):az 223 #[tT x,tT y] w λe w'=>e=aA (JI (fl x.who y.who))/\aC w w':=by go_enter func223,ntmps223;exact L4
def uf(w:World)(g cap:Nat)(l:List Dn):Prop:=∃cr,w.heap[g]?=OC cr 198/\cr.size=cap*10/\l.length<=cap/\∀i (hi:i<l.length) j,j<10->cr[i*10+j]?=(eW l[i])[j]?
theorem sQ(w:World)(g o:Nat)(v0 v1 v2 v3 v4 v5 v6 v7 v8 v9:Value):w.setCells g o [v0,v1,v2,v3,v4,v5,v6,v7,v8,v9]=((((((((((w.setCell ⟨g,o,none⟩ v0).setCell ⟨g,o+1,none⟩ v1).setCell ⟨g,o+2,none⟩ v2).setCell ⟨g,o+3,none⟩ v3).setCell ⟨g,o+4,none⟩ v4).setCell ⟨g,o+5,none⟩ v5).setCell ⟨g,o+6,none⟩ v6).setCell ⟨g,o+7,none⟩ v7).setCell ⟨g,o+8,none⟩ v8).setCell ⟨g,o+9,none⟩ v9):=rfl
theorem Bc{cr:Array Value}{l:List Dn}{x:Dn}(h:∀i (hi:i<l.length) j,j<10->cr[i*10+j]?=(eW l[i])[j]?)(hi:i<l.length)(hb:i*10+10<=cr.size):∀k (hk:k<(l.set i x).length) j,j<10->(aS cr (i*10) (eW x))[k*10+j]?=(eW (l.set i x)[k])[j]?:=by
 intro k hk j hj;rw[eI _ _ _ _ (by rw[jW];exact hb),jW,List.getElem_set];by_cases q:i=k
 .subst q
  rw[if_pos oM,if_pos rfl]
  congr 1
  omega
 .rw[if_neg (iK q hj),if_neg q]
  exact h k rG j hj
theorem Jd(w:World)(g cap:Nat)(l:List Dn)(h:uf w g cap l)(hl:l.length<=1000):az 291 #[.slice (aT g) l.length cap,JI 0,JI l.length,.func (.func 223) #[] #[]] w λe w'=>e=aA (.tuple #[])/\∃l',l'.Perm l/\uf w' g cap l'/\ag (λj=>j=g) w w':=by
 refine bI;go_enter func291,ntmps291;refine ay;go_loopw [8] (λi wr=>∃ (k:Nat) (l':List Dn),i=JI k/\1<=k/\(l.length=0\/k<=l.length)/\k<=1000/\l'.Perm l/\uf wr g cap l'/\ag (λj=>j=g) w wr) (λi _=>1000- (intOf i).toNat);case atStart=>exact⟨1,l,rfl,oM,oM,oM,List.Perm.refl _,H.out,ag.refl _ _⟩
 case round=>
  obtain⟨k,l',rfl,hk1,hk2,hk3,hp,hr,hc⟩:=hrel;refine nL;refine ml;refine nE;refine rO
  .have d0:decide (k<l.length)=true:=by simpa using hlt
   refine ay;obtain⟨wo,hwo⟩:∃wo,wo=wr:=⟨_,rfl⟩
   subst hwo;go_loopw [9] (λj wi=>∃ (q:Nat) (l2:List Dn),j=JI q/\q<l.length/\l2.Perm l/\uf wi g cap l2/\ag (λj=>j=g) w wi) (λj _=>(intOf j).toNat);case atStart=>exact⟨k,l',rfl,hlt,HP.out,HR.out,HC.out⟩
   case round=>
    rename_i wi
    obtain⟨q,l2,rfl,hq,hp2,hr2,hc2⟩:=hrel;have hl2:=hp2.length_eq;have HP2:=OH hp2;have HC2:=OH hc2;have HR2:=OH hr2;obtain⟨cr,hg,hsz,hcap,hrow⟩:=hr2;obtain⟨c0,f0,z0⟩:=ab hg;have HROW:=OH hrow;cases q with
    |zero=>
     have d1:decide ((0:Int)<0)=false:=sM;go_upto_region 4 with fail;go_quiet (fail);refine dA;case rel=>exact⟨k+1,l2,eT,oM,oM,oM,HP2.out,⟨cr,hg,hsz,hcap,HROW.out⟩,HC2.out.drewN _⟩
     case measure=>
      exact di
    |succ q=>
     have d1:decide ((0:Int)<((q+1:Nat):Int))=true:=sM;have i1:(0:Int)<=(q:Int)+1:=oM;have i2:(q:Int)+1<(l.length:Int):=oM;have i3:Xc6.wrap (q:Int)=(q:Int):=IntWalk.i64_in _ oM;have i4:(q:Int)<(l.length:Int):=oM;have a0:=(HROW.out (q+1) oM 0 dM)
     have b0:=(HROW.out q oM 0 dM)
     have a1:=(HROW.out (q+1) oM 1 dM)
     have b1:=(HROW.out q oM 1 dM)
     have a2:=(HROW.out (q+1) oM 2 dM)
     have b2:=(HROW.out q oM 2 dM)
     have a3:=(HROW.out (q+1) oM 3 dM)
     have b3:=(HROW.out q oM 3 dM)
     have a4:=(HROW.out (q+1) oM 4 dM)
     have b4:=(HROW.out q oM 4 dM)
     have a5:=(HROW.out (q+1) oM 5 dM)
     have b5:=(HROW.out q oM 5 dM)
     have a6:=(HROW.out (q+1) oM 6 dM)
     have b6:=(HROW.out q oM 6 dM)
     have a7:=(HROW.out (q+1) oM 7 dM)
     have b7:=(HROW.out q oM 7 dM)
     have a8:=(HROW.out (q+1) oM 8 dM)
     have b8:=(HROW.out q oM 8 dM)
     have a9:=(HROW.out (q+1) oM 9 dM)
     have b9:=(HROW.out q oM 9 dM)
     simp only[Xa0,Xa1,Xb8]at a0 a1 a2 a3 a4 a5 a6 a7 a8 a9 b0 b1 b2 b3 b4 b5 b6 b7 b8 b9;have hcmp:=λW=>dcmp_t l2[q+1] l2[q] W
     generalize fl l2[q+1].who l2[q].who=cc at hcmp;obtain⟨wb,hwb⟩:∃wb,wb=wr:=⟨_,rfl⟩
     subst hwb;refine i9;refine rg 16 (λw'=>w'.heap[g]?=OC cr 198/\(∀j,w'.cell? ⟨g,j,none⟩=cr[j]?)/\(∀j,w'.frozen? ⟨g,j,none⟩=false)/\g<w'.heap.size/\wb.heap.size<=w'.heap.size/\ag af wb w') ⟨hg,c0,f0,z0,by first|omega|(simp;done),lW⟩ (λhHeld0=>?_);refine rP;refine nS;refine sb;refine(hcmp _).mono ?_;rintro e w9 ⟨rfl,hb9⟩;have hb9:aC wb w9:=aE (w:=wb) Eh hb9;have hg9:=(hb9.block g z0).trans hg;have hc9:ag af wb w9:=.of hb9;have y9:=hb9.size;refine hK.out _ _ ⟨hg9,(ab hg9).1,(ab hg9).2.1,(ab hg9).2.2,by first|omega|(simp;done),lW⟩ (λhHeld1=>?_);refine bV;refine tk 15 ?_;refine As;obtain⟨c9,f9,z9⟩:=ab hg9;have hc3:ag (λj=>j=g) w w9:=(HC2.out.drewN 0).trans (hc9.mono (λj _ e=>e.elim));have HC3:=OH hc3;have hbx:((q+1)*10+10<=cr.size/\q*10+10<=cr.size):=by obtain⟨cr',_,h2,h3,_⟩:=HR2.out;omega
     have ea0:=(c9 ((q+1)*10)).trans a0;have eb0:=(c9 (q*10)).trans b0;have ea1:=(c9 ((q+1)*10+1)).trans a1;have eb1:=(c9 (q*10+1)).trans b1;have ea2:=(c9 ((q+1)*10+2)).trans a2;have eb2:=(c9 (q*10+2)).trans b2;have ea3:=(c9 ((q+1)*10+3)).trans a3;have eb3:=(c9 (q*10+3)).trans b3;have ea4:=(c9 ((q+1)*10+4)).trans a4;have eb4:=(c9 (q*10+4)).trans b4;have ea5:=(c9 ((q+1)*10+5)).trans a5;have eb5:=(c9 (q*10+5)).trans b5;have ea6:=(c9 ((q+1)*10+6)).trans a6;have eb6:=(c9 (q*10+6)).trans b6;have ea7:=(c9 ((q+1)*10+7)).trans a7;have eb7:=(c9 (q*10+7)).trans b7;have ea8:=(c9 ((q+1)*10+8)).trans a8;have eb8:=(c9 (q*10+8)).trans b8;have ea9:=(c9 ((q+1)*10+9)).trans a9;have eb9:=(c9 (q*10+9)).trans b9;have C9:=OH c9;cases hd:decide (cc<0)with
     |false=>
      have hd2:¬cc<0:=by simpa using hd
      refine dA;case rel=>exact⟨k+1,l2,eT,oM,oM,oM,HP2.out,⟨cr,hg9,hsz,(by obtain⟨cr',_,h2,h3,_⟩:=HR2.out;omega),HROW.out⟩,HC3.out⟩
      case measure=>
       exact di
     |true=>
      have hd2:cc<0:=by simpa using hd
      go_upto_region 6 with fail;go_region;rw[←sQ,←sQ];have hF:=du (eW l2[q+1]) (q*10) _ _ (du (eW l2[q]) ((q+1)*10) _ _ hg9);have hX:=(HC3.out.trans (bA (eW l2[q]) ((q+1)*10) w9)).trans (bA (eW l2[q+1]) (q*10) _);dsimp only[eW]at hF hX;generalize (Xc5 (Xc5 w9 _ _ _) _ _ _)=w8 at hF hX ⊢;have HF:=OH hF;have HX:=OH hX;refine dA;case rel=>exact⟨q,(l2.set (q+1) l2[q]).set q l2[q+1],eT,oM,(List.set_set_perm oM oM).trans HP2.out,⟨_,HF.out,Ui,(by obtain⟨cr',_,h2,h3,_⟩:=HR2.out;simp;omega),Bc (Bc HROW.out oM hbx.1) xM (by rw[cH];exact hbx.2)⟩,HX.out.drew⟩
      case measure=>simp[intOf]
  .have d0:decide (k<l.length)=false:=by simpa using hlt
   refine dg;exact⟨rfl,l',HP.out,HR.out,HC.out⟩
theorem bs_tk{l:List Tk}(h:w.ownsRow B 173 4 v l.length (l.flatMap eU))(hl:l.length<=1000)(c:Tk->Int)(t:Int)(hc:∀x W,az 281 #[.agg (eU x).toArray,JI t] W λe w'=>e=aA (JI (c x))/\aC W w')(hm:∀i j (hij:i<=j) (hj:j<l.length),c l[j] <0->c (l[i]'oM)<0) :
  az 280 #[v,JI t,.func (.func 281) #[] #[]] w λe w'=>(∃k:Nat,k<=l.length/\(∀j (hj:j<l.length),j<k->c l[j] <0)/\(∀j (hj:j<l.length),k<=j->0<=c l[j])/\e=aA (.tuple #[JI k,.bool (if hk:k<l.length then c l[k]==0 else false)]))/\aC w w':=by
 obtain⟨A,cap,rfl⟩:=aj h;have HO:=OH h;have HC:=OH hc;have HM:=OH hm;go_enter func280,ntmps280;refine ZP;case round=>
  refine Vf
  .have hh:(a+b) / 2<l.length:=oM
   obtain⟨g,rfl,_,hgz,hq⟩:=cM dt HO.out hh;have d0:=(hB.cell (p:=⟨g,((a+b) / 2)*4+0,none⟩) hgz).trans (hq 0 dM);have d1:=(hB.cell (p:=⟨g,((a+b) / 2)*4+1,none⟩) hgz).trans (hq 1 dM);have d2:=(hB.cell (p:=⟨g,((a+b) / 2)*4+2,none⟩) hgz).trans (hq 2 dM);have d3:=(hB.cell (p:=⟨g,((a+b) / 2)*4+3,none⟩) hgz).trans (hq 3 dM);refine UN;exact zq41
  .refine KP
   .obtain⟨g,rfl,_,hgz,hq⟩:=cM dt HO.out hk
    have d0:=(hB.cell (p:=⟨g,(a)*4+0,none⟩) hgz).trans (hq 0 dM);have d1:=(hB.cell (p:=⟨g,(a)*4+1,none⟩) hgz).trans (hq 1 dM);have d2:=(hB.cell (p:=⟨g,(a)*4+2,none⟩) hgz).trans (hq 2 dM);have d3:=(hB.cell (p:=⟨g,(a)*4+3,none⟩) hgz).trans (hq 3 dM);refine UN;exact Z0
   .exact Wp
theorem bs_pe{l:List Pe}(h:w.ownsRow B 167 3 v l.length (l.flatMap gp))(hl:l.length<=1000)(c:Pe->Int)(t:Int)(hc:∀x W,az 259 #[.agg (gp x).toArray,JI t] W λe w'=>e=aA (JI (c x))/\aC W w')(hm:∀i j (hij:i<=j) (hj:j<l.length),c l[j] <0->c (l[i]'oM)<0) :
  az 258 #[v,JI t,.func (.func 259) #[] #[]] w λe w'=>(∃k:Nat,k<=l.length/\(∀j (hj:j<l.length),j<k->c l[j] <0)/\(∀j (hj:j<l.length),k<=j->0<=c l[j])/\e=aA (.tuple #[JI k,.bool (if hk:k<l.length then c l[k]==0 else false)]))/\aC w w':=by
 obtain⟨A,cap,rfl⟩:=aj h;have HO:=OH h;have HC:=OH hc;have HM:=OH hm;go_enter func258,ntmps258;refine ZP;case round=>
  refine Vf
  .have hh:(a+b) / 2<l.length:=oM
   obtain⟨g,rfl,_,hgz,hq⟩:=cM dS HO.out hh;have d0:=(hB.cell (p:=⟨g,((a+b) / 2)*3+0,none⟩) hgz).trans (hq 0 dM);have d1:=(hB.cell (p:=⟨g,((a+b) / 2)*3+1,none⟩) hgz).trans (hq 1 dM);have d2:=(hB.cell (p:=⟨g,((a+b) / 2)*3+2,none⟩) hgz).trans (hq 2 dM);simp only[Xa0,Xa1,Xb8]at d0 d1 d2;exact zq41
  .refine KP
   .obtain⟨g,rfl,_,hgz,hq⟩:=cM dS HO.out hk
    have d0:=(hB.cell (p:=⟨g,(a)*3+0,none⟩) hgz).trans (hq 0 dM);have d1:=(hB.cell (p:=⟨g,(a)*3+1,none⟩) hgz).trans (hq 1 dM);have d2:=(hB.cell (p:=⟨g,(a)*3+2,none⟩) hgz).trans (hq 2 dM);simp only[Xa0,Xa1,Xb8]at d0 d1 d2;exact Z0
   .exact Wp
theorem bs_su{l:List Su}(h:w.ownsRow B 170 5 v l.length (l.flatMap el))(hl:l.length<=1000)(c:Su->Int)(t:Su)(hc:∀x W,az 262 #[.agg (el x).toArray,.agg (el t).toArray] W λe w'=>e=aA (JI (c x))/\aC W w')(hm:∀i j (hij:i<=j) (hj:j<l.length),c l[j] <0->c (l[i]'oM)<0) :
  az 261 #[v,.agg (el t).toArray,.func (.func 262) #[] #[]] w λe w'=>(∃k:Nat,k<=l.length/\(∀j (hj:j<l.length),j<k->c l[j] <0)/\(∀j (hj:j<l.length),k<=j->0<=c l[j])/\e=aA (.tuple #[JI k,.bool (if hk:k<l.length then c l[k]==0 else false)]))/\aC w w':=by
 obtain⟨A,cap,rfl⟩:=aj h;have HO:=OH h;refine nE;refine nH;go_enter func261,ntmps261;refine ay;go_loopw [9,10] (λi j wr=>∃a b:Nat,i=JI a/\j=JI b/\a<=b/\b<=l.length/\(∀q (hq:q<l.length),q<a->c l[q] <0)/\(∀q (hq:q<l.length),b<=q->0<=c l[q])/\aC w wr/\wr.heap[w.heap.size]?=OC (el t).toArray 170) (λi j _=>(intOf j).toNat- (intOf i).toNat);case atStart=>exact⟨0,l.length,rfl,rfl,oM,oM,λq _ hq=>oM,λq hq hq2=>oM,gM,km⟩
 case round=>
  obtain⟨a,b,rfl,rfl,hab,hbl,h1,h2,hB,hX⟩:=hrel;refine An;have yB:=hB.size;by_cases hlt:a<b
  .have hh:(a+b) / 2<l.length:=oM
   obtain⟨g,rfl,_,hgz,hq⟩:=cM ce HO.out hh;have d0:=(hB.cell (p:=⟨g,((a+b) / 2)*5+0,none⟩) hgz).trans (hq 0 dM);have d1:=(hB.cell (p:=⟨g,((a+b) / 2)*5+1,none⟩) hgz).trans (hq 1 dM);have d2:=(hB.cell (p:=⟨g,((a+b) / 2)*5+2,none⟩) hgz).trans (hq 2 dM);have d3:=(hB.cell (p:=⟨g,((a+b) / 2)*5+3,none⟩) hgz).trans (hq 3 dM);have d4:=(hB.cell (p:=⟨g,((a+b) / 2)*5+4,none⟩) hgz).trans (hq 4 dM);refine U3;refine ZM;have i1:(0:Int)<=((a:Int)+(b:Int)) / 2:=oM;have i2:((a:Int)+(b:Int)) / 2<(l.length:Int):=oM;have i3:(((a:Int)+(b:Int)) / 2).toNat=(a+b) / 2:=oM;generalize hxx:l[(a+b) / 2]=x at *;have HXX:=OH hxx;refine sf;refine gq;refine rg 7 (λw'=>Bk w' w.heap.size #[JI t.who,JI t.track,JI t.layer,JI t.tid,.bool t.muted] 170/\w'.cell? ⟨g,((a+b) / 2)*5,none⟩=some (JI x.who)/\w'.cell? ⟨g,((a+b) / 2)*5+1,none⟩=some (JI x.track)/\w'.cell? ⟨g,((a+b) / 2)*5+2,none⟩=some (JI x.layer)/\w'.cell? ⟨g,((a+b) / 2)*5+3,none⟩=some (JI x.tid)/\w'.cell? ⟨g,((a+b) / 2)*5+4,none⟩=some (.bool x.muted)/\aC wr w') zt97 (λhHeld0=>?_);refine Fq;refine YE;obtain⟨e0,e1,e2,e3,e4⟩:_/\_/\_/\_/\_:=⟨(hb2.cell (p:=⟨g,((a+b) / 2)*5+0,none⟩) un).trans d0,(hb2.cell (p:=⟨g,((a+b) / 2)*5+1,none⟩) un).trans d1,(hb2.cell (p:=⟨g,((a+b) / 2)*5+2,none⟩) un).trans d2,(hb2.cell (p:=⟨g,((a+b) / 2)*5+3,none⟩) un).trans d3,(hb2.cell (p:=⟨g,((a+b) / 2)*5+4,none⟩) un).trans d4⟩
   refine W7;refine As;rw[←HXX.out]at HCC;refine Lr;by_cases hcn:cc<0
   .have hcd:decide (cc<0)=true:=by simpa using hcn
    refine dA;case rel=>exact⟨(a+b) / 2+1,b,(by congr 1),rfl,oM,hbl,λq hq hq2=>by
     by_cases hqa:q<a
     .exact H1.out q hq hqa
     .exact HM.out q ((a+b) / 2) oM hh (by rw[HCC.out];exact hcn),H2.out,⟨HHB2.out,hX2⟩⟩
    case measure=>exact di
   .have hcd:decide (cc<0)=false:=by simpa using hcn
    refine dA;case rel=>exact⟨a,(a+b) / 2,rfl,(by congr 1),oM,oM,H1.out,λq hq hq2=>by
     refine Wh
     .exact hq3,⟨HHB2.out,hX2⟩⟩
    case measure=>exact di
  .refine KP
   .obtain⟨g,rfl,_,hgz,hq⟩:=cM ce HO.out hk
    have d0:=(hB.cell (p:=⟨g,(a)*5+0,none⟩) hgz).trans (hq 0 dM);have d1:=(hB.cell (p:=⟨g,(a)*5+1,none⟩) hgz).trans (hq 1 dM);have d2:=(hB.cell (p:=⟨g,(a)*5+2,none⟩) hgz).trans (hq 2 dM);have d3:=(hB.cell (p:=⟨g,(a)*5+3,none⟩) hgz).trans (hq 3 dM);have d4:=(hB.cell (p:=⟨g,(a)*5+4,none⟩) hgz).trans (hq 4 dM);refine U3;refine YT;have i2:(a:Int)<(l.length:Int):=oM;generalize hxx:l[a]=x at *;have HXX:=OH hxx;refine sf;refine jo;refine rg 15 (λw'=>Bk w' w.heap.size #[JI t.who,JI t.track,JI t.layer,JI t.tid,.bool t.muted] 170/\w'.cell? ⟨g,(a)*5,none⟩=some (JI x.who)/\w'.cell? ⟨g,(a)*5+1,none⟩=some (JI x.track)/\w'.cell? ⟨g,(a)*5+2,none⟩=some (JI x.layer)/\w'.cell? ⟨g,(a)*5+3,none⟩=some (JI x.tid)/\w'.cell? ⟨g,(a)*5+4,none⟩=some (.bool x.muted)/\aC wr w') zt97 (λhHeld0=>?_);refine iU;refine gN;refine tk 10 ?_;refine rY;refine YE;obtain⟨e0,e1,e2,e3,e4⟩:_/\_/\_/\_/\_:=⟨(hb2.cell (p:=⟨g,(a)*5+0,none⟩) un).trans d0,(hb2.cell (p:=⟨g,(a)*5+1,none⟩) un).trans d1,(hb2.cell (p:=⟨g,(a)*5+2,none⟩) un).trans d2,(hb2.cell (p:=⟨g,(a)*5+3,none⟩) un).trans d3,(hb2.cell (p:=⟨g,(a)*5+4,none⟩) un).trans d4⟩
    refine W7;refine AC;refine As;rw[←HXX.out]at HCC;exact YF
   .refine Zs
    refine jo;go_quiet (fail);refine df;exact⟨Uc,bF hB _⟩
def SG(a b:Int):Int:=if a=0 then b else a
theorem or_t{Z:Nat}(h:w.heap[Z]?=OC #[JI a,JI b] 3):az 263 #[.slice (aT Z) 2 2] w λe w'=>e=aA (JI (SG a b))/\w=w':=by
 refine zl;by_cases ha:a=0
 .subst ha
  have e1:SG 0 b=b:=rfl;have E:=OH e1;clear e1;by_cases hb:b=0
  .subst hb
   refine KR;go_loop [8] (λi=>∃k:Nat,k<=2/\i=JI k) (λi=>2- (intOf i).toNat);case atStart=>exact⟨0,oM,rfl⟩
   case round=>
    obtain⟨k,hk,rfl⟩:=hrel;match k,hk with
    |0,_=>
     exact Wi
    |1,_=>
     refine ay;go_round;(case rel=>exact⟨2,oM,rfl⟩);(case measure=>simp[intOf])
    |2,_=>refine bj;exact vg
  .have hb1:(b==0)=false:=by simpa using hb
   refine KR;go_loop [8] (λi=>∃k:Nat,k<=1/\i=JI k) (λi=>2- (intOf i).toNat);case atStart=>exact⟨0,oM,rfl⟩
   case round=>
    obtain⟨k,hk,rfl⟩:=hrel;match k,hk with
    |0,_=>
     exact Wi
    |1,_=>refine bj;exact vg
 .have e1:SG a b=a:=if_neg ha
  have E:=OH e1;clear e1;have hb1:(a==0)=false:=by simpa using ha
  refine KR;go_loop [8] (λi=>i=JI 0) (λi=>2- (intOf i).toNat);case atStart=>rfl
  case round=>subst hrel;refine bj;exact vg
def suF(t x:Su):Int:=SG (fl x.who t.who) (fl x.track t.track)
theorem RK(x y:Su)(w:World):az 262 #[.agg (el x).toArray,.agg (el y).toArray] w λe w'=>e=aA (JI (suF y x))/\aC w w':=by have hE:suF y x=SG (fl x.who y.who) (fl x.track y.track):=rfl;rw[hE];go_enter func262,ntmps262;refine ay;have hX:=ao w (.cells #[JI x.who,JI x.track,JI x.layer,JI x.tid,.bool x.muted] 170) _ rfl;have hY:=ao (w.alloc (.cells #[JI x.who,JI x.track,JI x.layer,JI x.tid,.bool x.muted] 170)) (.cells #[JI y.who,JI y.track,JI y.layer,JI y.tid,.bool y.muted] 170) _ rfl;refine rg 12 (λw'=>Bk w' w.heap.size #[JI x.who,JI x.track,JI x.layer,JI x.tid,.bool x.muted] 170/\Bk w' (w.heap.size+1) #[JI y.who,JI y.track,JI y.layer,JI y.tid,.bool y.muted] 170/\w.heap.size+2<=w'.heap.size/\aC w w') Kb (λhHeld0=>?_);refine vm;refine tk 5 ?_;refine mj;refine EG;refine(pY _ _ _).mono ?_;rintro e w2 ⟨rfl,rfl⟩;refine hK.out _ _ Kb (λhHeld1=>?_);refine bV;refine kB;refine(pY _ _ _).mono ?_;rintro e w2 ⟨rfl,rfl⟩;refine hK.out _ _ Kb (λhHeld2=>?_);refine bV;refine sm;refine hK.out _ _ Kb (λhHeld3=>?_);refine bV;refine rY;go_simp;refine(or_t (a:=fl x.who y.who) (b:=fl x.track y.track) km).mono ?_;rintro e w2 ⟨rfl,rfl⟩;refine hK.out _ _ Kb (λhHeld4=>?_);refine bV;refine je;exact zh
theorem Sy(t:Int)(x:Pe)(w:World):az 259 #[.agg (gp x).toArray,JI t] w λe w'=>e=aA (JI (fl x.who t))/\aC w w':=by go_enter func259,ntmps259;exact L4
theorem RC(t:Int)(x:Tk)(w:World):az 281 #[.agg (eU x).toArray,JI t] w λe w'=>e=aA (JI (fl x.id t))/\aC w w':=by go_enter func281,ntmps281;exact L4
structure Tr where
 id:Int
 owner:Int
 frm:Int
 ssrcs:List Int
structure De where
 people:List Pe
 tracks:List Tr
 subs:List Su
abbrev iJ(l:List Int):List Value:=l.map (Xc3 .u32)
def gy(w:World)(B:Nat)(k:Tk)(t:Tr):Prop:=k.id=t.id/\k.owner=t.owner/\k.fr=t.frm/\w.ownsRow B 52 1 (.slice k.a k.n k.c) k.n (iJ t.ssrcs)
def eX(w:World)(B:Nat)(ks:List Tk)(ts:List Tr):Prop:=ks.length=ts.length/\∀i (h1:i<ks.length) (h2:i<ts.length),gy w B ks[i] ts[i]
structure bK(w:World)(B:Nat)(vp vt vs:Value)(d:De):Prop where
 p:w.ownsRow B 167 3 vp d.people.length (d.people.flatMap gp)
 t:∃ks,w.ownsRow B 173 4 vt ks.length (ks.flatMap eU)/\eX w B ks d.tracks
 s:w.ownsRow B 170 5 vs d.subs.length (d.subs.flatMap el)
theorem gy.kept{t:Tr}(h:gy w B k t)(hc:ag S w w')(h1:gk S 52 w):gy w' B k t:=⟨h.1,h.2.1,h.2.2.1,ah h.2.2.2 hc h1⟩
theorem gy.mono{t:Tr}(h:gy w B k t)(hB:B'<=B):gy w B' k t:=⟨h.1,h.2.1,h.2.2.1,aW h.2.2.2 hB⟩
theorem eX.kept{ts:List Tr}(h:eX w B ks ts)(hc:ag S w w')(h1:gk S 52 w):eX w' B ks ts:=⟨h.1,λi a b=>(h.2 i a b).kept hc h1⟩
theorem eX.mono{ts:List Tr}(h:eX w B ks ts)(hB:B'<=B):eX w B' ks ts:=⟨h.1,λi a b=>(h.2 i a b).mono hB⟩
section
variable {w w':World}{B:Nat}{v vp vt vs:Value}{d:De}
theorem bK.kept(h:bK w B vp vt vs d)(hc:ag S w w')(h1:gk S 167 w)(h2:gk S 173 w)(h3:gk S 170 w)(h4:gk S 52 w):bK w' B vp vt vs d:=by obtain⟨ks,k1,k2⟩:=h.t;exact⟨ah h.p hc h1,⟨ks,ah k1 hc h2,k2.kept hc h4⟩,ah h.s hc h3⟩
theorem bK.below(h:bK w B vp vt vs d)(hb:aC w w'):bK w' B vp vt vs d:=h.kept (S:=af) (.of hb) cy cy cy cy
theorem bK.mono(h:bK w B vp vt vs d)(hB:B'<=B):bK w B' vp vt vs d:=by obtain⟨ks,k1,k2⟩:=h.t;exact⟨aW h.p hB,⟨ks,aW k1 hB,k2.mono hB⟩,aW h.s hB⟩
def gX{α:Type}(c:α->Int)(l:List α):Nat:=(l.takeWhile λx=>decide (c x<0)).length
def tC{α:Type}(c:α->Int)(l:List α):Bool:=match l[gX c l]? with|some x=>c x==0|none=>false
def QG{α:Type}(c:α->Int)(l:List α):Prop:=∀i j (hij:i<=j) (hj:j<l.length),c l[j] <0->c (l[i]'(Xb7 hij hj))<0
theorem SS{α:Type}(c:α->Int)(l:List α)(k:Nat)(hk:k<=l.length)(h1:∀j (hj:j<l.length),j<k->c l[j] <0)(h2:∀j (hj:j<l.length),k<=j->0<=c l[j]):gX c l=k:=by
 induction l generalizing k with
 |nil=>
  simp at hk;subst hk;rfl
 |cons x l ih=>
  unfold gX;rw[Xa9];cases k with
  |zero=>
   have:=h2 0 sM oM;rw[Xa7]at this;rw[if_neg (by simpa using this)];rfl
  |succ k=>have:=h1 0 sM oM;rw[Xa7]at this;rw[if_pos (by simpa using this),Xb2];have:=ih k rG (λj hj hjk=>by have:=h1 (j+1) um oM;simpa using this) (λj hj hjk=>by have:=h2 (j+1) um oM;simpa using this);unfold gX at this;rw[this]
theorem Qq{α:Type}{c:α->Int}{l:List α}{f:FuncId}{args:Array Value}(h:az f args w λe w'=>(∃k:Nat,k<=l.length/\(∀j (hj:j<l.length),j<k->c l[j] <0)/\(∀j (hj:j<l.length),k<=j->0<=c l[j])/\e=aA (.tuple #[JI k,.bool (if hk:k<l.length then c l[k]==0 else false)]))/\aC w w')(_:QG c l) :
  az f args w λe w'=>e=aA (.tuple #[JI (gX c l),.bool (tC c l)])/\aC w w':=h.mono λe w' ⟨⟨k,h1,h2,h3,h4⟩,hb⟩=>by
 have e1:=SS c l k h1 h2 h3;refine⟨?_,hb⟩;rw[h4,e1];unfold tC;rw[e1];by_cases hk:k<l.length
 .rw[dif_pos hk,PI hk]
 .rw[dif_neg hk,Xa8 oM]
def ja(x a b:Int):Bool:=decide (a<=x/\x<=b)
theorem rb(x a b:Int)(w:World):az 103 #[JI x,JI a,JI b] w λe w'=>e=aA (.bool (ja x a b))/\w=w':=by
 by_cases h1:a<=x
 .have d1:decide (a<=x)=true:=by simpa using h1
  have d2:ja x a b=decide (x<=b):=by simp[ja,h1]
  exact XF
 .have d1:decide (a<=x)=false:=by simpa using h1
  have d2:ja x a b=false:=by simp[ja,h1]
  exact XF
theorem dnew_t(a b c s:Int)(ha:ja a 1 16=true)(hb:ja b 1 16=true)(hc:ja c 1 16=true)(hs:ja s 1 64=true)(w:World):az 57 #[.agg #[JI a,JI b,JI c,JI s]] w λe w'=>e=aA (.tuple #[.agg #[JI a,JI b,JI c,JI s,.slice none 0 0,.slice none 0 0,.slice none 0 0],JI 0])/\aC w w':=by
 have i1:=λW=>rb a 1 16 W
 have i2:=λW=>rb b 1 16 W
 have i3:=λW=>rb c 1 16 W
 have i4:=λW=>rb s 1 64 W
 rw[ha]at i1;rw[hb]at i2;rw[hc]at i3;rw[hs]at i4;go_enter func57,ntmps57;refine ay;refine(i1 _).mono ?_;refine jf;refine(i2 _).mono ?_;refine jf;refine(i3 _).mono ?_;refine jf;refine(i4 _).mono ?_;refine jf;refine FR;exact ql
theorem nf{α:Type}(c:α->Int)(l:List α):gX c l<=l.length/\(∀j (hj:j<l.length),j<gX c l->c l[j] <0)/\(∀hk:gX c l<l.length,0<=c l[gX c l]):=by
 unfold gX;induction l with
 |nil=>
  simp
 |cons x l ih=>
  rw[Xa9];by_cases hx:c x<0
  .have e:decide (c x<0)=true:=by simpa using hx
   simp only[e,if_true,Xb2];refine⟨oM,λj hj hjk=>?_,λhk=>?_⟩
   .cases j with
    |zero=>
     simpa using hx
    |succ j=>simpa using ih.2.1 j um oM
   .simpa using ih.2.2 rG
  .have e:decide (c x<0)=false:=by simpa using hx
   simp only[e,Xc1,if_false,List.length_nil];exact⟨oM,λj hj hjk=>oM,λhk=>xM⟩
theorem Ha{α:Type}{c:α->Int}{l:List α}(h2:∀i j (hij:i<=j) (hj:j<l.length),0<c (l[i]'(Xb7 hij hj))->0<c l[j]):tC c l=l.any λx=>c x==0:=by
 obtain⟨k1,k2,k3⟩:=nf c l;unfold tC;cases ha:l.any λx=>c x==0 with
 |true=>
  obtain⟨x,hx,h0⟩:=Xa3.1 ha;refine Am;have h0:c l[j]=0:=by simpa using h0
  have hkj:gX c l<=j:=Nat.le_of_not_lt λq=>by have:=k2 j hj q;omega
  have hk:gX c l<l.length:=oM;have h3:=k3 hk;have h4:¬0<c l[gX c l]:=λq=>by have:=h2 _ j hkj hj q;omega
  rw[PI hk];simp;omega
 |false=>
  by_cases hk:gX c l<l.length
  .rw[PI hk]
   exact(by simpa using Xb1.1 ha l[gX c l] ny)
  .rw[Xa8 oM]
def fi(t:Int)(l:List Int):Nat:=gX (λi=>fl i t) l
def p8(l:List Int):Prop:=l.Pairwise λa b=>a<b
def QN(a b:Int×Int):Prop:=a.1<b.1\/a.1=b.1/\a.2<b.2
def mL(t x:Int×Int):Int:=SG (fl x.1 t.1) (fl x.2 t.2)
def kR(t:Int×Int)(l:List (Int×Int)):Nat:=gX (mL t) l
def B9(l:List (Int×Int)):Prop:=l.Pairwise QN
def bD(l:List Su):List (Int×Int):=l.map λx=>(x.who,x.track)
theorem Gs{α:Type}{R:α->α->Prop}{l:List α}(h:l.Pairwise R)(i j:Nat)(hij:i<=j)(hj:j<l.length):l[i]'(Xb7 hij hj)=l[j]\/R (l[i]'(Xb7 hij hj)) l[j]:=by
 rcases Nat.lt_or_eq_of_le hij with q|rfl
 .exact .inr (List.pairwise_iff_getElem.1 h i j _ hj q)
 .exact jm
theorem rD{a b:Int}:fl a b<0↔a<b:=K9
theorem rC{a b:Int}:0<fl a b↔b<a:=K9
theorem iQ{a b:Int}:fl a b=0↔a=b:=K9
theorem GY{t:Int×Int}:mL t x<0↔QN x t:=by unfold mL SG QN;have h1:= @rD x.1 t.1;have h2:= @iQ x.1 t.1;have h3:= @rD x.2 t.2;split<;>omega
theorem GX{t:Int×Int}:0<mL t x↔QN t x:=by unfold mL SG QN;have h1:= @rC x.1 t.1;have h2:= @iQ x.1 t.1;have h3:= @rC x.2 t.2;split<;>omega
theorem o4{t:Int×Int}:mL t x=0↔x=t:=by unfold mL SG;have h2:= @iQ x.1 t.1;have h3:= @iQ x.2 t.2;rw[Prod.ext_iff];split<;>omega
theorem OU{l:List Int}(h:p8 l)(t:Int):QG (λi=>fl i t) l:=λi j hij hj hn=>by rw[rD]at hn ⊢;rcases Gs h i j hij hj with q|q<;>omega
theorem Py{l:List Int}(h:p8 l)(t:Int):tC (λi=>fl i t) l=decide (t∈l):=by
 rw[Ha λi j hij hj hp=>by rw[rC]at hp ⊢;rcases Gs h i j hij hj with q|q<;>omega,Xc2,Xa3,decide_eq_true_iff]
 exact⟨λ⟨x,hx,h0⟩=>by rw[←iQ.1 (by simpa using h0:fl x t=0)];exact hx,λhx=>⟨t,hx,by simpa using iQ.2 rfl⟩⟩
theorem pQ{a b c:Int×Int}(h:QN a b)(k:QN b c):QN a c:=by unfold QN at *;omega
theorem mono_k{l:List (Int×Int)}(h:B9 l)(t:Int×Int):QG (mL t) l:=λi j hij hj hn=>by
 rw[GY]at hn ⊢;rcases Gs h i j hij hj with q|q
 .rw[q]
  exact hn
 .exact pQ q hn
theorem hit_k{l:List (Int×Int)}(h:B9 l)(t:Int×Int):tC (mL t) l=decide (t∈l):=by
 rw[Ha λi j hij hj hp=>by
  rw[GX]at hp ⊢;rcases Gs h i j hij hj with q|q
  .rw[←q]
   exact hp
  .exact pQ hp q,Xc2,Xa3,decide_eq_true_iff]
 exact⟨λ⟨x,hx,h0⟩=>by rw[←o4.1 (by simpa using h0:mL t x=0)];exact hx,λhx=>⟨t,hx,by simpa using o4.2 rfl⟩⟩
theorem o0{α β:Type}(f:α->β)(c:β->Int)(l:List α):gX (λx=>c (f x)) l=gX c (l.map f):=by unfold gX;rw[List.takeWhile_map,Xb4];rfl
theorem tB{α β:Type}(f:α->β)(c:β->Int)(l:List α):tC (λx=>c (f x)) l=tC c (l.map f):=by unfold tC;rw[o0,List.getElem?_map];cases l[gX c (l.map f)]?<;>rfl
theorem tf{α β:Type}(f:α->β)(c:β->Int)(l:List α)(h:QG c (l.map f)):QG (λx=>c (f x)) l:=λi j hij hj hn=>by have:=h i j hij um Em;exact ia
theorem oV(A1 A2 A3:Option Addr)(m1 m2 m3 n1 n2 n3:Nat)(t:Int){l:List Pe}(h:w.ownsRow B 167 3 v l.length (l.flatMap gp))(hl:l.length<=1000)(hs:p8 (l.map Pe.who))(c1 c2 c3 c4:Int):az 199 #[.agg #[JI c1,JI c2,JI c3,JI c4,v,.slice A2 m2 n2,.slice A3 m3 n3],JI t] w λe w'=>e=aA (.tuple #[JI (fi t (l.map Pe.who)),.bool (decide (t∈l.map Pe.who))])/\aC w w':=by
 obtain⟨A,n,rfl⟩:=aj h;have hb:=λW (hb:aC w W)=>Qq (bs_pe uJ hl _ t (λx W=>Sy t x W) Uj) Uj
 rw[o0 Pe.who (λi=>fl i t),tB Pe.who (λi=>fl i t),Py hs]at hb;generalize decide (t∈l.map Pe.who)=bb at hb ⊢;refine mn;go_enter func199,ntmps199;exact MP
theorem wO(A1 A2 A3:Option Addr)(m1 m2 m3 n1 n2 n3:Nat)(t:Int){l:List Tk}(h:w.ownsRow B 173 4 v l.length (l.flatMap eU))(hl:l.length<=1000)(hs:p8 (l.map Tk.id))(c1 c2 c3 c4:Int):az 246 #[.agg #[JI c1,JI c2,JI c3,JI c4,.slice A1 m1 n1,v,.slice A3 m3 n3],JI t] w λe w'=>e=aA (.tuple #[JI (fi t (l.map Tk.id)),.bool (decide (t∈l.map Tk.id))])/\aC w w':=by
 obtain⟨A,n,rfl⟩:=aj h;have hb:=λW (hb:aC w W)=>Qq (bs_tk uJ hl _ t (λx W=>RC t x W) Uh) Uh
 rw[o0 Tk.id (λi=>fl i t),tB Tk.id (λi=>fl i t),Py hs]at hb;generalize decide (t∈l.map Tk.id)=bb at hb ⊢;refine mn;go_enter func246,ntmps246;exact MP
theorem NN(A1 A2 A3:Option Addr)(m1 m2 m3 n1 n2 n3:Nat)(who track:Int){l:List Su}(h:w.ownsRow B 170 5 v l.length (l.flatMap el))(hl:l.length<=1000)(hs:B9 (bD l))(c1 c2 c3 c4:Int):az 202 #[.agg #[JI c1,JI c2,JI c3,JI c4,.slice A1 m1 n1,.slice A2 m2 n2,v],JI who,JI track] w λe w'=>e=aA (.tuple #[JI (kR (who,track) (bD l)),.bool (decide ((who,track)∈bD l))])/\aC w w':=by
 obtain⟨A,n,rfl⟩:=aj h;have e:suF ⟨who,track,0,0,false⟩=λx:Su=>mL (who,track) (x.who,x.track):=rfl
 have hb:=λW (hb:aC w W)=>Qq (bs_su uJ hl _ ⟨who,track,0,0,false⟩ (λx W=>RK x ⟨who,track,0,0,false⟩ W) UA) UA
 rw[e,o0 (λx:Su=>(x.who,x.track)) (mL (who,track)),tB (λx:Su=>(x.who,x.track)) (mL (who,track)),show l.map (λx:Su=>(x.who,x.track))=bD l from rfl,hit_k hs]at hb;generalize decide ((who,track)∈bD l)=bb at hb ⊢;refine mn;go_enter func202,ntmps202;exact MP
end
theorem OY{x:Int}{k:Nat}(hk:k<zs.length)(h:¬x∈zs.take k)(hx:x≠zs[k]):¬x∈zs.take (k+1):=by rw[Xb0,PI hk];rw[List.mem_append,not_or];exact⟨h,by simpa using hx⟩
theorem To(x:Int)(A:Option Addr)(cap:Nat)(zs:List Int)(w:World)(hl:zs.length<=1000000)(h:bd w A .u32 zs) :
  az 307 #[.slice A zs.length cap,JT x] w λe w'=>∃k:Int,-1<=k/\k<=1000000/\e=aA (JI k)/\decide (0<=k)=decide (x∈zs)/\w'=w:=by
 go_enter func307,ntmps307;refine ay;go_loop [5,8] (λ_ i=>∃k:Nat,k<=zs.length/\i=JI k/\¬x∈zs.take k) (λ_ i=>zs.length- (intOf i).toNat);case atStart=>exact⟨0,oM,rfl,sM⟩
 case round=>
  obtain⟨k,hk,rfl,hx⟩:=hrel;refine nG;by_cases hlt:k<zs.length
  .obtain⟨b,o,hA,hb,hc⟩:=h k hlt
   refine Ve;refine bI;generalize hz:zs[k]=z at hc;have HZ:=OH hz;by_cases he:x=z
   .subst he
    have d1:(x==x)=true:=sM;refine bj;exact⟨k,oM,oM,rfl,by
     have:x∈zs:=by rw[←HZ.out];exact Xa6 hlt
     simp[this],rfl⟩
   .have d1:(x==z)=false:=by simpa using he
    refine ay;go_round;case rel=>exact⟨k+1,oM,eT,OY hlt HX.out (by rw[HZ.out];exact he)⟩
    case measure=>exact di
  .have hkl:k=zs.length:=oM
   refine mq;refine⟨-1,oM,oM,rfl,?_,rfl⟩;have:=HX.out;rw[Xa5]at this;simp[this]
theorem has_u(x:Int)(A:Option Addr)(cap:Nat)(zs:List Int)(w:World)(hl:zs.length<=1000000)(h:bd w A .u32 zs) :
  az 282 #[.slice A zs.length cap,JT x] w λe w'=>e=aA (.bool (decide (x∈zs)))/\w'=w:=by
 have hi:=To x A cap zs w hl h;have HI:=OH hi;go_enter func282,ntmps282;exact Yw
theorem I0{k:IntKind}(h:bd w A k zs)(n:Nat):bd w A k (zs.take n):=by intro i hi;obtain⟨b,o,h1,h2,h3⟩:=h i (by simp at hi;omega);refine⟨b,o,h1,h2,?_⟩;rw[h3,Xa2,Xa2,List.getElem?_take_of_lt (by simp at hi;omega)]
def okS(zs:List Int)(i:Nat):Bool:=!(zs.getD i 0==0)&&!(decide (2147483648<=zs.getD i 0))&&!(decide (zs.getD i 0∈zs.take i))
def tj(zs:List Int):Bool:=ja zs.length 1 3&& (Xa4 zs.length).all (okS zs)
theorem Qx{k:Nat}(h:(Xa4 k).all f=true)(hk:f k=true):(Xa4 (k+1)).all f=true:=by rw[List.range_succ,List.all_append,h];simp[hk]
theorem yx{k n:Nat}(hk:k<n)(h:f k=false):(Xa4 n).all f=false:=by rw[List.all_eq_false];exact⟨k,rG,gV⟩
theorem may_t(A:Option Addr)(cap:Nat)(zs:List Int)(w:World)(hcap:zs.length<=cap)(hl:zs.length<=1000000)(hr:∀z∈zs,0<=z/\z<4294967296)(h:bd w A .u32 zs) :
  az 247 #[.slice A zs.length cap] w λe w'=>e=aA (.bool (tj zs))/\w'=w:=by
 have i1:=rb (zs.length:Int) 1 3 w;cases hin:ja zs.length 1 3 with
 |false=>
  rw[hin]at i1;have I1:=OH i1;clear i1;go_enter func247,ntmps247;refine ay;refine Calls.mono I1.out ?_;refine jN;exact⟨by rw[tj,hin];rfl,rfl⟩
 |true=>
  rw[hin]at i1;have hm:tj zs=(Xa4 zs.length).all (okS zs):=by rw[tj,hin];rfl
  refine nH;clear hm hin;have I1:=OH i1;clear i1;refine bI;clear h;go_enter func247,ntmps247;refine ay;refine Calls.mono I1.out ?_;refine jf;go_loop [3,4,11] (λ_ _ i=>∃k:Nat,k<=zs.length/\i=JI k/\(Xa4 k).all (okS zs)=true) (λ_ _ i=>zs.length- (intOf i).toNat);case atStart=>exact⟨0,oM,rfl,rfl⟩
  case round=>
   obtain⟨k,hk,rfl,hx⟩:=hrel;refine nG;clear hx;by_cases hlt:k<zs.length
   .obtain⟨b,o,hA,hb,hc⟩:=H.out k hlt
    obtain⟨z1,z2⟩:=hr (zs.getD k 0) (by rw[Xa2,PI hlt,Option.getD_some];exact Xa6 hlt);have hok:okS zs k=(!(zs.getD k 0==0)&&!(decide (2147483648<=zs.getD k 0))&&!(decide (zs.getD k 0∈zs.take k))):=rfl;generalize hz:zs.getD k 0=z at hc hok z1 z2;have hh:=has_u z A cap (zs.take k) w xM (I0 H.out k);rw[List.length_take,Nat.min_eq_left hk]at hh;subst hA;clear hz hr;have HH:=OH hh;clear hh;have HO:=OH hok;clear hok;by_cases h0:z=0
    .subst h0
     refine bj;exact⟨by rw[HM.out,yx hlt (by rw[HO.out];rfl)];rfl,rfl⟩
    .have d1:(z==0)=false:=by simpa using h0
     by_cases h2:2147483648<=z
     .have d2:decide (2147483648<=z)=true:=by simpa using h2
      refine bj;exact⟨by rw[HM.out,yx hlt (by rw[HO.out,d1,d2];rfl)];rfl,rfl⟩
     .have d2:decide (2147483648<=z)=false:=by simpa using h2
      cases h3:decide (z∈zs.take k)with
      |true=>
       rw[h3]at HH;have e3:=OH h3;clear h3;refine E7;refine jN;exact⟨by rw[HM.out,yx hlt (by rw[HO.out,d1,d2,e3.out];rfl)];rfl,rfl⟩
      |false=>
       rw[h3]at HH;have e3:=OH h3;clear h3;refine E7;refine jf;go_round;case rel=>exact⟨k+1,oM,eT,Qx HX.out (by rw[HO.out,d1,d2,e3.out];rfl)⟩
       case measure=>exact di
   .have hkl:k=zs.length:=oM
    refine mq;exact⟨by rw[HM.out,HX.out];rfl,rfl⟩
theorem Pg(c1 c2 c3 c4 c5:Int)(v:Value)(a b:Int)(w:World)(hv:v.oneCell'=true):az 253 #[.agg #[JI c1,JI c2,JI c3,JI c4,JI c5,v,JI a,JI b]] w λe w'=>e=aA (.bool (ja a 0 2&&ja b 0 3))/\aC w w':=by
 have i1:=λW=>rb a 0 2 W
 have i2:=λW=>rb b 0 3 W
 cases h1:ja a 0 2 with
 |false=>
  refine Vc;refine jN;exact ql
 |true=>refine Vc;refine jf;refine(i2 _).mono ?_;refine jN;exact⟨sM,gM⟩
def oy(t:TypeId)(B:Nat)(w:World):Nat->Prop:=λj=>B<=j/\∃cur,w.heap[j]?=OC cur t
theorem sY{t:TypeId}(h:t≠e):gk (oy t B w) e w:=λj cur ⟨_,c2,h2⟩=>au h2 h
theorem TH{xs:List Pe}{p:Pe->Bool}(eg:∀args w,(callFunc m args).run prog w=.ok (.enter m args) w)(h:w.ownsRow B 167 3 v xs.length (xs.flatMap gp))(hl:xs.length<=1000000)(hf:∀x∈xs,∀u,ag (oy 167 B w) w u->az m (#[.agg (gp x).toArray] ++caps) u λe u'=>e=aA (.bool (p x))/\aC u u') :
  az 241 #[v,.func (.func m) #[] caps] w λe w'=>∃v',e=aA v'/\w'.ownsRow B 167 3 v' (xs.filter (λx=>!p x)).length ((xs.filter (λx=>!p x)).flatMap gp)/\ag (oy 167 B w) w w':=by
 refine FE
 .refine Fx
  exact(DU _ _).mono λe w' ⟨k1,k2⟩=>⟨_,k1,Xc4 _ _ _ _,Kq⟩
 .obtain⟨_,_,hBg,hm,cr,hg,hsz,hrow⟩:=lE h
  have hgS:∀j,j=g->oy 167 B w j:=λj q=>⟨by rw[q];exact hBg,cr,by rw[q];exact hg⟩
  refine(del_pe (J:=λ_ u=>ag (λb=>b=g) w u) (S:=af) (p:=p) (m:=m) eg hl hg h4 hsz hrow (λj hj u hu=>?_) (λj u u' h1 h2=>h1.trans h2) dp).mono ?_
  .exact Mr
  .refine Mh
   exact⟨_,rfl,eh dS (B:=B) k2 hBg oM hm k3 k4,k6.mono λj _ q=>zt84⟩
theorem ye{xs:List Su}{p:Su->Bool}(eg:∀args w,(callFunc m args).run prog w=.ok (.enter m args) w)(h:w.ownsRow B 170 5 v xs.length (xs.flatMap el))(hl:xs.length<=1000000)(hf:∀x∈xs,∀u,ag (oy 170 B w) w u->az m (#[.agg (el x).toArray] ++caps) u λe u'=>e=aA (.bool (p x))/\aC u u') :
  az 200 #[v,.func (.func m) #[] caps] w λe w'=>∃v',e=aA v'/\w'.ownsRow B 170 5 v' (xs.filter (λx=>!p x)).length ((xs.filter (λx=>!p x)).flatMap el)/\ag (oy 170 B w) w w':=by
 refine FE
 .refine Fx
  exact(DT _ _).mono λe w' ⟨k1,k2⟩=>⟨_,k1,Xc4 _ _ _ _,Kq⟩
 .obtain⟨_,_,hBg,hm,cr,hg,hsz,hrow⟩:=it h
  refine Mi;refine(del_su (J:=λ_ u=>ag (λb=>b=g) w u) (S:=af) (p:=p) (m:=m) eg hl hg h4 hsz hrow (λj hj u hu=>?_) (λj u u' h1 h2=>h1.trans h2) dp).mono ?_
  .exact Mr
  .refine Mh
   exact⟨_,rfl,eh ce (B:=B) k2 hBg oM hm k3 k4,k6.mono λj _ q=>zt84⟩
theorem TG(eg:∀args w,(callFunc m args).run prog w=.ok (.enter m args) w)(h:w.ownsRow B 173 4 v xs.length (xs.flatMap eU))(hl:xs.length<=1000000)(hf:∀x∈xs,∀u,ag (oy 173 B w) w u->az m (#[.agg (eU x).toArray] ++caps) u λe u'=>e=aA (.bool (p x))/\aC u u') :
  az 278 #[v,.func (.func m) #[] caps] w λe w'=>∃v',e=aA v'/\w'.ownsRow B 173 4 v' (xs.filter (λx=>!p x)).length ((xs.filter (λx=>!p x)).flatMap eU)/\ag (oy 173 B w) w w':=by
 refine FE
 .refine Fx
  exact(DS _ _).mono λe w' ⟨k1,k2⟩=>⟨_,k1,Xc4 _ _ _ _,Kq⟩
 .obtain⟨_,_,hBg,hm,cr,hg,hsz,hrow⟩:=gH h
  have hgS:∀j,j=g->oy 173 B w j:=λj q=>⟨by rw[q];exact hBg,cr,by rw[q];exact hg⟩
  refine(del_tk (J:=λ_ u=>ag (λb=>b=g) w u) (S:=af) (p:=p) (m:=m) eg hl hg h4 hsz hrow (λj hj u hu=>?_) (λj u u' h1 h2=>h1.trans h2) dp).mono ?_
  .exact Mr
  .refine Mh
   exact⟨_,rfl,eh dt (B:=B) k2 hBg oM hm k3 k4,k6.mono λj _ q=>zt84⟩
theorem TX(eg:∀args w,(callFunc m args).run prog w=.ok (.enter m args) w)(h:w.ownsRow B 173 4 v xs.length (xs.flatMap eU))(hl:xs.length<=1000000)(hf:∀j (hj:j<xs.length) u,aC w u->az m (#[.agg (eU xs[j]).toArray] ++caps) u λe u'=>e=aA (.bool (p xs[j]))/\aC u u') :
  az 306 #[v,.func (.func m) #[] caps] w λe w'=>∃k:Int,-1<=k/\k<=1000000/\decide (0<=k)=xs.any p/\e=aA (JI k)/\aC w w':=by
 refine FE
 .refine Fx
  exact(tA _ _).mono λe w' ⟨k1,k2⟩=>⟨-1,oM,oM,rfl,k1,by rw[k2];exact Below.refl _ _⟩
 .obtain⟨_,_,hBg,hm,cr,hg,hsz,hrow⟩:=gH h
  refine(Pv (J:=λ_ u=>aC w u) (S:=af) (p:=p) (m:=m) eg hl (λj u hu=>(hu.block g (aB hg)).trans hg) hrow (λj hj u hu=>?_) yN).mono ?_
  .exact(hf j hj u hu).mono λe u' ⟨k1,k2⟩=>⟨k1,aE hu k2,.of k2⟩
  .rintro e w' ⟨k,k1,k2,k3⟩
   rcases k2 with⟨hk,hp,rfl,hb⟩|⟨rfl,rfl,hb⟩
   .exact⟨k,oM,oM,by rw[Xa3.2 ⟨xs[k],Xa6 hk,hp⟩];simp,rfl,hb⟩
   .refine⟨-1,oM,oM,?_,rfl,hb⟩
    rw[Xb1.2 λx hx=>by obtain⟨j,hj,rfl⟩:=List.getElem_of_mem hx;simp[k1 j hj hj]];rfl
structure Cf where
 people:Int
 tracks:Int
 subs:Int
 slots:Int
abbrev gi(c:Cf)(x y z:Value):Array Value:=#[.int .i64 c.people,.int .i64 c.tracks,.int .i64 c.subs,.int .i64 c.slots,x,y,z]
def DX(w:World)(B X:Nat)(c:Cf)(d:De):Prop:=∃vp vt vs,w.heap[X]?=OC (gi c vp vt vs) 42/\bK w B vp vt vs d
theorem wN(l:List Int):∀u∈iJ l,u.oneCell'=true:=jB .u32 l
theorem gy.src{t:Tr}(h:gy w B k t):dV w k.a k.n k.c (iJ t.ssrcs):=eZ h.2.2.2
theorem rj{t:Tr}(h:gy w B k t):t.ssrcs.length=k.n:=by have:=h.2.2.2.1;simpa[iJ]using this
theorem P4{vp vt vs:Value}{d:De}(c:Cf)(h:bK w B vp vt vs d)(h1:d.people.length<=1000)(h2:d.tracks.length<=1000)(h3:d.subs.length<=1000)(h4:∀t∈d.tracks,t.ssrcs.length<=1000) :
  az 188 #[.agg (gi c vp vt vs)] w λe w'=>∃vp' vt' vs',e=aA (.agg (gi c vp' vt' vs'))/\bK w' w.heap.size vp' vt' vs' d/\aC w w':=by
 refine zq78;go_enter func188,ntmps188;refine WL;have hx1:w1.heap[w.heap.size]?=_:=(hb1.block w.heap.size xM).trans eM;have hy1:w1.heap[w.heap.size+1]?=_:=(hb1.block (w.heap.size+1) sM).trans eM;refine ZJ;have hx2:w2.heap[w.heap.size]?=_:=(hb2.block w.heap.size xM).trans eM;have hy2:w2.heap[w.heap.size+1]?=_:=(hb2.block (w.heap.size+1) xM).trans eM;refine ZV;have hx3:w3.heap[w.heap.size]?=_:=(hb3.block w.heap.size xM).trans eM;have hy3:w3.heap[w.heap.size+1]?=_:=(hb3.block (w.heap.size+1) xM).trans eM;refine aa3;go_loopw [3,19] (λ_ i wr=>∃ (k:Nat) (k2:List Tk),k<=ks.length/\i=JI k/\k2.length=ks.length/\wr.ownsRow w.heap.size 173 4 (.slice A6 ks.length n6) k2.length (k2.flatMap eU) /\
  (∀j k1 t,k2[j]?=some k1->d.tracks[j]?=some t->(j<k->gy wr w.heap.size k1 t)/\(k<=j->ks[j]?=some k1)) /\
  wr.heap[w.heap.size]?=OC (gi c (.slice A4 d.people.length n4) (.slice A6 ks.length n6) (.slice A5 d.subs.length n5)) 42 /\
  wr.heap[w.heap.size+1]?=OC #[JI 0,JI 0,JI 0,JI 0,.slice none 0 0,.slice none 0 0,.slice none 0 0] 42 /\
  wr.ownsRow w.heap.size 167 3 (.slice A4 d.people.length n4) d.people.length (d.people.flatMap gp)/\wr.ownsRow w.heap.size 170 5 (.slice A5 d.subs.length n5) d.subs.length (d.subs.flatMap el)/\aC w wr) (λ_ i _=>ks.length- (intOf i).toNat)
 case atStart=>exact YN
 case round=>
  refine ZN
  .refine zq32
   have hgX:g≠w.heap.size:=λq=>au hx (show(42:TypeId)≠173 by decide) Ez
   have hgY:g≠w.heap.size+1:=λq=>au hy (show(42:TypeId)≠173 by decide) Ez
   obtain⟨T,hTT⟩:∃T,T=w.heap.size:=⟨_,rfl⟩
   refine Wf;refine rg 12 (λw'=>Bk w' w.heap.size (gi c (.slice A4 d.people.length n4) (.slice (aT g) ks.length n6) (.slice A5 d.subs.length n5)) 42/\Bk w' g cr 173/\ag af wr w') ⟨bk,bk,bu⟩ (λhHeld0=>?_);refine aa1;have hX5:=(hc5.block w.heap.size z1 id).trans hx;have hYY:=(hc5.block (w.heap.size+1) z2 id).trans hy;exact zq35
  .have hkl:k=ks.length:=oM
   subst hkl;have hY5:ag (λj=>j=w.heap.size+1) wr (wr.setCells (w.heap.size+1) 0 [JI c.people,JI c.tracks,JI c.subs,JI c.slots,.slice A4 d.people.length n4,.slice A6 ks.length n6,.slice A5 d.subs.length n5]):=bA _ _ _;refine ay;refine LI;rw[HL2.out]at ht;refine⟨_,_,_,rfl,(bK.kept (S:=λj=>j=w.heap.size+1) (w:=wr) ⟨HP.out,⟨k2,by rw[HL2.out];exact ht,by rw[HL2.out];exact HKL.out,λi a b=>(HR.out i _ _ (PI a) (PI b)).1 (by have:=HL2.out;omega)⟩,HS.out⟩ hY5 yL yL yL yL),gM⟩
theorem tV{t:TypeId}{a:World}(h:ag af a w)(k:ag (oy t B w) w w'):ag (oy t B a) a w':=(h.mono (T:=oy t B a) λ_ _ q=>q.elim).call k λj hj ⟨q,cur,hc⟩=>⟨q,cur,(h.block j hj id).symm.trans hc⟩
theorem fa{t:TypeId}{cs:Array Value}(h:ag (oy t B w) w w')(hi:w.heap[i]?=OC cs e)(ht:t≠e):w'.heap[i]?=OC cs e:=ae h hi λq=>sY ht _ _ q hi
theorem iq{t:Tr}{ts:List Tr}:eX w B (k::ks) (t::ts)↔gy w B k t/\eX w B ks ts:=by
 constructor
 .intro h
  exact⟨h.2 0 sM sM,by simpa using h.1,λi h1 h2=>h.2 (i+1) (Xc0 h1) (Xc0 h2)⟩
 .intro⟨h1,h2⟩
  refine⟨by simpa using h2.1,λi a b=>?_⟩;cases i with
  |zero=>
   exact h1
  |succ i=>exact h2.2 i (Xb9 a) (Xb9 b)
theorem NG:eX w B [] []:=⟨rfl,λi h=>rF⟩
theorem mC{f:Tk->Bool}{g:Tr->Bool}(hfg:∀k t,gy w B k t->f k=g t):∀ {ks:List Tk} {ts:List Tr},eX w B ks ts->eX w B (ks.filter f) (ts.filter g)
 | [],[],_=>NG
 | [],_::_,h=>by have:=h.1;simp at this
 |_::_,[],h=>by have:=h.1;simp at this
 |k::ks,t::ts,h=>by
  obtain⟨h1,h2⟩:=iq.1 h;have ih:=mC hfg h2;have:=hfg k t h1;rw[Xb3,Xb3,this];cases g t
  .exact ih
  .exact iq.2 ⟨h1,ih⟩
theorem js:∀ {ks:List Tk} {ts:List Tr},eX w B ks ts->ks.map Tk.id=ts.map Tr.id
 | [],[],_=>
  rfl
 | [],_::_,h=>by have:=h.1;simp at this
 |_::_,[],h=>by have:=h.1;simp at this
 |k::ks,t::ts,h=>by obtain⟨h1,h2⟩:=iq.1 h;rw[Xb5,Xb5,h1.1,js h2]
def gU(d:De)(p:Int->Int->Bool):De:=⟨d.people,d.tracks.filter λt=>!p t.id t.owner,d.subs.filter λx=>decide (x.track∈ (d.tracks.filter λt=>!p t.id t.owner).map Tr.id)⟩
theorem eg279:∀args w,(callFunc 279 args).run prog w=.ok (.enter 279 args) w:=λargs w=>rfl
theorem Jz{u:World}{Y:Nat}{c:Cf}{A1 A2 A3:Option Addr}{m1 m2 m3 n1 n2 n3:Nat}{l:List Tk}(x:Su)(hY:u.heap[Y]?=OC #[OV X] 432)(hX:u.heap[X]?=OC (gi c (.slice A1 m1 n1) (.slice A2 m2 n2) (.slice A3 m3 n3)) 42)(h:u.ownsRow B 173 4 (.slice A2 m2 n2) l.length (l.flatMap eU))(hl:l.length<=1000)(hs:p8 (l.map Tk.id)) :
  az 279 #[.agg (el x).toArray,OV Y] u λe u'=>e=aA (.bool (!decide (x.track∈l.map Tk.id)))/\aC u u':=by
 have ht:=λW (hb:aC u W)=>wO (w:=W) A1 A2 A3 m1 m2 m3 n1 n2 n3 x.track uJ hl hs c.people c.tracks c.subs c.slots
 generalize decide (x.track∈l.map Tk.id)=bb at ht ⊢;have HT:=OH ht;obtain⟨c0,f0,z0⟩:=ab hY;obtain⟨c1,f1,z1⟩:=ab hX;go_enter func279,ntmps279;refine ay;refine rg 10 (λw'=>Bk w' Y #[OV X] 432/\Bk w' X (gi c (.slice A1 m1 n1) (.slice A2 m2 n2) (.slice A3 m3 n3)) 42/\Bk w' u.heap.size #[JI x.who,JI x.track,JI x.layer,JI x.tid,.bool x.muted] 170/\ag af u w') ⟨bk,bk,bk,bu⟩ (λhHeld0=>?_);refine uZ;refine(HT.out _ uk).mono ?_;refine uS;refine hK.out _ _ QU (λhHeld1=>?_);refine mi;refine qD;refine je;refine rU;have hc5:ag af u w5:=aM;refine bj;exact⟨rfl,hc5.none⟩
theorem PV{c:Cf}{d:De}(p:Int->Int->Bool)(eg:∀args w,(callFunc m args).run prog w=.ok (.enter m args) w)(h:DX w B X c d)(hB:B<=w.heap.size)(h2:d.tracks.length<=1000)(h3:d.subs.length<=1000)(hs:p8 (d.tracks.map Tr.id))(hf:∀ (k:Tk) (u:World),ag (oy 173 B w) w u->az m (#[.agg (eU k).toArray] ++caps) u λe u'=>e=aA (.bool (p k.id k.owner))/\aC u u') :
  az 244 #[OV X,.func (.func m) #[] caps] w λe w'=>e=aA (.tuple #[])/\DX w' B X c (gU d p)/\ag (λj=>j=X\/B<=j) w w':=by
 refine MF;have hup:p8 ((ks.filter λk=>!p k.id k.owner).map Tk.id):=by rw[p8,←js hks]at hs;exact hs.sublist (List.Sublist.map _ List.filter_sublist)
 have hfl:(ks.filter λk=>!p k.id k.owner).length<=1000:=by have:=List.length_filter_le (λk:Tk=>!p k.id k.owner) ks;omega
 have hids:(ks.filter λk=>!p k.id k.owner).map Tk.id=(d.tracks.filter λt=>!p t.id t.owner).map Tr.id:=js (mC (λk t h=>by rw[h.1,h.2.1]) hks);have hdel:=λW (hW:ag af w W)=>TG (p:=λk=>p k.id k.owner) eg (ah hk hW cy) oM (λk _ u hu=>hf k u (tV hW hu))
 have HDL:=OH hdel;clear hdel hf;have HK:=OH hks;clear hks;refine rK;have HS:=OH hS;clear hS;have HUP:=OH hup;clear hup;have HID:=OH hids;clear hids;refine rL;clear hkl hk hs;refine sf;go_enter func244,ntmps244;refine ay;refine rg 9 (λw'=>Bk w' w.heap.size #[OV X] 432/\Bk w' X (gi c (.slice A1 d.people.length n1) (.slice A2 ks.length n2) (.slice A3 d.subs.length n3)) 42/\ag (oy 173 B w) w w') ⟨bk,bk,bu⟩ (λhHeld0=>?_);refine Fq;go_simp;have hc9:ag af w (w.alloc (.cells #[OV X] 432)).drew:=bu;refine(HDL.out _ hc9).mono ?_;rintro e w5 ⟨v5,rfl,hown5,hb5⟩;have hb6:=tV hc9 hb5;obtain⟨A7,n7,rfl⟩:=aj hown5;have HO5:=OH hown5;refine YP;have hcA:ag (oy 173 B w) w w5:=aM;have hX5:w5.heap[X]?=OC (gi c (.slice A1 d.people.length n1) (.slice A2 ks.length n2) (.slice A3 d.subs.length n3)) 42:=aM;have hY5:w5.heap[w.heap.size]?=OC #[OV X] 432:=aM;have hXn:X≠w.heap.size:=oM;obtain⟨W6,hW6⟩:∃W6,W6=w5.setCell ⟨X,5,none⟩ (.slice A7 (ks.filter λx=>!p x.id x.owner).length n7):=⟨_,rfl⟩
 have hs6:ag (λj=>j=X) w5 W6:=by rw[hW6];exact ag.set (S:=λj=>j=X) dp ⟨X,5,none⟩ (.inl rfl) _
 have hX6:W6.heap[X]?=OC (gi c (.slice A1 d.people.length n1) (.slice A7 (ks.filter λx=>!p x.id x.owner).length n7) (.slice A3 d.subs.length n3)) 42:=by rw[hW6];exact bZ
 have hY6:W6.heap[w.heap.size]?=OC #[OV X] 432:=by rw[hW6];exact bZ
 have ho6:∀ {e:TypeId},e≠42->gk (λj=>j=X) e w5:=λhe=>aJ hX5 (Ne.symm he)
 have T6:=OH (ah HO5.out hs6 (ho6 dM));clear HO5;have P6:=OH (ah (ah HP.out hcA kj) hs6 (ho6 dM));clear HP;have S6:=OH (ah (ah HS.out hcA kj) hs6 (ho6 dM));clear HS;have K6:=OH ((HK.out.kept hcA kj).kept hs6 (ho6 dM));clear HK;have C6:ag (λj=>j=X\/B<=j) w W6:=(hcA.mono λj _ q=> .inr q.1).trans (hs6.mono λj _ q=> .inl q);have hsz6:w.heap.size<=W6.heap.size:=C6.size;have HC6:=OH C6;clear C6;clear hcA hs6 hX5 hY5 ho6 c0 f0 z0;rw[←hW6];clear hW6;have hsd:=λW (hW:ag af W6 W)=>ye (p:=λx=>!decide (x.track∈ (ks.filter λk=>!p k.id k.owner).map Tk.id)) (m:=279) (caps:=#[OV w.heap.size]) eg279 (ah S6.out hW cy) oM (λx _ u hu=>Jz x (fa hu ((hW.block _ (aB hY6) id).trans hY6) dM) (fa hu ((hW.block _ (aB hX6) id).trans hX6) dM) (ah (ah T6.out hW cy) hu kj) hfl HUP.out)
 have HDS:=OH hsd;clear hsd;obtain⟨c1,f1,z1⟩:=ab hX6;obtain⟨c2,f2,z2⟩:=ab hY6;go_simp;refine ay;refine rg 9 (λw'=>Bk w' w.heap.size #[OV X] 432/\Bk w' X (gi c (.slice A1 d.people.length n1) (.slice A7 (ks.filter λx=>!p x.id x.owner).length n7) (.slice A3 d.subs.length n3)) 42/\ag (oy 170 B W6) W6 w') ⟨bk,bk,bu⟩ (λhHeld0=>?_);refine Fq;go_simp;have hc9:ag af W6 W6.drew:=bu;refine(HDS.out _ hc9).mono ?_;rintro e w5 ⟨v5,rfl,hown5,hb5⟩;have hb6:=tV hc9 hb5;obtain⟨A8,n8,rfl⟩:=aj hown5;have HO8:=OH hown5;refine YP;have hcB:ag (oy 170 B W6) W6 w5:=aM;have hX7:w5.heap[X]?=OC (gi c (.slice A1 d.people.length n1) (.slice A7 (ks.filter λx=>!p x.id x.owner).length n7) (.slice A3 d.subs.length n3)) 42:=aM;have hs7:ag (λj=>j=X) w5 (w5.setCell ⟨X,6,none⟩ (.slice A8 (d.subs.filter λx=>decide (x.track∈ (ks.filter λk=>!p k.id k.owner).map Tk.id)).length n8)):=ag.set (S:=λj=>j=X) dp ⟨X,6,none⟩ (.inl rfl) _;have ho7:∀ {e:TypeId},e≠42->gk (λj=>j=X) e w5:=λhe=>aJ hX7 (Ne.symm he)
 refine dg;have h8:=HO8.out;simp only[Bool.not_not]at h8;have hd:gU d p=⟨d.people,d.tracks.filter λt=>!p t.id t.owner,d.subs.filter λx=>decide (x.track∈ (ks.filter λk=>!p k.id k.owner).map Tk.id)⟩:=by rw[gU,HID.out]
 rw[hd];refine⟨rfl,⟨_,_,_,eM,ah (ah P6.out hcB kj) hs7 (ho7 dM),⟨ks.filter λk=>!p k.id k.owner,ah (ah T6.out hcB kj) hs7 (ho7 dM),((mC (λk t h=>by rw[h.1,h.2.1]) K6.out).kept hcB kj).kept hs7 (ho7 dM)⟩,ah h8 hs7 (ho7 dM)⟩,(HC6.out.call hcB (λj _ q=> .inr q.1)).trans (hs7.mono λj _ q=> .inl q)⟩
end Go.Proofs.YtnpancjkjheffaaGreat
