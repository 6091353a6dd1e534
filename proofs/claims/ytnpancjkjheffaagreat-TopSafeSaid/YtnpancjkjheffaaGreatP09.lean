/- Part 11 of the proof of TopSafe. No condition. -/
import Derived.Test.YtnpancjkjheffaaGreatP08
namespace Go.Proofs.YtnpancjkjheffaaGreat
set_option linter.unusedVariables false
set_option linter.unusedSimpArgs false
set_option maxRecDepth 100000
set_option maxHeartbeats 8000000
open Go.RowKit
open Go.Proofs.Tryz
open World renaming ownsRow_nil->PI,news_of_block->Xa0
open _root_.List renaming mem_singleton->Xa1,length_append->Xa2,mem_append->Xa3,take_add_one->Xa4,getD->Xa5,length_map->Xa6
open Region renaming wanted->Xa7,ready->Xa8
open _root_.Nat renaming lt_succ_of_lt->Xa9,le_refl->Xb0
open _root_.Int renaming reducePow->Xb1
open _root_.Array renaming getElem?_eq_getElem->Xb2,length_toList->Xb3
open Value renaming slice->Xb4
open _root_.And renaming intro->Xb5
variable {a:Act}{listed:Array Bool}{cs:Array Value}{e e' ever x:Int}{zs zs':List Int}{B C F N R V c cap g i j k n:Nat}{S:Nat->Prop}{A:Option Addr}{t:TypeId}{vp vs vt:Value}{w w':World}
theorem info3:(prog.info? 3).map (λi=>(i.zero,i.size,i.bytes))=some (some (JI 0),1,8):=kM
theorem JK{W:World}(a:ByteArray)(cap:Nat)(fr:Nat×Nat):bd (W.alloc (.cells (bytesRow a cap) 5 fr)).drew (aT W.heap.size) .u8 (a.data.toList.map λb=>(b.toNat:Int)):=by
 intro i hi;rw[Xa6,Xb3]at hi;refine⟨W.heap.size,0,rfl,by rw[bE,aD];omega,?_⟩;rw[Nat.zero_add];have hb:(W.alloc (.cells (bytesRow a cap) 5 fr)).drew.heap[W.heap.size]?=some (.cells (bytesRow a cap) 5 fr):=ao _ _ _ rfl;rw[cell_of_row _ _ _ _ _ _ hb];have:(bytesRow a cap)[i]?=some (JW ((a.data[i]).toNat:Int)):=by unfold bytesRow;rw[Array.getElem?_append_left nv];simp[Xb2 hi]
 rw[this];simp[Xa5,Xb2 hi]
theorem Qo(a:ByteArray):aG (a.data.toList.map λb=>(b.toNat:Int)):=λz hz=>by obtain⟨b,_,rfl⟩:=List.mem_map.1 hz;have:=b.toNat_lt;omega
theorem Bg:∀ {ps:List Pd} {k:Nat} (hk:k<ps.length) (q:Pd),(dF (ps.set k q)).length+ps[k].calls.length=(dF ps).length+q.calls.length
 |p::ps,0,_,q=>by simp[dF];omega
 |p::ps,k+1,hk,q=>by have:=Bg (ps:=ps) (k:=k) rG q;simp[dF]at this ⊢;omega
def AgainE(w:World)(B:Nat)(vw:Value)(ps:List Pd)(e:Ending)(w':World):Prop:=∃v ps',∃rs:List (Int×Int×Int),e=aA v/\(rs.length<=1/\(dF ps').length+rs.length<=(dF ps).length+1)/\ps'.map (λp:Pd=>(p.at',p.id,p.epoch))=ps.map (λp=>(p.at',p.id,p.epoch))/\dD w' B vw ps'/\w'.ownsRow w.heap.size 255 3 v rs.length (rs.flatMap Cj)/\ag (Fr [(265,B,0),(3,B,0)] [] w) w w'
theorem rn{x:Int×Int×Int}(hg:w.heap[g]?=OC (Cj x).toArray 255)(hB:B<=g):w.ownsRow B 255 3 (.slice (aT g) 1 1) [x].length ([x].flatMap Cj):=
 ⟨rfl,.inr ⟨g,1,_,rfl,hB,hg,sM,lM,rfl,rfl⟩⟩
theorem TY{B2 M room m:Nat}{G:Kx}{t:Option Addr}{L:List Dd.En}{ps:List Pd}{a:ByteArray}{dn is:Bool}(x id:Int)(hC:w.heap[C]?=OC (iP G vp vt vs t ever (.slice A ps.length cap)) 153)(hW:dD w B (.slice A ps.length cap) ps)(hT:Dd.ed w G.D M B2 room m L)(hid:0<=id/\id<2 ^ 64)(hpl:ps.length<=1000)(hf:Dd.PL L id=(a,dn,is))(has:a.size<=1000000) :
  az 110 #[OV C,JI x,JU id] w (AgainE w B (.slice A ps.length cap) ps):=by
 obtain⟨i0,hi0,hz0,hz1,hz2⟩:=aI info3;have hcv:=λW=>run_bytes_of_string (P:=prog) W 9 56 5 a underlying9 underlying56 underlying5
 have HCV:=OH hcv;have hfd:=Dd.find_t w G.D M B2 room m L id hT hid.1 oM a dn is hf;have HFD:=OH hfd;refine nN;have HW:=OH hW;cases dn with
 |true=>
  refine X8;have hcv:=HCV.out;refine ay;have hto:=λ(W:World) (cap':Nat) (fr:Nat×Nat)=>told_t (w:=(W.alloc (.cells (bytesRow a cap') 5 fr)).drew) (A:=some ⟨W.heap.size,0,none⟩) (n:=a.size) (cap:=cap') (zs:=a.data.toList.map λb=>(b.toNat:Int)) (by rw[Xa6,Xb3];rfl) has (Qo a) (JK a cap' fr) (λh=>rF)
  refine(hto _ _ _).mono ?_;rintro e w2 ⟨⟨y1,y2,y3,rfl⟩,hb2⟩;have hc2:ag af w w2:=(show ag af w _ from(hc1.alloc _).drew).next hb2;refine Ac;go_ret;have hc3:ag af w (w2.alloc (.cells #[JI x,JU id,JI y2] 255)):=bu;exact⟨_,ps,[(x,id,y2)],rfl,sM,rfl,HW.out.chg hc3 cy cy cy,rn (x:=(x,id,y2)) eM hc2.size,aY hc3⟩
 |false=>
  refine X8;have hC1:=(hb1.block _ zC).trans hC;have HW1:=OH (HW.out.chg hc1 cy cy cy);obtain⟨cC,fC,zC⟩:=ab hC1;refine ay;go_step3;refine ay;go_loop [14,43] (λ_ i=>∃k:Nat,k<=ps.length/\i=JI k) (λ_ i=>ps.length- (intOf i).toNat);case atStart=>exact⟨0,oM,rfl⟩
  case round=>
   obtain⟨k,hk,rfl⟩:=hrel;by_cases hlt:k<ps.length
   .have hws:=HW1.out
    obtain⟨hpB,hP,hpo,hpl1,hpl2,hpi⟩:=hws.p ps[k] qS;obtain⟨g,off,rfl,hgB,hgl,hcell,-⟩:=mX hws.q (j:=k) (by simpa using hlt);rw[List.getElem?_map,List.getElem?_eq_getElem hlt,Option.map_some]at hcell;obtain⟨pA,pc,hpv⟩:=aj hpo;have hput:=λV w2 gg cap2 h1 h2 h3 h4 h5=>dD.put (V:=V) (w1:=w2) (x:=x) (gg:=gg) (cap2:=cap2) (h1:dD V B (.slice (some ⟨g,off,none⟩) ps.length cap) ps) hlt h2 h3 h4 h5
    have hsm:∀q:Pd,q.at'=ps[k].at'->q.id=ps[k].id->q.epoch=ps[k].epoch->q.calls.length=ps[k].calls.length+1->(ps.set k q).map (λp:Pd=>(p.at',p.id,p.epoch))=(ps.map λp=>(p.at',p.id,p.epoch))/\(dF (ps.set k q)).length=(dF ps).length+1:=λq h1 h2 h3 h4=>⟨by rw[List.map_set];exact List.ext_getElem sM λi a1 a2=>KL,by have:=Bg hlt q;omega⟩
    obtain⟨p,hp⟩:∃p,p=ps[k]:=⟨_,rfl⟩
    rw[←hp]at hput hsm hpB hP hpo hpl1 hpl2 hpi hcell hpv;have HPT:=OH hput;have HSM:=OH hsm;obtain⟨pa,pid,pep,pv,pcl⟩:=p;dsimp only at HPT HSM hpB hP hpo hpl1 hpl2 hpi hcell hpv;subst hpv;refine zu;by_cases hpe:pid=id
    .have f1:(pid==id)=true:=by simpa using hpe
     have f2:(pid !=id)=false:=by simpa using hpe
     have HPE:=OH hpe;by_cases h8:8<pcl.length
     .have f3:decide ((8:Int)<(pcl.length:Int))=true:=by simp only[decide_eq_true_eq];omega
      have f4:decide (8<pcl.length)=true:=by simpa using h8
      refine Ac;go_ret;exact ZD
     .have f3:decide ((8:Int)<(pcl.length:Int))=false:=by simp only[decide_eq_false_iff_not];omega
      have f4:decide (8<pcl.length)=false:=by simpa using h8
      go_wp2_with (first|(at_builtin;refine wpList_append_lies _ rfl (.tmp 65) (.tmp 67) 85 rfl B 3 i0 _ 1 8 underlying85 hi0 hz0 hz1 hz2 rfl dM _ _ _ rfl (dz hpo) ⟨w1.heap.size,0,none⟩ 1 1 [JI x] rfl rfl mf oe dM lM oM xM _ rfl ?_;intro gg cap2 w2 hown2 hgrow hat hlt2;have hP2:=aV (dz (o:=.cells #[JI x] 3) hpo) hgrow (ai hP) dM;obtain⟨c9,f9,z9⟩:=ab hP2))
      (try rw[Exit.noGoto_ret]);go_ret;have hwa:=HW1.out.chg (S:=af) (w':=w1.alloc (.cells #[JI x] 3)) im cy cy cy;have hw2:=HPT.out _ w2 gg cap2 hwa oM hown2 hgrow (by rw[aD]at *;exact hat);have hcg:ag (λi=>(Xb4 pA pcl.length pc).ownBlock=some i) w1 w2:=ag.grown (v:=.slice pA pcl.length pc) (ag.alloc (ag.refl _ w1) _) hgrow (λi hi _=>hi);have hFg:ag (Fr [(265,B,0),(3,B,0)] [] w1) w1 w2:=hcg.mono (λi _ q=>by obtain⟨cur,hq⟩:=bG hpo q;exact eN hq sM (eV hpo i q));have hFs:ag (Fr [(265,B,0),(3,B,0)] [] w2) w2 (w2.setCell ⟨pa,2,none⟩ (.slice (aT gg) (pcl.length+1) cap2)):=tF (ag.set (S:=λj=>j=pa) dp ⟨pa,2,none⟩ (.inl rfl) _) hP2 sM hpB;exact⟨_,_,[],rfl,⟨sM,by have:=(HSM.out ⟨pa,pid,pep,.slice (aT gg) (pcl.length+1) cap2,pcl++ [x]⟩ rfl rfl rfl sM).2;simp only[List.length_nil];omega⟩,(HSM.out ⟨pa,pid,pep,_,pcl++ [x]⟩ rfl rfl rfl sM).1,hw2,PI _ _ _ _,aF (aY hc1) (aF hFg hFs)⟩
    .have f1:(pid==id)=false:=by simpa using hpe
     have f2:(pid !=id)=true:=by simpa using hpe
     exact Mn
   .have hkl:k=ps.length:=oM
    subst hkl;refine Ac;go_ret;exact ZD
section
variable {P:Program}{md:Region.Mode}{l:List Oper}{Q:Exit->Act->World->Prop}{S:World->Prop}{n:Nat}
theorem D8{f:Nat}{oi oj:Oper}(hi:l[i]?=some oi)(hj:l[j]?=some oj)(hr:Xa8 md l.toArray listed=[i,j])(hin:i<n)(hjn:j<n)(h1:∀K':Act->World->Prop,Shut (∀a w,S w->(S w->cq P md l.toArray Q S n g f (listed.setIfInBounds i true) a w)->K' a w)->if Xa7 oi (yielded l.toArray a.tmps)=true then Oper.wp P oi a w K' Q else K' (a.put oi.dst undef) w)(h2:∀K':Act->World->Prop,Shut (∀a w,S w->(S w->cq P md l.toArray Q S n g f (listed.setIfInBounds j true) a w)->K' a w)->if Xa7 oj (yielded l.toArray a.tmps)=true then Oper.wp P oj a w K' Q else K' (a.put oj.dst undef) w) :
  cq P md l.toArray Q S n g (f+1) listed a w:=by
 exact ZT
end
structure QH(n:Nat)(d:De)(se:List Se):Prop where
 h1:d.people.length<=900
 h2:d.tracks.length<=100
 h3:d.subs.length<=100
 h4:∀t∈d.tracks,t.ssrcs.length<=3/\0<=t.id/\t.id<=999/\0<=t.frm/\t.frm<=1000000
 h5:∀x∈d.subs,0<=x.who/\x.who<=999/\0<=x.track/\x.track<=999
 r1:∀x∈ch n d.tracks,OI .u32 x.ssrc/\x.ssrc<2147483648/\O2 .i64 .i64 (x.track,x.layer)
 r2:((ch n d.tracks).map Rt.ssrc).Nodup
 r3:((ch n d.tracks).map λx=>(x.track,x.layer)).Nodup
 d1:∀x∈d.subs.map (ec n d.tracks se),OI .u32 x.ssrc/\2147483648<=x.ssrc/\O2 .i64 .i64 (x.who,x.track)/\O2 .i64 .u32 (x.slot,x.turn)
 d2:((d.subs.map (ec n d.tracks se)).map Dn.ssrc).Nodup
 d3:((d.subs.map (ec n d.tracks se)).map λx=>(x.who,x.track)).Nodup
 d4:((d.subs.map (ec n d.tracks se)).map λx=>(x.slot,x.turn)).Nodup
theorem QH.made{K:Kx}{vw:Value}{t:Option Addr}{d:De}{se:List Se}(m:QH n d se)(hC:w.heap[C]?=OC (iP K vp vt vs t ever vw) 153)(h:bK w B vp vt vs d)(hM:bH w prog 333 (E2 .i64 .i64) (O2 .i64 .i64) K.M (vL se))(ep:Int)(hn:K.n=n)(n0:1<=n)(n1:n<=4) :
  az 159 #[OV C,JU ep] w λe w'=>∃T,e=aA (.tuple #[OV T,JI 0])/\w.heap.size<=T/\dE w' (λj=>w.heap.size<=j) T ep (ch n d.tracks) (d.subs.map (ec n d.tracks se))/\aC w w':=
 made_t hC h hM ep hn n0 n1 m.h1 m.h2 m.h3 m.h4 m.h5 m.r1 m.r2 m.r3 m.d1 m.d2 m.d3 m.d4
def il(d d2:De):List Su:=d.subs.filter λx=>!decide ((x.who,x.track)∈bD d2.subs)
def qM(ep:Int)(s:List Se×List Wt)(x:Su):List Se×List Wt:=(s.1.filter λy=>decide (y.key≠(x.who,x.track)),s.2++ [⟨(CI s.1 (x.who,x.track)).slot,(CI s.1 (x.who,x.track)).turn,ep⟩])
def eB(ep:Int)(s:List Se×List Wt)(g:List Su):List Se×List Wt:=g.foldl (qM ep) s
theorem RT(se:List Se)(k:Int×Int):uz (vL se) k=vL (se.filter λy=>decide (y.key≠k)):=by unfold uz;rw[List.filter_map];rfl
theorem RS(se:List Se)(x:Se)(h:dK (vL se) x.key=none):jv (vL se) x.key (.agg #[JI x.slot,JT x.turn,JT x.ssrc])=vL (se++ [x]):=by rw[gr h];simp[vL]
theorem BH(ep:Int)(s:List Se×List Wt)(g:List Su)(x:Su):eB ep s (g++ [x])=qM ep (eB ep s g) x:=by simp[eB]
theorem Dp(ep:Int)(s:List Se×List Wt)(g:List Su):(eB ep s g).2.length=s.2.length+g.length:=by
 induction g generalizing s with
 |nil=>
  rfl
 |cons x g ih=>rw[show eB ep s (x::g)=eB ep (qM ep s x) g from rfl,ih];simp[qM];omega
section
variable {P:Program}{md:Region.Mode}{l:List Oper}{Q:Exit->Act->World->Prop}{S:World->Prop}{n:Nat}
theorem SY{o o':Oper}(ho:l[n]?=some o)(ho':l[n+1]?=some o')(hk:((List.range n).all (λk=>listed.getD k true)&&decide (Xa8 md l.toArray listed=[n])&&decide (Xa8 md l.toArray (listed.setIfInBounds n true)=[n+1])&&decide (Xa8 md l.toArray ((listed.setIfInBounds n true).setIfInBounds (n+1) true)=[]))=true)(h:∀K':Act->World->Prop,Shut (∀a w,(∀K'':Act->World->Prop,Shut (∀a w,Q .normal a w->K'' a w)->if Xa7 o' (yielded l.toArray a.tmps)=true then Oper.wp P o' a w K'' Q else K'' (a.put o'.dst undef) w)->K' a w)->if Xa7 o (yielded l.toArray a.tmps)=true then Oper.wp P o a w K' Q else K' (a.put o.dst undef) w) :
  cq P md l.toArray Q S n 2 0 listed a w:=by
 refine Vs;obtain⟨⟨⟨k1,k2⟩,k3⟩,k4⟩:=hk;refine WH;refine wpOp_step Eo (λK' hK=>h K' (λa w hW=>hK a w ?_));refine⟨λh0=>(by rw[k3]at h0;cases h0),λj hj=>?_⟩;rw[k3,Xa1]at hj;subst hj;exact wpOp_step (by simpa using ho') (λK' hK=>hW K' (λa w hW=>hK a w ⟨k4,hW⟩))
theorem IM{id:Nat}(n:Nat)(hm:P.follows .mixedOrders=true)(hn:l.length=n+2)(hS:S w.drew)(h:S w.drew->cq P .any l.toArray Q S n 2 n (Array.replicate l.length false) a w.drew):(Code.region id l.toArray true).wp P Q a w:=Wq
end
def dN(c:Cf)(d:De)(q:Rq):De×Int:=if ja q.kind 0 9=false then(d,1) else if(!(q.kind==0)&&!decide (q.who∈d.people.map Pe.who))=true then(d,21) else if((GS q.kind.toNat c d q).2==0)=true then((GS q.kind.toNat c d q).1,0) else(d,(GS q.kind.toNat c d q).2)
@[go_sem] theorem run_store_func{P:Program}{a:Addr}{m:Mode}(f:Fn)(b c:Array Value):(store a (.func f b c) m).run P w=stored P w a (.func f b c) m:=run_store P w a _ m rfl
theorem eg_op(k:Nat)(hk:k<=9):∀args w,(callFunc (189+k) args).run prog w=.ok (.enter (189+k) args) w:=by
 match k,hk with
 |0,_|1,_|2,_|3,_|4,_|5,_|6,_|7,_|8,_|9,_=>exact λ_ _=>rfl
 |k+10,hk=>omega
theorem bK.chg{d:De}(h:bK w B vp vt vs d)(hc:ag S w w')(h1:gk S 167 w)(h2:gk S 173 w)(h3:gk S 170 w)(h4:gk S 52 w):bK w' B vp vt vs d:=by obtain⟨hp,⟨ks,hk,hks⟩,hs⟩:=h;exact⟨ah hp hc h1,⟨ks,ah hk hc h2,hks.kept hc h4⟩,ah hs hc h3⟩
def DoR(w:World)(c:Cf)(r:De×Int)(e:Ending)(w':World):Prop:=∃vp' vt' vs' B',e=aA (.tuple #[.agg (gi c vp' vt' vs'),JI r.2])/\bK w' B' vp' vt' vs' r.1/\(r.2=0->w.heap.size<=B')
theorem do_t{c:Cf}{d:De}{q:Rq}(h:bK w B vp vt vs d)(hF:Fit d)(hq:rh w A cap q) :
  az 154 #[.agg (gi c vp vt vs),.agg (fq q A cap)] w λe w'=>DoR w c (dN c d q) e w'/\aC w w':=by
 have hcl:=λW (hb:aC w W)=>P4 c (h.below hb) (by have:=hF.p;omega) (by have:=hF.t;omega) (by have:=hF.s;omega) hF.ss
 have HCL:=OH hcl;clear hcl;have i1:=λW=>rb q.kind 0 9 W
 refine bI;obtain⟨hp,⟨ks,hk',hks⟩,hS⟩:=h;obtain⟨A1,n1,rfl⟩:=aj hp;obtain⟨A2,n2,rfl⟩:=aj hk';obtain⟨A3,n3,rfl⟩:=aj hS;have hps:=λW (hb:aC w W)=>oV (w:=W) A1 A2 A3 d.people.length ks.length d.subs.length n1 n2 n3 q.who (aX hp hb) (by have:=hF.p;omega) hF.up c.people c.tracks c.subs c.slots
 generalize fi q.who (d.people.map Pe.who)=pi at hps;clear hks hp hk' hS;obtain⟨J,hJ0⟩:∃J,J=dN c d q:=⟨_,rfl⟩
 rw[←hJ0];unfold dN at hJ0;obtain⟨r,hr⟩:∃r,r=GS q.kind.toNat c d q:=⟨_,rfl⟩
 rw[←hr]at hJ0;have hkd:ja q.kind 0 9=true->∃k:Nat,k<=9/\q.kind=k:=λh=>⟨q.kind.toNat,by simp[ja]at h;omega⟩
 have hwb:(!(q.kind==0)&&!decide (q.who∈d.people.map Pe.who))=false->q.kind.toNat≠0->q.who∈d.people.map Pe.who:=λh1 h2=>by
  by_cases h3:q.who∈d.people.map Pe.who
  .exact h3
  .have:q.kind≠0:=λh=>h2 (by rw[h];rfl)
   simp[h3,this]at h1
 obtain⟨b1,e1⟩:∃b,ja q.kind 0 9=b:=⟨_,rfl⟩
 obtain⟨b2,e2⟩:∃b,(q.kind==0)=b:=⟨_,rfl⟩
 obtain⟨b3,e3⟩:∃b,decide (q.who∈d.people.map Pe.who)=b:=⟨_,rfl⟩
 obtain⟨b4,e4⟩:∃b,(r.2==0)=b:=⟨_,rfl⟩
 rw[e1]at hkd i1;rw[e2,e3]at hwb;rw[e3]at hps;rw[e1,e2,e3,e4]at hJ0;clear e1 e3;have HF:=OH hF;clear hF;refine nF;clear hq;refine qf;clear hps;have I1:=OH i1;clear i1;have HKD:=OH hkd;clear hkd;have HWB:=OH hwb;clear hwb;have E4:=OH e4;clear e4;refine ml;clear hr;have hcs:(b1=false/\J=(d,1))\/(b1=true/\b2=false/\b3=false/\J=(d,21))\/(b1=true/\b2=true/\J=if b4=true then(r.1,0) else(d,r.2))\/(b1=true/\b2=false/\b3=true/\J=if b4=true then(r.1,0) else(d,r.2)):=by cases b1<;>cases b2<;>cases b3<;>simp at hJ0 ⊢<;>exact hJ0
 clear hJ0;have hzw:∀ (b:Bool),(q.kind==0)=b->(q.kind !=0)=!b:=λb h=>by rw[bne,h]
 have e5:=hzw _ e2;clear hzw;rcases hcs with⟨rfl,hJ⟩|⟨rfl,rfl,rfl,hJ⟩|⟨rfl,rfl,hJ⟩|⟨rfl,rfl,rfl,hJ⟩;all_goals(
  have HJ:=OH hJ;clear hJ;go_enter func154,ntmps154;go_wp2_with fail;refine(HCL.out _ gM).mono ?_;rintro e w1 ⟨vp',vt',vs',rfl,hD,hb1⟩;obtain⟨W2,hW2⟩:∃W2,W2=(((w.alloc (.cells (gi c (.slice A1 d.people.length n1) (.slice A2 ks.length n2) (.slice A3 d.subs.length n3)) 42)).alloc (.cells (fq q A cap) 50)).alloc (.cells #[JI 0,JI 0,JI 0,JI 0,.slice none 0 0,.slice none 0 0,.slice none 0 0] 42)):=⟨_,rfl⟩
  rw[←hW2]at hD hb1;have hs2:W2.heap.size=w.heap.size+1+1+1:=by rw[hW2];simp only[aD]
  have hX1:w1.heap[w.heap.size]?=OC (gi c (.slice A1 d.people.length n1) (.slice A2 ks.length n2) (.slice A3 d.subs.length n3)) 42:=(hb1.block _ oM).trans (by rw[hW2];exact bZ);have hZ1:w1.heap[w.heap.size+1]?=OC (fq q A cap) 50:=(hb1.block _ oM).trans (by rw[hW2];exact bZ);have hR1:w1.heap[w.heap.size+1+1]?=OC #[JI 0,JI 0,JI 0,JI 0,.slice none 0 0,.slice none 0 0,.slice none 0 0] 42:=(hb1.block _ oM).trans (by rw[hW2];exact bZ);have hB1:aC w w1:=Below.trans (by rw[hW2];go_grown) (hb1.mono oM);have hz21:W2.heap.size<=w1.heap.size:=hb1.size;clear hb1 hW2;have HD:=OH hD;obtain⟨hp,⟨ks',hk',hks⟩,hS⟩:=hD;obtain⟨A4,n4,rfl⟩:=aj hp;obtain⟨A5,n5,rfl⟩:=aj hk';obtain⟨A6,n6,rfl⟩:=aj hS;clear hks hp hk' hS;go_upto_region 3 with fail;obtain⟨W,hW⟩:∃W,W=((w1.alloc (.cells (gi c (.slice A4 d.people.length n4) (.slice A5 ks'.length n5) (.slice A6 d.subs.length n6)) 42)).alloc (.cells #[.func (.func 189) #[OV w1.heap.size] #[],.func (.func 190) #[OV w1.heap.size] #[],.func (.func 191) #[OV w1.heap.size] #[],.func (.func 192) #[OV w1.heap.size] #[],.func (.func 193) #[OV w1.heap.size] #[],.func (.func 194) #[OV w1.heap.size] #[],.func (.func 195) #[OV w1.heap.size] #[],.func (.func 196) #[OV w1.heap.size] #[],.func (.func 197) #[OV w1.heap.size] #[],.func (.func 198) #[OV w1.heap.size] #[]] 386)):=⟨_,rfl⟩
  rw[←hW];obtain⟨fs,hfs⟩:∃fs:Array Value,fs=#[.func (.func 189) #[OV w1.heap.size] #[],.func (.func 190) #[OV w1.heap.size] #[],.func (.func 191) #[OV w1.heap.size] #[],.func (.func 192) #[OV w1.heap.size] #[],.func (.func 193) #[OV w1.heap.size] #[],.func (.func 194) #[OV w1.heap.size] #[],.func (.func 195) #[OV w1.heap.size] #[],.func (.func 196) #[OV w1.heap.size] #[],.func (.func 197) #[OV w1.heap.size] #[],.func (.func 198) #[OV w1.heap.size] #[]]:=⟨_,rfl⟩
  have hX:W.heap[w.heap.size]?=OC (gi c (.slice A1 d.people.length n1) (.slice A2 ks.length n2) (.slice A3 d.subs.length n3)) 42:=kr
  have hZ:W.heap[w.heap.size+1]?=OC (fq q A cap) 50:=kr
  have hR:W.heap[w.heap.size+1+1]?=OC #[JI 0,JI 0,JI 0,JI 0,.slice none 0 0,.slice none 0 0,.slice none 0 0] 42:=kr
  have hT:W.heap[w1.heap.size]?=OC (gi c (.slice A4 d.people.length n4) (.slice A5 ks'.length n5) (.slice A6 d.subs.length n6)) 42:=kr
  have hY:W.heap[w1.heap.size+1]?=OC fs 386:=by rw[hW,hfs];exact bZ
  have hBw:aC w1 W:=by rw[hW];go_grown
  have hBW:aC w W:=hB1.trans (hBw.mono hB1.size);have hfk:∀k,k<=9->fs[k]?=some (.func (.func (189+k)) #[OV w1.heap.size] #[]):=λk hk=>by
   rw[hfs];match k,hk with
   |0,_|1,_|2,_|3,_|4,_|5,_|6,_|7,_|8,_|9,_=>rfl
   |k+10,hk=>omega
  have HFK:=OH hfk;clear hfk hfs hW hX1 hZ1 hR1;obtain⟨cX,fX,zX⟩:=ab hX;obtain⟨cZ,fZ,zZ⟩:=ab hZ;obtain⟨cR,fR,zR⟩:=ab hR;obtain⟨cT,fT,zT⟩:=ab hT;go_wp2_with fail;refine(I1.out _).mono ?_;rintro e w9 ⟨rfl,rfl⟩;go_wp2_with fail)
 .exact Ww
 all_goals(
  refine(HPS.out _ hBW).mono ?_;rintro e w5 ⟨rfl,hb5⟩;have q1:=(hb5.block _ zX).trans hX;have q2:=(hb5.block _ zZ).trans hZ;have q3:=(hb5.block _ zR).trans hR;have q4:=(hb5.block _ zT).trans hT;have q5:=(hb5.block _ (aB hY)).trans hY;have q6:aC w1 w5:=hBw.trans (hb5.mono hBw.size);have q7:aC w w5:=hBW.trans (hb5.mono hBW.size);clear hb5 hX cX fX zX hZ cZ fZ zZ hR cR fR zR hT cT fT zT hY hBw hBW;obtain⟨hX,hZ,hR,hT,hY,hBw,hBW⟩:=Xb5 q1 (Xb5 q2 (Xb5 q3 (Xb5 q4 (Xb5 q5 (Xb5 q6 q7)))));clear q1 q2 q3 q4 q5 q6 q7;obtain⟨cX,fX,zX⟩:=ab hX;obtain⟨cZ,fZ,zZ⟩:=ab hZ;obtain⟨cR,fR,zR⟩:=ab hR;obtain⟨cT,fT,zT⟩:=ab hT;go_wp2_with fail)
 .exact Ww
 all_goals(
  obtain⟨k,hk,hkq⟩:=HKD.out yO;have hkt:q.kind.toNat=k:=oM;have hwm:k≠0->q.who∈d.people.map Pe.who:=λh=>HWB.out sM (by rw[hkt];exact h)
  have hr:=HR.out;rw[hkt]at hr;have hd:=HFK.out k hk;have eg:=eg_op k hk;have hop:=λW (g1:W.heap[w1.heap.size]?=OC (gi c (.slice A4 d.people.length n4) (.slice A5 ks'.length n5) (.slice A6 d.subs.length n6)) 42) (g2:aC w1 W) (g3:aC w W)=>op_t (w:=W) (B:=W2.heap.size) (X:=w1.heap.size) (c:=c) (A:=A) (cap:=cap) (q:=q) k hk ⟨_,_,_,g1,HD.out.below g2⟩ (Nat.le_trans hz21 g2.size) hz21 HF.out hwm ⟨HQ.out.1.below rfl g3,HQ.out.2⟩
  rw[←hr]at hop;have HOP:=OH hop;clear hop hr hwm hkt e2 e5;generalize 189+k=m at hd eg HOP;have hk1:(k:Int)<10:=oM;go_wp2_with fail)
 all_goals(
  refine IM 5 (S:=(λw'=>Bk w' (w.heap.size+1) (fq q A cap) 50/\Bk w' (w1.heap.size+1) fs 386/\ag af w5 w')) kM rM ?_ (λhHeld0=>?_)
  .exact⟨bk,bk,bu⟩
  refine tk 0 ?_;refine tk 1 ?_;refine tk 2 ?_;refine tk 3 ?_;refine tk 4 ?_;refine SY rfl rfl kM (λK hK=>?_);go_simp;have hz9:=hHeld0;go_split_ands;have hc8:ag af w5 w5.drew:=bu;rw[←hkq];refine Calls.mono (HOP.out _ eM (hBw.trans (hc8.none.mono hBw.size)) (hBW.trans (hc8.none.mono hBW.size))) ?_;rintro e w6 ⟨rfl,hDX,hb6⟩;refine hK.out _ _ (λK2 hK2=>?_);go_simp;refine hK2.out _ _ ?_;clear hK hK2 K K2;have hX6:w6.heap[w.heap.size]?=_:=(hb6.block _ oM).trans hX;have hZ6:w6.heap[w.heap.size+1]?=_:=(hb6.block _ oM).trans hZ;have hR6:w6.heap[w.heap.size+1+1]?=_:=(hb6.block _ oM).trans hR;have hB6:aC w w6:=(hBW.trans (hc8.none.mono hBW.size)).trans (hb6.mono oM);clear hc8 hX cX fX zX hZ cZ fZ zZ hR cR fR zR hT cT fT zT hY hBw hBW hd eg HOP HFK HD;obtain⟨cX,fX,zX⟩:=ab hX6;obtain⟨cR,fR,zR⟩:=ab hR6;obtain⟨vp2,vt2,vs2,hT,hD6⟩:=hDX;have HD:=OH hD6;obtain⟨hp,⟨ks2,hk2,-⟩,hS⟩:=hD6;obtain⟨A7,n7,rfl⟩:=aj hp;obtain⟨A8,n8,rfl⟩:=aj hk2;obtain⟨A9,n9,rfl⟩:=aj hS;clear hp hk2 hS;obtain⟨cT,fT,zT⟩:=ab hT;have e4:=E4.out;obtain⟨rd,re⟩:=r;dsimp only at e4 HJ;have e5:(re !=0)=!b4:=by rw[bne,e4]
  cases b4 with
  |true=>
   refine kv;refine FR;rw[show J=(rd,0)from by rw[HJ.out];first|rfl|simp];exact⟨⟨_,_,_,W2.heap.size,rfl,HD.out.chg (S:=λj=>j=w.heap.size+1+1) bu (aJ hR6 dM) (aJ hR6 dM) (aJ hR6 dM) (aJ hR6 dM),λh=>oM⟩,gM⟩
  |false=>refine kv;refine FR;rw[show J=(d,re)from by rw[HJ.out];first|rfl|simp];exact⟨⟨_,_,_,B,rfl,H.out.below gM,λh=>absurd h (by simpa using e4)⟩,gM⟩)
section
variable {w w':World}{V i:Nat}{cs ds:Array Value}{t u:TypeId}{a:World}{S:Nat->Prop}
theorem jH(hs:ag (λj=>j=V) w w')(hV:w.heap[V]?=OC cs t)(h:w.heap[i]?=OC ds u)(ht:u≠t:=by decide):w'.heap[i]?=OC ds u:=ae hs h λq=>au h ht (q ▸ hV)
theorem ag.new(h:ag S a w)(hs:ag (λj=>j=V) w w')(hV:a.heap.size<=V):ag S a w':=h.call hs λj hj q=>by omega
end
def aR(w:World)(g k:Nat):List Value->World
 | []=>w
 |v::l=>aR (w.setCell ⟨g,k,none⟩ v) g (k+1) l
theorem Ba(g:Nat)(t:TypeId)(vs:List Value):∀ (w:World) (k:Nat) (l:List Value),w.heap[g]?=OC l.toArray t->k+vs.length=l.length->(aR w g k vs).heap[g]?=OC (l.take k++vs).toArray t:=by
 induction vs with
 |nil=>
  intro w k l h hk;rw[List.append_nil,List.take_of_length_le (by simp at hk;omega)];exact h
 |cons v vs ih=>
  intro w k l h hk;have h1:=av k v h;rw[List.setIfInBounds_toArray]at h1;have h2:=ih _ (k+1) (l.set k v) h1 (by simp at hk ⊢;omega);rw[show(l.set k v).take (k+1)++vs=l.take k++v::vs by rw[Xa4,List.take_set_of_le (Xb0 _),List.getElem?_set_self (by simp at hk;omega)];simp]at h2
  exact h2
theorem aK(vs:List Value)(h:w.heap[g]?=OC cs t)(hs:vs.length=cs.size):(aR w g 0 vs).heap[g]?=OC vs.toArray t:=by obtain⟨l⟩:=cs;have:=Ba g t vs w 0 l h Ep;exact ia
theorem ax{a:World}(hp:S g\/a.heap.size<=g)(vs:List Value):∀ (w:World) (k:Nat),ag S a w->ag S a (aR w g k vs):=by
 induction vs with
 |nil=>
  intro w k h;exact h
 |cons v vs ih=>intro w k h;exact ih _ _ (h.set ⟨g,k,none⟩ hp v)
theorem jX(h:aG zs)(hj:j<zs.length):0<=zs.getD j 0/\zs.getD j 0<=255:=by have:=h _ Hy;simpa[Xa5,hj]using this
theorem dP(hb:aG zs)(h:bO (zs,e) k=(x,zs',e')):aG zs'/\0<=x/\x<256 ^ k:=Zw
def xQ(zs:List Int):Bool:=decide (2<=zs.length)&& (bits .and .u8 (zs.getD 0 0) 192==128)&&decide (192<=zs.getD 1 0)&&decide (zs.getD 1 0<=223)
theorem is_t(h:BR w B (.slice A zs.length cap) zs)(hb:aG zs):az 88 #[.slice A zs.length cap] w λe w'=>e=aA (.bool (xQ zs))/\w'=w:=by
 by_cases h2:2<=zs.length
 .obtain⟨g,off,rfl,c0⟩:=gG h (j:=0) oM
  obtain⟨g',off',e,c1⟩:=gG h (j:=1) oM;exact zq62
 .exact Zp
theorem Dc(w:World)(t k:Int):az 208 #[JW t,JI k] w λe w'=>(∃r:Nat,e=aA (JI r)/\r<=6)/\w'=w:=by
 obtain⟨q1,f1⟩:∃b,(t==205)=b:=⟨_,rfl⟩
 obtain⟨q2,f2⟩:∃b,(t==206)=b:=⟨_,rfl⟩
 obtain⟨q3,f3⟩:∃b,(k==1)=b:=⟨_,rfl⟩
 cases q1<;>cases q2<;>cases q3<;>(go_enter func208,ntmps208;go_wp2_with fail;all_goals(go_ret;exact⟨⟨_,rfl,dM⟩,rfl⟩))
theorem PK(w:World)(x:Int)(h0:0<=x)(h1:x<=4294967295):az 127 #[JT x] w λe w'=>e=aA (.agg #[JU x,JI 4])/\aC w w':=by go_enter func127,ntmps127;refine ay;refine rc underlying185 ?_;exact EU
structure Ex where
 id:Int
 a:Option Addr
 c:Nat
 zs:List Int
abbrev PR(x:Ex):List Value:=[JW x.id,.slice x.a x.zs.length x.c]
theorem Hd(x:Ex):(PR x).length=2:=rfl
def uF(w:World)(x:Ex):Prop:=BR w 0 (.slice x.a x.zs.length x.c) x.zs/\aG x.zs/\x.zs.length<=1500/\0<=x.id/\x.id<=255
theorem uF.chg{x:Ex}(h:uF w x)(hc:ag S w w')(h5:jF S w):uF w' x:=⟨h.1.chg hc h5,h.2⟩
def Cc(w:World)(e:Ending)(w':World):Prop:=(∃b,e=aA (.bool b))/\aC w w'
theorem RN(w:World)(x:Ex)(hl:x.zs.length<=1500):az 132 #[.agg (PR x).toArray] w (Cc w):=by
 obtain⟨b1,f1⟩:∃b,decide (1<=x.id)=b:=⟨_,rfl⟩
 obtain⟨b2,f2⟩:∃b,decide (x.id<15)=b:=⟨_,rfl⟩
 obtain⟨b3,f3⟩:∃b,decide (1<=x.zs.length)=b:=⟨_,rfl⟩
 cases b1<;>cases b2<;>cases b3<;>(go_enter func132,ntmps132;go_wp2_with fail;all_goals(go_ret;exact⟨⟨_,rfl⟩,ag.none bu⟩))
theorem f130_t(w:World)(x:Ex)(hl:x.zs.length<=1500):az 130 #[.agg (PR x).toArray] w (Cc w):=by
 obtain⟨b1,f1⟩:∃b,(x.id==0)=b:=⟨_,rfl⟩
 cases b1<;>(go_enter func130,ntmps130;go_wp2_with fail;all_goals(go_ret;exact⟨⟨_,rfl⟩,ag.none bu⟩))
theorem f131_t(w:World)(x:Ex)(hl:x.zs.length<=1500):az 131 #[.agg (PR x).toArray] w (Cc w):=by go_enter func131,ntmps131;refine ay;refine(RN _ x hl).mono ?_;rintro r w1 ⟨⟨b,rfl⟩,hb⟩;refine bj;exact⟨⟨_,rfl⟩,ag.none bu⟩
theorem eg130:∀args w,(callFunc 130 args).run prog w=.ok (.enter 130 args) w:=λargs w=>rfl
theorem eg131:∀args w,(callFunc 131 args).run prog w=.ok (.enter 131 args) w:=λargs w=>rfl
structure pj(w:World)(A:Option Addr)(n cap:Nat)(l:List Ex):Prop where
 s:dV w A n cap (l.flatMap PR)
 n:l.length=n
 a:∀ad,A=some ad->l≠ []->∃g off,ad=⟨g,off,none⟩
theorem pj.below{l:List Ex}(h:pj w A n cap l)(hb:aC w w'):pj w' A n cap l:=⟨h.s.below hb,h.n,h.a⟩
theorem BO{l:List Ex}(h:pj w A n cap l)(hi:i<l.length):∃g off,A=some ⟨g,off,none⟩/\w.cell? ⟨g,off+i*2,none⟩=some (JW l[i].id)/\w.cell? ⟨g,off+i*2+1,none⟩=some (.slice l[i].a l[i].zs.length l[i].c):=by
 cases A with
 |none=>have:=(h.s.1 rfl).1;have:=h.n;omega
 |some ad=>have h0:=h.s.2 ad rfl (i*2+0) (JW l[i].id) (by rw[bY Hd l i 0 hi oM];rfl);have h1:=h.s.2 ad rfl (i*2+1) (.slice l[i].a l[i].zs.length l[i].c) (by rw[bY Hd l i 1 hi oM];rfl);obtain⟨g,off,rfl⟩:=h.a _ rfl (λe=>by subst e;simp at hi);rw[Addr.add_lit]at h0 h1;exact⟨g,off,rfl,h0,h1⟩
theorem Tz{l:List Ex}(h:pj w A n cap l)(hl:n<=14)(eg:∀args w,(callFunc F args).run prog w=.ok (.enter F args) w)(hf:∀W,∀x∈l,Calls prog F #[.agg (PR x).toArray] W (Cc W)) :
  az 170 #[.slice A n cap,.func (.func F) #[] #[]] w λe w'=>(∃k:Int,e=aA (JI k)/\ -1<=k/\(n=0->k= -1))/\aC w w':=by
 have HS:=OH h;refine kt;have HN:=OH h.n;go_enter func170,ntmps170;refine ay;go_loopw [8] (λi wr=>∃k:Nat,k<=n/\i=JI k/\aC w wr) (λi _=>n- (intOf i).toNat);case atStart=>exact⟨0,oM,rfl,Below.refl _ _⟩
 case round=>
  obtain⟨k,hk,rfl,hB⟩:=hrel;by_cases hlt:k<n
  .obtain⟨g,off,rfl,c0,c1⟩:=BO (HS.out.below hB) (i:=k) (by have:=HN.out;omega)
   have hkl:k<l.length:=by have:=HN.out;omega
   have hf:=λW=>HF.out W l[k] (List.getElem_mem _)
   have HFK:=OH hf;generalize l[k]=x at *;refine ay;refine(HFK.out _).mono ?_;rintro r w1 ⟨⟨b,rfl⟩,hb⟩;have hB1:=aE hB hb;cases b with
   |true=>
    refine bj;exact⟨⟨k,rfl,oM,λq=>oM⟩,hB1⟩
   |false=>
    refine dA;case rel=>exact⟨k+1,oM,eT,hB1⟩
    case measure=>exact di
  .refine bj
   exact⟨⟨-1,rfl,oM,λ_=>rfl⟩,hB⟩
theorem Hc{l:List Ex}(h:pj w A n cap l)(hl:n<=14)(eg:∀args w,(callFunc F args).run prog w=.ok (.enter F args) w)(hf:∀W,∀x∈l,Calls prog F #[.agg (PR x).toArray] W (Cc W)) :
  az 129 #[.slice A n cap,.func (.func F) #[] #[]] w λe w'=>(∃b,e=aA (.bool b)/\(n=0->b=false))/\aC w w':=by
 have hx:=Tz h hl eg hf;refine nG;go_enter func129,ntmps129;refine ay;refine HX.out.mono ?_;rintro r w1 ⟨⟨k,rfl,hk,hz⟩,hb⟩;have HZ:=OH hz;refine bj;exact⟨⟨decide (0<=k),rfl,λq=>by rw[HZ.out q];rfl⟩,hb⟩
structure Ms where
 kind:Int
 ssrc:Int
 media:Int
 clock:Int
 time:Int
 packets:Int
 bytes:Int
 reports:Value
 who:Value
 pairs:Value
 asks:Value
 ty:Int
abbrev kO(m:Ms):Array Value:=#[JI m.kind,JT m.ssrc,JT m.media,JU m.clock,JT m.time,JT m.packets,JT m.bytes,m.reports,m.who,m.pairs,m.asks,JW m.ty]
abbrev CN(c:Nat)(n:Int)(m:Ms):Array Value:=#[OV c,JI n,JI m.kind,JT m.ssrc,JT m.media,JU m.clock,JT m.time,JT m.packets,JT m.bytes,m.reports,m.who,m.pairs,m.asks,JW m.ty]
abbrev gE(k:Int):Ms:=⟨k,0,0,0,0,0,0,.slice none 0 0,.slice none 0 0,.slice none 0 0,.slice none 0 0,0⟩
structure Rd(w:World)(V c R:Nat)(n:Int)(m:Ms)(zs:List Int)(e:Int):Prop where
 v:w.heap[V]?=OC #[OV R] 396
 r:w.heap[R]?=OC (CN c n m) 399
 cut:cu w 0 c zs e
 b:aG zs
theorem cu.low(h:cu w B c zs e):cu w 0 c zs e:=Vl
theorem cu.kp1(h:cu w B c zs e)(hs:ag (λj=>j=V) w w')(hV:w.heap[V]?=OC cs t)(ht:t≠274/\t≠5:=by decide):cu w' B c zs e:=by obtain⟨v,h1,h2⟩:=h;exact cu.kept ⟨v,h1,h2⟩ hs (λq=>au (q ▸ hV) ht.1 h1) (ci hV ht.2)
section
variable {w w':World}{V c R:Nat}{n:Int}{m m':Ms}{zs zs':List Int}{e e' x:Int}{t:TypeId}{i:Nat}{cs:Array Value}{S:Nat->Prop}
theorem Rd.ne(h:Rd w V c R n m zs e)(hi:w.heap[i]?=OC cs t)(ht:t≠274:=by decide):i≠c:=λq=>by obtain⟨v,k,_⟩:=h.cut;subst q;exact au hi ht k
theorem Rd.num(h:Rd w V c R n m zs e)(hk:cu w' 0 c zs' e')(hb:aG zs')(hc:ag (λj=>j=c) w w'):Rd w' V c R n m zs' e':=
 ⟨ae hc h.v (h.ne h.v),ae hc h.r (h.ne h.r),hk,hb⟩
theorem Rd.drew(h:Rd w V c R n m zs e):Rd w.drew V c R n m zs e:=⟨h.v,h.r,h.cut.below ((ag.refl af w).drew.none),h.b⟩
theorem Rd.chg(h:Rd w V c R n m zs e)(hc:ag S w w')(h1:¬S V)(h2:¬S R)(h3:¬S c)(h5:jF S w):Rd w' V c R n m zs e:=⟨ae hc h.v h1,ae hc h.r h2,h.cut.kept hc h3 h5,h.b⟩
theorem Rd.below(h:Rd w V c R n m zs e)(hb:aC w w'):Rd w' V c R n m zs e:=h.chg (S:=af) (.of hb) id id id iF
theorem Rd.vr(h:Rd w V c R n m zs e):V≠R:=λq=>au h.v (show(396:TypeId)≠399 by decide) (q ▸ h.r)
theorem Rd.set(h:Rd w V c R n m zs e)(i:Nat)(v:Value)(m':Ms)(hm:(CN c n m).setIfInBounds i v=CN c n m'):Rd (w.setCell ⟨R,i,none⟩ v) V c R n m' zs e/\ag (λj=>j=c\/j=R) w (w.setCell ⟨R,i,none⟩ v):=by have hc:ag (λj=>j=R) w (w.setCell ⟨R,i,none⟩ v):=ag.set (S:=λj=>j=R) dp ⟨R,i,none⟩ (.inl rfl) v;exact⟨⟨ae hc h.v h.vr,by rw[av i v h.r,hm],h.cut.kept hc (λq=>h.ne h.r dM q.symm) (ci h.r dM),h.b⟩,hc.mono λj _ q=> .inr q⟩
theorem Rd.other{X:Nat}(h:Rd w V c R n m zs e)(hX:w.heap[X]?=OC cs t)(ht:t≠396/\t≠399/\t≠274/\t≠5)(i:Nat)(v:Value):Rd (w.setCell ⟨X,i,none⟩ v) V c R n m zs e:=
 h.chg (S:=λj=>j=X) (ag.set (S:=λj=>j=X) dp ⟨X,i,none⟩ (.inl rfl) v) (λq=>au (q ▸ hX) ht.1 h.v) (λq=>au (q ▸ hX) ht.2.1 h.r) (λq=>h.ne hX ht.2.2.1 q.symm) (ci hX ht.2.2.2)
theorem Rd.off(h:Rd w V c R n m zs e)(ht:t≠274/\t≠399:=by decide):∀j cur,(j=c\/j=R)->w.heap[j]?≠OC cur t:=λj cur q hj=>by
 rcases q with rfl|rfl
 .exact h.ne hj ht.1 rfl
 .exact au hj ht.2 h.r
theorem Rd.grown{s:Nat}{v:Value}{xs:List Value}(h:Rd w V c R n m zs e)(ho:w.ownsRow B t s v k xs)(hg:w.grownBy w' v.ownBlock)(ht:t≠396/\t≠399/\t≠274/\t≠5:=by decide):Rd w' V c R n m zs e:=by refine ZE;exact h.chg hc (λq=>hT _ q _ _ ht.1 h.v) (λq=>hT _ q _ _ ht.2.1 h.r) (λq=>hT _ q _ _ ht.2.2.1 kc) (λj cur q=>hT _ q _ _ ht.2.2.2)
theorem gC(h:Rd w V c R n m zs e)(hr:bO (zs,e) 4=(x,zs',e')) :
  az 210 #[OV R] w λr w'=>r=aA (JT x)/\Rd w' V c R n m zs' e'/\ag (λj=>j=c) w w':=by
 obtain⟨hb',x0,x1⟩:=dP h.b hr;have hc:=eu h.cut h.b 4 dM dM 4 rfl hr;refine nE;refine bI;obtain⟨c0,f0,z0⟩:=ab h.r;have hx:x % 4294967296=x:=oM;go_enter func210,ntmps210;refine ED;rintro r w1 ⟨rfl,hcut,hc1⟩;refine bj;exact⟨rfl,H.out.num hcut hb' hc1,hc1⟩
end
abbrev asC(x:Int×Int):List Value:=[JT x.1,JW x.2]
structure lL(w:World)(B:Nat)(m:Ms):Prop where
 md:0<=m.media/\m.media<=4294967295
 rp:∃A n c,m.reports=.slice A n c
 wp:∃A n c,m.who=.slice A n c
 pr:∃ps:List (Int×Int),w.ownsRow B 209 2 m.pairs ps.length (bp .u16 ps)/\ps.length<=400/\∀p∈ps,(0<=p.1/\p.1<=65535)/\0<=p.2/\p.2<=65535
 ak:∃l:List (Int×Int),w.ownsRow B 284 2 m.asks l.length (l.flatMap asC)/\l.length<=400/\∀p∈l,0<=p.1/\p.1<=4294967295
theorem mJ(w:World)(B:Nat){m:Ms}(h:0<=m.media/\m.media<=4294967295)(h1:m.pairs=.slice none 0 0)(h2:m.asks=.slice none 0 0)(h3:∃A n c,m.reports=.slice A n c)(h4:∃A n c,m.who=.slice A n c):lL w B m:=
 ⟨h,h3,h4,⟨[],h1 ▸ PI _ _ _ _,sM,sM⟩,⟨[],h2 ▸ PI _ _ _ _,sM,sM⟩⟩
def Rdd(w:World)(V c R:Nat)(n k:Int)(r:Ending)(w':World):Prop:=r=aA (.tuple #[])/\∃m zs e,Rd w' V c R n m zs e/\m.kind=k/\lL w' w.heap.size m/\ag (λj=>j=c\/j=R) w w'
theorem Sb{n k:Int}(h:Rd w V c R n (gE k) zs e) :
  az 215 #[OV V] w (Rdd w V c R n k):=by
 refine Au;obtain⟨x2,z2,e2,r2⟩:∃x z e',bO (z1,e1) 4=(x,z,e'):=⟨_,_,_,rfl⟩
 have hx2:=(dP (dP h.b r1).1 r2).2;have H0:=OH h;have hv:=h.v;have hr:=h.r;go_enter func215,ntmps215;refine zq71;refine ay;refine rg 6 (λw'=>Bk w' V #[OV R] 396/\Bk w' R (CN c n {gE k with ssrc:=x1}) 399) ⟨bk,bk⟩ (λhH=>?_);refine XG;have g2:=h2.set 4 (JT x2) {gE k with ssrc:=x1,media:=x2} rfl;refine M4;go_end0;exact⟨rfl,_,_,_,H2.out,rfl,mJ _ _ ⟨hx2.1,by have:=hx2.2;simp at this ⊢;omega⟩ rfl rfl ⟨_,_,_,rfl⟩ ⟨_,_,_,rfl⟩,hg2⟩
theorem S9:(prog.info? 355).map (λi=>(i.zero,i.size,i.bytes))=some (some (.agg #[JT 0,JW 0,JT 0,JT 0,JT 0,JT 0,JT 0]),7,28):=kM
theorem vN{m:Ms}(hN:N<=31)(hm:m.reports=.slice none 0 0)(h:Rd w V c R N m zs e) :
  az 211 #[OV R] w λr w'=>r=aA (.tuple #[])/\∃A cp zs e,Rd w' V c R N {m with reports:=.slice A N cp} zs e/\ag (λj=>j=c\/j=R) w w':=by
 obtain⟨i0,hi,hz0,hz1,hz2⟩:=aI S9;refine bI;obtain⟨cr,fr,zr⟩:=ab h.r;go_enter func211,ntmps211;refine ay;go_loopw [7] (λi wr=>∃ (k:Nat) (A:Option Addr) (cap:Nat) (xs:List Value) (zs:List Int) (e:Int),i=JI k/\k<=N/\Rd wr V c R N {m with reports:=.slice A k cap} zs e/\wr.ownsRow w.heap.size 355 7 (.slice A k cap) k xs/\ag (λj=>j=c\/j=R) w wr) (λi _=>N- (intOf i).toNat);case atStart=>exact⟨0,none,0,[],zs,e,rfl,oM,by rw[←hm];exact H.out,PI _ _ _ _,ag.refl _ _⟩
 case round=>
  refine Vh;have HFF:=OH (h.off (t:=355));have hr:=h.r;refine lR;by_cases hlt:k<N
  .skip
   refine Au;refine LN;have q1:x1 % 4294967296=x1:=oM;obtain⟨x2,z2,e2,r2⟩:∃x z e',bO (z1,e1) 1=(x,z,e'):=⟨_,_,_,rfl⟩
   refine Yl;refine LS;obtain⟨b4,y4,l4⟩:=dP b3 r4;simp only[Xb1]at l4;have q4:x4 % 4294967296=x4:=oM;refine LT;obtain⟨b5,y5,l5⟩:=dP b4 r5;simp only[Xb1]at l5;have q5:x5 % 4294967296=x5:=oM;obtain⟨x6,z6,e6,r6⟩:∃x z e',bO (z5,e5) 4=(x,z,e'):=⟨_,_,_,rfl⟩
   obtain⟨b6,y6,l6⟩:=dP b5 r6;simp only[Xb1]at l6;have q6:x6 % 4294967296=x6:=oM;obtain⟨x7,z7,e7,r7⟩:∃x z e',bO (z6,e6) 4=(x,z,e'):=⟨_,_,_,rfl⟩
   obtain⟨b7,y7,l7⟩:=dP b6 r7;simp only[Xb1]at l7;have q7:x7 % 4294967296=x7:=oM;refine ay;refine(gC H0.out r1).mono ?_;rintro r w1 ⟨rfl,h1,hc1⟩;have hX1:(w1.alloc (.cells #[JT x1,JW 0,JT 0,JT 0,JT 0,JT 0,JT 0] 355)).heap[w1.heap.size]?=OC #[JT x1,JW 0,JT 0,JT 0,JT 0,JT 0,JT 0] 355:=bZ;have H1:=OH (h1.below (ag.none bu:aC w1 (w1.alloc (.cells #[JT x1,JW 0,JT 0,JT 0,JT 0,JT 0,JT 0] 355))));have hG1:ag (λj=>j=c\/j=R) wr (w1.alloc (.cells #[JT x1,JW 0,JT 0,JT 0,JT 0,JT 0,JT 0] 355)):=(hc1.mono (λj _ q=> .inl q)).alloc _;go_upto_region 3 with fail;refine XZ;refine ay;refine(eu H1.out.cut H1.out.b 1 dM dM 1 rfl r2).mono ?_;refine Mc;go_upto_region 4 with fail;have hX2:(w2.setCell ⟨X,1,none⟩ (JW x2)).heap[X]?=OC #[JT x1,JW x2,JT 0,JT 0,JT 0,JT 0,JT 0] 355:=bZ;refine Yk;refine lR;refine ay;refine(eu H2.out.cut H2.out.b 3 dM dM 3 rfl r3).mono ?_;rintro r w3 ⟨rfl,hk3,hc3⟩;have h3:=H2.out.num hk3 b3 hc3;have hx3:=ae hc3 hX2 (H2.out.ne hX2);obtain⟨cX,fX,zX⟩:=ab hx3;go_upto_region 5 with fail;have hX3:(w3.setCell ⟨X,2,none⟩ (JT x3)).heap[X]?=OC #[JT x1,JW x2,JT x3,JT 0,JT 0,JT 0,JT 0] 355:=bZ;have H3:=OH (h3.other hx3 dM 2 (JT x3));have hG3:ag (λj=>j=c\/j=R) wr (w3.setCell ⟨X,2,none⟩ (JT x3)):=(hG2.trans (hc3.mono (λj _ q=> .inl q))).set ⟨X,2,none⟩ (.inr hXn) _;generalize w3.setCell _ _=u3 at *;have hr:=H3.out.r;refine lR;refine ay;refine(gC H3.out r4).mono ?_;rintro r w4 ⟨rfl,h4,hc4⟩;have hx4:=ae hc4 hX3 (H3.out.ne hX3);obtain⟨cX,fX,zX⟩:=ab hx4;go_upto_region 6 with fail;have hX4:(w4.setCell ⟨X,3,none⟩ (JT x4)).heap[X]?=OC #[JT x1,JW x2,JT x3,JT x4,JT 0,JT 0,JT 0] 355:=bZ;have H4:=OH (h4.other hx4 dM 3 (JT x4));have hG4:ag (λj=>j=c\/j=R) wr (w4.setCell ⟨X,3,none⟩ (JT x4)):=(hG3.trans (hc4.mono (λj _ q=> .inl q))).set ⟨X,3,none⟩ (.inr hXn) _;generalize w4.setCell _ _=u4 at *;have hr:=H4.out.r;refine lR;refine ay;refine(gC H4.out r5).mono ?_;rintro r w5 ⟨rfl,h5,hc5⟩;have hx5:=ae hc5 hX4 (H4.out.ne hX4);obtain⟨cX,fX,zX⟩:=ab hx5;refine mA;have hX5:(w5.setCell ⟨X,4,none⟩ (JT x5)).heap[X]?=OC #[JT x1,JW x2,JT x3,JT x4,JT x5,JT 0,JT 0] 355:=bZ;have H5:=OH (h5.other hx5 dM 4 (JT x5));have hG5:ag (λj=>j=c\/j=R) wr (w5.setCell ⟨X,4,none⟩ (JT x5)):=(hG4.trans (hc5.mono (λj _ q=> .inl q))).set ⟨X,4,none⟩ (.inr hXn) _;generalize w5.setCell _ _=u5 at *;have hr:=H5.out.r;refine lR;refine ay;refine(gC H5.out r6).mono ?_;rintro r w6 ⟨rfl,h6,hc6⟩;have hx6:=ae hc6 hX5 (H5.out.ne hX5);obtain⟨cX,fX,zX⟩:=ab hx6;go_upto_region 8 with fail;have hX6:(w6.setCell ⟨X,5,none⟩ (JT x6)).heap[X]?=OC #[JT x1,JW x2,JT x3,JT x4,JT x5,JT x6,JT 0] 355:=bZ;have H6:=OH (h6.other hx6 dM 5 (JT x6));have hG6:ag (λj=>j=c\/j=R) wr (w6.setCell ⟨X,5,none⟩ (JT x6)):=(hG5.trans (hc6.mono (λj _ q=> .inl q))).set ⟨X,5,none⟩ (.inr hXn) _;generalize w6.setCell _ _=u6 at *;have hr:=H6.out.r;refine lR;refine ay;refine(gC H6.out r7).mono ?_;rintro r w7 ⟨rfl,h7,hc7⟩;have hx7:=ae hc7 hX6 (H6.out.ne hX6);obtain⟨cX,fX,zX⟩:=ab hx7;refine qn;have hX7:(w7.setCell ⟨X,6,none⟩ (JT x7)).heap[X]?=OC #[JT x1,JW x2,JT x3,JT x4,JT x5,JT x6,JT x7] 355:=bZ;have H7:=OH (h7.other hx7 dM 6 (JT x7));have hG7:ag (λj=>j=c\/j=R) wr (w7.setCell ⟨X,6,none⟩ (JT x7)):=(hG6.trans (hc7.mono (λj _ q=> .inl q))).set ⟨X,6,none⟩ (.inr hXn) _;generalize w7.setCell _ _=u7 at *;have hr:=H7.out.r;refine lR;refine qn;have HO7:=OH (ah HO.out hG7 HFF.out);refine Ma;have H7:=OH H7.out;have hr:=H7.out.r;refine rg 12 (λw'=>Bk w' R (CN c N {m with reports:=.slice A k cap}) 399/\Bk w' X #[JT x1,JW x2,JT x3,JT x4,JT x5,JT x6,JT x7] 355) ⟨bk,bk⟩ (λhH=>?_);refine qd
   skip
   refine iT;refine on 8 λK hK=>?_
   refine step_append_lies _ rM _ _ _ rM w.heap.size 355 i0 _ 7 28 underlying109 hi hz0 hz1 hz2 rfl oM _ _ _ rM (HO7.out.alloc _).drew ⟨u7.heap.size,0,none⟩ 1 1 [JT x1,JW x2,JT x3,JT x4,JT x5,JT x6,JT x7] rM rM (Xa0 (cs:=#[JT x1,JW x2,JT x3,JT x4,JT x5,JT x6,JT x7]) (t:=355) (fr:=(0,0)) bZ) nz oM lM oM (by(try simp only[aD,bE]);have:=hG.size;have:=hG7.size;omega) _ rfl ?_;refine Mb;have hX5:=(hgrow5.block X (by simp only[bE,aD];exact Xa9 (aB hX7)) (λq=>hXo q.symm)).trans (ai hX7);have hg5:ag (λi=>(Xb4 A k cap).ownBlock=some i) u7 w5:=ag.grown (ag.alloc (ag.refl _ u7).drew _) hgrow5 (λi hi _=>hi);have hr:=h5.r;refine iT;refine oF;refine je;have hG8:ag (λj=>j=c\/j=R) w w5:=(hG.trans hG7).call hg5 (λj hj q=>absurd (HO7.out.lt j q).1 oM);have g8:=h5.set 9 (.slice (aT g5) (k+1) cap5) {m with reports:=.slice (aT g5) (k+1) cap5} rfl;refine Fl;have HO9:=OH (show(w5.setCell ⟨R,9,none⟩ (.slice (aT g5) (k+1) cap5)).ownsRow w.heap.size 355 7 (.slice (aT g5) (k+1) cap5) (k+1) _ from aU (a:=⟨R,9,none⟩) hown5 h5.r dM);exact Yv
  .have:k=N:=oM
   subst this;refine dg;exact⟨rfl,_,_,_,_,H0.out,hG⟩
theorem Sf{k:Int}(hN:N<=31)(h:Rd w V c R N (gE k) zs e) :
  az 212 #[OV V] w (Rdd w V c R N k):=by
 have H0:=OH h;refine Au;have b1:=(dP h.b r1).1;have hv:=h.v;have hr:=h.r;generalize hn:(N:Int)=n at *;go_enter func212,ntmps212;refine zq71;refine sg;refine ay;subst hn;refine(vN hN rfl H1.out).mono ?_;rintro r w3 ⟨rfl,A3,p3,z3,e3,h3,hc3⟩;refine dg;exact⟨rfl,_,_,_,h3,rfl,mJ _ _ (show(0:Int)<=0/\(0:Int)<=4294967295 by decide) rfl rfl ⟨_,_,_,rfl⟩ ⟨_,_,_,rfl⟩,hg1.trans hc3⟩
theorem Sg{k:Int}(hN:N<=31)(h:Rd w V c R N (gE k) zs e) :
  az 209 #[OV V] w (Rdd w V c R N k):=by
 have H0:=OH h;refine Au;have b1:=(dP h.b r1).1;obtain⟨x2,z2,e2,r2⟩:∃x z e',bO (z1,e1) 8=(x,z,e'):=⟨_,_,_,rfl⟩
 have b2:=(dP b1 r2).1;obtain⟨x3,z3,e3,r3⟩:∃x z e',bO (z2,e2) 4=(x,z,e'):=⟨_,_,_,rfl⟩
 have b3:=(dP b2 r3).1;refine LS;have b4:=(dP b3 r4).1;refine LT;have b5:=(dP b4 r5).1;have hv:=h.v;have hr:=h.r;generalize hn:(N:Int)=n at *;go_enter func209,ntmps209;refine zq71;refine ay;refine rg 10 (λw'=>Bk w' V #[OV R] 396/\Bk w' R (CN c n {gE k with ssrc:=x1}) 399) ⟨bk,bk⟩ (λhH=>?_);refine Ce;refine lU;refine(eu H1.out.drew.cut H1.out.b 8 dM dM 8 rfl r2).mono ?_;rintro r w2 ⟨rfl,hk2,hc2⟩;have h2:=H1.out.drew.num hk2 b2 hc2;have hv:=h2.v;have hr:=h2.r;refine iT;refine mj;refine gN;refine je;have g2:=h2.set 5 (JU x2) {gE k with ssrc:=x1,clock:=x2} rfl;refine M4;refine rg 7 (λw'=>Bk w' V #[OV R] 396/\Bk w' R (CN c n {gE k with ssrc:=x1,clock:=x2}) 399) ⟨bk,bk⟩ (λhH=>?_);refine AD;refine(gC H2.out.drew r3).mono ?_;rintro r w3 ⟨rfl,h3,hc3⟩;have hv:=h3.v;have hr:=h3.r;refine AK;refine tk 6 ?_;refine je;have g3:=h3.set 6 (JT x3) {gE k with ssrc:=x1,clock:=x2,time:=x3} rfl;have hg3:=hg2.trans (((ag.refl _ u2).drew.call hc3 (λj _ q=> .inl q)).trans g3.2);have H3:=OH g3.1;have hv:=g3.1.v;have hr:=g3.1.r;generalize w3.setCell _ _=u3 at *;refine ay;refine rg 7 (λw'=>Bk w' V #[OV R] 396/\Bk w' R (CN c n {gE k with ssrc:=x1,clock:=x2,time:=x3}) 399) ⟨bk,bk⟩ (λhH=>?_);refine AD;refine(gC H3.out.drew r4).mono ?_;rintro r w4 ⟨rfl,h4,hc4⟩;have hv:=h4.v;have hr:=h4.r;refine AK;refine tk 6 ?_;refine je;have g4:=h4.set 7 (JT x4) {gE k with ssrc:=x1,clock:=x2,time:=x3,packets:=x4} rfl;have hg4:=hg3.trans (((ag.refl _ u3).drew.call hc4 (λj _ q=> .inl q)).trans g4.2);have H4:=OH g4.1;have hv:=g4.1.v;have hr:=g4.1.r;generalize w4.setCell _ _=u4 at *;refine ay;refine rg 7 (λw'=>Bk w' V #[OV R] 396/\Bk w' R (CN c n {gE k with ssrc:=x1,clock:=x2,time:=x3,packets:=x4}) 399) ⟨bk,bk⟩ (λhH=>?_);refine AD;refine(gC H4.out.drew r5).mono ?_;rintro r w5 ⟨rfl,h5,hc5⟩;have hv:=h5.v;have hr:=h5.r;refine AK;refine tk 6 ?_;refine je;have g5:=h5.set 8 (JT x5) {gE k with ssrc:=x1,clock:=x2,time:=x3,packets:=x4,bytes:=x5} rfl;have hg5:=hg4.trans (((ag.refl _ u4).drew.call hc5 (λj _ q=> .inl q)).trans g5.2);have H5:=OH g5.1;have hv:=g5.1.v;have hr:=g5.1.r;generalize w5.setCell _ _=u5 at *;refine sg;refine ay;subst hn;refine(vN hN rfl H5.out).mono ?_;rintro r w7 ⟨rfl,A7,p7,z7,e7,h7,hc7⟩;refine dg;exact⟨rfl,_,_,_,h7,rfl,mJ _ _ (show(0:Int)<=0/\(0:Int)<=4294967295 by decide) rfl rfl ⟨_,_,_,rfl⟩ ⟨_,_,_,rfl⟩,hg5.trans hc7⟩
theorem R9{T:Nat}{n k t:Int}(hT:w.heap[T]?=OC #[JW t] 5)(h:Rd w V c R n (gE k) zs e) :
  az 217 #[OV T,OV V] w (Rdd w V c R n k):=by
 have H0:=OH h;obtain⟨cv,fv,zv⟩:=ab h.v;obtain⟨cr,fr,zr⟩:=ab h.r;obtain⟨ct,ft,zt⟩:=ab hT;go_enter func217,ntmps217;refine dg;have g:=H0.out.set 13 (JW t) {gE k with ty:=t} rfl;exact⟨rfl,_,_,_,g.1,rfl,mJ _ _ (show(0:Int)<=0/\(0:Int)<=4294967295 by decide) rfl rfl ⟨_,_,_,rfl⟩ ⟨_,_,_,rfl⟩,g.2⟩
namespace Na
def jd(p m:Int):Nat->List Int
 |0=> []
 |k+1=>jd p m k++(if m / 2 ^ k % 2=1 then [(p+k+1) % 65536] else [])
def dL(ps:List (Int×Int)):List Int:=ps.flatMap λp=>p.1::jd p.1 p.2 16
theorem o8(p m:Int)(k:Nat):(jd p m k).length<=k:=by
 induction k with
 |zero=>
  simp[jd]
 |succ k ih=>unfold jd;rw[Xa2];split<;>simp<;>omega
theorem xN(ps qs:List (Int×Int)):dL (ps++qs)=dL ps++dL qs:=by simp[dL]
theorem xL(ps:List (Int×Int)):(dL ps).length<=17*ps.length:=by
 induction ps with
 |nil=>
  simp[dL]
 |cons p ps ih=>have:=o8 p.1 p.2 16;simp[dL]at ih ⊢;omega
theorem Da(ps:List (Int×Int))(k:Nat)(hk:k<ps.length):dL (ps.take (k+1))=dL (ps.take k)++((ps.getD k (0,0)).1::jd (ps.getD k (0,0)).1 (ps.getD k (0,0)).2 16):=by
 rw[Xa4,xN]
 congr 1
 simp[dL,Xa5,hk]
theorem JN(p m:Int)(k:Nat):∀x∈jd p m k,0<=x/\x<65536:=by
 induction k with
 |zero=>
  simp[jd]
 |succ k ih=>
  intro x hx;unfold jd at hx;rw[Xa3]at hx;rcases hx with hx|hx
  .exact ih x hx
  .split at hx
   .simp at hx
    subst hx;omega
   .simp at hx
theorem listF_mem(ps:List (Int×Int))(h:∀p∈ps,0<=p.1/\p.1<65536):∀x∈dL ps,0<=x/\x<65536:=by
 intro x hx;simp only[dL,List.mem_flatMap]at hx;obtain⟨p,hp,hx⟩:=hx;rcases List.mem_cons.1 hx with rfl|hx
 .exact h p hp
 .exact JN _ _ _ x hx
end Na
theorem lF(h:bO (zs,e) k=(x,zs',e')):(e=0->k<=zs.length->e'=0/\zs'.length+k=zs.length)/\(e'≠0->e=0->zs'=zs/\zs.length<k)/\(e≠0->e'=e/\zs'=zs):=by
 unfold bO at h;split at h
 .refine uR
  cases h;exact⟨λq=>absurd q h1,λ_ q=>absurd q h1,λ_=>⟨rfl,rfl⟩⟩
 .refine uR
  split at h
  .rename_i h2
   dsimp only at h2;cases h;exact⟨λ_ q=>oM,λ_ _=>⟨rfl,h2⟩,λq=>absurd q h1⟩
  .rename_i h2
   dsimp only at h2;cases h;exact⟨λ_ _=>⟨rfl,xM⟩,λq=>absurd rfl q,λq=>absurd q h1⟩
theorem xO(h:bO (zs,e) k=(x,zs',e'))(he:e≠0->zs.length<k):(e'≠0->zs'.length<k):=λq=>by
 obtain⟨h1,h2,h3⟩:=lF h;by_cases q0:e=0
 .obtain⟨a,b⟩:=h2 q q0
  rw[a];exact b
 .obtain⟨a,b⟩:=h3 q0
  rw[b];exact he q0
theorem dI(h:bO (zs,e) k=(x,zs',e')):zs'.length<=zs.length:=by
 unfold bO at h;split at h
 .cases h
  exact Xb0 _
 .split at h
  .cases h
   exact Xb0 _
  .cases h
   simp
theorem Pt:(prog.info? 209).map (λi=>(i.zero,i.size,i.bytes))=some (some (.agg #[JS 0,JS 0]),2,4):=kM
theorem Te:(prog.info? 284).map (λi=>(i.zero,i.size,i.bytes))=some (some (.agg #[JT 0,JW 0]),2,8):=kM
theorem Sc{kd:Int}(hl:zs.length<=1600)(h:Rd w V c R N (gE kd) zs 0) :
  az 214 #[OV V] w (Rdd w V c R N kd):=by
 obtain⟨i0,hi,hz0,hz1,hz2⟩:=aI Pt;refine ZH;have l2:=xO r2 l1;refine Yr;go_enter func214,ntmps214;refine zq67;go_loopg [1] z0.length (λg _ wr=>∃ (k:Nat) (A:Option Addr) (cap:Nat) (l:List (Int×Int)) (zs:List Int) (e:Int),Rd wr V c R N {gE kd with ssrc:=sx,media:=mx,pairs:=.slice A k cap} zs e/\(e≠0->zs.length<4)/\zs.length=g/\k*4+g<=1600/\wr.ownsRow w.heap.size 209 2 (.slice A k cap) k (bp .u16 l)/\l.length=k/\(∀p∈l,(0<=p.1/\p.1<=65535)/\0<=p.2/\p.2<=65535)/\ag (λj=>j=c\/j=R) w wr);case atStart=>exact Wj
 case round=>
  refine VJ;have HFF:=OH (h.off (t:=209));refine WD;by_cases hlt:4<=zs.length
  .refine VA
   obtain⟨x1,z1,e1,r1⟩:∃x z e',bO (zs,0) 2=(x,z,e'):=⟨_,_,_,rfl⟩
   refine LN;have q1:x1 % 65536=x1:=oM;obtain⟨x2,z2,e2,r2⟩:∃x z e',bO (z1,e1) 2=(x,z,e'):=⟨_,_,_,rfl⟩
   obtain⟨b2,y2,l2⟩:=dP b1 r2;simp only[Xb1]at l2;have q2:x2 % 65536=x2:=oM;have s1:=(lF r1).1 rfl oM;have s2:=(lF r2).1 s1.1 oM;have t1:k*4+z2.length+4<=1600/\z2.length<zs.length:=oM;have T1:=OH s2.1;refine ay;refine(eu H0.out.cut H0.out.b 2 dM dM 2 rfl r1).mono ?_;rintro r w1 ⟨rfl,hk1,hc1⟩;have h1:=H0.out.num hk1 b1 hc1;have hX1:(w1.alloc (.cells #[JS x1,JS 0] 209)).heap[w1.heap.size]?=OC #[JS x1,JS 0] 209:=bZ;have H1:=OH (h1.below (ag.none bu:aC w1 (w1.alloc (.cells #[JS x1,JS 0] 209))));have hG1:ag (λj=>j=c\/j=R) wr (w1.alloc (.cells #[JS x1,JS 0] 209)):=(hc1.mono (λj _ q=> .inl q)).alloc _;refine Zn;refine(eu H1.out.cut H1.out.b 2 dM dM 2 rfl r2).mono ?_;refine Mc;refine gq;have hX2:(w2.setCell ⟨X,1,none⟩ (JS x2)).heap[X]?=OC #[JS x1,JS x2] 209:=bZ;have H2:=OH (h2.other hx2 dM 1 (JS x2));have hG2:ag (λj=>j=c\/j=R) wr (w2.setCell ⟨X,1,none⟩ (JS x2)):=(hG1.trans (hc2.mono (λj _ q=> .inl q))).set ⟨X,1,none⟩ (.inr hXn) _;generalize w2.setCell _ _=u2 at *;have hr:=H2.out.r;refine lR;have hv:=H2.out.v;refine sg;refine gq;have HO7:=OH (ah HO.out hG2 HFF.out);refine Ma;have H7:=OH H2.out;have hr:=H7.out.r;have hv:=H7.out.v;refine rg 12 (λw'=>Bk w' R (CN c N {gE kd with ssrc:=sx,media:=mx,pairs:=.slice A k cap}) 399/\Bk w' X #[JS x1,JS x2] 209/\Bk w' V #[OV R] 396) ⟨bk,bk,bk⟩ (λhH=>?_);refine qd
   skip
   refine oG;refine bV;refine on 8 λK hK=>?_
   refine step_append_lies _ rM _ _ _ rM w.heap.size 209 i0 _ 2 4 underlying110 hi hz0 hz1 hz2 rfl oM _ _ _ rM (HO7.out.alloc _).drew ⟨u2.heap.size,0,none⟩ 1 1 [JS x1,JS x2] rM rM (Xa0 (cs:=#[JS x1,JS x2]) (t:=209) (fr:=(0,0)) bZ) nz oM lM oM (by(try simp only[aD,bE]);have:=hG.size;have:=hG2.size;omega) _ rfl ?_;refine Mb;have hX5:=(hgrow5.block X (by simp only[bE,aD];exact Xa9 (aB hX2)) (λq=>hXo q.symm)).trans (ai hX2);have hg5:ag (λi=>(Xb4 A k cap).ownBlock=some i) u2 w5:=ag.grown (ag.alloc (ag.refl _ u2).drew _) hgrow5 (λi hi _=>hi);have hr:=h5.r;have hv:=h5.v;refine oG;refine bV;refine oF;refine je;have hG8:ag (λj=>j=c\/j=R) w w5:=(hG.trans hG2).call hg5 (λj hj q=>absurd (HO7.out.lt j q).1 oM);have g8:=h5.set 11 (.slice (aT g5) (k+1) cap5) {gE kd with ssrc:=sx,media:=mx,pairs:=.slice (aT g5) (k+1) cap5} rfl;refine Fl;have HO9:=OH (show(w5.setCell ⟨R,11,none⟩ (.slice (aT g5) (k+1) cap5)).ownsRow w.heap.size 209 2 (.slice (aT g5) (k+1) cap5) (k+1) _ from aU (a:=⟨R,11,none⟩) hown5 h5.r dM);generalize w5.setCell _ _=u9 at *;refine ay
   go_roundg z2.length
   case measure=>exact t1.2
   case rel=>exact⟨k+1,_,_,l++ [(x1,x2)],_,_,HR8.out,λq=>absurd T1.out q,rfl,oM,by rw[pK];exact HO9.out,by rw[Xa2,HLL.out];rfl,λp hp=>(Xa3.1 hp).elim (HOK.out p) (λq=>by rw[Xa1.1 q];exact⟨⟨y1,oM⟩,y2,oM⟩),hG9⟩
  .refine MX
   refine dg;have hll:=HLL.out;subst hll;exact⟨rfl,_,_,_,H0.out,rfl,⟨⟨ym.1,by have:=ym.2;show mx<=_;omega⟩,⟨_,_,_,rfl⟩,⟨_,_,_,rfl⟩,⟨l,HO.out,oM,HOK.out⟩,⟨[],PI _ _ _ _,sM,sM⟩⟩,hG⟩
theorem Sa{kd:Int}(hl:zs.length<=1600)(h:Rd w V c R N (gE kd) zs 0) :
  az 216 #[OV V] w (Rdd w V c R N kd):=by
 obtain⟨i0,hi,hz0,hz1,hz2⟩:=aI Te;refine ZH;have l2':=xO r2 l1;have l2:e2≠0->z2.length<8:=λq=>by have:=l2' q;omega
 refine Yr;go_enter func216,ntmps216;refine zq67;go_loopg [1] z0.length (λg _ wr=>∃ (k:Nat) (A:Option Addr) (cap:Nat) (l:List (Int×Int)) (zs:List Int) (e:Int),Rd wr V c R N {gE kd with ssrc:=sx,media:=mx,asks:=.slice A k cap} zs e/\(e≠0->zs.length<8)/\zs.length=g/\k*4+g<=1600/\wr.ownsRow w.heap.size 284 2 (.slice A k cap) k (l.flatMap asC)/\l.length=k/\(∀p∈l,0<=p.1/\p.1<=4294967295)/\ag (λj=>j=c\/j=R) w wr);case atStart=>exact Wj
 case round=>
  refine VJ;have HFF:=OH (h.off (t:=284));refine WD;by_cases hlt:8<=zs.length
  .refine VA
   obtain⟨x1,z1,e1,r1⟩:∃x z e',bO (zs,0) 4=(x,z,e'):=⟨_,_,_,rfl⟩
   refine LN;have q1:x1 % 4294967296=x1:=oM;refine MB;refine Yl;have s1:=(lF r1).1 rfl oM;have s2:=(lF r2).1 s1.1 oM;have s3:=(lF r3).1 s2.1 oM;have t1:k*4+z3.length+4<=1600/\z3.length<zs.length:=oM;have T1:=OH s3.1;refine ay;refine(gC H0.out r1).mono ?_;rintro r w1 ⟨rfl,h1,hc1⟩;have hX1:(w1.alloc (.cells #[JT x1,JW 0] 284)).heap[w1.heap.size]?=OC #[JT x1,JW 0] 284:=bZ;have H1:=OH (h1.below (ag.none bu:aC w1 (w1.alloc (.cells #[JT x1,JW 0] 284))));have hG1:ag (λj=>j=c\/j=R) wr (w1.alloc (.cells #[JT x1,JW 0] 284)):=(hc1.mono (λj _ q=> .inl q)).alloc _;refine Zn;refine(eu H1.out.cut H1.out.b 1 dM dM 1 rfl r2).mono ?_;refine Mc;refine gq;have hX2:(w2.setCell ⟨X,1,none⟩ (JW x2)).heap[X]?=OC #[JT x1,JW x2] 284:=bZ;refine Yk;refine lR;have hv:=H2.out.v;refine sg;refine ay;refine(eu H2.out.cut H2.out.b 3 dM dM 3 rfl r3).mono ?_;rintro r u3 ⟨rfl,hk3,hc3⟩;have H3:=OH (H2.out.num hk3 b3 hc3);have hX3:=ae hc3 hX2 (H2.out.ne hX2);have hG3:ag (λj=>j=c\/j=R) wr u3:=hG2.trans (hc3.mono (λj _ q=> .inl q));have hr:=H3.out.r;refine lR;have hv:=H3.out.v;refine sg;refine nJ;have HO7:=OH (ah HO.out hG3 HFF.out);refine Ma;have H7:=OH H3.out;have hr:=H7.out.r;have hv:=H7.out.v;refine rg 12 (λw'=>Bk w' R (CN c N {gE kd with ssrc:=sx,media:=mx,asks:=.slice A k cap}) 399/\Bk w' X #[JT x1,JW x2] 284/\Bk w' V #[OV R] 396) ⟨bk,bk,bk⟩ (λhH=>?_);refine qd
   skip
   refine oG;refine bV;refine on 8 λK hK=>?_
   refine step_append_lies _ rM _ _ _ rM w.heap.size 284 i0 _ 2 8 underlying111 hi hz0 hz1 hz2 rfl oM _ _ _ rM (HO7.out.alloc _).drew ⟨u3.heap.size,0,none⟩ 1 1 [JT x1,JW x2] rM rM (Xa0 (cs:=#[JT x1,JW x2]) (t:=284) (fr:=(0,0)) bZ) nz oM lM oM (by(try simp only[aD,bE]);have:=hG.size;have:=hG3.size;omega) _ rfl ?_;refine Mb;have hX5:=(hgrow5.block X (by simp only[bE,aD];exact Xa9 (aB hX3)) (λq=>hXo q.symm)).trans (ai hX3);have hg5:ag (λi=>(Xb4 A k cap).ownBlock=some i) u3 w5:=ag.grown (ag.alloc (ag.refl _ u3).drew _) hgrow5 (λi hi _=>hi);have hr:=h5.r;have hv:=h5.v;refine oG;refine bV;refine oF;refine je;have hG8:ag (λj=>j=c\/j=R) w w5:=(hG.trans hG3).call hg5 (λj hj q=>absurd (HO7.out.lt j q).1 oM);have g8:=h5.set 12 (.slice (aT g5) (k+1) cap5) {gE kd with ssrc:=sx,media:=mx,asks:=.slice (aT g5) (k+1) cap5} rfl;refine Fl;have HO9:=OH (show(w5.setCell ⟨R,12,none⟩ (.slice (aT g5) (k+1) cap5)).ownsRow w.heap.size 284 2 (.slice (aT g5) (k+1) cap5) (k+1) _ from aU (a:=⟨R,12,none⟩) hown5 h5.r dM);generalize w5.setCell _ _=u9 at *;refine ay
   go_roundg z3.length
   case measure=>exact t1.2
   case rel=>exact⟨k+1,_,_,l++ [(x1,x2)],_,_,HR8.out,λq=>absurd T1.out q,rfl,oM,by rw[List.flatMap_append];exact HO9.out,by rw[Xa2,HLL.out];rfl,λp hp=>(Xa3.1 hp).elim (HOK.out p) (λq=>by rw[Xa1.1 q];exact⟨y1,oM⟩),hG9⟩
  .refine MX
   refine dg;have hll:=HLL.out;subst hll;exact⟨rfl,_,_,_,H0.out,rfl,⟨⟨ym.1,by have:=ym.2;show mx<=_;omega⟩,⟨_,_,_,rfl⟩,⟨_,_,_,rfl⟩,⟨[],PI _ _ _ _,sM,sM⟩,⟨l,HO.out,oM,HOK.out⟩⟩,hG⟩
theorem Sd{kd:Int}(hN:N<=31)(h:Rd w V c R N (gE kd) zs e) :
  az 213 #[OV V] w (Rdd w V c R N kd):=by
 refine K4;refine bI;obtain⟨cr,fr,zr⟩:=ab h.r;obtain⟨cv,fv,zv⟩:=ab h.v;go_enter func213,ntmps213;refine ay;go_loopw [5] (λi wr=>∃ (k:Nat) (A:Option Addr) (cap:Nat) (xs:List Value) (zs:List Int) (e:Int),i=JI k/\k<=N/\Rd wr V c R N {gE kd with who:=.slice A k cap} zs e/\wr.ownsRow w.heap.size 52 1 (.slice A k cap) k xs/\ag (λj=>j=c\/j=R) w wr) (λi _=>N- (intOf i).toNat);case atStart=>exact⟨0,none,0,[],zs,e,rfl,oM,H.out,PI _ _ _ _,ag.refl _ _⟩
 case round=>
  refine Vh;have hoff:=h.off (t:=52);have HFF:=OH hoff;have hr:=h.r;have hv:=h.v;have HB:=OH h.b;by_cases hlt:k<N
  .refine Au
   go_upto_region 2 with fail;refine rg 13 (λw'=>Bk w' V #[OV R] 396/\Bk w' R (CN c N {gE kd with who:=.slice A k cap}) 399) ⟨bk,bk⟩ (λhH=>?_);refine qd;refine(gC H0.out.drew r1).mono ?_;rintro r w1 ⟨rfl,h1,hc1⟩;have H1:=OH h1;have hv:=h1.v;have hr:=h1.r;have HO1:=OH (ah HO.out ((ag.refl (λj=>j=c\/j=R) wr).drew.call hc1 (λj _ q=> .inl q)) HFF.out);have hZ1:=hc1.size;refine iT;refine rW
   skip
   refine iT;refine on 9 λK hK=>?_
   refine step_append_lies _ rM _ _ _ rM w.heap.size 52 i0 _ 1 4 underlying48 hi hz0 hz1 hz2 rfl oM _ _ _ rM (HO1.out.alloc _) ⟨w1.heap.size,0,none⟩ 1 1 [JT x1] rM rM (Xa0 (cs:=#[JT x1]) (t:=52) (fr:=(0,0)) bZ) nz oM lM oM (by(try simp only[aD,bE]);have:=hG.size;simp only[bE]at hZ1;omega) _ rfl ?_;intro g5 cap5 w5 hown5 hgrow5 hat5 hlt5;have h5:=(H1.out.below jI).grown (HO1.out.alloc _) hgrow5;have hg5:ag (λi=>(Xb4 A k cap).ownBlock=some i) w1 w5:=ag.grown (ag.alloc (ag.refl _ w1) _) hgrow5 (λi hi _=>hi);have hv:=h5.v;have hr:=h5.r;refine iT;refine tk 10 ?_;refine tk 11 ?_;refine tk 12 ?_;refine je;have hG8:ag (λj=>j=c\/j=R) w w5:=(hG.trans ((ag.refl (λj=>j=c\/j=R) wr).drew.call hc1 (λj _ q=> .inl q))).call hg5 (λj hj q=>absurd (HO1.out.lt j q).1 oM);have g8:=h5.set 10 (.slice (aT g5) (k+1) cap5) {gE kd with who:=.slice (aT g5) (k+1) cap5} rfl;refine Fl;have HO9:=OH (show(w5.setCell ⟨R,10,none⟩ (.slice (aT g5) (k+1) cap5)).ownsRow w.heap.size 52 1 (.slice (aT g5) (k+1) cap5) (k+1) _ from aU (a:=⟨R,10,none⟩) hown5 h5.r dM);exact Yv
  .have:k=N:=oM
   subst this;refine dg;exact⟨rfl,_,_,_,H0.out,rfl,mJ _ _ (show(0:Int)<=0/\(0:Int)<=4294967295 by decide) rfl rfl ⟨_,_,_,rfl⟩ ⟨_,_,_,rfl⟩,hG⟩
end Go.Proofs.YtnpancjkjheffaaGreat
