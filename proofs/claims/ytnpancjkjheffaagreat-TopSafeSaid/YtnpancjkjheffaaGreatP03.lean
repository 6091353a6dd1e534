/- Part 5 of the proof of TopSafe. No condition. -/
import Derived.Test.YtnpancjkjheffaaGreatP02
namespace Go.Proofs.YtnpancjkjheffaaGreat
set_option linter.unusedVariables false
set_option linter.unusedSimpArgs false
set_option maxRecDepth 100000
set_option maxHeartbeats 8000000
open Go.RowKit
open Go.Proofs.Tryz
open _root_.List renaming replicate->PI,getElem?_eq_getElem->Xa0,finRange->Xa1,take_add_one->Xa2,length_map->Xa3,range->Xa4,length_filter_le->Xa5,append_toArray->Xa6,size_toArray->Xa7,push_toArray->Xa8,length_cons->Xa9,cons_append->Xb0,nil_append->Xb1,length_nil->Xb2,getElem?_cons_zero->Xb3,getElem?_toArray->Xb4,replicate_succ->Xb5,map_replicate->Xb6,getElem?_map->Xb7,take_length->Xb8,map_append->Xb9
open _root_.Nat renaming lt_of_lt_of_le->Xc0,mul_le_mul->Xc1,reduceSub->Xc2,reduceAdd->Xc3,le_trans->Xc4,add_zero->Xc5
open World renaming ownsRow_nil->Xc6,cell?_setCell_same'->Xc7,putObj_heap_other->Xc8,cell?->Xc9
open _root_.Array renaming replicate_zero->Xd0,replicate_succ->Xd1,getElem?_eq_some_iff->Xd2
open Instr renaming makeSlice->Xd3,lookup->Xd4
open Value renaming int->Xd5,pointer->Xd6
open _root_.Int renaming toNat_natCast->Xd7,natCast_mul->Xd8
variable {c cur:Array Value}{old x:Int}{rs:List (Int×Int)}{xs:List Value}{B N P Q R T3 T4 a k n room s:Nat}{q r:Nat->Nat}{S:Nat->Prop}{e t t0:TypeId}{v:Value}{u u' w w':World}
theorem Tc:(prog.info? 317).map (λi=>(i.zero,i.size,i.bytes))=some (some (.agg #[JU 0,JU 0,.bool false]),3,24):=kM
theorem Ta:(prog.info? 346).map (λi=>(i.zero,i.size,i.bytes))=some (some (.agg #[JI 0,JT 0,JU 0]),3,24):=kM
def eJ(m:Int)(x:Pw):Int:=if x.looks then min (min m x.at') x.sees else min m x.at'
def jL(ws:List Pw):Int:=ws.foldl eJ (ws.getD 0 ⟨0,0,false⟩).at'
theorem tI{α β:Type}(f:β->α->β)(b:β)(l:List α)(a:α):(l++ [a]).foldl f b=f (l.foldl f b) a:=sM
section
variable {w:World}{B P L:Nat}{ws:List Pw}{wt:List Wt}
theorem IT(n:Nat)(k:Int)(hk:k=n)(h0:1<=n)(h1:n<=4)(w:World):az 19 #[JI k] w λe w'=>∃P L,e=aA (OV P)/\br w' w.heap.size P L (PI n ⟨0,0,false⟩) []/\aC w w':=by
 subst hk;obtain⟨i0,hi,hz0,hz1,hz2⟩:=aI Tc;have hmk:∀W:World,(Xd3 125 (JI (n:Int)) (JI (n:Int))).run prog W=.ok (.slice (aT W.heap.size) n n) (W.alloc (.cells ((PI n (⟨0,0,false⟩:Pw)).flatMap pwC).toArray 317)):=by intro W;have hr:=run_make (P:=prog) W 125 317 i0 _ underlying125 hi hz0 .i64 .i64 n n oM oM (by rw[hz2];omega) oM;rw[hz1,Xd7]at hr;have e:=we [JU 0,JU 0,.bool false] dM n;rw[show(PI n (⟨0,0,false⟩:Pw)).flatMap pwC=(PI n [JU 0,JU 0,.bool false]).flatten by rw[List.flatMap,Xb6],←e];exact hr
 go_enter func19,ntmps19;refine bj;refine⟨w.heap.size+1,w.heap.size,J3,⟨⟨.slice none 0 0,?_,Xc6 _ _ _ _⟩,gD,xM,oM,oM⟩,qQ⟩;rw[List.length_replicate];exact gD
theorem OJ(h:br w B P L ws wt)(h0:1<=ws.length):az 165 #[OV P] w λe w'=>e=aA (JU (jL ws))/\aC w w':=by
 refine oE;have hL:=h.l;have hle:=h.le;have H2:=OH h2;have d0:=fF fu hL (i:=0) (j:=0) h0 dM;simp only[Nat.zero_mul,Xc5,Xb3]at d0;have ha:ws[0].at'=(ws.getD 0 ⟨0,0,false⟩).at':=Vr
 rw[ha]at d0;refine jQ;go_enter func165,ntmps165;refine ay;go_loopw [3,20] (λm i wr=>∃k:Nat,k<=ws.length/\i=JI k/\m=JU ((ws.take k).foldl eJ (ws.getD 0 ⟨0,0,false⟩).at')/\aC w wr) (λ_ i _=>ws.length- (intOf i).toNat);case atStart=>exact⟨0,oM,rfl,rfl,Below.refl _ _⟩
 case round=>
  obtain⟨k,hk,rfl,rfl,hB⟩:=hrel;have z9:=hB.size;by_cases hlt:k<ws.length
  .have hLr:=aZ hB (aB hL) hL
   have e0:=fF fu hLr (i:=k) (j:=0) hlt dM;have e1:=fF fu hLr (i:=k) (j:=1) hlt dM;have e2:=fF fu hLr (i:=k) (j:=2) hlt dM;simp only[Xc5,Xb3,List.getElem?_cons_succ]at e0 e1 e2;have hst:(ws.take (k+1)).foldl eJ (ws.getD 0 ⟨0,0,false⟩).at'=eJ ((ws.take k).foldl eJ (ws.getD 0 ⟨0,0,false⟩).at') ws[k]:=by rw[show ws.take (k+1)=ws.take k++ [ws[k]] from by rw[Xa2,Xa0 hlt];rfl,tI]
   refine qg;generalize (ws.take k).foldl eJ (ws.getD 0 ⟨0,0,false⟩).at'=m at *;generalize ws[k]=x at *;obtain⟨a,s,l⟩:=x;dsimp only at e0 e1 e2;cases l with
   |false=>
    exact X0
   |true=>exact X0
  .have hkl:k=ws.length:=oM
   refine mq;exact⟨by rw[Xb8];rfl,hB⟩
end
theorem bG(h:w.ownsRow B e s v n xs)(hk:v.ownBlock=some k):∃cur,w.heap[k]?=OC cur e:=by
 rcases h.2 with⟨h1,_⟩|⟨g,cap,cur,h1,_,h3,_⟩
 .rw[h1]at hk
  cases hk
 .rw[h1]at hk
  simp only[Value.ownBlock,Option.some.injEq]at hk;subst hk;exact⟨cur,h3⟩
def OrT(P:Nat)(t:TypeId)(w:World):Nat->Prop:=λj=>j=P\/∃cur,w.heap[j]?=OC cur t
def OrB(B P:Nat)(t:TypeId)(w:World):Nat->Prop:=λj=>j=P\/(B<=j/\∃cur,w.heap[j]?=OC cur t)
section
variable {w:World}{B P L:Nat}{ws:List Pw}{wt:List Wt}
theorem Oe(h:br w B P L ws wt)(hl:wt.length<64)(sl tn ep:Int)(hB:B<=w.heap.size):az 158 #[OV P,.agg #[JI sl,JT tn],JU ep] w λe w'=>e=aA (JI 0)/\br w' B P L ws (wt++ [⟨sl,tn,ep⟩])/\ag (OrB B P 346 w) w w':=by
 obtain⟨i0,hi,hz0,hz1,hz2⟩:=aI Ta;refine AM;have HO:=OH h2;have hL:=h.l;have hle:=h.le;refine bI;refine jQ;have e1:(((wt.length:Nat):Int)==64)=false:=xM;have hX:=ao w (.cells #[JI sl,JT tn] 66) _ rfl;go_enter func158,ntmps158;refine ay;refine rg 12 (λw'=>Bk w' P #[.slice (aT L) ws.length ws.length,.slice A wt.length cap] 128/\Bk w' w.heap.size #[JI sl,JT tn] 66/\w.heap.size<=w'.heap.size/\ag (OrB B P 346 w) w w') QY (λhHeld0=>?_);refine qU;refine tk 7 ?_;refine rW;refine hK.out _ _ QY (λhHeld1=>?_);refine bV;refine on 9 λK hK=>?_
 have hownA:((w.alloc (.cells #[JI sl,JT tn] 66)).drew.alloc (.cells #[JI sl,JT tn,JU ep] 346)).ownsRow B 346 3 (.slice A wt.length cap) wt.length (wt.flatMap Cp):=((HO.out.alloc _).drew).alloc _;refine step_append_lies _ rM _ _ _ rM B 346 i0 _ 3 24 underlying126 hi hz0 hz1 hz2 rfl oM _ _ _ rM hownA ⟨w.heap.size+1,0,none⟩ 1 1 [JI sl,JT tn,JU ep] rM rM (World.news_of_block (cs:=#[JI sl,JT tn,JU ep]) (t:=346) (fr:=(0,0)) gD) nz oM lM oM xM _ rfl ?_;intro gg cap2 w1 hown1 hgrow hat hlt;refine hK.out _ _ ⟨aO (aV (t:=128) hownA hgrow gD dM),aO (aV (t:=66) hownA hgrow gD dM),by have:=hgrow.size;simp at this;omega,ag.grown (v:=.slice A wt.length cap) lW hgrow (λk hk _=> .inr ⟨eV HO.out _ hk,bG HO.out hk⟩)⟩ (λhHeld2=>?_);refine bV;refine nK;refine je;have hw:=hHeld2;go_split_ands;have hPw:w1.heap[P]?=OC #[.slice (aT L) ws.length ws.length,.slice A wt.length cap] 128:=aM;have hLw:w1.heap[L]?=OC (ws.flatMap pwC).toArray 317:=aV (t:=317) hownA hgrow gD dM;have hcw:ag (OrB B P 346 w) w w1:=aM;have hPL:L≠P:=λq=>by subst q;exact au hL dM h1
 refine bj;refine⟨rfl,⟨⟨.slice (aT gg) (wt.length+1) cap2,km,?_⟩,km,hle,H.out.bP,H.out.bL⟩,jh (.inl (.inl rfl)) hcw⟩;have hq:(wt++ [(⟨sl,tn,ep⟩:Wt)]).flatMap Cp=wt.flatMap Cp++ [JI sl,JT tn,JU ep]:=sM;rw[hq,List.length_append];exact aU hown1 hPw dM
end
theorem S7:(prog.info? 66).map (λi=>(i.zero,i.size,i.bytes))=some (some (.agg #[JI 0,JT 0]),2,16):=kM
abbrev rfC(x:Int×Int):List Value:=[JI x.1,JT x.2]
theorem R6(x:Int×Int):(rfC x).length=2:=rfl
def dw(wt:List Wt)(old:Int):List (Int×Int):=(wt.filter (λx=>decide (x.epoch<=old))).map λx=>(x.slot,x.turn)
def Hs(N T3 T4:Nat)(old:Int)(rs:List (Int×Int))(u:World):Prop:=u.heap[T4]?=OC #[JU old] 47/\N<=u.heap.size/\∃v,u.heap[T3]?=OC #[v] 268/\u.ownsRow N 66 2 v rs.length (rs.flatMap rfC)
theorem Hs.chg(h:Hs N T3 T4 old rs u)(hc:ag S u u')(h3:¬S T3)(h4:¬S T4)(h6:gk S 66 u):Hs N T3 T4 old rs u':=by obtain⟨k1,k2,v,k3,k4⟩:=h;exact⟨ae hc k1 h4,Xc4 k2 hc.size,v,ae hc k3 h3,ah k4 hc h6⟩
theorem NM(x:Wt)(u:World)(hr:rs.length<=1000)(h:Hs N T3 T4 old rs u) :
  az 167 #[.agg #[JI x.slot,JT x.turn,JU x.epoch],OV T4,OV T3] u λe u'=>e=aA (.bool (decide (x.epoch<=old)))/\Hs N T3 T4 old (if x.epoch<=old then rs++ [(x.slot,x.turn)] else rs) u'/\ag (λb=>b=T3\/N<=b) u u'/\uj 346 u u':=by
 obtain⟨i0,hi,hz0,hz1,hz2⟩:=aI S7;obtain⟨k1,k2,v,k3,hown⟩:=h;obtain⟨A,cap,rfl⟩:=aj hown;obtain⟨c1,f1,z1⟩:=ab k1;obtain⟨c3,f3,z3⟩:=ab k3;have hne:T3≠T4:=λq=>by subst q;exact au k1 dM k3
 by_cases hx:x.epoch<=old
 .have hd:decide (x.epoch<=old)=true:=by simpa using hx
  rw[if_pos hx];go_enter func167,ntmps167;go_wp2_with (first|(at_builtin;refine wpList_append_own _ rfl (.tmp 9) (.tmp 12) 268 rfl N 66 i0 _ 2 16 underlying268 hi hz0 hz1 hz2 rfl dM _ _ _ rfl ((hown.alloc _).alloc _) ⟨u.heap.size+1,0,none⟩ 1 1 [JI x.slot,JT x.turn] rfl rfl mf oe lM oM xM ?_;intro v1 u1 hown1 hgrow1 _;obtain⟨A1,cap1,rfl⟩:=aj hown1;have hT3:=aV (t:=268) ((hown.alloc _).alloc _) hgrow1 (Eq.trans (b:=some (Obj.cells _ _ (0,0))) (ai (ai k3)) rfl) dM;have hT4:=aV (t:=47) ((hown.alloc _).alloc _) hgrow1 (ai (ai k1)) dM;have hX:=aV (t:=346) ((hown.alloc _).alloc _) hgrow1 (g:=u.heap.size) (ai (ao u (.cells #[JI x.slot,JT x.turn,JU x.epoch] 346) _ rfl)) dM;obtain⟨d3,g3,y3⟩:=ab hT3;obtain⟨d4,g4,y4⟩:=ab hT4;obtain⟨d5,g5,y5⟩:=ab hX))
  have hz1:=hgrow1.size;go_ret;have hc:ag (OrT T3 66 u) u u1:=ag.grown (v:=.slice A rs.length cap) ((ag.alloc (ag.refl _ u) _).alloc _) hgrow1 (λk hk _=> .inr (bG hown hk));have hc2:ag (λb=>b=T3\/N<=b) u u1:=ag.grown (v:=.slice A rs.length cap) ((ag.alloc (ag.refl _ u) _).alloc _) hgrow1 (λk hk _=> .inr (eV hown k hk));refine⟨by rw[hd];rfl,⟨aN (Ne.symm hne) hT4,by rw[ic];have:=hc.size;omega,_,av 0 _ hT3,?_⟩,jh (.inl (.inl rfl)) hc2,λb cur hb=>?_⟩
  .have hq:(rs++ [(x.slot,x.turn)]).flatMap rfC=rs.flatMap rfC++ [JI x.slot,JT x.turn]:=sM
   exact Va
  .exact aN (λq=>KB) (ae hc hb (λq=>q.elim (λq=>KB) (λ⟨c,q⟩=>au hb dM q)))
 .have hd:decide (x.epoch<=old)=false:=by simpa using hx
  rw[if_neg hx];go_enter func167,ntmps167;refine bj;exact⟨rfl,Hs.chg (S:=af) ⟨k1,k2,_,k3,hown⟩ lW id id cy,lW,λb cur hb=>ai hb⟩
theorem Hs.chg2(h:Hs N T3 T4 old rs u)(hc:ag S u u')(hS:∀j,S j->j<N/\j≠T3/\j≠T4):Hs N T3 T4 old rs u':=by obtain⟨k1,k2,v,k3,k4⟩:=h;refine⟨ae hc k1 (λq=>(hS _ q).2.2 rfl),Xc4 k2 hc.size,v,ae hc k3 (λq=>(hS _ q).2.1 rfl),k4.1,k4.2.imp id ?_⟩;rintro⟨g,cap,cur,h1,h2,h3,h4⟩;exact⟨g,cap,cur,h1,h2,ae hc h3 (λq=>by have:=(hS _ q).1;omega),h4⟩
theorem Dy(wt:List Wt)(j:Nat)(hj:j<wt.length)(old:Int):dw (wt.take (j+1)) old=if wt[j].epoch<=old then dw (wt.take j) old++ [(wt[j].slot,wt[j].turn)] else dw (wt.take j) old:=by unfold dw;rw[Xa2,Xa0 hj,List.filter_append,Xb9];by_cases h:wt[j].epoch<=old<;>simp[h]
theorem eg167:∀args w,(callFunc 167 args).run prog w=.ok (.enter 167 args) w:=λargs w=>rfl
section
variable {w:World}{B P L:Nat}{ws:List Pw}{wt:List Wt}
theorem RI(h:br w B P L ws wt)(h0:1<=ws.length)(hl:wt.length<=64):az 116 #[OV P] w λe w'=>∃v,e=aA v/\w'.ownsRow w.heap.size 66 2 v (dw wt (jL ws)).length ((dw wt (jL ws)).flatMap rfC) /\
  br w' B P L ws (wt.filter (λx=>!decide (x.epoch<=jL ws)))/\ag (OrB B P 346 w) w w':=by
 have hz:=h.lt;refine bI;clear h;generalize hO:jL ws=old at *;have HO:=OH hO;clear hO;go_enter func116,ntmps116;refine ay;refine(OJ (H.out.below Uk) h0).mono ?_;refine jp;rw[HO.out];have hz1:=hb.size;have hP1:=(H.out.below Uk).below hb;have hT3:=aZ hb rJ (ao w (.cells #[.slice none 0 0] 268) _ rfl);have hc1:ag (OrB B P 346 w) w w1:=ag.next im hb;obtain⟨v,k1,k2⟩:=hP1.p;obtain⟨A,cap,rfl⟩:=aj k2;obtain⟨c1,f1,z1⟩:=ab k1;obtain⟨c3,f3,z3⟩:=ab hT3;have K2:=OH k2;clear k2;have HP1:=OH hP1;clear hP1;refine ay;obtain⟨T3,hT3e⟩:∃T,T=w.heap.size:=⟨_,rfl⟩
 obtain⟨T4,hT4e⟩:∃T,T=w1.heap.size:=⟨_,rfl⟩
 rw[←hT3e]at hT3 c3 f3 z3 ⊢;rw[←hT4e];have y0:(w1.alloc (.cells #[JU old] 47)).heap.size=T4+1:=by rw[aD,hT4e]
 have y1:P<T3/\L<T3/\T3<T4:=by rw[aD]at hz1;omega
 have HT3E:=OH hT3e;clear hT3e;have HT4E:=OH hT4e;clear hT4e;have hJ0:Hs (T4+1) T3 T4 old (dw (wt.take 0) old) (w1.alloc (.cells #[JU old] 47)):=⟨ao _ _ _ HT4E.out,oM,_,ai hT3,Xc6 _ _ _ _⟩
 have hbu:aC w (w1.alloc (.cells #[JU old] 47)):=Below.alloc (aE oA hb) (by rw[aD]at hz1;omega) _;have hc2:ag (OrB B P 346 w) w (w1.alloc (.cells #[JU old] 47)):=hc1.alloc _;have hk1:(w1.alloc (.cells #[JU old] 47)).heap[P]?=_:=ai k1;have hl1:(w1.alloc (.cells #[JU old] 47)).heap[L]?=_:=ai HP1.out.l;have hk2:=K2.out.alloc (.cells #[JU old] 47);generalize w1.alloc (.cells #[JU old] 47)=u at *;have K3:=OH hk2;clear hk2;have hPL:L≠P:=λq=>by subst q;exact au hl1 dM hk1
 have hfl:(dw wt old).length<=wt.length:=by unfold dw;rw[Xa3];exact Xa5 _ _
 rcases bW K3.out with⟨h1,h2,h3⟩|⟨g,cap2,h1,h2,h3,h4,h5⟩
 .have hw:wt=[]:=List.eq_nil_of_length_eq_zero h2
  subst hw;refine mh;refine nI;obtain⟨d0,e0,y2⟩:=ab hk1;obtain⟨q1,q2,vo,q3,q4⟩:=hJ0;obtain⟨Ao,co,rfl⟩:=aj q4;obtain⟨d3,e3,y3⟩:=ab q3;have Q4:=OH q4;clear q4;refine Calls.mono (DR _ _) ?_;rintro e w2 ⟨rfl,rfl⟩;have hPT:T3≠P:=oM;clear c1 f1 z1 c3 f3 z3;refine bj;exact⟨_,rfl,aU (aW Q4.out (by have:=HT3E.out;omega)) hk1 dM,⟨⟨_,km,Xc6 _ _ _ _⟩,km,HP1.out.le,HP1.out.bP,HP1.out.bL⟩,jh (.inl (.inl rfl)) hc2⟩
 .rcases K3.out.2 with⟨r1,_⟩|⟨g',cap',cur,r1,r2,r3,r4,r5,r6,r7⟩
  .rw[h1]at r1
   cases r1
  rw[h1]at r1;simp only[Value.slice.injEq,Option.some.injEq,Addr.mk.injEq]at h1 r1;refine nI;obtain⟨⟨rfl,_⟩,_,rfl⟩:=r1;have hcur:∀i (hi:i<wt.length) j,j<3->cur[i*3+j]?=(Cp wt[i])[j]?:=λi hi j hj=>by rw[←bY Gl wt i j hi hj,←r7,List.getElem?_take_of_lt oM,Array.getElem?_toList]
  have hgP:g≠P:=λq=>by subst q;exact au hk1 dM r3
  have hgL:g≠L:=λq=>by subst q;exact au hl1 dM r3
  have hgN:g<T4+1:=oM;have hg3:g≠T3:=λq=>by obtain⟨_,_,vo,q3,_⟩:=hJ0;subst q;exact au q3 dM r3
  have hg4:g≠T4:=λq=>by have q1:=hJ0.1;subst q;exact au q1 dM r3
  have bZ:∀j (hj:j<wt.length) u',Hs (T4+1) T3 T4 old (dw (wt.take j) old) u'->az 167 (#[.agg (Cp wt[j]).toArray] ++ #[OV T4,OV T3]) u' λe u''=>e=aA (.bool (decide (wt[j].epoch<=old)))/\Hs (T4+1) T3 T4 old (dw (wt.take (j+1)) old) u''/\ag (λb=>b=T3\/T4+1<=b) u' u''/\uj 346 u' u'':=λj hj u' hu=>by have hk:=NM wt[j] u' (by have:=Xa5 (λx:Wt=>decide (x.epoch<=old)) (wt.take j);unfold dw;rw[Xa3];simp at this ⊢;omega) hu;rw[Dy wt j hj];exact hk
  refine Calls.mono (del_wt (J:=λj u=>Hs (T4+1) T3 T4 old (dw (wt.take j) old) u) (S:=λb=>b=T3\/T4+1<=b) (p:=λx=>decide (x.epoch<=old)) (m:=167) eg167 oM r3 r4 r6 hcur
   bZ
   (λj u1 u2 hu hc=>Hs.chg2 hu hc (λi hi=>by subst hi;exact⟨hgN,hg3,hg4⟩)) hJ0) ?_
  rintro e w2 ⟨cr2,rfl,hg2,hs2,he2,hJ2,hc3⟩;have hP2:w2.heap[P]?=_:=ae hc3 hk1 (by rintro((q|q)|q)<;>omega);have hL2:w2.heap[L]?=_:=ae hc3 hl1 (by rintro((q|q)|q)<;>omega);obtain⟨q1,q2,vo,q3,q4⟩:=hJ2;rw[Xb8]at q4;obtain⟨Ao,co,rfl⟩:=aj q4;obtain⟨d0,e0,y2⟩:=ab hP2;obtain⟨d3,e3,y3⟩:=ab q3;have Q4:=OH q4;clear q4;have hrow:=eh Gl (B:=B) hg2 r2 (by have:=Xa5 (λx:Wt=>!decide (x.epoch<=old)) wt;omega) r5 hs2 he2;have HR:=OH hrow;clear hrow;have hcF:ag (OrB B P 346 w) w w2:=hc2.call hc3 (by
   rintro j hj ((q|q)|q)
   .have:=HT3E.out
    omega
   .have:=HT3E.out
    omega
   .subst q
    exact .inr ⟨r2,cur,(hbu.block _ hj).symm.trans r3⟩)
  clear hcur he2 r7 hJ0 c1 f1 z1 c3 f3 z3;have hPT:T3≠P:=oM;refine bj;exact⟨_,rfl,aU (aW Q4.out (by have:=HT3E.out;omega)) hP2 dM,⟨⟨_,km,aU HR.out hP2 dM⟩,km,HP1.out.le,HP1.out.bP,HP1.out.bL⟩,jh (.inl (.inl rfl)) hcF⟩
end
abbrev akC(x:Int×Int):List Value:=[JI x.1,JU x.2]
def jw{α:Type}(f:Nat->α)(i:Nat)(x:α):Nat->α:=λj=>if j=i then x else f j
theorem dX{α:Type}(f:Nat->α)(i:Nat)(x:α):jw f i x i=x:=if_pos rfl
theorem dU{α:Type}(f:Nat->α)(i j:Nat)(x:α)(h:j≠i):jw f i x j=f j:=if_neg h
def gB(l:List Value):List (List Value):=l.map λv=> [v]
structure aH(w:World)(B P QA RA LA n:Nat)(q r:Nat->Nat)(room:Nat)(tabs:Nat->List Value)(acks:List (Int×Int))(last:List Int):Prop where
 p:∃v,w.heap[P]?=OC #[v,OV QA,.slice (aT LA) n n] 136/\w.ownsRow B 137 1 v n ((Xa4 n).map λi=>OV (q i))
 ak:∃a cur,eD w QA RA 229 132 2 (n*room) a (acks.map akC) cur
 la:w.heap[LA]?=OC (last.map (Xd5 .u64)).toArray 47
 ll:last.length=n
 n0:1<=n
 n1:n<=4
 tq:∀i,i<n->∃a cur,eD w (q i) (r i) 232 139 1 room a (gB (tabs i)) cur
 qi:∀i j,i<n->j<n->i≠j->q i≠q j/\r i≠r j
 b:B<=P/\B<=QA/\B<=RA/\B<=LA/\∀i,i<n->B<=q i/\B<=r i
theorem CO{α:Type}(n i:Nat)(f:Nat->α)(h:i<n):((Xa4 n).map f)[i]?=some (f i):=by simp[h]
theorem kF{e cap:Nat}{A:Option Addr}{f:Nat->Value}(h:w.ownsRow B e 1 (.slice A n cap) n ((Xa4 n).map f))(hk:k<n):∃g,A=some ⟨g,0,none⟩/\B<=g/\g<w.heap.size/\w.cell? ⟨g,k,none⟩=some (f k):=by obtain⟨g,hA,h1,h2,h3,_⟩:=iL h (i:=k) (j:=0) hk dM;refine⟨g,hA,h1,h2,?_⟩;simp only[Nat.zero_add,Nat.mul_one,Xc5]at h3;exact h3.trans (CO n k f hk)
def kQ(l:List Int):Int:=l.foldl min (l.getD 0 0)
theorem min_t{LA c:Nat}{l:List Int}(hL:w.heap[LA]?=OC (l.map (Xd5 .u64)).toArray 47)(hl:l.length=n)(h0:1<=n)(h1:n<=1000):az 164 #[.slice (aT LA) n c] w λe w'=>e=aA (JU (kQ l))/\w'=w:=by
 subst hl;obtain⟨c0,f0,z0⟩:=ab hL;have cell:∀k (hk:k<l.length),w.cell? ⟨LA,k,none⟩=some (JU l[k]):=λk hk=>by rw[c0,Xb4,Xb7,Xa0 hk];rfl
 have C:=OH cell;clear cell;have C0:=OH c0;clear c0;have d0:=C.out 0 h0;have e0:l[0]=l.getD 0 0:=Vr
 rw[e0]at d0;go_enter func164,ntmps164;refine ay;go_loop [3,4] (λm i=>∃k:Nat,1<=k/\k<=l.length/\i=JI k/\m=JU ((l.take k).foldl min (l.getD 0 0))) (λ_ i=>l.length- (intOf i).toNat);case atStart=>exact⟨1,oM,h0,rfl,by rw[show l.take 1=[l[0]] from by rw[Xa2,Xa0 h0];rfl,e0];simp⟩
 case round=>
  obtain⟨k,hk0,hk,rfl,rfl⟩:=hrel;refine rO
  .have d1:=C.out k hlt
   have hst:(l.take (k+1)).foldl min (l.getD 0 0)=min ((l.take k).foldl min (l.getD 0 0)) l[k]:=by rw[show l.take (k+1)=l.take k++ [l[k]] from by rw[Xa2,Xa0 hlt];rfl,tI]
   refine qg;clear hst;generalize (l.take k).foldl min (l.getD 0 0)=m at *;generalize l[k]=x at *;refine ay;go_round;case rel=>exact⟨k+1,oM,oM,eT,by rw[HST.out]⟩
   case measure=>exact di
  .have hkl:k=l.length:=oM
   refine mq;exact⟨by simp[kQ],rfl⟩
section
variable {w:World}{B P QA RA LA n room:Nat}{q r:Nat->Nat}{tabs:Nat->List Value}{acks:List (Int×Int)}{last:List Int}
theorem aH.kept(h:aH w B P QA RA LA n q r room tabs acks last)(hc:ag S w w')(h1:¬S P)(h2:¬S QA)(h3:¬S RA)(h4:¬S LA)(h5:∀i,i<n->¬S (q i)/\¬S (r i))(h6:gk S 137 w):aH w' B P QA RA LA n q r room tabs acks last:=by obtain⟨v,k1,k2⟩:=h.p;obtain⟨a,cur,k3⟩:=h.ak;exact⟨⟨v,ae hc k1 h1,ah k2 hc h6⟩,⟨a,cur,k3.kept hc h2 h3⟩,ae hc h.la h4,h.ll,h.n0,h.n1,λi hi=>by obtain⟨a,cur,k⟩:=h.tq i hi;exact⟨a,cur,k.kept hc (h5 i hi).1 (h5 i hi).2⟩,h.qi,h.b⟩
theorem aH.below(h:aH w B P QA RA LA n q r room tabs acks last)(hb:aC w w'):aH w' B P QA RA LA n q r room tabs acks last:=
 h.kept (S:=af) (.of hb) id id id id (λ_ _=>⟨id,id⟩) cy
theorem bhas_t(h:aH w B P QA RA LA n q r room tabs acks last)(k:Nat)(i:Int)(hi:i=k)(hk:k<n):az 72 #[OV P,JI i] w λe w'=>e=aA (.bool true)/\w'=w:=by
 subst hi;refine AM;have h3:=h.n1;refine jQ;have d0:decide ((0:Int)<=(k:Int))=true:=sM;have d1:decide ((k:Int)<(n:Int))=true:=by simpa using hk
 go_enter func72,ntmps72;exact ga
theorem Qy(h:aH w B P QA RA LA n q r room tabs acks last):az 32 #[OV P] w λe w'=>e=aA (JI acks.length)/\w'=w:=by refine oE;refine Fa;go_enter func32,ntmps32;refine ay;refine(Pc hq).mono ?_;refine qq;rw[Xa3];exact ga
theorem Bh(h:aH w B P QA RA LA n q r room tabs acks last)(k:Nat)(i:Int)(hi:i=k)(hk:k<n):az 37 #[OV P,JI i] w λe w'=>e=aA (JI (tabs k).length)/\w'=w:=by
 refine U5;refine jQ;obtain⟨g,rfl,hgB,hgz,hg1⟩:=kF h2 hk;have hl:(gB (tabs k)).length=(tabs k).length:=by simp[gB]
 go_enter func37,ntmps37;refine Lu;refine(O9 hq).mono ?_;refine qq;rw[hl];exact ga
theorem aH.tabs'(h:aH w B P QA RA LA n q r room tabs acks last)(k:Nat)(hk:k<n)(hq:eD w' (q k) (r k) 232 139 1 room a (gB xs) cur)(hc:ag (λj=>j=q k\/j=r k) w w'):aH w' B P QA RA LA n q r room (jw tabs k xs) acks last:=by
 refine Ld;obtain⟨a2,cur2,k4⟩:=h.tq k hk;have n1:∀ {j:Nat} {c:Array Value} {t:TypeId},w.heap[j]?=OC c t->t≠232->t≠139->¬(j=q k\/j=r k):=fun {j c t} hj t1 t2 e=>e.elim (λe=>by subst e;exact au hj t1 k4.q) (λe=>by subst e;exact au hj t2 k4.r)
 refine⟨UF,⟨a1,cur1,k3.kept hc (n1 k3.q dM dM) (n1 k3.r dM dM)⟩,ae hc h.la (n1 h.la dM dM),h.ll,h.n0,h.n1,λi hi=>?_,h.qi,h.b⟩;by_cases e:i=k
 .subst e
  rw[dX];exact⟨a,cur,hq⟩
 .obtain⟨a3,cur3,k5⟩:=h.tq i hi
  obtain⟨e1,e2⟩:=h.qi i k hi hk e;rw[dU _ _ _ _ e];exact⟨a3,cur3,k5.kept hc (λhh=>hh.elim e1 (λe=>by rw[e]at k5;exact au k5.q dM k4.r)) (λhh=>hh.elim (λe=>by rw[e]at k5;exact au k5.r dM k4.q) e2)⟩
theorem D7(h:aH w B P QA RA LA n q r room tabs acks last)(k:Nat)(i:Int)(hi:i=k)(hk:k<n)(ht:tabs k=[]):az 104 #[OV P,JI i] w λe w'=>e=aA (.tuple #[.pointer none,.bool false])/\aC w w':=by refine Zo;refine(Bo hq).mono ?_;refine jp;refine df;exact⟨rfl,hb⟩
theorem D6(h:aH w B P QA RA LA n q r room tabs acks last)(k:Nat)(i:Int)(hi:i=k)(hk:k<n)(x:Option Addr)(xs:List Value)(ht:tabs k=.pointer x::xs):az 104 #[OV P,JI i] w λe w'=>e=aA (.tuple #[.pointer x,.bool true])/\aH w' B P QA RA LA n q r room (jw tabs k xs) acks last/\ag (λj=>j=q k\/j=r k) w w':=by refine Zo;refine(Bj hq).mono ?_;rintro e w1 ⟨rfl,⟨a',cur',hq'⟩,hc⟩;refine df;exact⟨rfl,H.out.tabs' k hk hq' hc,hc⟩
theorem aH.acks'(h:aH w B P QA RA LA n q r room tabs acks last){xs:List (Int×Int)}(hq:eD w' QA RA 229 132 2 (n*room) a (xs.map akC) cur)(hc:ag (λj=>j=QA\/j=RA) w w'):aH w' B P QA RA LA n q r room tabs xs last:=by
 refine Ld;have n1:∀ {j:Nat} {c:Array Value} {t:TypeId},w.heap[j]?=OC c t->t≠229->t≠132->¬(j=QA\/j=RA):=fun {j c t} hj t1 t2 e=>e.elim (λe=>by subst e;exact au hj t1 k3.q) (λe=>by subst e;exact au hj t2 k3.r)
 refine⟨UF,⟨a,cur,hq⟩,ae hc h.la (n1 h.la dM dM),h.ll,h.n0,h.n1,λi hi=>?_,h.qi,h.b⟩;obtain⟨a3,cur3,k5⟩:=h.tq i hi;exact⟨a3,cur3,k5.kept hc (n1 k5.q dM dM) (n1 k5.r dM dM)⟩
theorem back_t(h:aH w B P QA RA LA n q r room tabs acks last)(k:Nat)(i ep:Int)(hi:i=k)(hk:k<n)(hf:acks.length<n*room):az 106 #[OV P,JI i,JU ep] w λe w'=>e=aA (JI 0)/\aH w' B P QA RA LA n q r room tabs (acks++ [((k:Int),ep)]) last/\ag (λj=>j=QA\/j=RA) w w':=by refine YY;refine(Sx hq (by rw[Xa3];exact hf) _ _).mono ?_;rintro e w1 ⟨rfl,⟨cur',hq'⟩,hc⟩;refine bj;exact⟨rfl,H.out.acks' (by simpa using hq') hc,hc⟩
theorem JQ(h:aH w B P QA RA LA n q r room tabs acks last)(k:Nat)(i ep:Int)(hi:i=k)(hk:k<n)(hf:acks.length=n*room):az 106 #[OV P,JI i,JU ep] w λe w'=>e=aA (JI 20)/\aC w w':=by refine YY;refine(xh hq (by rw[Xa3];exact hf) _ _).mono ?_;refine jp;refine bj;exact⟨rfl,hb⟩
theorem aH.last'{ls:List Int}(h:aH w B P QA RA LA n q r room tabs acks last)(hl:ls.length=n)(hL:w'.heap[LA]?=OC (ls.map (Xd5 .u64)).toArray 47)(hc:ag (λj=>j=LA) w w'):aH w' B P QA RA LA n q r room tabs acks ls:=by
 refine Ld;have n1:∀ {j:Nat} {c:Array Value} {t:TypeId},w.heap[j]?=OC c t->t≠47->¬(j=LA):=fun {j c t} hj t1 e=>by subst e;exact au hj t1 h.la
 refine⟨⟨v,ae hc k1 (n1 k1 dM),ah k2 hc (λj c hj hh=>n1 hh dM hj)⟩,⟨a1,cur1,k3.kept hc (n1 k3.q dM) (n1 k3.r dM)⟩,hL,hl,h.n0,h.n1,λi hi=>?_,h.qi,h.b⟩;obtain⟨a3,cur3,k5⟩:=h.tq i hi;exact⟨a3,cur3,k5.kept hc (n1 k5.q dM) (n1 k5.r dM)⟩
theorem T0(h:aH w B P QA RA LA n q r room tabs acks last):az 115 #[OV P] w λe w'=>e=aA (JU (kQ last))/\w'=w:=by refine oE;have hL:=h.la;have hll:=h.ll;have hn0:=h.n0;have hn1:=h.n1;refine jQ;go_enter func115,ntmps115;refine ay;refine(min_t hL hll hn0 oM).mono ?_;exact uW
theorem yh(h:aH w B P QA RA LA n q r room tabs [] last):az 114 #[OV P] w λe w'=>e=aA (.tuple #[JI 0,JU 0,.bool false])/\aC w w':=by
 refine oE;refine Fa;go_enter func114,ntmps114;refine ay;refine(Br hq).mono ?_;refine jp;refine nJ;refine qm
 go_ret3
 exact sC
theorem yg{ep:Int}(h:aH w B P QA RA LA n q r room tabs (((s:Int),ep)::acks) last)(hs:s<n):az 114 #[OV P] w λe w'=>e=aA (.tuple #[JI s,JU ep,.bool true])/\aH w' B P QA RA LA n q r room tabs acks (last.set s ep)/\ag (λj=>(j=QA\/j=RA)\/j=LA) w w':=by
 refine oE;refine Fa;refine bI;go_enter func114,ntmps114;refine ay;refine(Bn hq).mono ?_;rintro e w1 ⟨rfl,⟨a',cur',hq'⟩,hc⟩;have hB1:=H.out.acks' hq' hc;obtain⟨v1,h3,h4⟩:=hB1.p;have hL:=hB1.la;have hll:=hB1.ll;have hn1:=hB1.n1;have hPL:LA≠P:=λe=>by subst e;exact au hL dM h3
 obtain⟨d0,e0,y0⟩:=ab h3;obtain⟨d1,e1,y1⟩:=ab hL;have g1:w1.cell? ⟨LA,s,none⟩=some (JU (last[s]'oM)):=by rw[d1,Xb4,Xb7,Xa0 oM];rfl
 have D1:=OH d1;have H4:=OH h4;have HB1:=OH hB1;refine gq;go_region;refine nJ;refine qm
 go_ret3
 have hset:(last.map (Xd5 .u64)).set s (JU ep)=(last.set s ep).map (Xd5 .u64):=by rw[List.map_set]
 have hcF:ag (λj=>(j=QA\/j=RA)\/j=LA) w w1:=hc.mono (λj _ e=> .inl e);exact⟨rfl,HB1.out.last' (by rw[List.length_set];exact hll) (by rw[←hset,←List.setIfInBounds_toArray];exact gD) lW,lW⟩
end
theorem ff(st te:TypeId)(z:List Value)(bts:Nat)(hu:prog.underlying st=some (.slice te))(hinf:(prog.info? te).map (λi=>(i.zero,i.size,i.bytes))=some (some (if z.length=1 then z.headD undef else .agg z.toArray),z.length,bts))(hz:0<z.length)(hc:(if z.length=1 then z.headD undef else Value.agg z.toArray).cells=z.toArray)(hb:bts<=1000)(n:Nat)(hn:n<=5000)(W:World) :
  (Xd3 st (JI (n:Int)) (JI (n:Int))).run prog W=.ok (.slice (aT W.heap.size) n n) (W.alloc (.cells ((PI n z).flatten).toArray te)):=by
 obtain⟨i0,hi,hz0,hz1,hz2⟩:=aI hinf;have hm:n*bts<=5000*1000:=Xc1 hn hb;have hr:=run_make (P:=prog) W st te i0 _ hu hi hz0 .i64 .i64 n n oM oM (by rw[hz2];have:=Nat.mul_comm n bts;omega) oM;rw[hz1,Xd7,hc,we z hz n]at hr;exact hr
theorem nj(z:List Value)(n:Nat):((PI n z).flatten).toArray.size=n*z.length:=sM
theorem Sr(n:Nat)(k:Int)(hk:k=n)(h0:1<=n)(h1:n<=4096)(w:World):az 53 #[JI k] w λe w'=>∃Q R cur,e=aA (OV Q)/\eD w' Q R 229 132 2 n 0 [] cur/\w.heap.size<=Q/\w.heap.size<=R/\aC w w':=by
 subst hk;have hmk:∀W:World,(Xd3 227 (JI (n:Int)) (JI (n:Int))).run prog W=.ok (.slice (aT W.heap.size) n n) (W.alloc (.cells ((PI n [JI 0,JU 0]).flatten).toArray 132)):=
  λW=>ff 227 132 [JI 0,JU 0] 16 underlying227 kM dM rfl oM n oM W
 have hsz:=nj [JI 0,JU 0] n;have HS:=OH hsz;go_enter func53,ntmps53;exact Gi
theorem So(n:Nat)(k:Int)(hk:k=n)(h0:1<=n)(h1:n<=4096)(w:World):az 54 #[JI k] w λe w'=>∃Q R cur,e=aA (OV Q)/\eD w' Q R 232 139 1 n 0 [] cur/\w.heap.size<=Q/\w.heap.size<=R/\aC w w':=by
 subst hk;have hmk:∀W:World,(Xd3 230 (JI (n:Int)) (JI (n:Int))).run prog W=.ok (.slice (aT W.heap.size) n n) (W.alloc (.cells ((PI n [.pointer none]).flatten).toArray 139)):=
  λW=>ff 230 139 [.pointer none] 8 underlying230 kM dM rfl oM n oM W
 have hsz:=nj [.pointer none] n;have HS:=OH hsz;go_enter func54,ntmps54;exact Gi
theorem Sq(n:Nat)(k:Int)(hk:k=n)(h0:1<=n)(h1:n<=4096)(w:World):az 55 #[JI k] w λe w'=>∃Q R cur,e=aA (OV Q)/\eD w' Q R 235 143 2 n 0 [] cur/\w.heap.size<=Q/\w.heap.size<=R/\aC w w':=by
 subst hk;have hmk:∀W:World,(Xd3 233 (JI (n:Int)) (JI (n:Int))).run prog W=.ok (.slice (aT W.heap.size) n n) (W.alloc (.cells ((PI n [JI 0,.slice none 0 0]).flatten).toArray 143)):=
  λW=>ff 233 143 [JI 0,.slice none 0 0] 32 underlying233 kM dM rfl oM n oM W
 have hsz:=nj [JI 0,.slice none 0 0] n;have HS:=OH hsz;go_enter func55,ntmps55;exact Gi
theorem Sp(n:Nat)(k:Int)(hk:k=n)(h0:1<=n)(h1:n<=4096)(w:World):az 59 #[JI k] w λe w'=>∃Q R cur,e=aA (OV Q)/\eD w' Q R 246 157 2 n 0 [] cur/\w.heap.size<=Q/\w.heap.size<=R/\aC w w':=by
 subst hk;have hmk:∀W:World,(Xd3 244 (JI (n:Int)) (JI (n:Int))).run prog W=.ok (.slice (aT W.heap.size) n n) (W.alloc (.cells ((PI n [JI 0,.slice none 0 0]).flatten).toArray 157)):=
  λW=>ff 244 157 [JI 0,.slice none 0 0] 32 underlying244 kM dM rfl oM n oM W
 have hsz:=nj [JI 0,.slice none 0 0] n;have HS:=OH hsz;go_enter func59,ntmps59;exact Gi
theorem Tm:(prog.info? 137).map (λi=>(i.zero,i.size,i.bytes))=some (some (.pointer none),1,8):=kM
structure jZ(w:World)(B room k:Nat)(q r:Nat->Nat):Prop where
 tq:∀i,i<k->∃a cur,eD w (q i) (r i) 232 139 1 room a [] cur
 qi:∀i j,i<k->j<k->i≠j->q i≠q j/\r i≠r j
 b:∀i,i<k->B<=q i/\B<=r i
theorem jZ.kept(h:jZ w B room k q r)(hc:ag S w w')(h1:gk S 232 w)(h2:gk S 139 w):jZ w' B room k q r:=
 ⟨λi hi=>by obtain⟨a,cur,g⟩:=h.tq i hi;exact⟨a,cur,g.kept hc (λe=>h1 _ _ e g.q) (λe=>h2 _ _ e g.r)⟩,h.qi,h.b⟩
theorem jZ.put(h:jZ w B room k q r)(hq:eD w Q R 232 139 1 room a [] cur)(h0:∀i,i<k->q i≠Q/\r i≠R)(h1:B<=Q)(h2:B<=R):jZ w B room (k+1) (jw q k Q) (jw r k R):=by
 refine⟨λi hi=>?_,λi j hi hj hn=>?_,λi hi=>?_⟩
 .by_cases e:i=k
  .subst e
   rw[dX,dX];exact⟨a,cur,hq⟩
  .refine KX
   exact h.tq i oM
 .by_cases e:i=k
  .subst e
   rw[dX,dX,dU _ _ _ _ (λe=>hn e.symm),dU _ _ _ _ (λe=>hn e.symm)];exact⟨λe=>(h0 j oM).1 e.symm,λe=>(h0 j oM).2 e.symm⟩
  .refine KX
   by_cases e2:j=k
   .subst e2
    rw[dX,dX];exact h0 i oM
   .rw[dU _ _ _ _ e2,dU _ _ _ _ e2]
    exact h.qi i j oM oM hn
 .by_cases e:i=k
  .subst e
   rw[dX,dX];exact⟨h1,h2⟩
  .refine KX
   exact h.b i oM
theorem IN(k Q:Nat)(q:Nat->Nat):((Xa4 (k+1)).map λi=>(Xd6 (some ⟨jw q k Q i,0,none⟩)))=((Xa4 k).map λi=>(Xd6 (some ⟨q i,0,none⟩)))++ [OV Q]:=by
 rw[List.range_succ,Xb9]
 congr 1
 .apply List.map_congr_left
  intro i hi;rw[dU _ _ _ _ (by have:=List.mem_range.1 hi;omega)]
 .simp[dX]
theorem xH(hP:w.heap[P]?=OC c t0)(h0:t0≠e)(h1:t≠e):gk (OrT P t w) e w:=λj cur hj hh=>by
 rcases hj with rfl|⟨c2,h2⟩
 .exact au hP h0 hh
 .exact au h2 h1 hh
theorem oX{j:Nat}{c2:Array Value}(hP:w.heap[P]?=OC c t0)(hj:w.heap[j]?=OC c2 e)(h0:t0≠e)(h1:t≠e):¬OrT P t w j:=λh=>xH hP h0 h1 j c2 h hj
theorem eD.below{L:Nat}{tq te:TypeId}{xs:List (List Value)}(h:eD w Q R tq te s L a xs cur)(hb:aC w w'):eD w' Q R tq te s L a xs cur:=h.kept (S:=af) (.of hb) id id
theorem bnew_t(n room:Nat)(a b:Int)(ha:a=n)(hb:b=room)(h0:1<=n)(h1:n<=4)(r0:1<=room)(r1:room<=9)(w:World):az 20 #[JI a,JI b] w λe w'=>∃P QA RA LA q r,e=aA (OV P)/\aH w' w.heap.size P QA RA LA n q r room (λ_=> []) [] (PI n 0)/\aC w w':=by
 subst ha hb;obtain⟨i0,hi,hz0,hz1,hz2⟩:=aI Tm;have hnr:n*room<=4*9:=Xc1 h1 r1;have hnr1:1*1<=n*room:=Xc1 h0 r0;have hw:IntKind.i64.wrap ((n:Int)*(room:Int))=((n:Int)*(room:Int)):=by rw[←Xd8];exact IntWalk.i64_in _ oM
 have hmk:∀W:World,(Xd3 133 (JI (n:Int)) (JI (n:Int))).run prog W=.ok (.slice (aT W.heap.size) n n) (W.alloc (.cells ((PI n [JU 0]).flatten).toArray 47)):=
  λW=>ff 133 47 [JU 0] 8 underlying133 kM dM rfl oM n oM W
 have hfl:((PI n [Xd5 .u64 0]).flatten)=(PI n (0:Int)).map (Xd5 .u64):=by
  rw[Xb6];induction n with
  |zero=>
   rfl
  |succ n ih=>rw[Xb5,List.flatten_cons,Xb5];simp
 rw[hfl]at hmk;have hln:(PI n (0:Int)).length=n:=sM;generalize (PI n (0:Int))=Z at *;have HLN:=OH hln;go_enter func20,ntmps20;refine iI;go_cut [5] from 20 to 27 (λp wx=>∃P QA RA LA cur,p=OV P/\wx.heap[P]?=OC #[.slice none 0 0,OV QA,.slice (aT LA) n n] 136/\eD wx QA RA 229 132 2 (n*room) 0 [] cur/\wx.heap[LA]?=OC (Z.map (Xd5 .u64)).toArray 47/\(w.heap.size<=P/\w.heap.size<=QA/\w.heap.size<=RA/\w.heap.size<=LA)/\aC w wx);case first=>
  go_region_with ((go_at_call 53;(with_reducible refine(Sr (n*room) _ (Xd8 n room).symm oM oM _).mono ?_);rintro e w2 ⟨QA,RA,cur,rfl,hQ,hQl,hRl,hb2⟩;have y2:=hb2.size;have hB2:=aE (w:=w) (by first|exact bF yN 1|go_grown) hb2;have hvv:=Via.mk hb2))
  all_goals(go_wp2_with fail;go_meet;simp only[bE,aD]at hQl hRl y2;exact⟨_,QA,RA,_,cur,rfl,gD,hQ.below gM,qx3,⟨by first|omega|(simp only[aD,bE];omega),oM,oM,by first|omega|(simp only[aD,bE];omega)⟩,by first|go_grown|assumption⟩)
 case rest=>
  obtain⟨P,QA,RA,LA,cur,rfl,hP,hQ,hLA,⟨b1,b2,b3,b4⟩,hB0⟩:=hcut;have HQ:=OH hQ;obtain⟨u,hu⟩:∃u,u=wc:=⟨_,rfl⟩
  subst hu;refine ay;go_loopw [29] (λi wr=>∃ (k:Nat) (q r:Nat->Nat) (A:Option Addr) (cap:Nat),k<=n/\i=JI k/\wr.heap[P]?=OC #[.slice A k cap,OV QA,.slice (aT LA) n n] 136/\wr.ownsRow w.heap.size 137 1 (.slice A k cap) k ((Xa4 k).map λi=>OV (q i))/\jZ wr w.heap.size room k q r/\eD wr QA RA 229 132 2 (n*room) 0 [] cur/\wr.heap[LA]?=OC (Z.map (Xd5 .u64)).toArray 47/\aC w wr) (λi _=>n- (intOf i).toNat);case atStart=>exact⟨0,λ_=>0,λ_=>0,none,0,oM,rfl,hP,Xc6 _ _ _ _,⟨λi hi=>oM,λi j hi=>oM,λi hi=>oM⟩,HQ.out,hLA,hB0⟩
  case round=>
   obtain⟨k,q,r,A,cap,hk,rfl,hP,hO,hR,hQ,hLA,hB⟩:=hrel;have HO:=OH hO;have HR:=OH hR;have HQ:=OH hQ;have HLA:=OH hLA;have yB:=hB.size;obtain⟨c0,f0,z0⟩:=ab hP;by_cases hlt:k<n
   .go_upto_region 6 with fail
    refine rg 11 (λw'=>Bk w' P #[.slice A k cap,OV QA,.slice (aT LA) n n] 136/\wr.heap.size<=w'.heap.size/\ag (OrT P 137 wr) wr w') zt72 (λhHeld0=>?_);refine Ce;refine tk 5 ?_;refine on 6 λK hK=>?_
    go_simp;refine(So room _ rfl r0 oM _).mono ?_;rintro e w9 ⟨Qn,Rn,cn,rfl,hQn,hQl,hRl,hb9⟩;simp only[bE]at hQl hRl;have hb9:aC wr w9:=aE (w:=wr) Eh hb9;have hP9:=(hb9.block P aM).trans hP;have hc9:ag (OrT P 137 wr) wr w9:=.of hb9;have y9:=hb9.size;refine hK.out _ _ zt72 (λhHeld1=>?_);refine bV;refine on 7 λK hK=>?_
    go_simp;refine hK.out _ _ zt72 (λhHeld2=>?_);refine bV;refine on 8 λK hK=>?_
    have hownA:(w9.alloc (.cells #[OV Qn] 137)).ownsRow w.heap.size 137 1 (.slice A k cap) k ((Xa4 k).map λi=>OV (q i)):=(aX HO.out hb9).alloc _;refine step_append_lies _ rM _ _ _ rM w.heap.size 137 i0 _ 1 8 underlying134 hi hz0 hz1 hz2 rfl oM _ _ _ rM hownA ⟨w9.heap.size,0,none⟩ 1 1 [OV Qn] rM rM mf nz oM lM oM xM _ rfl ?_;intro gg cap2 w1 hown1 hgrow hat hlt';refine hK.out _ _ ⟨aO (aV (t:=136) hownA hgrow gD dM),by have:=hgrow.size;simp at this;omega,ag.grown (v:=.slice A k cap) lW hgrow (λk hk _=> .inr (bG HO.out hk))⟩ (λhHeld3=>?_);refine bV;refine tk 9 ?_;refine tk 10 ?_;refine je;have hw:=hHeld3;go_split_ands;have hPw:w1.heap[P]?=OC #[.slice A k cap,OV QA,.slice (aT LA) n n] 136:=aM;have hcw:ag (OrT P 137 wr) wr w1:=aM;have hcn:ag (OrT P 137 w9) w9 w1:=ag.grown (v:=.slice A k cap) ((ag.refl _ _).alloc _) hgrow (λk hk _=> .inr (bG (aX HO.out hb9) hk));have hcF:=λv=>jh (p:=⟨P,0,none⟩) (v:=v) (.inl (.inl rfl)) hcw
    have hcN:=λv=>jh (p:=⟨P,0,none⟩) (v:=v) (.inl (.inl rfl)) hcn
    have hBF:aC w w1:=bq (Below.alloc (D9 hB hb9 hB.size) oM _) xM hownA hgrow;have HCF:=OH hcF;have HCN:=OH hcN;have HQN:=OH hQn;have HW1:=OH hown1;refine dA;case rel=>
     refine⟨k+1,jw q k Qn,jw r k Rn,some ⟨gg,0,none⟩,cap2,oM,eT,km,?_,?_,?_,?_,?_⟩
     .rw[IN]
      exact aU HW1.out hPw dM
     .refine jZ.put (a:=0) (cur:=cn) (HR.out.kept (HCF.out _) (xH hP dM dM) (xH hP dM dM)) ?_ (λi hi=>?_) oM oM
      .exact HQN.out.kept (HCN.out _) (oX hP9 HQN.out.q dM dM) (oX hP9 HQN.out.r dM dM)
      .obtain⟨a,c,g⟩:=HR.out.tq i hi
       have g1:=aB g.q;have g2:=aB g.r;exact⟨oM,oM⟩
     .exact HQ.out.kept (HCF.out _) (oX hP HQ.out.q dM dM) (oX hP HQ.out.r dM dM)
     .exact ae (HCF.out _) HLA.out (oX hP HLA.out dM dM)
     .exact Below.setCell (p:=⟨P,0,none⟩) hBF aM _
    case measure=>exact di
   .have hkn:k=n:=oM
    subst hkn;refine bj;refine⟨P,QA,RA,LA,q,r,rfl,⟨⟨_,hP,HO.out⟩,⟨0,cur,HQ.out⟩,HLA.out,HLN.out,h0,h1,HR.out.tq,HR.out.qi,b1,b2,b3,b4,HR.out.b⟩,hB⟩
attribute [local go_sem] Oper.semAt_some
theorem PM(h:k<n):(Xa1 n).take (k+1)=(Xa1 n).take k++ [⟨k,h⟩]:=by rw[Xa2,Xa0 (by simpa using h)];simp
theorem Tu(h:k<=n):((Xa1 n).take k).length=k:=by simp[h]
theorem JX(F:Fence)(d:Nat)(h7:F.fn 239)(hro:F.round=none)(hn:1<=d)(X P g n cap:Nat)(q:Nat->Nat)(hn1:n<=4)(w:World)(hg:g<w.heap.size)(hX:w.cell? ⟨X,0,none⟩=some (OV P))(hXz:X<w.heap.size)(hP:w.cell? ⟨P,0,none⟩=some (.slice (aT g) n cap))(hPz:P<w.heap.size)(hc:∀j,j<n->w.cell? ⟨g,j,none⟩=some (OV (q j))) :
  SeqStopsK F d prog 239 #[OV X] (λi:Fin n=> #[OV (q i.1)]) (λA B=>B.heap[g]?=A.heap[g]?) (λxs=>xs=Xa1 n) (λ_=>True) n w:=by
 intro l J Jx W hW hJ hJx hY h0;have hX':=(hW.cell (p:=⟨X,0,none⟩) hXz).trans hX;have hP':=(hW.cell (p:=⟨P,0,none⟩) hPz).trans hP;have hc':∀j,j<n->W.cell? ⟨g,j,none⟩=some (OV (q j)):=λj hj=>(hW.cell (p:=⟨g,j,none⟩) hg).trans (hc j hj)
 have HC:=OH hc';refine callsIn_of_wp func239 rfl h7 ?_ hro;simp only[ntmps239,Xa7,Xa9,Xb2,Xc3,Xc2,Xd1,Xd0,Xa8,Xa6,Xb1,Xb0]
 gi_wp2
 gi_loopw [10] (λi wr=>∃k:Nat,k<=n/\i=JI k/\J ((Xa1 n).take k) wr/\wr.heap[g]?=W.heap[g]?) (λi _=>n- (intOf i).toNat)
 case atStart=>exact⟨0,Nat.zero_le _,rfl,h0,rfl⟩
 case round=>
  obtain⟨k,hk,rfl,hJs,hgk⟩:=hrel;have HG:=OH hgk;by_cases hlt:k<n
  .obtain⟨fn,tmps,assign,body,hy,hR⟩:=hY _ ⟨k,hlt⟩ wr hJs (by rw[Tu hk];exact hlt)
   have hcx:wr.cell? ⟨g,k,none⟩=some (OV (q k)):=by have:=HC.out k hlt;simp only[Xc9,HG.out]at this ⊢;exact this
   gi_wp2
   refine hR.mono ?_;rintro e W3 (⟨rfl,hJ3,hk3⟩|⟨rfl,hJx3⟩)
   .have HK:=OH hk3
    gi_wp2
    go_roundw;case rel=>exact⟨k+1,oM,sM,by rw[PM hlt];exact hJ3,HK.out.trans HG.out⟩
    case measure=>exact di
   .gi_wp2
    refine sE;exact⟨⟨_,rfl⟩,.inr ⟨_,trivial,hJx3⟩⟩
  .obtain rfl:k=n:=oM
   gi_wp2
   go_end0;exact⟨⟨_,rfl⟩,.inl ⟨_,List.take_of_length_le sM,hJs⟩⟩
section
variable {w:World}{B P QA RA LA n room:Nat}{q r:Nat->Nat}{tabs:Nat->List Value}{acks:List (Int×Int)}{last:List Int}
theorem iX{W W2:World}(h:aC W W2)(B:Nat):KeepsFrom B W W2:=⟨h.size,λk o _ hk _=>(h.block k (Xd2.1 hk).1).trans hk⟩
theorem Hl{W:World}{p:Addr}(h:W.cell? p=some v):p.block<W.heap.size:=by
 rcases Nat.lt_or_ge p.block W.heap.size with q|q
 .exact q
 .simp[Xc9,Array.getElem?_eq_none q]at h
theorem all_t(P:Nat)(w:World):az 186 #[OV P] w λe w'=>e=aA (.func (.func 239) #[] #[OV w.heap.size])/\w.alloc (.cells #[OV P] 81)=w':=by go_enter func186,ntmps186;exact ga
theorem aH.stops(h:aH w B P QA RA LA n q r room tabs acks last)(hb:aC w u)(d:Nat)(hn:1<=d)(X:Nat)(hX:u.cell? ⟨X,0,none⟩=some (OV P))(hXz:X<u.heap.size):∃g,g<w.heap.size/\(∃c,w.heap[g]?=OC c 137) /\
  SeqStopsK Fence.wide d prog 239 #[OV X] (λi:Fin n=> #[OV (q i.1)]) (λA B=>B.heap[g]?=A.heap[g]?) (λxs=>xs=Xa1 n) (λ_=>True) n u:=by
 refine AM;obtain⟨g,hA,hgB,hgz,_⟩:=kF h2 (k:=0) h.n0;subst hA;have hu1:=aZ hb (aB h1) h1;refine⟨g,hgz,bG h2 rfl,JX Fence.wide d trivial rfl hn X P g n cap q h.n1 u (Xc0 hgz hb.size) hX hXz (BZ hu1 0 rfl) (aB hu1) (λj hj=>?_)⟩;obtain⟨g',hg',_,_,hc⟩:=kF h2 hj;cases hg';exact(hb.cell (p:=⟨g,j,none⟩) hgz).trans hc
theorem Hn(h:aH w B P QA RA LA n q r room tabs acks last)(b:Bool)(hb:b=decide (∀i,i<n->(tabs i).length<room)):az 153 #[OV P] w λe w'=>e=aA (.bool b)/\aC w w':=by
 refine(callsIn_wide (n:=4)).1 (callsIn_of_wp_marks func153 rfl trivial ?_ rfl);simp only[ntmps153,Xa7,Xa9,Xb2,Xc3,Xc2,Xd1,Xd0,Xa8,Xa6,Xb1,Xb0];have HH:=OH h;have HB:=OH hb
 gi_wp2
 refine⟨trivial,(callsIn_wide.2 (all_t _ _)).mono ?_⟩;rintro e w' ⟨rfl,rfl⟩
 gi_wp2
 have bR:=Boxed.new w 4 (.bool false);have bN:=Boxed.new (w.alloc (.cells #[.bool false] 4)) 81 (OV P);rw[World.size_alloc]at bN;have hB0:aC w ((w.alloc (.cells #[.bool false] 4)).alloc (.cells #[OV P] 81)):=((Below.refl _ w).alloc fo _).alloc sM _;obtain⟨g,hg,_,hst⟩:=HH.out.stops hB0 3 oM (w.heap.size+1) bN.cell sM;refine wpIn_rangeFunc_ownG rfl oM (gf:=239) (lb:=#[OV (w.heap.size+1)]) rfl trivial (enters_of func239 kM rfl)
  hst (λh k=>k.trans h) (λW l o o' hl _ _ _=>Xc8 (by simp at hl;omega)) yN (λ_=>rfl)
  (λpre W=>((∀x∈pre,(tabs x.1).length<room)/\W.cell? ⟨w.heap.size,0,none⟩=some (.bool false)/\W.frozen? ⟨w.heap.size,0,none⟩=false)/\aC w W)
  (λc pre W=>(c=.ret/\(∃x:Fin n,¬(tabs x.1).length<room)/\W.cell? ⟨w.heap.size,0,none⟩=some (.bool false))/\aC w W)
  (OwnFrom.and (Own.from (λs A B row hs hg hr=>⟨hs.1,cell_kept hs.2.1 hg hr,(frozen_kept hs.2.1 hg hr).trans hs.2.2⟩) _) (ownFrom_below fo xM))
  (λc=>OwnFrom.and (Own.from (λs A B row hs hg hr=>⟨hs.1,hs.2.1,cell_kept hs.2.2 hg hr⟩) _) (ownFrom_below fo xM))
  ⟨⟨sM,(bR.alloc _).cell,(bR.alloc _).frozen⟩,hB0⟩
  (λx=> {tmps:=#[OV P,undef,OV w.heap.size,OV (q x.1),OV P,.bool false,OV P,.func (.func 239) #[] #[OV (w.heap.size+1)],OV (q x.1),undef,undef,undef],defers:=[] }) ?assign ?body ?done ?stop
 case assign=>
  intro l x W K hK
  gi_wp2
  exact hK
 case body=>
  rintro l pre x W ⟨⟨hp,hcr,hfr⟩,hB⟩ _;obtain⟨a,cur,hq⟩:=(HH.out.kept (S:=af) (.of hB) id id id id (λ_ _=>⟨id,id⟩) cy).tq x.1 x.2;have hle:=hq.le;have hsl:(gB (tabs x.1)).length=(tabs x.1).length:=by simp[gB]
  rw[hsl]at hle
  gi_wp2
  refine⟨trivial,(CallsIn.inRound l (callsIn_wide.2 (GI hq))).mono ?_⟩;rintro e W2 ⟨rfl,hb2⟩;rw[hsl];have hB2:=aE (w:=w) hB hb2;have hc2:W2.cell? ⟨w.heap.size,0,none⟩=some (.bool false):=(hb2.cell (p:=⟨w.heap.size,0,none⟩) (Hl hcr)).trans hcr;have hf2:W2.frozen? ⟨w.heap.size,0,none⟩=false:=(hb2.frozen (p:=⟨w.heap.size,0,none⟩) (Hl hcr)).trans hfr;have HB2:=OH hb2;by_cases hf:(tabs x.1).length<room
  .have e0:(((room- (tabs x.1).length:Nat):Int)==0)=false:=xM
   generalize hm:room- (tabs x.1).length=m at *
   gi_wp2
   exact⟨iX HB2.out _,HB2.out.block _ (Xc0 hg hB.size),⟨λp hp'=>(List.mem_append.1 hp').elim (hp p) (λe=>by simp at e;subst e;exact hf),hc2,hf2⟩,hB2⟩
  .have e0:room- (tabs x.1).length=0:=oM
   rw[e0]
   gi_wp2
   have hk3:=(iX HB2.out (w.heap.size+2)).trans ((KeepsOthers.setCell W2 ⟨w.heap.size,0,none⟩ (.bool false)).from _);exact⟨by simpa using hk3,⟨rfl,⟨x,hf⟩,Xc7 _ _ _ (by rw[hc2];rfl)⟩,hB2.setCell (p:=⟨w.heap.size,0,none⟩) fo _⟩
 case done=>
  rintro D ys W hD rfl ⟨⟨hne,hcr,hfr⟩,hB⟩ hK
  gi_wp2
  have hK':=(KeepsOthers.setCell W ⟨w.heap.size,0,none⟩ (.bool true)).same D _ hK rfl;refine⟨sM,.inl ⟨_,_,rfl,run_takeDeferred hK',?_⟩⟩;have hc5:=cell_kept (Xc7 W ⟨w.heap.size,0,none⟩ (.bool true) (by rw[hcr];rfl)) (grownBy_putObj' _ D (.deferred none)) (λr e=>by cases e;exact⟨_,hK',rfl⟩);refine⟨.bool true,?_,?_,(hB.setCell (p:=⟨w.heap.size,0,none⟩) fo _).trans (belowK_b (w:=w) fo _ D _ _ (by simp at hD;omega) hK' rfl rfl)⟩
  .simp[results,f153,go_sem,hc5]
  .rw[HB.out,decide_eq_true (λi hi=>hne ⟨i,hi⟩ sM)]
 case stop=>
  rintro D c pre W hD _ ⟨⟨rfl,⟨x,hx⟩,hcr⟩,hB⟩ hK
  gi_wp2
  refine⟨sM,.inl ⟨_,_,rfl,run_takeDeferred hK,?_⟩⟩;have hc5:=cell_kept hcr (grownBy_putObj' _ D (.deferred none)) (λr e=>by cases e;exact⟨_,hK,rfl⟩);refine⟨.bool false,?_,?_,hB.trans (belowK_b (w:=w) fo _ D _ _ (by simp at hD;omega) hK rfl rfl)⟩
  .simp[results,f153,go_sem,hc5]
  .rw[HB.out,decide_eq_false (λhh=>hx (hh x.1 x.2))]
end
attribute [local go_sem] Oper.semAt_some
def ef(room:Nat)(t:Value)(tabs:Nat->List Value)(l:List (Fin n)):Nat->List Value:=l.foldl (λtb x=>if(tb x.1).length<room then jw tb x.1 (tb x.1++ [t]) else tb) tabs
theorem sR{t:Value}{tabs:Nat->List Value}(l:List (Fin n))(x:Fin n):ef room t tabs (l++ [x])=if(ef room t tabs l x.1).length<room then jw (ef room t tabs l) x.1 (ef room t tabs l x.1++ [t]) else ef room t tabs l:=by unfold ef;rw[List.foldl_append];rfl
theorem II{t:Value}(l:List (Fin n)):∀ (tabs:Nat->List Value),l.Nodup->(∀x∈l,(tabs x.1).length<room)->∀i:Fin n,ef room t tabs l i.1=if i∈l then tabs i.1++ [t] else tabs i.1:=by
 induction l with
 |nil=>
  intro tabs _ _ i;simp[ef]
 |cons x l ih=>
  intro tabs hn hr i;obtain⟨h1,h2⟩:=List.nodup_cons.1 hn;have hx:=hr x sM;have hne:∀y:Fin n,y≠x->y.1≠x.1:=λy hy e=>hy (Fin.ext e)
  have e:ef room t tabs (x::l)=ef room t (jw tabs x.1 (tabs x.1++ [t])) l:=by unfold ef;rw[List.foldl_cons,if_pos hx]
  rw[e,ih _ h2 (λy hy=>by rw[dU _ _ _ _ (hne y (λq=>h1 (q ▸ hy)))];exact hr y (by simp[hy])) i];by_cases q:i=x
  .subst q
   rw[if_neg h1,if_pos sM,dX]
  .rw[dU _ _ _ _ (hne i q)]
   by_cases q2:i∈l
   .rw[if_pos q2,if_pos (by simp[q2])]
   .rw[if_neg q2,if_neg (by simp[q2,q])]
theorem yi{a:World}{row:Option Nat}(h:ag S a w)(hg:w.grownBy w' row)(hv:∀k,row=some k->k<a.heap.size->S k):ag S a w':=
 ⟨hg.os.trans h.os,hg.tape.trans h.tape,hg.output.trans h.output,Xc4 h.size hg.size,λj hj hn=>(hg.block j J5 (λq=>hn (hv j q.symm hj))).trans (h.block j hj hn)⟩
section
variable {w:World}{B P QA RA LA n room:Nat}{q r:Nat->Nat}{tabs:Nat->List Value}{acks:List (Int×Int)}{last:List Int}
theorem aH.congr{tabs':Nat->List Value}(h:aH w B P QA RA LA n q r room tabs acks last)(hg:∀i,i<n->tabs' i=tabs i):aH w B P QA RA LA n q r room tabs' acks last:=
 ⟨h.p,h.ak,h.la,h.ll,h.n0,h.n1,λi hi=>by rw[hg i hi];exact h.tq i hi,h.qi,h.b⟩
theorem aH.row{row:Option Nat}(h:aH w B P QA RA LA n q r room tabs acks last)(hg:w.grownBy w' row)(hr:∀j,row=some j->∃o:Obj,w.heap[j]?=some o/\o.isCells=false):aH w' B P QA RA LA n q r room tabs acks last:=by
 have no:∀ {j:Nat} {c:Array Value} {t:TypeId},w.heap[j]?=OC c t->¬(row=some j):=fun {j c t} hj e=>by obtain⟨o,h1,h2⟩:=hr j e;rw[hj]at h1;cases h1;cases h2
 obtain⟨v,k1,k2⟩:=h.p;obtain⟨a,cur,k3⟩:=h.ak;exact h.kept (S:=λj=>row=some j) (yi dp hg (λk e _=>e)) (no k1) (no k3.q) (no k3.r) (no h.la) (λi hi=>by obtain⟨a,cur,k4⟩:=h.tq i hi;exact⟨no k4.q,no k4.r⟩) (λj c e hh=>no hh e)
def Hv(n:Nat)(q r:Nat->Nat):Nat->Prop:=λj=>∃i,i<n/\(j=q i\/j=r i)
theorem TP(h:aH w B P QA RA LA n q r room tabs acks last)(T:Addr)(hf:∀i,i<n->(tabs i).length<room):az 160 #[OV P,.pointer (some T)] w λe w'=>e=aA (JI 0)/\aH w' B P QA RA LA n q r room (λi=>tabs i++ [.pointer (some T)]) acks last/\ag (Hv n q r) w w':=by
 refine(callsIn_wide (n:=4)).1 (callsIn_of_wp_marks func160 rfl trivial ?_ rfl);simp only[ntmps160,Xa7,Xa9,Xb2,Xc3,Xc2,Xd1,Xd0,Xa8,Xa6,Xb1,Xb0];have HH:=OH h;have HF:=OH hf
 gi_wp2
 have hB1:aC w (w.alloc (.cells #[.pointer (some T)] 139)):=(Below.refl _ w).alloc fo _;refine⟨trivial,(callsIn_wide.2 (Hn (HH.out.below hB1) true (by rw[decide_eq_true HF.out]))).mono ?_⟩;rintro e w2 ⟨rfl,hb2⟩;have hB2:=aE (w:=w) hB1 hb2;have hX:w2.heap[w.heap.size]?=OC #[.pointer (some T)] 139:=(hb2.block _ sM).trans Ke;have HX:=OH hX
 gi_wp2
 refine⟨trivial,(callsIn_wide.2 (all_t _ _)).mono ?_⟩;rintro e w' ⟨rfl,rfl⟩
 gi_wp2
 have bN:=Boxed.new w2 81 (OV P);have hB3:aC w (w2.alloc (.cells #[OV P] 81)):=hB2.alloc hB2.size _;obtain⟨g,hg,⟨cg,hgt⟩,hst⟩:=HH.out.stops hB3 3 oM w2.heap.size bN.cell sM;have hgr:¬Hv n q r g:=λ⟨i,hi,e⟩=>by
  obtain⟨a,cur,k⟩:=HH.out.tq i hi;rcases e with e|e
  .rw[←e]at k
   exact au hgt dM k.q
  .rw[←e]at k
   exact au hgt dM k.r
 have hX3:(w2.alloc (.cells #[OV P] 81)).heap[w.heap.size]?=OC #[.pointer (some T)] 139:=ai HX.out;have HX3:=OH hX3;have HG:=OH hgr;have HT:=OH hgt;refine wpIn_rangeFunc_ownG rfl oM (gf:=239) (lb:=#[OV w2.heap.size]) rfl trivial (enters_of func239 kM rfl)
  hst (λh k=>k.trans h) (λW l o o' hl _ _ _=>Xc8 (by have:=hB2.size;simp at hl;omega)) yN (λ_=>rfl)
  (λpre W=>(aH W B P QA RA LA n q r room (ef room (.pointer (some T)) tabs pre) acks last/\W.heap[w.heap.size]?=OC #[.pointer (some T)] 139)/\ag (Hv n q r) w W)
  (λc pre W=>False)
  (λs A B row hs hg hr=>⟨⟨hs.1.1.row hg (λj e=>(hr j e).2),(hg.block _ (aB hs.1.2) (λe=>by obtain⟨_,o,h1,h2⟩:=hr _ e.symm;rw[hs.1.2]at h1;cases h1;cases h2)).trans hs.1.2⟩,yi hs.2 hg (λk e hk=>by have h9:=(hr k e).1;have:=hB2.size;have h8:=aD w2 (.cells #[OV P] 81);omega)⟩)
  (λc=>λ_ _ _ _ hs _ _=>hs)
  ⟨⟨HH.out.below hB3,HX3.out⟩,.of hB3⟩
  (λx=> {tmps:=#[OV P,.pointer (some T),undef,OV w.heap.size,JI 0,OV (q x.1),.bool false,OV P,.bool false,.bool false,.pointer (some T),.bool false,.bool false,.bool false,OV P,.bool true,.bool false,OV P,.func (.func 239) #[] #[OV w2.heap.size],OV (q x.1),undef,undef,undef],defers:=[] }) ?assign ?body ?done ?stop
 case assign=>
  intro l x W K hK
  gi_wp2
  exact hK
 case body=>
  rintro l pre x W ⟨⟨hb,hx⟩,hC⟩ _;obtain⟨a,cur,hq⟩:=hb.tq x.1 x.2;have hle:=hq.le;have hsl:(gB (ef room (.pointer (some T)) tabs pre x.1)).length=(ef room (.pointer (some T)) tabs pre x.1).length:=by simp[gB]
  rw[hsl]at hle;have hss:gB (ef room (.pointer (some T)) tabs pre x.1)++ [[.pointer (some T)]]=gB (ef room (.pointer (some T)) tabs pre x.1++ [.pointer (some T)]):=by simp[gB]
  have hxc:=BZ hx 0 rfl;have hgW:∃c,W.heap[g]?=OC c 137:=⟨cg,(hC.block g hg HG.out).trans HT.out⟩
  by_cases hf:(ef room (.pointer (some T)) tabs pre x.1).length<room
  .have hsn:=(sR (room:=room) (t:=.pointer (some T)) (tabs:=tabs) pre x).trans (if_pos hf)
   have hpush:=Ss hq (by rw[hsl];exact hf) (some T);have HP:=OH hpush;have HSN:=OH hsn;have HSS:=OH hss
   gi_wp2
   refine⟨trivial,(CallsIn.inRound l (callsIn_wide.2 HP.out)).mono ?_⟩;rintro e W2 ⟨rfl,⟨cur',hq'⟩,hc⟩
   gi_wp2
   rw[HSS.out]at hq';have hgn:¬(g=q x.1\/g=r x.1):=λe=>HG.out ⟨x.1,x.2,e⟩
   have hxn:¬(w.heap.size=q x.1\/w.heap.size=r x.1):=λe=>e.elim (λe=>by rw[e]at hx;exact au hx dM hq.q) (λe=>by obtain⟨a9,c9,h9⟩:=HH.out.tq x.1 x.2;have:=aB h9.r;omega)
   refine⟨⟨hc.size,λk o _ hk ho=>(hc.block k (Xd2.1 hk).1 (λe=>?_)).trans hk⟩,hc.block g (Xc0 hg hC.size) hgn,⟨by rw[HSN.out];exact hb.tabs' x.1 x.2 hq' hc,ae hc hx hxn⟩,hC.trans (hc.mono (λj _ e=>⟨x.1,x.2,e⟩))⟩;rcases e with e|e
   .subst e
    rw[hq.q]at hk;cases hk;cases ho
   .subst e
    rw[hq.r]at hk;cases hk;cases ho
  .have hsn:=(sR (room:=room) (t:=.pointer (some T)) (tabs:=tabs) pre x).trans (if_neg hf)
   have hpush:=wZ hq (by rw[hsl];omega) (some T);have HP:=OH hpush;have HSN:=OH hsn
   gi_wp2
   refine⟨trivial,(CallsIn.inRound l (callsIn_wide.2 HP.out)).mono ?_⟩;rintro e W2 ⟨rfl,hb2⟩
   gi_wp2
   exact⟨iX hb2 _,hb2.block g (Xc0 hg hC.size),⟨by rw[HSN.out];exact hb.below hb2,(hb2.block _ (aB hx)).trans hx⟩,hC.next hb2⟩
 case done=>
  rintro D ys W hD rfl ⟨⟨hb,hx⟩,hC⟩ hK
  gi_wp2
  refine⟨sM,.inl ⟨_,_,rfl,run_takeDeferred hK,?_⟩⟩;have hg2:=grownBy_putObj' W D (.deferred none);refine⟨JI 0,by simp[results,f160,go_sem],rfl,?_,yi hC hg2 (λk e hk=>by cases e;have:=hB2.size;simp at hD;omega)⟩;refine(hb.row hg2 (λj e=>by cases e;exact⟨_,hK,rfl⟩)).congr (λi hi=>?_);have:=II (room:=room) (t:=.pointer (some T)) (Xa1 n) tabs (List.nodup_finRange n) (λx _=>HF.out x.1 x.2) ⟨i,hi⟩;rw[if_pos (List.mem_finRange _)]at this;exact this.symm
 case stop=>rintro D c pre W hD _ hs hK;exact hs.elim
end
theorem Rh(w:World):(zeroValue 203).run prog w=.ok (.agg #[JT 0,JI 0,JI 0,JI 0,JI 0]) w:=kM
theorem Ri(w:World):(zeroValue 198).run prog w=.ok (.agg #[JT 0,JI 0,JT 0,JI 0,JI 0,JI 0,JI 0,JI 0,JI 0,.bool false]) w:=kM
theorem ln(h0:0<=x)(h1:x<=4294967295):(Lit.int .u32 x).wf=true:=WalkArith.wf_u32 ⟨h0,h1⟩
theorem ip(h0: -9223372036854775808<=x)(h1:x<=9223372036854775807):(Lit.int .i64 x).wf=true:=WalkArith.wf_i64 ⟨h0,h1⟩
structure Rt where
 ssrc:Int
 track:Int
 frm:Int
 layer:Int
 shard:Int
abbrev kE(x:Rt):List Value:=[JT x.ssrc,JI x.track,JI x.frm,JI x.layer,JI x.shard]
abbrev GG(x:Rt):Value:=.agg (kE x).toArray
theorem RU(x:Rt):(kE x).length=5:=rfl
structure Dn where
 ssrc:Int
 slot:Int
 turn:Int
 who:Int
 track:Int
 shard:Int
 frm:Int
 layer:Int
 tid:Int
 muted:Bool
abbrev eW(x:Dn):List Value:=[JT x.ssrc,JI x.slot,JT x.turn,JI x.who,JI x.track,JI x.shard,JI x.frm,JI x.layer,JI x.tid,.bool x.muted]
abbrev tT(x:Dn):Value:=.agg (eW x).toArray
theorem jW(x:Dn):(eW x).length=10:=rfl
structure dE(w:World)(M:Nat->Prop)(T:Nat)(ep:Int)(rs:List Rt)(ds:List Dn):Prop where
 e:∃MR MD,w.heap[T]?=OC #[JU ep,.map (some MR),.map (some MD)] 279/\bH w prog 52 (Xd5 .u32) (OI .u32) MR (rs.map λx=>(x.ssrc,GG x))/\bH w prog 52 (Xd5 .u32) (OI .u32) MD (ds.map λx=>(x.ssrc,tT x))/\M MR/\M MD
section
variable {w w':World}{M:Nat->Prop}{T:Nat}{ep:Int}{rs:List Rt}{ds:List Dn}
theorem dE.kept(h:dE w M T ep rs ds)(hc:ag S w w')(h1:¬S T)(h2:∀j,M j->j<w.heap.size->¬S j):dE w' M T ep rs ds:=by obtain⟨MR,MD,a1,a2,a3,a4,a5⟩:=h.e;exact⟨MR,MD,ae hc a1 h1,a2.chg hc (h2 _ a4 a2.lt),a3.chg hc (h2 _ a5 a3.lt),a4,a5⟩
theorem dE.below(h:dE w M T ep rs ds)(hb:aC w w'):dE w' M T ep rs ds:=h.kept (S:=af) (.of hb) id (λ_ _ _=>id)
theorem dE.mono{M':Nat->Prop}(h:dE w M T ep rs ds)(hm:∀j,j<w.heap.size->M j->M' j):dE w M' T ep rs ds:=by obtain⟨MR,MD,a1,a2,a3,a4,a5⟩:=h.e;exact⟨MR,MD,a1,a2,a3,hm _ a2.lt a4,hm _ a3.lt a5⟩
theorem tR(w:World):az 98 #[.pointer none] w λe w'=>e=aA (JU 0)/\w=w':=by go_enter func98,ntmps98;exact ga
theorem Hg(h:dE w M T ep rs ds):az 98 #[OV T] w λe w'=>e=aA (JU ep)/\w=w':=by refine AI;go_enter func98,ntmps98;exact ga
theorem CJ(x:Int)(w:World):az 91 #[.pointer none,JT x] w λe w'=>e=aA (.tuple #[.agg #[JT 0,JI 0,JI 0,JI 0,JI 0],.bool false])/\aC w w':=by go_enter func91,ntmps91;exact Xi
theorem RY(h:dE w M T ep rs ds)(x:Int)(h0:0<=x)(h1:x<=4294967295)(v:Value)(is:Bool)(hv:(dK (rs.map λx=>(x.ssrc,GG x)) x).getD (.agg #[JT 0,JI 0,JI 0,JI 0,JI 0])=v)(hi:(dK (rs.map λx=>(x.ssrc,GG x)) x).isSome=is):az 91 #[OV T,JT x] w λe w'=>e=aA (.tuple #[v,.bool is])/\aC w w':=by
 refine AI;have hlk:∀o,(Xd4 276 (.map (some MR)) (JT x) true).run prog (w.alloc o)=.ok (.tuple #[v,.bool is]) (w.alloc o):=λo=>by exact(h3.below wH).run_look lY underlying276 (z:=.agg #[JT 0,JI 0,JI 0,JI 0,JI 0]) (Rh _) (show OI .u32 x from ln h0 h1) true hv hi
 have hcs:∃y:Rt,v=.agg (kE y).toArray:=by
  cases hl:dK (rs.map λx=>(x.ssrc,GG x)) x with
  |none=>
   rw[hl]at hv;exact⟨⟨0,0,0,0,0⟩,hv.symm⟩
  |some u=>exact Yb
 obtain⟨y,rfl⟩:=hcs
 .have HLK:=OH hlk
  refine nD;have HI:=OH hi;go_enter func91,ntmps91;refine iI;have hl1:=HLK.out (.cells #[JT 0,JI 0,JI 0,JI 0,JI 0] 203);exact Xi
theorem Iu(x:Int)(w:World):az 90 #[.pointer none,JT x] w λe w'=>e=aA (.tuple #[.agg #[JT 0,JI 0,JT 0,JI 0,JI 0,JI 0,JI 0,JI 0,JI 0,.bool false],.bool false])/\aC w w':=by go_enter func90,ntmps90;exact Xh
theorem town_t(h:dE w M T ep rs ds)(x:Int)(h0:0<=x)(h1:x<=4294967295)(v:Value)(is:Bool)(hv:(dK (ds.map λx=>(x.ssrc,tT x)) x).getD (.agg #[JT 0,JI 0,JT 0,JI 0,JI 0,JI 0,JI 0,JI 0,JI 0,.bool false])=v)(hi:(dK (ds.map λx=>(x.ssrc,tT x)) x).isSome=is):az 90 #[OV T,JT x] w λe w'=>e=aA (.tuple #[v,.bool is])/\aC w w':=by
 refine AI;have hlk:∀o,(Xd4 277 (.map (some MD)) (JT x) true).run prog (w.alloc o)=.ok (.tuple #[v,.bool is]) (w.alloc o):=λo=>by exact(h4.below wH).run_look lY underlying277 (z:=.agg #[JT 0,JI 0,JT 0,JI 0,JI 0,JI 0,JI 0,JI 0,JI 0,.bool false]) (Ri _) (show OI .u32 x from ln h0 h1) true hv hi
 have hcs:∃y:Dn,v=.agg (eW y).toArray:=by
  cases hl:dK (ds.map λx=>(x.ssrc,tT x)) x with
  |none=>
   rw[hl]at hv;exact⟨⟨0,0,0,0,0,0,0,0,0,false⟩,hv.symm⟩
  |some u=>exact Yb
 obtain⟨y,rfl⟩:=hcs
 .have HLK:=OH hlk
  refine nD;have HI:=OH hi;go_enter func90,ntmps90;refine iI;have hl1:=HLK.out (.cells #[JT 0,JI 0,JT 0,JI 0,JI 0,JI 0,JI 0,JI 0,JI 0,.bool false] 198);exact Xh
end
end Go.Proofs.YtnpancjkjheffaaGreat
