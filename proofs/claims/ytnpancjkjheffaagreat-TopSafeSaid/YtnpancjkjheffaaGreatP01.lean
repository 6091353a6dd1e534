/- Part 3 of the proof of TopSafe. No condition. -/
import Derived.Test.YtnpancjkjheffaaGreatP00
namespace Go.Proofs.YtnpancjkjheffaaGreat
set_option linter.unusedVariables false
set_option linter.unusedSimpArgs false
set_option maxRecDepth 100000
set_option maxHeartbeats 8000000
open Go.RowKit
open Go.Proofs.Tryz
open _root_.Nat renaming mul_le_mul_right->PI,succ_mul->Xa0,add_zero->Xa1,add_mul->Xa2,div_add_mod->Xa3,mod_lt->Xa4,mul_le_mul_left->Xa5,eq_zero_or_pos->Xa6,lt_trichotomy->Xa7,mod_eq_of_lt->Xa8,zero_mul->Xa9,zero_add->Xb0,mul_succ->Xb1,mul_comm->Xb2,min->Xb3,lt_or_ge->Xb4
open _root_.Array renaming getElem?_eq_getElem->Xb5
open _root_.List renaming flatMap_cons->Xb6,getElem?_cons_zero->Xb7,getElem?_cons_succ->Xb8,length_cons->Xb9,setIfInBounds_toArray->Xc0,getElem_append_left->Xc1,getElem?_eq_none->Xc2,getElem_drop->Xc3,length_drop->Xc4,length_set->Xc5
open Builtin renaming zeroCells->Xc6,clear_->Xc7,copy_->Xc8
open Calls renaming mono->Xc9
variable {c cr cur:Array Value}{v0:Int}{xs ys:List (List Value)}{B L Q R a cap g i j s vc1 vl1:Nat}{S:Nat->Prop}{v1:Option Addr}{e t te tq:TypeId}{n:Value}{w w':World}
structure eD(w:World)(Q R:Nat)(tq te:TypeId)(s L a:Nat)(xs:List (List Value))(cur:Array Value):Prop where
 q:w.heap[Q]?=OC #[.slice (aT R) L L,JI a,JI xs.length] tq
 r:w.heap[R]?=OC cur te
 ne:tq≠te
 size:cur.size=L*s
 at':a<L
 le:xs.length<=L
 L1:L<=4096
 len:∀x∈xs,x.length=s
 ent:∀i (hi:i<xs.length) j,j<s->cur[((a+i) % L)*s+j]?=(xs[i])[j]?
theorem eD.kept(h:eD w Q R tq te s L a xs cur)(hc:ag S w w')(h1:¬S Q)(h2:¬S R):eD w' Q R tq te s L a xs cur:=
 ⟨ae hc h.q h1,ae hc h.r h2,h.ne,h.size,h.at',h.le,h.L1,h.len,h.ent⟩
theorem eD.qr(h:eD w Q R tq te s L a xs cur):Q≠R:=λe=>by have h1:=h.q;have h2:=h.r;subst e;rw[h1]at h2;simp only[Option.some.injEq,Obj.cells.injEq]at h2;exact h.ne h2.2.1
def aS(cur:Array Value)(b:Nat):List Value->Array Value
 | []=>cur
 |v::l=>aS (cur.setIfInBounds b v) (b+1) l
theorem cH(cur:Array Value)(b:Nat)(l:List Value):(aS cur b l).size=cur.size:=by
 induction l generalizing cur b with
 |nil=>
  rfl
 |cons v l ih=>simp[aS,ih]
theorem eI(cur:Array Value)(b:Nat)(l:List Value)(i:Nat)(h:b+l.length<=cur.size):(aS cur b l)[i]?=if b<=i/\i<b+l.length then l[i-b]? else cur[i]?:=by
 induction l generalizing cur b with
 |nil=>
  simp[aS];omega
 |cons v l ih=>
  rw[Xb9]at h;rw[aS,ih _ _ xM,Array.getElem?_setIfInBounds];by_cases h2:b+1<=i/\i<b+1+l.length
  .rw[if_pos h2,if_pos xM,show i-b=i- (b+1)+1 by omega,Xb8]
  .rw[if_neg h2]
   by_cases h1:i=b
   .subst h1
    rw[if_pos rfl,if_pos oM,if_pos sM];simp
   .rw[if_neg (λq=>h1 q.symm),if_neg xM]
theorem OX(hL:i<L)(hj:j<L)(h:i≠j):(a+i) % L≠(a+j) % L:=λq=>by
 have h1:=Xa3 (a+i) L;have h2:=Xa3 (a+j) L;rw[q]at h1;have h3:L*((a+i) / L)+j=L*((a+j) / L)+i:=oM;rcases Xa7 ((a+i) / L) ((a+j) / L)with r|r|r
 .have:L*((a+i) / L)+L<=L*((a+j) / L):=by rw[←Xb1];exact Xa5 _ r
  omega
 .rw[r]at h3
  omega
 .have:L*((a+j) / L)+L<=L*((a+i) / L):=by rw[←Xb1];exact Xa5 _ r
  omega
theorem iK{p q:Nat}(h:p≠q)(hj:j<s):¬(p*s<=q*s+j/\q*s+j<p*s+s):=by
 rintro⟨h1,h2⟩;rcases Xa7 p q with r|r|r
 .have:(p+1)*s<=q*s:=PI _ r
  exact E6
 .exact h r
 .have:(q+1)*s<=p*s:=PI _ r
  exact E6
theorem eD.push(h:eD w Q R tq te s L a xs cur)(x:List Value)(hx:x.length=s)(hf:xs.length<L)(hq:w'.heap[Q]?=OC #[.slice (aT R) L L,JI a,JI ((xs.length:Int)+1)] tq)(hr:w'.heap[R]?=OC (aS cur ((a+xs.length) % L*s) x) te) :
  eD w' Q R tq te s L a (xs++ [x]) (aS cur ((a+xs.length) % L*s) x):=by
 have hp:(a+xs.length) % L<L:=Xa4 _ oM;have hb:(a+xs.length) % L*s+s<=cur.size:=by rw[h.size,←Xa0];exact PI _ hp
 refine⟨by simpa using hq,hr,h.ne,by rw[cH];exact h.size,h.at',xM,h.L1,?_,?_⟩
 .intro y hy
  refine zm
  .exact h.len y q
  .refine iH
   exact hx
 .intro i hi j hj
  rw[eI _ _ _ _ (by rw[hx];exact hb),hx];by_cases q:i<xs.length
  .rw[if_neg (iK (λe=>OX oM oM oM e) hj),Xc1 q]
   exact h.ent i q j hj
  .have:i=xs.length:=by simp at hi;omega
   subst this;rw[if_pos oM];simp
theorem eD.pop{x zs:List Value}(h:eD w Q R tq te s L a (x::ys) cur)(hz:zs.length=s)(hq:w'.heap[Q]?=OC #[.slice (aT R) L L,JI ((a+1) % L:Nat),JI ys.length] tq)(hr:w'.heap[R]?=OC (aS cur (a*s) zs) te) :
  eD w' Q R tq te s L ((a+1) % L) ys (aS cur (a*s) zs):=by
 have ha:=h.at';have hl:=h.le;rw[Xb9]at hl;have hb:a*s+s<=cur.size:=by rw[h.size,←Xa0];exact PI _ ha
 refine⟨hq,hr,h.ne,by rw[cH];exact h.size,Xa4 _ oM,oM,h.L1,λy hy=>h.len y (List.mem_cons_of_mem _ hy),?_⟩;intro i hi j hj;have e:((a+1) % L+i) % L=(a+(i+1)) % L:=by rw[Nat.mod_add_mod];congr 1;omega
 have h0L:i+1<L:=oM;have hne:a≠(a+(i+1)) % L:=λq=>OX (a:=a) (L:=L) (i:=0) (j:=i+1) oM oM oM (by rw[Xa1,Xa8 ha];exact q)
 rw[e,eI _ _ _ _ (by rw[hz];exact hb),hz,if_neg (iK hne hj)];exact h.ent (i+1) nv j hj
section
variable {w:World}{Q R L a:Nat}{xs:List (List Value)}{cur:Array Value}
theorem Pc(h:eD w Q R 229 132 2 L a xs cur):az 69 #[OV Q] w λe w'=>e=aA (JI xs.length)/\w'=w:=by refine sF;have HH:=OH h;go_enter func69,ntmps69;exact ga
theorem GL(h:eD w Q R 229 132 2 L a xs cur):az 184 #[OV Q] w λe w'=>e=aA (JI ((L-xs.length:Nat):Int))/\aC w w':=by refine FA;go_enter func184,ntmps184;exact FO
theorem vU(hq:w.heap[Q]?=OC #[.slice (aT R) L L,JI a,n] 229)(ha:a<L)(hL1:L<=4096)(i:Nat)(k:Int)(hk:k=i)(hi:i<=4096):az 185 #[OV Q,JI k] w λe w'=>e=aA (JI (((a+i) % L:Nat):Int))/\aC w w':=by subst hk;refine va;go_enter func185,ntmps185;exact F5
theorem Oq(h:eD w Q R 229 132 2 L a xs cur)(i:Nat)(k:Int)(hk:k=i)(hi:i<=4096):az 185 #[OV Q,JI k] w λe w'=>e=aA (JI (((a+i) % L:Nat):Int))/\aC w w':=vU h.q h.at' h.L1 i k hk hi
theorem xh(h:eD w Q R 229 132 2 L a xs cur)(hf:xs.length=L)(v0:Int)(v1:Int):az 147 #[OV Q,.agg #[JI v0,JU v1]] w λe w'=>e=aA (.bool false)/\aC w w':=by refine Fw;go_enter func147,ntmps147;refine ay;refine(GL (hr.out.kept (S:=af) im id id)).mono ?_;exact Fu
theorem Sx(h:eD w Q R 229 132 2 L a xs cur)(hf:xs.length<L)(v0:Int)(v1:Int):az 147 #[OV Q,.agg #[JI v0,JU v1]] w λe w'=>e=aA (.bool true) /\
  (∃cur',eD w' Q R 229 132 2 L a (xs++ [[JI v0,JU v1]]) cur')/\ag (λj=>j=Q\/j=R) w w':=by
 refine Ni;go_enter func147,ntmps147;refine ay;have ha1:eD (w.alloc (.cells #[JI v0,JU v1] 132)) Q R 229 132 2 L a xs cur:=hr.out.kept (S:=af) im id id;refine(GL ha1).mono ?_;refine Lj;have hx:=aZ hb rJ (ao w (.cells #[JI v0,JU v1] 132) _ rfl);refine zq16;go_region_held3 (λw'=>Bk w' Q #[.slice (aT R) L L,JI a,JI xs.length] 229/\Bk w' X #[JI v0,JU v1] 132/\ag (λj=>j=Q\/j=R) w w') ((go_split_ands;exact⟨aO gD,aO gD,lW⟩)) (first|(go_at_call 185;go_split_ands;(with_reducible refine(Oq (HH1.out.kept (S:=af) lW id id) xs.length _ rfl oM).mono ?_);rintro e w2 ⟨rfl,hb2⟩;rw[HP.out];have hR2:=(hb2.block R fM).trans HH1.out.r;have hQ2:=(hb2.block Q fM).trans hQ;have hX2:=(hb2.block X fM).trans hx;obtain⟨c3,f3,z3⟩:=ab hR2;have g0:=(c3 (P*2)).trans d0;have g1:=(c3 (P*2+1)).trans d1))
 go_split_ands;refine bj;exact⟨rfl,⟨_,HH1.out.push [JI v0,JU v1] rfl hf km zt83⟩,lW⟩
theorem xy(h:eD w Q R 229 132 2 L a [] cur):az 206 #[OV Q] w λe w'=>e=aA (.tuple #[.agg #[JI 0,JU 0],.bool false])/\aC w w':=by refine lP;refine XB;refine jf;refine wJ;exact WU
theorem xr{v1:Int}(h:eD w Q R 229 132 2 L a ([JI v0,JU v1]::ys) cur):az 206 #[OV Q] w λe w'=>e=aA (.tuple #[.agg #[JI v0,JU v1],.bool true])/\aC w w':=by
 refine X5;refine Zv;have e0:(((([JI v0,JU v1]::ys).length:Nat):Int)==0)=false:=xM;refine XB;refine qq;generalize (([JI v0,JU v1]::ys).length)=n at *;refine i9;go_region;all_goals
  go_wp2_with fail;(try simp only[Exit.inBlock,Exit.then]);refine bQ rfl rfl underlying132 rfl rfl ⟨_,_,ur,kM,rM,qQ⟩
theorem Br(h:eD w Q R 229 132 2 L a [] cur):az 163 #[OV Q] w λe w'=>e=aA (.tuple #[.agg #[JI 0,JU 0],.bool false])/\aC w w':=by refine lP;go_enter func163,ntmps163;refine ay;refine(xy (hr.out.kept (S:=af) im id id)).mono ?_;refine zi;refine VD;refine zF;refine kv;exact WU
theorem Bn{v1:Int}(h:eD w Q R 229 132 2 L a ([JI v0,JU v1]::ys) cur):az 163 #[OV Q] w λe w'=>e=aA (.tuple #[.agg #[JI v0,JU v1],.bool true]) /\
  (∃a' cur',eD w' Q R 229 132 2 L a' ys cur')/\ag (λj=>j=Q\/j=R) w w':=by
 refine X5;refine Fg;go_enter func163,ntmps163;refine ay;refine(xr (hr.out.kept (S:=af) im id id)).mono ?_;refine jp;refine M0;refine VD;refine ZX;generalize hN:(([JI v0,JU v1]::ys).length)=n at *;refine zq85;refine zF;refine i9;go_region;refine ay;refine Xc9 (vU (n:=JI n) km ha hL1 1 1 sM oM) ?_;refine EE;have hr2:w2.heap[R]?=OC (aS cur (a*2) [JI 0,JU 0]) 132:=(hb2.block (R) nM).trans gD;refine E8;have hq2:w2.heap[Q]?=OC #[.slice (aT R) L L,JI a,JI n] 229:=(hb2.block (Q) nM).trans gD;refine E9;have hg2:w2.heap[w.heap.size]?=OC #[JI 0,JU 0] 132:=(hb2.block (w.heap.size) nM).trans gD;obtain⟨cg2,fg2,yg2⟩:=ab hg2;have hx2:w2.heap[w1.heap.size]?=OC #[JI v0,JU v1] 132:=(hb2.block (w1.heap.size) nM).trans gD;refine MO;refine bQ rfl rfl underlying132 rfl rfl ⟨_,_,ur,kM,rM,⟨_,_,hr.out.pop (zs:=[JI 0,JU 0]) rfl zt4 zt78⟩,lW⟩
end
section
variable {w:World}{Q R L a:Nat}{xs:List (List Value)}{cur:Array Value}
theorem O9(h:eD w Q R 232 139 1 L a xs cur):az 73 #[OV Q] w λe w'=>e=aA (JI xs.length)/\w'=w:=by refine sF;have HH:=OH h;go_enter func73,ntmps73;exact ga
theorem GI(h:eD w Q R 232 139 1 L a xs cur):az 187 #[OV Q] w λe w'=>e=aA (JI ((L-xs.length:Nat):Int))/\aC w w':=by refine FA;go_enter func187,ntmps187;exact FO
theorem vR(hq:w.heap[Q]?=OC #[.slice (aT R) L L,JI a,n] 232)(ha:a<L)(hL1:L<=4096)(i:Nat)(k:Int)(hk:k=i)(hi:i<=4096):az 183 #[OV Q,JI k] w λe w'=>e=aA (JI (((a+i) % L:Nat):Int))/\aC w w':=by subst hk;refine va;go_enter func183,ntmps183;exact F5
theorem Om(h:eD w Q R 232 139 1 L a xs cur)(i:Nat)(k:Int)(hk:k=i)(hi:i<=4096):az 183 #[OV Q,JI k] w λe w'=>e=aA (JI (((a+i) % L:Nat):Int))/\aC w w':=vR h.q h.at' h.L1 i k hk hi
theorem wZ(h:eD w Q R 232 139 1 L a xs cur)(hf:xs.length=L)(v0:Option Addr):az 205 #[OV Q,.pointer v0] w λe w'=>e=aA (.bool false)/\aC w w':=by refine Fw;refine UQ;exact Fu
theorem Ss(h:eD w Q R 232 139 1 L a xs cur)(hf:xs.length<L)(v0:Option Addr):az 205 #[OV Q,.pointer v0] w λe w'=>e=aA (.bool true) /\
  (∃cur',eD w' Q R 232 139 1 L a (xs++ [[.pointer v0]]) cur')/\ag (λj=>j=Q\/j=R) w w':=by
 refine lP;have hqr:=h.qr;have hL1:=h.L1;have ha:=h.at';refine sF;obtain⟨c1,f1,z1⟩:=ab h.r;have hq:=h.q;refine Wn;refine UQ;refine jp;have h1:=hr.out.kept (S:=af) (.of hb) id id;refine XL;have hcc:ag (λj=>j=Q\/j=R) w w1:=ag.next dp hb;have hb9:(a+xs.length) % L*1+1<=cur.size:=by rw[hr.out.size];have:=PI 1 (Nat.succ_le_of_lt hp);omega
 have hpos:∀j,j<1->∃v,cur[(a+xs.length) % L*1+j]?=some v:=λj hj=>⟨_,Xb5 oM⟩
 obtain⟨u0,d0⟩:=hpos 0 dM;simp only[Xa1,Nat.mul_one]at d0;have hQ:=h1.q;have HH1:=OH h1;generalize hP:(a+xs.length) % L=P at *;have HP:=OH hP;refine iI;go_region_held3 (λw'=>Bk w' Q #[.slice (aT R) L L,JI a,JI xs.length] 232/\ag (λj=>j=Q\/j=R) w w') ((go_split_ands;exact⟨aO gD,lW⟩)) (first|(go_at_call 183;go_split_ands;(with_reducible refine(Om (HH1.out.kept (S:=af) lW id id) xs.length _ rfl oM).mono ?_);rintro e w2 ⟨rfl,hb2⟩;rw[HP.out];have hR2:=(hb2.block R fM).trans HH1.out.r;have hQ2:=(hb2.block Q fM).trans hQ;obtain⟨c3,f3,z3⟩:=ab hR2;have g0:=(c3 (P)).trans d0))
 go_split_ands;refine bj;exact⟨rfl,⟨_,HH1.out.push [.pointer v0] rfl hf km zt83⟩,lW⟩
theorem xu(h:eD w Q R 232 139 1 L a [] cur):az 182 #[OV Q] w λe w'=>e=aA (.tuple #[.pointer none,.bool false])/\aC w w':=by refine lP;refine UU;refine jf;go_ret2;exact sC
theorem xk{v0:Option Addr}(h:eD w Q R 232 139 1 L a ([.pointer v0]::ys) cur):az 182 #[OV Q] w λe w'=>e=aA (.tuple #[.pointer v0,.bool true])/\aC w w':=by
 refine Zt;refine va;obtain⟨c1,f1,z1⟩:=ab hR;have g0:=(c1 (a)).trans d0;have e0:(((([.pointer v0]::ys).length:Nat):Int)==0)=false:=xM;refine UU;refine qq;generalize (([.pointer v0]::ys).length)=n at *;refine i9;go_quiet (fail);all_goals
  go_wp2_with fail;go_ret2;exact⟨rfl,qQ⟩
theorem Bo(h:eD w Q R 232 139 1 L a [] cur):az 145 #[OV Q] w λe w'=>e=aA (.tuple #[.pointer none,.bool false])/\aC w w':=by refine lP;go_enter func145,ntmps145;refine ay;refine(xu (hr.out)).mono ?_;refine zi;refine df;exact sC
theorem Bj{v0:Option Addr}(h:eD w Q R 232 139 1 L a ([.pointer v0]::ys) cur):az 145 #[OV Q] w λe w'=>e=aA (.tuple #[.pointer v0,.bool true]) /\
  (∃a' cur',eD w' Q R 232 139 1 L a' ys cur')/\ag (λj=>j=Q\/j=R) w w':=by
 refine Zt;refine Fg;go_enter func145,ntmps145;refine ay;refine(xk (hr.out)).mono ?_;refine zi;have hq1:w1.heap[Q]?=_:=(hb.block Q nM).trans (hq);have hR1:w1.heap[R]?=_:=(hb.block R nM).trans (hR);have hc1:ag (λj=>j=Q\/j=R) w w1:=ag.next dp hb;obtain⟨c0,f0,y0⟩:=ab hq1;obtain⟨c1,f1,y1⟩:=ab hR1;have g0:=(c1 (a)).trans d0;generalize hN:(([.pointer v0]::ys).length)=n at *;refine zq85;refine i9;go_region;refine ay;refine Xc9 (vR (n:=JI n) km ha hL1 1 1 sM oM) ?_;refine EE;have hr2:w2.heap[R]?=OC (aS cur (a) [.pointer none]) 139:=(hb2.block (R) nM).trans gD;refine E8;have hq2:w2.heap[Q]?=OC #[.slice (aT R) L L,JI a,JI n] 232:=(hb2.block (Q) nM).trans gD;refine E9;have hw1:wrap64 ((n:Int)-1)=(n:Int)-1:=by unfold wrap64;omega
 refine df;exact⟨rfl,⟨_,_,hr.out.pop (zs:=[.pointer none]) rfl zt4 zt78⟩,lW⟩
end
section
variable {w:World}{Q R L a:Nat}{xs:List (List Value)}{cur:Array Value}
theorem Db(h:eD w Q R 235 143 2 L a xs cur):az 70 #[OV Q] w λe w'=>e=aA (JI xs.length)/\w'=w:=by refine sF;have HH:=OH h;go_enter func70,ntmps70;exact ga
theorem GK(h:eD w Q R 235 143 2 L a xs cur):az 118 #[OV Q] w λe w'=>e=aA (JI ((L-xs.length:Nat):Int))/\aC w w':=by refine FA;go_enter func118,ntmps118;exact FO
theorem vT(hq:w.heap[Q]?=OC #[.slice (aT R) L L,JI a,n] 235)(ha:a<L)(hL1:L<=4096)(i:Nat)(k:Int)(hk:k=i)(hi:i<=4096):az 119 #[OV Q,JI k] w λe w'=>e=aA (JI (((a+i) % L:Nat):Int))/\aC w w':=by subst hk;refine va;go_enter func119,ntmps119;exact F5
theorem Oo(h:eD w Q R 235 143 2 L a xs cur)(i:Nat)(k:Int)(hk:k=i)(hi:i<=4096):az 119 #[OV Q,JI k] w λe w'=>e=aA (JI (((a+i) % L:Nat):Int))/\aC w w':=vT h.q h.at' h.L1 i k hk hi
theorem xg(h:eD w Q R 235 143 2 L a xs cur)(hf:xs.length=L)(v0:Int)(v1:Option Addr)(vl1 vc1:Nat):az 74 #[OV Q,.agg #[JI v0,.slice v1 vl1 vc1]] w λe w'=>e=aA (.bool false)/\aC w w':=by refine Fw;go_enter func74,ntmps74;refine ay;refine(GK (hr.out.kept (S:=af) im id id)).mono ?_;exact Fu
theorem Sw(h:eD w Q R 235 143 2 L a xs cur)(hf:xs.length<L)(v0:Int)(v1:Option Addr)(vl1 vc1:Nat):az 74 #[OV Q,.agg #[JI v0,.slice v1 vl1 vc1]] w λe w'=>e=aA (.bool true) /\
  (∃cur',eD w' Q R 235 143 2 L a (xs++ [[JI v0,.slice v1 vl1 vc1]]) cur')/\ag (λj=>j=Q\/j=R) w w':=by
 refine Ni;go_enter func74,ntmps74;refine ay;have ha1:eD (w.alloc (.cells #[JI v0,.slice v1 vl1 vc1] 143)) Q R 235 143 2 L a xs cur:=hr.out.kept (S:=af) im id id;refine(GK ha1).mono ?_;refine Lj;have hx:=aZ hb rJ (ao w (.cells #[JI v0,.slice v1 vl1 vc1] 143) _ rfl);refine zq16;go_region_held3 (λw'=>Bk w' Q #[.slice (aT R) L L,JI a,JI xs.length] 235/\Bk w' X #[JI v0,.slice v1 vl1 vc1] 143/\ag (λj=>j=Q\/j=R) w w') ((go_split_ands;exact⟨aO gD,aO gD,lW⟩)) (first|(go_at_call 119;go_split_ands;(with_reducible refine(Oo (HH1.out.kept (S:=af) lW id id) xs.length _ rfl oM).mono ?_);rintro e w2 ⟨rfl,hb2⟩;rw[HP.out];have hR2:=(hb2.block R fM).trans HH1.out.r;have hQ2:=(hb2.block Q fM).trans hQ;have hX2:=(hb2.block X fM).trans hx;obtain⟨c3,f3,z3⟩:=ab hR2;have g0:=(c3 (P*2)).trans d0;have g1:=(c3 (P*2+1)).trans d1))
 exact YO
theorem xx(h:eD w Q R 235 143 2 L a [] cur):az 148 #[OV Q] w λe w'=>e=aA (.tuple #[.agg #[JI 0,.slice none 0 0],.bool false])/\aC w w':=by refine lP;refine XE;refine jf;refine wJ;exact WT
theorem xq(h:eD w Q R 235 143 2 L a ([JI v0,.slice v1 vl1 vc1]::ys) cur):az 148 #[OV Q] w λe w'=>e=aA (.tuple #[.agg #[JI v0,.slice v1 vl1 vc1],.bool true])/\aC w w':=by
 refine V4;refine XE;refine VQ;all_goals
  go_wp2_with fail;(try simp only[Exit.inBlock,Exit.then]);refine bQ rfl rfl underlying143 rfl rfl ⟨_,_,ur,kM,rM,qQ⟩
theorem Bq(h:eD w Q R 235 143 2 L a [] cur):az 107 #[OV Q] w λe w'=>e=aA (.tuple #[.agg #[JI 0,.slice none 0 0],.bool false])/\aC w w':=by refine lP;go_enter func107,ntmps107;refine ay;refine(xx (hr.out.kept (S:=af) im id id)).mono ?_;refine zi;refine V9;refine zF;refine kv;exact WT
theorem Bm(h:eD w Q R 235 143 2 L a ([JI v0,.slice v1 vl1 vc1]::ys) cur):az 107 #[OV Q] w λe w'=>e=aA (.tuple #[.agg #[JI v0,.slice v1 vl1 vc1],.bool true]) /\
  (∃a' cur',eD w' Q R 235 143 2 L a' ys cur')/\ag (λj=>j=Q\/j=R) w w':=by
 refine zq43;refine Fg;go_enter func107,ntmps107;refine ay;refine(xq (hr.out.kept (S:=af) im id id)).mono ?_;refine jp;refine M0;refine V9;refine Yf;refine Xc9 (vT (n:=JI n) km ha hL1 1 1 sM oM) ?_;refine EE;have hr2:w2.heap[R]?=OC (aS cur (a*2) [JI 0,.slice none 0 0]) 143:=(hb2.block (R) nM).trans gD;refine E8;have hq2:w2.heap[Q]?=OC #[.slice (aT R) L L,JI a,JI n] 235:=(hb2.block (Q) nM).trans gD;refine E9;have hg2:w2.heap[w.heap.size]?=OC #[JI 0,.slice none 0 0] 143:=(hb2.block (w.heap.size) nM).trans gD;obtain⟨cg2,fg2,yg2⟩:=ab hg2;have hx2:w2.heap[w1.heap.size]?=OC #[JI v0,.slice v1 vl1 vc1] 143:=(hb2.block (w1.heap.size) nM).trans gD;refine MO;refine bQ rfl rfl underlying143 rfl rfl ⟨_,_,ur,kM,rM,Ux,lW⟩
end
section
variable {w:World}{Q R L a:Nat}{xs:List (List Value)}{cur:Array Value}
theorem Pb(h:eD w Q R 246 157 2 L a xs cur):az 71 #[OV Q] w λe w'=>e=aA (JI xs.length)/\w'=w:=by refine sF;have HH:=OH h;go_enter func71,ntmps71;exact ga
theorem GJ(h:eD w Q R 246 157 2 L a xs cur):az 124 #[OV Q] w λe w'=>e=aA (JI ((L-xs.length:Nat):Int))/\aC w w':=by refine FA;go_enter func124,ntmps124;exact FO
theorem vS(hq:w.heap[Q]?=OC #[.slice (aT R) L L,JI a,n] 246)(ha:a<L)(hL1:L<=4096)(i:Nat)(k:Int)(hk:k=i)(hi:i<=4096):az 125 #[OV Q,JI k] w λe w'=>e=aA (JI (((a+i) % L:Nat):Int))/\aC w w':=by subst hk;refine va;go_enter func125,ntmps125;exact F5
theorem On(h:eD w Q R 246 157 2 L a xs cur)(i:Nat)(k:Int)(hk:k=i)(hi:i<=4096):az 125 #[OV Q,JI k] w λe w'=>e=aA (JI (((a+i) % L:Nat):Int))/\aC w w':=vS h.q h.at' h.L1 i k hk hi
theorem xe(h:eD w Q R 246 157 2 L a xs cur)(hf:xs.length=L)(v0:Int)(v1:Option Addr)(vl1 vc1:Nat):az 92 #[OV Q,.agg #[JI v0,.slice v1 vl1 vc1]] w λe w'=>e=aA (.bool false)/\aC w w':=by refine Fw;go_enter func92,ntmps92;refine ay;refine(GJ (hr.out.kept (S:=af) im id id)).mono ?_;exact Fu
theorem Sv(h:eD w Q R 246 157 2 L a xs cur)(hf:xs.length<L)(v0:Int)(v1:Option Addr)(vl1 vc1:Nat):az 92 #[OV Q,.agg #[JI v0,.slice v1 vl1 vc1]] w λe w'=>e=aA (.bool true) /\
  (∃cur',eD w' Q R 246 157 2 L a (xs++ [[JI v0,.slice v1 vl1 vc1]]) cur')/\ag (λj=>j=Q\/j=R) w w':=by
 refine Ni;go_enter func92,ntmps92;refine ay;have ha1:eD (w.alloc (.cells #[JI v0,.slice v1 vl1 vc1] 157)) Q R 246 157 2 L a xs cur:=hr.out.kept (S:=af) im id id;refine(GJ ha1).mono ?_;refine Lj;have hx:=aZ hb rJ (ao w (.cells #[JI v0,.slice v1 vl1 vc1] 157) _ rfl);refine zq16;go_region_held3 (λw'=>Bk w' Q #[.slice (aT R) L L,JI a,JI xs.length] 246/\Bk w' X #[JI v0,.slice v1 vl1 vc1] 157/\ag (λj=>j=Q\/j=R) w w') ((go_split_ands;exact⟨aO gD,aO gD,lW⟩)) (first|(go_at_call 125;go_split_ands;(with_reducible refine(On (HH1.out.kept (S:=af) lW id id) xs.length _ rfl oM).mono ?_);rintro e w2 ⟨rfl,hb2⟩;rw[HP.out];have hR2:=(hb2.block R fM).trans HH1.out.r;have hQ2:=(hb2.block Q fM).trans hQ;have hX2:=(hb2.block X fM).trans hx;obtain⟨c3,f3,z3⟩:=ab hR2;have g0:=(c3 (P*2)).trans d0;have g1:=(c3 (P*2+1)).trans d1))
 exact YO
theorem xv(h:eD w Q R 246 157 2 L a [] cur):az 133 #[OV Q] w λe w'=>e=aA (.tuple #[.agg #[JI 0,.slice none 0 0],.bool false])/\aC w w':=by refine lP;refine XD;refine jf;refine wJ;exact WV
theorem xo(h:eD w Q R 246 157 2 L a ([JI v0,.slice v1 vl1 vc1]::ys) cur):az 133 #[OV Q] w λe w'=>e=aA (.tuple #[.agg #[JI v0,.slice v1 vl1 vc1],.bool true])/\aC w w':=by
 refine V4;refine XD;refine VQ;all_goals
  go_wp2_with fail;(try simp only[Exit.inBlock,Exit.then]);refine bQ rfl rfl underlying157 rfl rfl ⟨_,_,ur,kM,rM,qQ⟩
theorem Bp(h:eD w Q R 246 157 2 L a [] cur):az 99 #[OV Q] w λe w'=>e=aA (.tuple #[.agg #[JI 0,.slice none 0 0],.bool false])/\aC w w':=by refine lP;go_enter func99,ntmps99;refine ay;refine(xv (hr.out.kept (S:=af) im id id)).mono ?_;refine zi;refine Wc;refine zF;refine kv;exact WV
theorem Bl(h:eD w Q R 246 157 2 L a ([JI v0,.slice v1 vl1 vc1]::ys) cur):az 99 #[OV Q] w λe w'=>e=aA (.tuple #[.agg #[JI v0,.slice v1 vl1 vc1],.bool true]) /\
  (∃a' cur',eD w' Q R 246 157 2 L a' ys cur')/\ag (λj=>j=Q\/j=R) w w':=by
 refine zq43;refine Fg;go_enter func99,ntmps99;refine ay;refine(xo (hr.out.kept (S:=af) im id id)).mono ?_;refine jp;refine M0;refine Wc;refine Yf;refine Xc9 (vS (n:=JI n) km ha hL1 1 1 sM oM) ?_;refine EE;have hr2:w2.heap[R]?=OC (aS cur (a*2) [JI 0,.slice none 0 0]) 157:=(hb2.block (R) nM).trans gD;refine E8;have hq2:w2.heap[Q]?=OC #[.slice (aT R) L L,JI a,JI n] 246:=(hb2.block (Q) nM).trans gD;refine E9;have hg2:w2.heap[w.heap.size]?=OC #[JI 0,.slice none 0 0] 157:=(hb2.block (w.heap.size) nM).trans gD;obtain⟨cg2,fg2,yg2⟩:=ab hg2;have hx2:w2.heap[w1.heap.size]?=OC #[JI v0,.slice v1 vl1 vc1] 157:=(hb2.block (w1.heap.size) nM).trans gD;refine MO;refine bQ rfl rfl underlying157 rfl rfl ⟨_,_,ur,kM,rM,Ux,lW⟩
end
section
variable {α:Type}{f:α->List Value}{s:Nat}
theorem bX(hf:∀a,(f a).length=s)(l:List α):(l.flatMap f).length=l.length*s:=by
 induction l with
 |nil=>
  simp
 |cons a l ih=>rw[Xb6,List.length_append,ih,hf,Xb9,Xa0];omega
theorem bY(hf:∀a,(f a).length=s)(l:List α)(i j:Nat)(hi:i<l.length)(hj:j<s):(l.flatMap f)[i*s+j]?=(f l[i])[j]?:=by
 induction l generalizing i with
 |nil=>
  simp at hi
 |cons a l ih=>
  rw[Xb6];cases i with
  |zero=>
   rw[Xa9,Xb0,List.getElem?_append_left (by rw[hf];exact hj)];rfl
  |succ i=>rw[List.getElem?_append_right (by rw[hf,Xa0];omega),hf,show(i+1)*s+j-s=i*s+j by rw[Xa0];omega];simpa using ih i nv
theorem iO(hf:∀a,(f a).length=s)(l:List α)(i j:Nat)(hi:i<l.length)(hj:j<s)(v:Value)(a':α)(ha:f a'=(f l[i]).set j v):(l.flatMap f).set (i*s+j) v=(l.set i a').flatMap f:=by
 induction l generalizing i with
 |nil=>
  simp at hi
 |cons a l ih=>
  rw[Xb6];cases i with
  |zero=>
   rw[Xa9,Xb0,List.set_append_left _ _ (by rw[hf];exact hj)];simp only[List.set_cons_zero,Xb6,ha];rfl
  |succ i=>rw[List.set_append_right _ _ (by rw[hf,Xa0];omega),hf,show(i+1)*s+j-s=i*s+j by rw[Xa0];omega];simp only[List.set_cons_succ,Xb6];rw[ih i nv (by simpa using ha)]
theorem fF{l:List α}(hf:∀a,(f a).length=s)(hL:w.heap[L]?=OC (l.flatMap f).toArray t)(hi:i<l.length)(hj:j<s):w.cell? ⟨L,i*s+j,none⟩=(f l[i])[j]?:=by rw[(ab hL).1,List.getElem?_toArray,bY hf l i j hi hj]
theorem tJ{l:List α}(hf:∀a,(f a).length=s)(hi:i<l.length)(hj:j<s)(v:Value)(a':α)(ha:f a'=(f l[i]).set j v)(hL:w.heap[L]?=OC ((l.flatMap f).toArray.setIfInBounds (i*s+j) v) t):w.heap[L]?=OC ((l.set i a').flatMap f).toArray t:=by
 rw[hL,Xc0,iO hf l i j hi hj v a' ha]
theorem we(z:List Value)(hz:0<z.length)(n:Nat):madeCells z.toArray (n*z.length)=((List.replicate n z).flatten).toArray:=by
 refine L3;induction n with
 |zero=>
  simp
 |succ n ih=>
  rw[Xa0,List.range_add,List.map_append,ih,List.replicate_succ',List.flatten_append]
  congr 1
  rw[List.map_map];simp only[List.flatten_cons,List.flatten_nil,List.append_nil];apply List.ext_getElem
  .simp
  .intro k h1 h2
   have hk:k<z.length:=by simpa using h1
   simp[Xb2 n,Nat.mul_add_mod,Xa8 hk,hk]
end
structure Pw where
 at':Int
 sees:Int
 looks:Bool
abbrev pwC(x:Pw):List Value:=[JU x.at',JU x.sees,.bool x.looks]
theorem fu(x:Pw):(pwC x).length=3:=rfl
structure Wt where
 slot:Int
 turn:Int
 epoch:Int
abbrev Cp(x:Wt):List Value:=[JI x.slot,JT x.turn,JU x.epoch]
theorem Gl(x:Wt):(Cp x).length=3:=rfl
structure br(w:World)(B P L:Nat)(ws:List Pw)(wt:List Wt):Prop where
 p:∃v,w.heap[P]?=OC #[.slice (aT L) ws.length ws.length,v] 128/\w.ownsRow B 346 3 v wt.length (wt.flatMap Cp)
 l:w.heap[L]?=OC (ws.flatMap pwC).toArray 317
 le:ws.length<=4
 bP:B<=P
 bL:B<=L
theorem ah{n:Nat}{v:Value}{xs:List Value}(h:w.ownsRow B e s v n xs)(hc:ag S w w')(hS:∀j cur,S j->w.heap[j]?≠OC cur e):w'.ownsRow B e s v n xs:=by refine⟨h.1,h.2.imp id ?_⟩;rintro⟨g,cap,cur,h1,h2,h3,h4⟩;exact⟨g,cap,cur,h1,h2,ae hc h3 (λq=>hS g cur q h3),h4⟩
theorem au(h:w.heap[g]?=OC c t)(ht:t≠e):w.heap[g]?≠OC cur e:=λq=>by exact V3
def gk(S:Nat->Prop)(e:TypeId)(w:World):Prop:=∀j cur,S j->w.heap[j]?≠OC cur e
theorem ON(e:TypeId)(w:World):gk af e w:=λ_ _ h=>h.elim
theorem aJ(h:w.heap[g]?=OC c t)(ht:t≠e):gk (λj=>j=g) e w:=λj cur hj=>by subst hj;exact au h ht
section
variable {w:World}{B P L:Nat}{ws:List Pw}{wt:List Wt}
theorem br.kept(h:br w B P L ws wt)(hc:ag S w w')(h1:¬S P)(h2:¬S L)(h3:gk S 346 w):br w' B P L ws wt:=by obtain⟨v,k1,k2⟩:=h.p;exact⟨⟨v,ae hc k1 h1,ah k2 hc h3⟩,ae hc h.l h2,h.le,h.bP,h.bL⟩
theorem br.below(h:br w B P L ws wt)(hb:aC w w'):br w' B P L ws wt:=h.kept (S:=af) (.of hb) id id cy
theorem br.lt(h:br w B P L ws wt):P<w.heap.size/\L<w.heap.size:=⟨aB h.p.choose_spec.1,aB h.l⟩
theorem br.put(h:br w B P L ws wt)(i:Nat)(x:Pw)(hc:ag (λj=>j=L) w w')(hL:w'.heap[L]?=OC ((ws.set i x).flatMap pwC).toArray 317):br w' B P L (ws.set i x) wt:=by
 obtain⟨v,k1,k2⟩:=h.p;have hne:P≠L:=λq=>by subst q;exact au h.l dM k1
 exact⟨⟨v,by rw[Xc5];exact ae hc k1 hne,ah k2 hc (aJ h.l dM)⟩,hL,by rw[Xc5];exact h.le,h.bP,h.bL⟩
theorem of_t(h:br w B P L ws wt)(k:Nat)(i:Int)(hi:i=k)(hk:k<ws.length):az 144 #[OV P,JI i] w λe w'=>e=aA (.tuple #[.pointer (some ⟨L,k*3,none⟩),JI 0])/\w'=w:=by subst hi;refine oE;have h3:=h.le;refine jQ;have d1:decide ((ws.length:Int)<=(k:Int))=false:=xM;have d0:decide ((k:Int)<0)=false:=sM;go_enter func144,ntmps144;exact zf
theorem Jc(h:br w B P L ws wt)(k:Nat)(i ep:Int)(hi:i=k)(hk:k<ws.length)(he:ws[k].at'<=ep):az 146 #[OV P,JI i,JU ep] w λe w'=>e=aA (JI 0)/\br w' B P L (ws.set k ⟨ep,ws[k].sees,ws[k].looks⟩) wt/\ag (λj=>j=L) w w':=by
 subst hi;refine bI;have d0:=fF fu h.l (i:=k) (j:=0) hk dM;simp only[Xa1,Xb7]at d0;have hne:decide (ep<ws[k].at')=false:=xM;refine Lh;clear c0;have hL:=h.l;have hput:=λW=>tJ (w:=W) (L:=L) (t:=317) fu hk (j:=0) dM (JU ep) ⟨ep,ws[k].sees,ws[k].looks⟩ rfl
 have HP:=OH hput;clear hput;generalize hA:ws[k].at'=A at *;have HA:=OH hA;clear hA;clear h he;go_enter func146,ntmps146;refine KV;refine jN;have hc:ag (λj=>j=L) w1 (w1.setCell ⟨L,k*3,none⟩ (JU ep)):=lW;exact⟨rfl,H.out.put k _ hc (HP.out _ gD),hc⟩
theorem pin_t(h:br w B P L ws wt)(k:Nat)(i:Int)(hi:i=k)(hk:k<ws.length)(he:ws[k].looks=false):az 136 #[OV P,JI i] w λe w'=>e=aA (.tuple #[JU ws[k].at',JI 0])/\br w' B P L (ws.set k ⟨ws[k].at',ws[k].at',true⟩) wt/\ag (λj=>j=L) w w':=by
 subst hi;refine bI;have d0:=fF fu h.l (i:=k) (j:=0) hk dM;have d1:=fF fu h.l (i:=k) (j:=1) hk dM;have d2:=fF fu h.l (i:=k) (j:=2) hk dM;simp only[Xa1,Xb7,Xb8,he]at d0 d1 d2;refine Lh;clear c0;have hL:=h.l;have hput:=λW=>tJ (w:=W) (L:=L) (t:=317) fu (l:=ws.set k ⟨ws[k].at',ws[k].sees,true⟩) (i:=k) rG (j:=1) dM (JU ws[k].at') ⟨ws[k].at',ws[k].at',true⟩ (by simp[pwC])
 have hput1:=iO fu ws k 2 hk dM (.bool true) ⟨ws[k].at',ws[k].sees,true⟩ rfl;have HP:=OH hput;clear hput;have HP1:=OH hput1;clear hput1;generalize hA:ws[k].at'=A at *;generalize hS:ws[k].sees=S at *;have HA:=OH hA;clear hA;have HS:=OH hS;clear hS;clear h he;go_enter func136,ntmps136;refine KV;refine jf;go_ret2;have hc:ag (λj=>j=L) w1 ((w1.setCell ⟨L,k*3+2,none⟩ (.bool true)).setCell ⟨L,k*3+1,none⟩ (JU A)):=lW;have hq:=HP.out ((w1.setCell ⟨L,k*3+2,none⟩ (.bool true)).setCell ⟨L,k*3+1,none⟩ (JU A)) (by rw[←HP1.out,←Xc0];exact gD);rw[List.set_set]at hq;exact⟨rfl,H.out.put k _ hc hq,hc⟩
theorem Rx(h:br w B P L ws wt)(k:Nat)(i:Int)(hi:i=k)(hk:k<ws.length)(he:ws[k].looks=true):az 102 #[OV P,JI i] w λe w'=>e=aA (JI 0)/\br w' B P L (ws.set k ⟨ws[k].at',ws[k].sees,false⟩) wt/\ag (λj=>j=L) w w':=by
 subst hi;refine bI;have d2:=fF fu h.l (i:=k) (j:=2) hk dM;simp only[Xb7,Xb8,he]at d2;refine Lh;have hL:=h.l;have hput:=λW=>tJ (w:=W) (L:=L) (t:=317) fu hk (j:=2) dM (.bool false) ⟨ws[k].at',ws[k].sees,false⟩ rfl
 have HP:=OH hput;go_enter func102,ntmps102;refine KV;refine jN;have hc:ag (λj=>j=L) w1 (w1.setCell ⟨L,k*3+2,none⟩ (.bool false)):=lW;exact⟨rfl,H.out.put k _ hc (HP.out _ gD),hc⟩
theorem vE(h:br w B P L ws wt):az 34 #[OV P] w λe w'=>e=aA (JI wt.length)/\w'=w:=by refine AM;refine jQ;go_enter func34,ntmps34;exact ga
end
section
variable {α:Type}{f:α->List Value}{s:Nat}
theorem N1{ys:List α}{d:Nat}{x:α}(h:∀i (hi:i<ys.length) j,j<s->cr[i*s+j]?=(f ys[i])[j]?)(hd:d=ys.length)(hb:d*s+s<=cr.size)(hx:(f x).length=s) :
  ∀i (hi:i<(ys++ [x]).length) j,j<s->(aS cr (d*s) (f x))[i*s+j]?=(f (ys++ [x])[i])[j]?:=by
 intro i hi j hj;rw[eI _ _ _ _ (by rw[hx];exact hb),hx];by_cases q:i<ys.length
 .rw[if_neg (iK oM hj),Xc1 q]
  exact h i q j hj
 .have:i=d:=by simp at hi;omega
  subst this;rw[if_pos oM];subst hd;simp
theorem N2{d:Nat}{l:List Value}(hi:d≠i)(hj:j<s)(hl:l.length=s)(hb:d*s+s<=cr.size):(aS cr (d*s) l)[i*s+j]?=cr[i*s+j]?:=by rw[eI _ _ _ _ (by rw[hl];exact hb),hl,if_neg (iK hi hj)]
theorem mE{d:Nat}{l:List Value}(hi:i<d)(hj:j<s)(hb:d*s+l.length<=cr.size):(aS cr (d*s) l)[i*s+j]?=cr[i*s+j]?:=by rw[eI _ _ _ _ hb,if_neg];have:(i+1)*s<=d*s:=PI _ hi;exact E6
end
theorem eh{α:Type}{f:α->List Value}(hf:∀a,(f a).length=s){ys:List α}(hg:w.heap[g]?=OC cr e)(hB:B<=g)(hl:ys.length<=cap)(hm:cap<=maxLen)(hs:cr.size=cap*s)(h:∀i (hi:i<ys.length) j,j<s->cr[i*s+j]?=(f ys[i])[j]?):w.ownsRow B e s (.slice (aT g) ys.length cap) ys.length (ys.flatMap f):=by
 refine⟨bX hf ys,.inr ⟨g,cap,cr,rfl,hB,hg,hl,hm,hs,?_⟩⟩;apply List.ext_getElem?;intro k;by_cases hk:k<ys.length*s
 .have hs0:0<s:=by
   rcases Xa6 s with q|q
   .subst q
    omega
   .exact q
  have h1:k / s<ys.length:=by rw[Nat.div_lt_iff_lt_mul hs0];exact hk
  have h2:k % s<s:=Xa4 _ hs0;have h3:k=k / s*s+k % s:=by rw[Xb2];exact(Xa3 k s).symm
  rw[List.getElem?_take_of_lt hk,Array.getElem?_toList,h3,h _ h1 _ h2,bY hf ys _ _ h1 h2]
 .have hsz:ys.length*s<=cr.size:=by rw[hs];exact PI _ hl
  rw[Xc2 xM,Xc2 (by rw[bX hf];omega)]
theorem du(l:List Value):∀ (o:Nat) (w:World) (cr:Array Value),w.heap[g]?=OC cr t->(w.setCells g o l).heap[g]?=OC (aS cr o l) t:=by
 induction l with
 |nil=>
  intro o w cr h;exact h
 |cons v l ih=>intro o w cr h;exact ih (o+1) _ _ (av o v h)
theorem bA(l:List Value):∀ (o:Nat) (w:World),ag (λb=>b=g) w (w.setCells g o l):=by
 induction l with
 |nil=>
  intro o w;exact ag.refl _ _
 |cons v l ih=>intro o w;exact(ag.set (S:=λb=>b=g) (ag.refl _ w) ⟨g,o,none⟩ (.inl rfl) v).trans (ih (o+1) _)
theorem ey(w:World)(t e tt:TypeId)(z:Value)(s:Nat)(ht:prog.underlying t=some (.slice e))(hv:∀w,(zeroValue e).run prog w=.ok z w)(hz:z.cells.size=s)(h1:∀v∈z.cells.toList,v.oneCell'=true)(b o n c:Nat)(hn:0<n)(hc:∀j,j<n*s->(w.cell? ⟨b,o+j,none⟩).isSome=true)(hf:∀j,j<n*s->w.frozen? ⟨b,o+j,none⟩=false) :
  ∃zs:List Value,zs.length=n*s/\(Xc7 #[t] tt #[.slice (some ⟨b,o,none⟩) n c]).run prog w=.ok (.tuple #[]) (w.setCells b o zs):=by
 have hl:(Xc6 z.cells n).toList.length=n*s:=by simp[Xc6,hz]
 refine⟨(Xc6 z.cells n).toList,hl,?_⟩;have ho:∀v∈ (Xc6 z.cells n).toList,v.oneCell'=true:=by
  intro v hv;simp only[Xc6,Array.toList_map,List.mem_map]at hv;obtain⟨i,hi,rfl⟩:=hv;have hi2:i<n*z.cells.size:=by simpa using hi
  have hp:0<z.cells.size:=by
   rcases Xa6 z.cells.size with q|q
   .rw[q]at hi2
    omega
   .exact q
  have hlt:i % z.cells.size<z.cells.size:=Xa4 _ hp;rw[getElem!_pos z.cells _ hlt];exact h1 _ sM
 have hst:=run_storeCells_cells (P:=prog) b o (Xc6 z.cells n).toList 0 w (by simpa[hl]using hc) (by simpa[hl]using hf) ho;simp only[Xa1]at hst;obtain⟨m,rfl⟩:∃m,n=m+1:=⟨n-1,oM⟩
 simp[Xc7,run_underlying ht,hv,hst]
def uj(T:TypeId)(u u':World):Prop:=∀ (b:Nat) (cur:Array Value),u.heap[b]?=OC cur T->u'.heap[b]?=OC cur T
section
open Go.Shelf
theorem cF{P:Program}(w:World)(dT sT ty e:TypeId)(b o dLen dCap:Nat)(a:Addr)(sLen sCap:Nat)(cs:List Value)(s:Nat)(hu:P.underlying dT=some (.slice e))(hs:(P.info? e).map (·.size)=some s)(hn:cs.length=Xb3 sLen dLen*s)(hsrc:∀j v,cs[j]?=some v->w.cell? (a.add j)=some v)(hc:∀j,j<cs.length->(w.cell? ⟨b,o+j,none⟩).isSome=true)(hf:∀j,j<cs.length->w.frozen? ⟨b,o+j,none⟩=false)(h1:∀v∈cs,v.oneCell'=true) :
  (Xc8 #[dT,sT] ty #[.slice (some ⟨b,o,none⟩) dLen dCap,.slice (some a) sLen sCap]).run P w=.ok (goInt (Xb3 sLen dLen)) (w.setCells b o cs):=by
 have hst:=run_storeCells_cells (P:=P) b o cs 0 w (by simpa using hc) (by simpa using hf) h1;have hfc:=run_firstCells_some (P:=P) (w:=w) s (Xb3 sLen dLen) a sLen sCap cs hn hsrc;cases hq:P.info? e with
 |none=>
  simp[hq]at hs
 |some i=>
  have hi:i.size=s:=by simpa[hq]using hs
  simp[Xc8,run_underlying hu,Builtin.lenOf,sizeOf,typeInfo,hq,hi,hfc,hst]
section
variable {α:Type}{f:α->List Value}{s:Nat}
theorem Ob{k n:Nat}(hj:j<s):(i*s<=k*s+j/\k*s+j<i*s+n*s)↔(i<=k/\k<i+n):=by
 constructor
 .rintro⟨h1,h2⟩
  refine⟨?_,?_⟩
  .rcases Xb4 k i with q|q
   .have:(k+1)*s<=i*s:=PI _ q
    exact E6
   .exact q
  .rcases Xb4 k (i+n)with q|q
   .exact q
   .have:(i+n)*s<=k*s:=PI _ q
    rw[Xa2]at this;omega
 .rintro⟨h1,h2⟩
  have a1:i*s<=k*s:=PI _ h1;have a2:(k+1)*s<=(i+n)*s:=PI _ h2;rw[Xa0,Xa2]at a2;omega
theorem jg(hf:∀a,(f a).length=s)(c:Array Value)(i:Nat)(l:List α)(hb:i*s+l.length*s<=c.size)(k j:Nat)(hj:j<s) :
  (aS c (i*s) (l.flatMap f))[k*s+j]?=if h:i<=k/\k<i+l.length then(f (l[k-i]'oM))[j]? else c[k*s+j]?:=by
 rw[eI _ _ _ _ (by rw[bX hf];exact hb),bX hf];by_cases h:i<=k/\k<i+l.length
 .rw[if_pos ((Ob hj).2 h),dif_pos h]
  have:k*s+j-i*s=(k-i)*s+j:=by have:=PI s h.1;rw[Nat.sub_mul];omega
  rw[this,bY hf l (k-i) j oM hj]
 .rw[if_neg (λq=>h ((Ob hj).1 q)),dif_neg h]
theorem gF(l:List α)(i:Nat)(x:α)(hi:i<=l.length):(l.insertIdx i x).length=l.length+1:=by rw[List.length_insertIdx,if_pos hi]
theorem G7(l:List α)(i:Nat)(x:α)(hi:i<=l.length)(k:Nat)(hk:k<(l.insertIdx i x).length):(l.insertIdx i x)[k]=if h:k<i then l[k]'oM else if h2:k=i then x else l[k-1]'(by have:=gF l i x hi;omega):=by
 by_cases h:k<i
 .rw[dif_pos h,List.getElem_insertIdx_of_lt h]
 .rw[dif_neg h]
  by_cases h2:k=i
  .subst h2
   rw[dif_pos rfl,List.getElem_insertIdx_self]
  .rw[dif_neg h2,List.getElem_insertIdx_of_gt oM]
theorem tz(hf:∀a,(f a).length=s){l:List α}{x:α}(hi:i<=l.length){R:Array Value}(hR:(l.length+1)*s<=R.size)(hr:∀k (hk:k<l.length) j,k<i->j<s->R[k*s+j]?=(f l[k])[j]?) :
  ∀k (hk:k<(l.insertIdx i x).length) j,j<s->(aS (aS R (i*s) (f x)) ((i+1)*s) ((l.drop i).flatMap f))[k*s+j]?=(f (l.insertIdx i x)[k])[j]?:=by
 intro k hk j hj;have hl:=gF l i x hi;have hx:(aS R (i*s) (f x))=aS R (i*s) ([x].flatMap f):=sM;refine YM;rw[jg hf _ (i+1) (l.drop i) (by rw[cH,hb2];exact hR) k j hj,hx,jg hf R i [x] (by rw[←Xa2];exact hb1) k j hj,G7 l i x hi k hk];by_cases h:k<i
 .rw[dif_neg oM,dif_neg xM,dif_pos h]
  exact hr k oM j h hj
 .rw[dif_neg h]
  by_cases h2:k=i
  .subst h2
   rw[dif_neg oM,dif_pos sM,dif_pos rfl];simp
  .rw[dif_pos (by rw[Xc4];omega),dif_neg h2]
   congr 2
   rw[Xc3]
   congr 1
   omega
theorem pU(hf:∀a,(f a).length=s){l:List α}{x:α}(hi:i<=l.length){R:Array Value}(hR:(l.length+1)*s<=R.size)(hr:∀k (hk:k<l.length) j,k<i->j<s->R[k*s+j]?=(f l[k])[j]?) :
  ∀k (hk:k<(l.insertIdx i x).length) j,j<s->(aS (aS R ((i+1)*s) ((l.drop i).flatMap f)) (i*s) (f x))[k*s+j]?=(f (l.insertIdx i x)[k])[j]?:=by
 intro k hk j hj;have hl:=gF l i x hi;have hx:∀C,(aS C (i*s) (f x))=aS C (i*s) ([x].flatMap f):=sM;refine YM;rw[hx,jg hf _ i [x] (by rw[←Xa2,cH];exact hb1) k j hj,jg hf _ (i+1) (l.drop i) (by rw[hb2];exact hR) k j hj,G7 l i x hi k hk];by_cases h:k<i
 .rw[dif_neg xM,dif_neg oM,dif_pos h]
  exact hr k oM j h hj
 .rw[dif_neg h]
  by_cases h2:k=i
  .subst h2
   rw[dif_pos sM,dif_pos rfl];simp
  .rw[dif_neg xM,dif_pos (by rw[Xc4];omega),dif_neg h2]
   congr 2
   rw[Xc3]
   congr 1
   omega
end
end
structure Pe where
 who:Int
 room:Int
 rights:Int
abbrev gp(x:Pe):List Value:=[JI x.who,JI x.room,JI x.rights]
structure Su where
 who:Int
 track:Int
 layer:Int
 tid:Int
 muted:Bool
abbrev el(x:Su):List Value:=[JI x.who,JI x.track,JI x.layer,JI x.tid,.bool x.muted]
structure Tk where
 id:Int
 owner:Int
 fr:Int
 a:Option Addr
 n:Nat
 c:Nat
abbrev eU(x:Tk):List Value:=[JI x.id,JI x.owner,JI x.fr,.slice x.a x.n x.c]
theorem dS(x:Pe):(gp x).length=3:=rfl
theorem ce(x:Su):(el x).length=5:=rfl
theorem dt(x:Tk):(eU x).length=4:=rfl
section
variable {w:World}{S:Nat->Prop}{J:Nat->World->Prop}{p:Wt->Bool}{m:Nat}{caps:Array Value}
theorem idx_wt(eg:∀args w,(callFunc m args).run prog w=.ok (.enter m args) w){xs:List Wt}(hl:xs.length<=1000000)(hrow:∀j u,J j u->u.heap[g]?=OC cur 346)(hcur:∀i (hi:i<xs.length) j,j<3->cur[i*3+j]?=(Cp xs[i])[j]?)(hf:∀j (hj:j<xs.length) u,J j u->az m (#[.agg (Cp xs[j]).toArray] ++caps) u λe u'=>e=aA (.bool (p xs[j]))/\J (j+1) u'/\ag S u u')(h0:J 0 w) :
  az 207 #[.slice (aT g) xs.length cap,.func (.func m) #[] caps] w λe w'=>∃k:Nat,(∀j (hj:j<xs.length),j<k->p xs[j]=false)/\((∃hk:k<xs.length,p xs[k]=true/\e=aA (JI k)/\J (k+1) w')\/(k=xs.length/\e=aA (JI (-1))/\J k w'))/\ag S w w':=by
 refine kt;have HR:=OH hrow;have HC:=OH hcur;go_enter func207,ntmps207;refine Gf;case round=>exact zq69
theorem Rf(w:World):(zeroValue 346).run prog w=.ok (.agg #[JI 0,JT 0,JU 0]) w:=kM
theorem tM{l:List Wt}(h:∀j (hj:j<l.length),p l[j]=false):l.filter (λx=>!p x)=l:=EJ
theorem del_wt(eg:∀args w,(callFunc m args).run prog w=.ok (.enter m args) w){xs:List Wt}(hl:xs.length<=1000000)(hrow:w.heap[g]?=OC cur 346)(hcap:xs.length<=cap)(hsz:cur.size=cap*3)(hcur:∀i (hi:i<xs.length) j,j<3->cur[i*3+j]?=(Cp xs[i])[j]?)(hf:∀j (hj:j<xs.length) u,J j u->az m (#[.agg (Cp xs[j]).toArray] ++caps) u λe u'=>e=aA (.bool (p xs[j]))/\J (j+1) u'/\ag S u u'/\uj 346 u u')(hst:∀j u u',J j u->ag (λb=>b=g) u u'->J j u')(h0:J 0 w) :
  az 166 #[.slice (aT g) xs.length cap,.func (.func m) #[] caps] w λe w'=>∃cur',e=aA (.slice (aT g) (xs.filter (λx=>!p x)).length cap)/\w'.heap[g]?=OC cur' 346/\cur'.size=cap*3 /\
   (∀i (hi:i<(xs.filter (λx=>!p x)).length) j,j<3->cur'[i*3+j]?=(Cp (xs.filter (λx=>!p x))[i])[j]?)/\J xs.length w'/\ag (λb=>S b\/b=g) w w':=by
 have hidx:=idx_wt (w:=w) (J:=λj u=>J j u/\u.heap[g]?=OC cur 346) (S:=S) (p:=p) (m:=m) (caps:=caps) eg (cap:=cap) hl (λj u h=>h.2) hcur
  (λj hj u h=>(hf j hj u h.1).mono λe u' ⟨k1,k2,k3,k4⟩=>⟨k1,Es,k3⟩) ⟨h0,hrow⟩
 refine F9;go_enter func166,ntmps166;refine F8
 .refine Rb
  go_loopw [5,6] (λa i wr=>∃ (q d:Nat) (cr:Array Value),q<=xs.length/\i=JI q/\a=JI d/\d=((xs.take q).filter (λx=>!p x)).length/\d<q/\wr.heap[g]?=OC cr 346/\cr.size=cap*3 /\
   (∀i (hi:i<((xs.take q).filter (λx=>!p x)).length) j,j<3->cr[i*3+j]?=(Cp ((xs.take q).filter (λx=>!p x))[i])[j]?)/\(∀i (hi:i<xs.length) j,q<=i->j<3->cr[i*3+j]?=(Cp xs[i])[j]?)/\J q wr/\ag (λb=>S b\/b=g) w wr) (λ_ i _=>xs.length- (intOf i).toNat)
  case atStart=>exact Q6
  case round=>
   refine Gd
   .refine ZG
    have hfq:=HF.out q hlt (wr.alloc (.cells #[JI xs[q].slot,JT xs[q].turn,JU xs[q].epoch] 346)) (HS.out q _ _ hJ im);refine Q9;have hX2:=hkp wr.heap.size _ (ao wr (.cells #[JI xs[q].slot,JT xs[q].turn,JU xs[q].epoch] 346) _ rfl);refine FZ;clear hrw f1 y1 hJ hc2 hkp hc CL e0 e1 e2;refine FK;cases hpq:p xs[q]with
    |true=>
     exact Q7
    |false=>
     refine ZK;case rel=>refine⟨q+1,d+1,aS cr (d*3) (Cp xs[q]),oM,eT,eT,QS,oM,km,Cm,?_,λi hi j hqi hj=>?_,HS.out (q+1) w2 _ hJ2 lW,lW⟩;exact Fz;exact FH
     case measure=>exact di
   .refine Ga
    obtain⟨zs,hzl,hclr⟩:=ey wr 126 346 0 _ 3 underlying126 Rf rfl dM g (d*3) (xs.length-d) (cap-d) oM (λj hj=>by rw[c1,Xb5 oM];rfl) (λj _=>f1 _);exact X7
 .have hxs:=tM (p:=p) (l:=xs) (λj hj=>hp j hj hj)
  exact F7
theorem Di(fv:Value)(w:World):az 207 #[.slice none 0 0,fv] w λe w'=>e=aA (JI (-1))/\w'=w:=by go_enter func207,ntmps207;exact F6
theorem DR(fv:Value)(w:World):az 166 #[.slice none 0 0,fv] w λe w'=>e=aA (.slice none 0 0)/\w'=w:=by go_enter func166,ntmps166;refine ay;refine(Di _ _).mono ?_;exact uW
end
section
variable {w:World}{S:Nat->Prop}{J:Nat->World->Prop}{p:Pe->Bool}{m:Nat}{caps:Array Value}
theorem idx_pe(eg:∀args w,(callFunc m args).run prog w=.ok (.enter m args) w){xs:List Pe}(hl:xs.length<=1000000)(hrow:∀j u,J j u->u.heap[g]?=OC cur 167)(hcur:∀i (hi:i<xs.length) j,j<3->cur[i*3+j]?=(gp xs[i])[j]?)(hf:∀j (hj:j<xs.length) u,J j u->az m (#[.agg (gp xs[j]).toArray] ++caps) u λe u'=>e=aA (.bool (p xs[j]))/\J (j+1) u'/\ag S u u')(h0:J 0 w) :
  az 277 #[.slice (aT g) xs.length cap,.func (.func m) #[] caps] w λe w'=>∃k:Nat,(∀j (hj:j<xs.length),j<k->p xs[j]=false)/\((∃hk:k<xs.length,p xs[k]=true/\e=aA (JI k)/\J (k+1) w')\/(k=xs.length/\e=aA (JI (-1))/\J k w'))/\ag S w w':=by
 refine kt;have HR:=OH hrow;have HC:=OH hcur;go_enter func277,ntmps277;refine Gf;case round=>exact zq69
theorem Rk(w:World):(zeroValue 167).run prog w=.ok (.agg #[JI 0,JI 0,JI 0]) w:=kM
theorem tQ{l:List Pe}(h:∀j (hj:j<l.length),p l[j]=false):l.filter (λx=>!p x)=l:=EJ
theorem del_pe(eg:∀args w,(callFunc m args).run prog w=.ok (.enter m args) w){xs:List Pe}(hl:xs.length<=1000000)(hrow:w.heap[g]?=OC cur 167)(hcap:xs.length<=cap)(hsz:cur.size=cap*3)(hcur:∀i (hi:i<xs.length) j,j<3->cur[i*3+j]?=(gp xs[i])[j]?)(hf:∀j (hj:j<xs.length) u,J j u->az m (#[.agg (gp xs[j]).toArray] ++caps) u λe u'=>e=aA (.bool (p xs[j]))/\J (j+1) u'/\ag S u u'/\uj 167 u u')(hst:∀j u u',J j u->ag (λb=>b=g) u u'->J j u')(h0:J 0 w) :
  az 241 #[.slice (aT g) xs.length cap,.func (.func m) #[] caps] w λe w'=>∃cur',e=aA (.slice (aT g) (xs.filter (λx=>!p x)).length cap)/\w'.heap[g]?=OC cur' 167/\cur'.size=cap*3 /\
   (∀i (hi:i<(xs.filter (λx=>!p x)).length) j,j<3->cur'[i*3+j]?=(gp (xs.filter (λx=>!p x))[i])[j]?)/\J xs.length w'/\ag (λb=>S b\/b=g) w w':=by
 have hidx:=idx_pe (w:=w) (J:=λj u=>J j u/\u.heap[g]?=OC cur 167) (S:=S) (p:=p) (m:=m) (caps:=caps) eg (cap:=cap) hl (λj u h=>h.2) hcur
  (λj hj u h=>(hf j hj u h.1).mono λe u' ⟨k1,k2,k3,k4⟩=>⟨k1,Es,k3⟩) ⟨h0,hrow⟩
 refine F9;go_enter func241,ntmps241;refine F8
 .refine Rb
  go_loopw [5,6] (λa i wr=>∃ (q d:Nat) (cr:Array Value),q<=xs.length/\i=JI q/\a=JI d/\d=((xs.take q).filter (λx=>!p x)).length/\d<q/\wr.heap[g]?=OC cr 167/\cr.size=cap*3 /\
   (∀i (hi:i<((xs.take q).filter (λx=>!p x)).length) j,j<3->cr[i*3+j]?=(gp ((xs.take q).filter (λx=>!p x))[i])[j]?)/\(∀i (hi:i<xs.length) j,q<=i->j<3->cr[i*3+j]?=(gp xs[i])[j]?)/\J q wr/\ag (λb=>S b\/b=g) w wr) (λ_ i _=>xs.length- (intOf i).toNat)
  case atStart=>exact Q6
  case round=>
   refine Gd
   .refine ZG
    have hfq:=HF.out q hlt (wr.alloc (.cells #[JI xs[q].who,JI xs[q].room,JI xs[q].rights] 167)) (HS.out q _ _ hJ im);refine Q9;have hX2:=hkp wr.heap.size _ (ao wr (.cells #[JI xs[q].who,JI xs[q].room,JI xs[q].rights] 167) _ rfl);refine FZ;clear hrw f1 y1 hJ hc2 hkp hc CL e0 e1 e2;refine FK;cases hpq:p xs[q]with
    |true=>
     exact Q7
    |false=>
     refine ZK;case rel=>refine⟨q+1,d+1,aS cr (d*3) (gp xs[q]),oM,eT,eT,QS,oM,km,Cm,?_,λi hi j hqi hj=>?_,HS.out (q+1) w2 _ hJ2 lW,lW⟩;exact Fz;exact FH
     case measure=>exact di
   .refine Ga
    obtain⟨zs,hzl,hclr⟩:=ey wr 38 167 0 _ 3 underlying38 Rk rfl dM g (d*3) (xs.length-d) (cap-d) oM (λj hj=>by rw[c1,Xb5 oM];rfl) (λj _=>f1 _);exact X7
 .have hxs:=tQ (p:=p) (l:=xs) (λj hj=>hp j hj hj)
  exact F7
theorem Dk(fv:Value)(w:World):az 277 #[.slice none 0 0,fv] w λe w'=>e=aA (JI (-1))/\w'=w:=by go_enter func277,ntmps277;exact F6
theorem DU(fv:Value)(w:World):az 241 #[.slice none 0 0,fv] w λe w'=>e=aA (.slice none 0 0)/\w'=w:=by go_enter func241,ntmps241;refine ay;refine(Dk _ _).mono ?_;exact uW
end
section
variable {w:World}{S:Nat->Prop}{J:Nat->World->Prop}{p:Su->Bool}{m:Nat}{caps:Array Value}
theorem idx_su(eg:∀args w,(callFunc m args).run prog w=.ok (.enter m args) w){xs:List Su}(hl:xs.length<=1000000)(hrow:∀j u,J j u->u.heap[g]?=OC cur 170)(hcur:∀i (hi:i<xs.length) j,j<5->cur[i*5+j]?=(el xs[i])[j]?)(hf:∀j (hj:j<xs.length) u,J j u->az m (#[.agg (el xs[j]).toArray] ++caps) u λe u'=>e=aA (.bool (p xs[j]))/\J (j+1) u'/\ag S u u')(h0:J 0 w) :
  az 260 #[.slice (aT g) xs.length cap,.func (.func m) #[] caps] w λe w'=>∃k:Nat,(∀j (hj:j<xs.length),j<k->p xs[j]=false)/\((∃hk:k<xs.length,p xs[k]=true/\e=aA (JI k)/\J (k+1) w')\/(k=xs.length/\e=aA (JI (-1))/\J k w'))/\ag S w w':=by
 have HF:=OH hf;have HR:=OH hrow;have HC:=OH hcur;go_enter func260,ntmps260;refine Gf;case round=>
  refine LW
  .refine MA
   have d3:=HC.out k hlt 3 dM;have d4:=HC.out k hlt 4 dM;refine Me;obtain⟨c0,f0,z0⟩:=ab hrw;have e0:=(c0 (k*5)).trans d0;have e1:=(c0 (k*5+1)).trans d1;have e2:=(c0 (k*5+2)).trans d2;have e3:=(c0 (k*5+3)).trans d3;have e4:=(c0 (k*5+4)).trans d4;exact zq20
  .exact LD
theorem wK(w:World):(zeroValue 170).run prog w=.ok (.agg #[JI 0,JI 0,JI 0,JI 0,.bool false]) w:=kM
theorem tO{l:List Su}(h:∀j (hj:j<l.length),p l[j]=false):l.filter (λx=>!p x)=l:=EJ
theorem del_su(eg:∀args w,(callFunc m args).run prog w=.ok (.enter m args) w){xs:List Su}(hl:xs.length<=1000000)(hrow:w.heap[g]?=OC cur 170)(hcap:xs.length<=cap)(hsz:cur.size=cap*5)(hcur:∀i (hi:i<xs.length) j,j<5->cur[i*5+j]?=(el xs[i])[j]?)(hf:∀j (hj:j<xs.length) u,J j u->az m (#[.agg (el xs[j]).toArray] ++caps) u λe u'=>e=aA (.bool (p xs[j]))/\J (j+1) u'/\ag S u u'/\uj 170 u u')(hst:∀j u u',J j u->ag (λb=>b=g) u u'->J j u')(h0:J 0 w) :
  az 200 #[.slice (aT g) xs.length cap,.func (.func m) #[] caps] w λe w'=>∃cur',e=aA (.slice (aT g) (xs.filter (λx=>!p x)).length cap)/\w'.heap[g]?=OC cur' 170/\cur'.size=cap*5 /\
   (∀i (hi:i<(xs.filter (λx=>!p x)).length) j,j<5->cur'[i*5+j]?=(el (xs.filter (λx=>!p x))[i])[j]?)/\J xs.length w'/\ag (λb=>S b\/b=g) w w':=by
 have hidx:=idx_su (w:=w) (J:=λj u=>J j u/\u.heap[g]?=OC cur 170) (S:=S) (p:=p) (m:=m) (caps:=caps) eg (cap:=cap) hl (λj u h=>h.2) hcur
  (λj hj u h=>(hf j hj u h.1).mono λe u' ⟨k1,k2,k3,k4⟩=>⟨k1,Es,k3⟩) ⟨h0,hrow⟩
 refine F9;go_enter func200,ntmps200;refine F8
 .refine Rb
  go_loopw [5,6] (λa i wr=>∃ (q d:Nat) (cr:Array Value),q<=xs.length/\i=JI q/\a=JI d/\d=((xs.take q).filter (λx=>!p x)).length/\d<q/\wr.heap[g]?=OC cr 170/\cr.size=cap*5 /\
   (∀i (hi:i<((xs.take q).filter (λx=>!p x)).length) j,j<5->cr[i*5+j]?=(el ((xs.take q).filter (λx=>!p x))[i])[j]?)/\(∀i (hi:i<xs.length) j,q<=i->j<5->cr[i*5+j]?=(el xs[i])[j]?)/\J q wr/\ag (λb=>S b\/b=g) w wr) (λ_ i _=>xs.length- (intOf i).toNat)
  case atStart=>exact Q6
  case round=>
   refine Gd
   .refine L5
    have d3:=hk2 q hlt 3 oM dM;have d4:=hk2 q hlt 4 oM dM;refine Me;have e0:=(c1 (q*5)).trans d0;have e1:=(c1 (q*5+1)).trans d1;have e2:=(c1 (q*5+2)).trans d2;have e3:=(c1 (q*5+3)).trans d3;have e4:=(c1 (q*5+4)).trans d4;have CL:=OH c1;clear c1 d0 d1 d2 d3 d4;have hfq:=HF.out q hlt (wr.alloc (.cells #[JI xs[q].who,JI xs[q].track,JI xs[q].layer,JI xs[q].tid,.bool xs[q].muted] 170)) (HS.out q _ _ hJ im);refine Q9;have hX2:=hkp wr.heap.size _ (ao wr (.cells #[JI xs[q].who,JI xs[q].track,JI xs[q].layer,JI xs[q].tid,.bool xs[q].muted] 170) _ rfl);refine FZ;clear hrw f1 y1 hJ hc2 hkp hc CL e0 e1 e2 e3 e4;refine FK;cases hpq:p xs[q]with
    |true=>
     exact Q7
    |false=>
     rw[hpq,if_neg dM]at HT;have HPQ:=OH hpq;clear hpq;have hbd:d*5+5<=cr.size:=by rw[hsz1];omega
     obtain⟨u0,g0⟩:∃u,cr[d*5]?=some u:=⟨_,Xb5 oM⟩
     obtain⟨u1,g1⟩:∃u,cr[d*5+1]?=some u:=⟨_,Xb5 oM⟩
     obtain⟨u2,g2⟩:∃u,cr[d*5+2]?=some u:=⟨_,Xb5 oM⟩
     obtain⟨u3,g3⟩:∃u,cr[d*5+3]?=some u:=⟨_,Xb5 oM⟩
     obtain⟨u4,g4⟩:∃u,cr[d*5+4]?=some u:=⟨_,Xb5 oM⟩
     refine dA;case rel=>refine⟨q+1,d+1,aS cr (d*5) (el xs[q]),oM,eT,eT,QS,oM,km,Cm,?_,λi hi j hqi hj=>?_,HS.out (q+1) w2 _ hJ2 lW,lW⟩;exact Fz;exact FH
     case measure=>exact di
   .refine Ga
    obtain⟨zs,hzl,hclr⟩:=ey wr 40 170 0 _ 5 underlying40 wK rfl dM g (d*5) (xs.length-d) (cap-d) oM (λj hj=>by rw[c1,Xb5 oM];rfl) (λj _=>f1 _);have CL:=OH c1;clear c1;refine bj;have hcs:ag (λb=>b=g) wr (wr.setCells g (d*5) zs):=bA zs _ _;exact zq75
 .have hxs:=tO (p:=p) (l:=xs) (λj hj=>hp j hj hj)
  exact F7
theorem Dj(fv:Value)(w:World):az 260 #[.slice none 0 0,fv] w λe w'=>e=aA (JI (-1))/\w'=w:=by go_enter func260,ntmps260;exact F6
theorem DT(fv:Value)(w:World):az 200 #[.slice none 0 0,fv] w λe w'=>e=aA (.slice none 0 0)/\w'=w:=by go_enter func200,ntmps200;refine ay;refine(Dj _ _).mono ?_;exact uW
end
section
variable {w:World}{S:Nat->Prop}{J:Nat->World->Prop}{p:Tk->Bool}{m:Nat}{caps:Array Value}
theorem Pv(eg:∀args w,(callFunc m args).run prog w=.ok (.enter m args) w){xs:List Tk}(hl:xs.length<=1000000)(hrow:∀j u,J j u->u.heap[g]?=OC cur 173)(hcur:∀i (hi:i<xs.length) j,j<4->cur[i*4+j]?=(eU xs[i])[j]?)(hf:∀j (hj:j<xs.length) u,J j u->az m (#[.agg (eU xs[j]).toArray] ++caps) u λe u'=>e=aA (.bool (p xs[j]))/\J (j+1) u'/\ag S u u')(h0:J 0 w) :
  az 306 #[.slice (aT g) xs.length cap,.func (.func m) #[] caps] w λe w'=>∃k:Nat,(∀j (hj:j<xs.length),j<k->p xs[j]=false)/\((∃hk:k<xs.length,p xs[k]=true/\e=aA (JI k)/\J (k+1) w')\/(k=xs.length/\e=aA (JI (-1))/\J k w'))/\ag S w w':=by
 have HF:=OH hf;have HR:=OH hrow;have HC:=OH hcur;go_enter func306,ntmps306;refine Gf;case round=>
  refine LW
  .refine MA
   have d3:=HC.out k hlt 3 dM;refine UO;obtain⟨c0,f0,z0⟩:=ab hrw;have e0:=(c0 (k*4)).trans d0;have e1:=(c0 (k*4+1)).trans d1;have e2:=(c0 (k*4+2)).trans d2;have e3:=(c0 (k*4+3)).trans d3;exact zq20
  .exact LD
theorem Rj(w:World):(zeroValue 173).run prog w=.ok (.agg #[JI 0,JI 0,JI 0,.slice none 0 0]) w:=kM
theorem tN{l:List Tk}(h:∀j (hj:j<l.length),p l[j]=false):l.filter (λx=>!p x)=l:=EJ
theorem del_tk(eg:∀args w,(callFunc m args).run prog w=.ok (.enter m args) w){xs:List Tk}(hl:xs.length<=1000000)(hrow:w.heap[g]?=OC cur 173)(hcap:xs.length<=cap)(hsz:cur.size=cap*4)(hcur:∀i (hi:i<xs.length) j,j<4->cur[i*4+j]?=(eU xs[i])[j]?)(hf:∀j (hj:j<xs.length) u,J j u->az m (#[.agg (eU xs[j]).toArray] ++caps) u λe u'=>e=aA (.bool (p xs[j]))/\J (j+1) u'/\ag S u u'/\uj 173 u u')(hst:∀j u u',J j u->ag (λb=>b=g) u u'->J j u')(h0:J 0 w) :
  az 278 #[.slice (aT g) xs.length cap,.func (.func m) #[] caps] w λe w'=>∃cur',e=aA (.slice (aT g) (xs.filter (λx=>!p x)).length cap)/\w'.heap[g]?=OC cur' 173/\cur'.size=cap*4 /\
   (∀i (hi:i<(xs.filter (λx=>!p x)).length) j,j<4->cur'[i*4+j]?=(eU (xs.filter (λx=>!p x))[i])[j]?)/\J xs.length w'/\ag (λb=>S b\/b=g) w w':=by
 have hidx:=Pv (w:=w) (J:=λj u=>J j u/\u.heap[g]?=OC cur 173) (S:=S) (p:=p) (m:=m) (caps:=caps) eg (cap:=cap) hl (λj u h=>h.2) hcur
  (λj hj u h=>(hf j hj u h.1).mono λe u' ⟨k1,k2,k3,k4⟩=>⟨k1,Es,k3⟩) ⟨h0,hrow⟩
 refine F9;go_enter func278,ntmps278;refine F8
 .refine Rb
  go_loopw [5,6] (λa i wr=>∃ (q d:Nat) (cr:Array Value),q<=xs.length/\i=JI q/\a=JI d/\d=((xs.take q).filter (λx=>!p x)).length/\d<q/\wr.heap[g]?=OC cr 173/\cr.size=cap*4 /\
   (∀i (hi:i<((xs.take q).filter (λx=>!p x)).length) j,j<4->cr[i*4+j]?=(eU ((xs.take q).filter (λx=>!p x))[i])[j]?)/\(∀i (hi:i<xs.length) j,q<=i->j<4->cr[i*4+j]?=(eU xs[i])[j]?)/\J q wr/\ag (λb=>S b\/b=g) w wr) (λ_ i _=>xs.length- (intOf i).toNat)
  case atStart=>exact Q6
  case round=>
   refine Gd
   .refine L5
    have d3:=hk2 q hlt 3 oM dM;refine UO;have e0:=(c1 (q*4)).trans d0;have e1:=(c1 (q*4+1)).trans d1;have e2:=(c1 (q*4+2)).trans d2;have e3:=(c1 (q*4+3)).trans d3;have CL:=OH c1;clear c1 d0 d1 d2 d3;have hfq:=HF.out q hlt (wr.alloc (.cells #[JI xs[q].id,JI xs[q].owner,JI xs[q].fr,.slice xs[q].a xs[q].n xs[q].c] 173)) (HS.out q _ _ hJ im);refine Q9;have hX2:=hkp wr.heap.size _ (ao wr (.cells #[JI xs[q].id,JI xs[q].owner,JI xs[q].fr,.slice xs[q].a xs[q].n xs[q].c] 173) _ rfl);refine FZ;clear hrw f1 y1 hJ hc2 hkp hc CL e0 e1 e2 e3;refine FK;cases hpq:p xs[q]with
    |true=>
     exact Q7
    |false=>
     rw[hpq,if_neg dM]at HT;have HPQ:=OH hpq;clear hpq;have hbd:d*4+4<=cr.size:=by rw[hsz1];omega
     obtain⟨u0,g0⟩:∃u,cr[d*4]?=some u:=⟨_,Xb5 oM⟩
     obtain⟨u1,g1⟩:∃u,cr[d*4+1]?=some u:=⟨_,Xb5 oM⟩
     obtain⟨u2,g2⟩:∃u,cr[d*4+2]?=some u:=⟨_,Xb5 oM⟩
     obtain⟨u3,g3⟩:∃u,cr[d*4+3]?=some u:=⟨_,Xb5 oM⟩
     refine dA;case rel=>refine⟨q+1,d+1,aS cr (d*4) (eU xs[q]),oM,eT,eT,QS,oM,km,Cm,?_,λi hi j hqi hj=>?_,HS.out (q+1) w2 _ hJ2 lW,lW⟩;exact Fz;exact FH
     case measure=>exact di
   .refine Ga
    obtain⟨zs,hzl,hclr⟩:=ey wr 39 173 0 _ 4 underlying39 Rj rfl dM g (d*4) (xs.length-d) (cap-d) oM (λj hj=>by rw[c1,Xb5 oM];rfl) (λj _=>f1 _);have CL:=OH c1;clear c1;refine bj;have hcs:ag (λb=>b=g) wr (wr.setCells g (d*4) zs):=bA zs _ _;exact zq75
 .have hxs:=tN (p:=p) (l:=xs) (λj hj=>hp j hj hj)
  exact F7
theorem tA(fv:Value)(w:World):az 306 #[.slice none 0 0,fv] w λe w'=>e=aA (JI (-1))/\w'=w:=by go_enter func306,ntmps306;exact F6
theorem DS(fv:Value)(w:World):az 278 #[.slice none 0 0,fv] w λe w'=>e=aA (.slice none 0 0)/\w'=w:=by go_enter func278,ntmps278;refine ay;refine(tA _ _).mono ?_;exact uW
end
end Go.Proofs.YtnpancjkjheffaaGreat
