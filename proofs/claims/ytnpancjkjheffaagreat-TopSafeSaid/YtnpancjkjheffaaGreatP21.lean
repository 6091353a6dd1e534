/- Part 23 of the proof of TopSafe. No condition. -/
import Derived.Test.YtnpancjkjheffaaGreatP20
namespace Go.Proofs.YtnpancjkjheffaaGreat
set_option linter.unusedVariables false
set_option linter.unusedSimpArgs false
set_option maxRecDepth 100000
set_option maxHeartbeats 8000000
open Go.RowKit
open Go.Proofs.Tryz
open _root_.And renaming intro->PI
open World renaming alloc->Xa0,ownsRow_nil->Xa1,cell?_of_block->Xa2,setCell->Xa3
open _root_.Nat renaming le_trans->Xa4,le_refl->Xa5,lt_of_lt_of_le->Xa6
open _root_.List renaming replicate->Xa7,getElem?_eq_none->Xa8,length_pos_iff->Xa9,getElem_of_mem->Xb0,map_append->Xb1,length_map->Xb2,length->Xb3
open Go renaming bounds_u8->Xb4,bounds_u32->Xb5,bounds_u64->Xb6,bounds_u16->Xb7
open _root_.List.Pairwise renaming nil->Xb8
open _root_.Int renaming le_refl->Xb9
variable {cm i ing s sl wd:Int}{es:List Ev}{l:List qP}{b c cap j n:Nat}{A:Option Addr}{w:World}{z:Ws}
abbrev No:Nat->Prop:=λ_=>False
abbrev Hk(n sl:Nat):Cs:=⟨[],[],⟨[],[],[]⟩,none,0,[],[],Xa7 sl (RO (.pointer none)),0,Xa7 n ⟨0,0,false⟩,[],λ_=> [],[],Xa7 n 0⟩
def Wk.fresh(x:Wk)(L:Nat):Prop:=x.L=L/\x.pk=[]/\x.tb=none/\x.now=none/\x.nx=none/\x.ph=0/\x.came=[]/\x.asked=[]/\x.c4=0
def NewE(w:World)(n ni nw nk sl cm ing:Nat)(cf:Cf)(e:Ending)(w':World):Prop:=∃Y X z,e=aA (.tuple #[OV Y.W,JI 0])/\bn w' Y X No 0 0 z/\(Y.w0=w/\Y.b=w.heap.size)/\(X.n=n/\X.li=ni/\X.win=nw/\X.room=cm/\X.G.keep=nk/\X.G.cf=cf/\X.G.intake=ni/\Y.cmds=cm)/\z.c=Hk n sl/\(∀x∈z.wk,x.fresh ing)/\z.dn=[]/\z.ev=[]
abbrev XX(w:World)(n ni nw nk cm:Nat)(cf:Cf)(A1 P2 P3 L1 L2 QA RA LA:Nat)(q r:Nat->Nat)(C Q R T M MS B:Nat):Cx:=⟨C,⟨n,ni,nw,nk,cf,A1,P2,P3,Q,T,MS⟩,R,L2,L1,QA,RA,LA,q,r,M,n,cm,ni,nw,B,w.heap.size⟩
structure QP(b lo:Nat)(wr:World)(K:Kw)(ing k:Nat)(vw:Value)(l:List Wk):Prop where
 n:l.length=k
 row:wr.ownsRow b 89 1 vw k (l.map λx=>OV x.W)
 at':∀x∈l,aL wr 0 No K x/\x.fresh ing/\∀j,x.own j->lo<=j
 sh:∀ (i:Nat) (h:i<l.length),l[i].sh=i
 ap:l.Pairwise λx y=>∀j,x.own j->¬y.own j
theorem info89:(prog.info? 89).map (λi=>(i.zero,i.size,i.bytes))=some (some (.pointer none),1,8):=kM
theorem aH.low{B B' P QA RA LA room:Nat}{q r:Nat->Nat}{tabs:Nat->List Value}{acks:List (Int×Int)}{last:List Int}(h:aH w B P QA RA LA n q r room tabs acks last)(hb:B'<=B):aH w B' P QA RA LA n q r room tabs acks last:=by obtain⟨v,hp,hr⟩:=h.p;have h1:=h.b;exact⟨⟨v,hp,aW hr hb⟩,h.ak,h.la,h.ll,h.n0,h.n1,h.tq,h.qi,oM,oM,oM,oM,λi hi=>by have:=h1.2.2.2.2 i hi;omega⟩
section
variable {w w' wr u:World}{b lo ing k:Nat}{K:Kw}{vw:Value}{l:List Wk}
theorem QP.chg{S:Nat->Prop}{ms:Nat->Prop}(h:QP b lo wr K ing k vw l)(hc:ag S wr w')(hS:eF (89::Ct) ms wr S)(hm:∀x∈l,ms x.cm/\ms x.am):QP b lo w' K ing k vw l:=
 ⟨h.n,ah h.row hc hS.off,λx hx=>⟨(h.at' x hx).1.apt (λ_ q=>q.elim) hc (hS.mono sM λ_ q=>q) (λ_ q=>q.elim) (hm x hx).1 (hm x hx).2,(h.at' x hx).2⟩,h.sh,h.ap⟩
theorem QP.non(h:QP b lo wr K ing k vw l)(hc:ag af wr w'):QP b lo w' K ing k vw l:=h.chg (ms:=λ_=>True) hc gx λ_ _=>⟨trivial,trivial⟩
theorem QP.snoc{v1:Value}{w3:World}{x:Wk}(h:QP b lo wr K ing k vw l)(hx:aL wr 0 No K x)(hf:x.fresh ing)(hs:x.sh=k)(ho:∀j,x.own j->lo<=j)(ha:∀y∈l,∀j,y.own j->¬x.own j)(hr:w3.ownsRow b 89 1 v1 (k+1) ((l.map λx=>Value.pointer (some ⟨x.W,0,none⟩))++ [OV x.W]))(hc:ag (λi=>vw.ownBlock=some i) wr w3):QP b lo w3 K ing (k+1) v1 (l++ [x]):=by
 have hS:eF Ct (λ_=>True) wr (λi=>vw.ownBlock=some i):=λj _ q=>by obtain⟨c,e⟩:=bG h.row q;exact .inl ⟨c,_,e,dM⟩
 have hk:∀y,aL wr 0 No K y->aL w3 0 No K y:=λy q=>q.apt (ms:=λ_=>True) (λ_ q=>q.elim) hc hS (λ_ q=>q.elim) trivial trivial
 refine⟨by simp[h.n],by rw[Xb1];exact hr,λy hy=>?_,λi hi=>?_,List.pairwise_append.2 ⟨h.ap,sM,λy hy z hz=>by rw[List.mem_singleton.1 hz];exact ha y hy⟩⟩
 .refine zm
  .exact⟨hk y (h.at' y q).1,(h.at' y q).2⟩
  .refine iH
   exact⟨hk x hx,hf,ho⟩
 .by_cases hlt:i<l.length
  .rw[List.getElem_append_left hlt]
   exact h.sh i hlt
  .have e:i=l.length:=by simp at hi;omega
   subst e;rw[List.getElem_append_right (Xa5 _)];simp[hs,h.n]
theorem ld_pre{ops:Array Oper}{S:World->Prop}{op:Oper}{a:Act}{E:Nat}{cs:Array Value}{ty t:TypeId}{d:TypeDesc}(l r:List Value)(x:Operand)(hS:∀w,S w->w.heap[E]?=OC cs t)(hp:cs.toList=l++r)(hu:prog.underlying ty=some d)(hgd:op.guard=none:=by rfl)(ho:op.op=.load ty x:=by rfl)(hx:a.eval x=OV E:=by rfl)(hd:d.isRow=true:=by rfl)(hi:(prog.info? ty).map (·.size)=some l.length:=by kernel_rfl):YieldsIf prog ops S op (.agg l.toArray) a:=
 yieldsIf_load_mid (by simp[Region.wanted,hgd]) ty x ho E 0 hx l d (λw hw j v hv=>by have h1:=(ab (hS w hw)).1 (0+j);rw[h1,←Array.getElem?_toList,hp,Nat.zero_add,List.getElem?_append_left (List.getElem?_eq_some_iff.1 hv).1];exact hv) hu hd hi
theorem Gn{ni nw nk sl cm:Nat}{cf:Cf}(hn:1<=n/\n<=4)(hni:1<=ni/\ni<=9)(hnw:1<=nw/\nw<=30)(hnk:1<=nk/\nk<=9)(hsl:1<=sl/\sl<=9)(hcm:1<=cm/\cm<=4)(hing:1<=ing/\ing<=9)(ha:ja cf.people 1 16=true)(hb:ja cf.tracks 1 16=true)(hc:ja cf.subs 1 16=true)(hs:ja cf.slots 1 64=true) :
  az 7 #[.agg #[JI n,JI ni,JI nw,JI nk,JI cf.people,JI cf.tracks,JI cf.subs,JI cf.slots,JI ing,JI cm,JI sl]] w (NewE w n ni nw nk sl cm ing cf):=by
 have hcn:=λW A P B=>cnew_t (w:=W) (n:=n) (ni:=ni) (nw:=nw) (nk:=nk) (A:=A) (P:=P) (B:=B) (c:=cf) oM oM oM oM oM oM oM oM ha hb hc hs
 have HCN:=OH hcn;go_enter func7,ntmps7;refine jO;have hC0:(w.alloc (.cells #[JI n,JI ni,JI nw,JI nk,JI cf.people,JI cf.tracks,JI cf.subs,JI cf.slots,JI ing,JI cm,JI sl] 32)).heap[w.heap.size]?=OC #[JI n,JI ni,JI nw,JI nk,JI cf.people,JI cf.tracks,JI cf.subs,JI cf.slots,JI ing,JI cm,JI sl] 32:=bZ;have hG:ag af w (w.alloc (.cells #[JI n,JI ni,JI nw,JI nk,JI cf.people,JI cf.tracks,JI cf.subs,JI cf.slots,JI ing,JI cm,JI sl] 32)):=bu;refine qp;obtain⟨Cb,hb0⟩:∃Cb,w.heap.size=Cb:=⟨_,rfl⟩
 rw[hb0]at hC0 ⊢;have HB0:=OH hb0;refine rl 12 (λw'=>Bk w' Cb #[JI n,JI ni,JI nw,JI nk,JI cf.people,JI cf.tracks,JI cf.subs,JI cf.slots,JI ing,JI cm,JI sl] 32) (λw0_ hc0=>?_);have hC0:=ae hc0 hC0 id;refine oH;refine Ak;refine qG;refine tk 2 ?_;refine tk 4 ?_;refine mj;refine on 3 λK hK=>?_
 go_simp;refine(new_d sl sl rfl w0_ hsl.1 oM).mono ?_;rintro r' w1_ ⟨A1,L1,rfl,hA,hA1,hL1,hbq⟩;refine qA;have hA1:w.heap.size<=A1:=Xa4 hG.size hA1;have hL1:w.heap.size<=L1:=Xa4 hG.size hL1;have hC0:=ae hc1 hC0 id;refine qj;refine sA;refine lU;refine(IT n n rfl hn.1 hn.2 w1_).mono ?_;rintro r' w2_ ⟨P2,L2,rfl,hP,hbq⟩;have hc2:ag af w1_ w2_:=.of hbq;have hP:br w2_ w.heap.size P2 L2 (Xa7 n ⟨0,0,false⟩) []:=hP.low hG.size;have hC0:=ae hc2 hC0 id;have hG:=ag.trans hG hc2;have hA:=At.chg (S:=af) hA hc2 id id;refine sA;refine kB;refine(bnew_t n cm n cm rfl rfl hn.1 hn.2 hcm.1 oM w2_).mono ?_;rintro r' w3_ ⟨P3,QA,RA,LA,q,r,rfl,hB,hbq⟩;have hc3:ag af w2_ w3_:=.of hbq;have hB:aH w3_ w.heap.size P3 QA RA LA n q r cm (λ_=> []) [] (Xa7 n 0):=hB.low hG.size;have hC0:=ae hc3 hC0 id;have hG:=ag.trans hG hc3;have hA:=At.chg (S:=af) hA hc3 id id;have hP:=hP.below hc3.none;refine sA;refine tk 10 ?_;refine on 11 ?_;refine oa (λW w4_ hW hc4 hlW=>?_);have hWl:=Xa4 hG.size hlW;have hC0:=ae hc4 hC0 id;have hG:=ag.trans hG hc4;have hA:=At.chg (S:=af) hA hc4 id id;have hP:=hP.below hc4.none;have hB:=hB.below hc4.none;refine uN;refine je;refine iI;refine rl 18 (λw'=>Bk w' Cb #[JI n,JI ni,JI nw,JI nk,JI cf.people,JI cf.tracks,JI cf.subs,JI cf.slots,JI ing,JI cm,JI sl] 32/\Bk w' W #[JI n,JI ni,JI nw,JI nk,JI cf.people,JI cf.tracks,JI cf.subs,JI cf.slots,JI ing,JI cm,JI sl,OV A1,OV P2,OV P3,.pointer none,.slice none 0 0,.slice none 0 0,.slice none 0 0] 87) (λw0_ hc0=>?_);have hC0:=ae hc0 hC0 id;refine yW;have hA:=At.chg (S:=af) hA hc0 id id;have hP:=hP.below hc0.none;have hB:=hB.below hc0.none;refine oH;refine vy;refine qG;refine tk 2 (hy:=ld_pre (E:=Cb) (t:=32) (cs:=#[JI n,JI ni,JI nw,JI nk,JI cf.people,JI cf.tracks,JI cf.subs,JI cf.slots,JI ing,JI cm,JI sl]) [JI n,JI ni,JI nw,JI nk,JI cf.people,JI cf.tracks,JI cf.subs,JI cf.slots] _ (.tmp 24) (λ_ q=>q.1.1) rfl underlying30) ?_;refine tk 3 ?_;refine ze;refine mj;refine oF;refine Fi;have hLA:=(ab hB.la).2.2;have hWl0:=hWl;have hWs:=(ab hW).2.2;refine(HCN.out _ A1 P2 P3).mono ?_;rintro r' w1_ ⟨C,Q,R,T,M,MS,cur,rfl,hC,hQ,hT,hMS,l1,l2,l3,l4,hne,hbq⟩;refine qA;have hC0:=ae hc1 hC0 id;have hW:=ae hc1 hW id;have hA:=At.chg (S:=af) hA hc1 id id;have hP:=hP.below hc1.none;have hB:=hB.below hc1.none;refine qj;refine iT;refine zj;refine je;have hct:bh w1_ (XX w n ni nw nk cm cf A1 P2 P3 L1 L2 QA RA LA q r C Q R T M MS w0_.heap.size) No 0 (Hk n sl):=by
  have hz0:w.heap.size<=w0_.heap.size:=by have:=hWs;have:=hWl0;omega
  have hz1:=hc1.size;have hbT:=hT.bT;have hbM:=hT.bM;exact⟨⟨.slice none 0 0,.slice none 0 0,.slice none 0 0,none,0,w.heap.size,hC,⟨Xa1 _ _ _ _,⟨[],Xa1 _ _ _ _,rfl,λi a b=>absurd a sM⟩,Xa1 _ _ _ _⟩,Bi _ _ _,λp hp=>(by cases hp),sM,sM⟩,⟨0,cur,hQ⟩,λx hx=>(by cases hx),hT,hMS,hA,hP,hB,λx hx=>(by cases hx),λi _ t ht=>(by cases ht),λj (q:False)=>q.elim,⟨id,id,hne⟩,⟨rfl,hn.1,hn.2,hLA,hz1,sM⟩,
   ⟨⟨Xa4 hz0 l1,Nat.lt_of_le_of_lt hWl0 hWs⟩,⟨Xa4 hz0 l2,Xa4 hz0 l3⟩,⟨hA1,hL1⟩,Xa4 hz0 hbT,Xa4 hz0 hbM,Xa4 hz0 l4⟩⟩
 generalize hX:(XX w n ni nw nk cm cf A1 P2 P3 L1 L2 QA RA LA q r C Q R T M MS w0_.heap.size)=X at *;have HXX:=OH (show X.b=w.heap.size/\X.C=C/\X.G=⟨n,ni,nw,nk,cf,A1,P2,P3,Q,T,MS⟩/\X.n=n/\X.li=ni/\X.win=nw/\X.room=cm from by subst hX;exact⟨rfl,rfl,rfl,rfl,rfl,rfl,rfl⟩);have h87:=hct.apt (w':=w1_.setCell ⟨W,14,none⟩ (OV C)) (S:=λj=>j=W) (ag.set (S:=λj=>j=W) dp ⟨W,14,none⟩ (.inl rfl) _) (eF.one hW rM);have hW3:(w1_.setCell ⟨W,14,none⟩ (OV C)).heap[W]?=OC (IG ⟨n,ni,nw,nk,cf,A1,P2,P3,Q,T,MS⟩ ⟨W,C,ing,cm,sl,.slice none 0 0,.slice none 0 0,w.heap.size,w,λ_ _=>False⟩ (.slice none 0 0)) 87:=av _ _ hW;have hC3:(w1_.setCell ⟨W,14,none⟩ (OV C)).heap[Cb]?=OC #[JI n,JI ni,JI nw,JI nk,JI cf.people,JI cf.tracks,JI cf.subs,JI cf.slots,JI ing,JI cm,JI sl] 32:=bZ;have hG3:ag af w (w1_.setCell ⟨W,14,none⟩ (OV C)):=hG.set _ (.inr hWl) _;generalize Xa3 _ _ _=ub at *;have HCT:=OH h87;have HWL:=OH hWl;have HLM:=OH (PI h87.se.lt h87.seen.map.lt);refine qw;obtain⟨cC,fC,zC⟩:=ab hC3;obtain⟨i0,hi,hz0,hz1,hz2⟩:=aI info89;have HG3:=OH hG3;have HW3:=OH hW3;have HC3:=OH hC3;refine ay;go_loopw [6,7,47] (λ_ _ i wr=>∃ (k:Nat) (l:List Wk) (vw:Value),k<=n/\i=JI k/\wr.heap[W]?=OC (IG ⟨n,ni,nw,nk,cf,A1,P2,P3,Q,T,MS⟩ ⟨W,C,ing,cm,sl,vw,.slice none 0 0,w.heap.size,w,λ_ _=>False⟩ (.slice none 0 0)) 87/\wr.heap[Cb]?=OC #[JI n,JI ni,JI nw,JI nk,JI cf.people,JI cf.tracks,JI cf.subs,JI cf.slots,JI ing,JI cm,JI sl] 32/\bh wr X No 0 (Hk n sl)/\QP w.heap.size ub.heap.size wr ⟨A1,P2,P3⟩ ing k vw l/\ag af w wr/\ub.heap.size<=wr.heap.size) (λ_ _ i _=>n- (intOf i).toNat);case atStart=>exact⟨0,[],.slice none 0 0,oM,rfl,HW3.out,HC3.out,HCT.out,⟨rfl,Xa1 _ _ _ _,λx hx=>(by cases hx),λi hi=>absurd hi sM,.nil⟩,HG3.out,Xa5 _⟩
 case round=>
  obtain⟨k,l,vw,hk,rfl,hW,hC,hct,hwk,hG,hL⟩:=hrel;obtain⟨A,cap,rfl⟩:=aj hwk.row;by_cases hlt:k<n
  .refine eP
   refine nN;refine qn;refine rl 16 (λw'=>Bk w' W (IG ⟨n,ni,nw,nk,cf,A1,P2,P3,Q,T,MS⟩ ⟨W,C,ing,cm,sl,.slice A k cap,.slice none 0 0,w.heap.size,w,λ_ _=>False⟩ (.slice none 0 0)) 87/\Bk w' Cb #[JI n,JI ni,JI nw,JI nk,JI cf.people,JI cf.tracks,JI cf.subs,JI cf.slots,JI ing,JI cm,JI sl] 32) (λw0_ hc0=>?_);refine yW;have hC:=ae hc0 hC id;have hct:=hct.below hc0.none;have hwk:=hwk.non hc0;refine oH;refine vy;refine rP;refine Fi;have hwk0:=hwk;have hL0:ub.heap.size<=w0_.heap.size:=Xa4 hL hc0.size;refine(wnew_t (M:=No) (A:=A1) (P:=P2) (B':=P3) k ing _ _ rfl rfl oM oM oM (λj q=>q.elim)).mono ?_;rintro r' w1_ ⟨x,rfl,hx,hxf,hxo,hbq⟩;refine qA;have hW:=ae hc1 hW id;have hC:=ae hc1 hC id;have hct:=hct.below hc1.none;have hwk:=hwk.non hc1;refine qj;refine iT;refine je;have hO2:=dz (o:=.cells #[OV x.W] 89) hwk.row;have hln:=hwk.n;have hsz0:=hG.size;have hsz:=(hG.alloc (.cells #[OV x.W] 89)).size;refine eP;go_wp2_with (at_builtin;refine wpList_append_own _ rfl (.tmp 72) (.tmp 74) 84 rfl w.heap.size 89 i0 _ 1 8 underlying84 hi hz0 hz1 hz2 rfl dM _ _ _ rfl hO2 ⟨w1_.heap.size,0,none⟩ 1 1 [OV x.W] rfl rfl (fy rfl) oe lM oM xM ?_;intro v3 w3 hown3 hgrow3 _;obtain⟨A3,cap3,rfl⟩:=aj hown3;have hW9:=aV hO2 hgrow3 (ai hW) dM;obtain⟨cW,fW,zW⟩:=ab hW9)
   have hcg:ag (λi=>(Value.slice A k cap).ownBlock=some i) w1_ w3:=ag.grown (v:=.slice A k cap) im hgrow3 (λi hi _=>hi);have hfr:x.fresh ing:=hxf.2;have hw4:=hwk.snoc hx hfr hxf.1 (λj q=>Xa4 hL0 (hxo j q)) (λy hy j q1 q2=>by have:=(hwk0.at' y hy).1.own_lt q1;have:=hxo j q2;omega) hown3 hcg;have hA9:eF (89::Ct) (λ_=>True) w3 (λj=>j=W):=eF.one hW9 rM;have hs9:ag (λj=>j=W) w3 (w3.setCell ⟨W,15,none⟩ (.slice A3 (k+1) cap3)):=ag.set (S:=λj=>j=W) dp ⟨W,15,none⟩ (.inl rfl) _;have hct9:=(hct.apt hcg (λj _ q=>by obtain⟨c,e⟩:=bG hwk.row q;exact .inl ⟨c,_,e,rM⟩)).apt hs9 (eF.one hW9 rM);have hC9:=aV hO2 hgrow3 (ai hC) dM;have hG9:ag af w (w3.setCell ⟨W,15,none⟩ (.slice A3 (k+1) cap3)):=(hG.call hcg λj hj q=>absurd (eV hwk.row j q) oM).set _ (.inr HWL.out) _;have hle:=hs9.size;have hle2:=hcg.size;go_roundw;case rel=>exact⟨k+1,l++ [x],.slice A3 (k+1) cap3,oM,eT,av _ _ hW9,jH hs9 hW9 hC9,hct9,hw4.chg hs9 hA9 (λ_ _=>⟨trivial,trivial⟩),hG9,Xa4 hL0 (Xa4 hc1.size (Xa4 hle2 hle))⟩
   case measure=>exact di
  .have hkl:k=n:=oM
   subst hkl;refine eP;refine df;obtain⟨x1,x2,x3,x4,x5,x6,x7⟩:=HXX.out;have hGM:X.G.M<ub.heap.size:=HLM.out.1;have hDM:X.DM<ub.heap.size:=HLM.out.2;have hlb:w.heap.size<=ub.heap.size:=HG3.out.size;refine⟨⟨W,C,ing,cm,sl,.slice A k cap,.slice none 0 0,w.heap.size,w,λ_ _=>False⟩,X,⟨Hk k sl,l,[],[]⟩,rfl,?_,⟨rfl,rfl⟩,⟨x4,x5,x6,x7,by rw[x3],by rw[x3],by rw[x3],rfl⟩,rfl,λx hx=>(hwk.at' x hx).2.1,rfl,rfl⟩;refine⟨hct,⟨.slice none 0 0,by rw[x3];exact hW,Xa1 _ _ _ _,λv hv=>(by cases hv),HWL.out⟩,x2.symm,?_,λx hx=>by rw[x3];exact(hwk.at' x hx).1,by rw[x4];exact hwk.n,hwk.sh,hwk.ap,λx hx=>⟨λq=>absurd ((hwk.at' x hx).2.2 _ q) oM,λq=>absurd ((hwk.at' x hx).2.2 _ q) oM⟩,λd hd=>(by cases hd),.nil,λd hd=>(by cases hd),λi hi q=>?_,x1.symm,λx hx j q=>Xa4 hlb ((hwk.at' x hx).2.2 j q),λd hd=>(by cases hd),⟨hG.none,Xa5 _⟩,λj c q=>q.elim⟩
   .have:=aW hwk.row kn
    rw[hwk.n];exact this
   .simp only[Hk,List.getElem_replicate]at q
    cases q
end
section
variable {w:World}{Y:Yx}{X:Cx}{M:Nat->Prop}{z:Ws}{n sl ing:Nat}
theorem OT(hX:ox X)(h:bn w Y X M 0 0 z)(hn:X.n=n)(hsl:sl<=9)(cf:0<=X.G.cf.people/\0<=X.G.cf.tracks/\0<=X.G.cf.slots)(hc:z.c=Hk n sl)(hw:∀x∈z.wk,x.fresh ing)(he:z.ev=[]):d6 X ing sl 0 0 0 z:=by
 have hwl:=h.wl;have hwi:=h.wi;have hwin:=hX.win;obtain⟨c,wk,dn,ev⟩:=z;dsimp only at hc hw he hwl hwi;subst hc he hn;refine⟨⟨⟨?_,?_,?_,⟨Xb9 0,Xb9 0⟩,(λT hT=>by cases hT),by simpa using hsl,⟨Dd.ok_nil _,oM,λx=>(by decide:(⟨#[]⟩:ByteArray).size<=9)⟩,sM,sM,(λT hT=>by cases hT)⟩,λx hx=>?_,sM,hwi,hwl⟩,λx hx=>(hw x hx).1,sM,sM,sM,by simp[dF]⟩
 .exact⟨Xb8,Xb8,Xb8,by simpa using cf.1,by simpa using cf.2.1,by simpa using cf.2.2,sM,sM,Xb8,sM⟩
 .exact⟨sM,sM,sM,sM⟩
 .refine⟨sM,sM,by simp[bD],sM,sM,λx hx=>?_,sM⟩
  rw[(List.mem_replicate.1 hx).2];simp[RO]
 .refine Ay
  obtain⟨_,_,h3,h4,h5,h6,_,_,h9⟩:=hw _ hx;have hs:=hwi i hi;have hi':i<wk.length:=hi;refine⟨⟨⟨0,0,false⟩,?_,by rw[h3];rfl,λ_=>rfl,(λj hj=>by rw[h4]at hj;cases hj)⟩,(λT hT=>by rw[h3]at hT;cases hT),(λj hj=>by rw[h4]at hj;cases hj),.inl h6,(λq=>by rw[h6]at q;cases q),(λT hT=>by simp at hT),sM,h9⟩;rw[hs];exact List.getElem?_replicate_of_lt oM
end
def wB(w:World)(A:Option Addr)(l:List qP):Prop:=∀i (hi:i<l.length),∃g o,A=some ⟨g,o,none⟩/\g<w.heap.size/\∀j v,(Ci l[i])[j]?=some v->w.cell? ⟨g,o+i*23+j,none⟩=some v
theorem wB.below{w':World}(h:wB w A l)(hb:aC w w'):wB w' A l:=λi hi=>by obtain⟨g,o,h1,h2,h3⟩:=h i hi;exact⟨g,o,h1,Xa6 h2 hb.size,λj v q=>(Xa2 (hb.block g h2)).trans (h3 j v q)⟩
def Tw(s:qP):Prop:=s.q.ss.length<=6/\s.p.cs.length<=4/\s.p.xs.length=0/\s.p.zs.length<=60/\s.p.pad<=60/\s.sq.length<=20/\s.rz.length<=100
theorem Tv(s:qP):(decide ((6:Int)<(s.q.ss.length:Int))=false/\decide ((4:Int)<(s.p.cs.length:Int))=false/\decide (0<s.p.xs.length)=false/\decide ((60:Int)<(s.p.zs.length:Int))=false/\decide (60<s.p.pad)=false/\decide ((20:Int)<(s.sq.length:Int))=false/\decide ((100:Int)<(s.rz.length:Int))=false) \/
  (decide ((6:Int)<(s.q.ss.length:Int))=false/\decide ((4:Int)<(s.p.cs.length:Int))=false/\decide (0<s.p.xs.length)=false/\decide ((60:Int)<(s.p.zs.length:Int))=false/\decide (60<s.p.pad)=false/\decide ((20:Int)<(s.sq.length:Int))=false/\decide ((100:Int)<(s.rz.length:Int))=true) \/
  (decide ((6:Int)<(s.q.ss.length:Int))=false/\decide ((4:Int)<(s.p.cs.length:Int))=false/\decide (0<s.p.xs.length)=false/\decide ((60:Int)<(s.p.zs.length:Int))=false/\decide (60<s.p.pad)=false/\decide ((20:Int)<(s.sq.length:Int))=true) \/
  (decide ((6:Int)<(s.q.ss.length:Int))=false/\decide ((4:Int)<(s.p.cs.length:Int))=false/\decide (0<s.p.xs.length)=false/\decide ((60:Int)<(s.p.zs.length:Int))=false/\decide (60<s.p.pad)=true) \/
  (decide ((6:Int)<(s.q.ss.length:Int))=false/\decide ((4:Int)<(s.p.cs.length:Int))=false/\decide (0<s.p.xs.length)=false/\decide ((60:Int)<(s.p.zs.length:Int))=true) \/
  (decide ((6:Int)<(s.q.ss.length:Int))=false/\decide ((4:Int)<(s.p.cs.length:Int))=false/\decide (0<s.p.xs.length)=true) \/
  (decide ((6:Int)<(s.q.ss.length:Int))=false/\decide ((4:Int)<(s.p.cs.length:Int))=true)\/decide ((6:Int)<(s.q.ss.length:Int))=true:=by
 simp only[decide_eq_false_iff_not,decide_eq_true_eq];omega
def FewE(w:World)(l:List qP)(e:Ending)(w':World):Prop:=∃b,e=aA (.bool b)/\(b=true->l.length<=400/\∀s∈l,Tw s)/\ag af w w'
section
variable {w w' u:World}{b:Nat}{s:qP}
theorem few_t(h:wB w A l)(hm:l.length<=maxLen):az 5 #[.slice A l.length cap] w (FewE w l):=by
 refine bI;have hm':=hm;unfold maxLen at hm';clear h hm;go_enter func5,ntmps5;refine ay;go_loopw [3,4] (λi _ wr=>∃k:Nat,k<=l.length/\i=JI k/\(∀j (hj:j<l.length),j<k->Tw l[j])/\ag af w wr) (λi _ _=>l.length- (intOf i).toNat);case atStart=>exact⟨0,oM,rfl,λj _ q=>absurd q oM,ag.refl _ _⟩
 case round=>
  obtain⟨k,hk,rfl,hf,hc⟩:=hrel;refine kt;refine nE;clear hf hc;refine rO
  .obtain⟨g,o,rfl,hg,hcl⟩:=(H.out.below HC.out.none) k hlt
   have c0:=λj v q=>hcl j v q
   obtain⟨s,hs⟩:∃s,s=l[k]:=⟨_,rfl⟩
   rw[←hs]at c0 hcl;refine jM;clear hs;have k8:=c0 8 _ rfl;have k11:=c0 11 _ rfl;have k12:=c0 12 _ rfl;have k13:=c0 13 _ rfl;have k14:=c0 14 _ rfl;have k15:=c0 15 _ rfl;have k16:=c0 16 _ rfl;have k17:=c0 17 _ rfl;have k18:=c0 18 _ rfl;have k19:=c0 19 _ rfl;have k21:=c0 21 _ rfl;have k22:=c0 22 _ rfl;have hzw:=HC.out.size;clear c0 hcl;refine gq;refine sj;have hV:u.heap[wr.heap.size]?=OC (ij s.p).toArray 58:=jn
   have hcu:ag af wr u:=lT
   have m8:u.cell? ⟨g,o+k*23+8,none⟩=_:=(Xa2 (hcu.none.block g hg)).trans k8;have m21:u.cell? ⟨g,o+k*23+21,none⟩=_:=(Xa2 (hcu.none.block g hg)).trans k21;have m22:u.cell? ⟨g,o+k*23+22,none⟩=_:=(Xa2 (hcu.none.block g hg)).trans k22;have HCU:=OH (HC.out.trans hcu);clear hu hcu k8 k11 k12 k13 k14 k15 k16 k17 k18 k19 k21 k22 hzw hg;generalize wr.heap.size=V at *;refine qu;rcases Tv s with⟨f1,f2,f3,f4,f5,f6,f7⟩|⟨f1,f2,f3,f4,f5,f6,f7⟩|⟨f1,f2,f3,f4,f5,f6⟩|⟨f1,f2,f3,f4,f5⟩|⟨f1,f2,f3,f4⟩|⟨f1,f2,f3⟩|⟨f1,f2⟩|f1;case inl=>
    have HW:=OH (show Tw s from by simp only[decide_eq_false_iff_not]at f1 f2 f3 f4 f5 f6 f7;exact⟨oM,oM,oM,oM,oM,oM,oM⟩)
    refine ay;refine⟨⟨k+1,oM,eT,λj hj q=>?_,HCU.out⟩,by simp[intOf];omega⟩;rcases Nat.lt_or_eq_of_le (Nat.le_of_lt_succ q)with q2|rfl
    .exact HF.out j hj q2
    .exact HS.out ▸ HW.out
   all_goals(
    go_wp2_with fail;go_ret;exact⟨false,rfl,λq=>absurd q dM,HCU.out⟩)
  .have hkl:k=l.length:=oM
   refine mq;exact⟨_,rfl,λq=>⟨by simp at q;omega,λs hs=>by obtain⟨j,hj,rfl⟩:=Xb0 hs;exact HF.out j hj hj⟩,HC.out⟩
end
structure StB(w:World)(s:qP):Prop where
 id:0<=s.id/\s.id<2 ^ 64
 ss:0<=s.ssrc/\s.ssrc<=4294967295
 q:bd w s.qa .u32 s.q.ss/\(s.qa=none->s.qc=0)/\s.q.ss.length<=s.qc/\∀z∈s.q.ss,0<=z/\z<4294967296
 pn:(0<=s.p.ty/\s.p.ty<=255)/\(0<=s.p.seq/\s.p.seq<=65535)/\(0<=s.p.time/\s.p.time<=4294967295)/\(0<=s.p.ssrc/\s.p.ssrc<=4294967295)/\ -9223372036854775808<=s.p.pad/\s.p.pad<=9223372036854775807
 cs:bd w s.p.a1 .u32 s.p.cs/\(s.p.a1=none->s.p.c1=0)/\∀z∈s.p.cs,0<=z/\z<=4294967295
 xs:s.p.a2=none->s.p.c2=0
 zs:bd w s.p.a3 .u8 s.p.zs/\(s.p.a3=none->s.p.c3=0)/\aG s.p.zs
 sq:bd w s.sa .u16 s.sq/\(s.sa=none->s.sc=0)/\s.sq.length<=s.sc/\∀z∈s.sq,0<=z/\z<65536
 r:bd w s.ra .u8 s.rz/\(s.ra=none->s.rc=0)/\s.rz.length<=s.rc/\aG s.rz
section
variable {w w':World}{s:qP}{b:Nat}
theorem StB.ok(h:StB w s)(hf:Tw s)(hb:aC w w')(hle:w.heap.size<=b):p9 w' b s:=by
 obtain⟨f1,f2,f3,f4,f5,f6,f7⟩:=hf;have hx:s.p.xs=[]:=List.eq_nil_of_length_eq_zero f3;refine⟨h.id,h.ss,⟨h.q.1.below rfl hb,h.q.2.1,h.q.2.2.1,oM,h.q.2.2.2⟩,⟨⟨h.pn.1,h.pn.2.1,h.pn.2.2.1,h.pn.2.2.2.1,oM,oM,oM,h.pn.2.2.2.2⟩,?_,?_,by rw[hx];simp,fk (h.zs.1.below rfl hb) h.zs.2.1,h.zs.2.2⟩,⟨h.sq.1.below rfl hb,h.sq.2.1,h.sq.2.2.1,f6,h.sq.2.2.2⟩,⟨h.r.1.below rfl hb,h.r.2.1,h.r.2.2.1,λg off e hn=>?_⟩,h.r.2.2.2,f7⟩
 .refine⟨fk (h.cs.1.below rfl hb) h.cs.2.1,h.cs.2.2,λad e hn=>?_⟩
  obtain⟨g,o,e2,_⟩:=h.cs.1 0 (Xa9.2 hn);rw[e]at e2;exact⟨g,o,Option.some.inj e2⟩
 .rw[hx]
  exact⟨⟨λe=>⟨rfl,h.xs e⟩,λad _ j u hu=>by simp at hu⟩,rfl,λ_ _ q=>absurd rfl q⟩
 .obtain⟨g',o,e2,hl,_⟩:=h.r.1 0 (Xa9.2 hn)
  rw[e]at e2;cases e2;exact .inl (Xa6 hl hle)
end
section
variable {w w':World}{Y:Yx}{X:Cx}{M:Nat->Prop}{N m k ing sl:Nat}{z:Ws}{P:Nat->Array Value->Prop}
theorem bn.kpx(h:bn w Y X M N m z)(hp:∀j c,P j c->w.heap[j]?=OC c 42):bn w {Y with kp:=P} X M N m z:=
 ⟨h.ct,h.ev,h.yc,h.wv,h.wk,h.wl,h.wi,h.wo,h.wm,h.dn,h.dd,h.dm,h.sl,h.yb,h.lw,h.ld,h.be,hp⟩
theorem kZ.kpx(h:kZ w Y X ing sl k z)(hp:∀j c,P j c->w.heap[j]?=OC c 42):kZ w {Y with kp:=P} X ing sl k z:=by refine iG;exact⟨M,N,m,a.kpx hp,b⟩
theorem kZ.kp(h:kZ w Y X ing sl k z):∀j c,Y.kp j c->w.heap[j]?=OC c 42:=by refine iG;exact a.kp
theorem kZ.be(h:kZ w Y X ing sl k z):Below Y.b Y.w0 w/\Y.b<=Y.w0.heap.size:=by refine iG;exact a.be
theorem kZ.sz{p t:Nat}(h:kZ w Y X ing sl k z)(hX:ox X)(hs:SzP z z.wk.length p t):z.c.inq.length<=X.li/\p<=ing/\t<=X.room/\z.c.acks.length<=X.room*X.n/\z.c.live<=sl/\(z.c.wt.length:Int)<=z.c.live/\z.c.ps.length<=X.win:=by
 refine iG;obtain⟨l1,l2,⟨l3,l4⟩,l5⟩:=b.v.c.len hX;refine⟨Pu a.ct,hs.p _ λx hx=>?_,hs.t _ λi hi=>?_,?_,?_,oM,l1⟩
 .obtain⟨_,_,hq⟩:=(a.wk x hx).q
  have:=hq.le;rw[Xb2,b.L x hx]at this;exact this
 .rw[a.wl]at hi
  obtain⟨_,_,hq⟩:=a.ct.b.tq i hi;have:=hq.le;simpa[gB]using this
 .obtain⟨_,_,hq⟩:=a.ct.b.ak
  have:=hq.le;rw[Xb2,Nat.mul_comm]at this;exact this
 .have:=b.l
  omega
theorem kZ.ev(h:kZ w Y X ing sl k z)(hk:k<=1000):z.ev.length<=1000000:=by refine iG;have:=b.e;omega
theorem kZ.st(h:kZ w Y X ing sl k z)(hk:k<=1000)(hX:ox X):az 8 #[OV Y.W] w λe w'=>∃A1 n1 A2 n2 c2 A3 n3,e=aA (.agg (gi X.G.cf (.slice A1 z.c.d.people.length n1) (.slice A2 z.c.d.tracks.length c2) (.slice A3 z.c.d.subs.length n3)))/\n2=z.c.d.tracks.length/\ag af w w':=by refine iG;obtain⟨l1,l2,l3,l4,l5,l6⟩:=b.v.c.len hX;refine(Nr a oM oM oM (λt ht=>by have:=(b.v.c.de.tr t ht).2.2.2.1;omega)).mono ?_;rintro e w' ⟨vp,vt,vs,B,rfl,hd,hc⟩;obtain⟨A1,n1,rfl⟩:=aj hd.p;obtain⟨ks,hk1,hk2⟩:=hd.t;obtain⟨A2,c2,rfl⟩:=aj hk1;obtain⟨A3,n3,rfl⟩:=aj hd.s;exact⟨A1,n1,A2,z.c.d.tracks.length,c2,A3,n3,by rw[hk2.1],rfl,hc⟩
theorem kZ.evs(h:kZ w Y X ing sl k z)(hk:k<=1000):az 9 #[OV Y.W] w λe w'=>∃A cap es,e=aA (.slice A z.ev.length cap)/\iS w w' A cap z.ev es:=by have hev:=h.ev hk;refine iG;exact pD a hev
theorem kZ.szs(h:kZ w Y X ing sl k z):az 11 #[OV Y.W] w (SzE w z):=by refine iG;exact Ns a λx hx=>(b.v.w x hx).st
theorem iS.kd{l:List Ev}(h:iS w w' A cap l es)(hj:j<l.length):∃g,A=some ⟨g,0,none⟩/\g<w'.heap.size/\w'.cell? ⟨g,j*24,none⟩=some (JI l[j].k)/\w'.cell? ⟨g,j*24+4,none⟩=some (JI l[j].e)/\w'.cell? ⟨g,j*24+1,none⟩=some (JI l[j].n)/\w'.cell? ⟨g,j*24+2,none⟩=some (JI l[j].sh)/\w'.cell? ⟨g,j*24+15,none⟩=some (JI l[j].o.n):=by
 have hj2:j<es.length:=by rw[h.n];exact hj
 obtain⟨g,e,_,hl,hc⟩:=cM ya h.r hj2;obtain⟨_,_,_,_,_,_,hs⟩:=h.s j hj hj2;have c0:=hc 0 dM;have c4:=hc 4 dM;have c1:=hc 1 dM;have c2:=hc 2 dM;have c15:=hc 15 dM;rw[hs]at c0 c4 c1 c2 c15;exact⟨g,e,hl,c0,c4,c1,c2,c15⟩
end
def vM:Nat->Rq
 |0=>RV
 |1=>QM
 |_=>NY
abbrev zq(k:Nat):List Int:=dR (dO k (vM k))
def yH(Y:Yx)(X:Cx)(wk:List Wk)(k:Nat)(w:World):Prop:=∃ps evs,bn w Y X No 0 0 ⟨{Hk 2 6 with inq:=ps},wk,[],evs⟩/\d6 X 6 6 k 0 0 ⟨{Hk 2 6 with inq:=ps},wk,[],evs⟩/\ps.length=k/\(∀ (i:Nat) (h:i<ps.length),ps[i].zs=zq i)/\evs.map Ev.k=Xa7 k 0
section
variable {w w' u:World}{Y:Yx}{X:Cx}{wk:List Wk}{k:Nat}
theorem yH.none(h:yH Y X wk k w)(hc:ag af w w'):yH Y X wk k w':=by obtain⟨ps,evs,a,b⟩:=h;exact⟨ps,evs,a.none hc,b⟩
theorem askA_t(hX:X.li=5)(h:yH Y X wk k w)(hk:k<3)(hs:LZ w Y.b A c (zq k))(hl:(zq k).length<=1000) :
  az 12 #[OV Y.W,.slice A (zq k).length c] w λe w'=>e=aA (.tuple #[])/\yH Y X wk (k+1) w'/\J0 w w':=by
 obtain⟨ps,evs,a,b,h1,h2,h3⟩:=h;have he:evs.length=k:=by have:=congrArg Xb3 h3;exact ia
 refine(NA a hs oM (fh _) gY gY).mono ?_;rintro r w' ⟨rfl,a',c',(⟨_,p,p1,p2,h',hk5⟩|⟨q,_⟩)⟩
 .refine⟨rfl,⟨ps++ [p],evs++ [uA 0 0 a' c' (zq k)],h',(b.ask (kd:=0) (inq':=ps++ [p]) (es:=[uA 0 0 a' c' (zq k)]) sM sM).1,by simp[h1],λi hi=>?_,by rw[Xb1,h3];exact(List.replicate_succ' ..).symm⟩,hk5⟩
  rw[List.getElem_append];split
  .exact h2 i _
  .next q=>simp only[List.length_append,List.length_singleton]at hi;have:i=k:=oM;subst this;simp[p2]
 .exact qv
theorem yH.aw(hX:XA X)(h:yH Y X wk 3 w)(hf:∀x∈wk,x.fresh 6):∃p0 p1 p2:Ca,(p0.zs=dR (dO 0 RV)/\p1.zs=dR (dO 1 QM)/\p2.zs=dR (dO 2 NY))/\AwW Y X [p0,p1,p2] 0 w:=by
 obtain⟨ps,evs,a,b,h1,h2,h3⟩:=h;obtain⟨p0,p1,p2,rfl⟩:∃p0 p1 p2,ps=[p0,p1,p2]:=by
  rcases ps with _|⟨p0,_|⟨p1,_|⟨p2,_|⟨p3,ps⟩⟩⟩⟩
  .simp at h1
  .simp at h1
  .simp at h1
  .exact⟨_,_,_,rfl⟩
  .simp at h1
 have hwl:=a.wl;have hwi:=a.wi;rw[hX.n]at hwl;dsimp only at hwl hwi;obtain⟨x,y,rfl⟩:∃x y,wk=[x,y]:=by
  rcases wk with _|⟨x,_|⟨y,_|⟨v,wk⟩⟩⟩
  .simp at hwl
  .simp at hwl
  .exact⟨_,_,rfl⟩
  .simp at hwl
 have s0:x.sh=0:=by simpa using hwi 0 sM
 have s1:y.sh=1:=by simpa using hwi 1 sM
 obtain⟨_,f2,f3,f4,_,f6,f7,_⟩:=hf x sM;obtain⟨_,g2,g3,g4,_,g6,g7,_⟩:=hf y sM;refine⟨p0,p1,p2,⟨h2 0 sM,h2 1 sM,h2 2 sM⟩,No,0,_,a,b,?_⟩;exact⟨rfl,rfl,⟨rfl,rfl,rfl,rfl,rfl,rfl⟩,rfl,rfl,⟨rfl,rfl⟩,rfl,rfl,⟨0,0,rfl⟩,⟨x,y,.none,rfl,⟨s0,f2,f4,f3,f6,f7⟩,⟨s1,g2,g4,g3,g6,g7⟩,λ_=>rfl⟩,h3,λd hd=>by cases hd⟩
abbrev stpq(k:Nat)(A:Option Addr)(c:Nat):qP:=⟨0,0,k,vM k,A,c,rk,0,none,0,[],none,0,[]⟩
theorem stz_ok(hk:k<3)(h:bd w A .u32 (vM k).ss/\(A=none->c=0)/\(vM k).ss.length<=c):p9 w b (stpq k A c):=by
 have hss:(vM k).ss.length<=1000/\∀z∈ (vM k).ss,0<=z/\z<4294967296:=by
  rcases k with _|_|k
  .exact⟨dM,dM⟩
  .exact⟨dM,dM⟩
  .exact⟨by simp[vM],by simp[vM]⟩
 refine⟨⟨gY,gY⟩,⟨ko,ko⟩,⟨h.1,h.2.1,h.2.2,hss⟩,⟨⟨ko,ko,ko,ko,ko,ko,ko,ko⟩,⟨J7,sM,λad e=>qR⟩,⟨J7,rfl,λad e=>qR⟩,sM,J7,pB⟩,zt90,Uv,pB,sM⟩
theorem yk(hk:k<3)(h:bd w A .u32 (vM k).ss/\(A=none->c=0)/\(vM k).ss.length<=c) :
  az 13 #[.agg (Ci (stpq k A c))] w λe w'=>∃A' c',e=aA (.slice A' (zq k).length c')/\LZ w' b A' c' (zq k)/\ag af w w':=by
 refine(Qm (stz_ok (b:=b) hk h)).mono ?_;rintro e w' ⟨A',c',zs,rfl,h1,_,_,h4,h5⟩;have:Jq (vM k)=true:=by
  rcases k with _|_|k
  .decide
  .decide
  .show Jq NY=true
   decide
 have:=h4 this;subst this;exact⟨A',c',rfl,h1,h5⟩
abbrev stpp(A:Option Addr):qP:=⟨2,0,0,rq0,none,0,{rk with a3:=A,c3:=2,zs:=[16,0] },9,none,0,[],none,0,[]⟩
theorem pacA_t(h:dV w A 2 2 [JW 16,JW 0]) :
  az 16 #[.agg (Ci (stpp A))] w λe w'=>∃A' c',e=aA (.slice A' yV.length c')/\LZ w' b A' c' yV/\ag af w w':=by
 have hok:p9 w b (stpp A):=by refine⟨⟨ko,ko⟩,⟨ko,ko⟩,zt90,⟨⟨ko,ko,ko,ko,sM,sM,sM,ko⟩,⟨J7,sM,λad e=>qR⟩,⟨J7,rfl,λad e=>qR⟩,sM,h,pB⟩,zt90,Uv,pB,sM⟩
 refine(Bs hok).mono ?_;rintro e w' ⟨A',c',zs,rfl,h1,_,_,h4,h5⟩;have:=h4 sM sM ⟨rfl,ko,rfl,rfl,rfl,sM⟩;have e2:zs=yV:=this;subst e2;exact⟨A',c',rfl,h1,h5⟩
theorem iS.mv{l:List Ev}(h:iS w w' A cap l es)(hc:ag af w' u):iS w u A cap l es:=
 ⟨h.n,h.s,λv hv=>(h.ok v hv).chg hc cy cy,ah h.r hc cy,h.c.trans hc⟩
theorem Wz.evs{T:Tb}{tn:Int}(h:Wz [0,0,0,1,2,1,2,1,2] T i tn 4 z):∃e0 e1 e2 e3 e4 e5 e6 e7 e8 e9 e10 e11,z.ev=[e0,e1,e2,e3,e4,e5,e6,e7,e8,e9,e10,e11]/\e0.k=0/\e3.k=1/\e4.k=2/\(e9.k=3/\e9.sh=1)/\e10.k=6/\e11.k=7/\e11.n=9/\e11.o.n=1:=by
 obtain⟨e9,v,l,he,hk,hv1,hv2,⟨a,b,rfl,h1,h2,h3,h4⟩⟩:=h.ev;rcases e9 with _|⟨e0,_|⟨e1,_|⟨e2,_|⟨e3,_|⟨e4,_|⟨e5,_|⟨e6,_|⟨e7,_|⟨e8,_|⟨e,q⟩⟩⟩⟩⟩⟩⟩⟩⟩⟩
 .simp at hk
 .simp at hk
 .simp at hk
 .simp at hk
 .simp at hk
 .simp at hk
 .simp at hk
 .simp at hk
 .simp at hk
 .simp only[List.map_cons,List.map_nil,List.cons.injEq]at hk
  obtain⟨k0,_,_,k3,k4,_⟩:=hk;exact⟨e0,e1,e2,e3,e4,e5,e6,e7,e8,v,a,b,he,k0,k3,k4,⟨hv1,hv2⟩,h1,h2,h3,h4⟩
 .simp at hk
end
section
variable {w w' u:World}
theorem CM(x n:Int)(h0:0<=x)(h1:x<=255)(hn:0<n)(hn2:n<=255):IntKind.u8.wrap (x.tmod n)=x % n/\0<=x % n/\x % n<n:=by have e:x.tmod n=x % n:=Int.tmod_eq_emod_of_nonneg h0;have a:=Int.emod_nonneg x (show n≠0 by omega);have c:=Int.emod_lt_of_pos x hn;rw[e];refine⟨?_,a,c⟩;rw[show IntKind.u8.wrap (x % n)=(x % n) % 256 from rfl];omega
theorem Qc{kp:Int}(h1:0<=s/\s<=255)(h2:0<=i/\i<=255)(h3:0<=wd/\wd<=255)(h4:0<=sl/\sl<=255)(h5:0<=cm/\cm<=255)(h6:0<=ing/\ing<=255)(h7:0<=kp/\kp<=255) :
  az 6 #[.agg #[JW s,JW i,JW wd,JW sl,JW cm,JW ing,JW kp]] w λe w'=>e=aA (.agg #[JI (s % 4+1),JI (i % 5+1),JI (wd % 30+1),JI (kp % 9+1),JI 6,JI 4,JI 4,JI (sl % 9+1),JI (ing % 9+1),JI (cm % 4+1),JI (sl % 9+1)])/\ag af w w':=by
 obtain⟨a1,b1,c1⟩:=CM s 4 h1.1 h1.2 dM dM;obtain⟨a2,b2,c2⟩:=CM i 5 h2.1 h2.2 dM dM;obtain⟨a3,b3,c3⟩:=CM wd 30 h3.1 h3.2 dM dM;obtain⟨a4,b4,c4⟩:=CM sl 9 h4.1 h4.2 dM dM;obtain⟨a5,b5,c5⟩:=CM cm 4 h5.1 h5.2 dM dM;obtain⟨a6,b6,c6⟩:=CM ing 9 h6.1 h6.2 dM dM;obtain⟨a7,b7,c7⟩:=CM kp 9 h7.1 h7.2 dM dM;go_enter func6,ntmps6;refine kx;have hB:((w.alloc (.cells #[JW s,JW i,JW wd,JW sl,JW cm,JW ing,JW kp] 23)).alloc (.cells #[JI 0,JI 0,JI 0,JI 0,JI 0,JI 0,JI 0,JI 0,JI 0,JI 0,JI 0] 32)).heap[w.heap.size]?=OC #[JW s,JW i,JW wd,JW sl,JW cm,JW ing,JW kp] 23:=bZ;have hR:((w.alloc (.cells #[JW s,JW i,JW wd,JW sl,JW cm,JW ing,JW kp] 23)).alloc (.cells #[JI 0,JI 0,JI 0,JI 0,JI 0,JI 0,JI 0,JI 0,JI 0,JI 0,JI 0] 32)).heap[w.heap.size+1]?=OC #[JI 0,JI 0,JI 0,JI 0,JI 0,JI 0,JI 0,JI 0,JI 0,JI 0,JI 0] 32:=bZ;have hG:ag af w ((w.alloc (.cells #[JW s,JW i,JW wd,JW sl,JW cm,JW ing,JW kp] 23)).alloc (.cells #[JI 0,JI 0,JI 0,JI 0,JI 0,JI 0,JI 0,JI 0,JI 0,JI 0,JI 0] 32)):=bu;generalize (w.alloc _).alloc _=u at *;generalize hre:w.heap.size+1=R at *;have HRE:=OH hre;obtain⟨cB,fB,zB⟩:=ab hB;refine iI;generalize hu:Xa0 _ _=v;have hD:v.heap[u.heap.size]?=OC #[JI (s % 4+1),JI (i % 5+1),JI (wd % 30+1),JI (kp % 9+1),JI 6,JI 4,JI 4,JI (sl % 9+1)] 30:=jn
 have hc:ag af u v:=lT
 have hB2:=ae hc hB id;have hR2:=ae hc hR id;have HG:=OH (hG.trans hc);generalize u.heap.size=D at *;obtain⟨cB,fB,zB⟩:=ab hB2;obtain⟨cR,fR,zR⟩:=ab hR2;refine zy;refine ay;generalize hu:Xa3 _ _ _=x;have hs:ag (λj=>j=R) v x:=by rw[←hu];exact ax (S:=λj=>j=R) (.inl rfl) [JI (s % 4+1),JI (i % 5+1),JI (wd % 30+1),JI (kp % 9+1),JI 6,JI 4,JI 4,JI (sl % 9+1),JI (ing % 9+1),JI (cm % 4+1),JI (sl % 9+1)] v 0 dp
 have hf:x.heap[R]?=OC #[JI (s % 4+1),JI (i % 5+1),JI (wd % 30+1),JI (kp % 9+1),JI 6,JI 4,JI 4,JI (sl % 9+1),JI (ing % 9+1),JI (cm % 4+1),JI (sl % 9+1)] 32:=by rw[←hu];exact aK [JI (s % 4+1),JI (i % 5+1),JI (wd % 30+1),JI (kp % 9+1),JI 6,JI 4,JI 4,JI (sl % 9+1),JI (ing % 9+1),JI (cm % 4+1),JI (sl % 9+1)] hR2 rfl
 have HG2:=OH (HG.out.call hs λj hj e=>J8);refine ju rfl rfl underlying32 rfl rfl ⟨_,_,hf,kM,?_⟩;exact⟨rfl,HG2.out⟩
end
theorem confA(W:World):az 6 #[.agg #[JW 1,JW 4,JW 20,JW 5,JW 2,JW 5,JW 5]] W λe w'=>e=aA (.agg #[JI 2,JI 5,JI 21,JI 6,JI 6,JI 4,JI 4,JI 6,JI 6,JI 3,JI 6])/\ag af W w':=
 Qc (s:=1) (i:=4) (wd:=20) (sl:=5) (cm:=2) (ing:=5) (kp:=5) dM dM dM dM dM dM dM
theorem newA(W:World):az 7 #[.agg #[JI 2,JI 5,JI 21,JI 6,JI 6,JI 4,JI 4,JI 6,JI 6,JI 3,JI 6]] W (NewE W 2 5 21 6 6 3 6 Qh):=
 Gn (n:=2) (ni:=5) (nw:=21) (nk:=6) (sl:=6) (cm:=3) (ing:=6) (cf:=Qh) dM dM dM dM dM dM dM dM dM dM dM
abbrev Oc(g:Nat):Array Value:=#[JI 0,JI 1,JI 1,JI 3,JI 0,.slice none 0 0,JI 0,JI 0,JI 2,JI 1,JI 0,JI 0,JI 3,.slice (aT g) 1 1,JI 0,JI 0,JI 5,JI 1,JI 0,JI 0,JI 3,.slice none 0 0,JI 0,JI 0]
@[go_sem] theorem fld42(a b c s:Int)(A1 A2 A3:Option Addr)(n1 n2 n3 c1 c2 c3:Nat)(w:World):(Instr.field 42 (.agg #[JI a,JI b,JI c,JI s,.slice A1 n1 c1,.slice A2 n2 c2,.slice A3 n3 c3]) 3).run prog w=.ok (.slice A3 n3 c3) w:=kM
@[go_sem] theorem fld63(a b c d e f g h:Int)(w:World):(Instr.field 63 (.agg #[JI a,JI b,JI c,JI d,JI e,JI f,JI g,JI h]) 5).run prog w=.ok (JI f) w:=kM
theorem in9{g:Nat}(h:w.heap[g]?=OC #[JT 9] 52):bd w (aT g) .u32 (vM 1).ss:=λi hi=>by have hi:i<1:=hi;have:i=0:=oM;subst this;exact⟨g,0,rfl,aB h,(ab h).1 0⟩
theorem in2{V:Nat}(h:w.heap[V]?=OC #[JW 16,JW 0] 5):dV w (aT V) 2 2 [JW 16,JW 0]:=
 fk (zs:=[16,0]) (λi hi=>⟨V,0,rfl,aB h,by
  have hi:i<2:=hi;obtain rfl|rfl:i=0\/i=1:=oM
  .exact(ab h).1 0
  .exact(ab h).1 1⟩) (λq=>gZ)
section
variable {w:World}
theorem TW(w:World):az 4 #[] w λe w'=>e=aA (.bool true)/\aC w w':=by
 go_enter func4,ntmps4;refine ay;refine(confA _).mono ?_;rintro r w1 ⟨rfl,hc1⟩;refine ay;refine(newA _).mono ?_;rintro r w2 ⟨Y,X,z,rfl,hs,⟨hw0,hb0⟩,⟨x1,x2,x3,x4,x5,x6,x7,x8⟩,hz,hf,hd,he⟩;have hX:ox X:=⟨oM,Ej,Ej,Ej,⟨6,by rw[x5],oM,oM⟩,oM⟩
 have hA:XA X:=⟨x1,x4,x3,x6⟩
 have hti:=OT (sl:=6) (ing:=6) hX hs x1 oM Ej hz hf he;obtain⟨zc,wk,dn,ev⟩:=z;dsimp only at hz hf hd he;subst hz hd he;have ha0:yH Y X wk 0 w2:=⟨[],[],hs,hti,rfl,λi hi=>by simp at hi,rfl⟩
 have HA0:=OH ha0;have HX:=OH (PI hX (PI hA (PI x2 (PI x7 x8))));refine kt;have HB:=OH (PI hc1 (PI hw0 hb0));refine ay;have hS:((w2.alloc (.cells #[JT 9] 52)).alloc (.cells (Oc w2.heap.size) 50)).heap[w2.heap.size]?=OC #[JT 9] 52:=bZ;have hR:((w2.alloc (.cells #[JT 9] 52)).alloc (.cells (Oc w2.heap.size) 50)).heap[w2.heap.size+1]?=OC (Oc w2.heap.size) 50:=bZ;have hc2:ag af w2 ((w2.alloc (.cells #[JT 9] 52)).alloc (.cells (Oc w2.heap.size) 50)):=bu;have HA2:=OH (HA0.out.none hc2);unfold Oc at hS hR HA2;generalize Xa0 (Xa0 w2 _) _=u at *;generalize w2.heap.size=g at *;go_loopw [4] (λi wr=>∃k:Nat,k<=3/\i=JI k/\yH Y X wk k wr/\wr.heap[g+1]?=OC #[JI 0,JI 1,JI 1,JI 3,JI 0,.slice none 0 0,JI 0,JI 0,JI 2,JI 1,JI 0,JI 0,JI 3,.slice (aT g) 1 1,JI 0,JI 0,JI 5,JI 1,JI 0,JI 0,JI 3,.slice none 0 0,JI 0,JI 0] 50/\wr.heap[g]?=OC #[JT 9] 52) (λi _=>3- (intOf i).toNat);case atStart=>exact⟨0,oM,rfl,HA2.out,hR,hS⟩
 case round=>
  obtain⟨k,hk,rfl,hak,hR,hS⟩:=hrel;have HAK:=OH hak;by_cases hlt:k<3
  .obtain hk0|hk1|hk2:k=0\/k=1\/k=2:=oM
   all_goals subst k
   .refine EN
    have hin:bd wr (none:Option Addr) .u32 (vM 0).ss/\((none:Option Addr)=none->0=0)/\(vM 0).ss.length<=0:=⟨λi hi=>by simp[vM]at hi,λ_=>rfl,dM⟩
    have HCA:=OH (yk (k:=0) (b:=Y.b) oM hin);refine zq65;go_roundw;case rel=>exact⟨0+1,oM,eT,HA6.out,HR6.out.1,HR6.out.2⟩
    case measure=>simp[intOf]
   .refine EN
    have hin:bd wr (some ⟨g,0,none⟩:Option Addr) .u32 (vM 1).ss/\((some ⟨g,0,none⟩:Option Addr)=none->1=0)/\(vM 1).ss.length<=1:=⟨in9 hS,(λq=>gZ),dM⟩
    have HCA:=OH (yk (k:=1) (b:=Y.b) oM hin);refine zq65;go_roundw;case rel=>exact⟨1+1,oM,eT,HA6.out,HR6.out.1,HR6.out.2⟩
    case measure=>simp[intOf]
   .refine EN
    have hin:bd wr (none:Option Addr) .u32 (vM 2).ss/\((none:Option Addr)=none->0=0)/\(vM 2).ss.length<=0:=⟨λi hi=>by simp[vM]at hi,λ_=>rfl,dM⟩
    have HCA:=OH (yk (k:=2) (b:=Y.b) oM hin);refine zq65;go_roundw;case rel=>exact⟨2+1,oM,eT,HA6.out,HR6.out.1,HR6.out.2⟩
    case measure=>simp[intOf]
  .have hk3:k=3:=oM
   subst hk3;obtain⟨p0,p1,p2,⟨e0,e1,e2⟩,haw⟩:=HAK.out.aw HX.out.2.1 HF.out;have hclm:=aw_clm (Y:=Y) HX.out.1 HX.out.2.1 e0 e1 e2;obtain⟨M,m,z,hs,ht,hz⟩:=haw.none (ag.drew dp);obtain⟨M1,m1,z1,hs1,_,_⟩:=haw;obtain⟨ve,hW,_,_⟩:=hs1.ev;have HCL:=OH (Ql (Q:=AwW Y X [p0,p1,p2]) hW HX.out.2.2.2.1 HX.out.2.2.2.2 ⟨M,m,z,hs,ht,hz⟩ hclm);refine vh;rintro r w7 ⟨rfl,haw⟩;have HAW:=OH haw;obtain⟨M,m,z,hs,ht,hz⟩:=haw;have hz:nt [] [0,1,2] P3 2 [] [] [0,0,0,1,2,1,2,1,2] z:=hz;have hl9:z.ev.length=9:=by have:=congrArg Xb3 hz.ev;exact ia
   have HEV:=OH (pD hs oM);rw[hl9]at HEV;refine ay;refine HEV.out.mono ?_;rintro r w8 ⟨A8,c8,es8,rfl,hes⟩;have HAW8:=OH (HAW.out.none hes.c);refine ay;have hP:(w8.alloc (.cells #[JW 16,JW 0] 5)).heap[w8.heap.size]?=OC #[JW 16,JW 0] 5:=bZ;have hcP:ag af w8 (w8.alloc (.cells #[JW 16,JW 0] 5)):=bu;have HAWP:=OH (HAW8.out.none hcP);generalize Xa0 w8 _=u8 at *;generalize w8.heap.size=V at *;have HPC:=OH (pacA_t (b:=Y.b) (in2 hP));refine HPC.out.mono ?_;rintro r w9 ⟨A9,c9,rfl,hl9,hc9⟩;obtain⟨M,m,z,hs,ht,hz⟩:=HAWP.out.none hc9;have HCM:=OH (TM (k:=3+10*3) oM hs ht hz rfl hl9);refine ay;refine HCM.out.mono ?_;rintro r w10 ⟨rfl,hcom⟩;have HCO:=OH hcom;refine ay;go_loopw [7] (λi wr=>∃k:Nat,k<=4/\i=JI k/\T8 Y X (3+10*3+1) [0,0,0,1,2,1,2,1,2] k wr) (λi _=>4- (intOf i).toNat);case atStart=>exact⟨0,oM,rfl,HCO.out⟩
   case round=>
    obtain⟨k,hk,rfl,hcm⟩:=hrel;by_cases hlt:k<4
    .have f4:decide ((k:Int)<4)=true:=by simp only[decide_eq_true_eq];omega
     have HWK:=OH (Rm oM hlt hcm);refine ay;refine HWK.out.mono ?_;rintro r w11 ⟨rfl,hcm⟩;have HCO:=OH hcm;refine dA;case rel=>exact⟨k+1,oM,eT,HCO.out⟩
     case measure=>exact di
    .have hk4:k=4:=oM
     subst hk4;obtain⟨M,N,m,z,T,i,tn,hs,ht,hz⟩:=hcm;obtain⟨e0,e1,e2,e3,e4,e5,e6,e7,e8,e9,e10,e11,hev,v0,v3,v4,⟨v9,s9⟩,v10,v11,n11,o11⟩:=hz.evs;have hl12:z.ev.length=12:=by rw[hev];rfl
     have hsb:z.c.d.subs.length=1:=hz.c.1;have hlv:z.c.live=1:=hz.c.2;have HSI:=OH (show kZ _ Y X 6 6 (3+10*3+1+4) z from⟨M,N,m,hs,ht⟩);have HEV:=OH (pD hs oM);rw[hl12]at HEV;have HV:=OH (PI v0 (PI v3 (PI v4 (PI v9 (PI s9 (PI v10 (PI v11 (PI n11 o11))))))));have HE:=OH hev;have HSB:=OH (PI hsb hlv);refine ay;refine HEV.out.mono ?_;rintro r w12 ⟨A12,c12,es,rfl,hes⟩;have hi12:=HSI.out.none hes.c;have hst:=hi12.st oM HX.out.1;rw[HSB.out.1]at hst;refine qg;have HES:=OH hes;have HI12:=OH hi12;refine EK;rintro r w13 ⟨A1,n1,A2,n2,c2,A3,n3,rfl,_,hc13⟩;have HI13:=OH (HI12.out.none hc13);have HES3:=OH (HES.out.mv hc13);have HSZ:=OH HI13.out.szs;refine ay;refine HSZ.out.mono ?_;rintro r w14 ⟨p,t,rfl,_,hc14⟩;have hes:=HES3.out.mv hc14;rw[HE.out]at hes;have HBE:=OH (HI13.out.none hc14).be;rw[HSB.out.2];obtain⟨g,rfl,hgl,k0,_,_,_,_⟩:=hes.kd (j:=0) sM;obtain⟨g',hg',_,k3,_,_,_,_⟩:=hes.kd (j:=3) sM;obtain⟨g4,hg4,_,k4,_,_,_,_⟩:=hes.kd (j:=4) sM;obtain⟨g9,hg9,_,k9,_,_,s9,_⟩:=hes.kd (j:=9) sM;obtain⟨g10,hg10,_,k10,_,_,_,_⟩:=hes.kd (j:=10) sM;obtain⟨g11,hg11,_,k11,_,n11,_,o11⟩:=hes.kd (j:=11) sM;cases hg';cases hg4;cases hg9;cases hg10;cases hg11;obtain⟨v0,v3,v4,v9,s9',v10,v11,n11',o11'⟩:=HV.out;dsimp only[List.getElem_cons_zero,List.getElem_cons_succ]at k0 k3 k4 k9 s9 k10 k11 n11 o11;rw[v0]at k0;rw[v3]at k3;rw[v4]at k4;rw[v9]at k9;rw[s9']at s9;rw[v10]at k10;rw[v11]at k11;rw[n11']at n11;rw[o11']at o11;refine bj;obtain⟨b1,b2,b3⟩:=HB.out;have hbe:=HBE.out.1;rw[b2,b3]at hbe;exact⟨rfl,aE b1.none hbe⟩
end
def pX(l:List Ev)(a b:Nat):Bool:=((l.take b).drop a).any λv=>v.k==1&&v.e==0
theorem PY(l:List Ev)(a:Nat):pX l a a=false:=by unfold pX;rw[List.drop_eq_nil_of_le xM];rfl
theorem JC{l:List Ev}{a:Nat}(h:a<=j)(hj:j<l.length):pX l a (j+1)=(pX l a j||(l[j].k==1&&l[j].e==0)):=by unfold pX;rw[List.take_add_one,List.getElem?_eq_getElem hj,List.drop_append_of_le_length xM];simp
theorem TF{kd:Int}{z2:Ws}(h:yJ kd z z2):(pX z2.ev z.ev.length z2.ev.length=true->kd=11)/\(pX z2.ev z.ev.length z2.ev.length=false->z2.c.d=z.c.d):=by
 obtain⟨more,e,h1,h2⟩:=h;have hd:pX z2.ev z.ev.length z2.ev.length=more.any λv=>v.k==1&&v.e==0:=by unfold pX;rw[List.take_length,e,List.drop_left]
 rw[hd];refine⟨λq=>h1 ?_,λq=>h2 λv hv hd=>?_⟩
 .obtain⟨v,hv,q⟩:=List.any_eq_true.1 q
  simp only[Bool.and_eq_true,beq_iff_eq]at q;exact⟨v,hv,q⟩
 .have:=List.any_eq_false.1 q v hv
  simp only[Bool.and_eq_true,beq_iff_eq]at this;exact this hd
section
variable {w w' u:World}
theorem Iv{kp:Int}(h1:0<=s/\s<=255)(h2:0<=i/\i<=255)(h3:0<=wd/\wd<=255)(h4:0<=sl/\sl<=255)(h5:0<=cm/\cm<=255)(h6:0<=ing/\ing<=255)(h7:0<=kp/\kp<=255)(hl:wB w A l)(hb:∀s∈l,StB w s)(hm:l.length<=maxLen) :
  az 3 #[.agg #[JW s,JW i,JW wd,JW sl,JW cm,JW ing,JW kp],.slice A l.length cap] w λe w'=>e=aA (.bool true)/\aC w w':=by
 obtain⟨n,hn⟩:∃n:Nat,s % 4+1=n:=⟨(s % 4+1).toNat,oM⟩
 obtain⟨ni,hni⟩:∃n:Nat,i % 5+1=n:=⟨(i % 5+1).toNat,oM⟩
 obtain⟨nw,hnw⟩:∃n:Nat,wd % 30+1=n:=⟨(wd % 30+1).toNat,oM⟩
 obtain⟨nk,hnk⟩:∃n:Nat,kp % 9+1=n:=⟨(kp % 9+1).toNat,oM⟩
 obtain⟨ns,hns⟩:∃n:Nat,sl % 9+1=n:=⟨(sl % 9+1).toNat,oM⟩
 obtain⟨ng,hng⟩:∃n:Nat,ing % 9+1=n:=⟨(ing % 9+1).toNat,oM⟩
 obtain⟨nc,hnc⟩:∃n:Nat,cm % 4+1=n:=⟨(cm % 4+1).toNat,oM⟩
 have hcf:=λW=>Qc (w:=W) h1 h2 h3 h4 h5 h6 h7
 simp only[hn,hni,hnw,hnk,hns,hng,hnc]at hcf;have b1:1<=n/\n<=4:=oM;have b2:1<=ni/\ni<=9:=oM;have b3:1<=nw/\nw<=30:=oM;have b4:1<=nk/\nk<=9:=oM;have b5:1<=ns/\ns<=9:=oM;have b6:1<=ng/\ng<=9:=oM;have b7:1<=nc/\nc<=4:=oM;have HNW:=λW=>Gn (w:=W) (n:=n) (ni:=ni) (nw:=nw) (nk:=nk) (sl:=ns) (cm:=nc) (ing:=ng) (cf:=⟨6,4,4,ns⟩) b1 b2 b3 b4 b5 b7 b6 (by show ja 6 1 16=true;decide) (by show ja 4 1 16=true;decide) (by show ja 4 1 16=true;decide) (by unfold ja;simp;omega)
 have HCF:=OH hcf;have HN:=OH HNW;have HB:=OH (PI b1 (PI b2 (PI b3 (PI b4 (PI b5 (PI b6 b7))))));have HL:=OH hl;have HS:=OH hb;refine nH;unfold maxLen at hm;clear hcf HNW hn hni hnw hnk hns hng hnc hl hb b1 b2 b3 b4 b5 b6 b7;go_enter func3,ntmps3;refine kx;have hZ:(w.alloc (.cells #[JW s,JW i,JW wd,JW sl,JW cm,JW ing,JW kp] 23)).heap[w.heap.size]?=OC #[JW s,JW i,JW wd,JW sl,JW cm,JW ing,JW kp] 23:=bZ;have hc0:ag af w (w.alloc (.cells #[JW s,JW i,JW wd,JW sl,JW cm,JW ing,JW kp] 23)):=bu;generalize Xa0 w _=u0 at *;generalize w.heap.size=V at hZ ⊢;refine ay;refine(TW _).mono ?_;rintro r w1 ⟨rfl,hb1⟩;have hc1:ag af w w1:=hc0.trans (.of hb1);have hZ1:=ae (S:=af) (.of hb1) hZ id;have HFW:=OH (few_t (cap:=cap) (HL.out.below hc1.none) HM.out);have HC1:=OH (PI hc1 hZ1);clear hc0 hb1 hZ hc1 hZ1;refine ay;refine HFW.out.mono ?_;rintro r w2 ⟨b,rfl,hbf,hc2⟩;have hc2':=HC1.out.1.trans hc2;have hZ2:=ae hc2 HC1.out.2 id;clear HFW HC1 hc2;cases b;case false=>clear hbf;refine bj;exact⟨rfl,hc2'.none⟩
 case true=>
  obtain⟨hl4,hfw⟩:=hbf rfl;have HFW:=OH (PI hl4 hfw);have HC2:=OH hc2';clear hbf hl4 hfw hc2';obtain⟨cZ,fZ,zZ⟩:=ab hZ2;refine ay;refine(HCF.out _).mono ?_;rintro r w3 ⟨rfl,hc3⟩;have HC3:=OH (HC2.out.trans hc3);clear hc3 HC2 cZ fZ zZ hZ2;refine jo;have hQ:(w3.alloc (.cells #[JI n,JI ni,JI nw,JI nk,JI 6,JI 4,JI 4,JI ns,JI ng,JI nc,JI ns] 32)).heap[w3.heap.size]?=OC #[JI n,JI ni,JI nw,JI nk,JI 6,JI 4,JI 4,JI ns,JI ng,JI nc,JI ns] 32:=bZ;have hcQ:ag af w3 (w3.alloc (.cells #[JI n,JI ni,JI nw,JI nk,JI 6,JI 4,JI 4,JI ns,JI ng,JI nc,JI ns] 32)):=bu;have HC4:=OH (HC3.out.trans hcQ);clear hcQ HC3;generalize Xa0 w3 _=u at *;generalize w3.heap.size=T at *;obtain⟨cQ,fQ,zQ⟩:=ab hQ;refine ay;refine(HN.out _).mono ?_;rintro r w4 ⟨Y,X,z,rfl,hs,⟨hw0,hb0⟩,⟨x1,x2,x3,x4,x5,x6,x7,x8⟩,hz,hf,hd,he⟩;obtain⟨b1,b2,b3,b4,b5,b6,b7⟩:=HB.out;have hX:ox X:=⟨oM,by rw[x6];exact Xb9 6,by rw[x6];exact Xb9 4,by rw[x6];dsimp only;omega,⟨nk,by rw[x5],oM,oM⟩,oM⟩
  have hti:=OT (sl:=ns) (ing:=ng) hX hs x1 oM (by rw[x6];dsimp only;omega) hz hf he;obtain⟨Y0,q1,q2,q3,q4,hsi⟩:∃Y0:Yx,Y0.W=Y.W/\Y0.b=Y.b/\Y0.w0=Y.w0/\(∀j c,¬Y0.kp j c)/\kZ w4 Y0 X ng ns 0 z:=⟨{Y with kp:=λ_ _=>False},rfl,rfl,rfl,λ_ _ q=>q,kZ.kpx ⟨No,0,0,hs,hti⟩ λ_ _ q=>q.elim⟩
  rw[hb0]at q2;rw[hw0]at q3;rw[←q1];have HX:=OH (PI hX (PI x1 (PI x2 (PI x3 (PI x4 x6)))));have HY:=OH (PI q2 (PI q3 q4));have HQ:=OH hQ;have HI0:=OH hsi;have HZQ:=OH zQ;clear hs hw0 hb0 x1 x2 x3 x4 x5 x6 x7 x8 hz hf hd he b1 b2 b3 b4 b5 b6 b7 hX hti q1 q2 q3 q4 hsi cQ fQ zQ hQ HCF HN;refine ay;go_loopw [10,11,12,13,14,15,16,17] (λi _ _ _ _ _ _ _ wr=>∃k:Nat,k<=l.length/\i=JI k/\∃z,kZ wr Y0 X ng ns k z) (λi _ _ _ _ _ _ _ _=>l.length- (intOf i).toNat);case atStart=>exact⟨0,oM,rfl,z,HI0.out⟩
  case round=>
   clear HI0;obtain⟨k,hk,rfl,z,hsi⟩:=hrel;have HI:=OH hsi;have hbe:=hsi.be.1;rw[HY.out.1,HY.out.2.1]at hbe;have hbw:=aE HC4.out.none hbe;have HBW:=OH hbw;refine rO
   .have hk4:k<=400:=by have:=HFW.out.1;omega
    have HST:=OH (hsi.st oM HX.out.1);clear hsi hbe hbw;refine EK;rintro r w5 ⟨A1,n1,A2,n2,c2,A3,n3,rfl,_,hc5⟩;rw[HX.out.2.2.2.2.2];have HI5:=OH (HI.out.none hc5);clear hc5 HST;refine yX;have hV6:(w5.alloc (.cells #[JI 6,JI 4,JI 4,JI ns,.slice A1 z.c.d.people.length n1,.slice A2 z.c.d.tracks.length c2,.slice A3 z.c.d.subs.length n3] 42)).heap[w5.heap.size]?=OC #[JI 6,JI 4,JI 4,JI ns,.slice A1 z.c.d.people.length n1,.slice A2 z.c.d.tracks.length c2,.slice A3 z.c.d.subs.length n3] 42:=bZ;have hc6:ag af w5 (w5.alloc (.cells #[JI 6,JI 4,JI 4,JI ns,.slice A1 z.c.d.people.length n1,.slice A2 z.c.d.tracks.length c2,.slice A3 z.c.d.subs.length n3] 42)):=bu;have hi6:=HI5.out.none hc6;clear hc6 HI5;generalize Xa0 w5 _=u6 at *;generalize w5.heap.size=V6 at *;obtain⟨Y1,hY1,hi6⟩:∃Y1,Y1= {Y0 with kp:=λj c=>j=V6/\c=#[JI 6,JI 4,JI 4,JI ns,.slice A1 z.c.d.people.length n1,.slice A2 z.c.d.tracks.length c2,.slice A3 z.c.d.subs.length n3] }/\kZ u6 Y1 X ng ns k z:=⟨_,rfl,hi6.kpx (by rintro j c ⟨rfl,rfl⟩;exact hV6)⟩
    have y1:Y1.W=Y0.W:=by rw[hY1]
    have y2:Y1.b=Y0.b:=by rw[hY1]
    have HEV:=OH (hi6.evs oM);rw[y1]at HEV;have HI6:=OH hi6;have HY1:=OH (PI hY1 (PI y1 y2));clear hi6 hV6 y1 y2 hY1;refine ay;refine HEV.out.mono ?_;rintro r w7 ⟨A7,c7,es7,rfl,hes⟩;have hi7:=HI6.out.none hes.c;have hbe7:=hi7.be.1;have e2:=HY1.out.2.2;have e3:Y1.w0=Y0.w0:=by rw[HY1.out.1]
    rw[e2,e3,HY.out.1,HY.out.2.1]at hbe7;have hb7:=aE HC4.out.none hbe7;obtain⟨g,o,rfl,hgl,hcl⟩:=(HL.out.below hb7) k hlt;have hra:w7.rangeAt g (o+k*23) (RL l[k]):=λj v hv=>hcl j v (by simpa using hv)
    have hu7:u.heap.size<=u.heap.size:=Xa5 _;have hok:=(HS.out l[k] qS).ok (HFW.out.2 _ qS) hb7 (b:=Y1.b) (by rw[e2,HY.out.1];exact HC4.out.size);have hgo:=goes_t hi7 hk4 HX.out.1 hok;rw[HY1.out.2.1]at hgo;have hkd:=hcl 0 _ rfl;have HGO:=OH hgo;have HKD:=OH (PI hgl hkd);clear hes HEV hi7 hbe7 e2 e3 hok hgo hcl HI6 hkd hgl hb7 hu7 HBW HI;go_wp2_with (refine wpList_load_mid rfl 61 (.tmp 46) rfl g (o+k*23) rfl (RL l[k]) _ hra underlying61 rfl kM ?_)
    refine Calls.mono HGO.out ?_;rintro r w8 ⟨rfl,z2,hi8,hgp⟩;have hV8:=hi8.kp V6 #[JI 6,JI 4,JI 4,JI ns,.slice A1 z.c.d.people.length n1,.slice A2 z.c.d.tracks.length c2,.slice A3 z.c.d.subs.length n3] (by rw[HY1.out.1];exact⟨rfl,rfl⟩);have hi8':kZ w8 Y0 X ng ns (k+1) z2:=by rw[HY1.out.1]at hi8;exact hi8.kpx (P:=Y0.kp) λj c q=>(HY.out.2.2 j c q).elim
    have HSZ:=OH hi8'.szs;have HI8:=OH hi8';have HV8:=OH hV8;have HGP:=OH hgp;clear hi8 hi8' hV8 hgp HGO HY1 hra;refine ay;refine HSZ.out.mono ?_;rintro r w9 ⟨p,t,rfl,hsz,hc9⟩;have hi9:=HI8.out.none hc9;have hfs:=hi9.sz HX.out.1 hsz;rw[HX.out.2.2.1,HX.out.2.2.2.1,HX.out.2.2.2.2.1,HX.out.2.1]at hfs;have HV9:=OH (ae hc9 HV8.out id);have HI9:=OH hi9;clear hc9 hi9 hsz HSZ HI8 HV8;go_upto_region 16 with fail;have hV10:(w9.alloc (.cells #[JI z2.c.inq.length,JI z2.c.ps.length,JI p,JI t,JI z2.c.acks.length,JI z2.c.live,JI z2.c.wt.length,JI 0] 63)).heap[w9.heap.size]?=OC #[JI z2.c.inq.length,JI z2.c.ps.length,JI p,JI t,JI z2.c.acks.length,JI z2.c.live,JI z2.c.wt.length,JI 0] 63:=bZ;have hc10:ag af w9 (w9.alloc (.cells #[JI z2.c.inq.length,JI z2.c.ps.length,JI p,JI t,JI z2.c.acks.length,JI z2.c.live,JI z2.c.wt.length,JI 0] 63)):=bu;have HV10:=OH (ae hc10 HV9.out id);have hi10:=HI9.out.none hc10;clear hc10 HV9 HI9;generalize Xa0 w9 _=u10 at *;generalize w9.heap.size=V10 at *;have hQ10:u10.heap[T]?=OC #[JI n,JI ni,JI nw,JI nk,JI 6,JI 4,JI 4,JI ns,JI ng,JI nc,JI ns] 32:=by have hbe:=hi10.be.1;rw[HY.out.1,HY.out.2.1]at hbe;exact(hbe.block T HZQ.out).trans HQ.out
    have HI10:=OH hi10;clear hi10;obtain⟨s1,s2,s3,s4,s5,s6,s7⟩:=hfs;obtain⟨b1,_,_,_,_,_,b7⟩:=HB.out;have hmul:nc*n<=16:=Nat.mul_le_mul b7.2 b1.2;have hcast:(nc:Int)*(n:Int)=((nc*n:Nat):Int):=by push_cast;rfl
    have hwr:IntKind.i64.wrap ((nc:Int)*(n:Int))=((nc*n:Nat):Int):=by rw[hcast];exact IntWalk.i64_in _ oM
    have t1:decide (ni<z2.c.inq.length)=false:=by simpa using s1
    have t2:decide (ng<p)=false:=by simpa using s2
    have t3:decide (nc<t)=false:=by simpa using s3
    have t4:decide ((nc:Int)*(n:Int)<(z2.c.acks.length:Int))=false:=decide_eq_false (by rw[hcast];omega);have t5:decide ((ns:Int)<z2.c.live)=false:=by simpa using s5
    have t6:decide (z2.c.live<(z2.c.wt.length:Int))=false:=by simpa using s6
    have t7:decide (nw<z2.c.ps.length)=false:=by simpa using s7
    have HST2:=OH (HI10.out.st oM HX.out.1);clear s1 s2 s3 s4 s5 s6 s7 b1 b7 hcast hmul;obtain⟨cQ,fQ,zQ⟩:=ab hQ10;obtain⟨cV,fV,zV⟩:=ab hV10;refine ay;refine HST2.out.mono ?_;rintro r w11 ⟨B1,m1,B2,m2,d2,B3,m3,rfl,_,hc11⟩;rw[HX.out.2.2.2.2.2];have HV11:=OH (ae hc11 HV10.out id);have HI11:=OH (HI10.out.none hc11);clear hc11 HST2 HV10 HI10 t1 t2 t3 t4 t5 t6 t7 hwr cQ fQ zQ cV fV zV hQ10 hV10;go_upto_region 19 with fail;have hV12:(w11.alloc (.cells #[JI 6,JI 4,JI 4,JI ns,.slice B1 z2.c.d.people.length m1,.slice B2 z2.c.d.tracks.length d2,.slice B3 z2.c.d.subs.length m3] 42)).heap[w11.heap.size]?=OC #[JI 6,JI 4,JI 4,JI ns,.slice B1 z2.c.d.people.length m1,.slice B2 z2.c.d.tracks.length d2,.slice B3 z2.c.d.subs.length m3] 42:=bZ;have hc12:ag af w11 (w11.alloc (.cells #[JI 6,JI 4,JI 4,JI ns,.slice B1 z2.c.d.people.length m1,.slice B2 z2.c.d.tracks.length d2,.slice B3 z2.c.d.subs.length m3] 42)):=bu;have hV6:=ae hc12 HV11.out id;have hi12:=HI11.out.none hc12;clear hc12 HV11 HI11;generalize Xa0 w11 _=u12 at *;generalize w11.heap.size=V12 at *;have HEV2:=OH (hi12.evs oM);have HI12:=OH hi12;have HV12:=OH (PI hV6 hV12);clear hi12 hV6 hV12;refine ay;refine HEV2.out.mono ?_;rintro r w13 ⟨A13,c13,es,rfl,hes⟩;have HI13:=OH (HI12.out.none hes.c);have HV13:=OH (PI (ae hes.c HV12.out.1 id) (ae hes.c HV12.out.2 id));have hbe:=HI13.out.be.1;rw[HY.out.1,HY.out.2.1]at hbe;have hb13:=aE HC4.out.none hbe;have HB13:=OH hb13;have HES:=OH hes;clear hes HEV2 HI12 HV12 hbe hb13;have hle:z.ev.length<=z2.ev.length:=by obtain⟨more,e,_⟩:=HGP.out;rw[e];simp
    refine ay;go_loop [16,17] (λb j=>∃jj:Nat,z.ev.length<=jj/\jj<=z2.ev.length/\j=JI jj/\b=.bool (pX z2.ev z.ev.length jj)) (λ_ j=>z2.ev.length- (intOf j).toNat);case atStart=>exact⟨z.ev.length,Xa5 _,hle,rfl,by rw[PY]⟩
    case round=>
     obtain⟨jj,hj1,hj2,rfl,rfl⟩:=hrel;clear hle;by_cases hlj:jj<z2.ev.length
     .obtain⟨gg,rfl,hgg,k0,k4,_⟩:=HES.out.kd hlj
      have hsc:=JC hj1 hlj;have HLJ:=OH (PI hj1 hlj);have hev6:z2.ev.length<=1000000:=HI13.out.ev oM;obtain⟨ek,hek⟩:∃x,x=z2.ev[jj].k:=⟨_,rfl⟩
      obtain⟨ee,hee⟩:∃x,x=z2.ev[jj].e:=⟨_,rfl⟩
      rw[←hek]at k0 hsc;rw[←hee]at k4 hsc;clear hek hee;obtain⟨bb,hbb⟩:∃x,pX z2.ev z.ev.length jj=x:=⟨_,rfl⟩
      obtain⟨b2,hb2⟩:∃x,pX z2.ev z.ev.length (jj+1)=x:=⟨_,rfl⟩
      rw[hbb,hb2]at hsc;rw[hbb];have HB2:=OH hb2;clear hbb hb2;cases bb;case true=>rw[Bool.true_or]at hsc;exact Gh
      case false=>
       rw[Bool.false_or]at hsc;cases e1:ek==1;case false=>rw[e1,Bool.false_and]at hsc;exact Gh
       case true=>
        rw[e1,Bool.true_and]at hsc;cases e2:ee==0;case false=>rw[e2]at hsc;exact Gh
        case true=>rw[e2]at hsc;exact Gh
     .have hje:jj=z2.ev.length:=oM
      subst hje;obtain⟨g1,g2⟩:=TF HGP.out;generalize pX z2.ev z.ev.length z2.ev.length=bb at *;have HI14:=OH (PI g1 g2);clear g1 g2 hj1 hj2;obtain⟨hV6,hV12⟩:=HV13.out;cases bb;case false=>have hd:=HI14.out.2 rfl;rw[hd]at hV12;clear hd HI14 HGP HES HV13;obtain⟨c6,f6,z6⟩:=ab hV6;obtain⟨c12,f12,z12⟩:=ab hV12;exact WY
      case true=>have hkd:=HI14.out.1 rfl;obtain⟨g',o',e,hg',hcl⟩:=(HL.out.below HB13.out) k hlt;cases e;have k0:w13.cell? ⟨g,o+k*23,none⟩=some (JI l[k].kind):=hcl 0 _ rfl;rw[hkd]at k0;clear hkd hcl hV6 hV12 HI14 HGP HES HV13;exact WY
   .have hkl:k=l.length:=oM
    subst hkl;clear hsi hbe hbw;refine bj;exact⟨rfl,HBW.out⟩
end
theorem jf0:(Rows.topSafeRow.wf (OpenSpec.ofChange Rows.topSafeSpec))=true:=kM
theorem jf1:(laidOutB Tryz.pinned.checked.prog)=true:=kM
theorem jf2:(mapsRowed Tryz.pinned.checked.prog)=true:=kM
theorem jf3:(f3.params.all (Tryz.pinned.checked.prog.readableRec ·))=true:=kM
theorem jf4:(namedTie Tryz.pinned.checked.prog Rows.topSafeRow.named Rows.topSafeSpec.vars)=true:=kM
theorem jf5:((Rows.topSafeRow.stops==[]))=true:=kM
theorem jf6:((Tryz.pinned.checked.prog.stops==[]))=true:=kM
theorem jf7:((Rows.topSafeRow.knobs==[]))=true:=kM
theorem jf8:((Tryz.pinned.checked.prog.stopKnobs==[]))=true:=kM
theorem jf9:((Rows.topSafeRow.inPlace==Tryz.pinned.checked.prog.inPlace 3))=true:=kM
theorem jf10:((Rows.topSafeRow.unfollowed==Tryz.pinned.checked.prog.unfollowed 3))=true:=kM
theorem jf11:((Rows.topSafeRow.recurses==Tryz.pinned.checked.prog.recurses 3))=true:=kM
theorem jf12:((Rows.topSafeRow.named==Tryz.pinned.checked.prog.varsNamed 3))=true:=kM
theorem jf13:((Rows.topSafeRow.maps==(f3.params.toList++Rows.topSafeSpec.plain.varTypes Tryz.pinned.checked.prog).any (Tryz.pinned.checked.prog.mapsRec ·)))=true:=kM
theorem jf14:((Rows.topSafeRow.ifaces==(f3.params.toList++Rows.topSafeSpec.plain.varTypes Tryz.pinned.checked.prog).any (Tryz.pinned.checked.prog.ifacesRec ·)))=true:=kM
theorem jf15:((Rows.topSafeRow.mapsOut==Tryz.pinned.checked.prog.mapsAmong f3.resultTypes.toList))=true:=kM
theorem jf16:((Rows.topSafeRow.loops==(f3.params.toList++Rows.topSafeSpec.plain.varTypes Tryz.pinned.checked.prog).any (Tryz.pinned.checked.prog.loopsFrom ·)))=true:=kM
theorem jf17:((Rows.topSafeRow.wideKeys==(f3.params.toList++Rows.topSafeSpec.plain.varTypes Tryz.pinned.checked.prog++f3.resultTypes.toList).any (Tryz.pinned.checked.prog.wideKeysFrom ·)))=true:=kM
theorem jf18:(Rows.topSafeSpec.vars.all (Tryz.pinned.checked.prog.varReadable ·))=true:=kM
theorem jf19:(f3.resultTypes.all (λt=>Tryz.pinned.checked.prog.readableRec t&&decide (t<Tryz.pinned.checked.prog.types.size)))=true:=kM
theorem jf20:((Rows.topSafeRow.ifacesOut==f3.resultTypes.toList.any (Tryz.pinned.checked.prog.ifacesRec ·)))=true:=kM
theorem jf21:((Rows.topSafeRow.loopsOut==f3.resultTypes.toList.any (Tryz.pinned.checked.prog.loopsFrom ·)))=true:=kM
theorem jf22:((Rows.topSafeRow.plainKeys==Tryz.pinned.checked.prog.plainKeys))=true:=kM
theorem jf23:(Rows.topSafeRow.shortTexts.isNone)=true:=kM
theorem jf24:(Tryz.pinned.checked.prog.stopsHeard)=true:=kM
theorem jf25:(Tryz.pinned.checked.prog.mayEnter)=true:=kM
theorem jf26:((Rows.topSafeRow.lifted==Tryz.pinned.checked.prog.liftsFinal))=true:=kM
theorem jf27:((Tryz.pinned.checked.prog.make==some Rows.topSafeRow.make))=true:=kM
theorem jf28:((Rows.topSafeRow.kinds==(if Rows.topSafeRow.domain.isEmpty then [] else f3.params.toList.map λt=>match Tryz.pinned.checked.prog.underlying t with|some (.int k)=>some k|_=>none)))=true:=kM
theorem jf29:((Rows.topSafeRow.pinned==Rows.topSafeRow.pinnedBy))=true:=kM
theorem jf30:((Rows.topSafeRow.veiled==(f3.params.toList++Rows.topSafeSpec.plain.varTypes Tryz.pinned.checked.prog++f3.resultTypes.toList).any (Tryz.pinned.checked.prog.veiledRec ·)))=true:=kM
theorem jf31:(Rows.topSafeRow.veiledFits Tryz.pinned.checked.prog f3.params.toList (f3.params.toList++Rows.topSafeSpec.plain.varTypes Tryz.pinned.checked.prog++f3.resultTypes.toList))=true:=kM
theorem gK{a b:Bool}(ha:a=true)(hb:b=true):(a&&b)=true:=by rw[ha,hb];rfl
theorem jf_all:joinedFacts Tryz.pinned.checked.prog 3 f3 Rows.topSafeSpec Rows.topSafeRow=true:=by unfold joinedFacts;exact gK (gK (gK (gK (gK (gK (gK (gK (gK (gK (gK (gK (gK (gK (gK (gK (gK (gK (gK (gK (gK (gK (gK (gK (gK (gK (gK (gK (gK (gK (gK (jf0) jf1) jf2) jf3) jf4) jf5) jf6) jf7) jf8) jf9) jf10) jf11) jf12) jf13) jf14) jf15) jf16) jf17) jf18) jf19) jf20) jf21) jf22) jf23) jf24) jf25) jf26) jf27) jf28) jf29) jf30) jf31
theorem Pn:Tryz.pinned.checked.prog.funcNamed Rows.topSafeRow.func=some 3:=kM
theorem S3:Tryz.pinned.checked.prog.funcs[(3:FuncId)]?=some f3:=func3
theorem S0:f3.isInstance Tryz.pinned.checked.prog Rows.topSafeRow.origin Rows.topSafeRow.targs:=of_decide_eq_true kM
theorem SZ:f3.isWrapper Tryz.pinned.checked.prog Rows.topSafeRow.wrapper Rows.topSafeRow.mainSum:=by unfold Func.isWrapper;first|(rw[if_pos (by decide +kernel)];kernel_rfl)|(rw[if_neg (by decide +kernel)];exact⟨rfl,rfl⟩)
section
open Go.ChangeShapes Go.WideShapes Go.ChangeAt Go.RowKit
open Go.ChangeMaps (open_string)
namespace TopSafe
instance:Inhabited qP:=⟨⟨0,0,0,rq0,none,0,rk,0,none,0,[],none,0,[]⟩⟩
theorem lifted(os:Os)(started:os.Started)(H:Type)(enc:TypeId×Value->H) :
  ReturnsInHanded {} checked os 3 .any (Rows.topSafeSpec.pre6 enc prog f3 Rows.topSafeRow.domain false) (Rows.topSafeSpec.post enc prog f3 false true false false):=by
 refine returnsInHanded_of_change (C:=checked) Oz started kM func3
  (ChangeSpec.witness6 (enc:=enc) (C:=checked) false ⟨#[],#[.agg #[JW 0,JW 0,JW 0,JW 0,JW 0,JW 0,JW 0],.slice none 0 0],[]⟩ 8 kM kM kM kM) ?_
 intro W base args ds gs before hval0 hW _ _;have hval:∀ (j:Nat) t v,f3.params[j]?=some t->args[j]?=some v->Value.okWide prog W .any base t v:=hval0;have hW0:=hW;obtain⟨p,q,hA0,hV,_,_,_⟩:=hW0;have hA:DataW.TrodAll enc prog W 0 (λ_=>true) true f3.params.toList args.toList ds p:=hA0;rw[params3]at hA hval;obtain⟨v0,vs0,d0,Jy,p0,q0,hargs,hds0,_,h0,r0⟩:=trodAll_cons hA;obtain⟨v1,vs1,d1,ds1,p1,q1,hvs1,hds1,_,h1,r1⟩:=trodAll_cons r0;obtain⟨hvn,hdn,_⟩:=trodAll_nil r1;subst hvn hdn;subst hvs1 hds1;subst hds0;obtain rfl:args=#[v0,v1]:=by cases args;simp_all
 obtain⟨rfl,_⟩:=trodVars_none hV;obtain⟨Hk,rfl,_⟩:=okWide_struct underlying23 (hval 0 23 v0 rfl rfl);obtain⟨fu0,hf0⟩:=h0;obtain⟨ln0,L0⟩:=Pf 3 23 [5,5,5,5,5,5,5] kM fu0 Hk.toList _ hf0;obtain⟨a0_0,e0_0,w0_0⟩:=cz (k:=.u8) L0 (i:=0) rfl underlying5;obtain⟨a0_1,e0_1,w0_1⟩:=cz (k:=.u8) L0 (i:=1) rfl underlying5;obtain⟨a0_2,e0_2,w0_2⟩:=cz (k:=.u8) L0 (i:=2) rfl underlying5;obtain⟨a0_3,e0_3,w0_3⟩:=cz (k:=.u8) L0 (i:=3) rfl underlying5;obtain⟨a0_4,e0_4,w0_4⟩:=cz (k:=.u8) L0 (i:=4) rfl underlying5;obtain⟨a0_5,e0_5,w0_5⟩:=cz (k:=.u8) L0 (i:=5) rfl underlying5;obtain⟨a0_6,e0_6,w0_6⟩:=cz (k:=.u8) L0 (i:=6) rfl underlying5;obtain rfl:Hk=#[JW a0_0,JW a0_1,JW a0_2,JW a0_3,JW a0_4,JW a0_5,JW a0_6]:=by
  apply Array.toList_inj.1;refine za;match i with
  |0=>
   exact e0_0
  |1=>
   exact e0_1
  |2=>
   exact e0_2
  |3=>
   exact e0_3
  |4=>
   exact e0_4
  |5=>
   exact e0_5
  |6=>
   exact e0_6
  |i+7=>rw[Xa8 (by rw[ln0];simp),Xa8 sM]
 obtain⟨A1,len1,cap1,rfl,l1,c1,x1⟩:=iu (m:=23) underlying24 kM oM h1 (okWide_slice underlying24 (hval 1 24 v1 rfl rfl));unfold maxLen at c1;obtain⟨z1,y1⟩:∃z:Nat->qP,∀i,i<len1->(∃b o,A1=some ⟨b,o,none⟩/\b<W.heap.size/\∀j v,(Ci (z i))[j]?=some v->W.cell? ⟨b,o+i*23+j,none⟩=some v)/\StB W (z i):=by
  refine Go.Deep.choose_lt (p:=λi v=>(∃b o,A1=some ⟨b,o,none⟩/\b<W.heap.size/\∀j x,(Ci v)[j]?=some x->W.cell? ⟨b,o+i*23+j,none⟩=some x)/\StB W v) (λi hi=>?_);obtain⟨b,o,cs,hA,hb,hcl,hc,n,x,hx⟩:=x1 i hi;obtain⟨_,L⟩:=Pf 6 61 [3,3,47,3,3,3,3,3,48,3,3,4,5,51,52,52,48,53,56,3,52,59,56] kM n cs x hx;obtain⟨a0,e0,w0⟩:=cz (k:=.i64) L (i:=0) rfl underlying3;obtain⟨a1,e1,w1⟩:=cz (k:=.i64) L (i:=1) rfl underlying3;obtain⟨a2,e2,w2⟩:=cz (k:=.u64) L (i:=2) rfl underlying47;obtain⟨a3,e3,w3⟩:=cz (k:=.i64) L (i:=3) rfl underlying3;obtain⟨a4,e4,w4⟩:=cz (k:=.i64) L (i:=4) rfl underlying3;obtain⟨a5,e5,w5⟩:=cz (k:=.i64) L (i:=5) rfl underlying3;obtain⟨a6,e6,w6⟩:=cz (k:=.i64) L (i:=6) rfl underlying3;obtain⟨a7,e7,w7⟩:=cz (k:=.i64) L (i:=7) rfl underlying3;obtain⟨A8,n8,c8,_,_,e8,t8⟩:=iy L (i:=8) rfl underlying48;have u8:=kL underlying48 t8;obtain⟨_,_,_,hv,l8,_,x8⟩:=iu (m:=1) underlying48 kM oM t8 ⟨_,_,_,rfl⟩;cases hv;obtain⟨g8,rfl,y8,w8⟩:=kK (k:=.u32) underlying52 x8;obtain⟨a9,e9,w9⟩:=cz (k:=.i64) L (i:=9) rfl underlying3;obtain⟨a10,e10,w10⟩:=cz (k:=.i64) L (i:=10) rfl underlying3;obtain⟨a11,e11⟩:=IZ L (i:=11) rfl underlying4;obtain⟨a12,e12,w12⟩:=cz (k:=.u8) L (i:=12) rfl underlying5;obtain⟨a13,e13,w13⟩:=cz (k:=.u16) L (i:=13) rfl underlying51;obtain⟨a14,e14,w14⟩:=cz (k:=.u32) L (i:=14) rfl underlying52;obtain⟨a15,e15,w15⟩:=cz (k:=.u32) L (i:=15) rfl underlying52;obtain⟨A16,n16,c16,_,_,e16,t16⟩:=iy L (i:=16) rfl underlying48;have u16:=kL underlying48 t16;obtain⟨_,_,_,hv,l16,_,x16⟩:=iu (m:=1) underlying48 kM oM t16 ⟨_,_,_,rfl⟩;cases hv;obtain⟨g16,rfl,y16,w16⟩:=kK (k:=.u32) underlying52 x16;obtain⟨A17,n17,c17,_,_,e17,t17⟩:=iy L (i:=17) rfl underlying53;have u17:=kL underlying53 t17;obtain⟨A18,n18,c18,_,_,e18,t18⟩:=iy L (i:=18) rfl underlying56;have u18:=kL underlying56 t18;obtain⟨_,_,_,hv,l18,_,x18⟩:=iu (m:=1) underlying56 kM oM t18 ⟨_,_,_,rfl⟩;cases hv;obtain⟨g18,rfl,y18,w18⟩:=kK (k:=.u8) underlying5 x18;obtain⟨a19,e19,w19⟩:=cz (k:=.i64) L (i:=19) rfl underlying3;obtain⟨a20,e20,w20⟩:=cz (k:=.u32) L (i:=20) rfl underlying52;obtain⟨A21,n21,c21,_,_,e21,t21⟩:=iy L (i:=21) rfl underlying59;have u21:=kL underlying59 t21;obtain⟨_,_,_,hv,l21,_,x21⟩:=iu (m:=1) underlying59 kM oM t21 ⟨_,_,_,rfl⟩;cases hv;obtain⟨g21,rfl,y21,w21⟩:=kK (k:=.u16) underlying51 x21;obtain⟨A22,n22,c22,_,_,e22,t22⟩:=iy L (i:=22) rfl underlying56;have u22:=kL underlying56 t22;obtain⟨_,_,_,hv,l22,_,x22⟩:=iu (m:=1) underlying56 kM oM t22 ⟨_,_,_,rfl⟩;cases hv;obtain⟨g22,rfl,y22,w22⟩:=kK (k:=.u8) underlying5 x22;obtain⟨xs,rfl⟩:∃xs:List Ex,xs.length=n17:=⟨Xa7 n17 ⟨0,none,0,[]⟩,sM⟩
  refine⟨⟨a0,a1,a2,⟨a3,a4,a5,a6,a7,g8,a9,a10⟩,A8,c8,⟨a11,a12,a13,a14,a15,A16,c16,g16,A17,c17,xs,A18,c18,g18,a19⟩,a20,A21,c21,g21,A22,c22,g22⟩,⟨b,o,hA,hb,λj v hv=>?_⟩,?_⟩
  .match j,hv with
   |0,hv=>
    exact(hc 0 _ e0).trans hv
   |1,hv=>
    exact(hc 1 _ e1).trans hv
   |2,hv=>
    exact(hc 2 _ e2).trans hv
   |3,hv=>
    exact(hc 3 _ e3).trans hv
   |4,hv=>
    exact(hc 4 _ e4).trans hv
   |5,hv=>
    exact(hc 5 _ e5).trans hv
   |6,hv=>
    exact(hc 6 _ e6).trans hv
   |7,hv=>
    exact(hc 7 _ e7).trans hv
   |8,hv=>
    exact(hc 8 _ e8).trans hv
   |9,hv=>
    exact(hc 9 _ e9).trans hv
   |10,hv=>
    exact(hc 10 _ e10).trans hv
   |11,hv=>
    exact(hc 11 _ e11).trans hv
   |12,hv=>
    exact(hc 12 _ e12).trans hv
   |13,hv=>
    exact(hc 13 _ e13).trans hv
   |14,hv=>
    exact(hc 14 _ e14).trans hv
   |15,hv=>
    exact(hc 15 _ e15).trans hv
   |16,hv=>
    exact(hc 16 _ e16).trans hv
   |17,hv=>
    exact(hc 17 _ e17).trans hv
   |18,hv=>
    exact(hc 18 _ e18).trans hv
   |19,hv=>
    exact(hc 19 _ e19).trans hv
   |20,hv=>
    exact(hc 20 _ e20).trans hv
   |21,hv=>
    exact(hc 21 _ e21).trans hv
   |22,hv=>
    exact(hc 22 _ e22).trans hv
   |j+23,hv=>exact absurd hv (by rw[Array.getElem?_eq_none (by show 23<=j+23;omega)];simp)
  .exact⟨⟨(Xb6 w2).1,Int.lt_of_le_of_lt (Xb6 w2).2 dM⟩,Xb5 w20,⟨y8,u8,l8,λz hz=>by have:=Xb5 (w8 z hz);omega⟩,⟨Xb4 w12,Xb7 w13,Xb5 w14,Xb5 w15,Go.bounds_i64 w19⟩,⟨y16,u16,λz hz=>Xb5 (w16 z hz)⟩,u17,⟨y18,u18,λz hz=>Xb4 (w18 z hz)⟩,⟨y21,u21,l21,λz hz=>by have:=Xb7 (w21 z hz);omega⟩,⟨y22,u22,l22,λz hz=>Xb4 (w22 z hz)⟩⟩
 obtain⟨ls,rfl,hls⟩:∃ls:List qP,ls.length=len1/\∀i (h:i<ls.length),ls[i]=z1 i:=⟨(List.range len1).map z1,sM,sM⟩
 have HL:wB W A1 ls:=λi hi=>by rw[hls i hi];exact(y1 i hi).1
 have HB:∀s∈ls,StB W s:=λs hs=>by obtain⟨i,hi,rfl⟩:=Xb0 hs;rw[hls i hi];exact(y1 i hi).2
 refine(Iv (Xb4 w0_0) (Xb4 w0_1) (Xb4 w0_2) (Xb4 w0_3) (Xb4 w0_4) (Xb4 w0_5) (Xb4 w0_6) HL HB lM).mono λe W' ⟨he,hw⟩=>⟨_,he,Ph (tb:=4) kM rfl underlying4 rfl hW rfl ?_⟩
 exact hw
theorem over:Rows.topSafeRow.holds Tryz.pinned (OpenSpec.ofChange Rows.topSafeSpec):=
 OpenClaim.holds_of_wide 3 f3 rfl rfl rfl rfl rfl rfl rfl ⟨rfl,rfl,rfl,rfl,rfl⟩ rfl rfl rfl rfl rfl Pn S3 jf_all S0 SZ
  (λos started H enc _=>lifted os started H enc)
theorem proved:Rows.TopSafeSaid:=over
#print axioms proved
end TopSafe
end
end Go.Proofs.YtnpancjkjheffaaGreat
