/- Part 9 of the proof of TopSafe. No condition. -/
import Derived.Test.YtnpancjkjheffaaGreatP06
namespace Go.Proofs.YtnpancjkjheffaaGreat
set_option linter.unusedVariables false
set_option linter.unusedSimpArgs false
set_option maxRecDepth 100000
set_option maxHeartbeats 8000000
open Go.RowKit
open Go.Proofs.Tryz
open _root_.List renaming getElem?_eq_getElem->PI,length_append->Xa0,getD_eq_getElem?_getD->Xa1,find?_cons_of_neg->Xa2,mem_map->Xa3,flatMap_cons->Xa4,mem_append->Xa5,mem_cons->Xa6,map_cons->Xa7,getElem?_take_of_lt->Xa8,find?_cons_of_pos->Xa9,mem_cons_of_mem->Xb0,mem_map_of_mem->Xb1,getElem_of_mem->Xb2,take_length->Xb3,length_cons->Xb4,map_append->Xb5,append_nil->Xb6
open IntKind renaming u64->Xb7,i64->Xb8
open Value renaming int->Xb9,slice->Xc0
open _root_.Nat renaming le_trans->Xc1,zero_add->Xc2,le_of_eq->Xc3
open World renaming ownsRow_nil->Xc4
open Below renaming trans->Xc5,refl->Xc6
variable {cs cur:Array Value}{e e' x:Int}{l:List Dn}{xs zs zs':List Int}{B L N R T a c cap g i k n:Nat}{A:Option Addr}{t:TypeId}{v:Value}{W' w:World}
def wy(zs:List Int):Int:=zs.foldl (λx b=>x*256+b) 0
theorem B6(zs:List Int)(b:Int):wy (zs++ [b])=wy zs*256+b:=by simp[wy]
def aG(zs:List Int):Prop:=∀z∈zs,0<=z/\z<=255
theorem pZ(h:aG zs)(j:Nat):0<=zs.getD j 0/\zs.getD j 0<=255:=by
 by_cases hj:j<zs.length
 .rw[Xa1,PI hj]
  exact h _ sM
 .rw[Xa1,List.getElem?_eq_none oM]
  simp
theorem aG.take(h:aG zs)(k:Nat):aG (zs.take k):=λz hz=>h z (List.mem_of_mem_take hz)
theorem aG.drop(h:aG zs)(k:Nat):aG (zs.drop k):=λz hz=>h z (List.mem_of_mem_drop hz)
theorem aG.append{ys:List Int}(h:aG zs)(k:aG ys):aG (zs++ys):=λz hz=>(Xa5.1 hz).elim (h z) (k z)
theorem lj(zs:List Int)(j:Nat)(h:j<zs.length):zs.take (j+1)=zs.take j++ [zs.getD j 0]:=VF
theorem Ea(h:aG zs)(j:Nat)(hj:j<=zs.length):0<=wy (zs.take j)/\wy (zs.take j)<256 ^ j:=by
 induction j with
 |zero=>
  simp[wy]
 |succ j ih=>have:=ih oM;obtain⟨b0,b1⟩:=pZ h j;rw[lj zs j oM,B6,Int.pow_succ];omega
theorem SE(x:Nat)(b:Nat)(hx:x<2 ^ 56)(hb:b<256):bits .or .u64 (Xb7.wrap ((x:Int)*256)) (b:Int)=(x:Int)*256+b:=by
 have e1:Xb7.wrap ((x:Int)*256)=((x*256:Nat):Int):=by rw[Rv.Gu];push_cast;omega
 rw[e1,Rv.qN _ _ oM oM];have:x*256|||b=x*256+b:=by have:=Nat.two_pow_add_eq_or_of_lt (i:=8) (b:=b) oM x;rw[show x*256=2 ^ 8*x by omega];omega
 rw[this]
 push_cast
 rfl
def bO(s:List Int×Int)(k:Nat):Int×List Int×Int:=if s.2≠0 then(0,s) else if s.1.length<k then(0,s.1,10) else(wy (s.1.take k),s.1.drop k,0)
theorem eu(h:cu w B c zs e)(hb:aG zs)(k:Nat)(hk0:1<=k)(hk1:k<=8)(n:Int)(hn:n=k)(hr:bO (zs,e) k=(x,zs',e')) :
  az 87 #[OV c,JI n] w λr w'=>r=aA (JU x)/\cu w' B c zs' e'/\ag (λj=>j=c) w w':=by
 subst hn;have m1:(decide ((1:Int)<=(k:Int))&&decide ((k:Int)<=8))=true:=xM;unfold bO at hr;by_cases he:e=0
 .subst he
  simp only[ne_eq,not_true_eq_false,if_false]at hr;by_cases hs:zs.length<k
  .rw[if_pos hs]at hr
   cases hr;refine bI;refine MN;refine(sL H.out _ oM).mono ?_;rintro r w2 ⟨rfl,h2,hc⟩;refine UV;case round=>obtain⟨rfl,rfl⟩:=hrel;refine bj;exact⟨rfl,h2,hc⟩
  .rw[if_neg hs]at hr
   cases hr;refine bI;refine MN;refine(Gy H.out k _ rfl oM).mono ?_;rintro r w2 ⟨v,rfl,hv,h2,hc⟩;obtain⟨A,cap,rfl,hv1⟩:=id hv;have e1:(zs.take k).length=k:=xM;rw[e1]at hv hv1 ⊢;have HV:=OH hv1;clear hv1;have E1:=OH e1;clear e1;refine mn;clear hb;have H2:=OH h2;clear h2;refine ay;go_loop [5,14] (λa i=>∃j:Nat,j<=k/\i=JI j/\a=JU (wy ((zs.take k).take j))) (λ_ i=>k- (intOf i).toNat);case atStart=>exact⟨0,oM,rfl,rfl⟩
   case round=>
    obtain⟨j,hj,rfl,rfl⟩:=hrel;obtain⟨x0,x1⟩:=Ea (HB.out.take k) j Ew;obtain⟨b0,b1⟩:=pZ (HB.out.take k) j;by_cases hlt:j<k
    .obtain⟨g,off,rfl,d⟩:=gG hv (j:=j) Ew
     have hs:=lj (zs.take k) j Ew;have hsn:=B6 ((zs.take k).take j) ((zs.take k).getD j 0);rw[←hs]at hsn;have h7:(256:Nat) ^ j<=256 ^ 7:=Nat.pow_le_pow_right dM oM;have h8:(256:Int) ^ j=((256 ^ j:Nat):Int):=by push_cast;rfl
     rw[h8]at x1;have hor:=SE (wy ((zs.take k).take j)).toNat ((zs.take k).getD j 0).toNat oM oM;rw[Int.toNat_of_nonneg x0,Int.toNat_of_nonneg b0,←hsn]at hor;have HO:=OH hor;clear hor;clear hsn hs h7 h8;generalize hX:wy ((zs.take k).take j)=X at *;generalize hY:(zs.take k).getD j 0=Y at *;have HX:=OH hX;clear hX;have HY:=OH hY;clear hY;refine ay;go_round;case rel=>exact⟨j+1,oM,eT,by rw[←HO.out]⟩
     case measure=>exact di
    .have hjk:j=k:=oM
     subst hjk;refine bj;have et:(zs.take j).take j=zs.take j:=List.take_of_length_le Ew;exact⟨congrArg (λl=>Ending.returned (JU (wy l))) et,H2.out,hc⟩
 .rw[if_pos he]at hr
  cases hr;refine bI;refine MN;refine(AU H.out he _ _).mono ?_;rintro r w2 ⟨rfl,rfl⟩;refine UV;case round=>obtain⟨rfl,rfl⟩:=hrel;refine bj;exact⟨rfl,H.out,ag.refl _ _⟩
def gJ(s:List Int×Int)(n:Int):List Int×List Int×Int:=if s.2≠0 then([],s) else if n<0 then([],s.1,1) else if(s.1.length:Int)<n then([],s.1,10) else(s.1.take n.toNat,s.1.drop n.toNat,0)
theorem Hm(h:cu w B c zs e)(n:Int)(hr:gJ (zs,e) n=(xs,zs',e')) :
  az 171 #[OV c,JI n] w λr w'=>∃v,r=aA v/\BR w' B v xs/\cu w' B c zs' e'/\ag (λj=>j=c) w w':=by
 unfold gJ at hr;refine bI;by_cases he:e=0
 .subst he
  simp only[ne_eq,not_true_eq_false,if_false]at hr;by_cases h0:n<0
  .rw[if_pos h0]at hr
   cases hr;have d0:decide ((0:Int)<=n)=false:=by simpa using h0
   refine Fj;refine(NL H.out _).mono ?_;exact VT
  .rw[if_neg h0]at hr
   have d0:decide ((0:Int)<=n)=true:=xM;by_cases hs:(zs.length:Int)<n
   .rw[if_pos hs]at hr
    cases hr;refine Fj;refine(sL H.out _ hs).mono ?_;exact VT
   .rw[if_neg hs]at hr
    cases hr;refine Fj;refine(Gy H.out n.toNat _ oM oM).mono ?_;rintro r w2 ⟨v,rfl,hv,h2,hc⟩;refine bj;exact⟨_,rfl,hv,h2,hc⟩
 .rw[if_pos he]at hr
  cases hr;refine Fj;refine(AU H.out he _ _).mono ?_;rintro r w2 ⟨rfl,rfl⟩;refine bj;exact⟨_,rfl,eq _ _,H.out,ag.refl _ _⟩
def lK(w:World)(A:Option Addr)(ps:List (Int×Int)):Prop:=
 ∀i,i<ps.length->∃b o,A=some ⟨b,o,none⟩/\b<w.heap.size/\w.cell? ⟨b,o+i*2,none⟩=some (JU (ps.getD i (0,0)).1)/\w.cell? ⟨b,o+i*2+1,none⟩=some (JI (ps.getD i (0,0)).2)
theorem lK.below{w':World}{ps:List (Int×Int)}(h:lK w A ps)(hB:B=w.heap.size)(hb:Below B w w'):lK w' A ps:=by subst hB;intro i hi;obtain⟨b,o,h1,h2,h3,h4⟩:=h i hi;exact⟨b,o,h1,Nat.lt_of_lt_of_le h2 hb.size,(hb.cell (p:=⟨b,_,none⟩) h2).trans h3,(hb.cell (p:=⟨b,_,none⟩) h2).trans h4⟩
def gt(x:Int)(s:Nat):Nat->List Int
 |0=> []
 |n+1=>gt x s n++ [x / 2 ^ (8*(s-1-n)) % 256]
theorem gQ(x:Int)(s n:Nat):(gt x s n).length=n:=by
 induction n with
 |zero=>
  rfl
 |succ n ih=>simp[gt,ih]
theorem ux(x:Int)(s n:Nat):aG (gt x s n):=by
 induction n with
 |zero=>
  intro z hz;cases hz
 |succ n ih=>exact ih.append (λz hz=>by simp at hz;subst hz;omega)
def kI(p:Int×Int):List Int:=if 1<=p.2/\p.2<=8 then gt p.1 p.2.toNat p.2.toNat else []
def dR(ps:List (Int×Int)):List Int:=ps.flatMap kI
theorem fh(ps:List (Int×Int)):aG (dR ps):=by
 intro z hz;obtain⟨p,_,hp⟩:=List.mem_flatMap.1 hz;unfold kI at hp;split at hp
 .exact ux _ _ _ z hp
 .cases hp
theorem IP(ps:List (Int×Int))(p:Int×Int):dR (ps++ [p])=dR ps++kI p:=by simp[dR]
theorem Ot(p:Int×Int):(kI p).length<=8:=by
 unfold kI;split
 .rw[gQ]
  omega
 .simp
theorem oU(ps:List (Int×Int)):(dR ps).length<=ps.length*8:=by
 induction ps with
 |nil=>
  simp[dR]
 |cons p ps ih=>have:=Ot p;simp only[dR,Xa4,Xa0,Xb4]at *;omega
theorem Cz(ps:List (Int×Int))(j:Nat)(h:j<ps.length):ps.take (j+1)=ps.take j++ [ps.getD j (0,0)]:=VF
theorem GN(w:World)(A:Option Addr)(n cap:Nat)(ps:List (Int×Int))(hn:ps.length=n)(hl:n<=10000)(hp:lK w A ps)(hx:∀p∈ps,0<=p.1/\p.1<2 ^ 64/\ -100000<=p.2/\p.2<=100000) :
  az 77 #[.slice A n cap] w λr w'=>∃v,r=aA v/\w'.ownsRow w.heap.size 5 1 v (dR ps).length ((dR ps).map (Xb9 .u8))/\aC w w':=by
 refine vl;subst hn;refine rK;refine nG;clear hx;go_enter func77,ntmps77;refine ay;go_loopw [3,9] (λv i wr=>∃k:Nat,k<=ps.length/\i=JI k/\wr.ownsRow w.heap.size 5 1 v (dR (ps.take k)).length ((dR (ps.take k)).map (Xb9 .u8))/\aC w wr) (λ_ i _=>ps.length- (intOf i).toNat);case atStart=>exact LK
 case round=>
  refine EO;have z0:=hB.size;have hlen:=oU (ps.take k);have hk2:(ps.take k).length<=k:=xM;generalize hL:dR (ps.take k)=L at *;by_cases hlt:k<ps.length
  .obtain⟨b,o,rfl,hb,d0,d1⟩:=HP.out k hlt
   replace d0:=(hB.cell (p:=⟨b,o+k*2,none⟩) hb).trans d0;replace d1:=(hB.cell (p:=⟨b,o+k*2+1,none⟩) hb).trans d1;obtain⟨x0,x1,s0,s1⟩:=HX.out (ps.getD k (0,0)) Kh;have hst:dR (ps.take (k+1))=L++kI (ps.getD k (0,0)):=by rw[Cz ps k hlt,IP,hL]
   generalize ps.getD k (0,0)=p at *;obtain⟨x,s⟩:=p;dsimp only at d0 d1 x0 x1 s0 s1 hst;refine qg;clear hst;have HL:=OH hL;clear hL;refine ay;refine(O0 _ _).mono ?_;rintro r w1 ⟨rfl,rfl⟩;by_cases hm:1<=s/\s<=8
   .have m1:(decide (1<=s)&&decide (s<=8))=true:=xM
    obtain⟨S,rfl⟩:∃S:Nat,s=S:=⟨s.toNat,oM⟩
    rw[m1];have h0:(wr.alloc (.cells #[JU x,JI S] 185)).heap[wr.heap.size]?=OC #[JU x,JI S] 185:=ao _ _ _ rfl;have hB1:aC w (wr.alloc (.cells #[JU x,JI S] 185)):=gM;have hown0:=hown.alloc (.cells #[JU x,JI S] 185);obtain⟨c0,f0,y0⟩:=ab h0;refine ay;go_loopw [3,19] (λv i wx=>∃j:Nat,j<=S/\i=JI j/\wx.ownsRow w.heap.size 5 1 v (L++gt x S j).length ((L++gt x S j).map (Xb9 .u8))/\wx.heap[wr.heap.size]?=OC #[JU x,JI S] 185/\aC w wx) (λ_ i _=>S- (intOf i).toNat);case atStart=>exact⟨0,oM,rfl,by simpa[gt]using hown0,h0,hB1⟩
    case round=>
     clear hown0 h0 hB1 c0 f0 y0 hown;obtain⟨j,hj,rfl,hown,h0,hB1⟩:=hrel;obtain⟨c0,f0,y0⟩:=ab h0;have z1:=hB1.size;have hll:=gQ x S j;by_cases hjs:j<S
     .go_wp2_with (first
       |(at_builtin;refine wpList_append_own _ rfl (.tmp 22) (.tmp 33) 56 rfl w.heap.size 5 i0 (JW 0) 1 1 underlying56 hi hz0 hz1 hz2 rfl dM _ _ _ rfl (hown.alloc _) ⟨wr.heap.size,0,none⟩ 1 1 [JW (x / 2 ^ (8*(S-1-j)) % 256)] rfl rfl mf oe If Ie (by have:=hB1.size;simp;omega) ?_;intro v1 w1 hown1 hgrow1 _))
      go_roundw;case rel=>exact⟨j+1,oM,eT,by simpa[gt,Nat.add_assoc]using hown1,aV (hown.alloc _) hgrow1 (ai h0) dM,bq (Below.alloc hB1 z1 _) xM (hown.alloc _) hgrow1⟩
      case measure=>exact di
     .have hjS:j=S:=oM
      subst hjS;have hpf:kI (x,(j:Int))=gt x j j:=by unfold kI;rw[if_pos hm];simp
      refine dA;case rel=>exact⟨k+1,oM,eT,by rw[HST.out,hpf];exact hown,hB1⟩
      case measure=>exact di
   .have m1:(decide (1<=s)&&decide (s<=8))=false:=xM
    have hpf:kI (x,s)=[]:=if_neg hm;rw[m1];refine dA;case rel=>exact⟨k+1,oM,eT,by rw[HST.out,hpf,Xb6];exact hown.alloc _,gM⟩
    case measure=>exact di
  .have hkl:k=ps.length:=oM
   subst hkl;rw[Xb3]at hL;subst hL;refine bj;exact⟨_,rfl,hown,hB⟩
theorem Tl:(prog.info? 185).map (λi=>(i.zero,i.size,i.bytes))=some (some (.agg #[JU 0,JI 0]),2,16):=kM
abbrev paC(x:Int×Int):List Value:=[JU x.1,JI x.2]
theorem GQ(x:Int×Int):(paC x).length=2:=rfl
theorem pW(x s m:Int)(w:World)(hs:(s=1/\m=256)\/(s=2/\m=65536)):az 75 #[JI x,JI s] w λr w'=>r=aA (.bool (decide (0<=x)&&decide (x<m)))/\w'=w:=by
 rcases hs with⟨rfl,rfl⟩|⟨rfl,rfl⟩;all_goals
  generalize h1:decide (0<=x)=a;generalize h2:decide (x<_)=b;cases a<;>cases b<;>(go_enter func75,ntmps75;go_wp2_with fail;go_ret;exact⟨rfl,rfl⟩)
def T5(N T:Nat)(ps:List (Int×Int))(u:World):Prop:=N<=u.heap.size/\N<=T/\∃v,u.heap[T]?=OC #[v] 186/\u.ownsRow N 185 2 v ps.length (ps.flatMap paC)
theorem OQ{ps:List (Int×Int)}(x s:Int)(u:World)(hx:0<=x/\x<2 ^ 63)(hr:ps.length<=1000)(h:T5 N T ps u) :
  az 76 #[JI x,JI s,OV T] u λe u'=>e=aA (.tuple #[])/\T5 N T (ps++ [(x,s)]) u'/\Below N u u'/\uj 50 u u':=by
 refine Lb;obtain⟨k1,k2,v,k3,hown⟩:=h;obtain⟨A,cap,rfl⟩:=aj hown;obtain⟨c3,f3,z3⟩:=ab k3;have hxw:Xb7.wrap x=x:=qk
 go_enter func76,ntmps76;go_wp2_with (first|(at_builtin;refine wpList_append_own _ rfl (.tmp 5) (.tmp 10) 186 rfl N 185 i0 _ 2 16 underlying186 hi hz0 hz1 hz2 rfl dM _ _ _ rfl (hown.alloc _) ⟨u.heap.size,0,none⟩ 1 1 [JU x,JI s] rfl rfl mf oe lM oM xM ?_;intro v1 u1 hown1 hgrow1 _;obtain⟨A1,cap1,rfl⟩:=aj hown1;have hT3:=aV (t:=186) (hown.alloc _) hgrow1 (ai k3) dM;obtain⟨c9,f9,z9⟩:=ab hT3))
 have hz1:=hgrow1.size;go_end0;have hc2:ag (λb=>b=T\/N<=b) u u1:=ag.grown (v:=.slice A ps.length cap) (ag.alloc (ag.refl _ u) _) hgrow1 (λk hk _=> .inr (eV hown k hk));have hc3:ag (λb=>b=T\/N<=b) u (u1.setCell ⟨T,0,none⟩ (.slice A1 (ps.length+1) cap1)):=jh (.inl (.inl rfl)) hc2;refine⟨rfl,⟨by rw[ic];have:=hc2.size;omega,k2,_,av 0 _ hT3,?_⟩,hc3.below (λj q=>oM) k1,λb cur hb=>?_⟩
 .have hq:(ps++ [(x,s)]).flatMap paC=ps.flatMap paC++ [JU x,JI s]:=sM
  exact Va
 .exact aN (λq=>KB) (aV (t:=50) (hown.alloc _) hgrow1 (ai hb) dM)
theorem vV{ps:List (Int×Int)}(h:w.ownsRow B 185 2 (.slice A n cap) n (ps.flatMap paC)):ps.length=n/\lK w A ps:=by
 have hn:ps.length=n:=by have:=h.1;rw[bX GQ]at this;omega
 refine⟨hn,λi hi=>?_⟩;rcases h.2 with⟨h1,h0⟩|⟨g,cap',cur,h1,h2,h3,h4,h5,h6,h7⟩
 .exact absurd hi (by have:=h.1;rw[h0]at this;simp at this;omega)
 .cases h1
  subst hn;obtain⟨c0,f0,z0⟩:=ab h3;have key:∀j,j<2->cur[i*2+j]?=(paC ps[i])[j]?:=λj hj=>by have hlt:i*2+j<ps.length*2:=oM;rw[←bY GQ ps i j hi hj,←h7,Xa8 hlt,Array.getElem?_toList]
  have hgd:ps.getD i (0,0)=ps[i]:=by simp[List.getD,hi]
  rw[hgd];exact⟨g,0,rfl,z0,by rw[Xc2,c0];exact key 0 dM,by rw[Xc2,c0];exact key 1 dM⟩
def dO(id:Int)(q:Rq):List (Int×Int):=[(id,8),(q.kind,1),(q.who,2),(q.room,1),(q.rights,1),(q.track,2),(q.layer,1),(q.tid,1),(q.ss.length,1)] ++q.ss.map λx=>(x,4)
def gI(x m:Int):Bool:=decide (0<=x)&&decide (x<m)
def Jq(q:Rq):Bool:=!decide (q.kind<0)&&!decide (9<q.kind)&&gI q.who 65536&&gI q.room 256&&gI q.rights 256&&gI q.track 65536&&gI q.layer 256&&gI q.tid 256&&!decide (255<(q.ss.length:Int))
theorem first9:∀a b c d e f g h i:Bool,(a=true)\/(a=false/\b=true)\/(a=false/\b=false/\c=false)\/(a=false/\b=false/\c=true/\d=false)\/(a=false/\b=false/\c=true/\d=true/\e=false)\/(a=false/\b=false/\c=true/\d=true/\e=true/\f=false)\/(a=false/\b=false/\c=true/\d=true/\e=true/\f=true/\g=false)\/(a=false/\b=false/\c=true/\d=true/\e=true/\f=true/\g=true/\h=false)\/(a=false/\b=false/\c=true/\d=true/\e=true/\f=true/\g=true/\h=true/\i=true)\/(a=false/\b=false/\c=true/\d=true/\e=true/\f=true/\g=true/\h=true/\i=false):=by intro a b c d e f g h i;cases a<;>simp;cases b<;>simp;cases c<;>simp;cases d<;>simp;cases e<;>simp;cases f<;>simp;cases g<;>simp;cases h<;>simp
theorem Og(id:Int)(q:Rq)(hid:0<=id/\id<2 ^ 64)(hq:rh w A cap q) :
  az 41 #[JU id,.agg (fq q A cap)] w λe w'=>(∃v err,e=aA (.tuple #[v,JI err])/\(err=0->Jq q=true/\w'.ownsRow w.heap.size 5 1 v (dR (dO id q)).length ((dR (dO id q)).map (Xb9 .u8)))/\(Jq q=true->err=0))/\aC w w':=by
 have hF:Jq q=(!decide (q.kind<0)&&!decide (9<q.kind)&&gI q.who 65536&&gI q.room 256&&gI q.rights 256&&gI q.track 65536&&gI q.layer 256&&gI q.tid 256&&!decide (255<(q.ss.length:Int))):=rfl;have i3:=λW=>pW q.who 2 65536 W (.inr ⟨rfl,rfl⟩)
 have i4:=λW=>pW q.room 1 256 W (.inl ⟨rfl,rfl⟩)
 have i5:=λW=>pW q.rights 1 256 W (.inl ⟨rfl,rfl⟩)
 have i6:=λW=>pW q.track 2 65536 W (.inr ⟨rfl,rfl⟩)
 have i7:=λW=>pW q.layer 1 256 W (.inl ⟨rfl,rfl⟩)
 have i8:=λW=>pW q.tid 1 256 W (.inl ⟨rfl,rfl⟩)
 have e0:∀x m,(decide (0<=x)&&decide (x<m))=gI x m:=λ_ _=>rfl
 simp only[e0]at i3 i4 i5 i6 i7 i8;have n3:gI q.who 65536=true->0<=q.who/\q.who<65536:=by simp[gI]
 have n4:gI q.room 256=true->0<=q.room/\q.room<256:=by simp[gI]
 have n5:gI q.rights 256=true->0<=q.rights/\q.rights<256:=by simp[gI]
 have n6:gI q.track 65536=true->0<=q.track/\q.track<65536:=by simp[gI]
 have n7:gI q.layer 256=true->0<=q.layer/\q.layer<256:=by simp[gI]
 have n8:gI q.tid 256=true->0<=q.tid/\q.tid<256:=by simp[gI]
 obtain⟨b1,g1⟩:∃b,decide (q.kind<0)=b:=⟨_,rfl⟩
 obtain⟨b2,g2⟩:∃b,decide (9<q.kind)=b:=⟨_,rfl⟩
 obtain⟨b9,g9⟩:∃b,decide (255<(q.ss.length:Int))=b:=⟨_,rfl⟩
 rw[g1,g2,g9]at hF;generalize gI q.who 65536=b3 at hF i3 n3;generalize gI q.room 256=b4 at hF i4 n4;generalize gI q.rights 256=b5 at hF i5 n5;generalize gI q.track 65536=b6 at hF i6 n6;generalize gI q.layer 256=b7 at hF i7 n7;generalize gI q.tid 256=b8 at hF i8 n8;have HF:=OH hF;clear hF;have I3:=OH i3;clear i3;have I4:=OH i4;clear i4;have I5:=OH i5;clear i5;have I6:=OH i6;clear i6;have I7:=OH i7;clear i7;have I8:=OH i8;clear i8;have N3:=OH n3;clear n3;have N4:=OH n4;clear n4;have N5:=OH n5;clear n5;have N6:=OH n6;clear n6;have N7:=OH n7;clear n7;have N8:=OH n8;clear n8;refine nF;clear hq;clear e0;rcases first9 b1 b2 b3 b4 b5 b6 b7 b8 b9 with rfl|⟨rfl,rfl⟩|⟨rfl,rfl,rfl⟩|⟨rfl,rfl,rfl,rfl⟩|⟨rfl,rfl,rfl,rfl,rfl⟩|⟨rfl,rfl,rfl,rfl,rfl,rfl⟩|⟨rfl,rfl,rfl,rfl,rfl,rfl,rfl⟩|⟨rfl,rfl,rfl,rfl,rfl,rfl,rfl,rfl⟩|⟨rfl,rfl,rfl,rfl,rfl,rfl,rfl,rfl,rfl⟩|⟨rfl,rfl,rfl,rfl,rfl,rfl,rfl,rfl,rfl⟩;iterate 9 (focus(go_enter func41,ntmps41;go_wp2_with (first|((with_reducible refine(I3.out _).mono ?_);rintro e w1 ⟨rfl,rfl⟩)|((with_reducible refine(I4.out _).mono ?_);rintro e w1 ⟨rfl,rfl⟩)|((with_reducible refine(I5.out _).mono ?_);rintro e w1 ⟨rfl,rfl⟩)|((with_reducible refine(I6.out _).mono ?_);rintro e w1 ⟨rfl,rfl⟩)|((with_reducible refine(I7.out _).mono ?_);rintro e w1 ⟨rfl,rfl⟩)|((with_reducible refine(I8.out _).mono ?_);rintro e w1 ⟨rfl,rfl⟩));go_ret2;exact⟨⟨_,_,rfl,λh=>absurd h dM,λh=>absurd (HF.out.symm.trans h) sM⟩,gM⟩))
 (go_enter func41,ntmps41;go_wp2_with (first|((with_reducible refine(I3.out _).mono ?_);rintro e w1 ⟨rfl,rfl⟩)|((with_reducible refine(I4.out _).mono ?_);rintro e w1 ⟨rfl,rfl⟩)|((with_reducible refine(I5.out _).mono ?_);rintro e w1 ⟨rfl,rfl⟩)|((with_reducible refine(I6.out _).mono ?_);rintro e w1 ⟨rfl,rfl⟩)|((with_reducible refine(I7.out _).mono ?_);rintro e w1 ⟨rfl,rfl⟩)|((with_reducible refine(I8.out _).mono ?_);rintro e w1 ⟨rfl,rfl⟩)));have hk0:0<=q.kind/\q.kind<=9:=by simp at g1 g2;omega
 have hq:=HQ.out;have hbn:∀x,x∈ [q.kind,q.who,q.room,q.rights,q.track,q.layer,q.tid,(q.ss.length:Int)]->0<=x/\x<2 ^ 63:=by have n3:=N3.out yO;have n4:=N4.out yO;have n5:=N5.out yO;have n6:=N6.out yO;have n7:=N7.out yO;have n8:=N8.out yO;have hl:=hq.2.2.2.1;intro x hx;simp only[Xa6,List.not_mem_nil,or_false]at hx;omega
 have BN:=OH hbn;clear hbn hk0;obtain⟨W,hW⟩:∃W,W=((w.alloc (.cells (fq q A cap) 50)).alloc (.cells #[JU id,JI 8] 185)).alloc (.cells #[.slice (some ⟨w.heap.size+1,0,none⟩) 1 1] 186):=⟨_,rfl⟩
 rw[←hW];have hJ:T5 w.heap.size (w.heap.size+1+1) [(id,8)] W:=by
  refine⟨?_,oM,.slice (some ⟨w.heap.size+1,0,none⟩) 1 1,Eu,?_⟩
  .rw[hW]
   simp only[aD];omega
  .exact⟨rfl,.inr ⟨w.heap.size+1,1,#[JU id,JI 8],rfl,oM,Eu,sM,lM,rfl,rfl⟩⟩
 have hZ:W.heap[w.heap.size]?=OC (fq q A cap) 50:=kr
 have hB:aC w W:=by rw[hW];go_grown
 refine sd;have hl9:q.ss.length<=255:=by simp at g9;omega
 clear hW g1 g2 g9;iterate 8
  (with_reducible refine(OQ _ _ _ (BN.out _ sM) sM hJ).mono ?_);rintro e w1 ⟨rfl,hJ1,hb1,hk1⟩;have hZ1:=hk1 _ _ hZ;have hB1:=hB.trans hb1;clear hJ hZ hB c0 f0 z0 hb1 hk1;obtain⟨hJ,hZ,hB⟩:=And.intro hJ1 (And.intro hZ1 hB1);clear hJ1 hZ1 hB1;obtain⟨c0,f0,z0⟩:=ab hZ;go_wp2_with fail
 simp only[List.cons_append,List.nil_append]at hJ;obtain⟨bs,hbs⟩:∃bs:List (Int×Int),bs=[(id,8),(q.kind,1),(q.who,2),(q.room,1),(q.rights,1),(q.track,2),(q.layer,1),(q.tid,1),((q.ss.length:Int),1)]:=⟨_,rfl⟩
 rw[←hbs]at hJ;have hpf:dO id q=bs++q.ss.map λx=>(x,4):=by rw[hbs];rfl
 have HPF:=OH hpf;clear hpf;have HBS:=OH hbs;clear hbs;have hbl:bs.length=9:=by rw[HBS.out];rfl
 have HBL:=OH hbl;clear hbl;go_loopw [9,100] (λ_ i wr=>∃k:Nat,k<=q.ss.length/\i=JI k/\T5 w.heap.size (w.heap.size+1+1) (bs++(q.ss.take k).map λx=>(x,4)) wr/\wr.heap[w.heap.size]?=OC (fq q A cap) 50/\aC w wr) (λ_ i _=>q.ss.length- (intOf i).toNat);case atStart=>exact⟨0,oM,rfl,by simpa using hJ,hZ,hB⟩
 case round=>
  clear hJ hZ hB c0 f0 z0;obtain⟨k,hk,rfl,hJ,hZ,hB⟩:=hrel;refine sd;by_cases hlt:k<q.ss.length
  .obtain⟨b,o,rfl,hb,hc⟩:=(HQ.out.1.below rfl hB) k hlt
   have hst:(q.ss.take (k+1)).map (λx=>(x,(4:Int)))=(q.ss.take k).map (λx=>(x,4))++ [(q.ss.getD k 0,4)]:=by rw[lj q.ss k hlt,Xb5];rfl
   obtain⟨z1,z2⟩:=HQ.out.2.2.2.2 (q.ss.getD k 0) (by rw[Xa1,PI hlt,Option.getD_some];exact List.getElem_mem hlt);generalize q.ss.getD k 0=z at hst hc z1 z2;have HST:=OH hst;clear hst;have hzw:Xb8.wrap z=z:=kA
   have hln:(bs++(q.ss.take k).map λx=>(x,(4:Int))).length<=1000:=by have:=HBL.out;simp only[Xa0,List.length_map,List.length_take];omega
   refine ay;refine(OQ _ _ _ ⟨z1,oM⟩ hln hJ).mono ?_;rintro e w1 ⟨rfl,hJ1,hb1,hk1⟩;refine dA;case rel=>exact⟨k+1,oM,eT,by rw[HST.out,←List.append_assoc];exact hJ1,hk1 _ _ hZ,hB.trans hb1⟩
   case measure=>exact di
  .have hkl:k=q.ss.length:=oM
   subst hkl;rw[Xb3,←HPF.out]at hJ;obtain⟨j1,j2,v,j3,hown⟩:=hJ;obtain⟨A',cap',rfl⟩:=aj hown;obtain⟨c3,f3,z3⟩:=ab j3;have hpl:(dO id q).length<=10000:=by have:=HBL.out;have:=HQ.out.2.2.2.1;rw[HPF.out];simp;omega
   have hpb:∀p∈dO id q,0<=p.1/\p.1<2 ^ 64/\ -100000<=p.2/\p.2<=100000:=by
    intro p hp;rw[HPF.out,Xa5]at hp;rcases hp with hp|hp
    .rw[HBS.out]at hp
     refine qF;rcases hp with rfl|rfl|rfl|rfl|rfl|rfl|rfl|rfl|rfl
     .exact UJ
     all_goals exact⟨(BN.out _ sM).1,Int.lt_trans (BN.out _ sM).2 dM,gY,gY⟩
    .obtain⟨x,hx,rfl⟩:=Xa3.1 hp
     have:=HQ.out.2.2.2.2 x hx;exact⟨this.1,gY,gY,gY⟩
   have hp:=GN _ A' _ cap' (dO id q) rfl hpl (vV hown).2 hpb;refine nL;clear hp hpb;refine qy;rintro e w2 ⟨v2,rfl,hown2,hb2⟩;refine df;exact⟨⟨_,_,rfl,λ_=>⟨HF.out.trans sM,aW hown2 hB.size⟩,λ_=>rfl⟩,hB.trans (hb2.mono hB.size)⟩
theorem kG{P:Program}{fn:Func}{R:Ending->World->Prop}{a:Act}{w:World}{p u v:Tmp}{ty:TypeId}{g:Nat}{d:TypeDesc}(h:fn.results=#[.tmp u,.cell p ty,.tmp v])(hp:a.tmps.getD p undef=OV g)(hu:P.underlying ty=some d)(hd:(match d with|.struct _|.array _ _=>true|_=>false)=true)(hz:a.defers=[])(key:∃cs t,w.heap[g]?=OC cs t/\(P.info? ty).map (·.size)=some cs.size/\R (.returned (.tuple #[a.tmps.getD u undef,.agg cs,a.tmps.getD v undef])) w):bodyPost P fn R .ret a w:=by
 obtain⟨cs,t,h1,h2,h3⟩:=key;refine bodyPost_ret (v:=.tuple #[a.tmps.getD u undef,.agg cs,a.tmps.getD v undef]) ?_ hz h3;have hp':a.tmps[p]?.getD undef=OV g:=by simpa using hp
 simp[results,h,hp',asAddr,run_loadVar_row w g t ty cs (0,0) d h1 hu hd h2]
theorem mZ(hb:aG zs)(h:bO (zs,e) k=(x,zs',e')):aG zs'/\0<=x/\x<256 ^ k:=Zw
structure RJ(N T c R:Nat)(zs:List Int)(e:Int)(W:World):Prop where
 n:N<=W.heap.size
 nc:N<=c
 t:W.heap[T]?=OC #[OV c] 193
 r:W.heap[R]?=OC #[JI 0,JI 0,JI 0,JI 0,JI 0,.slice none 0 0,JI 0,JI 0] 50
 cut:cu W N c zs e
 b:aG zs
theorem RJ.ctype{W:World}(h:RJ N T c R zs e W)(hi:W.heap[i]?=OC cs t)(ht:t≠274):i≠c:=λq=>by obtain⟨v,k,_⟩:=h.cut;subst q;exact au hi ht k
theorem RJ.keep{W:World}(h:RJ N T c R zs e W)(hc:ag (λj=>j=c) W W')(hi:W.heap[i]?=OC cs t)(ht:t≠274:=by decide):W'.heap[i]?=OC cs t:=ae hc hi (h.ctype hi ht)
theorem RJ.chg{W:World}{S:Nat->Prop}(h:RJ N T c R zs e W)(hc:ag S W W')(h1:¬S T)(h2:¬S R)(h3:¬S c)(h5:jF S W):RJ N T c R zs e W':=
 ⟨Xc1 h.n hc.size,h.nc,ae hc h.t h1,ae hc h.r h2,h.cut.kept hc h3 h5,h.b⟩
theorem RJ.set{Z:Nat}{W:World}(h:RJ N T c R zs e W)(hZ:W.heap[Z]?=OC cs 50)(hR:R≠Z):RJ N T c R zs e (W.setCell ⟨Z,i,none⟩ v):=
 h.chg (S:=λj=>j=Z) (ag.set (S:=λj=>j=Z) dp ⟨Z,i,none⟩ (.inl rfl) _) (λq=>au h.t (show(193:TypeId)≠50 by decide) (q ▸ hZ)) hR (λq=>h.ctype hZ dM q.symm) (ci hZ dM)
theorem R4{W:World}(h:RJ N T c R zs e W)(k:Nat)(n:Int)(hr:bO (zs,e) k=(x,zs',e'))(hk:1<=k/\k<=8:=by decide)(hn:n=k:=by first|rfl|simp) :
  az 87 #[OV c,JI n] W λr w'=>r=aA (JU x)/\RJ N T c R zs' e' w'/\ag (λj=>j=c) W w':=
 (eu h.cut h.b k hk.1 hk.2 n hn hr).mono λr w' ⟨a,b,d⟩=>⟨a,⟨Xc1 h.n d.size,h.nc,h.keep d h.t,h.keep d h.r,b,(mZ h.b hr).1⟩,d⟩
theorem lz{W:World}(h:RJ N T c R zs e W)(k:Nat)(n:Int)(hr:bO (zs,e) k=(x,zs',e'))(hk:1<=k/\k<=4:=by decide)(hn:n=k:=by first|rfl|simp) :
  az 149 #[JI n,OV T] W λr w'=>r=aA (JI x)/\RJ N T c R zs' e' w'/\ag (λj=>j=c) W w':=by
 obtain⟨hb',x0,x1⟩:=mZ h.b hr;subst hn;have x2:(256:Int) ^ k<=256 ^ 4:=by have:k=1\/k=2\/k=3\/k=4:=oM;rcases this with rfl|rfl|rfl|rfl<;>decide
 have hx:Xb8.wrap x=x:=kA
 have hc:=eu h.cut h.b k hk.1 oM k rfl hr;refine nE;obtain⟨c0,f0,z0⟩:=ab h.t;refine bI;go_enter func149,ntmps149;refine ED;rintro r w1 ⟨rfl,hcut,hc1⟩;refine bj;have h:=H.out;exact⟨rfl,⟨Xc1 h.n hc1.size,h.nc,h.keep hc1 h.t,h.keep hc1 h.r,hcut,hb'⟩,hc1⟩
def dL:Nat->List Int×Int->List Int×List Int×Int
 |0,s=>([],s)
 |n+1,s=>((dL n s).1++ [(bO (dL n s).2 4).1],(bO (dL n s).2 4).2)
def ez(zs:List Int):Int×Rq×Int:=
 let a0:=bO (zs,0) 8
 let a1:=bO a0.2 1
 let a2:=bO a1.2 2
 let a3:=bO a2.2 1
 let a4:=bO a3.2 1
 let a5:=bO a4.2 2
 let a6:=bO a5.2 1
 let a7:=bO a6.2 1
 let a8:=bO a7.2 1
 let l:=dL a8.1.toNat a8.2
 let e:=if l.2.2=0 then if 9<a1.1 then 11 else if 0<l.2.1.length then 12 else 0 else l.2.2
 if e=0 then(a0.1,⟨a1.1,a2.1,a3.1,a4.1,a5.1,l.1,a6.1,a7.1⟩,0) else(0,⟨0,0,0,0,0,[],0,0⟩,e)
theorem C8(n:Nat)(s:List Int×Int)(h:dL n s=(xs,zs,e))(h2:bO (zs,e) 4=(x,zs',e')):dL (n+1) s=(xs++ [x],zs',e'):=by simp only[dL,h,h2]
theorem pR(s:List Int×Int):∀n,(dL n s).1.length=n
 |0=>
  rfl
 |n+1=>by rw[dL,Xa0,pR s n];rfl
theorem vW{z0 z1 z2 z3 z4 z5 z6 z7 z8:List Int}{x0 x1 x2 x3 x4 x5 x6 x7 e0 e1 e2 e3 e4 e5 e6 e7 e8:Int}{m:Nat}(r0:bO (zs,0) 8=(x0,z0,e0))(r1:bO (z0,e0) 1=(x1,z1,e1))(r2:bO (z1,e1) 2=(x2,z2,e2))(r3:bO (z2,e2) 1=(x3,z3,e3))(r4:bO (z3,e3) 1=(x4,z4,e4))(r5:bO (z4,e4) 2=(x5,z5,e5))(r6:bO (z5,e5) 1=(x6,z6,e6))(r7:bO (z6,e6) 1=(x7,z7,e7))(r8:bO (z7,e7) 1=((m:Int),z8,e8))(hL:dL m (z8,e8)=(xs,zs',e'))(e:Int)(he:(if e'=0 then if 9<x1 then 11 else if 0<zs'.length then 12 else 0 else e')=e) :
  ez zs=if e=0 then(x0,⟨x1,x2,x3,x4,x5,xs,x6,x7⟩,0) else(0,⟨0,0,0,0,0,[],0,0⟩,e):=by
 subst he;simp only[ez,r0,r1,r2,r3,r4,r5,r6,r7,r8,Int.toNat_natCast,hL]
theorem SA(hl:zs.length=n)(hn:n<=1000000)(hb:aG zs)(hi:bd w A .u8 zs)(hc:A=none->cap=0) :
  az 108 #[.slice A n cap] w λr w'=>∃id q e A' cap',r=aA (.tuple #[JU id,.agg (fq q A' cap'),JI e])/\ez zs=(id,q,e)/\w'.ownsRow w.heap.size 52 1 (.slice A' q.ss.length cap') q.ss.length (iJ q.ss)/\aC w w':=by
 obtain⟨i0,hi0,hz0,hz1,hz2⟩:=aI Pr;have hnew:=λW (hb:aC w W)=>jx (w:=W) A n cap hl hn (hi.below rfl hb) hc
 have HN:=OH hnew;clear hnew hi hc;refine X2;obtain⟨x2,z2,e2,r2⟩:∃x z e,bO (z1,e1) 2=(x,z,e):=⟨_,_,_,rfl⟩
 obtain⟨x3,z3,e3,r3⟩:∃x z e,bO (z2,e2) 1=(x,z,e):=⟨_,_,_,rfl⟩
 obtain⟨x4,z4,e4,r4⟩:∃x z e,bO (z3,e3) 1=(x,z,e):=⟨_,_,_,rfl⟩
 obtain⟨x5,z5,e5,r5⟩:∃x z e,bO (z4,e4) 2=(x,z,e):=⟨_,_,_,rfl⟩
 obtain⟨x6,z6,e6,r6⟩:∃x z e,bO (z5,e5) 1=(x,z,e):=⟨_,_,_,rfl⟩
 obtain⟨x7,z7,e7,r7⟩:∃x z e,bO (z6,e6) 1=(x,z,e):=⟨_,_,_,rfl⟩
 obtain⟨x8,z8,e8,r8⟩:∃x z e,bO (z7,e7) 1=(x,z,e):=⟨_,_,_,rfl⟩
 go_enter func108,ntmps108;refine ay;refine(HN.out _ gM).mono ?_;refine E5;obtain⟨W,hW⟩:∃W,W=w1.alloc (.cells #[OV c] 193):=⟨_,rfl⟩
 have hN:(w.alloc (.cells #[JI 0,JI 0,JI 0,JI 0,JI 0,.slice none 0 0,JI 0,JI 0] 50)).heap.size=w.heap.size+1:=by simp only[aD]
 rw[hN]at hcl hcut;have hb1:Below (w.heap.size+1) (w.alloc _) w1:=hb1.mono (Xc3 (aD _ _).symm);have hr1:w1.heap[w.heap.size]?=OC #[JI 0,JI 0,JI 0,JI 0,JI 0,.slice none 0 0,JI 0,JI 0] 50:=(hb1.block _ oM).trans bZ;have hJ:RJ (w.heap.size+1) w1.heap.size c w.heap.size zs 0 W:=⟨by rw[hW];simp only[aD];have:=hb1.size;simp only[aD]at this;omega,hcl,Eu,Eu,hcut.kept (S:=af) (by rw[hW];exact bu) id iF,hb⟩
 have hB:aC w W:=Xc5 gM (Xc5 (hb1.mono oM) (by rw[hW];have:=hb1.size;simp only[aD]at this;exact(ag.alloc (ag.refl af _) _).below (λj q=>q.elim) oM));have hT:=hJ.t;refine jP;clear hcut hb1 hr1 hN hb hcl;refine jO;rw[←hW];generalize w1.heap.size=T at *;clear hW;refine ay;refine(R4 hJ 8 _ r0).mono ?_;refine Gb;clear hJ hB hT cT fT zT hc2;obtain⟨hJ,hB⟩:=And.intro hJ2 hB2;clear hJ2 hB2;have hT:=hJ.t;refine jP;refine ay;refine(lz hJ 1 _ r1).mono ?_;refine Gb;clear hJ hB hT cT fT zT hc2;obtain⟨Z,hZe⟩:∃Z,Z=w2.heap.size:=⟨_,rfl⟩
 obtain⟨W,hW⟩:∃W,W=w2.alloc (.cells #[JI x1,JI 0,JI 0,JI 0,JI 0,.slice none 0 0,JI 0,JI 0] 50):=⟨_,rfl⟩
 have hZ:W.heap[Z]?=OC #[JI x1,JI 0,JI 0,JI 0,JI 0,.slice none 0 0,JI 0,JI 0] 50:=by rw[hW,hZe];exact bZ
 have hJ:RJ (w.heap.size+1) T c w.heap.size z1 e1 W:=hJ2.chg (S:=af) (by rw[hW];exact bu) id id id iF;have hB:aC w W:=hB2.trans (by rw[hW];exact(ag.alloc (ag.refl af _) _).below (λj q=>q.elim) hB2.size);have hRZ:w.heap.size≠Z:=by have:=hJ2.n;omega
 have hZg:w.heap.size<=Z:=by have:=hJ2.n;omega
 refine zE;have hT:=hJ.t;refine jP;clear hJ2 hB2;refine gq;rw[←hW,←hZe];clear hW hZe;refine ay;refine(lz hJ 2 _ r2).mono ?_;refine Il;obtain⟨W,hW⟩:∃W,W=w2.setCell ⟨Z,1,none⟩ (JI x2):=⟨_,rfl⟩
 have hZ:W.heap[Z]?=OC #[JI x1,JI x2,JI 0,JI 0,JI 0,.slice none 0 0,JI 0,JI 0] 50:=kr
 have hJ:RJ (w.heap.size+1) T c w.heap.size z2 e2 W:=uY
 have hB:aC w W:=hB2.trans (by rw[hW];exact(ag.set (S:=λj=>j=Z) dp ⟨Z,1,none⟩ (.inl rfl) _).below (λj q=>oM) hB2.size);refine nJ;refine Ig;refine(lz hJ 1 _ r3).mono ?_;refine Il;obtain⟨W,hW⟩:∃W,W=w2.setCell ⟨Z,2,none⟩ (JI x3):=⟨_,rfl⟩
 have hZ:W.heap[Z]?=OC #[JI x1,JI x2,JI x3,JI 0,JI 0,.slice none 0 0,JI 0,JI 0] 50:=kr
 have hJ:RJ (w.heap.size+1) T c w.heap.size z3 e3 W:=uY
 have hB:aC w W:=hB2.trans (by rw[hW];exact(ag.set (S:=λj=>j=Z) dp ⟨Z,2,none⟩ (.inl rfl) _).below (λj q=>oM) hB2.size);refine mA;refine Ig;refine(lz hJ 1 _ r4).mono ?_;refine Il;obtain⟨W,hW⟩:∃W,W=w2.setCell ⟨Z,3,none⟩ (JI x4):=⟨_,rfl⟩
 have hZ:W.heap[Z]?=OC #[JI x1,JI x2,JI x3,JI x4,JI 0,.slice none 0 0,JI 0,JI 0] 50:=kr
 have hJ:RJ (w.heap.size+1) T c w.heap.size z4 e4 W:=uY
 have hB:aC w W:=hB2.trans (by rw[hW];exact(ag.set (S:=λj=>j=Z) dp ⟨Z,3,none⟩ (.inl rfl) _).below (λj q=>oM) hB2.size);refine jo;refine Ig;refine(lz hJ 2 _ r5).mono ?_;refine Il;obtain⟨W,hW⟩:∃W,W=w2.setCell ⟨Z,4,none⟩ (JI x5):=⟨_,rfl⟩
 have hZ:W.heap[Z]?=OC #[JI x1,JI x2,JI x3,JI x4,JI x5,.slice none 0 0,JI 0,JI 0] 50:=kr
 have hJ:RJ (w.heap.size+1) T c w.heap.size z5 e5 W:=uY
 have hB:aC w W:=hB2.trans (by rw[hW];exact(ag.set (S:=λj=>j=Z) dp ⟨Z,4,none⟩ (.inl rfl) _).below (λj q=>oM) hB2.size);refine qn;refine Ig;refine(lz hJ 1 _ r6).mono ?_;refine Il;obtain⟨W,hW⟩:∃W,W=w2.setCell ⟨Z,6,none⟩ (JI x6):=⟨_,rfl⟩
 have hZ:W.heap[Z]?=OC #[JI x1,JI x2,JI x3,JI x4,JI x5,.slice none 0 0,JI x6,JI 0] 50:=kr
 have hJ:RJ (w.heap.size+1) T c w.heap.size z6 e6 W:=uY
 have hB:aC w W:=hB2.trans (by rw[hW];exact(ag.set (S:=λj=>j=Z) dp ⟨Z,6,none⟩ (.inl rfl) _).below (λj q=>oM) hB2.size);refine uQ;refine Ig;refine(lz hJ 1 _ r7).mono ?_;refine Il;obtain⟨W,hW⟩:∃W,W=w2.setCell ⟨Z,7,none⟩ (JI x7):=⟨_,rfl⟩
 have hZ:W.heap[Z]?=OC #[JI x1,JI x2,JI x3,JI x4,JI x5,.slice none 0 0,JI x6,JI x7] 50:=kr
 have hJ:RJ (w.heap.size+1) T c w.heap.size z7 e7 W:=uY
 have hB:aC w W:=hB2.trans (by rw[hW];exact(ag.set (S:=λj=>j=Z) dp ⟨Z,7,none⟩ (.inl rfl) _).below (λj q=>oM) hB2.size);refine yY;refine Ig;refine(lz hJ 1 _ r8).mono ?_;refine Gb;have hZ2:=hJ.keep hc2 hZ;obtain⟨-,n0,n1⟩:=mZ hJ.b r8;clear hJ hB hT cT fT zT hZ cZ fZ zZ hc2;obtain⟨m,rfl⟩:∃m:Nat,x8=m:=⟨x8.toNat,oM⟩
 refine ay;go_loopw [38] (λi wr=>∃ (k:Nat) (xs zs':List Int) (e':Int) (A':Option Addr) (cap':Nat),i=JI k/\k<=m/\dL k (z8,e8)=(xs,zs',e')/\RJ (w.heap.size+1) T c w.heap.size zs' e' wr/\wr.heap[Z]?=OC #[JI x1,JI x2,JI x3,JI x4,JI x5,.slice A' k cap',JI x6,JI x7] 50/\wr.ownsRow (w.heap.size+1) 52 1 (.slice A' k cap') k (iJ xs)/\aC w wr) (λi _=>m- (intOf i).toNat);case atStart=>exact⟨0,[],z8,e8,none,0,rfl,oM,rfl,hJ2,hZ2,Xc4 _ _ _ _,hB2⟩
 case round=>
  clear hJ2 hZ2 hB2;obtain⟨k,xs,zs',e',A',cap',rfl,hk,hL,hJ,hZ,hown,hB⟩:=hrel;have hT:=hJ.t;refine jP;refine zE;have HL:=OH hL;clear hL;refine my;clear hown;by_cases hlt:k<m
  .obtain⟨x,zs2,e2,hx⟩:∃x z e,bO (zs',e') 4=(x,z,e):=⟨_,_,_,rfl⟩
   obtain⟨-,y0,y1⟩:=mZ hJ.b hx;have hxw:IntKind.u32.wrap x=x:=by rw[IntKind.wrap_u32];omega
   have HX:=OH hx;clear hx;go_upto_region 13 with fail;refine ej 8 (S:=(λw'=>Bk w' Z #[JI x1,JI x2,JI x3,JI x4,JI x5,.slice A' k cap',JI x6,JI x7] 50)) kM rM ?_ (λhHeld0=>?_)
   .exact bk
   refine tk 0 ?_;refine tk 1 ?_;refine tk 2 ?_;refine on 3 λK hK=>?_
   go_simp;have hJd:RJ (w.heap.size+1) T c w.heap.size zs' e' wr.drew:=hJ.chg (S:=af) (by exact bu) id id id iF;have hZd:wr.drew.heap[Z]?=OC #[JI x1,JI x2,JI x3,JI x4,JI x5,.slice A' k cap',JI x6,JI x7] 50:=bZ;refine(lz hJd 4 _ HX.out).mono ?_;rintro r w2 ⟨rfl,hJ2,hc2⟩;have hZ2:=hJd.keep hc2 hZd;have hown2:=ah HO.out.drew hc2 (aJ hJd.cut.choose_spec.1 dM);refine hK.out _ _ ?_ (λhHeld1=>?_)
   .exact aO hZ2
   clear hK K;(try clear hHeld0);refine bV;refine tk 4 ?_;refine on 5 λK hK=>?_
   go_simp;refine hK.out _ _ ?_ (λhHeld2=>?_)
   .exact bk
   clear hK K;(try clear hHeld1);refine bV;refine on 6 λK hK=>?_
   have hownA:(w2.alloc (.cells #[JT x] 52)).ownsRow (w.heap.size+1) 52 1 (.slice A' k cap') k (iJ xs):=dz hown2;refine step_append_lies _ rM _ _ _ rM (w.heap.size+1) 52 i0 _ 1 4 underlying48 hi0 hz0 hz1 hz2 rfl oM _ _ _ rM hownA ⟨w2.heap.size,0,none⟩ 1 1 [JT x] rM rM (World.news_of_block (cs:=#[JT x]) (t:=52) (fr:=(0,0)) bZ) nz oM lM oM (by have:=hJ2.n;simp only[aD];omega) _ rfl ?_;intro gg cap2 w3 hown3 hgrow hat hlt3;refine hK.out _ _ ?_ (λhHeld3=>?_)
   .exact aO (aV (t:=50) hownA hgrow bZ dM)
   clear hK K;(try clear hHeld2);refine bV;refine tk 7 ?_;refine je;clear hK K;have hcg:ag (λj=>(Xc0 A' k cap').ownBlock=some j) w2 w3:=ag.grown (v:=.slice A' k cap') (ag.alloc (ag.refl _ w2) _) hgrow (λj hj _=>hj);have hty:∀ {i:Nat} {cs:Array Value} {t:TypeId},w2.heap[i]?=OC cs t->t≠52->(Xc0 A' k cap').ownBlock≠some i:=λh1 h2 q=>by obtain⟨cur,hq⟩:=bG hown2 q;exact au h1 h2 hq
   have hJ3:RJ (w.heap.size+1) T c w.heap.size zs2 e2 w3:=hJ2.chg hcg (hty hJ2.t dM) (hty hJ2.r dM) (hty hJ2.cut.choose_spec.1 dM) (λj cur hj hq=>hty hq dM hj);have hZ3:w3.heap[Z]?=OC #[JI x1,JI x2,JI x3,JI x4,JI x5,.slice A' k cap',JI x6,JI x7] 50:=ae hcg hZ2 (hty hZ2 dM);have g1:Below w.heap.size wr wr.drew:=(show ag af wr wr.drew from bu).below (λj q=>q.elim) hB.size;have g2:Below w.heap.size wr.drew w2:=hc2.below (λj q=>by have:=hJd.nc;omega) hB.size;have g3:Below w.heap.size w2 w3:=hcg.below (λj q=>by have:=eV hown2 j q;omega) (by have:=hJ2.n;omega);have g4:Below w.heap.size w3 (w3.setCell ⟨Z,5,none⟩ (.slice (aT gg) (k+1) cap2)):=(ag.set (S:=λj=>j=Z) dp ⟨Z,5,none⟩ (.inl rfl) _).below (λj q=>oM) (by have:=hJ3.n;omega);have hown4:(w3.setCell ⟨Z,5,none⟩ (.slice (aT gg) (k+1) cap2)).ownsRow (w.heap.size+1) 52 1 (.slice (aT gg) (k+1) cap2) (k+1) (iJ (xs++ [x])):=by have h3:=aU (a:=⟨Z,5,none⟩) (u:=.slice (aT gg) (k+1) cap2) hown3 hZ3 dM;simpa[iJ]using h3
   have hJ4:=hJ3.set (i:=5) (v:=.slice (aT gg) (k+1) cap2) hZ3 hRZ;have hB4:=hB.trans (g1.trans (g2.trans (g3.trans g4)));have hZ4:(w3.setCell ⟨Z,5,none⟩ (.slice (aT gg) (k+1) cap2)).heap[Z]?=OC #[JI x1,JI x2,JI x3,JI x4,JI x5,.slice (aT gg) (k+1) cap2,JI x6,JI x7] 50:=bZ;clear hZ3 hJ3 g1 g2 g3 g4 hown3 hgrow hcg hZ2 hJ2 hc2 hown2 hownA hJd hZd;refine dA;case rel=>exact⟨k+1,xs++ [x],zs2,e2,some ⟨gg,0,none⟩,cap2,eT,oM,C8 k _ HL.out HX.out,hJ4,hZ4,hown4,hB4⟩
   case measure=>exact di
  .have hkm:k=m:=oM
   subst hkm;obtain⟨b1,f1⟩:∃b,(e'==0)=b:=⟨_,rfl⟩
   obtain⟨b2,f2⟩:∃b,decide (9<x1)=b:=⟨_,rfl⟩
   obtain⟨b3,f3⟩:∃b,decide (0<(zs'.length:Int))=b:=⟨_,rfl⟩
   have f5:decide (0<zs'.length)=b3:=by rw[←f3];simp
   have f4:(e' !=0)=!b1:=by rw[bne,f1]
   have he:=jV hJ.cut;have hl:=mK hJ.cut;have HE:=OH he;clear he;have HW:=OH hl;clear hl;have hxl:xs.length=k:=by have:=pR (z8,e8) k;rw[HL.out]at this;exact this
   have HXL:=OH hxl;clear hxl;have hcs:(b1=false)\/(b1=true/\b2=true)\/(b1=true/\b2=false/\b3=true)\/(b1=true/\b2=false/\b3=false):=by cases b1<;>cases b2<;>cases b3<;>simp
   have ZER:∀ (W:World) (e:Int),aC w W->ez zs=(0,⟨0,0,0,0,0,[],0,0⟩,e)->∃id q e0 A' cap',Ending.returned (.tuple #[JU 0,.agg #[JI 0,JI 0,JI 0,JI 0,JI 0,.slice none 0 0,JI 0,JI 0],JI e])=aA (.tuple #[JU id,.agg (fq q A' cap'),JI e0])/\ez zs=(id,q,e0)/\W.ownsRow w.heap.size 52 1 (.slice A' q.ss.length cap') q.ss.length (iJ q.ss)/\aC w W:=λW e h1 h2=>⟨0,⟨0,0,0,0,0,[],0,0⟩,e,none,0,rfl,h2,Xc4 _ _ _ _,h1⟩
   have HZE:=OH ZER;clear ZER;have hR:=hJ.r;refine EN;rcases hcs with rfl|⟨rfl,rfl⟩|⟨rfl,rfl,rfl⟩|⟨rfl,rfl,rfl⟩;all_goals(
    go_wp2_with fail;refine HE.out.mono ?_;rintro r w3 ⟨rfl,rfl⟩;go_wp2_with (first|((with_reducible refine HW.out.mono ?_);rintro r w3 ⟨rfl,rfl⟩)))
   iterate 3
    ·(try simp only[Exit.inBlock,Exit.then])
     refine kG rfl rfl underlying50 rfl rfl ⟨_,_,hf,kM,?_⟩;refine HZE.out _ _ gM ?_;rw[vW r0 r1 r2 r3 r4 r5 r6 r7 r8 HL.out _ rfl];simp at f1 f2 f5;first|(simp[f1,f2,f5];done)|(have h9:¬9<x1:=oM;simp[f1,f2,f5,h9];done)
   have hrr:∀ (j:Nat) (v:Value),ag (λi=>i=w.heap.size) w3 (w3.setCell ⟨w.heap.size,j,none⟩ v):=λj v=>ag.set (S:=λi=>i=w.heap.size) dp ⟨w.heap.size,j,none⟩ (.inl rfl) _
   have hxl:=HXL.out;subst hxl;have HOF:=OH (aJ hR (show(50:TypeId)≠52 by decide));go_region;refine kv;refine kG rfl rfl underlying50 rfl rfl ⟨_,_,hf,kM,?_⟩;refine⟨x0,⟨x1,x2,x3,x4,x5,xs,x6,x7⟩,0,A',cap',rfl,?_,?_,?_⟩
   .rw[vW r0 r1 r2 r3 r4 r5 r6 r7 r8 HL.out 0 ?_]
    .rfl
    .simp at f1 f5
     have h9:¬9<x1:=by simpa using f2
     simp[f1,h9,f5]
   .exact aW (ah HO.out (S:=λi=>i=w.heap.size) bu HOF.out) oM
   .go_grown
theorem Qw(id e:Int)(w:World)(hid:0<=id/\id<2 ^ 64)(he:0<=e/\e<2 ^ 63) :
  az 162 #[JU id,JI e] w λr w'=>∃v zs,r=aA v/\zs.length=9/\aG zs/\w'.ownsRow w.heap.size 5 1 v zs.length (zs.map (Xb9 .u8))/\aC w w':=by
 have hew:Xb7.wrap e=e:=qk
 obtain⟨W,hW⟩:∃W,W=w.alloc (.cells #[JU id,JI 8,JU e,JI 1] 185):=⟨_,rfl⟩
 have hX:W.heap[w.heap.size]?=OC #[JU id,JI 8,JU e,JI 1] 185:=kr
 refine sf;have hp:lK W (aT w.heap.size) [(id,8),(e,1)]:=by
  intro i hi;match i,hi with
  |0,_=>
   exact⟨_,_,rfl,z0,(c0 _).trans rfl,(c0 _).trans rfl⟩
  |1,_=>exact⟨_,_,rfl,z0,(c0 _).trans rfl,(c0 _).trans rfl⟩
 have hput:=GN W (aT w.heap.size) 2 2 [(id,8),(e,1)] rfl dM hp (by
  intro p hp;refine qF;rcases hp with rfl|rfl
  .exact UJ
  .exact⟨he.1,gY,gY,gY⟩)
 have hbl:(dR [(id,8),(e,1)]).length=9:=by simp[dR,kI,gQ]
 have hby:=fh [(id,8),(e,1)];generalize dR [(id,8),(e,1)]=zs at hput hbl hby;rw[hW]at hput;have hs:(w.alloc (.cells #[JU id,JI 8,JU e,JI 1] 185)).heap.size=w.heap.size+1:=aD _ _;refine jM;have HP:=OH hput;go_enter func162,ntmps162;refine qy;rintro r w2 ⟨v,rfl,hown,hb⟩;rw[HS.out]at hown;have hb:=hb.mono (Xc3 (aD _ _).symm);refine bj;exact⟨v,zs,rfl,hbl,hby,aW hown oM,Xc5 gM (hb.mono oM)⟩
theorem told_t(hl:zs.length=n)(hn:n<=1000000)(hb:aG zs)(hi:bd w A .u8 zs)(hc:A=none->cap=0) :
  az 152 #[.slice A n cap] w λr w'=>(∃a b c,r=aA (.tuple #[JU a,JI b,.bool c]))/\aC w w':=by
 have hnew:=jx (w:=w) A n cap hl hn hi hc;have HN:=OH hnew;obtain⟨b1,f1⟩:∃b,((n:Int) !=9)=b:=⟨_,rfl⟩
 have f2:((n:Int)==9)=!b1:=by rw[←f1,bne,Bool.not_not]
 cases b1 with
 |true=>
  go_enter func152,ntmps152;refine ay
  go_ret3
  exact⟨⟨_,_,_,rfl⟩,Xc6 _ _⟩
 |false=>
  refine X2;have R0:=OH r0;have R1:=OH r1;have hb0:=(mZ hb r0).1;go_enter func152,ntmps152;refine ay;refine HN.out.mono ?_;refine E5;refine ay;refine(eu hcut hb 8 dM dM _ (by first|rfl|simp) R0.out).mono ?_;rintro r w2 ⟨rfl,hcut2,hc2⟩;refine ay;refine(eu hcut2 hb0 1 dM dM _ (by first|rfl|simp) R1.out).mono ?_;rintro r w3 ⟨rfl,hcut3,hc3⟩;refine ay
  go_ret3
  exact⟨⟨_,_,_,rfl⟩,hb1.trans ((hc2.trans hc3).below (λj q=>oM) hb1.size)⟩
structure Kx where
 n:Int
 intake:Int
 window:Int
 keep:Int
 cf:Cf
 A:Nat
 P:Nat
 B:Nat
 Q:Nat
 D:Nat
 M:Nat
abbrev iP(K:Kx)(vp vt vs:Value)(t:Option Addr)(ever:Int)(vw:Value):Array Value:=#[JI K.n,JI K.intake,JI K.window,JI K.keep,JI K.cf.people,JI K.cf.tracks,JI K.cf.subs,JI K.cf.slots,OV K.A,OV K.P,OV K.B,OV K.Q,OV K.D,JI K.cf.people,JI K.cf.tracks,JI K.cf.subs,JI K.cf.slots,vp,vt,vs,.pointer t,JT ever,.map (some K.M),vw]
section
variable {w:World}{C:Nat}{K:Kx}{vp vt vs:Value}{t:Option Addr}{ever:Int}{vw:Value}
theorem P8(h:w.heap[C]?=OC (iP K vp vt vs t ever vw) 153):az 89 #[OV C] w λe w'=>e=aA (.pointer t)/\w=w':=by refine zl;go_enter func89,ntmps89;exact ga
theorem GD(h:w.heap[C]?=OC (iP K vp vt vs t ever vw) 153)(n:Nat)(hn:K.n=n)(h0:1<=n)(h1:n<=4)(k:Int)(hk:0<=k/\k<=1000000):az 203 #[OV C,JI k] w λe w'=>e=aA (JI (k % n))/\w=w':=by
 refine zl;have e1:(Int.tmod k (n:Int))=k % n:=Int.tmod_eq_emod_of_nonneg hk.1;have hz:((n:Int)==0)=false:=xM;have hb:0<=k % n/\k % n<5:=⟨Int.emod_nonneg _ oM,by have:=Int.emod_lt_of_pos k (b:=n) oM;omega⟩
 go_enter func203,ntmps203;exact ga
theorem DV{xs:List (List Value)}(h:w.heap[C]?=OC (iP K vp vt vs t ever (.slice A k cap)) 153)(hq:eD w K.Q R 235 143 2 L a xs cur):az 35 #[OV C] w λe w'=>e=aA (.tuple #[JI xs.length,JI k])/\aC w w':=by
 refine zl;have hl:=λnq=>Db (hq.kept (S:=af) ((ag.refl _ w).drewN nq) id id)
 have HL:=OH hl;go_enter func35,ntmps35;refine ay;go_quiet (refine Calls.quiet_of_same (HL.out _));refine df;exact⟨rfl,bF yN _⟩
theorem idle_t{xs:List (List Value)}(h:w.heap[C]?=OC (iP K vp vt vs t ever (.slice A k cap)) 153)(hq:eD w K.Q R 235 143 2 L a xs cur):az 81 #[OV C] w λe w'=>e=aA (.bool ((xs.length==0)&& (k==0)))/\w=w':=by
 refine zl;have hl:=Db hq;have HL:=OH hl;have e1:(((xs.length:Nat):Int)==0)=(xs.length==0):=by rw[Bool.eq_iff_iff];simp
 have e2:(((k:Nat):Int)==0)=(k==0):=by rw[Bool.eq_iff_iff];simp
 cases b1:(xs.length==0)<;>cases b2:(k==0)<;>(rw[b1]at e1;rw[b2]at e2;go_enter func81,ntmps81;go_wp2_with (first|((with_reducible refine HL.out.mono ?_);rintro e w1 ⟨rfl,rfl⟩));go_ret;exact⟨rfl,rfl⟩)
end
theorem RM{C:Nat}{K:Kx}{vp vt vs vw:Value}{t:Option Addr}{ever:Int}{d:De}(hC:w.heap[C]?=OC (iP K vp vt vs t ever vw) 153)(h:bK w B vp vt vs d)(h1:d.people.length<=1000)(h2:d.tracks.length<=1000)(h3:d.subs.length<=1000)(h4:∀t∈d.tracks,t.ssrcs.length<=1000) :
  az 23 #[OV C] w λe w'=>∃vp' vt' vs',e=aA (.agg (gi K.cf vp' vt' vs'))/\bK w' w.heap.size vp' vt' vs' d/\aC w w':=by
 refine zq78;refine nN;go_enter func23,ntmps23;refine WL;have hx1:w1.heap[w.heap.size+1]?=_:=(hb1.block (w.heap.size+1) fM).trans eM;have hy1:w1.heap[w.heap.size]?=_:=(hb1.block (w.heap.size) fM).trans eM;refine ZJ;have hx2:w2.heap[w.heap.size+1]?=_:=(hb2.block (w.heap.size+1) fM).trans eM;have hy2:w2.heap[w.heap.size]?=_:=(hb2.block (w.heap.size) fM).trans eM;refine ZV;have hx3:w3.heap[w.heap.size+1]?=_:=(hb3.block (w.heap.size+1) fM).trans eM;have hy3:w3.heap[w.heap.size]?=_:=(hb3.block (w.heap.size) fM).trans eM;refine aa3;go_loopw [4,27] (λ_ i wr=>∃ (k:Nat) (k2:List Tk),k<=ks.length/\i=JI k/\k2.length=ks.length/\wr.ownsRow w.heap.size 173 4 (.slice A6 ks.length n6) k2.length (k2.flatMap eU) /\
  (∀j k1 t,k2[j]?=some k1->d.tracks[j]?=some t->(j<k->gy wr w.heap.size k1 t)/\(k<=j->ks[j]?=some k1)) /\
  wr.heap[w.heap.size+1]?=OC (gi K.cf (.slice A4 d.people.length n4) (.slice A6 ks.length n6) (.slice A5 d.subs.length n5)) 42 /\
  wr.heap[w.heap.size]?=OC #[JI 0,JI 0,JI 0,JI 0,.slice none 0 0,.slice none 0 0,.slice none 0 0] 42 /\
  wr.ownsRow w.heap.size 167 3 (.slice A4 d.people.length n4) d.people.length (d.people.flatMap gp)/\wr.ownsRow w.heap.size 170 5 (.slice A5 d.subs.length n5) d.subs.length (d.subs.flatMap el)/\aC w wr) (λ_ i _=>ks.length- (intOf i).toNat)
 case atStart=>exact YN
 case round=>
  refine ZN
  .refine zq32
   have hgX:g≠w.heap.size+1:=λq=>au hx (show(42:TypeId)≠173 by decide) Ez
   have hgY:g≠w.heap.size:=λq=>au hy (show(42:TypeId)≠173 by decide) Ez
   obtain⟨T,hTT⟩:∃T,T=w.heap.size+1:=⟨_,rfl⟩
   refine Wf;refine rg 12 (λw'=>Bk w' (w.heap.size+1) (gi K.cf (.slice A4 d.people.length n4) (.slice (aT g) ks.length n6) (.slice A5 d.subs.length n5)) 42/\Bk w' g cr 173/\ag af wr w') ⟨bk,bk,bu⟩ (λhHeld0=>?_);refine aa1;have hX5:=(hc5.block (w.heap.size+1) z1 id).trans hx;have hYY:=(hc5.block (w.heap.size) z2 id).trans hy;exact zq35
  .have hkl:k=ks.length:=oM
   subst hkl;have hY5:ag (λj=>j=w.heap.size) wr (wr.setCells (w.heap.size) 0 [JI K.cf.people,JI K.cf.tracks,JI K.cf.subs,JI K.cf.slots,.slice A4 d.people.length n4,.slice A6 ks.length n6,.slice A5 d.subs.length n5]):=bA _ _ _;refine ay;refine LI;rw[HL2.out]at ht;refine⟨_,_,_,rfl,(bK.kept (S:=λj=>j=w.heap.size) (w:=wr) ⟨HP.out,⟨k2,by rw[HL2.out];exact ht,by rw[HL2.out];exact HKL.out,λi a b=>(HR.out i _ _ (PI a) (PI b)).1 (by have:=HL2.out;omega)⟩,HS.out⟩ hY5 yL yL yL yL),gM⟩
def d7(n:Nat)(t:Tr)(k:Nat):List Rt:=(List.range k).map λi=>⟨t.ssrcs.getD i 0,t.id,t.frm,i,t.id % n⟩
def ch(n:Nat)(ts:List Tr):List Rt:=ts.flatMap λt=>d7 n t t.ssrcs.length
def uy(ts:List Tr):List (Int×Value):=ts.foldl (λL t=>jv L t.id (JI t.frm)) []
def Ts(ts:List Tr)(x:Int):Int:=match (dK (uy ts) x).getD (JI 0)with|.int _ v=>v|_=>0
structure Se where
 key:Int×Int
 slot:Int
 turn:Int
 ssrc:Int
abbrev vL(l:List Se):List ((Int×Int)×Value):=l.map λx=>(x.key,.agg #[JI x.slot,JT x.turn,JT x.ssrc])
def CI(l:List Se)(k:Int×Int):Se:=(l.find? λx=>decide (x.key=k)).getD ⟨k,0,0,0⟩
def ec(n:Nat)(ts:List Tr)(l:List Se)(x:Su):Dn:=⟨(CI l (x.who,x.track)).ssrc,(CI l (x.who,x.track)).slot,(CI l (x.who,x.track)).turn,x.who,x.track,x.track % n,Ts ts x.track,x.layer,x.tid,x.muted⟩
theorem wV(n:Nat)(t:Tr)(k:Nat):d7 n t (k+1)=d7 n t k++ [⟨t.ssrcs.getD k 0,t.id,t.frm,k,t.id % n⟩]:=by simp[d7,List.range_succ]
theorem wW(n:Nat)(ts:List Tr)(k:Nat)(h:k<ts.length):ch n (ts.take (k+1))=ch n (ts.take k)++d7 n ts[k] ts[k].ssrcs.length:=by refine WI;unfold ch;rw[List.flatMap_append,Xa4,List.flatMap_nil,Xb6]
theorem Jl(ts:List Tr)(k:Nat)(h:k<ts.length):uy (ts.take (k+1))=jv (uy (ts.take k)) ts[k].id (JI ts[k].frm):=by refine WI;unfold uy;rw[List.foldl_append];rfl
theorem qK(n:Nat)(ts:List Tr)(h:∀t∈ts,t.ssrcs.length<=3):(ch n ts).length<=ts.length*3:=by
 induction ts with
 |nil=>
  simp[ch]
 |cons t ts ih=>
  have h1:=h t sM;have h2:=ih λx hx=>h x wF
  have h3:(d7 n t t.ssrcs.length).length=t.ssrcs.length:=by simp[d7]
  simp only[ch,Xa4,Xa0,Xb4]at *;omega
theorem O7{α:Type}[DecidableEq α](L:List (α×Value))(x y:α)(v:Value):dK (jv L x v) y=if x=y then some v else dK L y:=by
 unfold jv;by_cases hs:(dK L x).isSome
 .rw[if_pos hs]
  induction L with
  |nil=>
   simp[dK]at hs
  |cons p L ih=>
   by_cases hp:p.1=x
   .by_cases hxy:x=y
    .simp[dK,hp,hxy]
    .by_cases hs2:(dK L x).isSome
     .have:=ih hs2
      rw[if_neg hxy]at this ⊢;simp only[dK,Xa7,hp,if_true]at this ⊢;refine Vy;exact this
     .have hm:∀q∈L,q.1≠x:=ix.1 (by simpa using hs2)
      have:L.map (λp=>if p.1=x then(x,v) else p)=L:=by rw[List.map_congr_left (g:=id) (λq hq=>by simp[hm q hq]),List.map_id]
      rw[if_neg hxy];simp only[dK,Xa7,hp,if_true,this];refine Vy
   .have hs2:(dK L x).isSome:=by simp only[dK,Xa2 (l:=L) (a:=p) (p:=λp=>decide (p.1=x)) (by simpa using hp)]at hs;exact hs
    have:=ih hs2;simp only[dK,Xa7,if_neg hp]at this ⊢;by_cases hy:p.1=y
    .rw[Xa9 Er,Xa9 Er,if_neg (λq=>hp (hy.trans q.symm))]
    .rw[Xa2 Er,Xa2 Er]
     exact this
 .rw[if_neg hs]
  have hm:∀q∈L,q.1≠x:=ix.1 Ep;simp only[dK,List.find?_append];by_cases hxy:x=y
  .subst hxy
   have:L.find? (λp=>decide (p.1=x))=none:=by rw[List.find?_eq_none];intro q hq;simpa using hm q hq
   simp[this]
  .rw[if_neg hxy]
   cases hf:L.find? (λp=>decide (p.1=y))with
   |some q=>
    simp
   |none=>simp[hxy]
theorem Tq(ts:List Tr)(x:Int):(dK (uy ts) x).getD (JI 0)=JI (Ts ts x):=by
 have key:∀ (L:List (Int×Value)),(∀y,∃f,(dK L y).getD (JI 0)=JI f)->∀y,∃f,(dK (ts.foldl (λL t=>jv L t.id (JI t.frm)) L) y).getD (JI 0)=JI f:=by
  induction ts with
  |nil=>
   exact λL h=>h
  |cons t ts ih=>
   intro L h;refine ih _ λy=>?_
   rw[O7];split
   .exact⟨_,rfl⟩
   .exact h y
 obtain⟨f,hf⟩:=key [] (λy=>⟨0,rfl⟩) x;unfold Ts uy;rw[hf]
theorem NW(l:List Se)(k:Int×Int):(dK (vL l) k).getD (.agg #[JI 0,JT 0,JT 0])=.agg #[JI (CI l k).slot,JT (CI l k).turn,JT (CI l k).ssrc]:=by unfold dK CI;rw[List.find?_map];simp only[Function.comp_def];cases l.find? (λx=>decide (x.key=k))<;>rfl
def QE(w:World)(e:Ending)(w':World):Prop:=∃k:Int,e=aA (JI k)/\w=w'
theorem SU(n:Nat)(hn:n<=12)(w:World):az 300 #[JU n] w (QE w):=by
 have d1:decide ((4294967296:Int)<=(n:Int))=false:=xM;have d2:decide ((65536:Int)<=(n:Int))=false:=xM;have d3:decide ((256:Int)<=(n:Int))=false:=xM;have d4:IntKind.u8.wrap (n:Int)=(n:Int):=LJ
 go_enter func300,ntmps300;refine bj;exact⟨_,rfl,rfl⟩
theorem Pa(n:Nat)(hn:n<=12)(w:World):az 265 #[JU n] w (QE w):=by go_enter func265,ntmps265;refine ay;refine(SU n hn _).mono ?_;rintro e w1 ⟨k,rfl,rfl⟩;refine bj;exact⟨_,rfl,rfl⟩
theorem pdq_t(w:World)(g cap:Nat)(l:List Dn)(h:uf w g cap l)(hl:l.length<=12)(k:Int):az 264 #[.slice (aT g) l.length cap,JI 0,JI l.length,JI k,.func (.func 223) #[] #[]] w λe w'=>e=aA (.tuple #[])/\∃l',l'.Perm l/\uf w' g cap l'/\ag (λj=>j=g) w w':=by
 have hs:=Jd w g cap l h oM;refine jM;have d1:decide (((l.length:Nat):Int)<=12)=true:=xM;go_enter func264,ntmps264;refine ay;go_loopw [1,2] (λa b wr=>a=JI 0/\b=JI (l.length:Int)/\wr=w) (λ_ _ _=>0);case atStart=>exact⟨rfl,rfl,rfl⟩
 case round=>obtain⟨rfl,rfl,rfl⟩:=hrel;refine ay;refine(HS.out).mono ?_;rintro e w1 ⟨rfl,h⟩;refine bI;refine ay;refine sE;exact⟨rfl,H.out⟩
theorem Bz(w:World):az 291 #[.slice none 0 0,JI 0,JI 0,.func (.func 223) #[] #[]] w λe w'=>e=aA (.tuple #[])/\w'=w:=by
 go_enter func291,ntmps291;refine ay;go_loopw [8] (λi wr=>i=JI 1/\wr=w) (λ_ _=>0);case atStart=>exact gO
 case round=>obtain⟨rfl,rfl⟩:=hrel;refine dg;exact gO
theorem Sz(w:World)(k:Int):az 264 #[.slice none 0 0,JI 0,JI 0,JI k,.func (.func 223) #[] #[]] w λe w'=>e=aA (.tuple #[])/\w'=w:=by
 go_enter func264,ntmps264;refine ay;go_loopw [1,2] (λa b wr=>a=JI 0/\b=JI 0/\wr=w) (λ_ _ _=>0);case atStart=>exact⟨rfl,rfl,rfl⟩
 case round=>obtain⟨rfl,rfl,rfl⟩:=hrel;refine ay;refine(Bz _).mono ?_;refine jf;refine sE;exact gO
theorem RX(h:w.ownsRow B 198 10 (.slice (aT g) n cap) n (l.flatMap eW)):n=l.length/\uf w g cap l/\B<=g/\cap<=maxLen:=by
 have hn:n=l.length:=by have:=h.1;rw[bX jW]at this;omega
 refine FN
 .cases h1
  refine⟨rfl,⟨cur,h3,h6,h4,λi hi j hj=>?_⟩,h2,h5⟩;have hlt:i*10+j<l.length*10:=by have:(i+1)*10<=l.length*10:=Nat.mul_le_mul_right _ hi;omega
  rw[←bY jW l i j hi hj,←h7,Xa8 hlt,Array.getElem?_toList]
theorem sort_t(h:w.ownsRow B 198 10 v n (l.flatMap eW))(hl:l.length<=12)(hB:B<=w.heap.size):az 222 #[v,.func (.func 223) #[] #[]] w λe w'=>e=aA (.tuple #[])/\∃l':List Dn,l'.Perm l/\w'.ownsRow B 198 10 v n (l'.flatMap eW)/\Below B w w':=by
 rcases bW h with⟨rfl,rfl,h3⟩|⟨g,cap,rfl,hg1,hg2,hg3,hg4⟩
 .have hl0:l=[]:=by have:=congrArg List.length h3;rw[bX jW]at this;exact List.eq_nil_of_length_eq_zero (by simp at this;omega)
  subst hl0;refine bI;have hlen:az 265 #[JU 0] w (QE w):=Pa 0 oM w;have hw0:Xb7.wrap 0=0:=dM;refine WK;refine(Sz _ _).mono ?_;refine jf;go_end0;exact⟨rfl,[],List.Perm.refl _,H.out,Xc6 _ _⟩
 .obtain⟨rfl,hr,_,hm⟩:=RX h
  have hw0:Xb7.wrap ((l.length:Nat):Int)=((l.length:Nat):Int):=LJ
  have hlen:=Pa l.length hl w;have hp:=λk=>pdq_t w g cap l hr hl k
  have HPD:=OH hp;refine WK;refine(HPD.out _).mono ?_;rintro e w1 ⟨rfl,l',hp,⟨cr,k1,k2,k3,k4⟩,hc⟩;refine dg;refine⟨rfl,l',hp,?_,hc.below (λj e=>by subst e;exact hg1) hB⟩;rw[←hp.length_eq];exact eh jW k1 hg1 k3 hm k2 k4
theorem G9:(prog.info? 198).map (λi=>(i.zero,i.size,i.bytes))=some (some (.agg #[JT 0,JI 0,JT 0,JI 0,JI 0,JI 0,JI 0,JI 0,JI 0,.bool false]),10,80):=kM
section
variable {w w':World}{M:Nat->Prop}{T:Nat}{ep:Int}{rs:List Rt}{ds:List Dn}
theorem DQ(track:Int)(w:World):az 176 #[.pointer none,JI track] w λe w'=>e=aA (.slice none 0 0)/\w=w':=by go_enter func176,ntmps176;exact ga
def po(ds:List Dn)(track:Int)(l:List Dn):Prop:=(∀d∈l,d∈ds/\d.track=track)/\(∀d∈ds,d.track=track->d∈l)/\(l.map Dn.ssrc).Nodup
def wE(ds:List Dn)(track:Int)(w:World)(e:Ending)(w':World):Prop:=∃ (v:Value) (l:List Dn),e=aA v/\w'.ownsRow w.heap.size 198 10 v l.length (l.flatMap eW)/\po ds track l/\aC w w'
theorem pM(h:(l.map Dn.ssrc).Nodup)(hs:∀d∈l,d∈ds):l.length<=ds.length:=by have hn:(l.map Dn.ssrc).Nodup:=h;have:=hn.length_le_of_subset (l₂:=ds.map Dn.ssrc) (λx hx=>by obtain⟨d,hd,rfl⟩:=Xa3.1 hx;exact Xb1 (hs d hd));exact ia
theorem TC(h:dE w M T ep rs ds)(hl:ds.length<=12)(track:Int):az 176 #[OV T,JI track] w (wE ds track w):=by
 obtain⟨i0,hi,hz0,hz1,hz2⟩:=aI G9;refine AI;obtain⟨o,hrun,hI⟩:=fm.made h4 underlying277;have hnd:=h4.nd;rw[List.map_map]at hnd;have HND:=OH hnd;clear hnd;have zM:=h4.lt;clear h3 h4 h5 h6;have HI:=OH hI;clear hI;go_enter func176,ntmps176;refine ay;go_loopw [5] (λv wr=>∃ (S:List Int) (l:List Dn),wr.ownsRow w.heap.size 198 10 v l.length (l.flatMap eW)/\(∀d∈l,d∈ds/\d.track=track/\d.ssrc∈S)/\(∀d∈ds,d.track=track->d.ssrc∈S->d∈l)/\(l.map Dn.ssrc).Nodup/\fm wr prog 52 (Xb9 .u32) (OI .u32) MD w.heap.size (ds.map λx=>(x.ssrc,tT x)) S/\aC w wr) (λ_ wr=>ik wr w.heap.size);case atStart=>exact⟨[],[],Xc4 _ _ _ _,sM,sM,sM,HI.out,gM⟩
 case round=>
  clear HI hrun;obtain⟨S,l,hO,hl1,hl2,hl3,hI,hB⟩:=hrel;have HO:=OH hO;have HL1:=OH hl1;have HL2:=OH hl2;clear hl2;have HL3:=OH hl3;have hll:l.length<=12:=Xc1 (pM hl3 (λd hd=>(hl1 d hd).1)) hl;clear hl1 hl3;obtain⟨A,cap,rfl⟩:=aj hO;clear hO;rcases hI.next lY.inj 0 with⟨hall,hn⟩|⟨p,hp,hpS,w1,hn,hI1,hc1,hz1,hlt,hen⟩
  .have HALL:=OH hall
   clear hall hI;have yB:=hB.size;refine ay;refine(sort_t HO.out hll yB).mono ?_;rintro e w2 ⟨rfl,l',hp,hO',hb2⟩;refine rK;have HO':=OH hO';clear hO';have HB:=OH (hB.trans hb2);clear hb2 hB;refine bj;refine⟨_,l',rfl,by rw[HP.out.length_eq];exact HO'.out,⟨λd hd=>?_,λd hd ht=>HP.out.mem_iff.2 (HL2.out d hd ht ?_),(HP.out.map Dn.ssrc).nodup_iff.2 HL3.out⟩,HB.out⟩
   .obtain⟨q1,q2,_⟩:=HL1.out d (HP.out.mem_iff.1 hd)
    exact⟨q1,q2⟩
   .exact HALL.out (d.ssrc,tT d) (Xb1 (f:=λx=>(x.ssrc,tT x)) hd)
  .have hok:=hI.m.ok p hp
   obtain⟨d,hd,rfl⟩:=Xa3.1 hp;have hO1:=ah HO.out hc1 (λj cur e hh=>(hI.ne hh).2 e.symm);refine VG;have y1:=hB1.size;clear hc1 hp HO hz1;have HO:=OH hO1;clear hO1;have HI1:=OH hI1;clear hI1 hI;have HLT:=OH hlt;clear hlt;refine ku;clear hd;have HPS:=OH hpS;clear hpS;have hIa:=λW (hb:aC w1 W)=>HI1.out.chg (T:=af) (.of hb) id id
   have hLa:=λW (hb:aC w1 W)=>lG (hb.block _ HI1.out.lt.2.1) HI1.out (hb.block _ HI1.out.lt.1)
   have HIA:=OH hIa;clear hIa;have HLA:=OH hLa;clear hLa;have hdd:∀d'∈ds,d'.ssrc=d.ssrc->d'=d:=λd' hd' e=>by obtain⟨i,hi,rfl⟩:=Xb2 hd';obtain⟨j,hj,e2⟩:=Xb2 HD.out;have:=(List.getElem_inj (xs:=ds.map ((λx=>x.1) ∘ λx:Dn=>(x.ssrc,tT x))) (i:=i) (j:=j) (h₀:=by simpa using hi) (h₁:=by simpa using hj) HND.out).1 (by simp[e,e2]);subst this;exact e2
   have HDD:=OH hdd;clear hdd;have hnm:∀d'∈l,d'.ssrc≠d.ssrc:=λd' hd' e=>HPS.out (e ▸ (HL1.out d' hd').2.2)
   have HNM:=OH hnm;clear hnm;cases e1:(d.track==track)with
   |false=>
    have ht:d.track≠track:=by simpa using e1
    have hend:(∀d'∈ds,d'.track=track->d'.ssrc∈d.ssrc::S->d'∈l):=λd' hd' ht' hs=>by
     rcases Xa6.1 hs with e|e
     .exact absurd ((HDD.out d' hd' e) ▸ ht') ht
     .exact HL2.out d' hd' ht' e
    have HEND:=OH hend;clear hend;obtain⟨ssrc,slot,turn,who,trk,shard,frm,layer,tid,muted⟩:=d;dsimp only at *;refine dA;case rel=>exact⟨_,l,HO.out.alloc _,λd hd=>⟨(HL1.out d hd).1,(HL1.out d hd).2.1,Xb0 _ (HL1.out d hd).2.2⟩,HEND.out,HL3.out,HIA.out _ gM,gM⟩
    case measure=>
     rw[HLA.out _ gM];exact HLT.out
   |true=>
    have ht:d.track=track:=by simpa using e1
    have hend:((∀d'∈l++ [d],d'∈ds/\d'.track=track/\d'.ssrc∈d.ssrc::S)/\(∀d'∈ds,d'.track=track->d'.ssrc∈d.ssrc::S->d'∈l++ [d]))/\((l++ [d]).map Dn.ssrc).Nodup:=by
     refine⟨⟨λd' hd'=>?_,λd' hd' ht' hs=>?_⟩,?_⟩
     .rcases Xa5.1 hd' with h|h
      .exact⟨(HL1.out d' h).1,(HL1.out d' h).2.1,Xb0 _ (HL1.out d' h).2.2⟩
      .rw[List.mem_singleton.1 h]
       exact⟨HD.out,ht,List.mem_cons_self⟩
     .rcases Xa6.1 hs with e|e
      .rw[HDD.out d' hd' e]
       simp
      .exact List.mem_append_left _ (HL2.out d' hd' ht' e)
     .rw[Xb5,List.nodup_append]
      exact⟨HL3.out,sM,λa ha b hb e=>by obtain⟨d',hd',rfl⟩:=Xa3.1 ha;simp at hb;exact HNM.out d' hd' (e.trans hb)⟩
    have HEND:=OH hend;clear hend;have hsn:(l++ [d]).flatMap eW=l.flatMap eW++eW d:=sM;have HSN:=OH hsn;clear hsn;have hlen:(l++ [d]).length=l.length+1:=sM;have HLEN:=OH hlen;clear hlen;obtain⟨ssrc,slot,turn,who,trk,shard,frm,layer,tid,muted⟩:=d;dsimp only[eW]at *;subst ht;have hB:=hB1;have hO1:=HO.out;go_wp2_with (first|(at_builtin;refine wpList_append_own _ rfl (.tmp 23) (.tmp 25) 367 rfl w.heap.size 198 i0 (.agg #[JT 0,JI 0,JT 0,JI 0,JI 0,JI 0,JI 0,JI 0,JI 0,.bool false]) 10 80 underlying367 hi hz0 hz1 hz2 rfl dM _ _ _ rfl ((HO.out.alloc _).alloc _) ⟨w1.heap.size+1,0,none⟩ 1 1 [JT ssrc,JI slot,JT turn,JI who,JI trk,JI shard,JI frm,JI layer,JI tid,.bool muted] rfl rfl mf oe If Ie (by have:=hB.size;first|omega|(simp;omega)) ?_;intro v2 w2 hown1 hgrow1 _))
    have hgc:ag (λj=>(Xc0 A l.length cap).ownBlock=some j) w1 w2:=ag.grown (v:=.slice A l.length cap) ((ag.refl _ _).alloc _ |>.alloc _) hgrow1 (λk hk _=>hk);have hi2:=HI1.out.chg hgc (λe=>by obtain⟨c,hh⟩:=bG HO.out e;exact(HI1.out.ne hh).1 rfl) (λe=>by obtain⟨c,hh⟩:=bG HO.out e;exact(HI1.out.ne hh).2 rfl);have hl2:=lG (hgc.block _ HI1.out.lt.2.1 (λe=>by obtain⟨c,hh⟩:=bG HO.out e;exact(HI1.out.ne hh).2 rfl)) HI1.out (hgc.block _ HI1.out.lt.1 (λe=>by obtain⟨c,hh⟩:=bG HO.out e;exact(HI1.out.ne hh).1 rfl));have hb2:aC w w2:=hB1.trans (hgc.below (λj e=>eV HO.out j e) hB1.size);go_roundw;case rel=>exact⟨_,l++ [⟨ssrc,slot,turn,who,trk,shard,frm,layer,tid,muted⟩],by rw[HSN.out,HLEN.out];exact hown1,HEND.out.1.1,HEND.out.1.2,HEND.out.2,hi2,hb2⟩
    case measure=>rw[hl2];exact HLT.out
end
end Go.Proofs.YtnpancjkjheffaaGreat
