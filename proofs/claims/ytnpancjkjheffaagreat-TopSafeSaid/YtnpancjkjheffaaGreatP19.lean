/- Part 21 of the proof of TopSafe. No condition. -/
import Derived.Test.YtnpancjkjheffaaGreatP18
namespace Go.Proofs.YtnpancjkjheffaaGreat
set_option linter.unusedVariables false
set_option linter.unusedSimpArgs false
set_option maxRecDepth 100000
set_option maxHeartbeats 8000000
open Go.RowKit
open Go.Proofs.Tryz
open _root_.List renaming mem_map->PI,filter_sublist->Xa0,mem_filter->Xa1,mem_singleton->Xa2,mem_cons_of_mem->Xa3,mem_append->Xa4,insertIdx_succ_cons->Xa5,nodup_append->Xa6,mem_cons_self->Xa7,pairwise_cons->Xa8,mem_cons->Xa9,length_filter_le->Xb0,mem_append_left->Xb1,length_cons->Xb2,getElem_mem->Xb3,map_cons->Xb4,getElem?_eq_getElem->Xb5,map_append->Xb6,pairwise_map->Xb7,map_map->Xb8,eq_nil_or_concat->Xb9,length_append->Xc0,getD_eq_getElem?_getD->Xc1,pairwise_iff_getElem->Xc2,getElem?_eq_some_iff->Xc3,getElem?_set_self->Xc4,mem_append_right->Xc5,concat_eq_append->Xc6,getElem?_set_ne->Xc7,getElem_modify->Xc8,map_nil->Xc9,pairwise_flatMap->Xd0,length_singleton->Xd1,eraseIdx_sublist->Xd2,takeWhile_cons->Xd3,getElem_of_mem->Xd4,filter_eq_self->Xd5,any_eq_false->Xd6,mem_flatMap->Xd7,map_flatMap->Xd8,ext_getElem->Xd9,nodup_cons->Xe0,foldl_cons->Xe1,mem_range->Xe2,range->Xe3
open _root_.Int renaming le_refl->Xe4,le_trans->Xe5,lt_or_eq_of_le->Xe6,emod_lt_of_pos->Xe7,emod_nonneg->Xe8
open _root_.Bool renaming not_eq_true'->Xe9,and_eq_true->Xf0
open _root_.Option renaming isSome_iff_exists->Xf1,some->Xf2,getD_some->Xf3
open _root_.List.Pairwise renaming imp_of_mem->Xf4,imp->Xf5
open World renaming alloc->Xf6
variable {cf:Cf}{c:Cs}{X:Cx}{k' sl tn:Int}{inq':List Ca}{L':List Dd.En}{se:List Se}{i:Nat}{t:Option Tb}{s:Se}
namespace Na
def iY(m d:Int):Int:=if 0<d/\m / 2 ^ (d-1).toNat % 2=0 then m+2 ^ (d-1).toNat else m
def dY(out:List (Int×Int))(s:Int):List (Int×Int):=
 match out.getLast? with
 |none=>out++ [(s,0)]
 |some (p,m)=>if(s-p) % 65536<=16 then out.dropLast++ [(p,iY m ((s-p) % 65536))] else out++ [(s,0)]
def kJ(ss:List Int):List (Int×Int):=ss.foldl dY []
theorem CR(ss:List Int)(k:Nat)(hk:k<ss.length):kJ (ss.take (k+1))=dY (kJ (ss.take k)) (ss.getD k 0):=by rw[List.take_add_one,kJ,List.foldl_append];simp[kJ,List.getD,hk]
theorem xz(s:Int):dY [] s=[(s,0)]:=rfl
theorem lD(out:List (Int×Int))(p m s:Int)(h:¬(s-p) % 65536<=16):dY (out++ [(p,m)]) s=out++ [(p,m)] ++ [(s,0)]:=by simp[dY,h]
theorem iC(out:List (Int×Int))(p m s:Int)(h:(s-p) % 65536<=16):dY (out++ [(p,m)]) s=out++ [(p,iY m ((s-p) % 65536))]:=by simp[dY,h]
theorem qZ(out:List (Int×Int))(s:Int):out.length<=(dY out s).length/\(dY out s).length<=out.length+1:=by
 rcases Xb9 out with rfl|⟨l,⟨p,m⟩,rfl⟩
 .simp[dY]
 .rw[Xc6]
  by_cases h:(s-p) % 65536<=16
  .rw[iC _ _ _ _ h]
   simp
  .rw[lD _ _ _ _ h]
   simp
theorem xA(ss:List Int):(kJ ss).length<=ss.length:=by
 have:∀ (ss:List Int) (out:List (Int×Int)),(ss.foldl dY out).length<=out.length+ss.length:=by
  intro ss;induction ss with
  |nil=>
   intro out;simp
  |cons s ss ih=>intro out;have h1:=ih (dY out s);have h2:=(qZ out s).2;simp only[Xe1,Xb2];omega
 simpa[kJ]using this ss []
theorem JY(m d:Int)(h0:0<=m)(h1:m<65536)(h2:d<=16):0<=iY m d/\iY m d<65536:=by
 unfold iY;split
 .rename_i h
  obtain⟨hd,hz⟩:=h;generalize hj:(d-1).toNat=j at *;have hj16:j<16:=oM;have e:=Int.emod_add_mul_ediv m (2 ^ j);have hp:(0:Int)<2 ^ j:=Int.pow_pos dM;have hr:=Xe7 m hp;have hr0:=Xe8 m (Int.ne_of_gt hp);have hq:m / 2 ^ j=2*(m / 2 ^ j / 2):=oM;generalize m / 2 ^ j / 2=q at *;rw[hq]at e;generalize m % 2 ^ j=r at *;have hcase:j=0\/j=1\/j=2\/j=3\/j=4\/j=5\/j=6\/j=7\/j=8\/j=9\/j=10\/j=11\/j=12\/j=13\/j=14\/j=15:=oM;rcases hcase with rfl|rfl|rfl|rfl|rfl|rfl|rfl|rfl|rfl|rfl|rfl|rfl|rfl|rfl|rfl|rfl<;>simp at e hr hp ⊢<;>omega
 .exact⟨h0,h1⟩
def QJ(ps:List (Int×Int)):Prop:=∀p∈ps,0<=p.1/\p.1<65536/\0<=p.2/\p.2<65536
theorem uv(out:List (Int×Int))(s:Int)(h:QJ out)(h0:0<=s)(h1:s<65536):QJ (dY out s):=by
 rcases Xb9 out with rfl|⟨l,⟨p,m⟩,rfl⟩
 .intro q hq
  simp[dY]at hq;subst hq;simp;omega
 .rw[Xc6]at *
  have hp:=h (p,m) sM;by_cases hn:(s-p) % 65536<=16
  .rw[iC _ _ _ _ hn]
   intro q hq;rw[Xa4]at hq;rcases hq with hq|hq
   .exact h q (by simp[hq])
   .simp at hq
    subst hq;have:=JY m ((s-p) % 65536) hp.2.2.1 hp.2.2.2 hn;exact⟨hp.1,hp.2.1,this.1,this.2⟩
  .rw[lD _ _ _ _ hn]
   intro q hq;rw[Xa4]at hq;rcases hq with hq|hq
   .exact h q hq
   .simp at hq
    subst hq;simp;omega
theorem CS(ss:List Int)(h:∀s∈ss,0<=s/\s<65536):QJ (kJ ss):=by
 have:∀ (ss:List Int) (out:List (Int×Int)),(∀s∈ss,0<=s/\s<65536)->QJ out->QJ (ss.foldl dY out):=by
  intro ss;induction ss with
  |nil=>
   intro out _ h;exact h
  |cons s ss ih=>intro out hs ho;have:=hs s sM;exact ih _ (λx hx=>hs x wF) (uv out s ho this.1 this.2)
 exact this ss [] h (by intro p hp;simp at hp)
end Na
namespace Na
def eQ(a b:Int):Int:=if 32768<=(b-a) % 65536 then(b-a) % 65536-65536 else(b-a) % 65536
theorem mP(a b:Int): -32768<=eQ a b/\eQ a b<=32767:=zk
theorem O8(x:Int)(w:World)(h0:0<=x)(h1:x<=65535):az 169 #[JS x] w λe w'=>e=aA (JI x)/\w=w':=by
 go_enter func169,ntmps169
 go_wp2
 go_ret;exact gO
theorem lH(a b:Int)(w:World):az 126 #[JS a,JS b,JI 32768] w λe w'=>e=aA (JI (eQ a b))/\w=w':=zq53
theorem lN(a b:Int)(w:World):az 93 #[JS a,JS b] w λe w'=>e=aA (JI (eQ a b))/\w=w':=by refine Ye;go_ret;exact gO
end Na
namespace Na
theorem Ti:(prog.info? 209).map (λi=>(i.zero,i.size,i.bytes))=some (some (.agg #[JS 0,JS 0]),2,4):=kM
theorem Pack_any(A:Option Addr)(len cap:Nat)(ss:List Int)(w:World)(hlen:ss.length=len)(hl:len<=1000000)(hp:bd w A .u16 ss)(hr:∀s∈ss,0<=s/\s<65536) :
  az 46 #[.slice A len cap] w λe w'=>∃v,e=aA v/\w'.ownsRow w.heap.size 209 2 v (kJ ss).length (bp .u16 (kJ ss))/\aC w w':=by
 subst hlen;obtain⟨i0,hi,hz0,hz1,hz2⟩:=info_parts Ti;refine ml;clear hr;refine rK;go_enter func46,ntmps46;refine ay;go_loopw [3,10] (λv i wr=>∃k:Nat,k<=ss.length/\i=JI k/\wr.ownsRow w.heap.size 209 2 v (kJ (ss.take k)).length (bp .u16 (kJ (ss.take k)))/\aC w wr) (λ_ i _=>ss.length- (intOf i).toNat);case atStart=>exact⟨0,oM,rfl,by simpa[kJ,bp]using World.ownsRow_nil _ _ _ _,gM⟩
 case round=>
  refine EO;by_cases hlt:k<ss.length
  .obtain⟨b,o,rfl,hb,q0⟩:=HP.out k hlt
   have hs:=HR.out (ss.getD k 0) Kh;have hst:=OH (CR ss k hlt);have hln:=xA (ss.take k);have hln2:(ss.take k).length<=1000000:=xM;have hfit:=OH (CS (ss.take k) (λx hx=>HR.out x (List.mem_of_mem_take hx)));generalize ss.getD k 0=s at *;obtain⟨s0,s1⟩:=hs;replace q0:=(hB.cell (p:=⟨b,o+k,none⟩) hb).trans q0;have hbr:=Nat.lt_of_lt_of_le hb hB.size;have z0:=hB.size;generalize kJ (ss.take k)=O at *;rcases Xb9 O with rfl|⟨O,⟨p,m⟩,rfl⟩
   .obtain⟨A1,cap1,rfl⟩:=aj hown
    go_wp2_with (first
     |(at_builtin;refine wpList_append_own _ rfl (.tmp 46) (.tmp 49) 110 rfl w.heap.size 209 i0 (.agg #[JS 0,JS 0]) 2 4 underlying110 hi hz0 hz1 hz2 rfl dM _ _ _ rfl (hown.alloc _) ⟨wr.heap.size,0,none⟩ 1 1 [JS s,JS 0] rfl rfl mf oe If Ie Ia ?_;intro v1 w1 hown1 hgrow1 _))
    refine Vw;go_roundw;case rel=>exact⟨k+1,oM,eT,by rw[hst.out];exact(by rw[xz];simpa[bp]using hown1),hB1⟩
    case measure=>exact di
   .rw[Xc6]at *
    have hpm:=hfit.out (p,m) sM;obtain⟨p0,p1,m0,m1⟩:=hpm;dsimp only at p0 p1 m0 m1;obtain⟨g,cap1,rfl,hg,hgl,c0,c1,f0,hset⟩:=Oy hown;have hOl:O.length<=999999:=by rw[Xc0]at hln;simp only[Xd1]at hln;omega
    obtain⟨fd0,fd1⟩:=mP p s;have hd:eQ p s=(s-p) % 65536/\eQ p s<=32767\/eQ p s<0/\32768<=(s-p) % 65536:=zk
    have HS:=OH hset;clear hset;generalize hf:eQ p s=f at *;have hfh:=OH hf;clear hf;refine ku;clear hd;by_cases f1:f<0
    .exact zq68
    .by_cases f2:16<f
     .exact zq68
     .by_cases f3:f=0
      .go_wp2_with (first
        |(go_at_call 93;(with_reducible refine(lN _ _ _).mono ?_);rintro e w' ⟨rfl,rfl⟩;rw[hfh.out]))
       have hz:(s-p) % 65536=0:=by rcases HD.out with h|h<;>omega
       have hown3:wr.ownsRow w.heap.size 209 2 (.slice (aT g) (O.length+1) cap1) (O++ [(p,iY m ((s-p) % 65536))]).length (bp .u16 (O++ [(p,iY m ((s-p) % 65536))])):=by rw[hz];simpa[iY]using hown
       clear hown;have hB1:=hB;go_roundw;case rel=>exact⟨k+1,oM,eT,by rw[hst.out];exact(by rw[iC _ _ _ _ oM];exact hown3),hB1⟩
       case measure=>exact di
      .obtain⟨n,rfl⟩:∃n:Nat,f=(n:Int)+1:=⟨(f-1).toNat,oM⟩
       have hn:n<=15:=oM;go_wp2_with (first
        |(go_at_call 93;(with_reducible refine(lN _ _ _).mono ?_);rintro e w' ⟨rfl,rfl⟩;rw[hfh.out]))
       have hor:bits BinOp.or IntKind.u16 m (IntKind.u16.wrap (2 ^ n))=iY m ((s-p) % 65536):=by rw[OE m n m0 m1 hn,show(s-p) % 65536=(n:Int)+1 by rcases HD.out with h|h<;>omega];simp[iY]
       have hown3:=(HS.out (iY m ((s-p) % 65536))).drew;have hB1:aC w (wr.setCell ⟨g,O.length*2+1,none⟩ (JS (iY m ((s-p) % 65536)))).drew:=gM;have hnear:(s-p) % 65536<=16:=by rcases HD.out with h|h<;>omega
       have HO:=OH hown3;clear hown3;have HB1:=OH hB1;clear hB1;have HR1:=OH hor;clear hor;go_region;rw[HR1.out];have hown3:=HO.out;have hB1:=HB1.out;clear hown hB;refine dA;case rel=>exact⟨k+1,oM,eT,by rw[hst.out];exact(by rw[iC _ _ _ _ hnear];simpa using hown3),hB1⟩
       case measure=>exact di
  .have hkl:k=ss.length:=oM
   refine mq;exact qB
end Na
abbrev pkS(s:qP):Pk:= {s.p with ssrc:=s.ssrc}
def PacF(s:qP)(zs:List Int):Prop:=s.kind≠4->s.ssrc<2147483648->wC (pkS s)->zs=dR (Tp 128 s.p.ty (pkS s))++s.p.zs
theorem IV{ss:List Int}(h:ss≠ []):0<(Na.kJ ss).length:=by
 have key:∀ (l:List Int) (acc:List (Int×Int)),(acc≠ []\/l≠ [])->l.foldl Na.dY acc≠ []:=by
  intro l;induction l with
  |nil=>
   intro acc q;exact q.resolve_right sM
  |cons x l ih=>
   intro acc q;refine ih _ (.inl ?_);rcases Xb9 acc with rfl|⟨l',y,rfl⟩
   .simp[Na.xz]
   .have:=(Na.qZ (l'.concat y) x).1
    intro q2;rw[q2]at this;simp at this
 exact List.length_pos_iff.2 (key ss [] (.inr h))
section
variable {w w' u:World}{b:Nat}{s:qP}
theorem RPE.tol{e:Ending}{w0:World}{F:List Int->Prop}(h:RPE w e w')(hc:ag af w0 w)(hF:∀zs,F zs):∃A cap err,∃zs:List Int,e=aA (.tuple #[.slice A zs.length cap,JI err])/\TolE w0 b F (.returned (.slice A zs.length cap)) w':=by obtain⟨A,cap,zs,err,rfl,ho,hb,hl,hbl⟩:=h;exact⟨A,cap,err,zs,rfl,A,cap,zs,rfl,C5 ho,hb,oM,hF zs,hc.next hbl⟩
theorem Bs(h:p9 w b s):az 16 #[.agg (Ci s)] w (TolE w b (PacF s)):=by
 have hr:=λW (hc:ag af w W)=>h.r.1.none hc
 have hp:=λW (hc:ag af w W)=>GH (w:=W) (p:=pkS s) {(h.p.below hc.none)with n:= {h.p.n with ssrc:=h.ss}}
 have hs:=λW (hc:ag af w W)=>Na.Pack_any s.sa s.sq.length s.sc s.sq W rfl (by have:=h.sq.2.2.2.1;omega) (h.sq.1.below rfl hc.none) h.sq.2.2.2.2
 have HR:=OH (And.intro hr h.r.2);refine nL;refine jM;have HSS:=OH h.ss;have HSQ:=OH h.sq.2.2.2;obtain⟨b1,f1⟩:∃c,(s.kind==4)=c:=⟨_,rfl⟩
 obtain⟨b2,f2⟩:∃c,decide (s.ssrc ≥ 2147483648)=c:=⟨_,rfl⟩
 go_enter func16,ntmps16;refine kx;refine W5;generalize hzz:w.heap.size=Z at *;have HZ:=OH hzz;obtain⟨cS,fS,zS⟩:=ab hS;cases b1 with
 |true=>
  have e4:s.kind=4:=by simpa using f1
  have HE4:=OH e4;refine bj;exact⟨s.ra,s.rc,s.rz,rfl,HR.out.1 _ hG,HR.out.2.1,Kk,λq=>absurd HE4.out q,hG⟩
 |false=>
  cases b2 with
  |true=>
   have f3:s.ssrc ≥ 2147483648:=by simpa using f2
   have HNP:=OH (show ∀zs,PacF s zs from λzs _ q=>oM);obtain⟨b3,f4⟩:∃c,decide (0<s.sq.length)=c:=⟨_,rfl⟩
   refine gq;generalize hu:Xf6 _ _=v;have hL5:v.heap[u.heap.size]?=OC (kO {gE 4 with media:=s.ssrc}) 113:=jn
   have hcv:ag af u v:=lT
   have hS5:=ae hcv hS id;have hG5:=hG.trans hcv;have HL5:=OH hG.size;have hzv:Z<u.heap.size:=gM;generalize u.heap.size=L at *;refine LM;cases b3 with
   |false=>
    refine mA;refine LM;refine ay;have hGx:ag af w (Xf6 v (.cells (kO ({gE 4 with media:=s.ssrc})) 113)):=hG5.alloc _;refine(wU (m:= {gE 4 with media:=s.ssrc}) Ke (λW hW=>Hr W s.ssrc HSS.out.1 HSS.out.2) ⟨_,_,_,_,_,_,_,_,_,_,_,_,rfl,rfl,rfl,rfl⟩).mono ?_;exact Yg
   |true=>
    refine nJ;have hG:=hG5;refine rl 6 (λw'=>Bk w' Z (Ci s) 61/\Bk w' L (kO {gE 4 with media:=s.ssrc}) 113) (λw0_ hc0=>?_);have hS5:=ae hc0 hS5 id;have hL5:=ae hc0 hL5 id;refine oH;refine vy;refine vm;refine EG;refine(HS.out w0_ hG).mono ?_;rintro r' w1_ ⟨v5,rfl,ho5,hb5⟩;obtain⟨A5,cap5,rfl⟩:=aj ho5;have HO5:=OH ho5;have hc1:ag af w0_ w1_:=.of hb5;have hS5:=ae hc1 hS5 id;have hL5:=ae hc1 hL5 id;refine qj;refine iT;refine tk 5 ?_;refine lst (hL5) ?_;have h17:=aK (kO {gE 3 with media:=s.ssrc,pairs:=.slice A5 (Na.kJ s.sq).length cap5}).toList hL5 rfl;have hc17:=ax (S:=λj=>j=L) (.inl rfl) (kO {gE 3 with media:=s.ssrc,pairs:=.slice A5 (Na.kJ s.sq).length cap5}).toList w1_ 0 dp;have h18:=jH hc17 hL5 hS5;have hG5:ag af w (aR w1_ L 0 (kO {gE 3 with media:=s.ssrc,pairs:=.slice A5 (Na.kJ s.sq).length cap5}).toList):=hG.new hc17 HL5.out;have HU2:=OH (ah HO5.out hc17 λj cur q q2=>au q2 dM (q ▸ hL5));have HPL:=OH (Nat.le_trans (Na.xA s.sq) HSQ.out.1);have HPR:=OH (show ∀p∈Na.kJ s.sq,(0<=p.1/\p.1<=65535)/\0<=p.2/\p.2<=65535 from λp hp=>by have q:=Na.CS s.sq HSQ.out.2 p hp;omega);have HPP:=OH (IV (ss:=s.sq) (by rintro q;rw[q]at f4;simp at f4));have hS5:=h18;have hL5:=h17;generalize aR _ _ _ _=u2 at *;refine LM;refine ay;have hGx:ag af w (Xf6 u2 (.cells (kO ({gE 3 with media:=s.ssrc,pairs:=.slice A5 (Na.kJ s.sq).length cap5})) 113)):=hG5.alloc _;refine(wU (m:= {gE 3 with media:=s.ssrc,pairs:=.slice A5 (Na.kJ s.sq).length cap5}) Ke (λW hW=>TU W s.ssrc HSS.out.1 HSS.out.2 rfl (aX (aX HU2.out ((ag.refl _ _).alloc _).none) hW) HPR.out (by have:=HPL.out;omega) HPP.out) ⟨_,_,_,_,_,_,_,_,_,_,_,_,rfl,rfl,rfl,rfl⟩).mono ?_;exact Yg
  |false=>
   have f3:s.ssrc<2147483648:=by simpa using f2
   have HF3:=OH f3;refine uQ;generalize hu:Xf6 _ _=v;have hV:v.heap[u.heap.size]?=OC (ij s.p).toArray 58:=jn
   have hcv:ag af u v:=lT
   have hS2:=ae hcv hS id;have hG':=hG.trans hcv;have hzv:Z<u.heap.size:=gM;generalize u.heap.size=V at *;obtain⟨cS,fS,zS⟩:=ab hS2;refine qu;refine yY;generalize hu:World.setCell _ _ _=v2;have hV2:v2.heap[V]?=OC (ij (pkS s)).toArray 58:=by rw[←hu];exact av _ _ hV
   have hS3:v2.heap[Z]?=OC (Ci s) 61:=jn
   have hG2:ag af w v2:=by rw[←hu];exact hG'.set _ (.inr (by have:=HZ.out;show _<=V;omega)) _
   obtain⟨cS,fS,zS⟩:=ab hS3;obtain⟨cV,fV,zV⟩:=ab hV2;refine ay;refine(HP.out _ hG2).mono ?_;rintro r w3 ⟨vv,err,zr,rfl,⟨A,k,c,rfl,hn⟩,ho,hpl,hb⟩;have hc3:ag af v2 w3:=.of hb;have hG3:=hG2.trans hc3;have hS4:=ae hc3 hS3 id;refine qh;have HG3:=OH hG3;obtain⟨cS,fS,zS⟩:=ab hS4;by_cases he:err=0
   .have e0:(err !=0)=false:=by simpa using he
    obtain⟨hw,hz,hl⟩:=ho he;obtain⟨A',c',q⟩:=aj hw;simp only[Value.slice.injEq]at q;obtain⟨rfl,rfl,rfl⟩:=q;have HW:=OH (And.intro hw (And.intro hz hl));refine bj;exact⟨A,c,zr,rfl,C5 HW.out.1,HW.out.2.1,by have:=HW.out.2.2;omega,λ_ _ q=>(HPL.out q).2,HG3.out⟩
   .have e0:(err !=0)=true:=by simpa using he
    have HNF:=OH he;refine bj;exact⟨s.ra,s.rc,s.rz,rfl,HR.out.1 _ HG3.out,HR.out.2.1,Kk,λ_ _ q=>absurd (HPL.out q).1 HNF.out,HG3.out⟩
end
section
variable {α β:Type}
theorem nh{x y:α}{l:List α}(h:y∈l.insertIdx i x):y=x\/y∈l:=by
 induction l generalizing i with
 |nil=>
  cases i<;>simp at h;exact .inl h
 |cons a l ih=>
  cases i with
  |zero=>
   simpa using h
  |succ i=>
   rw[Xa5]at h;rcases Xa9.1 h with e|e
   .exact .inr (e ▸ Xa7)
   .exact(ih e).imp id λq=>Xa3 _ q
theorem xJ{x y:α}{l:List α}(hi:i<=l.length)(h:y=x\/y∈l):y∈l.insertIdx i x:=by
 induction l generalizing i with
 |nil=>
  cases i<;>simp_all
 |cons a l ih=>
  cases i with
  |zero=>
   simpa using h
  |succ i=>
   rw[Xa5];rcases h with e|e
   .exact Xa3 _ (ih nv (.inl e))
   .rcases Xa9.1 e with e|e
    .exact e ▸ Xa7
    .exact Xa3 _ (ih nv (.inr e))
theorem o5(f:α->β)(i:Nat)(x:α)(l:List α):(l.insertIdx i x).map f=(l.map f).insertIdx i (f x):=by
 induction l generalizing i with
 |nil=>
  cases i<;>rfl
 |cons a l ih=>
  cases i with
  |zero=>
   rfl
  |succ i=>rw[Xa5,Xb4,ih,Xb4,Xa5]
theorem insl(i:Nat)(x:α)(l:List α):(l.insertIdx i x).length<=l.length+1:=by
 induction l generalizing i with
 |nil=>
  cases i<;>simp
 |cons a l ih=>
  cases i with
  |zero=>
   simp
  |succ i=>rw[Xa5];simpa using ih i
theorem ins_pw{R:α->α->Prop}{x:α}{l:List α}(i:Nat)(h:l.Pairwise R)(hx:∀a∈l,R x a/\R a x):(l.insertIdx i x).Pairwise R:=by
 induction l generalizing i with
 |nil=>
  cases i<;>simp
 |cons a l ih=>
  obtain⟨h1,h2⟩:=Xa8.1 h;cases i with
  |zero=>
   exact Xa8.2 ⟨λb hb=>(hx b hb).1,h⟩
  |succ i=>
   rw[Xa5];refine Xa8.2 ⟨λb hb=>?_,ih i h2 λb hb=>hx b (Xa3 _ hb)⟩;rcases nh hb with e|e
   .exact e ▸ (hx a Xa7).2
   .exact h1 b e
theorem Pp{R:α->α->Prop}(c:α->Int)(x:α)(hlt:∀a,c a<0->R a x)(hge:∀a,0<=c a->a=x\/R x a)(tr:∀a b d,R a b->R b d->R a d){l:List α}(h:l.Pairwise R)(hx:x ∉ l):(l.insertIdx (gX c l) x).Pairwise R:=by
 induction l with
 |nil=>
  simp[gX]
 |cons a l ih=>
  obtain⟨h1,h2⟩:=Xa8.1 h;by_cases ha:c a<0
  .have e:gX c (a::l)=gX c l+1:=by simp[gX,Xd3,ha]
   rw[e,Xa5];refine Xa8.2 ⟨λb hb=>?_,ih h2 λq=>hx (Xa3 _ q)⟩;rcases nh hb with e|e
   .exact e ▸ hlt a ha
   .exact h1 b e
  .have e:gX c (a::l)=0:=by simp[gX,Xd3,ha]
   rw[e];have hxa:R x a:=(hge a oM).resolve_left λq=>hx (q ▸ Xa7)
   refine Xa8.2 ⟨λb hb=>?_,h⟩;rcases Xa9.1 hb with e|e
   .exact e ▸ hxa
   .exact tr _ _ _ hxa (h1 b e)
end
theorem G6{x:Int}{l:List Int}(h:p8 l)(hx:x ∉ l):p8 (l.insertIdx (fi x l) x):=
 Pp (λi=>fl i x) x (λa q=>rD.1 q) (λa q=>by
  rcases Xe6 q with q|q
  .exact .inr (rC.1 q)
  .exact .inl (iQ.1 q.symm)) (λa b d=>by intro p q;exact Int.lt_trans p q) h hx
theorem S5{x:Int×Int}{l:List (Int×Int)}(h:B9 l)(hx:x ∉ l):B9 (l.insertIdx (kR x l) x):=
 Pp (mL x) x (λa q=>GY.1 q) (λa q=>by
  rcases Xe6 q with q|q
  .exact .inr (GX.1 q)
  .exact .inl (o4.1 q.symm)) (λa b d=>pQ) h hx
theorem may_ok{zs:List Int}(h:tj zs=true)(h0:∀z∈zs,0<=z):1<=zs.length/\zs.length<=3/\(∀z∈zs,1<=z/\z<2147483648)/\zs.Nodup:=by
 simp only[tj,Xf0,List.all_eq_true,Xe2]at h;obtain⟨h1,h2⟩:=h;have h3:∀i (hi:i<zs.length),zs[i] ≠0/\zs[i] <2147483648/\zs[i] ∉ zs.take i:=λi hi=>by have:=h2 i hi;simp only[okS,Xc1,Xb5 hi,Xf3,Xf0,Xe9,beq_eq_false_iff_ne,decide_eq_false_iff_not]at this;exact⟨this.1.1,oM,this.2⟩
 simp only[ja,decide_eq_true_eq]at h1;refine⟨oM,oM,λz hz=>?_,Xc2.2 λi j hi hj hij e=>?_⟩
 .obtain⟨i,hi,rfl⟩:=Xd4 hz
  have:=h3 i hi;have:=h0 _ hz;omega
 .refine(h3 j hj).2.2 (List.mem_iff_getElem.2 ⟨i,xM,?_⟩)
  rw[List.getElem_take];exact e
structure eE(c:Cf)(k:Int)(d:De):Prop where
 up:p8 (d.people.map Pe.who)
 ut:p8 (d.tracks.map Tr.id)
 us:B9 (bD d.subs)
 pl:(d.people.length:Int)<=c.people
 tl:(d.tracks.length:Int)<=c.tracks
 sl:(d.subs.length:Int)<=c.slots
 pw:∀p∈d.people,1<=p.who/\p.who<=999
 tr:∀t∈d.tracks,(1<=t.id/\t.id<=999)/\t.owner∈d.people.map Pe.who/\(0<=t.frm/\t.frm<=k)/\(t.ssrcs.length<=3/\(∀z∈t.ssrcs,1<=z/\z<2147483648)/\t.ssrcs.Nodup)
 ap:d.tracks.Pairwise λa b=>∀z∈a.ssrcs,z ∉ b.ssrcs
 sk:∀x∈d.subs,x.who∈d.people.map Pe.who/\x.track∈d.tracks.map Tr.id
section
variable {c:Cf}{k:Int}{d:De}{q:Rq}
theorem eE.mono(h:eE c k d)(hk:k<=k'):eE c k' d:= {h with tr:=λt ht=>by obtain⟨a,b,e,f⟩:=h.tr t ht;exact⟨a,b,oM,f⟩}
theorem oP{ts:List Tr}{ls:List Int}(h:lr ts ls=false):∀t∈ts,∀z∈t.ssrcs,z ∉ ls:=λt ht z hz=>by have h1:=Xd6.1 h t ht;simp only[Bool.not_eq_true]at h1;have h2:=Xd6.1 h1 z hz;simpa using h2
theorem eE.drop(h:eE c k d)(p:Int->Int->Bool):eE c k (gU d p):=by
 refine⟨h.up,h.ut.sublist (Xa0.map _),h.us.sublist (Xa0.map _),h.pl,?_,?_,h.pw,λt ht=>h.tr t (Xa1.1 ht).1,h.ap.sublist Xa0,λx hx=>?_⟩
 .have:=Xb0 (λt:Tr=>!p t.id t.owner) d.tracks
  have:=h.tl;dsimp only[gU];omega
 .have:=Xb0 (λx:Su=>decide (x.track∈ (d.tracks.filter λt=>!p t.id t.owner).map Tr.id)) d.subs
  have:=h.sl;dsimp only[gU];omega
 .obtain⟨h1,h2⟩:=Xa1.1 hx
  exact⟨(h.sk x h1).1,of_decide_eq_true h2⟩
theorem eE.join(h:eE c k d):eE c k (mN c d q).1:=by
 unfold mN;split
 .exact h
 split
 .exact h
 split
 .exact h
 split
 .exact h
 split
 .exact h
 next h1 _ _ h2 h3=>
 simp only[decide_eq_true_eq]at h2 h3;refine LB;have hin:∀x,x∈d.people.map Pe.who->x∈ (d.people.insertIdx (fi q.who (d.people.map Pe.who)) ⟨q.who,q.room,q.rights⟩).map Pe.who:=λx hx=>by rw[o5];exact xJ (by simpa using xK q.who (d.people.map Pe.who)) (.inr hx)
 refine⟨by dsimp only;rw[o5];exact G6 h.up h2,h.ut,h.us,?_,h.tl,h.sl,λp hp=>?_,λt ht=>?_,h.ap,λx hx=>⟨hin _ (h.sk x hx).1,(h.sk x hx).2⟩⟩
 .have:=insl (fi q.who (d.people.map Pe.who)) (⟨q.who,q.room,q.rights⟩:Pe) d.people
  exact lO
 .rcases nh hp with e|e
  .subst e
   exact h1
  .exact h.pw p e
 .obtain⟨a,b,e⟩:=h.tr t ht
  exact⟨a,hin _ b,e⟩
theorem eE.leave(h:eE c k d)(who:Int):eE c k (xP d who):=by
 unfold xP gU;dsimp only;refine⟨h.up.sublist (Xa0.map _),h.ut.sublist (Xa0.map _),h.us.sublist ((Xa0.trans Xa0).map _),?_,?_,?_,λp hp=>h.pw p (Xa1.1 hp).1,λt ht=>?_,h.ap.sublist Xa0,λx hx=>?_⟩
 .have:=Xb0 (λx:Pe=>!(x.who==who)) d.people
  have:=h.pl;exact lO
 .have:=Xb0 (λt:Tr=>!(t.owner==who)) d.tracks
  have:=h.tl;exact lO
 .have:=(Xa0.trans Xa0:((d.subs.filter λx=>!(x.who==who)).filter λx=>decide (x.track∈ (d.tracks.filter λt=>!(t.owner==who)).map Tr.id)).Sublist d.subs).length_le
  have:=h.sl;exact lO
 .obtain⟨h1,h2⟩:=Xa1.1 ht
  obtain⟨a,b,e⟩:=h.tr t h1;refine⟨a,?_,e⟩;obtain⟨p,hp,e2⟩:=PI.1 b;exact PI.2 ⟨p,Xa1.2 ⟨hp,by rw[e2];exact h2⟩,e2⟩
 .obtain⟨h1,h2⟩:=Xa1.1 hx
  obtain⟨h3,h4⟩:=Xa1.1 h1;obtain⟨p,hp,e2⟩:=PI.1 (h.sk x h3).1;exact⟨PI.2 ⟨p,Xa1.2 ⟨hp,by rw[e2];exact h4⟩,e2⟩,Ek⟩
theorem eE.publish(h:eE c k d)(hk:0<=k)(hw:q.who∈d.people.map Pe.who)(h0:∀z∈q.ss,0<=z):eE c k (ig c d q).1:=by
 unfold ig;split
 .exact h
 split
 .exact h
 split
 .exact h
 split
 .exact h
 split
 .exact h
 split
 .exact h
 next _ h1 h2 h3 h4 h5=>
 simp only[decide_eq_true_eq]at h3 h5;refine LB;refine VN;have hin:∀x,x∈d.tracks.map Tr.id->x∈ (d.tracks.insertIdx (fi q.track (d.tracks.map Tr.id)) ⟨q.track,q.who,0,q.ss⟩).map Tr.id:=λx hx=>by rw[o5];exact xJ (by simpa using xK q.track (d.tracks.map Tr.id)) (.inr hx)
 refine⟨h.up,by dsimp only;rw[o5];exact G6 h.ut h3,h.us,h.pl,?_,h.sl,h.pw,λt ht=>?_,ins_pw _ h.ap λa ha=>⟨λz hz hz2=>oP h4 a ha z hz2 hz,λz hz hz2=>oP h4 a ha z hz hz2⟩,λx hx=>⟨(h.sk x hx).1,hin _ (h.sk x hx).2⟩⟩
 .have:=insl (fi q.track (d.tracks.map Tr.id)) (⟨q.track,q.who,0,q.ss⟩:Tr) d.tracks
  exact lO
 .rcases nh ht with e|e
  .subst e
   exact⟨h1,hw,⟨Xe4 _,hk⟩,m1,m2,m3⟩
  .exact h.tr t e
theorem eE.repl(h:eE c k d)(h0:∀z∈q.ss,0<=z):eE c (k+1) (oS d q).1:=by
 unfold oS;split
 .exact h.mono oM
 split
 .exact h.mono oM
 split
 .exact h.mono oM
 next _ h2 h4=>
 refine VN;generalize fi q.track (d.tracks.map Tr.id)=i;have hid:(d.tracks.modify i λt=>⟨t.id,t.owner,t.frm+1,q.ss⟩).map Tr.id=d.tracks.map Tr.id:=Xd9 sM λj h1 h2=>by simp only[List.getElem_map,Xc8];split<;>rfl
 have hget:∀t∈d.tracks.modify i λt=>⟨t.id,t.owner,t.frm+1,q.ss⟩,t∈d.tracks\/∃u∈d.tracks,t=⟨u.id,u.owner,u.frm+1,q.ss⟩:=λt ht=>by
  obtain⟨j,hj,rfl⟩:=Xd4 ht;rw[Xc8];have hj':j<d.tracks.length:=by simpa using hj
  split
  .exact .inr ⟨_,Xb3 hj',rfl⟩
  .exact .inl (Xb3 hj')
 refine⟨h.up,by dsimp only;rw[hid];exact h.ut,h.us,h.pl,by simpa using h.tl,h.sl,h.pw,λt ht=>?_,Xc2.2 λa b ha hb hab z hz hz2=>?_,λx hx=>⟨(h.sk x hx).1,by dsimp only;rw[hid];exact(h.sk x hx).2⟩⟩
 .rcases hget t ht with e|⟨u,hu,rfl⟩
  .obtain⟨a,b,e1,f⟩:=h.tr t e
   exact⟨a,b,oM,f⟩
  .obtain⟨a,b,e1,f⟩:=h.tr u hu
   exact⟨a,b,gY,m1,m2,m3⟩
 .have ha':a<d.tracks.length:=by simpa using ha
  have hb':b<d.tracks.length:=by simpa using hb
  dsimp only at hz hz2;rw[Xc8]at hz hz2;split at hz
  .rw[if_neg oM]at hz2
   exact oP h4 _ (Xb3 hb') z hz2 hz
  .split at hz2
   .exact oP h4 _ (Xb3 ha') z hz hz2
   .exact Xc2.1 h.ap a b ha' hb' hab z hz hz2
theorem Pj{l:List Su}{x y:Su}(h:l[i]?=some x)(hk:(y.who,y.track)=(x.who,x.track)):bD (l.set i y)=bD l:=by obtain⟨hi,rfl⟩:=Xc3.1 h;unfold bD;rw[List.map_set,hk];exact Wl
theorem eE.same{l:List Su}(h:eE c k d)(hk:bD l=bD d.subs):eE c k ⟨d.people,d.tracks,l⟩:=by
 have hl:l.length=d.subs.length:=by have:=congrArg List.length hk;simpa[bD]using this
 refine⟨h.up,h.ut,by dsimp only;rw[hk];exact h.us,h.pl,h.tl,by dsimp only;rw[hl];exact h.sl,h.pw,h.tr,h.ap,λx hx=>?_⟩;have hm:(x.who,x.track)∈bD d.subs:=hk ▸ PI.2 ⟨x,hx,rfl⟩;obtain⟨y,hy,e⟩:=PI.1 hm;simp only[Prod.mk.injEq]at e;have:=h.sk y hy;rw[e.1,e.2]at this;exact this
theorem rx(d:De)(q:Rq)(m:Bool):(ii d q m).1=d\/∃l,bD l=bD d.subs/\(ii d q m).1=⟨d.people,d.tracks,l⟩:=by unfold ii;exact Yd
theorem NU(d:De)(q:Rq):(ie d q).1=d\/∃l,bD l=bD d.subs/\(ie d q).1=⟨d.people,d.tracks,l⟩:=by unfold ie;exact Yd
theorem Gt(d:De)(q:Rq):(j4 d q).1=d\/∃i,(j4 d q).1=⟨d.people,d.tracks,d.subs.eraseIdx i⟩:=by
 unfold j4;split
 .exact jm
 split
 .exact jm
 .exact .inr ⟨_,rfl⟩
theorem aa5(c:Cf)(d:De)(q:Rq):((kC c d q).1=d/\(kC c d q).2≠0)\/(q.track∈d.tracks.map Tr.id/\(q.who,q.track) ∉ bD d.subs/\(d.subs.length:Int)+1<=c.slots/\(kC c d q)=(⟨d.people,d.tracks,d.subs.insertIdx (kR (q.who,q.track) (bD d.subs)) ⟨q.who,q.track,q.layer,q.tid,false⟩⟩,0)):=by
 rcases vK (c:=c) (d:=d) (q:=q) rfl rfl rfl rfl rfl rfl rfl with⟨_,e⟩|⟨_,_,e⟩|⟨_,_,_,e⟩|⟨_,_,_,_,e⟩|⟨_,_,_,_,_,e⟩|⟨_,_,_,_,_,_,e⟩|⟨_,_,_,_,_,_,_,e⟩|⟨_,h2,_,h4,_,_,h7,e⟩;exact rX;exact rX;exact rX;exact rX;exact rX;exact rX;exact rX
 .simp only[decide_eq_true_eq,decide_eq_false_iff_not]at h2 h4 h7
  exact .inr ⟨h2,h4,oM,e⟩
theorem eE.sub(h:eE c k d)(hw:q.who∈d.people.map Pe.who):eE c k (kC c d q).1:=by
 rcases aa5 c d q with⟨e,_⟩|⟨h1,h2,h3,e⟩
 .rw[e]
  exact h
 .rw[e]
  refine Y3;refine⟨h.up,h.ut,by dsimp only;rw[hk];exact S5 h.us h2,h.pl,h.tl,?_,h.pw,h.tr,h.ap,λx hx=>?_⟩
  .have:=insl (kR (q.who,q.track) (bD d.subs)) (⟨q.who,q.track,q.layer,q.tid,false⟩:Su) d.subs
   exact lO
  .rcases nh hx with e|e
   .subst e
    exact⟨hw,h1⟩
   .exact h.sk x e
theorem eE.unsub(h:eE c k d):eE c k (j4 d q).1:=by
 rcases Gt d q with e|⟨i,e⟩
 .rw[e]
  exact h
 .rw[e]
  have hs:=Xd2 d.subs i;refine⟨h.up,h.ut,h.us.sublist (hs.map _),h.pl,h.tl,?_,h.pw,h.tr,h.ap,λx hx=>h.sk x (hs.mem hx)⟩;have:=hs.length_le;have:=h.sl;exact lO
theorem eE.op(h:eE c k d)(hk:0<=k)(n:Nat)(hw:n≠0->q.who∈d.people.map Pe.who)(h0:∀z∈q.ss,0<=z):eE c (k+1) (GS n c d q).1:=by
 have h':=h.mono (show k<=k+1 by omega);unfold GS;split
 .exact h'.join
 .exact h'.leave _
 .exact h'.publish oM (hw sM) h0
 .unfold j6
  split
  .exact h'.drop λi _=>i==q.track
  .exact h'
 .exact h.repl h0
 .exact h'.sub (hw sM)
 .exact h'.unsub
 .rcases rx d q true with e|⟨l,e1,e⟩
  .rw[e]
   exact h'
  .rw[e]
   exact h'.same e1
 .rcases rx d q false with e|⟨l,e1,e⟩
  .rw[e]
   exact h'
  .rw[e]
   exact h'.same e1
 .rcases NU d q with e|⟨l,e1,e⟩
  .rw[e]
   exact h'
  .rw[e]
   exact h'.same e1
theorem tS(c:Cf)(d:De)(q:Rq):((dN c d q).1=d/\(dN c d q).2≠0)\/((0<=q.kind/\q.kind<=9)/\(q.kind≠0->q.who∈d.people.map Pe.who)/\(GS q.kind.toNat c d q).2=0/\dN c d q=((GS q.kind.toNat c d q).1,0)):=by
 unfold dN;split
 .exact .inl ⟨rfl,sM⟩
 split
 .exact .inl ⟨rfl,sM⟩
 split
 .next h1 h2 h3=>refine LB;refine .inr ⟨h1,λhk=>?_,by simpa using h3,rfl⟩;simp only[Xf0,Xe9,beq_eq_false_iff_ne,decide_eq_false_iff_not,not_and,Classical.not_not]at h2;exact h2 hk
 .next h3=>exact .inl ⟨rfl,by simpa using h3⟩
theorem eE.do(h:eE c k d)(hk:0<=k)(h0:∀z∈q.ss,0<=z):eE c (k+1) (dN c d q).1:=by
 rcases tS c d q with⟨e,_⟩|⟨h1,h2,h3,e⟩
 .rw[e]
  exact h.mono oM
 .rw[e]
  exact h.op hk _ (λq=>h2 oM) h0
theorem Hi(h:eE c k d)(he:(dN c d q).2=0):(q.kind≠5->∀x∈bD (dN c d q).1.subs,x∈bD d.subs)/\(q.kind=5->(q.who,q.track) ∉ bD d.subs/\∀x,x∈bD (dN c d q).1.subs↔x=(q.who,q.track)\/x∈bD d.subs):=by
 have hsub:∀ {l m:List Su},l.Sublist m->∀x∈bD l,x∈bD m:=λhs x hx=>(hs.map _).mem hx
 rcases tS c d q with⟨_,e⟩|⟨h1,h2,h3,e⟩
 .exact absurd he e
 .rw[e]
  refine⟨λh5=>?_,λh5=>?_⟩
  .dsimp only
   have hn5:q.kind.toNat≠5:=oM;generalize q.kind.toNat=n at *;unfold GS;split
   .unfold mN
    exact LC
   .exact hsub (Xa0.trans Xa0)
   .unfold ig
    exact LC
   .unfold j6
    split
    .exact hsub Xa0
    .exact λx hx=>hx
   .unfold oS
    exact LC
   .exact absurd rfl hn5
   .rcases Gt d q with e|⟨i,e⟩
    exact EX
    .rw[e]
     exact hsub (Xd2 d.subs i)
   .rcases rx d q true with e|⟨l,e1,e⟩
    exact EX;exact Lp
   .rcases rx d q false with e|⟨l,e1,e⟩
    exact EX;exact Lp
   .rcases NU d q with e|⟨l,e1,e⟩
    exact EX;exact Lp
  .have e5:q.kind.toNat=5:=oM
   rw[e5]at h3 ⊢;change (kC c d q).2=0 at h3;change _/\∀x,x∈bD (kC c d q).1.subs↔_;rcases aa5 c d q with⟨_,e⟩|⟨_,h6,_,e⟩
   .exact absurd h3 e
   .rw[e]
    refine⟨h6,λx=>?_⟩;refine Y3;dsimp only;rw[hk];exact⟨nh,xJ (nf _ _).1⟩
end
section
variable {α β:Type}
theorem pO{f:α->β}{l:List α}(h:(l.map f).Nodup){x y:α}(hx:x∈l)(hy:y∈l)(e:f x=f y):x=y:=by
 induction l with
 |nil=>
  cases hx
 |cons a l ih=>
  refine Fb;rcases Xa9.1 hx with q|q<;>rcases Xa9.1 hy with r|r
  .rw[q,r]
  .exact absurd (PI.2 ⟨y,r,by rw[←e,q]⟩) h.1
  .exact absurd (PI.2 ⟨x,q,by rw[e,r]⟩) h.1
  .exact ih h.2 q r
theorem PO(p:α->Bool)(l:List α):(l.filter p).length+(l.filter λx=>!p x).length=l.length:=by
 induction l with
 |nil=>
  rfl
 |cons a l ih=>cases h:p a<;>simp[List.filter_cons,h]<;>omega
theorem PN[DecidableEq β]{f:α->β}{l:List α}(h:(l.map f).Nodup){x:α}(hx:x∈l):(l.filter λy=>decide (f y≠f x)).length+1=l.length:=by
 induction l with
 |nil=>
  cases hx
 |cons a l ih=>
  refine Fb;rcases Xa9.1 hx with q|q
  .subst q
   have e:l.filter (λy=>decide (f y≠f x))=l:=Xd5.2 λy hy=>by simp only[decide_eq_true_eq];exact λq=>h.1 (PI.2 ⟨y,hy,q⟩)
   rw[List.filter_cons_of_neg sM,e,Xb2]
  .have e:f a≠f x:=λe=>h.1 (e ▸ PI.2 ⟨x,q,rfl⟩)
   have:=ih h.2 q;rw[List.filter_cons_of_pos (by simpa using e),Xb2,Xb2];omega
theorem nat_le{l:List Int}{n:Nat}(h:l.Nodup)(hb:∀x∈l,0<=x/\x<n):l.length<=n:=by
 have h1:(l.map Int.toNat).Nodup:=by rw[List.Nodup,Xb7];refine Xf4 (fun {a b} ha hb' hab=>?_) h;have:=hb a ha;have:=hb b hb';omega
 have:=h1.length_le_of_subset (l₂:=Xe3 n) λx hx=>by refine Fc;have:=hb y hy;simp;omega
 exact ia
end
theorem jY{l:List Sl}:(o9 l sl tn).isSome=true↔0<=sl/\∃h:sl.toNat<l.length,l[sl.toNat].used=true/\l[sl.toNat].turn=tn:=by
 unfold o9;split
 .next h=>
  split
  .next h2=>simp[h.1,h.2,h2]
  .next h2=>refine UY;exact λ_ _ q=>λr=>h2 ⟨q,r⟩
 .next h=>refine UY;exact λh0 h1=>absurd ⟨h0,h1⟩ h
theorem yu{l:List Sl}{s:Sl}(h:sl≠(i:Nat))(h0:0<=sl):o9 (l.set i s) sl tn=o9 l sl tn:=by
 unfold o9;simp only[List.length_set];split
 .next hc=>rw[List.getElem_set_ne oM]
 .rfl
structure ma(l:List Sl)(live:Int)(se:List Se)(wt:List Wt):Prop where
 a1:∀s∈se,(o9 l s.slot s.turn).isSome=true
 a2:∀r∈wt,(o9 l r.slot r.turn).isSome=true
 nd:(se.map Se.slot++wt.map Wt.slot).Nodup
 lv:live=se.length+wt.length
section
variable {l:List Sl}{live:Int}{se:List Se}{wt:List Wt}
theorem ma.le(h:ma l live se wt):se.length+wt.length<=l.length:=by
 have:=nat_le (n:=l.length) h.nd λx hx=>by
  refine EH
  .obtain⟨s,hs,rfl⟩:=PI.1 q
   obtain⟨h0,h1,_⟩:=jY.1 (h.a1 s hs);omega
  .obtain⟨s,hs,rfl⟩:=PI.1 q
   obtain⟨h0,h1,_⟩:=jY.1 (h.a2 s hs);omega
 exact ia
theorem PH(rs:List (Int×Int))(l:List Sl)(live:Int)(hn:(rs.map (·.1)).Nodup)(h:∀r∈rs,(o9 l r.1 r.2).isSome=true):(eb (l,live) rs).2=live-rs.length/\∀sl tn,0<=sl->sl ∉ rs.map (·.1)->o9 (eb (l,live) rs).1 sl tn=o9 l sl tn:=by
 induction rs generalizing l live with
 |nil=>
  exact⟨by simp[eb],λ_ _ _ _=>rfl⟩
 |cons r rs ih=>
  rw[Xb4,Xe0]at hn;have hr:=h r Xa7;obtain⟨i,hi⟩:=Xf1.1 hr;obtain⟨hsl,_⟩:=kY hi;have e:eb (l,live) (r::rs)=eb (l.set i ⟨.pointer none,r.2,false⟩,live-1) rs:=by
   show eb (gR (l,live) r) rs=_
   congr 1
   unfold gR;dsimp only;rw[hi]
  obtain⟨h1,h2⟩:=ih (l.set i ⟨.pointer none,r.2,false⟩) (live-1) hn.2 λx hx=>by have hx0:=h x (Xa3 _ hx);rw[yu (λq=>hn.1 (PI.2 ⟨x,hx,by rw[q,hsl]⟩)) (jY.1 hx0).1];exact hx0
  rw[e];refine⟨by rw[h1,Xb2];omega,λsl tn h0 hm=>?_⟩;rw[Xb4,Xa9,not_or]at hm;rw[h2 sl tn h0 hm.2,yu (λq=>hm.1 (by rw[q,hsl])) h0]
theorem ma.sweep(h:ma l live se wt)(o:Int):ma (eb (l,live) (dw wt o)).1 (eb (l,live) (dw wt o)).2 se (wt.filter λx=>!decide (x.epoch<=o)):=by
 refine KS;have hm:(dw wt o).map (·.1)=(wt.filter λx=>decide (x.epoch<=o)).map Wt.slot:=by simp[dw]
 obtain⟨f1,f2⟩:=PH (dw wt o) l live (by rw[hm];exact n2.sublist (Xa0.map _)) λr hr=>by obtain⟨x,hx,rfl⟩:=PI.1 hr;exact h.a2 x (Xa1.1 hx).1
 rw[hm]at f2;refine⟨λs hs=>?_,λr hr=>?_,?_,?_⟩
 .have h0:=h.a1 s hs
  rw[f2 _ _ (jY.1 h0).1 λq=>?_]
  .exact h0
  .refine E3
   exact n3 _ (PI.2 ⟨s,hs,rfl⟩) _ (PI.2 ⟨x,(Xa1.1 hx).1,rfl⟩) e.symm
 .obtain⟨hr1,hr2⟩:=Xa1.1 hr
  have h0:=h.a2 r hr1;rw[f2 _ _ (jY.1 h0).1 λq=>?_]
  .exact h0
  .refine E3
   obtain⟨hx1,hx2⟩:=Xa1.1 hx;have:=pO n2 hx1 hr1 e;subst this;rw[hx2]at hr2;cases hr2
 .exact h.nd.sublist ((List.Sublist.refl _).append (Xa0.map _))
 .rw[f1,h.lv]
  have:=PO (λx:Wt=>decide (x.epoch<=o)) wt;simp only[dw,List.length_map];omega
theorem ma.more(h:ma l live se wt)(hi:i<l.length)(hf:l[i].used=false)(v:Value)(s:Se)(hs:s.slot=i)(t:Int)(ht:s.turn=t):ma (l.set i ⟨v,t,true⟩) (live+1) (se++ [s]) wt:=by
 have hno:∀sl tn,(o9 l sl tn).isSome=true->sl≠(i:Nat)/\0<=sl:=λsl tn q=>by obtain⟨h0,h1,h2,_⟩:=jY.1 q;refine⟨λe=>?_,h0⟩;have:sl.toNat=i:=oM;subst this;rw[hf]at h2;cases h2
 have hk:∀sl tn,(o9 l sl tn).isSome=true->(o9 (l.set i ⟨v,t,true⟩) sl tn).isSome=true:=λsl tn q=>by rw[yu (hno sl tn q).1 (hno sl tn q).2];exact q
 have hns:(i:Int) ∉ se.map Se.slot/\(i:Int) ∉ wt.map Wt.slot:=⟨λq=>by
  refine E3;exact(hno _ _ (h.a1 x hx)).1 e,λq=>by
  refine E3;exact(hno _ _ (h.a2 x hx)).1 e⟩
 refine⟨λx hx=>?_,λr hr=>hk _ _ (h.a2 r hr),?_,?_⟩
 .refine EH
  .exact hk _ _ (h.a1 x q)
  .rw[Xa2.1 q,jY,hs,ht]
   exact⟨oM,nv,sM⟩
 .refine KS
  rw[Xb6,Xb4,Xc9,hs];refine Xa6.2 ⟨Xa6.2 ⟨n1,sM,λa ha b hb e=>?_⟩,n2,λa ha b hb e=>?_⟩
  .rw[Xa2.1 hb]at e
   exact hns.1 (e ▸ ha)
  .rcases Xa4.1 ha with q|q
   .exact n3 a q b hb e
   .rw[Xa2.1 q]at e
    exact hns.2 (e ▸ hb)
 .rw[Xc0,h.lv]
  simp;omega
theorem wS{k:Int×Int}(hn:(se.map Se.key).Nodup)(hs:s∈se)(hk:s.key=k):CI se k=s:=by
 unfold CI;rcases h:se.find? (λx=>decide (x.key=k))with _|x
 .have:=List.find?_eq_none.1 h s hs
  simp[hk]at this
 .have h1:=List.find?_some h
  simp only[decide_eq_true_eq]at h1;have:=pO hn (List.mem_of_find?_eq_some h) hs (h1.trans hk.symm);rw[h,Xf3,this]
theorem ma.gone(h:ma l live se wt)(hn:(se.map Se.key).Nodup)(hs:s∈se)(ep:Int):ma l live (se.filter λy=>decide (y.key≠s.key)) (wt++ [⟨s.slot,s.turn,ep⟩]):=by
 refine KS;refine⟨λx hx=>h.a1 x (Xa1.1 hx).1,λr hr=>?_,?_,?_⟩
 .rcases Xa4.1 hr with q|q
  .exact h.a2 r q
  .refine iH
   exact h.a1 s hs
 .rw[Xb6,Xb4,Xc9]
  refine Xa6.2 ⟨n1.sublist (Xa0.map _),Xa6.2 ⟨n2,sM,λa ha b hb e=>?_⟩,λa ha b hb e=>?_⟩
  .rw[Xa2.1 hb]at e
   exact n3 _ (PI.2 ⟨s,hs,rfl⟩) a ha e.symm
  .obtain⟨x,hx,rfl⟩:=PI.1 ha
   obtain⟨hx1,hx2⟩:=Xa1.1 hx;rcases Xa4.1 hb with q|q
   .exact n3 _ (PI.2 ⟨x,hx1,rfl⟩) b q e
   .rw[Xa2.1 q]at e
    have:=pO n1 hx1 hs e;subst this;simp at hx2
 .have:=PN hn hs
  rw[Xc0,h.lv];exact Fy
end
def Lv(se:List Se)(wt:List Wt)(sl tn e:Int):Prop:=(∃s∈se,s.slot=sl/\s.turn=tn)\/∃r∈wt,r.slot=sl/\r.turn=tn/\e<r.epoch
section
variable {l:List Sl}{live:Int}{se:List Se}{wt:List Wt}{sl tn e ep:Int}
theorem Lv.at(h:Lv se wt sl tn e)(k:ma l live se wt):(o9 l sl tn).isSome=true:=by
 rcases h with⟨s,hs,rfl,rfl⟩|⟨r,hr,rfl,rfl,_⟩
 .exact k.a1 s hs
 .exact k.a2 r hr
theorem Lv.sweep{o:Int}(h:Lv se wt sl tn e)(ho:o<=e):Lv se (wt.filter λx=>!decide (x.epoch<=o)) sl tn e:=by
 rcases h with h|⟨r,hr,h1,h2,h3⟩
 .exact .inl h
 .exact .inr ⟨r,Xa1.2 ⟨hr,xM⟩,h1,h2,h3⟩
theorem Lv.gone(h:Lv se wt sl tn e)(hn:(se.map Se.key).Nodup)(hs:s∈se)(he:e<ep):Lv (se.filter λy=>decide (y.key≠s.key)) (wt++ [⟨s.slot,s.turn,ep⟩]) sl tn e:=by
 rcases h with⟨x,hx,h1,h2⟩|⟨r,hr,h1⟩
 .by_cases q:x.key=s.key
  .have:=pO hn hx hs q
   subst this;exact .inr ⟨⟨x.slot,x.turn,ep⟩,Xc5 _ (Xa2.2 rfl),h1,h2,he⟩
  .exact .inl ⟨x,Xa1.2 ⟨hx,by simpa using q⟩,h1,h2⟩
 .exact .inr ⟨r,Xb1 _ hr,h1⟩
theorem Lv.more(h:Lv se wt sl tn e)(s:Se):Lv (se++ [s]) wt sl tn e:=h.imp (λ⟨x,hx,q⟩=>⟨x,Xb1 _ hx,q⟩) id
theorem PB(g:List Su):∀ {se:List Se} {wt:List Wt},ma l live se wt->(se.map Se.key).Nodup->(bD g).Nodup->(∀x∈bD g,∃s∈se,s.key=x) ->
  ma l live (eB ep (se,wt) g).1 (eB ep (se,wt) g).2/\(eB ep (se,wt) g).1=se.filter (λy=>!decide (y.key∈bD g))/\∀sl tn e,e<ep->Lv se wt sl tn e->Lv (eB ep (se,wt) g).1 (eB ep (se,wt) g).2 sl tn e:=by
 induction g with
 |nil=>
  exact λh _ _ _=>⟨h,(Xd5.2 λy _=>by simp[bD]).symm,λ_ _ _ _ q=>q⟩
 |cons x g ih=>
  intro se wt h hn hg hk;have hg':(x.who,x.track) ∉ bD g/\(bD g).Nodup:=by have:bD (x::g)=(x.who,x.track)::bD g:=rfl;rw[this,Xe0]at hg;exact hg
  obtain⟨s,hs,hsk⟩:=hk (x.who,x.track) Xa7;have e1:qM ep (se,wt) x=(se.filter (λy=>decide (y.key≠s.key)),wt++ [⟨s.slot,s.turn,ep⟩]):=by unfold qM;dsimp only;rw[wS hn hs hsk,hsk]
  have e2:eB ep (se,wt) (x::g)=eB ep (qM ep (se,wt) x) g:=rfl;rw[e2,e1];obtain⟨i1,i2,i3⟩:=ih (h.gone hn hs ep) (hn.sublist (Xa0.map _)) hg'.2 λy hy=>by obtain⟨z,hz,hzk⟩:=hk y (Xa3 _ hy);refine⟨z,Xa1.2 ⟨hz,?_⟩,hzk⟩;simp only[ne_eq,decide_eq_true_eq];intro q;exact hg'.1 (hsk ▸ q ▸ hzk.symm ▸ hy)
  refine⟨i1,?_,λsl tn e he q=>i3 sl tn e he (q.gone hn hs he)⟩;rw[i2,List.filter_filter];refine List.filter_congr λy _=>?_
  rw[hsk,show bD (x::g)=(x.who,x.track)::bD g from rfl];by_cases a:y.key∈bD g<;>by_cases b:y.key=(x.who,x.track)<;>simp[a,b]
end
structure ox(X:Cx):Prop where
 n:1<=X.n/\X.n<=4
 pp:X.G.cf.people<=6
 tk:X.G.cf.tracks<=4
 sl:X.G.cf.slots<=9
 kp:∃kp:Nat,X.G.keep=kp/\1<=kp/\kp<=4096
 win:1<=X.win/\X.win<=30
def jC(c:Cs)(t:Option Tb):Prop:=∀T,t=some T->T.ep<=gw c.t/\∀d∈T.ds,Lv c.se c.wt d.slot d.turn T.ep
def QQ(L:List Dd.En)(x:Int):Prop:=∃e∈L,e.id=x/\e.done=false
structure SeOK(k:Int)(d:De)(l:List Sl)(ever:Int)(se:List Se):Prop where
 ks:(se.map Se.key).Nodup
 k1:∀s∈se,s.key∈bD d.subs
 k2:∀x∈bD d.subs,∃s∈se,s.key=x
 s1:(se.map Se.ssrc).Nodup
 s2:∀s∈se,2147483648<=s.ssrc/\s.ssrc<2147483648+ever
 tn:∀x∈l,0<=x.turn/\x.turn<=k
 ev:0<=ever/\ever<=k
structure fH(X:Cx)(k:Int)(c:Cs):Prop where
 de:eE X.G.cf k c.d
 sl:ma c.l c.live c.se c.wt
 se:SeOK k c.d c.l c.ever c.se
 ep:0<=gw c.t/\gw c.t<=k
 t:jC c c.t
 ll:c.l.length<=9
 sn:uE X c.L
 pn:(c.ps.map Pd.id).Nodup
 pd:∀p∈c.ps,QQ c.L p.id
 sh:∀T,c.t=some T->(∀r∈T.rs,0<=r.shard/\r.shard<X.n)/\∀d∈T.ds,0<=d.shard/\d.shard<X.n
theorem NC{l:List (Int×Int)}(h:B9 l):l.Nodup:=Xf5 (fun {a b} q e=>by subst e;unfold QN at q;omega) h
section
variable {X:Cx}{k:Int}{c:Cs}{q:Rq}{l1:List Sl}{live1 ever1 ep:Int}{se1 se2:List Se}{wt2:List Wt}{ND:Nat->Prop}{d':De}
theorem Bb(h:fH X k c)(hd:(dN X.G.cf c.d q)=(d',0))(hx:T7 q c.l c.live c.ever c.se ND l1 live1 ever1 se1)(hg:eB ep (se1,c.wt) (il c.d d')=(se2,wt2)) :
  ma l1 live1 se2 wt2/\SeOK (k+1) d' l1 ever1 se2/\l1.length=c.l.length/\∀sl tn e,e<ep->Lv c.se c.wt sl tn e->Lv se2 wt2 sl tn e:=by
 obtain⟨dk1,dk2⟩:=Hi h.de (show(dN X.G.cf c.d q).2=0 by rw[hd]);rw[hd]at dk1 dk2;dsimp only at dk1 dk2;have hund:(bD c.d.subs).Nodup:=NC h.de.us;have key:ma l1 live1 se1 c.wt/\(se1.map Se.key).Nodup/\(∀s∈se1,s.key∈bD c.d.subs\/(q.kind=5/\s.key=(q.who,q.track)))/\(∀x∈bD c.d.subs,∃s∈se1,s.key=x)/\(q.kind=5->∃s∈se1,s.key=(q.who,q.track)) /\
   (se1.map Se.ssrc).Nodup/\(∀s∈se1,2147483648<=s.ssrc/\s.ssrc<2147483648+ever1)/\(∀x∈l1,0<=x.turn/\x.turn<=k+1)/\(0<=ever1/\ever1<=k+1)/\l1.length=c.l.length/\∀sl tn e,Lv c.se c.wt sl tn e->Lv se1 c.wt sl tn e:=by
  obtain⟨e1,e2⟩:=h.se.ev;rcases hx with⟨h5,rfl,rfl,rfl,rfl⟩|⟨h5,i,D,hi,hf,_,rfl,rfl,rfl,rfl⟩
  .exact⟨h.sl,h.se.ks,λs hs=> .inl (h.se.k1 s hs),h.se.k2,λq=>absurd q h5,h.se.s1,h.se.s2,λx hx=>Km,oM,rfl,λ_ _ _ q=>q⟩
  .obtain⟨n5,_⟩:=dk2 h5
   have hno:∀s∈c.se,s.key≠(q.who,q.track):=λs hs e=>n5 (e ▸ h.se.k1 s hs)
   refine⟨h.sl.more hi hf _ _ rfl _ rfl,?_,λs hs=>?_,λx hx=>?_,λ_=>⟨_,Xc5 _ (Xa2.2 rfl),rfl⟩,?_,λs hs=>?_,λx hx=>?_,oM,sM,λ_ _ _ q=>q.more _⟩
   .rw[Xb6]
    refine Xa6.2 ⟨h.se.ks,sM,λa ha b hb e=>?_⟩;refine V0;exact hno s hs (e.trans hb)
   .rcases Xa4.1 hs with r|r
    .exact .inl (h.se.k1 s r)
    .exact .inr ⟨h5,by rw[Xa2.1 r]⟩
   .obtain⟨s,hs,e⟩:=h.se.k2 x hx
    exact⟨s,Xb1 _ hs,e⟩
   .rw[Xb6]
    refine Xa6.2 ⟨h.se.s1,sM,λa ha b hb e=>?_⟩;refine V0;have:=h.se.s2 s hs;dsimp only at hb;omega
   .rcases Xa4.1 hs with r|r
    .have:=h.se.s2 s r
     omega
    .rw[Xa2.1 r]
     exact lO
   .refine Am
    refine lQ;have ht:=h.se.tn _ lm;split
    .exact lO
    .have:=h.se.tn _ (Xb3 (show j<c.l.length by simpa using hj))
     omega
 obtain⟨a1,a2,a3,a4,a5,a6,a7,a8,a9,a10,a11⟩:=key;have hgk:∀x,x∈bD (il c.d d')↔x∈bD c.d.subs/\x ∉ bD d'.subs:=λx=>by
  constructor
  .intro hx
   refine Fc;obtain⟨h1,h2⟩:=Xa1.1 hy;exact⟨PI.2 ⟨y,h1,rfl⟩,Ek⟩
  .rintro⟨hx,hn⟩
   refine Fc;exact PI.2 ⟨y,Xa1.2 ⟨hy,Em⟩,rfl⟩
 obtain⟨g1,g2,g3⟩:=PB (ep:=ep) (il c.d d') a1 a2 (hund.sublist (Xa0.map _)) λx hx=>a4 x ((hgk x).1 hx).1
 rw[hg]at g1 g2 g3;dsimp only at g1 g2 g3;have hsub:se2.Sublist se1:=by rw[g2];exact Xa0
 refine⟨g1,⟨a2.sublist (hsub.map _),λs hs=>?_,λx hx=>?_,a6.sublist (hsub.map _),λs hs=>a7 s (hsub.mem hs),a8,a9⟩,a10,λsl tn e he q=>g3 sl tn e he (a11 sl tn e q)⟩
 .rw[g2]at hs
  obtain⟨h1,h2⟩:=Xa1.1 hs;simp only[Xe9,decide_eq_false_iff_not]at h2;rcases a3 s h1 with r|⟨r,e⟩
  .refine Classical.byContradiction λhn=>h2 ((hgk _).2 ⟨r,hn⟩)
  .rw[e]
   exact((dk2 r).2 _).2 (.inl rfl)
 .have hs:∃s∈se1,s.key=x:=by
   by_cases h5:q.kind=5
   .rcases((dk2 h5).2 x).1 hx with e|e
    .subst e
     exact a5 h5
    .exact a4 x e
   .exact a4 x (dk1 h5 x hx)
  obtain⟨s,hs,e⟩:=hs;refine⟨s,?_,e⟩;rw[g2];refine Xa1.2 ⟨hs,?_⟩;simp only[Xe9,decide_eq_false_iff_not];intro r;exact((hgk _).1 r).2 (e ▸ hx)
theorem R5(l:List Int):(Xe3 l.length).map (λi=>l.getD i 0)=l:=Xd9 sM λi h1 h2=>by simp[Xc1,Xb5 h2]
theorem mk_ok{d:De}{l:List Sl}{live ever:Int}{wt:List Wt}(hX:ox X)(hk:k<=1000000)(hd:eE X.G.cf k d)(hs:ma l live se wt)(he:SeOK k d l ever se)(hl:l.length<=9):QH X.n d se:=by
 have hp:=hd.pl;have ht:=hd.tl;have hsl:=hd.sl;have x1:=hX.pp;have x2:=hX.tk;have x3:=hX.sl;have x4:=hX.n;have hwho:∀x∈d.subs,(1<=x.who/\x.who<=999)/\1<=x.track/\x.track<=999:=λx hx=>by obtain⟨a,b⟩:=hd.sk x hx;refine VM;exact⟨hd.pw p hp,(hd.tr t ht).1⟩
 have hseat:∀x∈d.subs,∃s∈se,s.key=(x.who,x.track)/\CI se (x.who,x.track)=s:=λx hx=>by obtain⟨s,hs,e⟩:=he.k2 _ (PI.2 ⟨x,hx,rfl⟩);exact⟨s,hs,e,wS he.ks hs e⟩
 have hslot:∀s∈se,(0<=s.slot/\s.slot<9)/\0<=s.turn/\s.turn<=1000000:=λs hs'=>by obtain⟨h0,h1,h2,h3⟩:=jY.1 (hs.a1 s hs');have:=he.tn _ (Xb3 h1);rw[h3]at this;omega
 have hR:∀x∈ch X.n d.tracks,∃t∈d.tracks,∃i,∃hi:i<t.ssrcs.length,x=⟨t.ssrcs[i],t.id,t.frm,i,t.id % X.n⟩:=λx hx=>by obtain⟨t,ht,hx⟩:=Xd7.1 hx;obtain⟨i,hi,rfl⟩:=PI.1 hx;rw[Xe2]at hi;exact⟨t,ht,i,hi,by simp[Xc1,Xb5 hi]⟩
 have hnk:(bD d.subs).Nodup:=NC hd.us;have hpw:∀ {β:Type} (f:Se->β),(∀x∈se,∀y∈se,f x=f y->x=y)->(d.subs.map λx=>f (CI se (x.who,x.track))).Nodup:=λf hf=>by
  rw[List.Nodup,Xb7];have h1:d.subs.Pairwise λa b=>(a.who,a.track)≠(b.who,b.track):=Xb7.1 hnk
  refine Xf4 (fun {a b} ha hb hab=>?_) h1;obtain⟨s,hs,k1,e1⟩:=hseat a ha;obtain⟨s',hs',k2,e2⟩:=hseat b hb;rw[e1,e2];intro q;have:=hf s hs s' hs' q;subst this;exact hab (k1.symm.trans k2)
 refine⟨oM,oM,oM,λt ht=>?_,λx hx=>by have:=hwho x hx;omega,λx hx=>?_,?_,?_,λx hx=>?_,?_,?_,?_⟩
 .obtain⟨a,_,b,c1,_⟩:=hd.tr t ht
  exact⟨c1,oM,oM,oM,oM⟩
 .obtain⟨t,ht,i,hi,rfl⟩:=hR x hx
  obtain⟨a,_,b,c1,c2,_⟩:=hd.tr t ht;have:=c2 _ lm;exact⟨ln gY gY,gY,ip gY gY,ip gY gY⟩
 .have e:(ch X.n d.tracks).map Rt.ssrc=d.tracks.flatMap Tr.ssrcs:=by
   unfold ch;rw[Xd8]
   congr 1
   funext t
   unfold d7;rw[Xb8];exact R5 t.ssrcs
  rw[e,List.Nodup,Xd0];refine⟨λt ht=>(hd.tr t ht).2.2.2.2.2,hd.ap.imp ?_⟩;intro a b q x hx y hy e;subst e;exact q x hx hy
 .unfold ch
  rw[Xd8,List.Nodup,Xd0];refine⟨λt ht=>?_,?_⟩
  .unfold d7
   rw[Xb8,Xb7];refine Xf5 (fun {a b} q e=>?_) (List.pairwise_lt_range (n:=t.ssrcs.length));simp at e;omega
  .have h1:d.tracks.Pairwise λa b=>a.id<b.id:=Xb7.1 hd.ut
   refine h1.imp fun {a b} q x hx y hy e=>?_
   obtain⟨x',hx',rfl⟩:=PI.1 hx;obtain⟨y',hy',rfl⟩:=PI.1 hy;obtain⟨i,_,rfl⟩:=PI.1 hx';obtain⟨j,_,rfl⟩:=PI.1 hy';simp at e;omega
 .refine Fc
  obtain⟨s,hs',k1,e1⟩:=hseat y hy;have h2:=he.s2 s hs';have h3:=hslot s hs';have h4:=hwho y hy;have h5:=he.ev;unfold ec;rw[e1];exact⟨ln gY gY,gY,⟨ip gY gY,ip gY gY⟩,ip gY gY,ln gY gY⟩
 .rw[Xb8]
  exact hpw Se.ssrc λx hx y hy e=>pO he.s1 hx hy e
 .rw[Xb8]
  exact hnk
 .rw[Xb8]
  exact hpw (λs=>(s.slot,s.turn)) λx hx y hy e=>pO (Xa6.1 hs.nd).1 hx hy (by simp only[Prod.mk.injEq]at e;exact e.1)
end
section
variable {L L1:List Dd.En}{X:Cx}{id:Int}
theorem ua(hn:(L.map Dd.En.id).Nodup):(∀x,(Dd.PL L x).1.size<=9)↔∀e∈L,e.ans.size<=9:=by
 constructor
 .intro h e he
  have:=h e.id;unfold Dd.PL at this;rw[Dd.Js hn he]at this;exact this
 .intro h x
  unfold Dd.PL;rcases hf:Dd.dB L x with _|e
  .decide
  .exact h e (Dd.findF_some hf).1
theorem AY(h:uE X L)(h0:0<=id/\id<2 ^ 64)(hs:Dd.wQ L X.win id=(L1,0)):uE X L1/\id ∉ L.map Dd.En.id/\QQ L1 id/\∀x,QQ L x->QQ L1 x:=by
 have hok:=Dd.startF_ok (x:=id) h.ok h0.1 oM h.win.1;rw[hs]at hok;dsimp only at hok;have ha:=(ua h.ok.nd).1 h.an;unfold Dd.wQ at hs;split at hs
 .simp at hs
 next hf=>
 have hn:Dd.dB L id=none:=by simpa using hf
 have hid:=Dd.tK.1 hn;have hnew:(Dd.new id).ans.size<=9:=Nat.zero_le 9;split at hs
 .split at hs
  .simp at hs
  next e r=>
  split at hs
  next hd=>
   simp only[Prod.mk.injEq,and_true]at hs;subst hs;refine⟨⟨hok,h.win,(ua hok.nd).2 λy hy=>?_⟩,hid,UB,λx ⟨y,hy,h1,h2⟩=>?_⟩
   .refine zm
    .exact ha y (Xa3 _ q)
    .refine iH
     exact hnew
   .rcases Xa9.1 hy with q|q
    .subst q
     rw[hd]at h2;cases h2
    .exact⟨y,Xb1 _ q,h1,h2⟩
  .simp at hs
 .simp only[Prod.mk.injEq,and_true]at hs
  subst hs;refine⟨⟨hok,h.win,(ua hok.nd).2 λy hy=>?_⟩,hid,UB,λx ⟨y,hy,h1,h2⟩=>⟨y,Xb1 _ hy,h1,h2⟩⟩;refine zm
  .exact ha y q
  .refine iH
   exact hnew
theorem NO{c:Int}(hs:Dd.wQ L X.win id=(L1,c))(hc:c≠0):L1=L:=by
 unfold Dd.wQ at hs;split at hs
 exact Ls;split at hs
 .split at hs
  exact Ls
  .split at hs
   .exact UH
   exact Ls
 .exact UH
theorem DO{a:ByteArray}(h:uE X L)(ha:a.size=9):uE X (Dd.endF L id a).1/\∀x,x≠id->QQ L x->QQ (Dd.endF L id a).1 x:=by
 unfold Dd.endF;split
 .exact⟨h,λ_ _ q=>q⟩
 split
 .exact⟨h,λ_ _ q=>q⟩
 have hok:=Dd.set_ok h.ok id a;refine⟨⟨hok,h.win,(ua hok.nd).2 λy hy=>?_⟩,λx hx ⟨e,he,h1,h2⟩=>⟨e,?_,h1,h2⟩⟩
 .obtain⟨e,he,rfl⟩:=PI.1 hy
  split
  .exact lO
  .exact(ua h.ok.nd).1 h.an e he
 .refine PI.2 ⟨e,he,?_⟩
  rw[if_neg (by rw[h1];exact hx)]
theorem PS{ids:List Int}(he:jG L ids L1)(h:uE X L):uE X L1/\∀x,x ∉ ids->QQ L x->QQ L1 x:=by
 induction he with
 |none=>
  exact⟨h,λ_ _ q=>q⟩
 |snoc id s hs _ ih=>obtain⟨i1,i2⟩:=ih;obtain⟨e1,e2⟩:=DO (id:=id) i1 hs;refine⟨e1,λx hx q=>e2 x (λe=>hx (by rw[e];simp)) (i2 x (λe=>hx (by simp[e])) q)⟩
theorem Ry{ps:List Pd}(hn:(ps.map Pd.id).Nodup)(h:∀p∈ps,QQ L p.id):ps.length<=L.length:=by
 have:=hn.length_le_of_subset (l₂:=L.map Dd.En.id) λx hx=>by obtain⟨p,hp,rfl⟩:=PI.1 hx;obtain⟨e,he,h1,_⟩:=h p hp;exact PI.2 ⟨e,he,h1⟩
 exact ia
end
structure Ad(c c':Cs):Prop where
 ep:gw c.t<=gw c'.t
 lv:∀sl tn e,e<=gw c.t->Lv c.se c.wt sl tn e->Lv c'.se c'.wt sl tn e
theorem Ad.refl(c:Cs):Ad c c:=⟨Xe4 _,λ_ _ _ _ q=>q⟩
theorem jC.ad{c':Cs}(h:jC c t)(ha:Ad c c'):jC c' t:=λT hT=>by obtain⟨h1,h2⟩:=h T hT;exact⟨Xe5 h1 ha.ep,λd hd=>ha.lv _ _ _ h1 (h2 d hd)⟩
theorem jC.le(h:jC c t)(h0:0<=gw c.t):gw t<=gw c.t:=by
 cases t with
 |none=>
  exact h0
 |some T=>exact(h T rfl).1
section
variable {X:Cx}{k:Int}{c c':Cs}{q:Rq}{ND:Nat->Prop}{ep:Int}
theorem fH.mono(h:fH X k c)(hk:k<=k'):fH X k' c:=
 ⟨h.de.mono hk,h.sl,⟨h.se.ks,h.se.k1,h.se.k2,h.se.s1,h.se.s2,λx hx=>Km,by have:=h.se.ev;omega⟩,by have:=h.ep;omega,h.t,h.ll,h.sn,h.pn,h.pd,h.sh⟩
theorem fH.len(h:fH X k c)(hX:ox X):c.ps.length<=X.win/\c.wt.length<=9/\(c.live=c.se.length+c.wt.length/\c.se.length+c.wt.length<=c.l.length)/\c.d.subs.length<=9/\c.d.tracks.length<=4/\c.d.people.length<=6:=by have h1:=Ry h.pn h.pd;have h2:=h.sn.ok.le;have h3:=h.sl.le;have h4:=h.ll;have h5:=h.de.sl;have h6:=h.de.tl;have h7:=h.de.pl;have x1:=hX.pp;have x2:=hX.tk;have x3:=hX.sl;exact⟨oM,oM,⟨h.sl.lv,h3⟩,oM,oM,oM⟩
theorem eE.fit{d:De}(h:eE cf k d)(hk:k<=1000000)(h1:cf.people<=6)(h2:cf.tracks<=4)(h3:cf.slots<=9):Fit d:=by have h5:=h.sl;have h6:=h.tl;have h7:=h.pl;exact⟨oM,oM,oM,λt ht=>by have:=h.tr t ht;omega,λt ht=>by have:=h.tr t ht;omega,h.up,h.ut,h.us,λt ht=>(h.tr t ht).2.1⟩
theorem eE.sub_bd{d:De}(h:eE cf k d):∀x∈d.subs,(1<=x.who/\x.who<=999)/\1<=x.track/\x.track<=999:=λx hx=>by obtain⟨a,b⟩:=h.sk x hx;refine VM;exact⟨h.pw p hp,(h.tr t ht).1⟩
theorem fH.ok(h:fH X k c)(hX:ox X)(hk:k<=900000):QK X c:=by obtain⟨a,b,c1,d,e,f⟩:=h.len hX;have hll:=h.ll;have hw:=hX.win;exact⟨h.de.fit oM hX.pp hX.tk hX.sl,λx hx=>by have:=h.de.sub_bd x hx;omega,oM,λx hx=>Km,oM,by have:=h.se.ev;omega,by have:=h.ep;omega,oM,hX.kp⟩
theorem fH.upd{ps':List Pd}(h:fH X k c)(h1:uE X L')(h2:(ps'.map Pd.id).Nodup)(h3:∀p∈ps',QQ L' p.id):fH X k {c with inq:=inq',L:=L',ps:=ps'}:=⟨h.de,h.sl,h.se,h.ep,h.t,h.ll,h1,h2,h3,h.sh⟩
theorem fH.hyp(h:fH X k c)(hX:ox X)(hk0:0<=k)(hk:k<=900000)(hq:((0<=q.who/\q.who<=65535)/\0<=q.track/\q.track<=65535)/\∀z∈q.ss,0<=z):Hw X {c with inq:=inq',L:=L'} q:=by
 have hde:=h.de.do hk0 hq.2
 obtain⟨a,b,c1,d,e,f⟩:=h.len hX;have hs:=hde.sl;have hsl:=hX.sl;refine⟨λh5 he=>?_,hq.1,λ_ _=>?_,λ_=>hde.fit oM hX.pp hX.tk hX.sl,λhk0 he l1 live1 ever1 se1 hx=>?_,gY⟩
 .rw[ix]
  intro p hp e;obtain⟨s,hs,rfl⟩:=PI.1 hp;exact((Hi h.de he).2 h5).1 (e ▸ h.se.k1 s hs)
 .have:=Xb0 (λx:Su=>!decide ((x.who,x.track)∈bD (dN X.G.cf c.d q).1.subs)) c.d.subs
  unfold il;exact lO
 .have hd:dN X.G.cf c.d q=((dN X.G.cf c.d q).1,0):=by rw[←he]
  obtain⟨s1,s2,s3,_⟩:=Bb (c:=c) h hd hx (show eB (gw c.t+1) (se1,c.wt) (il c.d (dN X.G.cf c.d q).1)=_ from rfl);exact mk_ok hX oM hde s1 s2 (by rw[s3];exact h.ll)
theorem PW{d:De}(h:q.kind=0):(dN cf d q).1.subs=d.subs:=by
 rcases tS cf d q with⟨e,_⟩|⟨_,_,_,e⟩
 .rw[e]
 .rw[e,h]
  change (mN cf d q).1.subs=_;unfold mN;repeat(split;· rfl)
  rfl
theorem fH.do(h:fH X k c)(hX:ox X)(hk0:0<=k)(hz:∀z∈q.ss,0<=z)(hp:J1 X c q ND ep c') :
  fH X (k+1) c'/\Ad c c'/\c'.ws=c.ws/\c'.acks=c.acks/\c'.ps=c.ps/\c'.L=c.L/\∀i,c'.tabs i=c.tabs i\/∃T,c'.tabs i=c.tabs i++ [T]/\gw c.t<=T.ep/\jC c' (some T):=by
 have hde:=h.de.do hk0 hz
 obtain⟨he,⟨h0,rfl,rfl⟩|⟨h0,rfl,l1,live1,ever1,se1,se2,wt2,T,hx,hg,t1,t2,t3,rfl⟩⟩:=hp
 .have hsub:=PW (cf:=X.G.cf) (d:=c.d) h0
  have hm:=h.mono (show k<=k+1 by omega);refine⟨⟨hde,h.sl,⟨h.se.ks,λs hs=>?_,λx hx=>?_,h.se.s1,h.se.s2,hm.se.tn,hm.se.ev⟩,hm.ep,h.t,h.ll,h.sn,h.pn,h.pd,h.sh⟩,⟨Xe4 _,λ_ _ _ _ q=>q⟩,rfl,rfl,rfl,rfl,λi=> .inl rfl⟩
  .dsimp only
   rw[hsub];exact h.se.k1 s hs
  .dsimp only at hx
   rw[hsub]at hx;exact h.se.k2 x hx
 .have hd:dN X.G.cf c.d q=((dN X.G.cf c.d q).1,0):=by rw[←he]
  obtain⟨s1,s2,s3,s4⟩:=Bb h hd hx hg;have had:∀sl tn e,e<=gw c.t->Lv c.se c.wt sl tn e->Lv se2 wt2 sl tn e:=λsl tn e q=>s4 sl tn e oM
  have hep:=h.ep;have hT:∀d∈T.ds,Lv se2 wt2 d.slot d.turn T.ep:=λd hd=>by rw[t3]at hd;obtain⟨x,hx,rfl⟩:=PI.1 hd;obtain⟨s,hs,e⟩:=s2.k2 _ (PI.2 ⟨x,hx,rfl⟩);refine .inl ⟨s,hs,?_⟩;unfold ec;rw[wS s2.ks hs e];exact gO
  have hTb:∀ {c'':Cs},c''.t=some T->c''.se=se2->c''.wt=wt2->jC c'' (some T):=λe1 e2 e3 U hU=>by cases hU;rw[e1,e2,e3];exact⟨Xe4 _,hT⟩
  refine⟨⟨hde,s1,s2,?_,hTb rfl rfl rfl,by dsimp only;rw[s3];exact h.ll,h.sn,h.pn,h.pd,λU hU=>?_⟩,⟨?_,had⟩,rfl,rfl,rfl,rfl,λi=> .inr ⟨T,rfl,oM,hTb rfl rfl rfl⟩⟩
  .show 0<=T.ep/\T.ep<=k+1
   omega
  .cases hU
   have hn:=hX.n;have hmod:∀x:Int,0<=x % (X.n:Int)/\x % (X.n:Int)<X.n:=λx=>⟨Xe8 _ oM,Xe7 _ oM⟩
   rw[t2,t3];refine⟨λr hr=>?_,λd hd=>?_⟩
   .obtain⟨t,ht,hr⟩:=Xd7.1 hr
    obtain⟨i,hi,rfl⟩:=PI.1 hr;exact hmod _
   .obtain⟨x,hx,rfl⟩:=PI.1 hd
    exact hmod _
  .show gw c.t<=T.ep
   omega
theorem fH.acc{dn:List yK}{rs:List (Int×Int×Int)}(h:fH X k c)(hX:ox X)(hk0:0<=k)(hb:∀p∈c.inq,aG p.zs)(ha:kh X c ND dn rs c') :
  fH X (k+1) c'/\Ad c c'/\c'.ws=c.ws/\c'.acks=c.acks/\(∀i,c'.tabs i=c.tabs i\/∃T,c'.tabs i=c.tabs i++ [T]/\gw c.t<=T.ep/\jC c' (some T))/\(c'.d=c.d\/∃D∈dn,D.e=0):=by
 have hm:=h.mono (show k<=k+1 by omega);cases ha with
 |nil e=>
  exact⟨hm,⟨Xe4 _,λ_ _ _ _ q=>q⟩,rfl,rfl,λ_=> .inl rfl,.inl rfl⟩
 |bad e hp he=>
  exact Xu
 | @seen p rest id q a dn ps' rs e hp hf hps hr=>
  have e1:ps'.map Pd.id=c.ps.map Pd.id:=by have:=congrArg (List.map λx:Nat×Int×Int=>x.2.1) hps;rw[Xb8,Xb8]at this;exact this
  refine⟨hm.upd h.sn (by rw[e1];exact h.pn) λp hp=>?_,⟨Xe4 _,λ_ _ _ _ q=>q⟩,rfl,rfl,λ_=> .inl rfl,.inl rfl⟩;have:p.id∈c.ps.map Pd.id:=e1 ▸ PI.2 ⟨p,hp,rfl⟩;obtain⟨p',hp',e⟩:=PI.1 this;exact e ▸ h.pd p' hp'
 |full e hp hf hs hc=>
  have:=NO hs hc;subst this;exact Xu
 | @no p rest id q a dn L1 err ans D e hp hf hs hn ha hD=>
  obtain⟨b1,_⟩:=mH (hb p (by rw[e];exact Xa7)) hp;obtain⟨s1,s2,s3,s4⟩:=AY h.sn b1 hs;obtain⟨e1,e2⟩:=DO (id:=id) s1 ha;refine⟨hm.upd e1 h.pn λp hp=>e2 _ (λq=>?_) (s4 _ (h.pd p hp)),⟨Xe4 _,λ_ _ _ _ q=>q⟩,rfl,rfl,λ_=> .inl rfl,.inl rfl⟩;obtain⟨y,hy,h1,_⟩:=h.pd p hp;exact s2 (q ▸ PI.2 ⟨y,hy,h1⟩)
 | @yes p rest id q a dn L1 ans D s1' e hp hf hs hd ha hD=>
  refine Zx;obtain⟨e1,e2⟩:=DO (id:=id) s1 ha;refine⟨⟨c1.de,c1.sl,c1.se,c1.ep,c1.t,c1.ll,e1,c1.pn,λp hp=>?_,c1.sh⟩,⟨c2.ep,c2.lv⟩,c3,c4,c7,.inr ⟨D,Xa2.2 rfl,hD.2.2.2⟩⟩;have hp':p∈c.ps:=by rw[c5]at hp;exact hp
  obtain⟨y,hy,h1,_⟩:=h.pd p hp';exact e2 _ (λq=>s2 (q ▸ PI.2 ⟨y,hy,h1⟩)) (s4 _ (h.pd p hp'))
 | @wait p rest id q a dn L1 ep D s1' pd e hp hf hs hd he hD hpd=>
  refine Zx;refine⟨⟨c1.de,c1.sl,c1.se,c1.ep,c1.t,c1.ll,c1.sn,?_,λp hp=>?_,c1.sh⟩,⟨c2.ep,c2.lv⟩,c3,c4,c7,.inr ⟨D,Xa2.2 rfl,hD.2.2.2⟩⟩
  .dsimp only
   rw[c5,Xb6];refine Xa6.2 ⟨h.pn,sM,λa ha b hb e=>?_⟩;obtain⟨p,hp,rfl⟩:=PI.1 ha;rw[Xb4,Xc9,Xa2,hpd.1]at hb;obtain⟨y,hy,h1,_⟩:=h.pd p hp;exact s2 (PI.2 ⟨y,hy,by rw[h1,e,hb]⟩)
  .dsimp only
   rw[c6];rcases Xa4.1 hp with r|r
   .rw[c5]at r
    exact s4 _ (h.pd p r)
   .rw[Xa2.1 r,hpd.1]
    exact s3
theorem fH.coll{dn rest:List Pd}{L1:List Dd.En}{acks':List (Int×Int)}{last':List Int}(h:fH X k c)(hp:dn++rest=c.ps)(he:jG c.L (dn.map Pd.id) L1):fH X k {c with acks:=acks',last:=last',ps:=rest,L:=L1}:=by obtain⟨e1,e2⟩:=PS he h.sn;have hn:=h.pn;rw[←hp,Xb6]at hn;obtain⟨n1,n2,n3⟩:=Xa6.1 hn;exact⟨h.de,h.sl,h.se,h.ep,h.t,h.ll,e1,n2,λp hp'=>e2 _ (λq=>n3 _ q _ (PI.2 ⟨p,hp',rfl⟩) rfl) (h.pd p (by rw[←hp];exact Xc5 _ hp')),h.sh⟩
end
structure ji(c:Cs)(x:Wk):Prop where
 ws:∃p:Pw,c.ws[x.sh]?=some p/\p.at'=gw x.tb/\(x.now=none->p.looks=false)/\∀j,x.now=some j->p.looks=j.looks/\(j.looks=true->p.sees=gw j.tb)
 tb:jC c x.tb
 jb:∀j,x.now=some j->j.todo.length<=8000000/\(j.looks=false->j.todo=[])/\(j.looks=true->jC c j.tb)/\∀th∈j.todo,∃t,j.tb=some t/\th.d∈t.ds
 ph:x.ph=0\/x.ph=1\/x.ph=2
 nx:x.ph=1->jC c x.nx/\gw x.tb<=gw x.nx/\∀T∈c.tabs x.sh,gw x.nx<=T.ep
 q:∀T∈c.tabs x.sh,gw x.tb<=T.ep/\jC c (some T)
 qs:(c.tabs x.sh).Pairwise λa b=>a.ep<=b.ep
 st:x.c4=0
section
variable {c c':Cs}{x x' y:Wk}
theorem ji.ad(h:ji c x)(h0:0<=gw c.t)(ha:Ad c c')(hw:c'.ws[x.sh]?=c.ws[x.sh]?)(ht:c'.tabs x.sh=c.tabs x.sh\/∃T,c'.tabs x.sh=c.tabs x.sh++ [T]/\gw c.t<=T.ep/\jC c' (some T)):ji c' x:=by
 have hle:∀t,jC c t->gw t<=gw c.t:=λt q=>q.le h0
 refine⟨by rw[hw];exact h.ws,h.tb.ad ha,λj hj=>?_,h.ph,λhp=>?_,?_,?_,h.st⟩
 .refine zK
  exact⟨a,b,λq=>(d q).ad ha,e⟩
 .obtain⟨a,b,d⟩:=h.nx hp
  refine⟨a.ad ha,b,λT hT=>?_⟩;rcases ht with e|⟨U,e,e1,e2⟩
  .rw[e]at hT
   exact d T hT
  .rw[e]at hT
   rcases Xa4.1 hT with r|r
   .exact d T r
   .rw[Xa2.1 r]
    exact Xe5 (hle _ a) e1
 .intro T hT
  rcases ht with e|⟨U,e,e1,e2⟩
  .rw[e]at hT
   exact⟨(h.q T hT).1,(h.q T hT).2.ad ha⟩
  .rw[e]at hT
   rcases Xa4.1 hT with r|r
   .exact⟨(h.q T r).1,(h.q T r).2.ad ha⟩
   .rw[Xa2.1 r]
    exact⟨Xe5 (hle _ h.tb) e1,e2⟩
 .rcases ht with e|⟨U,e,e1,e2⟩
  .rw[e]
   exact h.qs
  .rw[e]
   refine List.pairwise_append.2 ⟨h.qs,sM,λa ha b hb=>?_⟩;rw[Xa2.1 hb];exact Xe5 ((h.q a ha).2 a rfl).1 e1
theorem OL(ws:List Pw):∀p∈ws,jL ws<=p.at'/\(p.looks=true->jL ws<=p.sees):=by
 have key:∀ (l:List Pw) (m:Int),l.foldl eJ m<=m/\∀p∈l,l.foldl eJ m<=p.at'/\(p.looks=true->l.foldl eJ m<=p.sees):=by
  intro l;induction l with
  |nil=>
   exact λm=>⟨Xe4 _,λp hp=>by cases hp⟩
  |cons a l ih=>
   intro m;obtain⟨h1,h2⟩:=ih (eJ m a);have h3:eJ m a<=m/\eJ m a<=a.at'/\(a.looks=true->eJ m a<=a.sees):=by
    unfold eJ;split
    .next q=>exact⟨oM,oM,λ_=>oM⟩
    .next q=>exact⟨oM,oM,λr=>absurd r q⟩
   rw[Xe1];refine⟨oM,λp hp=>?_⟩;rcases Xa9.1 hp with e|e
   .subst e
    exact⟨oM,λq=>by have:=h3.2.2 q;omega⟩
   .exact h2 p e
 exact(key ws _).2
theorem jC.sweep(h:jC c t)(ho:∀T,t=some T->jL c.ws<=T.ep):jC (QL c) t:=λT hT=>by obtain⟨h1,h2⟩:=h T hT;exact⟨h1,λd hd=>(h2 d hd).sweep (ho T hT)⟩
theorem ji.sweep(h:ji c x):ji (QL c) x:=by
 obtain⟨p,p1,p2,p3,p4⟩:=h.ws;obtain⟨o1,o2⟩:=OL c.ws p (List.mem_of_getElem? p1);have hs:∀t,jC c t->jL c.ws<=gw t->jC (QL c) t:=λt ht ho=>ht.sweep λT hT=>by subst hT;exact ho
 refine⟨⟨p,p1,p2,p3,p4⟩,hs _ h.tb oM,λj hj=>?_,h.ph,λhp=>?_,λT hT=>?_,h.qs,h.st⟩
 .refine zK
  obtain⟨e1,e2⟩:=p4 j hj;exact⟨a,b,λq=>hs _ (d q) (by have:=o2 (e1.trans q);have:=e2 q;omega),e⟩
 .obtain⟨a,b,d⟩:=h.nx hp
  exact⟨hs _ a oM,b,d⟩
 .obtain⟨a,b⟩:=h.q T hT
  exact⟨a,hs _ b (by have:gw (some T)=T.ep:=rfl;omega)⟩
theorem ji.job{k:Int}(h:ji c x)(hc:fH X k c):QI c x:=λj hj=>by
 obtain⟨p,p1,p2,p3,p4⟩:=h.ws;refine zK;refine⟨⟨p.at',p.sees,by rw[p1,←(p4 j hj).1]⟩,b,oM,λth hth=>?_⟩;obtain⟨t,h1,h2⟩:=e th hth;have hl:j.looks=true:=by
  cases q:j.looks with
  |true=>
   rfl
  |false=>rw[b q]at hth;cases hth
 exact Xf1.1 (((d hl) t h1).2 _ h2 |>.at hc.sl)
theorem eH(h:jC c t)(h1:c'.t=c.t)(h2:c'.se=c.se)(h3:c'.wt=c.wt):jC c' t:=by unfold jC;rw[h1,h2,h3];exact h
theorem ji.other(h:ji c y)(h1:c'.t=c.t)(h2:c'.se=c.se)(h3:c'.wt=c.wt)(h4:c'.ws[y.sh]?=c.ws[y.sh]?)(h5:c'.tabs y.sh=c.tabs y.sh):ji c' y:=by
 refine⟨by rw[h4];exact h.ws,eH h.tb h1 h2 h3,λj hj=>?_,h.ph,λhp=>?_,λT hT=>?_,by rw[h5];exact h.qs,h.st⟩
 .refine zK
  exact⟨a,b,λq=>eH (d q) h1 h2 h3,e⟩
 .obtain⟨a,b,d⟩:=h.nx hp
  exact⟨eH a h1 h2 h3,b,by rw[h5];exact d⟩
 .rw[h5]at hT
  obtain⟨a,b⟩:=h.q T hT;exact⟨a,eH b h1 h2 h3⟩
theorem ji.obey(h:ji c x)(hs:x.sh<X.n)(hr:j0 X c x c' x'):ji c' x'/\x'.sh=x.sh/\x'.L=x.L/\(c'.t=c.t/\c'.se=c.se/\c'.wt=c.wt)/\(∀i,i≠x.sh->c'.ws[i]?=c.ws[i]?/\c'.tabs i=c.tabs i)/\c'.ws.length=c.ws.length/\((∀a∈c.acks,0<=a.1/\a.1.toNat<X.n)->∀a∈c'.acks,0<=a.1/\a.1.toNat<X.n):=by
 cases hr with
 |nil=>
  exact⟨h,rfl,rfl,⟨rfl,rfl,rfl⟩,λ_ _=>⟨rfl,rfl⟩,rfl,id⟩
 | @take t ts hp ht=>
  have hq:=h.qs;rw[ht]at hq;obtain⟨q1,q2⟩:=Xa8.1 hq;obtain⟨a,b⟩:=h.q t KC;refine⟨⟨h.ws,eH h.tb rfl rfl rfl,λj hj=>?_,.inr (.inl rfl),λ_=>⟨eH b rfl rfl rfl,a,λT hT=>?_⟩,λT hT=>?_,?_,h.st⟩,rfl,rfl,⟨rfl,rfl,rfl⟩,λi hi=>⟨rfl,if_neg hi⟩,rfl,id⟩
  .exact KQ
  .simp only[if_true]at hT
   exact q1 T hT
  .simp only[if_true]at hT
   obtain⟨a,b⟩:=h.q T (by rw[ht];exact Xa3 _ hT);exact⟨a,eH b rfl rfl rfl⟩
  .simp only[if_true]
   exact q2
 | @go L hl hp hL=>
  obtain⟨p,p1,p2,p3,p4⟩:=h.ws;obtain⟨a,b,d⟩:=h.nx hp;have hpe:c.ws[x.sh]=p:=by rw[Xb5 hl]at p1;exact Xf2.inj p1
  refine⟨⟨⟨⟨gw x.nx,p.sees,p.looks⟩,?_,rfl,p3,p4⟩,eH a rfl rfl rfl,λj hj=>?_,.inr (.inr rfl),λq=>gZ,λT hT=>?_,h.qs,h.st⟩,rfl,rfl,⟨rfl,rfl,rfl⟩,λi hi=>⟨Xc7 (Ne.symm hi),rfl⟩,sM,id⟩
  .dsimp only
   rw[hpe,Xc4 hl]
  .exact KQ
  .exact⟨d T hT,eH (h.q T hT).2 rfl rfl rfl⟩
 |ack hp hl=>
  refine⟨⟨h.ws,eH h.tb rfl rfl rfl,λj hj=>?_,.inl rfl,λq=>gZ,λT hT=>⟨(h.q T hT).1,eH (h.q T hT).2 rfl rfl rfl⟩,h.qs,h.st⟩,rfl,rfl,⟨rfl,rfl,rfl⟩,λ_ _=>⟨rfl,rfl⟩,rfl,λha a hm=>?_⟩
  .exact KQ
  .rcases Xa4.1 hm with q|q
   .exact ha a q
   .refine iH
    exact lO
 |full hp hl=>exact⟨⟨h.ws,h.tb,h.jb,.inr (.inr rfl),(λq=>gZ),h.q,h.qs,h.st⟩,rfl,rfl,⟨rfl,rfl,rfl⟩,λ_ _=>⟨rfl,rfl⟩,rfl,id⟩
theorem ji.work{z:Ws}{dn':List Dx}{o:Ou}{b:Bool}(h:ji z.c x)(hr:iR z x c' dn' x' o b):ji c' x'/\x'.sh=x.sh/\x'.L=x.L/\(c'.t=z.c.t/\c'.se=z.c.se/\c'.wt=z.c.wt)/\(∀i,i≠x.sh->c'.ws[i]?=z.c.ws[i]?/\c'.tabs i=z.c.tabs i)/\c'.ws.length=z.c.ws.length/\c'.acks=z.c.acks:=by
 obtain⟨p,p1,p2,p3,p4⟩:=h.ws;cases hr with
 |idle=>
  exact⟨h,rfl,rfl,⟨rfl,rfl,rfl⟩,λ_ _=>⟨rfl,rfl⟩,rfl,rfl⟩
 | @next pk ps g hn hp=>
  refine⟨⟨⟨p,p1,p2,λq=>gZ,λj hj=>?_⟩,h.tb,λj hj=>?_,h.ph,h.nx,h.q,h.qs,h.st⟩,rfl,rfl,⟨rfl,rfl,rfl⟩,λ_ _=>⟨rfl,rfl⟩,rfl,rfl⟩
  .cases hj
   exact⟨p3 hn,λq=>gZ⟩
  .cases hj
   exact⟨sM,λ_=>rfl,(λq=>gZ),λth hth=>by cases hth⟩
 | @bad j _ hj hl he hn hz=>
  refine Lg;refine⟨⟨⟨p,by rw[f2];exact p1,by rw[f7];exact p2,λ_=>by rw[(p4 j hj).1];exact hl,λj hj=>by rw[hn]at hj;cases hj⟩,by rw[f7];exact h.tb,λj hj=>(by rw[hn]at hj;cases hj),by rw[f9];exact h.ph,by rw[f9,f8,f7,f2];exact h.nx,by rw[f7,f2];exact h.q,by rw[f2];exact h.qs,Kc⟩,f2,f5,⟨rfl,rfl,rfl⟩,λ_ _=>⟨rfl,rfl⟩,rfl,rfl⟩
 | @dK j j' _ a s hj hl he hw hn hat hjn hlk htb hg hlen hex=>
  refine Lg;have hlt:=(Xc3.1 hw).1;have hpe:p=⟨a,s,false⟩:=Xf2.inj (p1.symm.trans hw);subst hpe;dsimp only at p2;refine⟨⟨⟨⟨a,a,true⟩,by rw[f2];exact Xc4 hlt,by rw[f7];exact p2,λq=>(by rw[hn]at q;cases q),λi hi=>?_⟩,by rw[f7];exact eH h.tb rfl rfl rfl,λi hi=>?_,by rw[f9];exact h.ph,?_,?_,by rw[f2];exact h.qs,Kc⟩,f2,f5,⟨rfl,rfl,rfl⟩,λi hi=>⟨Xc7 (Ne.symm hi),rfl⟩,sM,rfl⟩
  .rw[hn]at hi
   cases hi;exact⟨hlk.symm,λ_=>by rw[htb];exact p2⟩
  .rw[hn]at hi
   cases hi;exact⟨hlen,λq=>(by rw[hlk]at q;cases q),λ_=>by rw[htb];exact eH h.tb rfl rfl rfl,λth hth=>(hg th hth).2⟩
  .rw[f9,f8,f7,f2]
   exact λq=>⟨eH (h.nx q).1 rfl rfl rfl,(h.nx q).2⟩
  .rw[f7,f2]
   exact λT hT=>⟨(h.q T hT).1,eH (h.q T hT).2 rfl rfl rfl⟩
 | @does j j' th rest v kk i y _ _ _ hj hlk htd hk hi hat hx he hn h1 h2 h3 h4 h5 hex=>
  refine Lg;dsimp only at f1 f2 f3 f4 f5 f6 f7 f8 f9 f10 f11 f12;obtain⟨b1,b2,b3,b4⟩:=h.jb j hj;obtain⟨q1,q2⟩:=p4 j hj;refine⟨⟨⟨p,by rw[f2];exact p1,by rw[f7];exact p2,λq=>(by rw[hn]at q;cases q),λi hi=>?_⟩,by rw[f7];exact h.tb,λi hi=>?_,by rw[f9];exact h.ph,by rw[f9,f8,f7,f2];exact h.nx,by rw[f7,f2];exact h.q,by rw[f2];exact h.qs,Kc⟩,f2,f5,⟨rfl,rfl,rfl⟩,λ_ _=>⟨rfl,rfl⟩,rfl,rfl⟩
  .rw[hn]at hi
   cases hi;rw[h3,h4];exact⟨q1,q2⟩
  .rw[hn]at hi
   cases hi;rw[h3,h4];rw[htd]at b1 b4;rw[Xb2]at b1;refine⟨?_,λq=>(by rw[hlk]at q;cases q),b3,λu hu=>?_⟩
   .rcases h5 with e|e<;>rw[e]
    .omega
    .rw[Xc0,Xd1]
     omega
   .rcases h5 with e|e<;>rw[e]at hu
    .exact b4 u (Xa3 _ hu)
    .rcases Xa4.1 hu with r|r
     .exact b4 u (Xa3 _ r)
     .rw[Xa2.1 r]
      exact b4 th Xa7
 | @done j a s hj hlk htd hw=>have hlt:=(Xc3.1 hw).1;have hpe:p=⟨a,s,true⟩:=Xf2.inj (p1.symm.trans hw);subst hpe;dsimp only at p2;exact⟨⟨⟨⟨a,s,false⟩,Xc4 hlt,p2,λ_=>rfl,λi hi=>by cases hi⟩,eH h.tb rfl rfl rfl,(λi hi=>by cases hi),h.ph,λq=>⟨eH (h.nx q).1 rfl rfl rfl,(h.nx q).2⟩,λT hT=>⟨(h.q T hT).1,eH (h.q T hT).2 rfl rfl rfl⟩,h.qs,h.st⟩,rfl,rfl,⟨rfl,rfl,rfl⟩,λi hi=>⟨Xc7 (Ne.symm hi),rfl⟩,sM,rfl⟩
end
end Go.Proofs.YtnpancjkjheffaaGreat
