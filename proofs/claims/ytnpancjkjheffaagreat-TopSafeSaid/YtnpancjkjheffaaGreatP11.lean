/- Part 13 of the proof of TopSafe. No condition. -/
import Derived.Test.YtnpancjkjheffaaGreatP10
namespace Go.Proofs.YtnpancjkjheffaaGreat
set_option linter.unusedVariables false
set_option linter.unusedSimpArgs false
set_option maxRecDepth 100000
set_option maxHeartbeats 8000000
open Go.RowKit
open Go.Proofs.Tryz
open _root_.List renaming replicate->PI,length_append->Xa0,getElem?_eq_getElem->Xa1,length_tail->Xa2,length_replicate->Xa3,mem_cons->Xa4,not_mem_nil->Xa5,length_set->Xa6,getElem?_append_right->Xa7,mem_or_eq_of_mem_set->Xa8,getElem?_append_left->Xa9,eq_of_mem_replicate->Xb0,getD->Xb1,length_singleton->Xb2,getElem?_toArray->Xb3,mem_singleton->Xb4,getElem?_set->Xb5,append_assoc->Xb6,getElem_mem->Xb7,map_append->Xb8,take_left->Xb9
open Value renaming int->Xc0,slice->Xc1
open IntKind renaming u64->Xc2,i64->Xc3
open _root_.Nat renaming mod_eq_of_lt->Xc4,add_zero->Xc5,le_refl->Xc6,mod_lt->Xc7,add_mod_right->Xc8,zero_add->Xc9,lt_or_ge->Xd0,le_trans->Xd1
open Builtin renaming append_->Xd2,zeroCells->Xd3
open _root_.Option renaming some->Xd4
variable {a:Act}{ops:Array Oper}{XC:Array Value}{Q:Exit->Act->World->Prop}{tl x:Int}{f:Int->Option Value}{q:IntKind}{zs:List Int}{rest:List Oper}{xs:List Value}{B M R S X b b8 c cap g j k m n:Nat}{o:Oper}{A:Option Addr}{P:Program}{T t:TypeId}{v:Value}{u w w' w0 wx:World}
def VparE(w:World)(zs:List Int)(e:Ending)(w':World):Prop:=∃d m err,e=aA (.tuple #[.agg (kW d),JI m,JI err])/\DsN d/\(err=0->0<=m/\m<=zs.length)/\(zs.length=2->zs.getD 0 0=16->err=0/\d= {Jy with start:=true}/\m=1)/\aC w w'
theorem vG(h:BR w B (.slice A zs.length cap) zs)(hb:aG zs)(hl:zs.length<=1000000):az 225 #[.slice A zs.length cap] w (VparE w zs):=by
 refine bI;refine mn;go_enter func225,ntmps225;refine ay;refine(AQ (H.out.below jI) HB.out hl).mono ?_;rintro r w1 ⟨d,pc,tl,m,err,rfl,hd,hok,hpl,hb1⟩;have k2:w1.heap[w.heap.size]?=OC (kW Jy) 410:=(hb1.block _ sM).trans bZ;have hG1:ag af w w1:=ag.next bu hb1;refine rN;refine qh;refine Mf;have hz:=aB k2;have hX:ag af w1 ((w1.alloc (.cells (kW d) 410)).alloc (.cells #[JI pc,JI tl] 460)):=bu;have k3:=ae hX k2 id;refine Xb;have hw1l:w.heap.size<w1.heap.size:=aB k2;refine jO;have hG3:=hG1.trans hX;generalize ((w1.alloc _).alloc _)=u at *;generalize w1.heap.size=b8 at *;obtain⟨c2,f2,z2⟩:=ab k3;cases be with
 |false=>
  have HBE:=OH hbe;refine ay;refine rct2 underlying410 ?_ (h1:=aK (kW Jy).toList k3 rfl);exact⟨Jy,0,err,rfl,⟨dM,dM,dM,dM,dM⟩,λq=>(by have:=HBE.out;simp[q]at this),λa b=>Um,(hG3.call (ax (S:=λj=>j=w.heap.size) (.inl rfl) (kW Jy).toList _ 0 dp) (λj hj q=>oM)).none⟩
 |true=>have HBE:=OH (show err=0 by simpa using hbe);refine ET;refine ay;refine rct2 underlying410 ?_ (h1:=aK (kW d).toList k3 rfl);exact⟨d,m,0,rfl,hd,λ_=>⟨(HOK.out HBE.out).1,(HOK.out HBE.out).2.1⟩,λa b=>⟨rfl,(HPL.out a b).2⟩,(hG3.call (ax (S:=λj=>j=w.heap.size) (.inl rfl) (kW d).toList _ 0 dp) (λj hj q=>oM)).none⟩
theorem B5(w:World)(d:Ds):az 227 #[.agg (kW d)] w λe w'=>e=aA (.bool (d.start&& (d.part==0)))/\aC w w':=by
 obtain⟨b1,f1⟩:∃b,(d.part==0)=b:=⟨_,rfl⟩
 cases h:d.start;all_goals
  go_enter func227,ntmps227;go_wp2_with fail;go_ret;exact⟨by first|rfl|simp[f1],ag.none bu⟩
def WhE(w:World)(zs:List Int)(e:Ending)(w':World):Prop:=∃b,e=aA (.bool b)/\(zs.length=2->zs.getD 0 0=16->zs.getD 1 0=0->b=true)/\aC w w'
theorem Rr(h:BR w B (.slice A zs.length cap) zs)(hb:aG zs)(hl:zs.length<=1000000):az 228 #[.slice A zs.length cap] w (WhE w zs):=by
 refine bI;refine mn;go_enter func228,ntmps228;refine ay;refine(vG H.out HB.out hl).mono ?_;rintro r w1 ⟨d,m,err,rfl,hd,hok,hpl,hb1⟩;refine rN;refine qh;have hG1:ag af w w1:=.of hb1;obtain⟨be,hbe⟩:∃b,(err==0)=b:=⟨_,rfl⟩
 cases be with
 |false=>
  have HBE:=OH hbe;refine bj;exact⟨_,rfl,λa b _=>Um,ag.none (ag.alloc hG1 _)⟩
 |true=>
  have he:err=0:=by simpa using hbe
  subst he;have HBE:=OH hbe;have k8:(w1.alloc (.cells (kW d) 410)).heap[w1.heap.size]?=OC (kW d) 410:=bZ;refine ET;refine ay;refine(B5 _ d).mono ?_;refine rT;have hG2:ag af w w2:=(hG1.alloc _).next hb2;obtain⟨bb,hbb⟩:∃b,(d.start&& (d.part==0))=b:=⟨_,rfl⟩
  have HBB:=OH hbb;rw[hbb];obtain⟨m0,m1⟩:=HOK.out trivial;cases bb with
  |false=>
   refine bj;exact⟨_,rfl,λa b _=>(by have:=(HPL.out a b).2.1;have:=HBB.out;simp_all),hG2.none⟩
  |true=>
   obtain⟨k,rfl⟩:∃k:Nat,m=k:=⟨m.toNat,oM⟩
   by_cases hk:k<zs.length
   .have e1:decide ((k:Int)<(zs.length:Nat))=true:=by simpa using hk
    have e2:decide (k<zs.length)=true:=by simpa using hk
    obtain⟨g,off,rfl,c0⟩:=gG (H.out.chg hG2 iF) hk;obtain⟨b7,f7⟩:∃b,(bits .and .u8 (zs.getD k 0) 1==0)=b:=⟨_,rfl⟩
    have hpx:zs.length=2->zs.getD 0 0=16->zs.getD 1 0=0->b7=true:=λa b c=>by
     have:k=1:=by have:=(HPL.out a b).2.2;omega
     subst this;rw[←f7,c];decide
    have HPX:=OH hpx;generalize zs.getD k 0=y at *;refine bj;exact⟨_,rfl,HPX.out,hG2.none⟩
   .have e1:decide ((k:Int)<(zs.length:Nat))=false:=by simpa using hk
    have e2:decide (k<zs.length)=false:=by simpa using hk
    refine bj;exact⟨_,rfl,λa b _=>(by have:=(HPL.out a b).2.2;omega),hG2.none⟩
theorem Qr{off:Nat}(h:BR w B (.slice (some ⟨g,off,none⟩) n cap) zs)(h0:0<zs.length):B<=g/\∃cur,w.heap[g]?=OC cur 5:=by
 refine Ai;rcases h4 with⟨rfl,-⟩|⟨g',off',cur,k1,k2,k3,_⟩
 .simp at h0
 .refine LV
  exact⟨k2,cur,k3⟩
theorem br_set{off:Nat}(h:BR w B (.slice (some ⟨g,off,none⟩) zs.length cap) zs)(hj:j<zs.length)(x:Int):BR (w.setCell ⟨g,off+j,none⟩ (JW x)) B (.slice (some ⟨g,off,none⟩) zs.length cap) (zs.set j x):=by
 refine AL;refine nI;rcases h4 with⟨rfl,-⟩|⟨g',off',cur,k1,k2,k3,k4,k5⟩
 .simp at hj
 .refine LV
  refine⟨_,cap,sM,Ek,h3,.inr ⟨g,off,_,rfl,k2,av (off+j) (JW x) k3,by simpa using k4,λi hi=>?_⟩⟩;rw[Xa6]at hi;rw[Array.getElem?_setIfInBounds];by_cases e:i=j
  .subst e
   rw[if_pos rfl,if_pos oM];simp[Xb1,hj]
  .rw[if_neg oM,k5 i hi]
   simp[Xb1,Xb5,Ne.symm e]
theorem JJ(h:aG zs)(j:Nat)(hx:0<=x/\x<=255):aG (zs.set j x):=λz hz=>by
 rcases Xa8 hz with q|q
 .exact h z q
 .subst q
  exact hx
theorem OW(x:Int):0<=x % 256/\x % 256<=255:=oM
theorem mT(o:BinOp)(x y:Int):0<=bits o .u8 x y/\bits o .u8 x y<=255:=XR
def WrE(w:World)(zs:List Int)(e:Ending)(w':World):Prop:=∃A cap zs' err,e=aA (.tuple #[.slice A zs'.length cap,JI err])/\BR w' 0 (.slice A zs'.length cap) zs'/\aG zs'/\zs'.length<=zs.length/\aC w w'
def WJ(w wx:World)(A:Option Addr)(n cap b8:Nat)(d:Ds)(pc tl:Int)(B:Nat):Prop:=∃zs,BR wx B (.slice A zs.length cap) zs/\zs.length=n/\aG zs/\wx.heap[b8]?=OC (kW d) 410/\wx.heap[b8+1]?=OC #[JI pc,JI tl] 460/\ag af w wx
theorem WJ.set{off:Nat}{d:Ds}{pc:Int}(h:WJ w wx (some ⟨g,off,none⟩) n cap b8 d pc tl B)(hB:w.heap.size<=B)(hj:j<n)(hx:0<=x/\x<=255):WJ w (wx.setCell ⟨g,off+j,none⟩ (JW x)) (some ⟨g,off,none⟩) n cap b8 d pc tl B:=by obtain⟨zs,h1,h2,h3,h4,h5,h6⟩:=h;subst h2;obtain⟨k1,cur,k2⟩:=Qr h1 oM;have hc:ag (λi=>i=g) wx (wx.setCell ⟨g,off+j,none⟩ (JW x)):=ag.set (S:=λi=>i=g) dp ⟨g,off+j,none⟩ (.inl rfl) _;refine⟨zs.set j x,by rw[Xa6];exact br_set h1 hj x,sM,JJ h3 j hx,jH hc k2 h4,jH hc k2 h5,h6.new hc oM⟩
theorem WJ.drew{d:Ds}{pc:Int}(h:WJ w wx A n cap b8 d pc tl B):WJ w wx.drew A n cap b8 d pc tl B:=by obtain⟨zs,h1,h2,h3,h4,h5,h6⟩:=h;exact⟨zs,h1.below (ag.drew (ag.refl af _)).none,h2,h3,(bU _ _).trans h4,(bU _ _).trans h5,h6.drew⟩
theorem WJ.cell{d:Ds}{pc:Int}(h:WJ w wx A n cap b8 d pc tl B)(h0:0<n):∃g off cur,A=some ⟨g,off,none⟩/\wx.heap[g]?=OC cur 5/\∀j,j<n->∃v,wx.cell? ⟨g,off+j,none⟩=some v:=by obtain⟨zs,h1,h2,h3,h4,h5,h6⟩:=h;subst h2;obtain⟨g,off,rfl,c0⟩:=gG h1 h0;obtain⟨k1,cur,k2⟩:=Qr h1 h0;refine⟨g,off,cur,rfl,k2,λj hj=>?_⟩;obtain⟨g',off',e,c1⟩:=gG h1 hj;simp only[Xd4.injEq,Addr.mk.injEq]at e;obtain⟨rfl,rfl,-⟩:=e;exact⟨_,c1⟩
theorem NB{xp xt:Int}(h:BR w B (.slice A zs.length cap) zs)(hb:aG zs)(hl:zs.length<=1000000)(hp:0<=xp/\xp<=65535)(ht:0<=xt/\xt<=255):az 271 #[.slice A zs.length cap,JS xp,JW xt] w (WrE w zs):=by
 refine bI;refine mn;go_enter func271,ntmps271;refine ay;refine(AQ H.out HB.out hl).mono ?_;rintro r w1 ⟨d,pc,tl,m,err,rfl,hd,hok,hpl,hb1⟩;have hG3:ag af w ((w1.alloc (.cells (kW d) 410)).alloc (.cells #[JI pc,JI tl] 460)):=ag.next bu hb1 |>.alloc _ |>.alloc _;refine rN;refine Mf;refine Xb;have k9:((w1.alloc (.cells (kW d) 410)).alloc (.cells #[JI pc,JI tl] 460)).heap[w1.heap.size+1]?=OC #[JI pc,JI tl] 460:=bZ;refine jO;generalize ((w1.alloc _).alloc _)=u at *;generalize w1.heap.size=b8 at *;cases be with
 |false=>
  refine df;exact⟨none,0,[],err,rfl,eq _ _,λz hz=>absurd hz sM,sM,hG3.none⟩
 |true=>
  have he:err=0:=by simpa using hbe
  subst he;have hv:=HOK.out rfl;refine nD;refine ay;have hbu:=H.out.chg hG3 iF;refine(lI u A zs.length cap (zs.map (Xc0 .u8)) sM hl (jB _ _) (fk (iD hbu) (kf hbu))).mono ?_;rintro r w3 ⟨v,rfl,ho,hb3⟩;obtain⟨A2,cap2,rfl⟩:=aj ho;have hj:WJ w w3 A2 zs.length cap2 b8 d pc tl u.heap.size:=⟨zs,mR ho,rfl,HB.out,(hb3.block _ (aB k8)).trans k8,(hb3.block _ (aB k9)).trans k9,hG3.next hb3⟩
  have HJ:=OH hj;have hus:=hG3.size;generalize hn:zs.length=n at *;have HN:=OH hn;obtain⟨k8,k9⟩:w3.heap[b8]?=OC (kW d) 410/\w3.heap[b8+1]?=OC #[JI pc,JI tl] 460:=by obtain⟨zz,_,_,_,k8,k9,_⟩:=HJ.out;exact⟨k8,k9⟩
  refine ET;obtain⟨c9,f9,z9⟩:=ab k9;go_upto_block 0 with fail;go_cut [25] from 25 to 52 (λs wx=>WJ w wx A2 n cap2 b8 d pc tl u.heap.size);case first=>
   cases hw:d.wide with
   |true=>
    obtain⟨q1,q2⟩:=HV.out.2.2.1 hw;obtain⟨k,rfl⟩:∃k:Nat,pc=k:=⟨pc.toNat,oM⟩
    refine UR;obtain⟨v1,cg1⟩:=hcl (k+1) oM;obtain⟨-,fg,zg⟩:=ab kg;have i1:(k:Int)<n:=oM;have i2:(k:Int)+1<n:=oM;have i3:k<n:=oM;have i4:k+1<n:=oM;have HW:=OH hw;have n1:¬b8+1=g:=λq=>au kg (show(5:TypeId)≠460 by decide) (q ▸ k9)
    have n2:¬g=b8+1:=λq=>n1 q.symm
    refine ay;go_region;all_goals
     go_wp2_with fail;go_meet;first
      |exact((HJ.out.set hus i3 (mT _ _ _)).set hus i4 (OW _)).drew
      |exact((HJ.out.set hus i4 (OW _)).set hus i3 (mT _ _ _)).drew
   |false=>
    cases hpz:d.hasPic with
    |true=>
     obtain⟨q1,q2⟩:=HV.out.2.2.2.1 hpz;obtain⟨k,rfl⟩:∃k:Nat,pc=k:=⟨pc.toNat,oM⟩
     refine X9;refine dr;exact HJ.out.set hus i3 (mT _ _ _)
    |false=>refine dr;exact HJ.out
  case rest=>
   have HJ:=OH hcut;obtain⟨k8,k9⟩:wc.heap[b8]?=OC (kW d) 410/\wc.heap[b8+1]?=OC #[JI pc,JI tl] 460:=by obtain⟨zz,_,_,_,k8,k9,_⟩:=HJ.out;exact⟨k8,k9⟩
   refine ET;obtain⟨c9,f9,z9⟩:=ab k9;cases htz:d.hasTl0 with
   |true=>
    obtain⟨q1,q2⟩:=HV.out.2.2.2.2 htz;obtain⟨k,rfl⟩:∃k:Nat,tl=k:=⟨tl.toNat,oM⟩
    refine X9;refine df;obtain⟨zs',h1,h2,h3,-,-,h6⟩:=HJ.out.set hus i3 ht;exact WZ
   |false=>refine df;obtain⟨zs',h1,h2,h3,-,-,h6⟩:=HJ.out;exact WZ
theorem tZ(o:BinOp)(x y:Int):0<=bits o .u8 x y/\bits o .u8 x y<=255:=XR
theorem Qp(h:0<=x/\x<=255):aG [x]:=λz hz=>by rw[Xb4.1 hz];exact h
theorem bytes2{y:Int}(h:0<=x/\x<=255)(k:0<=y/\y<=255):aG [x,y]:=λz hz=>by
 rcases Xa4.1 hz with q|q
 .rw[q]
  exact h
 .refine iH
  exact k
def slN:Value->Nat|.slice _ n _=>n|_=>0
def ExPutE(w:World)(n:Nat)(e:Ending)(w':World):Prop:=∃prof v err,e=aA (.tuple #[JS prof,v,JI err])/\(0<=prof/\prof<=65535)/\(∃A c k,v=.slice A k c/\k<=25000)/\(err=0->n<=14/\∃zs,w'.ownsRow w.heap.size 5 1 v zs.length (zs.map (Xc0 .u8))/\aG zs/\zs.length<=n*1502+3)/\(n=0->err=0)/\aC w w'
theorem Ty{l:List Ex}(h:pj w A n cap l)(hl:n<=100000)(hx:∀x∈l,uF w x):az 96 #[.slice A n cap] w (ExPutE w n):=by
 refine vl;by_cases h14:n<=14
 .refine bI
  refine nG;have hany1:=Hc h h14 eg130 (λW x hx'=>f130_t W x (hx x hx').2.2.1);have HA1:=OH hany1;go_enter func96,ntmps96;refine ay;refine HA1.out.mono ?_;rintro r w1 ⟨⟨b1,rfl,hb1⟩,hB1⟩;have HB1:=OH hb1;cases b1 with
  |true=>
   refine ay
   go_ret3
   exact⟨0,_,1,rfl,oM,⟨_,_,_,rfl,dM⟩,λq=>absurd q dM,λq=>absurd (HB1.out q) dM,hB1⟩
  |false=>
   have hany2:=Hc (H.out.below hB1) h14 eg131 (λW x hx'=>f131_t W x (HX.out x hx').2.2.1);have HA2:=OH hany2;refine ay;refine HA2.out.mono ?_;rintro r w2 ⟨⟨b2,rfl,-⟩,hB2'⟩;have hB2:=aE hB1 hB2';cases b2;all_goals(
    go_wp2_with fail;go_loopw [6,18] (λv i wr=>∃ (k:Nat) (A1:Option Addr) (cap1:Nat) (zs:List Int),k<=n/\i=JI k/\v=.slice A1 zs.length cap1/\wr.ownsRow w.heap.size 5 1 (.slice A1 zs.length cap1) zs.length (zs.map (Xc0 .u8))/\aG zs/\zs.length<=k*1502/\aC w wr) (λ_ i _=>n- (intOf i).toNat);case atStart=>exact⟨0,none,0,[],oM,rfl,rfl,World.ownsRow_nil _ _ _ _,λz hz=>absurd hz sM,sM,hB2⟩
    case round=>
     obtain⟨k,A1,cap1,zs,hk,rfl,rfl,hown,hbz,hzl,hB⟩:=hrel;refine my;have HBZ:=OH hbz;by_cases hlt:k<n
     .have hkl:k<l.length:=by have:=H.out.n;omega
      obtain⟨g,off,rfl,c0,c1⟩:=BO (H.out.below hB) (i:=k) hkl;obtain⟨xa,xb,xl,x0,x1⟩:=HX.out l[k] (Xb7 _);have HXA:=OH xa;have HXB:=OH xb;generalize l[k]=x at *;obtain⟨y,hy⟩:∃y,bits .or .u8 (x.id*16 % 256) (((x.zs.length:Nat)-1:Int) % 256)=y:=⟨_,rfl⟩
      have hyb:0<=y/\y<=255:=hy ▸ tZ _ _ _;have hzs:=hB.size;go_wp2_with (first
       |(at_builtin;refine wpList_append_own _ rfl (.tmp 24) (.tmp 34) 56 rfl w.heap.size 5 i0 (JW 0) 1 1 underlying56 hi hz0 hz1 hz2 rfl dM _ _ _ rfl ((HO.out.alloc _).alloc _) ⟨wr.heap.size+1,0,none⟩ 1 1 [JW y] rfl rfl mf oe lM oM xM ?_;intro v4 w4 hown4 hgrow4 _;obtain⟨A4,cap4,rfl⟩:=aj hown4;have hB4:=bq ((hB.alloc hzs _).alloc xM _) xM ((HO.out.alloc _).alloc _) hgrow4;have hI4:=aV (g:=wr.heap.size) (t:=287) (c:=#[JW x.id,.slice x.a x.zs.length x.c]) ((HO.out.alloc _).alloc _) hgrow4 bZ dM;obtain⟨cI,fI,zI⟩:=ab hI4)
       |(at_builtin;refine wpList_append_own _ rfl (.tmp 36) (.tmp 43) 56 rfl w.heap.size 5 i0 (JW 0) 1 1 underlying56 hi hz0 hz1 hz2 rfl dM _ _ _ rfl ((HO.out.alloc _).alloc _) ⟨wr.heap.size+1,0,none⟩ 2 2 [JW x.id,JW ((x.zs.length:Nat) % 256)] rfl rfl mf oe lM oM xM ?_;intro v4 w4 hown4 hgrow4 _;obtain⟨A4,cap4,rfl⟩:=aj hown4;have hB4:=bq ((hB.alloc hzs _).alloc xM _) xM ((HO.out.alloc _).alloc _) hgrow4;have hI4:=aV (g:=wr.heap.size) (t:=287) (c:=#[JW x.id,.slice x.a x.zs.length x.c]) ((HO.out.alloc _).alloc _) hgrow4 bZ dM;obtain⟨cI,fI,zI⟩:=ab hI4)
       |(at_builtin;refine dh _ rfl (.tmp 45) (.tmp 47) 56 rfl w.heap.size 5 i0 (JW 0) 1 1 underlying56 hi hz0 hz1 hz2 rfl dM _ _ _ rfl hown4 _ _ _ (x.zs.map (Xc0 .u8)) rfl sM (fk (iD (HXA.out.below hB4)) (kf HXA.out)) (jB _ _) lM oM (by have:=hB4.size;omega) ?_;intro v5 w5 hown5 hgrow5;obtain⟨A5,cap5,rfl⟩:=aj hown5;have hB5:=bq hB4 hB4.size hown4 hgrow5))
      go_roundw;case rel=>first
       |(have hlen:(zs++ [y] ++x.zs).length=zs.length+1+x.zs.length:=xM
         exact⟨k+1,A5,cap5,zs++ [y] ++x.zs,oM,eT,by rw[hlen],Uw,(HBZ.out.append (Qp hyb)).append HXB.out,by rw[hlen];omega,hB5⟩)
       |(have hlen:(zs++ [x.id,(x.zs.length:Nat) % 256] ++x.zs).length=zs.length+2+x.zs.length:=xM
         exact⟨k+1,A5,cap5,zs++ [x.id,(x.zs.length:Nat) % 256] ++x.zs,oM,eT,by rw[hlen],Uw,(HBZ.out.append (bytes2 ⟨x0,x1⟩ oM)).append HXB.out,by rw[hlen];omega,hB5⟩)
      case measure=>exact di
     .refine ay
      go_loopw [6] (λv wr=>∃ (A1:Option Addr) (cap1:Nat) (zs:List Int),v=.slice A1 zs.length cap1/\wr.ownsRow w.heap.size 5 1 (.slice A1 zs.length cap1) zs.length (zs.map (Xc0 .u8))/\aG zs/\zs.length+(4-zs.length % 4) % 4<=n*1502+3/\aC w wr) (λv _=>(4-slN v % 4) % 4);case atStart=>exact⟨A1,cap1,zs,rfl,HO.out,HBZ.out,by have:k*1502<=n*1502:=Nat.mul_le_mul_right _ hk;omega,hB⟩
      case round=>
       obtain⟨A1,cap1,zs,rfl,hown,hbz,hzl,hB⟩:=hrel;refine my;have HBZ:=OH hbz;have hzs:=hB.size;by_cases hm:zs.length % 4=0
       .have e1:decide (0<zs.length % 4)=false:=xM
        have e2:decide ((0:Int)<(zs.length:Nat) % 4)=false:=xM;refine nH;refine ay
        go_ret3
        exact⟨_,_,0,rfl,oM,⟨_,_,_,rfl,oM⟩,λ_=>⟨h14,zs,HO.out,HBZ.out,by have:=HM.out;omega⟩,λ_=>rfl,hB⟩
       .have e1:decide (0<zs.length % 4)=true:=xM
        have e2:decide ((0:Int)<(zs.length:Nat) % 4)=true:=xM;go_wp2_with (first|(at_builtin;refine wpList_append_own _ rfl (.tmp 54) (.tmp 55) 56 rfl w.heap.size 5 i0 (JW 0) 1 1 underlying56 hi hz0 hz1 hz2 rfl dM _ _ _ rfl (HO.out.alloc _) ⟨wr.heap.size,0,none⟩ 1 1 [JW 0] rfl rfl mf oe lM oM xM ?_;intro v4 w4 hown4 hgrow4 _;obtain⟨A4,cap4,rfl⟩:=aj hown4;have hB4:=bq (hB.alloc hzs _) xM (HO.out.alloc _) hgrow4))
        go_roundw;case rel=>exact⟨A4,cap4,zs++ [0],Ks,by rw[Xa0,Xb8];exact hown4,HBZ.out.append (Qp oM),by simp only[Xa0,List.length_cons,List.length_nil];omega,hB4⟩
        case measure=>simp only[slN];omega)
 .have e1:decide (14<n)=true:=xM
  have e2:(14:Int)<(n:Int):=oM;go_enter func96,ntmps96;refine ay
  go_ret3
  exact⟨0,_,13,rfl,oM,⟨_,_,_,rfl,dM⟩,λq=>absurd q dM,λq=>oM,Below.refl _ _⟩
structure Pk where
 mark:Bool
 ty:Int
 seq:Int
 time:Int
 ssrc:Int
 a1:Option Addr
 c1:Nat
 cs:List Int
 a2:Option Addr
 c2:Nat
 xs:List Ex
 a3:Option Addr
 c3:Nat
 zs:List Int
 pad:Int
abbrev hdL(p:Pk):List Value:=[.bool p.mark,JW p.ty,JS p.seq,JT p.time,JT p.ssrc,.slice p.a1 p.cs.length p.c1,.slice p.a2 p.xs.length p.c2]
abbrev ij(p:Pk):List Value:=[.bool p.mark,JW p.ty,JS p.seq,JT p.time,JT p.ssrc,.slice p.a1 p.cs.length p.c1,.slice p.a2 p.xs.length p.c2,.slice p.a3 p.zs.length p.c3,JI p.pad]
def CsAt(w:World)(A:Option Addr)(cap:Nat)(zs:List Int):Prop:=dV w A zs.length cap (zs.map (Xc0 .u32))/\(∀z∈zs,0<=z/\z<=4294967295)/\∀ad,A=some ad->zs≠ []->∃g off,ad=⟨g,off,none⟩
structure PkN(p:Pk):Prop where
 ty:0<=p.ty/\p.ty<=255
 seq:0<=p.seq/\p.seq<=65535
 time:0<=p.time/\p.time<=4294967295
 ssrc:0<=p.ssrc/\p.ssrc<=4294967295
 cs:p.cs.length<=1000
 xs:p.xs.length<=1000
 zs:p.zs.length<=1500
 pad: -9223372036854775808<=p.pad/\p.pad<=9223372036854775807
structure yD(w:World)(p:Pk):Prop where
 n:PkN p
 cs:CsAt w p.a1 p.c1 p.cs
 xs:pj w p.a2 p.xs.length p.c2 p.xs
 x:∀x∈p.xs,uF w x
 zs:BR w 0 (.slice p.a3 p.zs.length p.c3) p.zs
 b:aG p.zs
theorem yD.below{p:Pk}(h:yD w p)(hb:aC w w'):yD w' p:=
 ⟨h.n,⟨h.cs.1.below hb,h.cs.2⟩,h.xs.below hb,λx hx=>(h.x x hx).chg (S:=af) (.of hb) iF,h.zs.below hb,h.b⟩
def Bt(p:Pk):Bool:=decide (p.ty<128)&&decide (p.cs.length<=15)&&decide (0<=p.pad)&&decide (p.pad<=255)
theorem may_rt(w:World)(p:Pk)(h:PkN p):az 95 #[.agg (ij p).toArray] w λe w'=>e=aA (.bool (Bt p))/\aC w w':=by
 have hc:=h.cs;obtain⟨b1,f1⟩:∃b,decide (p.ty<128)=b:=⟨_,rfl⟩
 obtain⟨b2,f2⟩:∃b,decide (p.cs.length<=15)=b:=⟨_,rfl⟩
 obtain⟨b3,f3⟩:∃b,decide (0<=p.pad)=b:=⟨_,rfl⟩
 obtain⟨b4,f4⟩:∃b,decide (p.pad<=255)=b:=⟨_,rfl⟩
 have g2:decide ((p.cs.length:Int)<=15)=b2:=by rw[←f2,decide_eq_decide];omega
 have hm:Bt p=(b1&&b2&&b3&&b4):=by unfold Bt;rw[f1,f2,f3,f4]
 generalize Bt p=r at *;refine nH;cases b1<;>cases b2<;>cases b3<;>(go_enter func95,ntmps95;go_wp2_with fail;go_ret;exact⟨by rw[HM.out];first|rfl|simp,ag.none bu⟩)
def SizE(w:World)(p:Pk)(e:Ending)(w':World):Prop:=∃n:Int,e=aA (JI n)/\0<=n/\n<=200000000/\(p.xs=[]->n=12+4*p.cs.length)/\aC w w'
theorem RP{p:Pk}(h:yD w p):az 97 #[.agg (hdL p).toArray] w (SizE w p):=by
 have hc:=h.n.cs;have hx:=h.n.xs;refine XV;by_cases h0:p.xs.length=0
 .have e1:decide ((0:Int)<(p.xs.length:Nat))=false:=decide_eq_false oM
  have e2:decide (0<p.xs.length)=false:=decide_eq_false oM;have HH:=OH h0;go_enter func97,ntmps97;refine bj;exact⟨_,rfl,oM,oM,λ_=>rfl,ag.none bu⟩
 .have e1:decide ((0:Int)<(p.xs.length:Nat))=true:=xM
  have e2:decide (0<p.xs.length)=true:=xM;have hne:p.xs≠ []:=λq=>h0 (by rw[q];rfl)
  go_enter func97,ntmps97;refine ay;refine(HEP.out _ jI).mono ?_;rintro r w1 ⟨prof,v,err,rfl,-,⟨A,c,k,rfl,hk⟩,-,-,hb⟩;have hB:aC w w1:=(show ag af w w1 from ag.next bu hb).none;refine bj;exact⟨_,rfl,oM,oM,λq=>absurd q hne,hB⟩
theorem jq(v:Value)(k:Nat):Xd3 #[v] k=(PI k v).toArray:=by
 unfold Xd3;apply Array.ext
 .simp
 .intro i h1 h2
  have:i % 1=0:=Nat.mod_one i;simp[this]
theorem IK{i:TypeInfo}(ty:TypeId)(hi:prog.info? 5=some i)(hz:i.zero=some (JW 0))(hs:i.size=1)(hby:i.bytes=1)(hown:w.ownsRow B 5 1 (.slice (aT g) n cap) n xs)(hnk:n+k<=1000000)(hB:B<=w.heap.size) :
  ∃v' w',(Xd2 #[56,3] ty #[.slice (aT g) n cap,JI k]).run prog w=.ok v' w'/\w'.ownsRow B 5 1 v' (n+k) (xs++PI k (Xc0 .u8 0))/\w.grownBy w' (Xc1 (aT g) n cap).ownBlock:=by
 rcases hown.2 with⟨h1,_⟩|⟨g',cap',cur,h1,hbg,hg,hnc,hcm,hcs,htake⟩
 .cases h1
 .simp only[Xc1.injEq,Xd4.injEq,Addr.mk.injEq]at h1
  obtain⟨⟨rfl,_,_⟩,_,rfl⟩:=h1;have hlx:xs.length=n:=by have:=hown.1;omega
  have hw:Xc3.wrap (k:Int)=k:=kA
  have hneg:¬((k:Int)<0):=oM;have h48:¬((281474976710656:Int)<(k:Int)):=oM;have hc8:(Xc0 .u8 0).cells=#[Xc0 .u8 0]:=rfl;by_cases hk:k=0
  .subst hk
   have hw0:Xc3.wrap 0=0:=rfl;refine⟨.slice (aT g) n cap,w,?_,by simpa using hown,⟨rfl,rfl,rfl,Xc6 _,λ_ _ _=>rfl⟩⟩;have hn9:¬cap<n:=oM;simp[Xd2,run_underlying underlying56,run_underlying underlying3,sizeOf,typeInfo,zeroValue,hi,hz,hs,hby,asInt,asIntOf,hw0,Addr.add_lit,hnc,storeCells]
  .by_cases hroom:n+k<=cap
   .have hst:=run_storeCells_at prog g (n*1) 5 (PI k (Xc0 .u8 0)) 0 cur w hg xM (by intro u hu;rw[Xb0 hu];rfl)
    simp only[Xc5,Nat.mul_one,Xa3]at hst;have hrun:(Xd2 #[56,3] ty #[.slice (aT g) n cap,JI k]).run prog w=.ok (.slice (aT g) (n+k) cap) (w.setRow g (cur.toList.take n++PI k (Xc0 .u8 0)++cur.toList.drop (n+k)).toArray):=by simp[Xd2,run_underlying underlying56,run_underlying underlying3,sizeOf,typeInfo,zeroValue,hi,hz,hs,hby,asInt,asIntOf,hw,hneg,h48,hroom,hk,Addr.add_lit,hc8,jq,hst]
    refine⟨_,_,hrun,⟨by simp[hlx],.inr ⟨g,cap,_,rfl,hbg,Go.setRow_heap w g cur _ 5 _ hg,hroom,hcm,?_,?_⟩⟩,⟨rfl,rfl,rfl,sM,λj _ hk=>Go.setRow_other w g j _ (λe=>hk (by simp[Value.ownBlock,e]))⟩⟩
    .simp only[List.size_toArray,Xa0,List.length_take,List.length_drop,Array.length_toList,Xa3]
     omega
    .have ht:cur.toList.take n=xs:=by rw[htake.symm];simp[hlx]
     rw[ht,Xb6];have:(xs++PI k (Xc0 .u8 0)).length=n+k:=by simp[hlx]
     simp only;rw[←Xb6,show(n+k)*1=(xs++PI k (Xc0 .u8 0)).length by omega];exact Xb9
   .have holds:=run_firstCells_some (P:=prog) w.drew i.size n ⟨g,0,none⟩ n cap xs (by rw[hs];omega) (hown.cells (g:=g) rfl)
    have hk0:0<k:=oM;have hr:=Lib.run_append_grow_zeros (P:=prog) w 56 3 ty 5 i _ .i64 .i64 underlying56 underlying3 hi hz (aT g) n cap _ holds k hk0 oM oM oM (by rw[hby];omega) (growslice_fits oM (by rw[hby];omega));have hge:=grownCap_ge w (n+k) cap 5;refine⟨_,_,hr,⟨by simp[hlx],.inr ⟨w.heap.size,_,_,rfl,hB,Go.heap_alloc_new w.drew _,hge,grownCap_le_maxLen w (n+k) cap 5 lM,?_,?_⟩⟩,⟨rfl,rfl,rfl,sM,λj hj _=>dZ w.drew _ j hj⟩⟩
    .rw[hc8,jq,jq]
     simp[hlx];omega
    .rw[hc8,jq,jq]
     have e:(xs++PI k (Xc0 .u8 0)).length=(n+k)*1:=by simp[hlx]
     rw[←e,Array.toList_append,Array.toList_append];exact Xb9
theorem wL(w:World){i:TypeInfo}(hgd:o.guard=none)(s x:Operand)(ho:o.op=.call {callee:=.builtin .append,args:=#[s,x],argTypes:=#[56,3] })(hi:prog.info? 5=some i)(hz:i.zero=some (JW 0))(hs:i.size=1)(hby:i.bytes=1)(hs':a.eval s=.slice (aT g) n cap)(hx:a.eval x=JI k)(hown:w.ownsRow B 5 1 (.slice (aT g) n cap) n xs)(hnk:n+k<=1000000)(hB:B<=w.heap.size)(h:∀v' w',w'.ownsRow B 5 1 v' (n+k) (xs++PI k (Xc0 .u8 0))->w.grownBy w' (Xc1 (aT g) n cap).ownBlock->wpList prog ops Q rest (a.put o.dst v') w'):wpList prog ops Q (o::rest) a w:=by
 obtain⟨v',w',hr,h1,h2⟩:=IK o.type hi hz hs hby hown hnk hB;exact Lib.wpList_append_run w hgd s x 56 3 ho _ _ hs' hx v' w' hr (h v' w' h1 h2)
def wC(p:Pk):Prop:=p.mark=false/\p.ty<128/\p.cs.length=0/\p.xs.length=0/\p.pad=0/\p.zs.length<=1400
theorem IS{p:Pk}(h:wC p):Bt p=true:=by obtain⟨_,h1,h2,_,h4,_⟩:=h;simp[Bt,h1,h2,h4]
abbrev Tp(f s:Int)(p:Pk):List (Int×Int):=[(f,1),(s,1),(p.seq,2),(p.time,4),(p.ssrc,4)]
def RtpE(w:World)(p:Pk)(e:Ending)(w':World):Prop:=∃v err zr,e=aA (.tuple #[v,JI err])/\(∃A k c,v=.slice A k c/\(err≠0->A=none/\k=0/\c=0))/\(err=0->w'.ownsRow w.heap.size 5 1 v zr.length (zr.map (Xc0 .u8))/\aG zr/\zr.length<=40000)/\(wC p->err=0/\zr=dR (Tp 128 p.ty p)++p.zs)/\aC w w'
abbrev ptC(x:Int×Int):List Value:=[JU x.1,JI x.2]
theorem GP(x:Int×Int):(ptC x).length=2:=rfl
theorem CP(ps:List (Int×Int))(hX:w.heap[g]?=OC (ps.flatMap ptC).toArray 185)(hn:ps.length=n)(hl:n<=10000)(hx:∀p∈ps,0<=p.1/\p.1<2 ^ 64/\ -100000<=p.2/\p.2<=100000) :
  az 77 #[.slice (aT g) n n] w λr w'=>∃A cap,r=aA (.slice A (dR ps).length cap)/\w'.ownsRow w.heap.size 5 1 (.slice A (dR ps).length cap) (dR ps).length ((dR ps).map (Xc0 .u8))/\aC w w':=by
 refine(GN w _ n n ps hn hl (λi hi=>?_) hx).mono ?_
 .obtain⟨c0,_,z0⟩:=ab hX
  refine⟨g,0,rfl,z0,?_,?_⟩
  .rw[Xc9,c0,Xb3,show i*2=i*2+0 by omega,bY GP ps i 0 hi oM]
   simp[ptC,Xb1,hi]
  .rw[Xc9,c0,Xb3,bY GP ps i 1 hi oM]
   simp[ptC,Xb1,hi]
 .rintro r w' ⟨v,rfl,ho,hb⟩
  obtain⟨A,cap,rfl⟩:=aj ho;exact⟨A,cap,rfl,ho,hb⟩
theorem TL(h:CsAt w A cap zs){i:Nat}(hi:i<zs.length):∃g off,A=some ⟨g,off,none⟩/\w.cell? ⟨g,off+i,none⟩=some (JT zs[i])/\0<=zs[i]/\zs[i] <=4294967295:=by
 obtain⟨h1,h2,h3⟩:=h;cases A with
 |none=>have:=(h1.1 rfl).1;omega
 |some ad=>obtain⟨g,off,rfl⟩:=h3 _ rfl (λe=>by subst e;simp at hi);have:=h1.2 _ rfl i (JT zs[i]) (by simp[hi]);rw[Addr.add_lit]at this;exact⟨g,off,rfl,this,h2 _ lm⟩
theorem RB(x:Int):0<=Xc2.wrap x/\Xc2.wrap x<2 ^ 64:=qe
theorem B0(o:BinOp)(x y:Int):0<=bits o .u64 x y/\bits o .u64 x y<2 ^ 64:=by
 have h:∀z:Int,0<=Xc2.wrap z/\Xc2.wrap z<2 ^ 64:=λz=>by exact qe
 cases o<;>exact h _
structure nC(w0:World)(X:Nat)(XC:Array Value)(T:TypeId)(w:World)(v:Value)(zs:List Int):Prop where
 own:w.ownsRow w0.heap.size 5 1 v zs.length (zs.map (Xc0 .u8))
 by_:aG zs
 blk:w.heap[X]?=OC XC T
 low:aC w0 w
theorem nC.alloc(h:nC w0 X XC T w v zs)(o:Obj):nC w0 X XC T (w.alloc o) v zs:=
 ⟨h.own.alloc _,h.by_,ai h.blk,h.low.alloc h.low.size _⟩
theorem nC.call(h:nC w0 X XC T w v zs)(hb:aC w w'):nC w0 X XC T w' v zs:=
 ⟨aX h.own hb,h.by_,(hb.block _ (aB h.blk)).trans h.blk,aE h.low hb⟩
theorem io{news:List Int}(h:nC w0 X XC T w v zs)(hT:T≠5)(hgd:o.guard=none)(s x:Operand)(ho:o.op=.call {callee:=.builtin .append,args:=#[s,x],argTypes:=#[56,56] })(hs:a.eval s=v)(hx:a.eval x=.slice A m c)(hsrc:dV w A m c (news.map (Xc0 .u8)))(hn:news.length=m)(hby:aG news)(hl:zs.length+m<=1000000)(k:∀A' cap' w' z',z'=zs++news->nC w0 X XC T w' (.slice A' z'.length cap') z'->wpList prog ops Q rest (a.put o.dst (.slice A' z'.length cap')) w'):wpList prog ops Q (o::rest) a w:=by
 refine vl;refine dh w hgd s x 56 ho w0.heap.size 5 i0 (JW 0) 1 1 underlying56 hi hz0 hz1 hz2 rfl dM v _ _ hs h.own A m c _ hx (by simp[hn]) hsrc (jB _ _) lM oM h.low.size ?_;intro v' w' h1 h2;obtain⟨A',cap',rfl⟩:=aj h1;have hlen:zs.length+m=(zs++news).length:=by simp[hn]
 rw[←Xb8,hlen]at h1;rw[hlen];exact k A' cap' w' _ rfl ⟨h1,h.by_.append hby,aV h.own h2 h.blk hT,bq h.low h.low.size h.own h2⟩
theorem GA{l:List Value}:dV (w.alloc (.cells l.toArray t)) (aT w.heap.size) m c l:=
 ⟨λh=>rF,λad (had:some (⟨w.heap.size,0,none⟩:Addr)=some ad)=>by simp only[Xd4.injEq]at had;subst had;exact fy rfl⟩
theorem Cq(h:nC w0 X XC T w (.slice A zs.length cap) zs)(hz:0<zs.length)(hT:T≠5)(hgd:o.guard=none)(s x:Operand)(ho:o.op=.call {callee:=.builtin .append,args:=#[s,x],argTypes:=#[56,3] })(hs:a.eval s=.slice A zs.length cap)(hx:a.eval x=JI k)(hl:zs.length+k<=1000000)(kk:∀A' cap' w' z',z'=zs++PI k 0->nC w0 X XC T w' (.slice A' z'.length cap') z'->wpList prog ops Q rest (a.put o.dst (.slice A' z'.length cap')) w'):wpList prog ops Q (o::rest) a w:=by
 refine vl;have hsh:=bW h.own;rcases hsh with⟨_,h2,_⟩|⟨g,cap2,h2,_⟩
 .omega
 .simp only[Xc1.injEq]at h2
  obtain⟨rfl,_,rfl⟩:=h2;refine wL w hgd s x ho hi hz0 hz1 hz2 hs hx h.own hl h.low.size ?_;intro v' w' h1 h2;obtain⟨A',cap',rfl⟩:=aj h1;have hlen:zs.length+k=(zs++PI k 0).length:=sM;rw[show zs.map (Xc0 .u8)++PI k (Xc0 .u8 0)=(zs++PI k 0).map (Xc0 .u8) by simp,hlen]at h1;rw[hlen];exact kk A' cap' w' _ rfl ⟨h1,h.by_.append (λz hz=>by rw[Xb0 hz];omega),aV h.own h2 h.blk hT,bq h.low h.low.size h.own h2⟩
structure PkS(w:World)(p:Pk):Prop where
 n:PkN p
 cs:CsAt w p.a1 p.c1 p.cs
 xs:pj w p.a2 p.xs.length p.c2 p.xs
 x:∀x∈p.xs,uF w x
 zs:dV w p.a3 p.zs.length p.c3 (p.zs.map (Xc0 .u8))
 b:aG p.zs
theorem PkS.below{p:Pk}(h:PkS w p)(hb:aC w w'):PkS w' p:=
 ⟨h.n,⟨h.cs.1.below hb,h.cs.2⟩,h.xs.below hb,λx hx=>(h.x x hx).chg (S:=af) (.of hb) iF,h.zs.below hb,h.b⟩
theorem PkS.hd{p:Pk}(h:PkS w p):yD w {p with a3:=none,c3:=0,zs:=[] }:=⟨{h.n with zs:=by simp},h.cs,h.xs,h.x,eq _ _,pB⟩
theorem GH{p:Pk}(h:PkS w p):az 48 #[.agg (ij p).toArray] w (RtpE w p):=by
 refine vl;refine bI;have hcl:=h.n.cs;have hxl:=h.n.xs;have hzl:=h.n.zs;have hpb:=h.n.pad;have hmay:=λW=>may_rt W p h.n
 have HM:=OH hmay;refine XV;have hsz:∀W,aC w W->az 97 #[.agg (hdL p).toArray] W (SizE W p):=λW hb=>by have q:=RP (h.below hb).hd;exact q
 have HSZ:=OH hsz;clear hmay hep hsz h;obtain⟨bm,hbm⟩:∃b,Bt p=b:=⟨_,rfl⟩
 rw[hbm]at HM;have HBM:=OH hbm;clear hbm;go_enter func48,ntmps48;refine ay;refine(HM.out _).mono ?_;rintro r w1 ⟨rfl,hb1⟩;have hX:w1.heap[w.heap.size]?=OC (ij p).toArray 58:=(hb1.block _ sM).trans bZ;have hB1:aC w w1:=(show ag af w w1 from ag.next bu hb1).none;clear hb1 HM;cases bm with
 |false=>
  refine df;exact⟨_,1,[],rfl,Kn,λq=>absurd q dM,λq=>absurd (HBM.out.symm.trans (IS q)) dM,hB1⟩
 |true=>
  refine nQ;refine ay;refine(HEP.out _ hB1).mono ?_;rintro r w2 ⟨prof,v1,e1,rfl,hpr,⟨A1,c1,k1,rfl,hk1⟩,he1,he0,hb2⟩;have hB2:=aE hB1 hb2;have hX2:=(hb2.block _ zX).trans hX;have HE1:=OH he1;have HE0:=OH he0;clear he1 he0 hb2 hX cX fX zX;obtain⟨cX,fX,zX⟩:=ab hX2;refine Vn;cases b1 with
  |false=>
   refine df;exact⟨_,e1,[],rfl,Kn,λq=>absurd q pz,λq=>absurd (HE0.out q.2.2.2.1) pz,hB2⟩
  |true=>
   have he1:e1=0:=by simpa using f1
   have hmb:p.ty<128/\p.cs.length<=15/\0<=p.pad/\p.pad<=255:=by have:=HBM.out;simpa[Bt,and_assoc]using this
   have HMB:=OH hmb;obtain⟨-,hcl',hp0,hp1⟩:=hmb;refine nJ;refine rg 10 (λw'=>Bk w' w.heap.size (ij p).toArray 58) bk (λhH=>?_);refine qG;refine tk 3 ?_;refine ze;refine uV;refine on 2 λK hK=>?_
   go_simp;have hd2:ag af w w2.drew:=(ag.of hB2:ag af w w2).drew;refine(HSZ.out _ hd2.none).mono ?_;rintro r w3 ⟨n3,rfl,n0,n1,n2,hb3⟩;have hB3:=(hd2.next hb3).none;have hB23:aC w2 w3:=(((ag.refl _ _).drew:ag af w2 w2.drew).next hb3).none;have hX3:=(hb3.block _ (by simp only[bE];exact zX)).trans hX2;have HN2:=OH n2;have q1:Xc3.wrap (n3+(p.zs.length:Nat))=n3+(p.zs.length:Nat):=kA
   have q2:Xc3.wrap (n3+(p.zs.length:Nat)+p.pad)=n3+(p.zs.length:Nat)+p.pad:=kA
   obtain⟨b2,f2⟩:∃b,decide (1500<n3+(p.zs.length:Nat)+p.pad)=b:=⟨_,rfl⟩
   clear n2;refine qT;refine tk 6 ?_;refine gN;refine eY;clear cX fX zX q1 q2 hX2 hH;obtain⟨cX,fX,zX⟩:=ab hX3;have F2:=OH f2;clear f2;cases b2 with
   |true=>
    refine df;exact⟨_,13,[],rfl,Kn,λq=>absurd q dM,λq=>absurd (HN2.out (List.eq_nil_of_length_eq_zero q.2.2.2.1)) (by have:=of_decide_eq_true F2.out;have:=q.2.2.1;have:=q.2.2.2.2.1;have:=q.2.2.2.2.2;omega),hB3⟩
   |false=>
    obtain⟨b3,f3⟩:∃b,decide (0<p.pad)=b:=⟨_,rfl⟩
    obtain⟨b4,f4⟩:∃b,decide (0<p.xs.length)=b:=⟨_,rfl⟩
    have g4:decide ((0:Int)<(p.xs.length:Nat))=b4:=by rw[←f4,decide_eq_decide];omega
    obtain⟨y1,hy1⟩:∃y,bits .or .i64 128 (p.cs.length:Nat)=y:=⟨_,rfl⟩
    have HY1:=OH hy1;go_upto_if 44 with fail;go_cut [7] from 45 to 46 (λs wx=>(∃y,s=JI y/\(p.pad=0->y=y1))/\wx=w3);case first=>
     cases b3 with
     |false=>
      refine dr;exact⟨⟨_,rfl,λ_=>rfl⟩,rfl⟩
     |true=>refine dr;exact⟨⟨_,rfl,λq=>by rw[q]at f3;exact absurd f3 dM⟩,rfl⟩
    case rest=>
     obtain⟨⟨y2,rfl,hy2⟩,hwc⟩:=hcut;refine oJ;have HY2:=OH hy2;clear hy2 hy1;go_upto_if 51 with fail;go_cut [7] from 52 to 53 (λs wx=>(∃y,s=JI y/\(p.xs.length=0->y=y2))/\wx=w3);case first=>
      cases b4 with
      |false=>
       refine dr;exact⟨⟨_,rfl,λ_=>rfl⟩,rfl⟩
      |true=>refine dr;exact⟨⟨_,rfl,λq=>by rw[q]at f4;exact absurd f4 dM⟩,rfl⟩
     case rest=>
      obtain⟨⟨y3,rfl,hy3⟩,hwc⟩:=hcut;refine oJ;have HY3:=OH hy3;clear hy3;have hty:Xc2.wrap p.ty=p.ty:=by have:=H.out.n.ty;exact qk
      go_upto_if 60 with fail;generalize hmk:p.mark=mk at *;have HMK:=OH hmk;clear hmk;go_cut [8] from 61 to 62 (λs wx=>(∃y,s=JU y/\(0<=y/\y<2 ^ 64)/\(mk=false->y=p.ty))/\wx=w3);case first=>
       cases mk with
       |false=>
        refine dr;exact⟨⟨_,rfl,by have:=H.out.n.ty;omega,λ_=>rfl⟩,rfl⟩
       |true=>refine dr;exact⟨⟨_,rfl,B0 _ _ _,λq=>gZ⟩,rfl⟩
      case rest=>
       obtain⟨⟨y4,rfl,hyb4,hy4⟩,hwc⟩:=hcut;refine oJ;have HY4:=OH hy4;clear hy4;have hsq:Xc2.wrap p.seq=p.seq:=by have:=H.out.n.seq;exact qk
       have htm:Xc2.wrap p.time=p.time:=by have:=H.out.n.time;exact qk
       have hss:Xc2.wrap p.ssrc=p.ssrc:=by have:=H.out.n.ssrc;exact qk
       obtain⟨F,hF⟩:∃F,Xc2.wrap y3=F:=⟨_,rfl⟩
       have hFb:0<=F/\F<2 ^ 64:=hF ▸ RB _;have hF128:wC p->F=128/\y4=p.ty:=λq=>by have h1:=HY3.out q.2.2.2.1;have h2:=HY2.out q.2.2.2.2.1;have h3:=HY1.out;rw[q.2.2.1]at h3;refine⟨?_,HY4.out (HMK.out.symm.trans q.1)⟩;rw[←hF,h1,h2,←h3];rfl
       have HFP:=OH hF128;clear hF128;have hput:=λ(hX:(w3.alloc (.cells #[JU F,JI 1,JU y4,JI 1,JU p.seq,JI 2,JU p.time,JI 4,JU p.ssrc,JI 4] 185)).heap[w3.heap.size]?=OC #[JU F,JI 1,JU y4,JI 1,JU p.seq,JI 2,JU p.time,JI 4,JU p.ssrc,JI 4] 185)=>CP (n:=5) (Tp F y4 p) (by rw[show(Tp F y4 p).flatMap ptC=[JU F,JI 1,JU y4,JI 1,JU p.seq,JI 2,JU p.time,JI 4,JU p.ssrc,JI 4] from rfl];exact hX) rfl dM (by intro x hx;have:=H.out.n.seq;have:=H.out.n.time;have:=H.out.n.ssrc;simp only[Xa4,Xa5,or_false]at hx;rcases hx with rfl|rfl|rfl|rfl|rfl<;>refine⟨?_,?_,?_,?_⟩<;>dsimp only<;>omega)
       have HPT:=OH hput;clear hput;refine ay;refine(HPT.out eM).mono ?_;rintro r w4 ⟨A4,cap4,rfl,ho4,hb4⟩;have hB4:aC w w4:=((ag.of hB3:ag af w w3).alloc _ |>.next hb4).none;have hB24:aC w2 w4:=((ag.of hB23:ag af w2 w3).alloc _ |>.next hb4).none;have ho4:=aW ho4 (by rw[aD];have:=hB23.size;omega:w2.heap.size<=_);have hX4:=(hb4.block _ (by rw[aD];have:=aB hX3;omega)).trans (ai hX3);have hl4:=oU (Tp F y4 p);have hl5:0<(dR (Tp F y4 p)).length:=by simp[dR,kI,gQ]
       have hby:=fh (Tp F y4 p);obtain⟨zs4,hzs4⟩:∃z,dR (Tp F y4 p)=z:=⟨_,rfl⟩
       rw[hzs4]at ho4 hl4 hl5 hby ⊢;have HZ4:=OH hzs4;have HO4:=OH ho4;have HBY:=OH hby;clear ho4 hby hzs4 hb4 HPT cX fX zX hX3 hF hsq htm hss;have hl4:zs4.length<=40:=hl4;obtain⟨cX,fX,zX⟩:=ab hX4;have hcsl:p.cs.length<=15:=hcl';refine ay;go_loopw [9,11,89] (λv _ i wr=>∃ (k:Nat) (A:Option Addr) (cap:Nat) (zr:List Int),k<=p.cs.length/\v=.slice A zr.length cap/\i=JI k/\nC w2 w.heap.size (ij p).toArray 58 wr (.slice A zr.length cap) zr/\0<zr.length/\zr.length<=40+8*k/\(p.cs.length=0->zr=zs4)) (λ_ _ i _=>p.cs.length- (intOf i).toNat);case atStart=>exact⟨0,A4,cap4,zs4,oM,rfl,rfl,⟨HO4.out,HBY.out,hX4,hB24⟩,hl5,oM,λ_=>rfl⟩
       case round=>
        clear cX fX zX hX4 HO4 HBY hB4;obtain⟨k,A5,cap5,zr,hk,rfl,rfl,hrow,hz0l,hzrl,hpl⟩:=hrel;have HR:=OH hrow;refine qh;clear hrow hpl;have hX:=HR.out.blk;have hB:=aE hB2 HR.out.low;refine nQ;by_cases hlt:k<p.cs.length
        .obtain⟨g,off,ha,c0,x0,x1⟩:=TL (H.out.below hB).cs hlt
         generalize p.cs[k]=x at *;generalize p.a1=a1 at *;subst ha;have hwx:Xc2.wrap x=x:=qk
         have hput:=λ(hX:(wr.alloc (.cells #[JU x,JI 4] 185)).heap[wr.heap.size]?=OC #[JU x,JI 4] 185)=>CP (n:=1) [(x,4)] (by rw[show [((x,4):Int×Int)].flatMap ptC=[JU x,JI 4] from rfl];exact hX) rfl dM (by intro y hy;simp only[Xa4,Xa5,or_false]at hy;subst hy;refine⟨?_,?_,?_,?_⟩<;>dsimp only<;>omega)
         have HPT:=OH hput;clear hput;have hlp:=OH (show(dR [(x,4)]).length=4 by simp[dR,kI,gQ]);go_wp2_with (first
          |(with_reducible refine(HPT.out eM).mono ?_;rintro r w5 ⟨A6,cap6,rfl,ho6,hb6⟩)
          |(at_builtin;refine io ((HR.out.alloc _).call hb6) dM rfl (.tmp 93) (.tmp 98) rfl rfl rfl (eZ ho6) rfl (fh _) (by rw[hlp.out];omega) ?_;intro A7 cap7 w7 zr' hz7 hr7;obtain⟨q1,q2⟩:0<zr'.length/\zr'.length<=zr.length+4:=Ug;clear hz7)
          |fail)
         go_roundw;exact⟨k+1,A7,cap7,_,oM,rfl,rfl,hr7,q1,oM,λq=>oM⟩;case measure=>exact di
        .go_upto_if 105 with fail
         go_cut [9] from 106 to 120 (λs wx=>∃A cap z,s=.slice A z.length cap/\nC w2 w.heap.size (ij p).toArray 58 wx (.slice A z.length cap) z/\0<z.length/\z.length<=30000/\(p.xs.length=0->z=zr));case first=>
          cases b4 with
          |false=>
           refine dr;exact⟨_,_,_,rfl,HR.out,hz0l,oM,λ_=>rfl⟩
          |true=>
           obtain⟨hn14,vz,hvo,hvb,hvl⟩:=HE1.out he1;obtain⟨_,_,hve⟩:=aj hvo;simp only[Xc1.injEq]at hve;obtain⟨-,hkv,-⟩:=hve;subst hkv;have HVO:=OH hvo;have HVB:=OH hvb;clear hvo hvb;have hpf:Xc2.wrap prof=prof:=qk
           have hput:=λ(y:Int) (hy:0<=y/\y<2 ^ 64) (hX:(wr.alloc (.cells #[JU prof,JI 2,JU y,JI 2] 185)).heap[wr.heap.size]?=OC #[JU prof,JI 2,JU y,JI 2] 185)=>CP (n:=2) [(prof,2),(y,2)] (by rw[show [((prof,2):Int×Int),(y,2)].flatMap ptC=[JU prof,JI 2,JU y,JI 2] from rfl];exact hX) rfl dM (by intro z hz;simp only[Xa4,Xa5,or_false]at hz;rcases hz with rfl|rfl<;>refine⟨?_,?_,?_,?_⟩<;>dsimp only<;>omega)
           have HPT:=OH hput;clear hput;have hlp:=OH (show(dR [(prof,2),(((vz.length:Nat) / 4:Int),2)]).length=4 by simp[dR,kI,gQ]);go_wp2_with (first
            |(with_reducible refine(HPT.out ((vz.length:Nat) / 4:Int) oM eM).mono ?_;rintro r w5 ⟨A6,cap6,rfl,ho6,hb6⟩)
            |(at_builtin;refine io ((HR.out.alloc _).call hb6) dM rfl (.tmp 106) (.tmp 116) rfl rfl rfl (eZ ho6) rfl (fh _) (by rw[hlp.out];omega) ?_;intro A7 cap7 w7 zr' hz7 hr7;obtain⟨q1,q2⟩:0<zr'.length/\zr'.length<=zr.length+4:=Ug;clear hz7)
            |(at_builtin;refine io hr7 dM rfl (.tmp 118) (.tmp 119) rfl rfl rfl (eZ (aX HVO.out hr7.low)) rfl HVB.out oM ?_;intro A8 cap8 w8 z8 hz8 hr8;obtain⟨q3,q4⟩:0<z8.length/\z8.length<=zr'.length+vz.length:=(by rw[hz8,Xa0];omega);clear hz8)
            |fail)
           go_meet;exact⟨_,_,_,rfl,hr8,q3,oM,λq=>by rw[q]at f4;exact absurd f4 dM⟩
         case rest=>
          obtain⟨A8,cap8,z8,rfl,hr8,hz8,hl8,hp8⟩:=hcut;have HR8:=OH hr8;have HP8:=OH hp8;clear hr8 hp8 cX fX zX hX;have hX:=HR8.out.blk;have hB8:=aE hB2 HR8.out.low;refine nQ;go_upto_if 127 with(first
           |(at_builtin;refine io HR8.out dM rfl (.tmp 121) (.tmp 123) rfl rfl rfl (H.out.zs.below hB8) rfl H.out.b oM ?_;intro A9 cap9 w9 z9 hz9 hr9;obtain⟨q1,q2⟩:0<z9.length/\z9.length<=z8.length+p.zs.length:=(by rw[hz9,Xa0];omega);have HZ9:=OH hz9;have HR9:=OH hr9;have hX9:=hr9.blk;clear hz9 hr9 cX fX zX hX;obtain⟨cX,fX,zX⟩:=ab hX9)
           |fail)
          cases b3 with
          |false=>
           refine df;exact⟨_,0,z9,rfl,Kn,λ_=>⟨aW HR9.out.own hB2.size,HR9.out.by_,oM⟩,λq=>⟨rfl,by rw[HZ9.out,HP8.out q.2.2.2.1,HPL.out q.2.2.1,←HZ4.out,(HFP.out q).1,(HFP.out q).2]⟩,aE hB2 HR9.out.low⟩
          |true=>
           obtain⟨pk,hpk⟩:∃k:Nat,p.pad-1=k:=⟨(p.pad-1).toNat,by have:=of_decide_eq_true f3;omega⟩
           have hpkl:pk<=255:=oM;have hp8:p.pad % 256=p.pad:=oM;go_wp2_with (first
            |(at_builtin;refine Cq HR9.out q1 dM rfl (.tmp 128) (.tmp 131) rfl rfl rfl oM ?_;intro A10 cap10 w10 z10 hz10 hr10;have hl10:z10.length<=z9.length+pk:=(by rw[hz10,Xa0,Xa3];exact Xc6 _);have HR10:=OH hr10;have hX10:=hr10.blk;clear hz10 hr10 cX fX zX;obtain⟨cX,fX,zX⟩:=ab hX10)
            |(at_builtin;refine io (HR10.out.alloc _) dM rfl (.tmp 133) (.tmp 137) rfl rfl rfl (news:=[p.pad]) GA rfl (by intro z hz;rw[Xb4]at hz;omega) oM ?_;intro A11 cap11 w11 z11 hz11 hr11;have hl11:z11.length<=z10.length+1:=(by rw[hz11,Xa0];exact Xc6 _);have HR11:=OH hr11;clear hz11 hr11)
            |fail)
           go_ret2;exact⟨_,0,z11,rfl,Kn,λ_=>⟨aW HR11.out.own hB2.size,HR11.out.by_,oM⟩,λq=>absurd q.2.2.2.2.1 (by have:=of_decide_eq_true f3;omega),aE hB2 HR11.out.low⟩
theorem NZ{p:Pk}(h:yD w p):az 48 #[.agg (ij p).toArray] w (RtpE w p):=GH ⟨h.n,h.cs,h.xs,h.x,fk (iD h.zs) (kf h.zs),h.b⟩
namespace St
theorem keepS{a0 a1:Nat}{s:Array Value}{v0 v1:Value}(z0:g<n)(c0:∀j,u.cell? ⟨g,j,none⟩=s[j]?)(hb:b<n)(d0:u.cell? ⟨b,a0,none⟩=some v0)(d1:u.cell? ⟨b,a1,none⟩=some v1)(h:Below n u w) :
  (∀j,w.cell? ⟨g,j,none⟩=s[j]?)/\w.cell? ⟨b,a0,none⟩=some v0/\w.cell? ⟨b,a1,none⟩=some v1/\Below n u w:=
 ⟨mQ h z0 c0,(h.cell (p:=⟨b,a0,none⟩) hb).trans d0,(h.cell (p:=⟨b,a1,none⟩) hb).trans d1,h⟩
theorem keepM{k:TypeId}{s t:Array Value}(z0:g<u.heap.size)(c0:∀j,u.cell? ⟨g,j,none⟩=s[j]?)(z1:b<u.heap.size)(c1:∀j,u.cell? ⟨b,j,none⟩=t[j]?)(hM:aP u P k q M m f)(h:aC u w) :
  (∀j,w.cell? ⟨g,j,none⟩=s[j]?)/\(∀j,w.cell? ⟨b,j,none⟩=t[j]?)/\aP w P k q M m f/\aC u w:=
 ⟨mQ h z0 c0,mQ h z1 c1,hM.below h,h⟩
theorem keepQ{a:World}{c:Array Value}(h:w.heap[S]?=OC c t)(hm:aQ S R M B a w):(∀j,w.cell? ⟨S,j,none⟩=c[j]?)/\aQ S R M B a w:=⟨(ab h).1,hm⟩
theorem cj{c:Array Value}{k:TypeId}(hb:w.heap[g]?=OC c t)(hm:aP w P k q M n f)(hg:w.grownBy w' (some M)):w'.heap[g]?=OC c t:=(hg.block g rH (λh=>hm.not_cells hb (by cases h;rfl))).trans hb
theorem tx{k kq:IntKind}{ky:TypeId}(h:bd w A k zs)(hm:aP w P ky kq M n f)(hg:w.grownBy w' (some M)):bd w' A k zs:=by
 intro i hi;obtain⟨b,o,hA,hlt,hc⟩:=h i hi;have hne:some b≠some M:=by intro q;simp only[Xd4.injEq]at q;subst q;obtain⟨D,⟨es,clock,h1,_⟩,_⟩:=hm.own;simp[World.cell?,h1]at hc
 refine⟨b,o,hA,Nat.lt_of_lt_of_le hlt hg.size,?_⟩;rw[←hc];simp only[World.cell?,hg.block b hlt hne]
theorem Be{a:Nat}{rg:List RE}(hr:w.heap[R]?=OC (dG rg).toArray t)(ha:a<rg.length)(q:Int)(v:Value) :
  ((w.setCell ⟨R,a*2,none⟩ (JS q)).setCell ⟨R,a*2+1,none⟩ v).heap[R]?=OC (dG (rg.set a ⟨q,v⟩)).toArray t:=by
 have h1:=av (a*2+1) v (av (a*2) (JS q) hr);rw[h1,←DW rg a ha];simp
set_option maxRecDepth 100000 in
theorem B8(w:World)(S R M B n m a c:Nat)(f:Int->Option Value)(rg:List RE)(hs:w.heap[S]?=OC #[.slice (aT R) n n,JI (a:Int),JI (c:Int),.map (some M)] 243)(hr:w.heap[R]?=OC (dG rg).toArray 430)(hrl:rg.length=n)(hM:aP w prog 51 .u16 M m f)(bS:B<=S)(bR:B<=R)(bM:B<=M)(bw:B<=w.heap.size)(hn:1<=n)(hn1:n<=4096)(ha:a<n)(hc:c<=n)(q:Int)(qz:0<=q)(qo:q<=65535)(q0:Int)(A0:Option Addr)(n0 c0:Nat)(hre:rg[a]?=some ⟨q0,.slice A0 n0 c0⟩)(hq0:0<=q0)(hq1:q0<=65535)(A:Option Addr)(cap:Nat)(zs:List Int)(hl:zs.length<=1000000)(hA:bd w A .u8 zs)(hm:m<=1000000)(a':Nat)(ha':((a:Int)+1) % (n:Int)=a')(j:Int)(is:Bool)(h1:(f q0).getD (JI 0)=JI j)(h2:(f q0).isSome=is)(c':Nat)(hc':min ((c:Int)+1) (n:Int)=c')(hor:c≠n\/is=false\/j≠(a:Int)) :
  az 272 #[OV S,JS q,.slice A zs.length cap] w λe w'=>∃g2:Nat,e=aA (.tuple #[])/\w'.heap[S]?=OC #[.slice (aT R) n n,JI (a':Int),JI (c':Int),.map (some M)] 243/\w'.heap[R]?=OC (dG (rg.set a ⟨q,.slice (aT g2) zs.length zs.length⟩)).toArray 430/\w'.heap[g2]?=OC (zs.map (Xc0 .u8)).toArray 5/\w.heap.size<=g2/\aP w' prog 51 .u16 M (m+1) (λz=>if z=q then some (JI (a:Int)) else f z)/\aQ S R M B w w':=by
 refine zq36;case rest=>
  refine zq27;case rest=>
   refine ZB;refine iI;go_cut [6,51] from 31 to 107 (λs6 s51 wx=>s6=OV g/\s51=.bool false/\aC u2 wx);case first=>
    rcases hor with h3|h3|h3
    .refine Lo
     exact Q0
    .subst h3
     by_cases hcn:c=n
     .subst hcn
      exact Q0
     .refine Lo
      exact Q0
    .have hjb:(j==(a:Int))=false:=beq_eq_false_iff_ne.2 h3
     by_cases hcn:c=n
     .subst hcn
      exact Zi
     .refine Lo
      exact Zi
   case rest=>
    refine Zy;refine gq;go_cut [6] from 7 to 107 (λs6 wx=>∃g2:Nat,s6=OV g/\wx.heap[S]?=OC #[.slice (aT R) n n,JI (a:Int),JI (c:Int),.map (some M)] 243/\wx.heap[R]?=OC (dG (rg.set a ⟨q,.slice (aT g2) zs.length zs.length⟩)).toArray 430/\wx.heap[g2]?=OC (zs.map (Xc0 .u8)).toArray 5/\w.heap.size<=g2/\aP wx prog 51 .u16 M m f/\aQ S R M B w wx);case first=>
     go_region_held3 (λw'=>(∀j,w'.cell? ⟨S,j,none⟩=#[.slice (aT R) n n,JI (a:Int),JI (c:Int),.map (some M)][j]?)/\aQ S R M B w w') ((exact keepQ qx7 Sm)) (first|(go_at_call 238;go_split_ands;(with_reducible refine(OD _ A cap zs hl (HA.out.below rfl QZ)).mono ?_);rintro e w2 ⟨g2,rfl,hg2,zg2,hb⟩;replace zg2:u3.heap.size<=g2:=zg2;have hB5:=aE (w:=u3) QZ hb;have z5:=hB5.size;have hs5:=aZ hB5 zS hs;have hr5:=aZ hB5 zR hr;have hM5:=hM.below hB5;have hMv5:=hMv.call hB5 yS;obtain⟨d05,d15⟩:=lB hr5 hal;rw[e4]at d05 d15;have fR5:=(ab hr5).2.1;have zR5:=aB hr5))
     all_goals(go_wp2_with fail;go_meet;go_split_ands;exact⟨_,rfl,vQ,Be hr5 hal _ _,vQ,Ud,((hM5.set (hM5.not_cells hr5) _).set (hM5.not_cells hr5) _),Sm⟩)
    case rest=>
     obtain⟨g2,rfl,hsn,hrn,hq,gz2,hMn,hMvn⟩:=hcut;obtain⟨u4,hwc⟩:∃wq,wq=wc:=⟨_,rfl⟩
     refine Vq;go_cut [6] from 7 to 107 (λs6 wx=>s6=OV g/\wx.heap[S]?=OC #[.slice (aT R) n n,JI (a:Int),JI (c:Int),.map (some M)] 243/\wx.heap[R]?=OC (dG (rg.set a ⟨q,.slice (aT g2) zs.length zs.length⟩)).toArray 430/\wx.heap[g2]?=OC (zs.map (Xc0 .u8)).toArray 5/\aP wx prog 51 .u16 M (m+1) (λz=>if z=q then some (JI (a:Int)) else f z)/\aQ S R M B w wx);case first=>
      go_still_tail 9,kM;go_wp2_with (at_mapUpdate;refine fe _ rfl (.tmp 74) (.tmp 75) (.tmp 79) 241 rfl 51 3 .u16 underlying51 underlying241 M m f rfl hM.drew lM q _ rfl rfl hxq ?_;intro w6 hM6 hg6)
      all_goals(go_meet;go_split_ands;exact⟨rfl,(cj (w:=u4.drew) hs hM.drew hg6),(cj (w:=u4.drew) hr hM.drew hg6),(cj (w:=u4.drew) hq hM.drew hg6),hM6,(pP (w:=u4.drew) hMv.drew hM.drew hg6 bM yS)⟩)
     case rest=>
      refine Fv;obtain⟨u5,hwc⟩:∃wq,wq=wc:=⟨_,rfl⟩
      refine LE;have pn:(0:Int)<(n:Int):=oM;have hrem:=HA'.out;refine mA;go_cut [6] from 7 to 107 (λs6 wx=>s6=OV g/\wx.heap[S]?=OC #[.slice (aT R) n n,JI (a':Int),JI (c:Int),.map (some M)] 243/\wx.heap[R]?=OC (dG (rg.set a ⟨q,.slice (aT g2) zs.length zs.length⟩)).toArray 430/\wx.heap[g2]?=OC (zs.map (Xc0 .u8)).toArray 5/\aP wx prog 51 .u16 M (m+1) (λz=>if z=q then some (JI (a:Int)) else f z)/\aQ S R M B w wx);case first=>have cSd:∀j,u5.drew.cell? ⟨S,j,none⟩=_:=cS;have fSd:∀j,u5.drew.frozen? ⟨S,j,none⟩=false:=fS;have zSd:S<u5.drew.heap.size:=zS;exact Xf
      case rest=>
       refine Fv;obtain⟨u6,hwc⟩:∃wq,wq=wc:=⟨_,rfl⟩
       refine LE;refine jo;rcases Xd0 c n with hcl|hcl
       .obtain rfl:c'=c+1:=oM
        refine MV;exact zq66
       .obtain rfl:c'=n:=oM
        refine MV;exact zq66
set_option maxRecDepth 100000 in
theorem TZ(w:World)(S R M B n m a c:Nat)(f:Int->Option Value)(rg:List RE)(hs:w.heap[S]?=OC #[.slice (aT R) n n,JI (a:Int),JI (c:Int),.map (some M)] 243)(hr:w.heap[R]?=OC (dG rg).toArray 430)(hrl:rg.length=n)(hM:aP w prog 51 .u16 M m f)(bS:B<=S)(bR:B<=R)(bM:B<=M)(bw:B<=w.heap.size)(hn:1<=n)(hn1:n<=4096)(ha:a<n)(hc:c<=n)(q:Int)(qz:0<=q)(qo:q<=65535)(q0:Int)(A0:Option Addr)(n0 c0:Nat)(hre:rg[a]?=some ⟨q0,.slice A0 n0 c0⟩)(hq0:0<=q0)(hq1:q0<=65535)(A:Option Addr)(cap:Nat)(zs:List Int)(hl:zs.length<=1000000)(hA:bd w A .u8 zs)(hm:m<=1000000)(a':Nat)(ha':((a:Int)+1) % (n:Int)=a')(j:Int)(is:Bool)(h1:(f q0).getD (JI 0)=JI j)(h2:(f q0).isSome=is)(c':Nat)(hc':min ((c:Int)+1) (n:Int)=c')(HH3:Hid (c=n))(HH4:Hid (is=true))(HH5:Hid (j=(a:Int))) :
  az 272 #[OV S,JS q,.slice A zs.length cap] w λe w'=>∃g2:Nat,e=aA (.tuple #[])/\w'.heap[S]?=OC #[.slice (aT R) n n,JI (a':Int),JI (c':Int),.map (some M)] 243/\w'.heap[R]?=OC (dG (rg.set a ⟨q,.slice (aT g2) zs.length zs.length⟩)).toArray 430/\w'.heap[g2]?=OC (zs.map (Xc0 .u8)).toArray 5/\w.heap.size<=g2/\aP w' prog 51 .u16 M (m+1) (λz=>if z=q then some (JI (a:Int)) else(λz=>if z=q0 then none else f z) z)/\aQ S R M B w w':=by
 refine zq36;case rest=>
  refine zq27;case rest=>
   refine ZB;refine iI;go_cut [6,51] from 31 to 107 (λs6 s51 wx=>s6=OV g/\s51=.bool true/\aC u2 wx);case first=>have h3:=HH3.out;have h4:=HH4.out;have h5:=HH5.out;subst h3;subst h4;subst h5;have hcb:((c:Int)==(c:Int))=true:=beq_self_eq_true _;exact Q0
   case rest=>
    refine Zy;have hMS:=hM.not_cells hs;have hMR:=hM.not_cells hr;refine i9;go_cut [6] from 7 to 107 (λs6 wx=>s6=OV g/\wx.heap[S]?=OC #[.slice (aT R) n n,JI (a:Int),JI (c:Int),.map (some M)] 243/\wx.heap[R]?=OC (dG rg).toArray 430/\aP wx prog 51 .u16 M m (λz=>if z=q0 then none else f z)/\aQ S R M B w wx/\Hid (bd wx A .u8 zs)/\wx.heap[g]?=OC #[JS q0,.slice A0 n0 c0] 430);case first=>
     go_still_tail 6,kM;go_wp2_with (at_delete;refine jr _ rfl (.tmp 55) (.tmp 57) 241 51 rfl 3 .u16 underlying51 underlying241 M m f rfl hM.drew q0 rfl hxw ?_;intro w6 hM6 hg6)
     all_goals(go_meet;go_split_ands;exact⟨rfl,(cj (w:=u3.drew) hs hM.drew hg6),(cj (w:=u3.drew) hr hM.drew hg6),hM6,(pP (w:=u3.drew) hMv.drew hM.drew hg6 bM yS),OH (tx (w:=u3.drew) HA.out hM.drew hg6),(cj (w:=u3.drew) hg hM.drew hg6)⟩)
    case rest=>
     obtain⟨rfl,hsn,hrn,hMn,hMvn,HAn,hgn⟩:=hcut;obtain⟨u4,hwc⟩:∃wq,wq=wc:=⟨_,rfl⟩
     subst hwc;have hs:=hsn;have hr:=hrn;have hM:=hMn;have hMv:=hMvn;have HA:=HAn;have hg:=hgn;refine vb;obtain⟨cG,fG,zG⟩:=ab hg;have zR:=aB hr;have yB:=hMv.size;refine gq;go_cut [6] from 7 to 107 (λs6 wx=>∃g2:Nat,s6=OV g/\wx.heap[S]?=OC #[.slice (aT R) n n,JI (a:Int),JI (c:Int),.map (some M)] 243/\wx.heap[R]?=OC (dG (rg.set a ⟨q,.slice (aT g2) zs.length zs.length⟩)).toArray 430/\wx.heap[g2]?=OC (zs.map (Xc0 .u8)).toArray 5/\w.heap.size<=g2/\aP wx prog 51 .u16 M m (λz=>if z=q0 then none else f z)/\aQ S R M B w wx);case first=>
      go_region_held3 (λw'=>(∀j,w'.cell? ⟨S,j,none⟩=#[.slice (aT R) n n,JI (a:Int),JI (c:Int),.map (some M)][j]?)/\aQ S R M B w w') ((exact keepQ qx7 Sm)) (first|(go_at_call 238;go_split_ands;(with_reducible refine(OD _ A cap zs hl (HA.out.below rfl QZ)).mono ?_);rintro e w2 ⟨g2,rfl,hg2,zg2,hb⟩;replace zg2:u4.heap.size<=g2:=zg2;have hB5:=aE (w:=u4) QZ hb;have z5:=hB5.size;have hs5:=aZ hB5 zS hs;have hr5:=aZ hB5 zR hr;have hM5:=hM.below hB5;have hMv5:=hMv.call hB5 yS;obtain⟨d05,d15⟩:=lB hr5 hal;rw[e4]at d05 d15;have fR5:=(ab hr5).2.1;have zR5:=aB hr5))
      all_goals(go_wp2_with fail;go_meet;go_split_ands;exact⟨_,rfl,vQ,Be hr5 hal _ _,vQ,Ud,((hM5.set (hM5.not_cells hr5) _).set (hM5.not_cells hr5) _),Sm⟩)
     case rest=>
      obtain⟨g2,rfl,hsn,hrn,hq,gz2,hMn,hMvn⟩:=hcut;obtain⟨u5,hwc⟩:∃wq,wq=wc:=⟨_,rfl⟩
      refine Vq;go_cut [6] from 7 to 107 (λs6 wx=>s6=OV g/\wx.heap[S]?=OC #[.slice (aT R) n n,JI (a:Int),JI (c:Int),.map (some M)] 243/\wx.heap[R]?=OC (dG (rg.set a ⟨q,.slice (aT g2) zs.length zs.length⟩)).toArray 430/\wx.heap[g2]?=OC (zs.map (Xc0 .u8)).toArray 5/\aP wx prog 51 .u16 M (m+1) (λz=>if z=q then some (JI (a:Int)) else(λz=>if z=q0 then none else f z) z)/\aQ S R M B w wx);case first=>
       go_still_tail 9,kM;go_wp2_with (at_mapUpdate;refine fe _ rfl (.tmp 74) (.tmp 75) (.tmp 79) 241 rfl 51 3 .u16 underlying51 underlying241 M m (λz=>if z=q0 then none else f z) rfl hM.drew lM q _ rfl rfl hxq ?_;intro w6 hM6 hg6)
       all_goals(go_meet;go_split_ands;exact⟨rfl,(cj (w:=u5.drew) hs hM.drew hg6),(cj (w:=u5.drew) hr hM.drew hg6),(cj (w:=u5.drew) hq hM.drew hg6),hM6,(pP (w:=u5.drew) hMv.drew hM.drew hg6 bM yS)⟩)
      case rest=>
       refine Fv;obtain⟨u6,hwc⟩:∃wq,wq=wc:=⟨_,rfl⟩
       refine LE;have pn:(0:Int)<(n:Int):=oM;have hrem:=HA'.out;refine mA;go_cut [6] from 7 to 107 (λs6 wx=>s6=OV g/\wx.heap[S]?=OC #[.slice (aT R) n n,JI (a':Int),JI (c:Int),.map (some M)] 243/\wx.heap[R]?=OC (dG (rg.set a ⟨q,.slice (aT g2) zs.length zs.length⟩)).toArray 430/\wx.heap[g2]?=OC (zs.map (Xc0 .u8)).toArray 5/\aP wx prog 51 .u16 M (m+1) (λz=>if z=q then some (JI (a:Int)) else(λz=>if z=q0 then none else f z) z)/\aQ S R M B w wx);case first=>refine MV;exact Xf
       case rest=>
        refine Fv;obtain⟨u7,hwc⟩:∃wq,wq=wc:=⟨_,rfl⟩
        refine LE;refine jo;rcases Xd0 c n with hcl|hcl
        .obtain rfl:c'=c+1:=oM
         exact YB
        .obtain rfl:c'=n:=oM
         exact YB
end St
namespace St
theorem Jm{E t:Nat}{K:List Pk}{rg:List RE}(h:dk w S R M B E n t m K rg)(hn:1<=n){q:Int}{g2:Nat}(hMv:aQ S R M B w w')(hq:w'.heap[g2]?=OC (zs.map (Xc0 .u8)).toArray 5)(gz2:w.heap.size<=g2) :
  ∀j (hj:j<(iz n K (q,zs)).length),∃re,(rg.set (t % n) ⟨q,.slice (aT g2) zs.length zs.length⟩)[(t+1- (iz n K (q,zs)).length+j) % n]?=some re/\re.q=(iz n K (q,zs))[j].1/\iE w' E re.v (iz n K (q,zs))[j].2:=by
 have hkl:=h.kl;have hrl:=h.rl;have hew:=h.ew;have hkeep:∀ {v:Value} {ys:List Int},iE w E v ys->iE w' E v ys:=λhb=>hb.kept (λg c _ hg=>hMv.other g _ hg (λe=>by subst e;have:=h.s;rw[hg]at this;simp at this) (λe=>by subst e;have:=h.r;rw[hg]at this;simp at this) (λe=>h.map.not_cells hg e.symm))
 have hnew:iE w' E (.slice (aT g2) zs.length zs.length) zs:=⟨g2,rfl,oM,hq⟩
 have ha:t % n<n:=Xc7 _ oM;have hset:∀i,i<n->(rg.set (t % n) ⟨q,.slice (aT g2) zs.length zs.length⟩)[i]?=if t % n=i then some ⟨q,.slice (aT g2) zs.length zs.length⟩ else rg[i]?:=by
  intro i hi;rw[Xb5];by_cases e:t % n=i
  .rw[if_pos e,if_pos e,if_pos oM]
  .rw[if_neg e,if_neg e]
 intro j hj;rw[hset _ (Xc7 _ oM)];by_cases hc:K.length=n
 .have e:iz n K (q,zs)=K.tail++ [(q,zs)]:=by unfold iz;rw[if_pos hc]
  have hl:(iz n K (q,zs)).length=n:=by rw[e,Xa0,Xa2,Xb2];omega
  have hjn:j<n:=oM;rw[hl];by_cases hj2:j=n-1
  .rw[show t+1-n+j=t by omega,if_pos rfl]
   refine⟨_,rfl,?_⟩;have e2:(iz n K (q,zs))[j]?=some (q,zs):=by rw[e,Xa7 (by rw[Xa2];omega),Xa2,show j- (K.length-1)=0 by omega];rfl
   exact Xq
  .obtain⟨re,h1,h2,h3⟩:=h.ent (j+1) oM
   have hne:¬t % n=(t+1-n+j) % n:=by
    intro q2;have:=xj (n:=n) (b:=t-n) (i:=n) (j:=j+1+0);have h4:(t-n+0) % n=(t-n+(j+1)) % n:=by rw[show t-n+(j+1)=t+1-n+j by omega,←q2,Xc5];conv=>rhs;rw[show t=t-n+n by omega,Xc8]
    have:=xj (b:=t-n) (i:=0) (j:=j+1) oM oM h4;omega
   rw[if_neg hne];have e2:(iz n K (q,zs))[j]?=K[j+1]?:=by rw[e,Xa9 (by rw[Xa2];omega),List.getElem?_tail]
   rw[Xa1 hj,Xa1 (show j+1<K.length by omega)]at e2;simp only[Xd4.injEq]at e2;rw[show(t+1-n+j)=t-K.length+(j+1) by omega];rw[e2];exact⟨re,h1,h2,hkeep h3⟩
 .have hlt:K.length<n:=oM
  have ht:t=K.length:=oM;have e:iz n K (q,zs)=K++ [(q,zs)]:=by unfold iz;rw[if_neg hc]
  have hl:(iz n K (q,zs)).length=K.length+1:=by rw[e,Xa0,Xb2]
  rw[hl,show t+1- (K.length+1)+j=j by omega];have hjl:j<K.length+1:=oM;rw[Xc4 (show j<n by omega),Xc4 (show t<n by omega)];by_cases hj2:j=K.length
  .rw[if_pos oM]
   refine⟨_,rfl,?_⟩;have e2:(iz n K (q,zs))[j]?=some (q,zs):=by rw[e,Xa7 oM,show j-K.length=0 by omega];rfl
   exact Xq
  .obtain⟨re,h1,h2,h3⟩:=h.ent j oM
   rw[show t-K.length+j=j by omega,Xc4 oM]at h1;rw[if_neg oM];have e2:(iz n K (q,zs))[j]?=K[j]?:=by rw[e,Xa9 oM]
   rw[Xa1 hj,Xa1 (show j<K.length by omega)]at e2;simp only[Xd4.injEq]at e2;rw[e2];exact⟨re,h1,h2,hkeep h3⟩
theorem add_t(w:World)(S R M B E n t m:Nat)(K:List Pk)(rg:List RE)(h:dk w S R M B E n t m K rg)(hn:1<=n)(hn1:n<=4096)(q:Int)(q0:0<=q)(q1:q<=65535)(A:Option Addr)(cap:Nat)(zs:List Int)(hl:zs.length<=1000000)(hA:bd w A .u8 zs)(hm:m<=1000000) :
  az 272 #[OV S,JS q,.slice A zs.length cap] w λe w'=>e=aA (.tuple #[])/\(∃rg',dk w' S R M B E n (t+1) (m+1) (iz n K (q,zs)) rg')/\aQ S R M B w w':=by
 have ha:t % n<n:=Xc7 _ oM;have hc:K.length<=n:=by have:=h.kl;omega
 have hal:t % n<rg.length:=by rw[h.rl];exact ha
 obtain⟨e0,e1,A0,n0,c0,e2⟩:=h.rw _ (Xb7 hal);obtain⟨⟨p,v⟩,he⟩:∃re,rg[t % n]=re:=⟨_,rfl⟩
 rw[he]at e0 e1 e2;dsimp only at e0 e1 e2;subst e2;have hre:rg[t % n]?=some ⟨p,.slice A0 n0 c0⟩:=by rw[Xa1 hal,he]
 have hmod:((t % n:Nat):Int)+1=((t % n+1:Nat):Int):=by push_cast;rfl
 have ha':(((t % n:Nat):Int)+1) % (n:Int)=(((t+1) % n:Nat):Int):=by rw[hmod,←Int.natCast_emod,Nat.mod_add_mod]
 have hc':min ((K.length:Int)+1) (n:Int)=(((iz n K (q,zs)).length:Nat):Int):=by rw[qO h.kl hn];have:=h.kl;omega
 have fin:∀ (w':World) (g2:Nat) (f':Int->Option Value),w'.heap[S]?=OC #[.slice (aT R) n n,JI (((t+1) % n:Nat):Int),JI (((iz n K (q,zs)).length:Nat):Int),.map (some M)] 243 ->
   w'.heap[R]?=OC (dG (rg.set (t % n) ⟨q,.slice (aT g2) zs.length zs.length⟩)).toArray 430->w'.heap[g2]?=OC (zs.map (Xc0 .u8)).toArray 5->w.heap.size<=g2->aP w' prog 51 .u16 M (m+1) f'->aQ S R M B w w' ->
   (∀y,f' y=gW n (t+1) (iz n K (q,zs)) y)->(∃rg',dk w' S R M B E n (t+1) (m+1) (iz n K (q,zs)) rg')/\aQ S R M B w w':=by
  intro w' g2 f' h1 h2 h3 h4 h5 h6 h7;refine⟨⟨_,h1,h2,by rw[Xa6];exact h.rl,?_,h5.congr h7,qO h.kl hn,Jm h hn h6 h3 h4,h.bS,h.bR,h.bM,Xd1 h.bw h6.size,Xd1 h.ew h6.size⟩,h6⟩;intro x hx;rcases Xa8 hx with hx|rfl
  .exact h.rw x hx
  .exact⟨q0,q1,_,_,_,rfl⟩
 by_cases hcn:K.length=n
 .match K,h,hc,hcn,hc',fin with
  | [],_,_,hcn,_,_=>
   simp at hcn;omega
  |k0::K',h,hc,hcn,hc',fin=>
   have hcn':K'.length+1=n:=by simpa using hcn
   have htn:n<=t:=by have:=h.kl;omega
   obtain⟨re,g1,g3,_⟩:=h.ent 0 sM;have hp0:(t- (k0::K').length+0) % n=t % n:=by rw[hcn,Xc5];conv=>rhs;rw[show t=t-n+n by omega,Xc8]
   rw[hp0,hre]at g1;simp only[Xd4.injEq]at g1;rw[←g1]at g3;simp only[List.getElem_cons_zero]at g3;have hlast:fj (k0::K') p=match fj K' p with|some j=>some (j+1)|none=>some 0:=by rw[fj];cases fj K' p<;>simp[g3]
   cases hq:fj K' p with
   |none=>
    rw[hq]at hlast;have hpos:gW n t (k0::K') p=some (JI ((t % n:Nat):Int)):=by unfold gW;rw[hlast];simp only[Option.map_some];rw[hp0]
    refine(TZ w S R M B n m (t % n) (k0::K').length _ rg h.s h.r h.rl h.map h.bS h.bR h.bM h.bw hn hn1 ha hc q q0 q1 p A0 n0 c0 hre e0 e1 A cap zs hl hA hm ((t+1) % n) ha' _ true Ei Ei _ hc' (OH hcn) (OH rfl) (OH rfl)).mono ?_;refine YJ
    .rw[if_neg hy,if_neg hy,g3]
     exact DL hcn' htn (by rw[←g3];exact hq) y
   |some j=>
    rw[hq]at hlast;have hpos:gW n t (k0::K') p=some (JI (((t- (k0::K').length+(j+1)) % n:Nat):Int)):=by unfold gW;rw[hlast];rfl
    obtain⟨hjl,_⟩:=Bx hq;refine(B8 w S R M B n m (t % n) (k0::K').length _ rg h.s h.r h.rl h.map h.bS h.bR h.bM h.bw hn hn1 ha hc q q0 q1 p A0 n0 c0 hre e0 e1 A cap zs hl hA hm ((t+1) % n) ha' _ true Ei Ei _ hc' (.inr (.inr ?_))).mono ?_
    .intro he2
     have he3:(t- (k0::K').length+(j+1)) % n=t % n:=by exact_mod_cast he2
     rw[←hp0]at he3;have:=xj oM oM he3;omega
    refine YJ
    .rw[if_neg hy,if_neg hy,(DK hcn' htn (by rw[←g3,hq];simp) y).1]
 .have hlt:K.length<n:=oM
  obtain⟨j,hj⟩:∃j,(gW n t K p).getD (JI 0)=JI j:=by
   unfold gW;cases fj K p with
   |none=>
    exact⟨_,rfl⟩
   |some i=>exact⟨_,rfl⟩
  refine(B8 w S R M B n m (t % n) K.length _ rg h.s h.r h.rl h.map h.bS h.bR h.bM h.bw hn hn1 ha hc q q0 q1 p A0 n0 c0 hre e0 e1 A cap zs hl hA hm ((t+1) % n) ha' j _ hj rfl _ hc' (.inl hcn)).mono ?_;rintro e w' ⟨g2,h1,h2,h3,h4,h5,h6,h7⟩;exact⟨h1,fin w' g2 _ h2 h3 h4 h5 h6 h7 (λy=>IR (p:=(q,zs)) h.kl hlt y)⟩
end St
namespace Mu
@[ext] structure Nu where
 seq:Int
 time:Int
 pic:Int
 tl0:Int
deriving DecidableEq
@[ext] structure St where
 on:Bool
 high:Int
 since:Int
 off:Nu
 out:Nu
deriving DecidableEq
def nu0:Nu:=⟨0,0,0,0⟩
def st0:St:=⟨false,0,0,nu0,nu0⟩
structure Nu.Ok(n:Nu):Prop where
 s0:0<=n.seq
 s1:n.seq<=65535
 t0:0<=n.time
 t1:n.time<=4294967295
 p0:0<=n.pic
 p1:n.pic<=65535
 l0:0<=n.tl0
 l1:n.tl0<=255
structure St.Ok(s:St)(B:Int):Prop where
 h0: -B<=s.high
 h1:s.high<=B
 off:s.off.Ok
 out:s.out.Ok
def jc(n i:Nu):Nu:=⟨(i.seq-n.seq) % 65536,(i.time-n.time) % 4294967296,(i.pic-n.pic) % 65536,(i.tl0-n.tl0) % 256⟩
def oY(n:Nu)(step:Int):Nu:=⟨(n.seq+1) % 65536,(n.time+step) % 4294967296,(n.pic+1) % 65536,(n.tl0+1) % 256⟩
def sK(s:St)(i:Nu)(step:Int):Nu:=if s.on then oY s.out step else i
def wP(s:St)(i:Nu)(step:Int):St:=⟨true,i.seq,i.seq,jc (sK s i step) i,sK s i step⟩
def mI(s:St)(i:Nu):Int:=bC s.high i.seq
def oZ(s:St)(i:Nu):Bool:=s.on&&!(decide (mI s i<=s.high)&&decide (mI s i<=s.since))
def om(s:St)(i:Nu):Bool:=decide (s.high<mI s i)
def vH(s:St)(i:Nu):Int:=if 0<lZ (jc s.off i).time s.out.time then s.out.time else(jc s.off i).time
def CT(s:St)(i:Nu):Nu:=if om s i then⟨(jc s.off i).seq,vH s i,(jc s.off i).pic,(jc s.off i).tl0⟩ else jc s.off i
def ef(s:St)(i:Nu):St×Nu×Bool:=
 if oZ s i then
  (if om s i then(⟨s.on,mI s i,s.since,s.off,CT s i⟩,CT s i,true) else(s,CT s i,true))
 else(s,nu0,false)
def o6(n:Nu)(begin_:Bool):Nu:=⟨(n.seq+1) % 65536,n.time,if begin_ then(n.pic+1) % 65536 else n.pic,n.tl0⟩
def gU(s:St)(i:Nu)(begin_:Bool):St:=if s.on&&om s i then⟨s.on,mI s i,mI s i,o6 s.off begin_,s.out⟩ else s
theorem ok0:nu0.Ok:=⟨dM,dM,dM,dM,dM,dM,dM,dM⟩
theorem st0_ok(B:Int)(h:0<=B):st0.Ok B:=⟨by show -B<=0;omega,h,ok0,ok0⟩
theorem BJ(n i:Nu):(jc n i).Ok:=by constructor<;>simp only[jc]<;>omega
theorem OR(n:Nu)(t:Int):(oY n t).Ok:=by constructor<;>simp only[oY]<;>omega
theorem NI{s:St}{i:Nu}{t:Int}(hi:i.Ok):(sK s i t).Ok:=by unfold sK;split;exact OR _ _;exact hi
theorem switchF_ok{s:St}{i:Nu}{t B:Int}(hi:i.Ok)(hB:65535<=B):(wP s i t).Ok B:=by have:=hi.s0;have:=hi.s1;exact⟨by simp only[wP];omega,by simp only[wP];omega,BJ _ _,NI hi⟩
theorem SD{s:St}{i:Nu}(h:s.out.Ok):(CT s i).Ok:=by
 have hf:=BJ s.off i;unfold CT;split
 .refine⟨hf.s0,hf.s1,?_,?_,hf.p0,hf.p1,hf.l0,hf.l1⟩
  .show 0<=vH s i
   unfold vH;split;exact h.t0;exact hf.t0
  .show vH s i<=4294967295
   unfold vH;split;exact h.t1;exact hf.t1
 .exact hf
theorem xI(s:St)(i:Nu):s.high-32768<=mI s i/\mI s i<=s.high+32767:=pN _ _
theorem sendF_ok{s:St}{i:Nu}{B:Int}(h:s.Ok B):(ef s i).1.Ok (B+65536):=by
 have hb:=xI s i;obtain⟨h0,h1,h2,h3⟩:=h;unfold ef;split
 .split
  .exact⟨mc,mc,h2,SD h3⟩
  .exact⟨mc,mc,h2,h3⟩
 .exact⟨mc,mc,h2,h3⟩
theorem DP{n:Nu}{b:Bool}(h:n.Ok):(o6 n b).Ok:=by obtain⟨h1,h2,h3,h4,h5,h6,h7,h8⟩:=h;constructor<;>simp only[o6]<;>(try split)<;>omega
theorem dropF_ok{s:St}{i:Nu}{b:Bool}{B:Int}(h:s.Ok B):(gU s i b).Ok (B+65536):=by
 have hb:=xI s i;obtain⟨h0,h1,h2,h3⟩:=h;unfold gU;split
 .exact⟨mc,mc,DP h2,h3⟩
 .exact⟨oM,oM,h2,h3⟩
structure Row(s:St)(z want:Int):Prop where
 on:s.on=true
 high:s.high=z
 off:(z-s.off.seq- (want-1)) % 65536=0
 out:(s.out.seq- (want-1)) % 65536=0
theorem Row.wrap{s:St}{z want w':Int}(h:Row s z want)(hw:(w'-want) % 65536=0):Row s z w':=
 ⟨h.on,h.high,by have:=h.off;omega,by have:=h.out;omega⟩
structure Ed(s:St)(f D:Int)(Z T:List Int)(k:Nat):Prop where
 on:s.on=true
 off:(s.off.seq-D) % 65536=0
 D0:0<=D
 D1:D<=k
 lo:f<=s.high
 hi:s.high<=f+128*k
 sh:s.since<=s.high
 zs:∀z∈Z,f-128*k<=z/\z<=f+128*k
 ts:∀t∈T,f-129*k<=t/\t<=f+128*k
 told:∀t∈T,t<=s.since-D\/(t+D∈Z/\s.since<t+D)
theorem Ed.more{s:St}{f D:Int}{Z T:List Int}(h:Ed s f D Z T k):Ed s f D Z T (k+1):=by
 refine⟨h.on,h.off,h.D0,by have:=h.D1;omega,h.lo,by have:=h.hi;omega,h.sh,λz hz=>?_,λt ht=>?_,h.told⟩
 .have:=h.zs z hz
  omega
 .have:=h.ts t ht
  omega
end Mu
end Go.Proofs.YtnpancjkjheffaaGreat
