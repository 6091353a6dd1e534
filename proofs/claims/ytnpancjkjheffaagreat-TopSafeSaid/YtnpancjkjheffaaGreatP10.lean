/- Part 12 of the proof of TopSafe. No condition. -/
import Derived.Test.YtnpancjkjheffaaGreatP09
namespace Go.Proofs.YtnpancjkjheffaaGreat
set_option linter.unusedVariables false
set_option linter.unusedSimpArgs false
set_option maxRecDepth 100000
set_option maxHeartbeats 8000000
open Go.RowKit
open Go.Proofs.Tryz
open _root_.Nat renaming le_trans->PI,and_le_right->Xa0,le_refl->Xa1
open Value renaming int->Xa2,slice->Xa3
open World renaming ownsRow_nil->Xa4,setCell->Xa5
open _root_.Bool renaming eq_iff_iff->Xa6
variable {e e' err tl x:Int}{xs zs zs':List Int}{m:Ms}{B B' b1 b10 b6 b8 c cap g k n:Nat}{S:Nat->Prop}{A:Option Addr}{P:Program}{t:TypeId}{w w' w0:World}
def MsSh(m:Ms):Prop:=∃k s md c t p b A1 n1 c1 A2 n2 c2 A3 n3 c3 A4 n4 c4 ty,m=⟨k,s,md,c,t,p,b,.slice A1 n1 c1,.slice A2 n2 c2,.slice A3 n3 c3,.slice A4 n4 c4,ty⟩
theorem lL.mono(h:lL w B m)(hB:B'<=B):lL w B' m:=by obtain⟨a,d1,d2,⟨ps,b1,b2⟩,⟨l,c1,c2⟩⟩:=h;exact⟨a,d1,d2,⟨ps,aW b1 hB,b2⟩,⟨l,aW c1 hB,c2⟩⟩
theorem lL.chg(h:lL w B m)(hc:ag S w w')(h1:gk S 209 w)(h2:gk S 284 w):lL w' B m:=by obtain⟨a,d1,d2,⟨ps,b1,b2⟩,⟨l,c1,c2⟩⟩:=h;exact⟨a,d1,d2,⟨ps,ah b1 hc h1,b2⟩,⟨l,ah c1 hc h2,c2⟩⟩
def MsE(w:World)(B:Nat)(m:Ms)(err:Int):Prop:=err=0->lL w B m/\0<=m.kind/\m.kind<=6
theorem MsE.chg(h:MsE w B m err)(hc:ag S w w')(h1:gk S 209 w)(h2:gk S 284 w):MsE w' B m err:=λq=>⟨(h q).1.chg hc h1 h2,(h q).2⟩
theorem MsE.mono(h:MsE w B m err)(hB:B'<=B):MsE w B' m err:=λq=>⟨(h q).1.mono hB,(h q).2⟩
theorem eg_rd(k:Nat)(hk:k=209\/(212<=k/\k<=217)):∀args w,(callFunc k args).run prog w=.ok (.enter k args) w:=by have:k=209\/k=212\/k=213\/k=214\/k=215\/k=216\/k=217:=oM;rcases this with rfl|rfl|rfl|rfl|rfl|rfl|rfl<;>exact λargs w=>rfl
def RdB(w:World)(n:Nat)(zs:List Int)(t:Int)(s:Value)(wx:World):Prop:=∃ (V R c kd:Nat),s=OV V/\kd<=6/\Rd wx V c R n (gE kd) zs 0/\wx.heap[w.heap.size]?=OC #[JW t] 5/\wx.heap[w.heap.size+1]?=OC (kO (gE 0)) 113/\ag af w wx/\w.heap.size<=c/\w.heap.size<=R
theorem read_t{t:Int}(hn:n<=31)(h:BR w B (.slice A zs.length cap) zs)(hb:aG zs)(hl:zs.length<=1500) :
  az 173 #[JW t,JI n,.slice A zs.length cap] w λe w'=>∃ (m:Ms) (err:Int),e=aA (.tuple #[.agg (kO m),JI err])/\MsE w' w.heap.size m err/\MsSh m/\aC w w':=by
 have HBR:=OH h;have HSC:=OH (kf h);have HBB:=OH hb;clear h hb;go_enter func173,ntmps173;refine ay;go_cut [8] from 10 to 18 (λs8 wx=>RdB w n zs t s8 wx);case first=>
  have hw:ag af w ((w.alloc (.cells #[JW t] 5)).alloc (.cells (kO (gE 0)) 113)):=bu;have hT:((w.alloc (.cells #[JW t] 5)).alloc (.cells (kO (gE 0)) 113)).heap[w.heap.size]?=OC #[JW t] 5:=bZ;have hG:((w.alloc (.cells #[JW t] 5)).alloc (.cells (kO (gE 0)) 113)).heap[w.heap.size+1]?=OC (kO (gE 0)) 113:=bZ;refine rl 10 (λw'=>Bk w' w.heap.size #[JW t] 5) (λw0_ hc0=>?_);have hw:=hw.trans hc0;have hT:=ae hc0 hT id;have hG:=ae hc0 hG id;refine Ak;refine tk 0 ?_;refine tk 2 ?_;refine tk 3 ?_;refine tk 4 ?_;refine bo 1 9 (h1:=λK hK=>?_) (h2:=oa (λV w2_ hV hc2 hlV=>?_))
  .skip
   refine WG;rintro r w1_ ⟨c,rfl,hcl,hcut,hb⟩;have hc1:ag af w0_ w1_:=.of hb;have hcl:=PI hw.size hcl;have hw:=hw.trans hc1;have hT:=ae hc1 hT id;have hG:=ae hc1 hG id;refine qT;refine bo 5 9 (h1:=λK hK=>?_) (h2:=oa (λV w4_ hV hc4 hlV=>?_))
   .skip
    go_simp;refine(Dc _ t n).mono ?_;rintro r w3_ ⟨⟨kd,rfl,hkd⟩,hwN⟩;have hc3:ag af w1_ w3_:=by rw[hwN];exact ag.refl _ _
    clear hwN;have hw:=hw.trans hc3;have hT:=ae hc3 hT id;have hG:=ae hc3 hG id;have hcut:=hcut.below hc3.none;refine qT;refine tk 6 ?_;refine tk 7 ?_;refine bo 8 9 (h1:=oa (λR w5_ hR hc5 hlR=>?_)) (h2:=oa (λV w6_ hV hc6 hlV=>?_))
    .skip
     refine EP;have hw:=hw.trans hc5;have hT:=ae hc5 hT id;have hG:=ae hc5 hG id;have hcut:=hcut.below hc5.none;refine uN;refine on 9 ?_;refine oa (λV w7_ hV hc7 hlV=>?_);refine ER;have hw:=hw.trans hc7;have hT:=ae hc7 hT id;have hG:=ae hc7 hG id;have hcut:=hcut.below hc7.none;have hR:=ae hc7 hR id;refine Ge;have hs:ag (λj=>j=V) w7_ (w7_.setCell ⟨V,0,none⟩ (OV R)):=bu;exact Gc
    .skip
     refine ER;have hw:=hw.trans hc6;have hT:=ae hc6 hT id;have hG:=ae hc6 hG id;have hcut:=hcut.below hc6.none;refine uN;refine on 8 ?_;refine oa (λR w8_ hR hc8 hlR=>?_);refine EP;have hw:=hw.trans hc8;have hT:=ae hc8 hT id;have hG:=ae hc8 hG id;have hcut:=hcut.below hc8.none;have hV:=ae hc8 hV id;refine Ge;have hs:ag (λj=>j=V) w8_ (w8_.setCell ⟨V,0,none⟩ (OV R)):=bu;exact Gc
   .skip
    refine ER;have hw:=hw.trans hc4;have hT:=ae hc4 hT id;have hG:=ae hc4 hG id;have hcut:=hcut.below hc4.none;refine uN;refine lU;refine(Dc _ t n).mono ?_;rintro r w9_ ⟨⟨kd,rfl,hkd⟩,hwN⟩;have hc9:ag af w4_ w9_:=by rw[hwN];exact ag.refl _ _
    clear hwN;have hw:=hw.trans hc9;have hT:=ae hc9 hT id;have hG:=ae hc9 hG id;have hcut:=hcut.below hc9.none;have hV:=ae hc9 hV id;refine qT;refine tk 6 ?_;refine tk 7 ?_;refine on 8 ?_;refine oa (λR w10_ hR hc10 hlR=>?_);refine EP;have hw:=hw.trans hc10;have hT:=ae hc10 hT id;have hG:=ae hc10 hG id;have hcut:=hcut.below hc10.none;have hV:=ae hc10 hV id;refine Ge;have hs:ag (λj=>j=V) w10_ (w10_.setCell ⟨V,0,none⟩ (OV R)):=bu;exact Gc
  .skip
   refine ER;have hw:=hw.trans hc2;have hT:=ae hc2 hT id;have hG:=ae hc2 hG id;refine uN;refine on 1 λK hK=>?_
   refine WG;rintro r w11_ ⟨c,rfl,hcl,hcut,hb⟩;have hc11:ag af w2_ w11_:=.of hb;have hcl:=PI hw.size hcl;have hw:=hw.trans hc11;have hT:=ae hc11 hT id;have hG:=ae hc11 hG id;have hV:=ae hc11 hV id;refine qT;refine lU;refine(Dc _ t n).mono ?_;rintro r w12_ ⟨⟨kd,rfl,hkd⟩,hwN⟩;have hc12:ag af w11_ w12_:=by rw[hwN];exact ag.refl _ _
   clear hwN;have hw:=hw.trans hc12;have hT:=ae hc12 hT id;have hG:=ae hc12 hG id;have hV:=ae hc12 hV id;have hcut:=hcut.below hc12.none;refine qT;refine tk 6 ?_;refine tk 7 ?_;refine on 8 ?_;refine oa (λR w13_ hR hc13 hlR=>?_);refine EP;have hw:=hw.trans hc13;have hT:=ae hc13 hT id;have hG:=ae hc13 hG id;have hV:=ae hc13 hV id;have hcut:=hcut.below hc13.none;refine Ge;have hs:ag (λj=>j=V) w13_ (w13_.setCell ⟨V,0,none⟩ (OV R)):=bu;exact Gc
 case rest=>
  obtain⟨V,R,c,kd,rfl,hkd,hRd,hT,hG,hw,hcl,hRl⟩:=hcut;have hM0:=bH.made wc prog 3 (Xa2 .i64) (OI .i64);refine oN;obtain⟨v1,run1,hM1,hp1,hz1⟩:=hM0.run_put fc underlying401 (x:=0) dM (.func (.func 209) #[] #[OV V]);obtain⟨v2,run2,hM2,hp2,hz2⟩:=hM1.run_put fc underlying401 (x:=1) dM (.func (.func 212) #[] #[OV V]);obtain⟨v3,run3,hM3,hp3,hz3⟩:=hM2.run_put fc underlying401 (x:=2) dM (.func (.func 213) #[] #[OV V]);obtain⟨v4,run4,hM4,hp4,hz4⟩:=hM3.run_put fc underlying401 (x:=3) dM (.func (.func 214) #[] #[OV V]);obtain⟨v5,run5,hM5,hp5,hz5⟩:=hM4.run_put fc underlying401 (x:=4) dM (.func (.func 215) #[] #[OV V]);obtain⟨v6,run6,hM6,hp6,hz6⟩:=hM5.run_put fc underlying401 (x:=5) dM (.func (.func 216) #[] #[OV V]);obtain⟨v7,run7,hM7,hp7,hz7⟩:=hM6.run_put fc underlying401 (x:=6) dM (.func (.func 217) #[] #[OV w.heap.size,OV V]);have hN:ag af wc v7:=(((((((((ag.refl af wc).alloc _).new hp1 fo).new hp2 fo).new hp3 fo).new hp4 fo).new hp5 fo).new hp6 fo).new hp7 fo)
  refine iI;clear run1 run2 run3 run4 run5 run6 run7 hM1 hM2 hM3 hM4 hM5 hM6 hp1 hp2 hp3 hp4 hp5 hp6 hp7 hz1 hz2 hz3 hz4 hz5 hz6 hz7 hM0 hmm;have hR7:=hRd.below hN.none;have hT7:=ae hN hT id;have hG7:=ae hN hG id;have hw7:=hw.trans hN;have hcl7:∃ (F:Nat) (caps:List Value),(F=209\/(212<=F/\F<=217))/\(Instr.lookup 401 (.map (some wc.heap.size)) (JI kd) false).run prog v7=.ok (.func (.func F) #[] caps.toArray) v7/\Calls prog F caps.toArray v7 (Rdd v7 V c R n kd):=by
   have hk:kd=0\/kd=1\/kd=2\/kd=3\/kd=4\/kd=5\/kd=6:=oM;have hz:(zeroValue 1).run prog v7=.ok .nilFunc v7:=kM;rcases hk with rfl|rfl|rfl|rfl|rfl|rfl|rfl
   .exact⟨209,_,oM,hM7.run_look fc underlying401 hz (x:=0) dM false (is:=true) rM rM,Sg hn hR7⟩
   .exact⟨212,_,oM,hM7.run_look fc underlying401 hz (x:=1) dM false (is:=true) rM rM,Sf hn hR7⟩
   .exact⟨213,_,oM,hM7.run_look fc underlying401 hz (x:=2) dM false (is:=true) rM rM,Sd hn hR7⟩
   .exact⟨214,_,oM,hM7.run_look fc underlying401 hz (x:=3) dM false (is:=true) rM rM,Sc oM hR7⟩
   .exact⟨215,_,oM,hM7.run_look fc underlying401 hz (x:=4) dM false (is:=true) rM rM,Sb hR7⟩
   .exact⟨216,_,oM,hM7.run_look fc underlying401 hz (x:=5) dM false (is:=true) rM rM,Sa oM hR7⟩
   .exact⟨217,_,oM,hM7.run_look fc underlying401 hz (x:=6) dM false (is:=true) rM rM,R9 hT7 hR7⟩
  obtain⟨F,caps,hF,hlk,hcall⟩:=hcl7;have eg:=eg_rd F hF;have HCL:=OH hcall;obtain⟨cV,fV,zV⟩:=ab hR7.v;obtain⟨cR,fR,zR⟩:=ab hR7.r;have HRd:=OH hR7;clear hcall hM7 hN hRd hT hG hw hF;refine vh;rintro r w8 ⟨rfl,m,zs8,e8,hR8,hmk,hok,hc8⟩;have hG8:=ae hc8 hG7 (λq=>by
   rcases q with q|q
   .exact HRd.out.ne hG7 dM q
   .exact au hG7 dM (q ▸ HRd.out.r))
  have hw8:ag af w w8:=hw7.call hc8 (λj hj q=>by rcases q with rfl|rfl<;>omega);have hok:=hok.mono (B':=w.heap.size) hw7.size;obtain⟨hm,⟨A3,k3,n3,hm3⟩,⟨A4,k4,n4,hm4⟩,⟨ps,hps,pl,hpv⟩,⟨al,has,all,hav⟩⟩:=hok;obtain⟨mk,ms,md,mcl,mt,mp,mb,mr,mw,mpr,mas,mty⟩:=m;dsimp only at hmk hm hps has hm3 hm4;subst hmk hm3 hm4;obtain⟨A1,n1,rfl⟩:=aj hps;obtain⟨A2,n2,rfl⟩:=aj has;have HOK:=OH (show lL w8 w.heap.size ⟨kd,ms,md,mcl,mt,mp,mb,.slice A3 k3 n3,.slice A4 k4 n4,.slice A1 ps.length n1,.slice A2 al.length n2,mty⟩from⟨hm,⟨_,_,_,rfl⟩,⟨_,_,_,rfl⟩,⟨ps,hps,pl,hpv⟩,⟨al,has,all,hav⟩⟩);have HR8:=OH hR8;have hr:=hR8.r;have hv:=hR8.v;clear hps has hpv hav hm HCL HRd hlk eg hT7 hG7 hw7 hc8 hR8 cV fV zV cR fR zR hR7;obtain⟨cV,fV,zV⟩:=ab hv;obtain⟨cR,fR,zR⟩:=ab hr;obtain⟨cG,fG,zG⟩:=ab hG8;obtain⟨b0,f0⟩:∃b,(e8==0)=b:=⟨_,rfl⟩
  have g0:(e8 !=0)=!b0:=by rw[bne,f0]
  refine ay;refine(jV HR8.out.cut).mono ?_;refine AB;cases b0 with
  |false=>
   refine ay;refine(jV HR8.out.cut).mono ?_;refine AB;refine ay;refine U2;exact⟨gE 0,e8,rfl,(λq=>by simp[q]at f0),⟨_,_,_,_,_,_,_,_,_,_,_,_,_,_,_,_,_,_,_,_,rfl⟩,(hw8.new (ax (S:=λj=>j=w.heap.size+1) (.inl rfl) (kO (gE 0)).toList _ 0 dp) oM).none⟩
  |true=>
   have HK:=OH hkd;refine nJ;go_cut [49] from 50 to 81 (λs49 wx=>(∃b,s49=.bool b)/\wx=w8);case first=>
    clear hok HOK hG8 cG fG zG hw8 hw9 HR8 hv hr;obtain⟨b2,f2⟩:∃b,(ps.length==0)=b:=⟨_,rfl⟩
    obtain⟨b4,f4⟩:∃b,(al.length==0)=b:=⟨_,rfl⟩
    have g2:((ps.length:Int)==0)=b2:=by rw[←f2,Xa6];simp
    have g4:((al.length:Int)==0)=b4:=by rw[←f4,Xa6];simp
    rcases Decidable.em (kd=3)with k3|k3
    .have f1:((kd:Int)==3)=true:=xM
     have f3:((kd:Int)==5)=false:=xM;clear k3 HK;cases b2;all_goals(
      go_wp2_with fail;go_meet;exact⟨⟨_,rfl⟩,rfl⟩)
    .have f1:((kd:Int)==3)=false:=xM
     rcases Decidable.em (kd=5)with k5|k5
     .have f3:((kd:Int)==5)=true:=xM
      clear k3 k5 HK;cases b4;all_goals(
       go_wp2_with fail;go_meet;exact⟨⟨_,rfl⟩,rfl⟩)
     .have f3:((kd:Int)==5)=false:=xM
      clear k3 k5 HK;refine dr;exact⟨⟨_,rfl⟩,rfl⟩
   case rest=>
    obtain⟨⟨b,rfl⟩,hwc⟩:=hcut;subst hwc;clear hw9 hok HR8 hkd;have hcG:∀vs,ag (λj=>j=w.heap.size+1) wc (aR wc (w.heap.size+1) 0 vs):=λvs=>ax (S:=λj=>j=w.heap.size+1) (.inl rfl) vs _ _ dp
    have HCG:=OH hcG;have HW8:=OH hw8;clear hcG hw8;cases b;all_goals(
     go_wp2_with fail
     (try simp only[Exit.inBlock,Exit.then]))
    .refine wY underlying113 ?_ (h1:=aK (kO ⟨kd,ms,md,mcl,mt,mp,mb,.slice A3 k3 n3,.slice A4 k4 n4,.slice A1 ps.length n1,.slice A2 al.length n2,mty⟩).toList hG8 rfl)
     exact⟨⟨kd,ms,md,mcl,mt,mp,mb,.slice A3 k3 n3,.slice A4 k4 n4,.slice A1 ps.length n1,.slice A2 al.length n2,mty⟩,0,rfl,λ_=>⟨HOK.out.chg (HCG.out (kO ⟨kd,ms,md,mcl,mt,mp,mb,.slice A3 k3 n3,.slice A4 k4 n4,.slice A1 ps.length n1,.slice A2 al.length n2,mty⟩).toList) (aJ hG8 dM) (aJ hG8 dM),by show(0:Int)<=kd;omega,by have:=HK.out;show(kd:Int)<=6;omega⟩,⟨_,_,_,_,_,_,_,_,_,_,_,_,_,_,_,_,_,_,_,_,rfl⟩,(HW8.out.new (HCG.out (kO ⟨kd,ms,md,mcl,mt,mp,mb,.slice A3 k3 n3,.slice A4 k4 n4,.slice A1 ps.length n1,.slice A2 al.length n2,mty⟩).toList) oM).none⟩
    .refine U2
     exact⟨gE 0,11,rfl,(λq=>absurd q dM),⟨_,_,_,_,_,_,_,_,_,_,_,_,_,_,_,_,_,_,_,_,rfl⟩,(HW8.out.new (HCG.out (kO (gE 0)).toList) oM).none⟩
theorem Hq(h:BR w B (.slice A zs.length cap) zs)(hk:k<=zs.length):BR w B (.slice A k cap) (zs.take k):=by have hs:=kf h;refine AL;refine nI;have e:(zs.take k).length=k:=xM;refine⟨A,cap,by rw[e],oM,oM,h4.elim (λq=> .inl ⟨by simp[q.1],hs⟩) ?_⟩;rintro⟨g,off,cur,k1,k2,k3,k4,k5⟩;refine .inr ⟨g,off,cur,k1,k2,k3,k4,λj hj=>?_⟩;rw[e]at hj;rw[k5 j oM];simp[List.getD,hj]
def CutE(w:World)(B:Nat)(zs:List Int)(e:Ending)(w':World):Prop:=w'=w/\((e=aA (.tuple #[.slice none 0 0,.bool false]))\/∃A cap k,k<=zs.length/\e=aA (.tuple #[.slice A k cap,.bool true])/\BR w B (.slice A k cap) (zs.take k))
theorem cut_t(last:Bool)(h:BR w B (.slice A zs.length cap) zs)(hb:aG zs)(hl:zs.length<=1500):az 172 #[.slice A zs.length cap,.bool last] w (CutE w B zs):=by
 rcases Nat.eq_zero_or_pos zs.length with h0|h0
 .refine bI
  obtain⟨n,hn⟩:∃n,n=zs.length:=⟨_,rfl⟩
  rw[←hn]at H ⊢;rw[←hn]at h0 hl;subst h0;cases last<;>(go_enter func172,ntmps172;go_wp2_with fail;go_ret2;exact⟨rfl,.inl rfl⟩)
 .obtain⟨g,off,rfl,c0⟩:=gG h (j:=zs.length-1) oM
  have b0:=jX hb (j:=zs.length-1) oM;have hq:=λk hk=>Hq (k:=k) h hk
  refine nF;have hcl:zs.length<=cap/\cap<=maxLen:=by obtain⟨A',cap',h1,h2,h3,_⟩:=h;refine mh;obtain⟨_,_,rfl⟩:=h1;exact⟨h2,h3⟩
  unfold maxLen at hcl;generalize zs.getD (zs.length-1) 0=x at *;generalize hn:zs.length=n at *;have HN:=OH hn;obtain⟨m,rfl⟩:∃m,n=m+1:=⟨n-1,oM⟩
  obtain⟨k,rfl⟩:∃k:Nat,x=k:=⟨x.toNat,oM⟩
  have c0':w.cell? ⟨g,off+m,none⟩=some (JW k):=c0;have i1:((m+1:Nat):Int)-1=m:=oM;have i2:(m:Int)<((m+1:Nat):Int):=oM;have e1:(((m+1:Nat):Int)==0)=false:=xM;have e2:((k:Int)==0)=(k==0):=by rw[Xa6];simp
  obtain⟨q1,f1⟩:∃b,(k==0)=b:=⟨_,rfl⟩
  cases last
  .go_enter func172,ntmps172
   refine df;exact⟨rfl,.inl rfl⟩
  .go_enter func172,ntmps172
   go_wp2_with fail;all_goals(go_ret2;first|exact⟨rfl,.inl rfl⟩|exact⟨rfl,.inr ⟨_,_,_,by have:=HN.out;omega,rfl,HQ.out _ oM⟩⟩)
theorem np{n:Int}(hb:aG zs)(h:gJ (zs,e) n=(xs,zs',e')):aG xs/\aG zs'/\zs'.length<=zs.length/\(e'=0->e=0/\0<=n/\n<=zs.length/\(xs.length:Int)=n/\(zs'.length:Int)=zs.length-n):=by
 have h0:aG []:=λz hz=>absurd hz sM
 unfold gJ at h;split at h
 .refine uR
  cases h;exact⟨h0,hb,Xa1 _,λq=>absurd q h1⟩
 .refine uR
  split at h
  .exact UI
  .split at h
   .exact UI
   .rename_i h2 h3
    dsimp only at h2 h3;cases h;exact⟨hb.take _,hb.drop _,sM,λ_=>⟨ul,oM,oM,xM,xM⟩⟩
abbrev SP(m:Ms):List Value:=(kO m).toList
theorem Tn:(prog.info? 113).map (λi=>(i.zero,i.size,i.bytes))=some (some (.agg (kO (gE 0))),12,144):=kM
def ParsE(w:World)(e:Ending)(w':World):Prop:=aC w w'/\∃v err,e=aA (.tuple #[v,JI err])/\(err=0->∃l:List Ms,l.length<=400/\w'.ownsRow w.heap.size 113 12 v l.length (l.flatMap SP)/\∀m∈l,lL w' w.heap.size m/\0<=m.kind/\m.kind<=6)
theorem o7(h:cu w B c zs e)(n:Int):az 171 #[OV c,JI n] w λr w'=>∃A cap xs zs' e',gJ (zs,e) n=(xs,zs',e')/\r=aA (.slice A xs.length cap)/\BR w' B (.slice A xs.length cap) xs/\cu w' B c zs' e'/\ag (λj=>j=c) w w':=by refine(Hm h n (xs:=(gJ (zs,e) n).1) (zs':=(gJ (zs,e) n).2.1) (e':=(gJ (zs,e) n).2.2) rfl).mono ?_;rintro r w' ⟨v,rfl,hv,h2,h3⟩;obtain⟨A,cap,rfl,hr⟩:=hv;exact⟨A,cap,_,_,_,rfl,rfl,⟨A,cap,rfl,hr⟩,h2,h3⟩
theorem kV(h:cu w B c zs e):jF (λj=>j=c) w:=λj cur q hj=>by obtain⟨v,k,_⟩:=h;subst q;exact au k dM hj
theorem Hp{off:Nat}(h:BR w B (.slice (some ⟨g,off,none⟩) n cap) xs)(hn:0<xs.length)(hc:ag S w w')(h5:jF S w)(j:Nat):w'.cell? ⟨g,j,none⟩=w.cell? ⟨g,j,none⟩:=by
 refine Ai;rcases h4 with⟨rfl,-⟩|⟨g',off',cur,k1,k2,k3,_⟩
 .simp at hn
 .refine LV
  rw[(ab k3).1,(ab (ae hc k3 (λq=>h5 _ _ q k3))).1]
theorem and31(h0:0<=x)(h1:x<=255):∃n:Nat,n<=31/\bits .and .u8 x 31=n:=by
 obtain⟨k,rfl⟩:∃k:Nat,x=k:=⟨x.toNat,oM⟩
 have hk:k<256:=oM;refine⟨k&&&31,Xa0,?_⟩;show IntKind.u8.wrap ((BitVec.ofInt 8 (k:Int)&&&BitVec.ofInt 8 (31:Int)).toNat:Int)=_;have e:(BitVec.ofInt 8 (k:Int)).toNat=k:=by rw[BitVec.toNat_ofInt];omega
 rw[BitVec.toNat_and,e,show(BitVec.ofInt 8 31).toNat=31 by decide];have:= @Nat.and_le_right k 31;generalize k&&&31=q at *;exact qe
theorem Dm(h:BR w B (.slice A xs.length cap) xs)(h4:xs.length=4):∃g off,A=some ⟨g,off,none⟩/\w.cell? ⟨g,off,none⟩=some (JW (xs.getD 0 0))/\w.cell? ⟨g,off+1,none⟩=some (JW (xs.getD 1 0))/\w.cell? ⟨g,off+2,none⟩=some (JW (xs.getD 2 0))/\w.cell? ⟨g,off+3,none⟩=some (JW (xs.getD 3 0)):=by have h0:=gG h (j:=0) oM;have h1:=gG h (j:=1) oM;have h2:=gG h (j:=2) oM;have h3:=gG h (j:=3) oM;obtain⟨g,off,rfl,c0⟩:=h0;simp only[Option.some.injEq,Addr.mk.injEq]at h1 h2 h3;obtain⟨_,_,⟨rfl,rfl,_⟩,c1⟩:=h1;obtain⟨_,_,⟨rfl,rfl,_⟩,c2⟩:=h2;obtain⟨_,_,⟨rfl,rfl,_⟩,c3⟩:=h3;exact⟨_,_,rfl,c0,c1,c2,c3⟩
theorem eK(h:cu w B c zs e)(ht:t≠274):∀j cur,j=c->w.heap[j]?≠OC cur t:=λj cur q hj=>by obtain⟨v,k,_⟩:=h;subst q;exact au k (λe=>ht e.symm) hj
theorem N0(h:BR w B (.slice A zs.length cap) zs)(hb:aG zs)(hl:zs.length<=1000000):az 134 #[.slice A zs.length cap] w (ParsE w):=by
 obtain⟨i0,hi,hz0,hz1,hz2⟩:=aI Tn;by_cases hb2:zs.length<=1500
 .have HI:=OH (iD h)
  have HSC:=OH (kf h);refine mn;go_enter func134,ntmps134;refine ay;refine(jx A zs.length cap rfl hl HI.out HSC.out).mono ?_;refine E5;refine ay;have HZ:=OH hb1;have hc0:ag af w w1:=.of hb1;go_loopg [5] zs.length (λg s5 wr=>∃ (A:Option Addr) (cap:Nat) (l:List Ms) (zr:List Int),s5=.slice A l.length cap/\cu wr w.heap.size c zr 0/\aG zr/\zr.length=g/\l.length*4+g<=1500/\wr.ownsRow w.heap.size 113 12 (.slice A l.length cap) l.length (l.flatMap SP)/\(∀m∈l,lL wr w.heap.size m/\0<=m.kind/\m.kind<=6)/\ag af w wr);case atStart=>exact⟨none,0,[],zs,rfl,hcut,HB.out,rfl,by simpa using hb2,Xa4 _ _ _ _,sM,hc0⟩
  case round=>
   obtain⟨A1,cap1,l,zr,rfl,hcut,hbr,hg,hk,hown,hok,hG⟩:=hrel;subst hg;refine my;refine rN;have HC:=OH hcut;have HBR:=OH hbr;by_cases h0:zr.length=0
   .refine Xn
    obtain⟨b1,f1⟩:∃b,(zs.length==0)=b:=⟨_,rfl⟩
    have g1:((zs.length:Int)==0)=b1:=by rw[←f1,Xa6];simp
    have r1:gJ (zr,0) 4=([],zr,10):=by unfold gJ;simp;omega
    cases b1 with
    |false=>
     refine Ah;refine qH;refine df;exact⟨hG.none,_,0,rfl,λ_=>⟨l,oM,HO.out,HOK.out⟩⟩
    |true=>refine Ah;refine qH;refine Vt;have f9:((10:Int) !=0)=true:=dM;refine ay;refine(jV hcut2).mono ?_;refine Lf;refine df;exact⟨(hG.new hc2 hcl).none,_,10,rfl,λq=>absurd q dM⟩
   .have e0:decide ((0:Int)<(zr.length:Nat))=true:=xM
    refine Ah;rintro r w2p ⟨rfl,hw2⟩;subst hw2;obtain⟨xs1,z1,e1,r1⟩:∃xs z e',gJ (zr,0) 4=(xs,z,e'):=⟨_,_,_,rfl⟩
    refine Vt;refine ay;refine(jV hcut2).mono ?_;refine Lf;refine Vn;obtain⟨k1,k2,k3,k4⟩:=np HBR.out r1;cases b1 with
    |false=>
     refine df;exact⟨(hG.new hc2 hcl).none,_,e1,rfl,λq=>absurd q pz⟩
    |true=>
     have he1:e1=0:=by simpa using f1
     obtain⟨-,-,-,k5,k6⟩:=k4 he1;have hx4:xs1.length=4:=oM;refine Vm;have HOK2:=OH (λm hm=>(⟨(HOK.out m hm).1.chg hc2 (eK HC.out dM) (eK HC.out dM),(HOK.out m hm).2⟩:lL w2 w.heap.size m/\0<=m.kind/\m.kind<=6));obtain⟨A2,cap2,hv2e⟩:∃A cap,v2=.slice A xs1.length cap:=by obtain⟨A,cap,h1,_⟩:=hv2;exact⟨A,cap,h1⟩
     subst hv2e;obtain⟨gb,ob,rfl,y0,y1,y2,y3⟩:=Dm hv2 hx4;have HV2:=OH hv2;have HCU2:=OH hcut2;have HIS:=is_t hv2 k1;have HX4:=OH hx4;have z0:=jX k1 (j:=0) oM;have z1':=jX k1 (j:=1) oM;have z2':=jX k1 (j:=2) oM;have z3':=jX k1 (j:=3) oM;rw[hx4]at HIS;have HIS:=OH HIS;have HBX:=OH k1;have HBZ:=OH k2;have hlz:z1.length+4=zr.length:=oM;have HLZ:=OH hlz;obtain⟨bi,hbi⟩:∃b,xQ xs1=b:=⟨_,rfl⟩
     rw[hbi]at HIS;generalize xs1.getD 0 0=x0 at *;generalize xs1.getD 1 0=x1 at *;generalize xs1.getD 2 0=x2 at *;generalize xs1.getD 3 0=x3 at *;rw[hx4];refine ay;refine HIS.out.mono ?_;refine Lf;cases bi with
     |false=>
      refine df;exact⟨hG2.none,_,11,rfl,λq=>absurd q dM⟩
     |true=>
      refine oI;refine rg 13 (λw'=>w'.cell? ⟨gb,ob+2,none⟩=some (JW x2)/\w'.cell? ⟨gb,ob+3,none⟩=some (JW x3)) ⟨y2,y3⟩ (λhH=>?_);refine rP;refine on 12 λK hK=>?_
      go_simp;have hd2:ag af w2 w2.drew:=bu;refine(o7 (HCU2.out.below hd2.none) _).mono ?_;rintro r w4 ⟨A4,cap4,xs2,z2,e2,r2,rfl,hv4,hcut4,hc4⟩;have hc5:ag (λj=>j=c) w2 w4:=(ag.drew (ag.refl _ w2)).trans hc4;have q0:=Hp HV2.out (by have:=HX4.out;omega) hc5 (kV HCU2.out);have q2:=(q0 _).trans y2;have q3:=(q0 _).trans y3;refine hK.out _ _ ⟨q2,q3⟩ (λhH=>?_);refine bV;refine je;have q00:=(q0 _).trans y0;have q01:=(q0 _).trans y1;refine ay;refine(jV hcut4).mono ?_;refine Le;have hG4:=hG2.new hc5 hcl;obtain⟨b2,f2⟩:∃b,(e2==0)=b:=⟨_,rfl⟩
      have g2:(e2 !=0)=!b2:=by rw[bne,f2]
      obtain⟨k1,k2,k3,k4⟩:=np HBZ.out r2;cases b2 with
      |false=>
       refine df;exact⟨hG4.none,_,e2,rfl,λq=>absurd q (by simpa using f2)⟩
      |true=>
       have he2:e2=0:=by simpa using f2
       obtain⟨-,-,-,k5,k6⟩:=k4 he2;have HBB2:=OH k1;have HBZ2:=OH k2;have HB4:=OH hv4;have HCU4:=OH hcut4;have HO4:=OH (ah HO2.out hc5 (eK HCU2.out dM));have HOK4:=OH (λm hm=>(⟨(HOK2.out m hm).1.chg hc5 (eK HCU2.out dM) (eK HCU2.out dM),(HOK2.out m hm).2⟩:lL w4 w.heap.size m/\0<=m.kind/\m.kind<=6));have HV4:=HV2.out.chg hc5 (kV HCU2.out);have HKP:=OH (λW (hW:ag af w4 W) j=>Hp HV4 (by have:=HX4.out;omega) hW iF j);have hl2:xs2.length<=1500/\z2.length<zr.length/\(l.length+1)*4+z2.length<=1500:=by have:=HLZ.out;omega
       have HL2:=OH hl2;obtain⟨b3,f3⟩:∃b,decide (0<bits .and .u8 x0 32)=b:=⟨_,rfl⟩
       go_upto_if 59 with fail;go_cut [8,10,11] from 60 to 70 (λs8 s10 s11 wx=>∃A cap zs3,s8=.slice A zs3.length cap/\BR wx w.heap.size (.slice A zs3.length cap) zs3/\aG zs3/\zs3.length<=1500/\wx=w4);case first=>
        cases b3 with
        |false=>
         refine dr;exact⟨_,_,xs2,rfl,HB4.out,HBB2.out,HL2.out.1,rfl⟩
        |true=>
         refine ay;refine(mK HCU4.out).mono ?_;refine Le;refine ay;refine(cut_t _ HB4.out HBB2.out HL2.out.1).mono ?_;rintro r w5 ⟨hw5,hr⟩;have hw6:=hw5.symm;subst hw6;rcases hr with rfl|⟨A5,cap5,k5,hk5,rfl,hb5⟩
         .refine df
          exact⟨hG4.none,_,11,rfl,λq=>absurd q dM⟩
         .have hkl:(xs2.take k5).length=k5:=xM
          refine dr;exact⟨A5,cap5,xs2.take k5,by rw[hkl],by rw[hkl];exact hb5,HBB2.out.take _,by rw[hkl];have:=HL2.out.1;omega,rfl⟩
       case rest=>
        obtain⟨A3,cap3,zs3,rfl,hb3,hbb3,hl3,hwc⟩:=hcut;subst hwc;have HB3:=OH hb3;have HBB3:=OH hbb3;obtain⟨nn,hnn,hn31⟩:∃nn:Nat,nn<=31/\bits .and .u8 x0 31=nn:=and31 z0.1 z0.2;have hn64:IntKind.i64.wrap (nn:Int)=nn:=kA
        go_upto_region 21 with fail;go_cut [12,13] from 71 to 83 (λs12 s13 wx=>∃ (X:Nat) (m:Ms) (err:Int),s12=OV X/\s13=JI err/\wx.heap[X]?=OC (kO m) 113/\MsE wx w.heap.size m err/\MsSh m/\ag af wc wx/\wc.heap.size<=X);case first=>
         have hw:ag af wc wc:=ag.refl _ _;refine rl 15 (λw'=>w'.cell? ⟨gb,ob,none⟩=some (JW x0)/\w'.cell? ⟨gb,ob+1,none⟩=some (JW x1)) (λw0_ hc0=>?_);have hw:=hw.trans hc0;refine L9;refine iU;refine bo 9 13 (h1:=λK hK=>?_) (h2:=oa (λX w2_ hX hc2 hlX=>?_))
         .skip
          go_simp;refine UX;rintro r w1_ ⟨m,err,rfl,hm,hsh,hb⟩;refine V7;have hc1:ag af w0_ w1_:=.of hb;have hm1:=hm.mono (B':=w.heap.size) (PI hG4.size hwo);have hw:=hw.trans hc1;refine Mv;refine nK;refine tk 12 ?_;refine on 13 ?_;refine oa (λX w3_ hX hc3 hlX=>?_);have hXl:=PI hw.size hlX;have hw:=hw.trans hc3;have hm1:=hm1.chg hc3 cy cy;refine L9;refine bV;refine on 14 λK hK=>?_
          refine nQ;go_simp;have hs:ag (λj=>j=X) w3_ (aR w3_ X 0 (SP ⟨m1,m2,m3,m4,m5,m6,m7,.slice a1 a2 a3,.slice a4 a5 a6,.slice a7 a8 a9,.slice d1 d2 d3,m8⟩)):=ax (S:=λj=>j=X) (.inl rfl) _ _ _ dp;exact Z4
         .skip
          have hXl:=PI hw.size hlX;have hw:=hw.trans hc2;refine L9;refine bV;refine kB;refine UX;rintro r w5_ ⟨m,err,rfl,hm,hsh,hb⟩;refine V7;have hc5:ag af w2_ w5_:=.of hb;have hm1:=hm.mono (B':=w.heap.size) (PI hG4.size hwo);have hw:=hw.trans hc5;have hX:=ae hc5 hX id;refine Mv;refine nK;refine tk 12 ?_;refine on 14 λK hK=>?_
          refine nQ;go_simp;have hs:ag (λj=>j=X) w5_ (aR w5_ X 0 (SP ⟨m1,m2,m3,m4,m5,m6,m7,.slice a1 a2 a3,.slice a4 a5 a6,.slice a7 a8 a9,.slice d1 d2 d3,m8⟩)):=ax (S:=λj=>j=X) (.inl rfl) _ _ _ dp;exact Z4
        case rest=>
         rename_i wd
         obtain⟨X,m,err,rfl,rfl,hX,hme,⟨m1,m2,m3,m4,m5,m6,m7,a1,a2,a3,a4,a5,a6,a7,a8,a9,d1,d2,d3,m8,rfl⟩,hcw,hXl⟩:=hcut;have hG6:=hG4.trans hcw;have HO6:=OH (ah HO4.out hcw cy);have HOK6:=OH (λm hm=>(⟨(HOK4.out m hm).1.chg hcw cy cy,(HOK4.out m hm).2⟩:lL wc w.heap.size m/\0<=m.kind/\m.kind<=6));have HCU6:=OH (HCU4.out.below hcw.none);obtain⟨b4,f4⟩:∃b,(err==0)=b:=⟨_,rfl⟩
         have g4:(err !=0)=!b4:=by rw[bne,f4]
         refine nQ;cases b4 with
         |false=>
          refine df;exact⟨hG6.none,_,err,rfl,λq=>absurd q (by simpa using f4)⟩
         |true=>
          have hm:=hme (by simpa using f4);refine nH;have hzs:=hG6.size;go_wp2_with (first|(at_builtin;refine wpList_append_lies _ rfl (.tmp 87) (.tmp 89) 211 rfl w.heap.size 113 i0 _ 12 144 underlying211 hi hz0 hz1 hz2 rfl dM _ _ _ rfl (dz HO6.out) ⟨wc.heap.size,0,none⟩ 1 1 (SP ⟨m1,m2,m3,m4,m5,m6,m7,.slice a1 a2 a3,.slice a4 a5 a6,.slice a7 a8 a9,.slice d1 d2 d3,m8⟩) rfl rfl mf nz dM lM oM xM _ rfl ?_;intro gg cap6 w6 hown6 hgrow hat hlt6))
          have hgc:ag (λi=>(Xa3 A1 l.length cap1).ownBlock=some i) wc w6:=ag.grown (v:=.slice A1 l.length cap1) (ag.alloc (ag.refl _ wc) _) hgrow (λi hi _=>hi);have hT:∀t,(113:TypeId)≠t->∀j cur,(Xa3 A1 l.length cap1).ownBlock=some j->wc.heap[j]?≠OC cur t:=λt ht j cur hj=>by obtain⟨cur',hq⟩:=bG HO6.out hj;exact au hq ht
          have hL:=HL2.out
          go_roundg z2.length
          case measure=>exact hL.2.1
          case rel=>
           refine⟨_,_,l++ [⟨m1,m2,m3,m4,m5,m6,m7,.slice a1 a2 a3,.slice a4 a5 a6,.slice a7 a8 a9,.slice d1 d2 d3,m8⟩],z2,Ks,?_,HBZ2.out,rfl,by rw[List.length_append];exact hL.2.2,Uy,?_,hG6.call hgc (λj hj q=>absurd (eV HO6.out j q) oM)⟩
           .obtain⟨v9,k9,k8⟩:=HCU6.out
            have he2:e2=0:=by simpa using f2
            rw[he2]at k9;exact cu.kept ⟨v9,k9,k8⟩ hgc (λq=>hT 274 dM _ _ q k9) (λj cur q=>hT 5 dM j cur q)
           .intro m hm
            rcases List.mem_append.1 hm with q|q
            .exact⟨(HOK6.out m q).1.chg hgc (λj cur q=>hT 209 dM j cur q) (λj cur q=>hT 284 dM j cur q),(HOK6.out m q).2⟩
            .refine iH
             exact⟨HM.out.1.chg hgc (λj cur q=>hT 209 dM j cur q) (λj cur q=>hT 284 dM j cur q),HM.out.2⟩
 .have e1:decide (1500<zs.length)=true:=xM
  have e2:((1500:Int)<(zs.length:Nat)):=oM;go_enter func134,ntmps134;refine df;exact⟨ag.none bu,_,13,rfl,λq=>absurd q dM⟩
theorem yn(h:cu w B c zs e):cu w 0 c zs e:=Vl
theorem JM{n:Int}(h:gJ (zs,e) n=(xs,zs',e')):xs.length<=zs.length:=by
 unfold gJ at h;split at h
 .cases h
  simp
 .split at h
  .cases h
   simp
  .split at h
   .cases h
    simp
   .cases h
    simp;omega
def ItE(c:Nat)(zs:List Int)(W:World)(e:Ending)(w':World):Prop:=∃ (id n:Int) (zs':List Int) (e':Int),e=aA (.tuple #[JW id,JI n])/\0<=id/\id<=255/\cu w' 0 c zs' e'/\aG zs'/\zs'.length<=zs.length/\ag (λj=>j=c) W w'
def ItF(F:Nat)(caps:List Value)(T c:Nat):Prop:=(∀args w,(callFunc F args).run prog w=.ok (.enter F args) w)/\∀ (W:World) (x:Int) (zs:List Int),0<=x/\x<=255->W.heap[T]?=OC #[OV c] 193->cu W 0 c zs 0->aG zs->Calls prog F (JW x::caps).toArray W (ItE c zs W)
theorem it218(T c:Nat):ItF 218 [] T c:=⟨λargs w=>rfl,λW x zs hx hT hc hb=>by go_enter func218,ntmps218;refine df;exact⟨x / 16,x % 16+1,zs,0,rfl,oM,oM,hc,hb,Xa1 _,ag.refl _ _⟩⟩
theorem it219(T c:Nat):ItF 219 [OV T] T c:=⟨λargs w=>rfl,λW x zs hx hT hc hb=>by refine LO;obtain⟨b1,y1,l1⟩:=dP hb r1;have hn:=eu hc hb 1 dM dM 1 rfl r1;have HN:=OH hn;refine jP;go_enter func219,ntmps219;refine ay;refine HN.out.mono ?_;rintro r w1 ⟨rfl,hcut,hc1⟩;refine df;exact⟨x,_,z1,e1,rfl,hx.1,hx.2,hcut,b1,dI r1,hc1⟩⟩
def ExParE(w:World)(e:Ending)(w':World):Prop:=aC w w'/\∃ (A:Option Addr) (n cap:Nat) (err:Int),e=aA (.tuple #[.slice A n cap,JI err])/\(err=0->∃l:List Ex,l.length=n/\n<=14/\w'.ownsRow w.heap.size 287 2 (.slice A n cap) n (l.flatMap PR)/\∀x∈l,uF w' x)
theorem Td:(prog.info? 287).map (λi=>(i.zero,i.size,i.bytes))=some (some (.agg #[JW 0,.slice none 0 0]),2,32):=kM
theorem Jw{pf:Int}(h:BR w B (.slice A zs.length cap) zs)(hb:aG zs)(hl:zs.length<=1500):az 174 #[JS pf,.slice A zs.length cap] w (ExParE w):=by
 obtain⟨i0,hi,hz0,hz1,hz2⟩:=aI Td;have HI:=OH (iD h);have HSC:=OH (kf h);refine mn;clear h hb;obtain⟨b1,f1⟩:∃b,decide (4096<=pf)=b:=⟨_,rfl⟩
 obtain⟨b2,f2⟩:∃b,decide (pf<4112)=b:=⟨_,rfl⟩
 obtain⟨b3,f3⟩:∃b,(pf==48862)=b:=⟨_,rfl⟩
 have g3:(pf !=48862)=!b3:=by rw[bne,f3]
 go_enter func174,ntmps174;refine ay;refine(jx A zs.length cap rfl oM HI.out HSC.out).mono ?_;rintro r w1 ⟨c,rfl,hcl,hct,hb1⟩;have hT:(w1.alloc (.cells #[OV c] 193)).heap[w1.heap.size]?=OC #[OV c] 193:=bZ;have hw1:ag af w (w1.alloc (.cells #[OV c] 193)):=(ag.of hb1:ag af w w1).alloc _;have hcut1:=yn (hct.below Ul);have hTl:w.heap.size<=w1.heap.size:=hb1.size;refine i9;generalize hU:w1.alloc _=u1 at *;go_cut [21] from 16 to 20 (λs wx=>(∃b,s=.bool b)/\wx=u1);case first=>cases b1;all_goals(go_wp2_with fail;go_meet;exact⟨⟨_,rfl⟩,rfl⟩)
 rename_i wc0
 obtain⟨⟨bb,rfl⟩,hwc⟩:=hcut;refine oJ;clear f1 f2;go_upto_if 21 with fail;go_cut [8] from 22 to 24 (λs8 wx=>(∃ (F:Nat) (caps:List Value),s8=.func (.func F) #[] caps.toArray/\ItF F caps w1.heap.size c)/\wx=u1);case first=>
  cases bb<;>cases b3;all_goals(
   go_wp2_with fail;first
    |(go_ret2;exact⟨hw1.none,_,_,_,0,rfl,λ_=>⟨[],rfl,dM,Xa4 _ _ _ _,λx hx=>absurd hx sM⟩⟩)
    |(go_meet;first|exact⟨⟨218,[],rfl,it218 _ _⟩,rfl⟩|exact⟨⟨219,_,rfl,it219 _ _⟩,rfl⟩))
 case rest=>
  obtain⟨⟨F,caps,rfl,eg,hit⟩,hwc⟩:=hcut;refine oJ;have HIT:=OH hit;have HCT:=OH hcut1;have HT:=OH hT;clear hit hcut1 hct hT f3 g3 hb1;generalize hTe:w1.heap.size=T at *;clear hTe;refine ay;go_loopg [7] zs.length (λg s7 wr=>∃ (A:Option Addr) (cap:Nat) (l:List Ex) (zr:List Int),s7=.slice A l.length cap/\l.length<=14/\wr.heap[T]?=OC #[OV c] 193/\cu wr 0 c zr 0/\aG zr/\zr.length=g/\g<=1500/\wr.ownsRow w.heap.size 287 2 (.slice A l.length cap) l.length (l.flatMap PR)/\(∀x∈l,uF wr x)/\ag af w wr);case atStart=>exact⟨none,0,[],zs,rfl,dM,HT.out,HCT.out,HB.out,rfl,hl,Xa4 _ _ _ _,sM,hw1⟩
  case round=>
   clear HT HCT;obtain⟨A1,cap1,l,zr,rfl,hll,hT,hct,hbr,hg,hk,hown,hok,hG⟩:=hrel;subst hg;refine my;refine rN;have HC:=OH hct;have HBR:=OH hbr;clear hown hok hct hbr;refine jP;by_cases h0:zr.length=0
   .refine Xn
    refine Ah;rintro r w2p ⟨rfl,hw2⟩;have hw3:=hw2.symm;subst hw3;refine df;exact⟨hG.none,_,_,_,0,rfl,λ_=>⟨l,rfl,hll,HO.out,HOK.out⟩⟩
   .have e0:decide ((0:Int)<(zr.length:Nat))=true:=xM
    obtain⟨x1,z1,e1,r1⟩:∃x z e',bO (zr,0) 1=(x,z,e'):=⟨_,_,_,rfl⟩
    obtain⟨b1,y1,l1⟩:=dP HBR.out r1;obtain⟨a1,a2⟩:=(lF r1).1 rfl oM;subst a1;have hx1:x1 % 256=x1:=oM;have HB1:=OH b1;refine Ah;rintro r w2p ⟨rfl,hw2⟩;have hw3:=hw2.symm;subst hw3;refine ay;refine(eu HC.out HBR.out 1 dM dM 1 rfl r1).mono ?_;rintro r w2 ⟨rfl,hct2,hc2⟩;have kT:∀ {W W':World} {zz:List Int} {e:Int},cu W 0 c zz e->ag (λj=>j=c) W W'->W.heap[T]?=OC #[OV c] 193->W'.heap[T]?=OC #[OV c] 193:=λa b d=>ae b d (λq=>eK a (show(193:TypeId)≠274 by decide) _ _ q d)
    have hT2:=kT HC.out hc2 hT;refine Vm;have HOK2:=OH (λx hx=>(HOK.out x hx).chg hc2 (kV HC.out));have HC2:=OH hct2;clear HO HOK HC hct2 hc2 hG cT fT zT hT r1;obtain⟨cT,fT,zT⟩:=ab hT2;obtain⟨q1,f1⟩:∃b,(x1==0)=b:=⟨_,rfl⟩
    cases q1 with
    |true=>
     refine ay
     go_roundg z1.length
     case measure=>omega
     case rel=>
      exact⟨A1,cap1,l,z1,rfl,hll,hT2,HC2.out,HB1.out,rfl,oM,HO2.out,HOK2.out,hG2⟩
    |false=>
     have hit:=HIT.out w2 x1 z1 ⟨y1,oM⟩ hT2 HC2.out HB1.out;have HITx:=OH hit;clear hit;refine ay;refine HITx.out.mono ?_;rintro r w3 ⟨id,n,z3,e3,rfl,i1,i2,hct3,hb3,hl3,hc3⟩;have hT3:=kT HC2.out hc3 hT2;have hG3:=hG2.new hc3 hcl;have HO3:=OH (ah HO2.out hc3 (eK HC2.out dM));have HOK3:=OH (λx hx=>(HOK2.out x hx).chg hc3 (kV HC2.out));have HC3:=OH hct3;have HB3:=OH hb3;clear HO2 HOK2 HC2 hct3 hc3 hG2 cT fT zT hT2 HITx HIT hb3 HB1;obtain⟨cT,fT,zT⟩:=ab hT3;obtain⟨q2,f2⟩:∃b,(pf==48862)=b:=⟨_,rfl⟩
     obtain⟨q3,f3⟩:∃b,(id==15)=b:=⟨_,rfl⟩
     obtain⟨q4,f4⟩:∃b,(id==0)=b:=⟨_,rfl⟩
     refine oI;go_cut [39] from 40 to 45 (λs wx=>(∃b,s=.bool b)/\wx=w3);case first=>cases q2;all_goals(go_wp2_with fail;go_meet;exact⟨⟨_,rfl⟩,rfl⟩)
     case rest=>
      obtain⟨⟨q5,rfl⟩,hwc⟩:=hcut;refine oJ;clear f2 f3;cases q5 with
      |true=>
       refine df;exact⟨hG3.none,_,_,_,0,rfl,λ_=>⟨l,rfl,hll,HO3.out,HOK3.out⟩⟩
      |false=>
       cases q4 with
       |true=>
        refine df;exact⟨hG3.none,_,_,_,11,rfl,λq=>absurd q dM⟩
       |false=>
        refine ay;refine(o7 HC3.out _).mono ?_;rintro r w4 ⟨A4,cap4,xs4,z4,e4,r4,rfl,hv4,hct4,hc4⟩;have hT4:=kT HC3.out hc4 hT3;have hG4:=hG3.new hc4 hcl;have HO4:=OH (ah HO3.out hc4 (eK HC3.out dM));have HOK4:=OH (λx hx=>(HOK3.out x hx).chg hc4 (kV HC3.out));have HC4:=OH hct4;obtain⟨k1,k2,k3,k4⟩:=np HB3.out r4;have HV4:=OH hv4;have hx4:xs4.length<=z3.length:=JM r4;clear HO3 HOK3 HC3 hct4 hc4 hG3 cT fT zT hT3 hv4;obtain⟨cT,fT,zT⟩:=ab hT4;have HK1:=OH k1;have HK2:=OH k2;obtain⟨q6,f6⟩:∃b,(e4==0)=b:=⟨_,rfl⟩
        have g6:(e4 !=0)=!q6:=by rw[bne,f6]
        clear k1 k2 k4;refine ay;refine(jV HC4.out).mono ?_;refine Le;cases q6 with
        |false=>
         refine df;exact⟨hG4.none,_,_,_,e4,rfl,λq=>absurd q (by simpa using f6)⟩
        |true=>
         have he4:e4=0:=by simpa using f6
         by_cases h14:l.length=14
         .have e5:((l.length:Int)==14)=true:=xM
          have e6:(l.length==14)=true:=by simpa using h14
          have HH:=OH h14;clear h14;refine df;exact⟨hG4.none,_,_,_,13,rfl,λq=>absurd q dM⟩
         .have e5:((l.length:Int)==14)=false:=xM
          have e6:(l.length==14)=false:=by simpa using h14
          have hzs:=hG4.size;have HE4:=OH he4;clear he4;go_wp2_with (first|(at_builtin;refine wpList_append_lies _ rfl (.tmp 61) (.tmp 65) 53 rfl w.heap.size 287 i0 _ 2 32 underlying53 hi hz0 hz1 hz2 rfl dM _ _ _ rfl (dz HO4.out) ⟨w4.heap.size,0,none⟩ 1 1 [JW id,.slice A4 xs4.length cap4] rfl rfl mf nz dM lM oM xM _ rfl ?_;intro gg cap6 w6 hown6 hgrow hat hlt6))
          have hgc:ag (λi=>(Xa3 A1 l.length cap1).ownBlock=some i) w4 w6:=ag.grown (v:=.slice A1 l.length cap1) (ag.alloc (ag.refl _ w4) _) hgrow (λi hi _=>hi);have hT':∀t,(287:TypeId)≠t->∀j cur,(Xa3 A1 l.length cap1).ownBlock=some j->w4.heap[j]?≠OC cur t:=λt ht j cur hj=>by obtain⟨cur',hq⟩:=bG HO4.out hj;exact au hq ht
          go_roundg z4.length
          case measure=>omega
          case rel=>
           refine⟨_,_,l++ [⟨id,A4,cap4,xs4⟩],z4,Ks,by rw[List.length_append];show l.length+1<=14;omega,ae hgc hT4 (λq=>hT' 193 dM _ _ q hT4),?_,HK2.out,rfl,oM,Uy,?_,hG4.call hgc (λj hj q=>absurd (eV HO4.out j q) oM)⟩
           .obtain⟨v9,k9,k8⟩:=HC4.out
            rw[HE4.out]at k9;exact cu.kept ⟨v9,k9,k8⟩ hgc (λq=>hT' 274 dM _ _ q k9) (λj cur q=>hT' 5 dM j cur q)
           .intro x hx
            refine EH
            .exact(HOK4.out x q).chg hgc (λj cur q=>hT' 5 dM j cur q)
            .refine iH
             exact⟨HV4.out.chg hgc (λj cur q=>hT' 5 dM j cur q),HK1.out,by show xs4.length<=1500;omega,i1,i2⟩
theorem mY(h:k<=zs.length):bO (zs,0) k=(wy (zs.take k),zs.drop k,0):=by unfold bO;rw[if_neg sM,if_neg xM]
theorem yv(n:Nat)(hn:n<2 ^ 64)(h0:0<=x)(h1:x<256):∃k:Nat,bits .and .u64 x n=k/\k<=n/\k<=255/\(x=128->k=128&&&n)/\(x<128->n=127->k=x):=by
 obtain⟨m,rfl⟩:∃m:Nat,x=m:=⟨x.toNat,oM⟩
 refine⟨m&&&n,Rv.yo m n oM hn,Xa0,PI Nat.and_le_left oM,λh=>by rw[show m=128 by omega],λh1 h2=>?_⟩;subst h2;have:m&&& (2 ^ 7-1)=m % 2 ^ 7:=Nat.and_two_pow_sub_one_eq_mod m 7;have h3:m&&&127=m % 128:=this;rw[h3];omega
structure Ds where
 more:Bool
 lone:Bool
 start:Bool
 part:Int
 hasPic:Bool
 wide:Bool
 pic:Int
 hasTl0:Bool
 tl0:Int
 hasTid:Bool
 tid:Int
 sync:Bool
 hasKey:Bool
 key:Int
abbrev kW(d:Ds):Array Value:=#[.bool d.more,.bool d.lone,.bool d.start,JW d.part,.bool d.hasPic,.bool d.wide,JS d.pic,.bool d.hasTl0,JW d.tl0,.bool d.hasTid,JW d.tid,.bool d.sync,.bool d.hasKey,JW d.key]
abbrev Jy:Ds:=⟨false,false,false,0,false,false,0,false,0,false,0,false,false,0⟩
structure DsN(d:Ds):Prop where
 part:0<=d.part/\d.part<=255
 pic:0<=d.pic/\d.pic<=65535
 tl0:0<=d.tl0/\d.tl0<=255
 tid:0<=d.tid/\d.tid<=255
 key:0<=d.key/\d.key<=255
structure VS(w0 w:World)(b1 b6 b10 b8 c:Nat)(A:Option Addr)(n cap:Nat)(d:Ds)(pc tl:Int)(zs:List Int)(e:Int):Prop where
 h1:w.heap[b1]?=OC #[.slice A n cap] 56
 h6:w.heap[b6]?=OC #[OV c] 193
 h10:w.heap[b10]?=OC #[JI pc,JI tl] 460
 h8:w.heap[b8]?=OC (kW d) 410
 cut:cu w 0 c zs e
 b:aG zs
 n:zs.length<=n/\n<=1000000
 d:DsN d
 g:ag (λj=>j=b10\/j=b8\/j=c) w0 w
section
variable {w0 w w':World}{b1 b6 b10 b8 c n cap:Nat}{A:Option Addr}{d d':Ds}{pc pc' tl tl' e e':Int}{zs zs':List Int}
theorem VS.num(h:VS w0 w b1 b6 b10 b8 c A n cap d pc tl zs e)(k:cu w' 0 c zs' e')(hb:aG zs')(hl:zs'.length<=zs.length)(hc:ag (λj=>j=c) w w'):VS w0 w' b1 b6 b10 b8 c A n cap d pc tl zs' e':=
 have o:=fun {t:TypeId} (ht:t≠274) (i:Nat) (cur:Array Value) (hi:w.heap[i]?=OC cur t)=>ae hc hi (λq=>eK h.cut ht _ _ q hi)
 ⟨o dM _ _ h.h1,o dM _ _ h.h6,o dM _ _ h.h10,o dM _ _ h.h8,k,hb,⟨PI hl h.n.1,h.n.2⟩,h.d,h.g.trans (hc.mono λj _ q=> .inr (.inr q))⟩
theorem VS.set8(h:VS w0 w b1 b6 b10 b8 c A n cap d pc tl zs e)(i:Nat)(v:Value)(d':Ds)(hd:(kW d).setIfInBounds i v=kW d')(hn:DsN d'):VS w0 (w.setCell ⟨b8,i,none⟩ v) b1 b6 b10 b8 c A n cap d' pc tl zs e:=by
 have hc:ag (λj=>j=b8) w (w.setCell ⟨b8,i,none⟩ v):=ag.set (S:=λj=>j=b8) dp ⟨b8,i,none⟩ (.inl rfl) v;have o:=fun {t:TypeId} (ht:t≠410) (i:Nat) (cur:Array Value) (hi:w.heap[i]?=OC cur t)=>jH hc h.h8 hi ht
 exact⟨o dM _ _ h.h1,o dM _ _ h.h6,o dM _ _ h.h10,hd ▸ av i v h.h8,h.cut.kp1 hc h.h8,h.b,h.n,hn,h.g.trans (hc.mono λj _ q=> .inr (.inl q))⟩
theorem VS.set10(h:VS w0 w b1 b6 b10 b8 c A n cap d pc tl zs e)(i:Nat)(v:Value)(pc' tl':Int)(hd: #[Xa2 .i64 pc,Xa2 .i64 tl].setIfInBounds i v=#[Xa2 .i64 pc',Xa2 .i64 tl']):VS w0 (w.setCell ⟨b10,i,none⟩ v) b1 b6 b10 b8 c A n cap d pc' tl' zs e:=by
 have hc:ag (λj=>j=b10) w (w.setCell ⟨b10,i,none⟩ v):=ag.set (S:=λj=>j=b10) dp ⟨b10,i,none⟩ (.inl rfl) v;have o:=fun {t:TypeId} (ht:t≠460) (i:Nat) (cur:Array Value) (hi:w.heap[i]?=OC cur t)=>jH hc h.h10 hi ht
 exact⟨o dM _ _ h.h1,o dM _ _ h.h6,hd ▸ av i v h.h10,o dM _ _ h.h8,h.cut.kp1 hc h.h10,h.b,h.n,h.d,h.g.trans (hc.mono λj _ q=> .inl q)⟩
theorem VS.below(h:VS w0 w b1 b6 b10 b8 c A n cap d pc tl zs e)(hb:aC w w'):VS w0 w' b1 b6 b10 b8 c A n cap d pc tl zs e:=
 have hc:ag af w w':=.of hb
 ⟨ae hc h.h1 id,ae hc h.h6 id,ae hc h.h10 id,ae hc h.h8 id,h.cut.below hb,h.b,h.n,h.d,h.g.next hb⟩
theorem VS.drew(h:VS w0 w b1 b6 b10 b8 c A n cap d pc tl zs e):VS w0 w.drew b1 b6 b10 b8 c A n cap d pc tl zs e:=h.below ((ag.refl af w).drew.none)
def VE(w0:World)(b1 b6 b10 b8 c:Nat)(A:Option Addr)(n cap:Nat)(P:Ds->Int->Int->List Int->Int->Prop)(r:Ending)(w':World):Prop:=r=aA (.tuple #[])/\∃d' pc' tl' zs' e',VS w0 w' b1 b6 b10 b8 c A n cap d' pc' tl' zs' e'/\P d' pc' tl' zs' e'
abbrev SW(b1 b6 b10 b8 c:Nat)(A:Option Addr)(n cap:Nat)(d:Ds)(pc tl:Int)(w:World):Prop:=Bk w b1 #[.slice A n cap] 56/\Bk w b6 #[OV c] 193/\Bk w b10 #[JI pc,JI tl] 460/\Bk w b8 (kW d) 410
theorem VS.sw(h:VS w0 w b1 b6 b10 b8 c A n cap d pc tl zs e):SW b1 b6 b10 b8 c A n cap d pc tl w:=⟨bk h.h1,bk h.h6,bk h.h10,bk h.h8⟩
def TidP(d d':Ds):Prop:=∃x y z,d'= {d with tid:=x,sync:=y,key:=z}
def Tl0P(d d':Ds):Prop:=∃x,d'= {d with tl0:=x}
def PicP(d d':Ds):Prop:=∃x y,d'= {d with wide:=x,pic:=y}
theorem tc(h:bO (zs,e) k=(x,zs',0)):e=0/\zs'.length+k=zs.length:=by
 unfold bO at h;split at h
 .refine uR
  cases h;exact absurd rfl h1
 .refine uR
  split at h
  .cases h
  .rename_i h2
   dsimp only at h2;cases h;exact⟨ul,xM⟩
theorem f302_t(h:VS w0 w b1 b6 b10 b8 c A n cap d pc tl zs e):az 302 #[OV b1,OV b6,OV b10,OV b8] w (VE w0 b1 b6 b10 b8 c A n cap λd' pc' tl' zs' e'=>Tl0P d d'/\pc'=pc/\tl'=n-zs.length/\zs'.length<=zs.length/\(e'=0->e=0/\zs'.length+1=zs.length)):=by refine ML;simp only[Int.reducePow]at l1;have hx1:x1 % 256=x1:=oM;refine VV;go_enter func302,ntmps302;refine Zr;have h2:=(H.out.set10 1 (JI ((n:Int)-zs.length)) pc ((n:Int)-zs.length) rfl).drew;refine ZW;refine dg;exact⟨rfl,_,_,_,_,_,H3.out.set8 8 (JW x1) {d with tl0:=x1} rfl ⟨H3.out.d.part,H3.out.d.pic,gY,H3.out.d.tid,H3.out.d.key⟩,⟨_,rfl⟩,rfl,rfl,dI r1,λq=>by subst q;exact tc r1⟩
theorem f303_t(h:VS w0 w b1 b6 b10 b8 c A n cap d pc tl zs e):az 303 #[OV b6,OV b8] w (VE w0 b1 b6 b10 b8 c A n cap λd' pc' tl' zs' e'=>TidP d d'/\pc'=pc/\tl'=tl/\zs'.length<=zs.length/\(e'=0->e=0/\zs'.length+1=zs.length)):=by
 refine ML;simp only[Int.reducePow]at l1;obtain⟨bs,fs⟩:∃b,decide (0<bits .and .u64 x1 32)=b:=⟨_,rfl⟩
 have H2:=OH h;cases htd:d.hasTid<;>cases hky:d.hasKey;all_goals
  go_enter func303,ntmps303;have k1:=H2.out.h1;have k6:=H2.out.h6;have k10:=H2.out.h10;have k8:=H2.out.h8;obtain⟨c1,f1,z1'⟩:=ab k1;obtain⟨c6,f6,z6'⟩:=ab k6;obtain⟨c10,f10,z10'⟩:=ab k10;obtain⟨c8,f8,z8'⟩:=ab k8;go_wp2_with fail;refine(eu H2.out.cut H2.out.b 1 dM dM 1 rfl r1).mono ?_;rintro r w3 ⟨rfl,hk,hc⟩;have H3:=OH (H2.out.num hk b1' (dI r1) hc);have k1:=H3.out.h1;have k6:=H3.out.h6;have k10:=H3.out.h10;have k8:=H3.out.h8;obtain⟨c1,f1,z1'⟩:=ab k1;obtain⟨c6,f6,z6'⟩:=ab k6;obtain⟨c10,f10,z10'⟩:=ab k10;obtain⟨c8,f8,z8'⟩:=ab k8;go_wp2_with fail;go_end0;have hd:=H3.out.d;have ge:∀x:Int,0<=x % 256/\x % 256<=255:=λx=>by omega
  refine⟨rfl,_,_,_,_,_,(by first
   |exact H3.out
   |exact H3.out.set8 13 (JW (bits .and .u64 x1 31 % 256)) {d with key:=bits .and .u64 x1 31 % 256} rM ⟨hd.part,hd.pic,hd.tl0,hd.tid,ge _⟩
   |exact(H3.out.set8 10 (JW (x1 / 64)) {d with tid:=x1 / 64} rM QX).set8 11 (.bool bs) {d with tid:=x1 / 64,sync:=bs} rM QX
   |exact((H3.out.set8 10 (JW (x1 / 64)) {d with tid:=x1 / 64} rM QX).set8 11 (.bool bs) {d with tid:=x1 / 64,sync:=bs} rM QX).set8 13 (JW (bits .and .u64 x1 31 % 256)) {d with tid:=x1 / 64,sync:=bs,key:=bits .and .u64 x1 31 % 256} rM ⟨hd.part,hd.pic,hd.tl0,gY,ge _⟩),⟨_,_,_,rfl⟩,rfl,rfl,dI r1,λq=>by subst q;exact tc r1⟩
theorem f301_t(h:VS w0 w b1 b6 b10 b8 c A n cap d pc tl zs e):az 301 #[OV b1,OV b6,OV b10,OV b8] w (VE w0 b1 b6 b10 b8 c A n cap λd' pc' tl' zs' e'=>PicP d d'/\pc'=n-zs.length/\tl'=tl/\zs'.length<=zs.length/\(e'=0->e=0/\zs'.length+(if d'.wide then 2 else 1)<=zs.length)):=by
 refine ML;refine Vk;obtain⟨bw,fw⟩:∃b,decide (0<bits .and .u64 x1 128)=b:=⟨_,rfl⟩
 refine VV;have ge:∀x:Int,0<=x % 65536/\x % 65536<=65535:=λx=>by omega
 have GE:=OH ge;go_enter func301,ntmps301;refine Zr;have h2:=(H.out.set10 0 (JI ((n:Int)-zs.length)) ((n:Int)-zs.length) tl rfl).drew;refine ZW;refine iI;have H4:=OH (H3.out.set8 5 (.bool bw) {d with wide:=bw} rfl ⟨H3.out.d.part,H3.out.d.pic,H3.out.d.tl0,H3.out.d.tid,H3.out.d.key⟩);generalize w3.setCell _ _=u4 at *;have k1:=H4.out.h1;have k6:=H4.out.h6;have k10:=H4.out.h10;have k8:=H4.out.h8;refine Ij;cases bw with
 |false=>
  refine dg;exact⟨rfl,_,_,_,_,_,H4.out.set8 6 (JS x1) {d with wide:=false,pic:=x1} rfl ⟨H3.out.d.part,gY,H3.out.d.tl0,H3.out.d.tid,H3.out.d.key⟩,⟨_,_,rfl⟩,rfl,rfl,dI r1,λq=>by subst q;have:=tc r1;exact⟨this.1,xM⟩⟩
 |true=>refine ay;refine(eu H4.out.cut H4.out.b 1 dM dM 1 rfl r2).mono ?_;rintro r w5 ⟨rfl,hk,hc⟩;have H5:=OH (H4.out.num hk b2' (dI r2) hc);have k1:=H5.out.h1;have k6:=H5.out.h6;have k10:=H5.out.h10;have k8:=H5.out.h8;refine Ij;refine dg;exact⟨rfl,_,_,_,_,_,H5.out.set8 6 _ {d with wide:=true,pic:=_} rfl ⟨H3.out.d.part,GE.out _,H3.out.d.tl0,H3.out.d.tid,H3.out.d.key⟩,⟨_,_,rfl⟩,rfl,rfl,PI (dI r2) (dI r1),λq=>by subst q;obtain⟨a1,a2⟩:=tc r2;subst a1;have:=tc r1;exact⟨this.1,xM⟩⟩
end
@[go_sem] theorem run_store_fn{a:Addr}{m:Mode}(f:Fn)(b c:Array Value):(store a (.func f b c) m).run P w=stored P w a (.func f b c) m:=run_store P w a _ m rfl
theorem qX{P:Program}{fn:Func}{p q u v:Tmp}{ty ty':TypeId}{tmps:Array Value}{w:World}{g g':Nat}{t t':TypeId}{cs cs':Array Value}{d d':TypeDesc}(h:fn.results=#[.cell p ty,.cell q ty',.tmp u,.tmp v])(hp:tmps.getD p undef=OV g)(hg:w.heap[g]?=OC cs t)(hq:tmps.getD q undef=OV g')(hg':w.heap[g']?=OC cs' t')(hu:P.underlying ty=some d)(hd:(match d with|.struct _|.array _ _=>true|_=>false)=true)(hi:(P.info? ty).map (·.size)=some cs.size)(hu':P.underlying ty'=some d')(hd':(match d' with|.struct _|.array _ _=>true|_=>false)=true)(hi':(P.info? ty').map (·.size)=some cs'.size) :
  (results fn tmps).run P w=.ok (.tuple #[.agg cs,.agg cs',tmps.getD u undef,tmps.getD v undef]) w:=by
 exact Nh
theorem rcc22{P:Program}{fn:Func}{R:Ending->World->Prop}{a:Act}{w:World}{p q u v:Tmp}{ty ty':TypeId}{d d':TypeDesc}{g g':Nat}{cs cs':Array Value}{t t':TypeId}(hu:P.underlying ty=some d)(hu':P.underlying ty'=some d')(h3:R (.returned (.tuple #[.agg cs,.agg cs',a.tmps.getD u undef,a.tmps.getD v undef])) w)(h:fn.results=#[.cell p ty,.cell q ty',.tmp u,.tmp v]:=by rfl)(hp:a.tmps.getD p undef=OV g:=by rfl)(hq:a.tmps.getD q undef=OV g':=by rfl)(hd:(match d with|.struct _|.array _ _=>true|_=>false)=true:=by rfl)(hd':(match d' with|.struct _|.array _ _=>true|_=>false)=true:=by rfl)(hz:a.defers=[]:=by rfl)(h1:w.heap[g]?=OC cs t:=by exact hf)(h2:(P.info? ty).map (·.size)=some cs.size:=by kernel_rfl)(h1':w.heap[g']?=OC cs' t':=by exact hf)(h2':(P.info? ty').map (·.size)=some cs'.size:=by kernel_rfl):bodyPost P fn R .ret a w:=
 bodyPost_ret (qX h hp h1 hq h1' hu hd h2 hu' hd' h2') hz h3
def VpOK(n:Nat)(d:Ds)(pc tl m:Int):Prop:=0<=m/\m<=n/\(d.wide=true->0<=pc/\pc+2<=n)/\(d.hasPic=true->0<=pc/\pc+1<=n)/\(d.hasTl0=true->0<=tl/\tl+1<=n)
def VpE(w:World)(zs:List Int)(e:Ending)(w':World):Prop:=∃d pc tl m err,e=aA (.tuple #[.agg (kW d),.agg #[JI pc,JI tl],JI m,JI err])/\DsN d/\(err=0->VpOK zs.length d pc tl m)/\(zs.length=2->zs.getD 0 0=16->err=0/\d= {Jy with start:=true}/\m=1)/\aC w w'
theorem VS.swap{u u':World}{bx:Nat}{d:Ds}{pc:Int}(h:VS w0 u b1 b6 bx b8 c A n cap d pc tl zs e)(hb:aC u u')(h10:u'.heap[b10]?=OC #[JI pc,JI tl] 460):VS u' u' b1 b6 b10 b8 c A n cap d pc tl zs e:=
 have k:=h.below hb
 ⟨k.h1,k.h6,h10,k.h8,k.cut,k.b,k.n,k.d,ag.refl _ _⟩
theorem VS.self{d:Ds}{pc:Int}(h:VS w0 w b1 b6 b10 b8 c A n cap d pc tl zs e):VS w w b1 b6 b10 b8 c A n cap d pc tl zs e:=⟨h.h1,h.h6,h.h10,h.h8,h.cut,h.b,h.n,h.d,ag.refl _ _⟩
theorem dsn{a b c d e f g:Bool}{pt:Int}(h:0<=pt/\pt<=255):DsN ⟨a,b,c,pt,d,false,0,e,0,f,0,false,g,0⟩:=⟨h,sM,sM,sM,sM⟩
abbrev tabV(p1 p2 q:Bool)(b1 b6 b10 b8:Nat):Array Value:=#[.bool p1,.func (.func 301) #[] #[OV b1,OV b6,OV b10,OV b8],.bool p2,.func (.func 302) #[] #[OV b1,OV b6,OV b10,OV b8],.bool q,.func (.func 303) #[] #[OV b6,OV b8]]
def VI(p1 p2:Bool)(k n:Nat)(d:Ds)(pc tl:Int)(m:Nat)(e:Int):Prop:=d.hasPic=p1/\d.hasTl0=p2/\((k=0\/p1=false)->d.wide=false)/\(e=0->(1<=k->p1=true->0<=pc/\pc+(if d.wide then 2 else 1)+m<=n)/\(2<=k->p2=true->0<=tl/\tl+1+m<=n))
section
variable {p1 p2:Bool}{n m m':Nat}{d d':Ds}{pc tl pc' tl' e e':Int}
theorem VI.n1(h:VI false p2 0 n d pc tl m e):VI false p2 1 n d pc tl m e:=⟨h.1,h.2.1,λ_=>h.2.2.1 (.inl rfl),λ_=>⟨λ_ q=>gZ,λq=>oM⟩⟩
theorem VI.n2(h:VI p1 false 1 n d pc tl m e):VI p1 false 2 n d pc tl m e:=⟨h.1,h.2.1,λq=>h.2.2.1 (.inr (q.resolve_left dM)),λq=>⟨λ_=>(h.2.2.2 q).1 dM,λ_ q=>gZ⟩⟩
theorem VI.n3(h:VI p1 p2 2 n d pc tl m e):VI p1 p2 3 n d pc tl m e:=⟨h.1,h.2.1,λq=>h.2.2.1 (.inr (q.resolve_left dM)),λq=>⟨λ_=>(h.2.2.2 q).1 dM,λ_=>(h.2.2.2 q).2 dM⟩⟩
theorem VI.s1(h:VI true p2 0 n d pc tl m e)(hP:PicP d d')(hpc:pc'=n-m)(hn:m<=n)(he:e'=0->e=0/\m'+(if d'.wide then 2 else 1)<=m):VI true p2 1 n d' pc' tl' m' e':=by obtain⟨x,y,rfl⟩:=hP;subst hpc;exact⟨h.1,h.2.1,λq=>q.elim (λq=>oM) (λq=>gZ),λq=>⟨λ_ _=>⟨oM,by have:=(he q).2;split<;>simp_all<;>omega⟩,λq=>oM⟩⟩
theorem VI.s2(h:VI p1 true 1 n d pc tl m e)(hP:Tl0P d d')(hpc:pc'=pc)(htl:tl'=n-m)(hn:m<=n)(hm:m'<=m)(he:e'=0->e=0/\m'+1=m):VI p1 true 2 n d' pc' tl' m' e':=by obtain⟨x,rfl⟩:=hP;subst hpc htl;refine⟨h.1,h.2.1,λq=>h.2.2.1 (.inr (q.resolve_left dM)),λq=>⟨λ_ z=>?_,λ_ _=>⟨oM,by have:=(he q).2;omega⟩⟩⟩;exact Xo
theorem VI.s3(h:VI p1 p2 2 n d pc tl m e)(hP:TidP d d')(hpc:pc'=pc)(htl:tl'=tl)(hm:m'<=m)(he:e'=0->e=0/\m'+1=m):VI p1 p2 3 n d' pc' tl' m' e':=by
 obtain⟨x,y,z,rfl⟩:=hP;subst hpc htl;refine⟨h.1,h.2.1,λq=>h.2.2.1 (.inr (q.resolve_left dM)),λq=>⟨λ_ z=>?_,λ_ z=>?_⟩⟩
 .exact Xo
 .have:=(h.2.2.2 (he q).1).2 dM z
  exact⟨this.1,oM⟩
end
theorem AR{u:World}{s1 s2:Nat}{c0 c1:Array Value}{t1 t2:TypeId}(h1:u.heap[s1]?=OC c0 t1)(h2:u.heap[s2]?=OC c1 t2)(hn:s1≠s2)(l1 l2:List Value)(e1:l1.length=c0.size)(e2:l2.length=c1.size) :
  (aR (aR u s1 0 l1) s2 0 l2).heap[s1]?=OC l1.toArray t1/\(aR (aR u s1 0 l1) s2 0 l2).heap[s2]?=OC l2.toArray t2/\ag (λj=>j=s1\/j=s2) u (aR (aR u s1 0 l1) s2 0 l2):=by
 have a:=aK l1 h1 e1;have b:=ae (ax (S:=λj=>j=s1) (.inl rfl) l1 u 0 dp) h2 (λq=>hn q.symm);have c:=aK l2 b e2;exact⟨ae (ax (S:=λj=>j=s2) (.inl rfl) l2 _ 0 dp) a hn,c,ax (S:=λj=>j=s1\/j=s2) (.inl (.inr rfl)) l2 _ 0 (ax (S:=λj=>j=s1\/j=s2) (.inl (.inl rfl)) l1 u 0 dp)⟩
theorem AQ(h:BR w B (.slice A zs.length cap) zs)(hb:aG zs)(hl:zs.length<=1000000):az 267 #[.slice A zs.length cap] w (VpE w zs):=by
 refine Xt;clear hnc;refine LO;obtain⟨b1',y1,l1⟩:=dP hb r1;refine Vk;have hpl:zs.length=2->zs.getD 0 0=16->e1=0/\x1=16/\z1.length=1:=λq1 q2=>by
  rw[mY oM]at r1;cases r1;match zs,q1 with
  |a::c:: [],_=>exact⟨rfl,by simpa[wy]using q2,sM⟩
 have HP:=OH hpl;refine mn;obtain⟨bm,hbm⟩:∃b,decide (0<bits .and .u64 x1 128)=b:=⟨_,rfl⟩
 obtain⟨bl,hbl⟩:∃b,decide (0<bits .and .u64 x1 32)=b:=⟨_,rfl⟩
 obtain⟨bs,hbs⟩:∃b,decide (0<bits .and .u64 x1 16)=b:=⟨_,rfl⟩
 obtain⟨p1,hp1⟩:∃b,decide (0<bits .and .u64 x2 128)=b:=⟨_,rfl⟩
 obtain⟨p2,hp2⟩:∃b,decide (0<bits .and .u64 x2 64)=b:=⟨_,rfl⟩
 obtain⟨p3,hp3⟩:∃b,decide (0<bits .and .u64 x2 32)=b:=⟨_,rfl⟩
 obtain⟨p4,hp4⟩:∃b,decide (0<bits .and .u64 x2 16)=b:=⟨_,rfl⟩
 have hpt:∀x:Int,0<=x % 256/\x % 256<=255:=λx=>by omega
 have HPT:=OH (hpt (bits .and .u64 x1 7));have hx:x1=16->bm=false/\bl=false/\bs=true/\bits .and .u64 x1 7 % 256=0:=λq=>by subst q;exact⟨hbm.symm.trans dM,hbl.symm.trans dM,hbs.symm.trans dM,dM⟩
 refine nG;obtain⟨be,hbe⟩:∃b,(e1==0)=b:=⟨_,rfl⟩
 have gbe:(e1 !=0)=!be:=by rw[bne,hbe]
 have hz1l:=dI r1;obtain⟨n,hn⟩:∃n,n=zs.length:=⟨_,rfl⟩
 have HN:=OH hn;have hnl:n<=1000000:=oM;clear hpl hpt hx h hb;go_enter func267,ntmps267;refine ay;have k1:(((w.alloc (.cells #[.slice A zs.length cap] 56)).alloc (.cells (kW Jy) 410)).alloc (.cells #[JI 0,JI 0] 460)).heap[w.heap.size]?=OC #[.slice A zs.length cap] 56:=bZ;have k2:(((w.alloc (.cells #[.slice A zs.length cap] 56)).alloc (.cells (kW Jy) 410)).alloc (.cells #[JI 0,JI 0] 460)).heap[w.heap.size+1]?=OC (kW Jy) 410:=bZ;have k3:(((w.alloc (.cells #[.slice A zs.length cap] 56)).alloc (.cells (kW Jy) 410)).alloc (.cells #[JI 0,JI 0] 460)).heap[w.heap.size+1+1]?=OC #[JI 0,JI 0] 460:=bZ;have hGa:ag af w (((w.alloc (.cells #[.slice A zs.length cap] 56)).alloc (.cells (kW Jy) 410)).alloc (.cells #[JI 0,JI 0] 460)):=bu;generalize (((w.alloc _).alloc _).alloc _)=wa at *;have HNB:=OH (HNC.out _ hGa.none);have K2:=OH k2;have K3:=OH k3;have hGA:=OH hGa;generalize hb1e:w.heap.size=b1 at *;have HB1:=OH hb1e;clear hb1e k2 k3;refine HNB.out.mono ?_;rintro r w1 ⟨c,rfl,hcl,hct,hb1⟩;have k1:=(hb1.block _ (aB k1)).trans k1;have hG1:ag af wa w1:=.of hb1;have HC:=OH ((yn hct).below Ul);have k1:=ai (o:=.cells #[OV c] 193) k1;have k6:=ao w1 (.cells #[OV c] 193) _ rfl;have hG1:ag af wa (w1.alloc (.cells #[OV c] 193)):=hG1.alloc _;have hb6:=hb1.size;have hwa:=aB K3.out;clear hct hb1 hGa;refine ay;generalize w1.alloc _=u1 at *;generalize w1.heap.size=b6 at *;refine(eu HC.out HB.out 1 dM dM 1 rfl r1).mono ?_;rintro r w2 ⟨rfl,hk,hc⟩;have T:=fun {t:TypeId} (ht:t≠274) (i:Nat) (cur:Array Value) (hi:u1.heap[i]?=OC cur t)=>ae hc hi (λq=>eK HC.out ht _ _ q hi)
 have k1:=T dM _ _ k1;have k6:=T dM _ _ k6;have hG2:=hG1.new hc hcl;have HC2:=OH hk;clear T hk hc HC hG1;refine i9;generalize bits .and .u64 x1 7 % 256=pt at *;obtain⟨d8,hd8⟩:∃d:Ds,d=⟨bm,bl,bs,pt,false,false,0,false,0,false,0,false,false,0⟩:=⟨_,rfl⟩
 have k1:=ai (o:=.cells (kW d8) 410) k1;have k6:=ai (o:=.cells (kW d8) 410) k6;have k8:=ao w2 (.cells (kW d8) 410) _ rfl;have hcut3:=HC2.out.below (ag.none bu:aC w2 (w2.alloc (.cells (kW d8) 410)));have hG3:ag af wa (w2.alloc (.cells (kW d8) 410)):=hG2.alloc _;have hb8:=hG2.size;subst hd8;generalize w2.alloc _=u3 at *;generalize w2.heap.size=b8 at *;have HC3:=OH hcut3;have HPZ:=OH (show(∀x:Int,0<=x % 256/\x % 256<=255)from λx=>oM);clear hcut3 HC2 hG2;obtain⟨c1,f1,z1'⟩:=ab k1;refine EY;obtain⟨c8,f8,z8'⟩:=ab k8;go_cut [37] from 30 to 37 (λs wx=>(∃b,s=.bool b/\(b=false->bm=true/\e1=0))/\wx=u3);case first=>
  cases bm with
  |false=>
   refine dr;exact⟨⟨_,rfl,λq=>gZ⟩,rfl⟩
  |true=>have HBE:=OH (show be=true->e1=0 from λq=>by subst q;simpa using hbe);clear hbe;refine ay;refine(jV HC3.out).mono ?_;refine uT;have hw5:=hw4.symm;subst hw5;refine dr;exact⟨⟨_,rfl,λq=>⟨trivial,HBE.out (by revert q;cases be<;>simp)⟩⟩,rfl⟩
 rename_i wc0
 obtain⟨⟨b37,rfl,hb37⟩,hwc⟩:=hcut;refine oJ;cases b37 with
 |true=>
  have hw1:IntKind.i64.wrap ((zs.length:Int)-z1.length)=(zs.length:Int)-z1.length:=kA
  have k2:=ae hG3 K2.out id;have k3:=ae hG3 K3.out id;obtain⟨c2,f2,z2'⟩:=ab k2;obtain⟨c3,f3,z3'⟩:=ab k3;refine gq;refine rg 12 (λw'=>Bk w' b1 #[.slice A zs.length cap] 56/\Bk w' b6 #[OV c] 193/\Bk w' b8 (kW ⟨bm,bl,bs,pt,false,false,0,false,0,false,0,false,false,0⟩) 410) ⟨bk,bk,bk⟩ (λhH=>?_);refine Ce;refine tk 7 ?_;refine lU;refine(mK (HC3.out.below ((ag.refl af u3).drew.none))).mono ?_;refine uT;subst hw4;refine mz;refine tk 6 ?_;refine rW;refine(jV (HC3.out.below ((ag.refl af u3).drew.none))).mono ?_;refine uT;subst hw4;refine mz;refine kB
  skip
  refine mz;refine sm
  skip
  refine mz;refine tk 11 ?_;refine eY;obtain⟨q1,q2,q3⟩:=AR k2 k3 oM (kW ⟨bm,bl,bs,pt,false,false,0,false,0,false,0,false,false,0⟩).toList [JI 0,JI 0] rfl rfl;refine XK;exact⟨⟨bm,bl,bs,pt,false,false,0,false,0,false,0,false,false,0⟩,0,0,_,e1,rfl,uG,λ_=>⟨oM,oM,λq=>gZ,λq=>gZ,λq=>gZ⟩,λy1 y2=>(by
   obtain⟨a1,a2,a3⟩:=HP.out y1 y2;obtain⟨a4,a5,a6,a7⟩:=HX.out a2;exact⟨a1,by rw[a4,a5,a6,a7],oM⟩),(((hGA.out.trans hG3).call q3 (λj hj q=>by have:=HB1.out;omega)).drew).none⟩
 |false=>
  obtain⟨hbm',he1⟩:=hb37 rfl;subst hbm' he1;clear hb37 hbe gbe c1 f1 z1' c6 f6 z6' c8 f8 z8';refine EY;refine ay;refine(eu HC3.out b1' 1 dM dM 1 rfl r2).mono ?_;rintro r w4 ⟨rfl,hk,hc⟩;have T:=fun {t:TypeId} (ht:t≠274) (i:Nat) (cur:Array Value) (hi:u3.heap[i]?=OC cur t)=>ae hc hi (λq=>eK HC3.out ht _ _ q hi)
  have k1:=T dM _ _ k1;have k6:=T dM _ _ k6;have k8:=T dM _ _ k8;have hG4:=hG3.new hc hcl;have k3:=ae hG4 K3.out id;have hwl:=hGA.out.size;have h4:VS w4 w4 b1 b6 (b1+1+1) b8 c A zs.length cap ⟨true,bl,bs,pt,false,false,0,false,0,false,0,false,false,0⟩ 0 0 z2 e2:=⟨k1,k6,k3,k8,hk,b2',⟨by have:=dI r2;omega,hl⟩,uG,ag.refl _ _⟩
  have h5:=h4.set8 4 (.bool p1) ⟨true,bl,bs,pt,p1,false,0,false,0,false,0,false,false,0⟩ rfl uG;have h6:=h5.set8 7 (.bool p2) ⟨true,bl,bs,pt,p1,false,0,p2,0,false,0,false,false,0⟩ rfl uG;have h7:=h6.set8 9 (.bool p3) ⟨true,bl,bs,pt,p1,false,0,p2,0,p3,0,false,false,0⟩ rfl uG;have h8:=h7.set8 12 (.bool p4) ⟨true,bl,bs,pt,p1,false,0,p2,0,p3,0,false,p4,0⟩ rfl uG;have hG8:ag af wa ((((w4.setCell ⟨b8,4,none⟩ (.bool p1)).setCell ⟨b8,7,none⟩ (.bool p2)).setCell ⟨b8,9,none⟩ (.bool p3)).setCell ⟨b8,12,none⟩ (.bool p4)):=(((hG4.set _ (.inr hb8) _).set _ (.inr hb8) _).set _ (.inr hb8) _).set _ (.inr hb8) _;have H8:=OH h8;obtain⟨c8,f8,z8'⟩:=ab k8;refine EY;clear h4 h5 h6 h7 h8 hk hc T HC3;refine uQ;have e8:((((w4.setCell ⟨b8,4,none⟩ (.bool p1)).setCell ⟨b8,7,none⟩ (.bool p2)).setCell ⟨b8,9,none⟩ (.bool p3)).setCell ⟨b8,12,none⟩ (.bool p4)).heap.size=w4.heap.size:=sM;generalize Xa5 (Xa5 _ _ _) _ _=u8 at *;have h9:=VS.swap H8.out (ag.none bu:aC u8 (u8.alloc (.cells #[JI 0,JI 0] 460))) (ao u8 (.cells #[JI 0,JI 0] 460) _ rfl);have hG9:ag af wa (u8.alloc (.cells #[JI 0,JI 0] 460)):=hG8.alloc _;have hb10:=hG8.size;rw[e8]at h9 hb10;generalize u8.alloc _=u9 at *;generalize w4.heap.size=b10 at *;clear e8 hG8;have H9:=OH h9;clear k1 k3 k6 k8 H8 h9 c6 f6 z6' c8 f8 z8';have DPT:=OH (show DsN ⟨true,bl,bs,pt,p1,false,0,p2,0,p3,0,false,p4,0⟩from dsn HPT.out);have k1:=H9.out.h1;have k6:=H9.out.h6;have k10:=H9.out.h10;have k8:=H9.out.h8;refine Ij;go_cut [81,82,83] from 65 to 83 (λs81 s82 s83 wx=>∃T q,s81=.slice (aT T) 3 3/\s82=JI 3/\s83=JI 0/\wx.heap[T]?=OC (tabV p1 p2 q b1 b6 b10 b8) 494/\VS wx wx b1 b6 b10 b8 c A zs.length cap ⟨true,bl,bs,pt,p1,false,0,p2,0,p3,0,false,p4,0⟩ 0 0 z2 e2/\ag af wa wx);case first=>
   cases p3;all_goals
    go_wp2_with fail;go_meet;exact⟨_,_,rfl,rfl,rfl,eM,(H9.out.below jI).self,ag.next hG9 jI⟩
  case rest=>
   obtain⟨T,q,rfl,rfl,rfl,hT,hv,hGc⟩:=hcut;have HT:=OH hT;refine nD;have HGC:=OH hGc;have hne:T≠b10/\T≠b8/\T≠c:=⟨λz=>au hT (show(494:TypeId)≠460 by decide) (z ▸ hv.h10),λz=>au hT (show(494:TypeId)≠410 by decide) (z ▸ hv.h8),λz=>by obtain⟨v,k,_⟩:=hv.cut;exact au hT (show(494:TypeId)≠274 by decide) (z ▸ k)⟩
   have hvi:VI p1 p2 0 zs.length ⟨true,bl,bs,pt,p1,false,0,p2,0,p3,0,false,p4,0⟩ 0 0 z2.length e2:=⟨rfl,rfl,λ_=>rfl,λ_=>⟨λz=>oM,λz=>oM⟩⟩
   have HVI:=OH hvi;clear hT hv hGc hvi k1 k6 k10 k8 c1 f1 z1' c6 f6 z6' c10 f10 z10' c8 f8 z8' H9;generalize hwo:wc=wo at *;clear hwo;refine ay;go_loopw [83] (λi wr=>∃ (k:Nat) (d:Ds) (pc tl:Int) (zr:List Int) (er:Int),i=JI k/\k<=3/\VS wo wr b1 b6 b10 b8 c A zs.length cap d pc tl zr er/\VI p1 p2 k zs.length d pc tl zr.length er) (λi _=>3- (intOf i).toNat);case atStart=>exact⟨0,_,0,0,z2,e2,rfl,oM,HV.out,HVI.out⟩
   case round=>
    obtain⟨k,d,pc,tl,zr,er,rfl,hk,hv,hvi⟩:=hrel;have H:=OH hv;have HVI:=OH hvi;have kT:=ae hv.g HT.out (λz=>oM);obtain⟨cT,fT,zT⟩:=ab kT;clear hv hvi;have hk4:k=0\/k=1\/k=2\/k=3:=oM;rcases hk4 with rfl|rfl|rfl|rfl
    .cases p1
     .refine dA
      case rel=>exact⟨1,d,pc,tl,zr,er,rfl,oM,H.out.below jI,VI.n1 HVI.out⟩
      case measure=>simp[intOf]
     .refine ay
      refine(f301_t (H.out.below jI)).mono ?_;rintro r w5 ⟨rfl,d',pc',tl',zs',e',hv5,hP,hpc,htl,hzl,hez⟩;have H5:=OH hv5;have HV5:=OH (show VI true p2 1 zs.length d' pc' tl' zs'.length e' from VI.s1 HVI.out hP hpc H.out.n.1 hez);clear hv5;refine dA;case rel=>exact⟨1,d',pc',tl',zs',e',rfl,oM,H5.out,HV5.out⟩
      case measure=>simp[intOf]
    .cases p2
     .refine dA
      case rel=>exact⟨2,d,pc,tl,zr,er,rfl,oM,H.out.below jI,VI.n2 HVI.out⟩
      case measure=>simp[intOf]
     .refine ay
      refine(f302_t (H.out.below jI)).mono ?_;rintro r w5 ⟨rfl,d',pc',tl',zs',e',hv5,hP,hpc,htl,hzl,hez⟩;have H5:=OH hv5;have HV5:=OH (show VI p1 true 2 zs.length d' pc' tl' zs'.length e' from VI.s2 HVI.out hP hpc htl H.out.n.1 hzl hez);clear hv5;refine dA;case rel=>exact⟨2,d',pc',tl',zs',e',rfl,oM,H5.out,HV5.out⟩
      case measure=>simp[intOf]
    .cases q
     .refine dA
      case rel=>exact⟨3,d,pc,tl,zr,er,rfl,oM,H.out.below jI,VI.n3 HVI.out⟩
      case measure=>simp[intOf]
     .refine ay
      refine(f303_t (H.out.below jI)).mono ?_;rintro r w5 ⟨rfl,d',pc',tl',zs',e',hv5,hP,hpc,htl,hzl,hez⟩;have H5:=OH hv5;have HV5:=OH (show VI p1 p2 3 zs.length d' pc' tl' zs'.length e' from VI.s3 HVI.out hP hpc htl hzl hez);clear hv5;refine dA;case rel=>exact⟨3,d',pc',tl',zs',e',rfl,oM,H5.out,HV5.out⟩
      case measure=>simp[intOf]
    .have k1:=H.out.h1
     have k6:=H.out.h6;have k10:=H.out.h10;have k8:=H.out.h8;refine Ij;have hGr:ag af wa wr:=HGC.out.call H.out.g (λj hj z=>oM);have k2:=ae hGr K2.out id;have k3:=ae hGr K3.out id;obtain⟨c2,f2,z2'⟩:=ab k2;obtain⟨c3,f3,z3'⟩:=ab k3;have hnz:=H.out.n.1;have hw1:IntKind.i64.wrap ((zs.length:Int)-zr.length)=(zs.length:Int)-zr.length:=kA
     have hGR:=OH hGr;clear kT cT fT zT hGr;go_upto_region 16 with fail;refine rg 12 (λw'=>SW b1 b6 b10 b8 c A zs.length cap d pc tl w') H.out.drew.sw (λhH=>?_);refine Ce;refine tk 7 ?_;refine lU;refine(mK H.out.drew.cut).mono ?_;refine U6;refine tk 6 ?_;refine rW;refine(jV H.out.drew.cut).mono ?_;refine U6;refine kB
     skip
     refine FB;refine sm
     skip
     refine FB;refine tk 11 ?_;refine eY;obtain⟨q1,q2,q3⟩:=AR k2 k3 oM (kW d).toList [JI pc,JI tl] rfl rfl;refine XK;obtain⟨v1,v2,v3,v4⟩:=HVI.out;refine⟨d,pc,tl,_,er,rfl,H.out.d,λq=>?_,λy1 y2=>?_,(((hGA.out.trans hGR.out).call q3 (λj hj q=>by have:=HB1.out;omega)).drew).none⟩
     .obtain⟨u1,u2⟩:=v4 q
      refine⟨oM,oM,λz=>?_,λz=>?_,λz=>?_⟩
      .have hp:p1=true:=by cases p1;exact absurd (v3 (.inr rfl)) (by rw[z];decide);rfl
       have:=u1 dM hp;rw[z]at this;simp at this;omega
      .have:=u1 dM (v1.symm.trans z)
       split at this<;>omega
      .have:=u2 dM (v2.symm.trans z)
       omega
     .obtain⟨a1,a2,a3⟩:=HP.out y1 y2
      exact absurd (HX.out a2).1 dM
end Go.Proofs.YtnpancjkjheffaaGreat
