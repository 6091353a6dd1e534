/- Part 14 of the proof of TopSafe. No condition. -/
import Derived.Test.YtnpancjkjheffaaGreatP11
namespace Go.Proofs.YtnpancjkjheffaaGreat
set_option linter.unusedVariables false
set_option linter.unusedSimpArgs false
set_option maxRecDepth 100000
set_option maxHeartbeats 8000000
open Go.RowKit
open Go.Proofs.Tryz
open IntKind renaming u16->PI,signed->Xa0,wrap->Xa1,bits->Xa2,u32->Xa3,u8->Xa4,i64->Xa5
open _root_.Nat renaming le_of_ble_eq_true->Xa6,testBit_two_pow_mul_add->Xa7,eq_of_testBit_eq->Xa8,testBit_two_pow->Xa9,lt_of_le_of_lt->Xb0,testBit_succ->Xb1,div_add_mod->Xb2,testBit_or->Xb3,le_trans->Xb4
open Region renaming wanted->Xb5,ready->Xb6
open Exit renaming inBlock->Xb7
open _root_.Array renaming getElem?_eq_getElem->Xb8,all_toList->Xb9
open World renaming setCell->Xc0
variable {listed:Array Bool}{c:Array Value}{s:Int}{D M N R S f n:Nat}{X:Nat->Prop}{A:Option Addr}{p:Pk}{t:TypeId}{w w':World}
theorem jS(x:Int):PI.wrap x=x % 65536:=by simp[Xa1,Xa2,Xa0]
theorem BF(x:Int)(h0:0<=x)(h1:x<65536):Xa5.wrap x=x:=qe
theorem ru(a:Nat)(ha:a<65536):(BitVec.ofInt 16 (a:Int)).toNat=a:=by rw[BitVec.toNat_ofInt];omega
theorem lq(a:Nat)(ha:a<65536):PI.wrap (a:Int)=a:=qe
theorem yp(a b:Nat)(ha:a<65536)(hb:b<65536):bits .and .u16 (a:Int) (b:Int)=((a&&&b:Nat):Int):=by show PI.wrap ((BitVec.ofInt 16 (a:Int)&&&BitVec.ofInt 16 (b:Int)).toNat:Int)=_;rw[BitVec.toNat_and,ru a ha,ru b hb];exact lq _ (Xb0 Nat.and_le_left ha)
theorem B4(a b:Nat)(ha:a<65536)(hb:b<65536):bits .or .u16 (a:Int) (b:Int)=((a|||b:Nat):Int):=by show PI.wrap ((BitVec.ofInt 16 (a:Int)|||BitVec.ofInt 16 (b:Int)).toNat:Int)=_;rw[BitVec.toNat_or,ru a ha,ru b hb];exact lq _ (Nat.or_lt_two_pow (n:=16) ha hb)
theorem B7(x:Int)(h0:0<=x)(h1:x<65536):bits .and .u16 x 1=x % 2:=by have:=yp x.toNat 1 oM oM;rw[Nat.and_one_is_mod,show((x.toNat:Nat):Int)=x by omega]at this;rw[show((1:Nat):Int)=1 from rfl]at this;rw[this];omega
theorem or_bit(m i:Nat)(h:m / 2 ^ i % 2=0):m|||2 ^ i=m+2 ^ i:=by
 have hr:m % 2 ^ i<2 ^ i:=Nat.mod_lt _ (Nat.two_pow_pos i);have hm:m=2 ^ i*(2*(m / 2 ^ i / 2))+m % 2 ^ i:=by have h1:=Xb2 m (2 ^ i);have h2:=Xb2 (m / 2 ^ i) 2;rw[h,Nat.add_zero]at h2;rw[h2];exact h1.symm
 generalize m % 2 ^ i=r at *;generalize m / 2 ^ i / 2=q at *;subst hm;rw[show 2 ^ i*(2*q)+r+2 ^ i=2 ^ i*(2*q+1)+r by rw[Nat.mul_add,Nat.mul_one];omega];apply Xa8;intro j;rw[Xb3,Xa9,Xa7 _ hr,Xa7 _ hr];by_cases hj:j<i
 .rw[if_pos hj,if_pos hj]
  simp;omega
 .rw[if_neg hj,if_neg hj]
  by_cases e:i=j
  .subst e
   simp[Nat.testBit_zero,Nat.mul_add_mod]
  .obtain⟨d,hd⟩:∃d,j-i=d+1:=⟨j-i-1,oM⟩
   rw[hd,Xb1,Xb1,show 2*q / 2=q by omega,show(2*q+1) / 2=q by omega];simp[e]
theorem CU(m i:Nat)(h:m / 2 ^ i % 2=1):m|||2 ^ i=m:=by
 apply Xa8;intro j;rw[Xb3,Xa9];by_cases e:i=j
 .subst e
  have:m.testBit i=true:=by rw[Nat.testBit_eq_decide_div_mod_eq];simp[h]
  simp[this]
 .simp[e]
theorem OE(m:Int)(n:Nat)(h0:0<=m)(h1:m<65536)(hn:n<=15):bits .or .u16 m (PI.wrap (2 ^ n))=if m / 2 ^ n % 2=0 then m+2 ^ n else m:=by
 obtain⟨M,rfl⟩:=Int.eq_ofNat_of_zero_le h0;have hp:2 ^ n<65536:=Xb0 (Nat.pow_le_pow_right dM hn) dM;rw[show((2:Int) ^ n)=((2 ^ n:Nat):Int) by simp,lq _ hp,B4 _ _ oM hp];have e:((M:Int) / ((2 ^ n:Nat):Int) % 2)=((M / 2 ^ n % 2:Nat):Int):=sM;rw[e];by_cases h:M / 2 ^ n % 2=0
 .rw[if_pos oM,or_bit _ _ h]
  simp
 .rw[if_neg oM,CU _ _ oM]
namespace Mu
theorem i64_in(x:Int)(h0: -9000000000000000000<=x)(h1:x<=9000000000000000000):Xa5.wrap x=x:=qe
theorem Gv(x:Int):Xa3.wrap x=x % 4294967296:=by simp[Xa1,Xa2,Xa0]
theorem NF(x:Int):Xa4.wrap x=x % 256:=by simp[Xa1,Xa2,Xa0]
theorem O8(x:Int)(w:World)(h0:0<=x)(h1:x<=65535):az 169 #[JS x] w λe w'=>e=aA (JI x)/\w=w':=by
 go_enter func169,ntmps169
 go_wp2
 go_ret;exact gO
theorem lit32(x:Int)(w:World)(h0:0<=x)(h1:x<=4294967295):az 321 #[JT x] w λe w'=>e=aA (JI x)/\w=w':=by
 go_enter func321,ntmps321
 go_wp2
 go_ret;exact gO
theorem lH(a b:Int)(w:World):az 126 #[JS a,JS b,JI 32768] w λe w'=>e=aA (JI (eQ a b))/\w=w':=zq53
theorem Dw(a b:Int)(w:World):az 316 #[JT a,JT b,JI 2147483648] w λe w'=>e=aA (JI (lZ a b))/\w=w':=by
 have hd:0<=(b-a) % 4294967296/\(b-a) % 4294967296<=4294967295:=oM;obtain⟨h0,h1⟩:=hd;have HF:Hid (lZ a b=if 2147483648<=(b-a) % 4294967296 then(b-a) % 4294967296-4294967296 else(b-a) % 4294967296):=OH rfl;go_enter func316,ntmps316;go_wp2_with (go_at_call 321;refine(lit32 _ _ oM oM).mono ?_;rintro e w' ⟨rfl,rfl⟩)
 all_goals
  go_ret;refine⟨lC ?_,rfl⟩;rw[HF.out];first|rw[if_pos aM] |rw[if_neg oM]
theorem lN(a b:Int)(w:World):az 93 #[JS a,JS b] w λe w'=>e=aA (JI (eQ a b))/\w=w':=by refine Ye;go_ret;exact gO
theorem Ef(a b:Int)(w:World):az 304 #[JT a,JT b] w λe w'=>e=aA (JI (lZ a b))/\w=w':=by
 obtain⟨h0,h1⟩:=PQ a b;go_enter func304,ntmps304;go_wp2_with (go_at_call 316;refine(Dw _ _ _).mono ?_;rintro e w' ⟨rfl,rfl⟩)
 go_ret;exact gO
theorem Ee(a b:Int)(w:World):az 273 #[JT a,JT b] w λe w'=>e=aA (.bool (decide (0<lZ a b)))/\w=w':=by
 go_enter func273,ntmps273;go_wp2_with (go_at_call 304;refine(Ef _ _ _).mono ?_;rintro e w' ⟨rfl,rfl⟩)
 go_ret;exact gO
theorem jE(l x:Int)(w:World)(l0: -1152921504606846976<=l)(l1:l<=1152921504606846976) :
  az 220 #[JI l,JS x] w λe w'=>e=aA (JI (bC l x))/\w=w':=by
 refine ZO;go_ret;exact⟨lC (by rw[HN.out]),rfl⟩
end Mu
namespace Mu
theorem xW(n i m:Nu)(w:World)(hr:jc n i=m):az 270 #[.agg #[JS n.seq,JT n.time,JS n.pic,JW n.tl0],.agg #[JS i.seq,JT i.time,JS i.pic,JW i.tl0]] w λe w'=>e=aA (.agg #[JS m.seq,JT m.time,JS m.pic,JW m.tl0])/\aC w w':=by
 subst hr;have H:Hid (Value.agg #[JS (PI.wrap (i.seq-n.seq)),JT (Xa3.wrap (i.time-n.time)),JS (PI.wrap (i.pic-n.pic)),JW (Xa4.wrap (i.tl0-n.tl0))]=.agg #[JS (jc n i).seq,JT (jc n i).time,JS (jc n i).pic,JW (jc n i).tl0]):=OH (by simp only[jS,Gv,NF];rfl);go_enter func270,ntmps270
 go_wp2
 exact Xw
theorem SM(n m:Nu)(step:Int)(w:World)(hr:oY n step=m):az 269 #[.agg #[JS n.seq,JT n.time,JS n.pic,JW n.tl0],JT step] w λe w'=>e=aA (.agg #[JS m.seq,JT m.time,JS m.pic,JW m.tl0])/\aC w w':=by
 subst hr;have H:Hid (Value.agg #[JS (PI.wrap (n.seq+1)),JT (Xa3.wrap (n.time+step)),JS (PI.wrap (n.pic+1)),JW (Xa4.wrap (n.tl0+1))]=.agg #[JS (oY n step).seq,JT (oY n step).time,JS (oY n step).pic,JW (oY n step).tl0]):=OH (by simp only[jS,Gv,NF];rfl);go_enter func269,ntmps269
 go_wp2
 exact Xw
theorem SX(s:St)(i:Nu)(x:Int)(w:World)(hx:mI s i=x)(l0: -1152921504606846976<=s.high)(l1:s.high<=1152921504606846976) :
  az 268 #[.agg #[.bool s.on,JI s.high,JI s.since,JS s.off.seq,JT s.off.time,JS s.off.pic,JW s.off.tl0,JS s.out.seq,JT s.out.time,JS s.out.pic,JW s.out.tl0],.agg #[JS i.seq,JT i.time,JS i.pic,JW i.tl0]] w λe w'=>e=aA (.tuple #[JI x,.bool (decide (x<=s.high))])/\aC w w':=by
 have HX:Hid (bC s.high i.seq=x):=OH hx;go_enter func268,ntmps268;go_wp2_with (go_at_call 220;(with_reducible refine(jE _ _ _ oM oM).mono ?_);rintro e w' ⟨rfl,rfl⟩;rw[HX.out])
 go_region;all_goals
  go_wp2_with fail;go_ret2;exact⟨rfl,gM⟩
end Mu
namespace Mu
theorem switch_eq(s:St)(i o d:Nu)(step:Int)(w:World)(ho:sK s i step=o)(hd:jc o i=d)(i0:0<=i.seq)(i1:i.seq<=65535) :
  az 232 #[.agg #[.bool s.on,JI s.high,JI s.since,JS s.off.seq,JT s.off.time,JS s.off.pic,JW s.off.tl0,JS s.out.seq,JT s.out.time,JS s.out.pic,JW s.out.tl0],.agg #[JS i.seq,JT i.time,JS i.pic,JW i.tl0],JT step] w λe w'=>e=aA (.tuple #[.agg #[.bool true,JI i.seq,JI i.seq,JS d.seq,JT d.time,JS d.pic,JW d.tl0,JS o.seq,JT o.time,JS o.pic,JW o.tl0],.agg #[JS o.seq,JT o.time,JS o.pic,JW o.tl0]])/\aC w w':=by
 refine ku;have hsi:=BF i.seq i0 oM;cases hon:s.on
 .have HO:Hid (i=o):=OH (by rw[←ho];unfold sK;rw[hon];rfl)
  have ho:=HO.out;subst ho;go_enter func232,ntmps232;refine gq;go_region_held3 (λw'=>Bk w' (w.heap.size+1) #[JS i.seq,JT i.time,JS i.pic,JW i.tl0] 373/\Bk w' (w.heap.size+4) #[JS i.seq,JT i.time,JS i.pic,JW i.tl0] 373/\aC w w') ((go_split_ands;exact⟨aO dJ,aO dJ,by first|((repeat(first|(with_reducible exact Below.refl _ _)|(with_reducible apply Below.drew)));done)|go_grown⟩)) (first|(go_at_call 270;go_split_ands;(with_reducible refine(xW _ _ _ _ HD.out).mono ?_);rintro e w2 ⟨rfl,hb⟩;have hB:=aE (w:=w) gM hb;have zS:=hB.size;have hr0:w2.heap[w.heap.size]?=OC #[.bool false,JI s.high,JI s.since,JS s.off.seq,JT s.off.time,JS s.off.pic,JW s.off.tl0,JS s.out.seq,JT s.out.time,JS s.out.pic,JW s.out.tl0] 375:=(hb.block (w.heap.size) fM).trans dJ;have hr1:w2.heap[w.heap.size+1]?=OC #[JS i.seq,JT i.time,JS i.pic,JW i.tl0] 373:=(hb.block (w.heap.size+1) fM).trans dJ;have hr2:w2.heap[w.heap.size+1+1]?=OC #[.bool false,JI 0,JI 0,JS 0,JT 0,JS 0,JW 0,JS 0,JT 0,JS 0,JW 0] 375:=(hb.block (w.heap.size+1+1) fM).trans dJ;have hr3:w2.heap[w.heap.size+1+1+1]?=OC #[JS 0,JT 0,JS 0,JW 0] 373:=(hb.block (w.heap.size+1+1+1) fM).trans dJ;have hr4:w2.heap[w.heap.size+4]?=OC #[JS i.seq,JT i.time,JS i.pic,JW i.tl0] 373:=(hb.block (w.heap.size+4) fM).trans dJ;have zr0:=aB hr0;have zr1:=aB hr1;have zr2:=aB hr2;have zr3:=aB hr3;have zr4:=aB hr4;obtain⟨cr2,fr2,yr2⟩:=ab hr2;obtain⟨cr3,fr3,yr3⟩:=ab hr3))
  all_goals
   go_wp2_with fail;(try simp only[Xb7,Exit.then]);refine sS rfl rfl rfl underlying375 rfl underlying373 rfl rfl ⟨_,_,_,_,qY,kM,qY,kM,?_,gM⟩;exact rfl
 .have HO:Hid (oY s.out step=o):=OH (by rw[←ho];unfold sK;rw[hon];rfl)
  go_enter func232,ntmps232;go_upto_region 5 with(first|(go_at_call 269;(with_reducible refine(SM _ _ _ _ HO.out).mono ?_);rintro e w1 ⟨rfl,hb⟩;(try(have g0:=h0));(try(have g1:=h1));(try(have g2:=h2));(try(have g3:=h3));(try(have g4:=h4));have hB:=aE (w:=w) gM hb;have h0:w1.heap[w.heap.size]?=OC #[.bool true,JI s.high,JI s.since,JS s.off.seq,JT s.off.time,JS s.off.pic,JW s.off.tl0,JS s.out.seq,JT s.out.time,JS s.out.pic,JW s.out.tl0] 375:=(hb.block (w.heap.size) fM).trans dJ;have h1:w1.heap[w.heap.size+1]?=OC #[JS i.seq,JT i.time,JS i.pic,JW i.tl0] 373:=(hb.block (w.heap.size+1) fM).trans dJ;have h2:w1.heap[w.heap.size+1+1]?=OC #[.bool false,JI 0,JI 0,JS 0,JT 0,JS 0,JW 0,JS 0,JT 0,JS 0,JW 0] 375:=(hb.block (w.heap.size+1+1) fM).trans dJ;have h3:w1.heap[w.heap.size+1+1+1]?=OC #[JS 0,JT 0,JS 0,JW 0] 373:=(hb.block (w.heap.size+1+1+1) fM).trans dJ;have h4:w1.heap[w.heap.size+4]?=OC #[JS i.seq,JT i.time,JS i.pic,JW i.tl0] 373:=(hb.block (w.heap.size+4) fM).trans dJ;(try clear g0);obtain⟨c0,f0,z0⟩:=ab h0;(try clear g1);obtain⟨c1,f1,z1⟩:=ab h1;(try clear g2);obtain⟨c2,f2,z2⟩:=ab h2;(try clear g3);obtain⟨c3,f3,z3⟩:=ab h3;(try clear g4);obtain⟨c4,f4,z4⟩:=ab h4))
  go_region_held3 (λw'=>Bk w' (w.heap.size+1) #[JS i.seq,JT i.time,JS i.pic,JW i.tl0] 373/\Bk w' (w.heap.size+4) #[JS o.seq,JT o.time,JS o.pic,JW o.tl0] 373/\aC w w') ((go_split_ands;exact⟨aO dJ,aO dJ,by first|((repeat(first|(with_reducible exact Below.refl _ _)|(with_reducible apply Below.drew)));done)|go_grown⟩)) (first|(go_at_call 270;go_split_ands;(with_reducible refine(xW _ _ _ _ HD.out).mono ?_);rintro e w2 ⟨rfl,hb⟩;have hB:=aE (w:=w) gM hb;have zS:=hB.size;have hr0:w2.heap[w.heap.size]?=OC #[.bool true,JI s.high,JI s.since,JS s.off.seq,JT s.off.time,JS s.off.pic,JW s.off.tl0,JS s.out.seq,JT s.out.time,JS s.out.pic,JW s.out.tl0] 375:=(hb.block (w.heap.size) fM).trans dJ;have hr1:w2.heap[w.heap.size+1]?=OC #[JS i.seq,JT i.time,JS i.pic,JW i.tl0] 373:=(hb.block (w.heap.size+1) fM).trans dJ;have hr2:w2.heap[w.heap.size+1+1]?=OC #[.bool false,JI 0,JI 0,JS 0,JT 0,JS 0,JW 0,JS 0,JT 0,JS 0,JW 0] 375:=(hb.block (w.heap.size+1+1) fM).trans dJ;have hr3:w2.heap[w.heap.size+1+1+1]?=OC #[JS 0,JT 0,JS 0,JW 0] 373:=(hb.block (w.heap.size+1+1+1) fM).trans dJ;have hr4:w2.heap[w.heap.size+4]?=OC #[JS o.seq,JT o.time,JS o.pic,JW o.tl0] 373:=(hb.block (w.heap.size+4) fM).trans dJ;have zr0:=aB hr0;have zr1:=aB hr1;have zr2:=aB hr2;have zr3:=aB hr3;have zr4:=aB hr4;obtain⟨cr2,fr2,yr2⟩:=ab hr2;obtain⟨cr3,fr3,yr3⟩:=ab hr3))
  all_goals
   go_wp2_with fail;(try simp only[Xb7,Exit.then]);refine sS rfl rfl rfl underlying375 rfl underlying373 rfl rfl ⟨_,_,_,_,qY,kM,qY,kM,?_,gM⟩;exact rfl
theorem kS(s:St)(i:Nu)(x:Int)(w:World){on:Bool}(hon:s.on=on)(hx:mI s i=x)(l0: -1152921504606846976<=s.high)(l1:s.high<=1152921504606846976) :
  az 268 #[.agg #[.bool on,JI s.high,JI s.since,JS s.off.seq,JT s.off.time,JS s.off.pic,JW s.off.tl0,JS s.out.seq,JT s.out.time,JS s.out.pic,JW s.out.tl0],.agg #[JS i.seq,JT i.time,JS i.pic,JW i.tl0]] w λe w'=>e=aA (.tuple #[JI x,.bool (decide (x<=s.high))])/\aC w w':=by
 subst hon;exact SX s i x w hx l0 l1
theorem drop_eq(s r:St)(i:Nu)(bg:Bool)(w:World)(hr:gU s i bg=r)(l0: -1000000000000000000<=s.high)(l1:s.high<=1000000000000000000)(q0:0<=s.off.seq)(q1:s.off.seq<=65535) :
  az 226 #[.agg #[.bool s.on,JI s.high,JI s.since,JS s.off.seq,JT s.off.time,JS s.off.pic,JW s.off.tl0,JS s.out.seq,JT s.out.time,JS s.out.pic,JW s.out.tl0],.agg #[JS i.seq,JT i.time,JS i.pic,JW i.tl0],.bool bg] w λe w'=>e=aA (.agg #[.bool r.on,JI r.high,JI r.since,JS r.off.seq,JT r.off.time,JS r.off.pic,JW r.off.tl0,JS r.out.seq,JT r.out.time,JS r.out.pic,JW r.out.tl0])/\aC w w':=by
 subst hr;refine Xp;cases hon:s.on
 .have HR:Hid (gU s i bg=s):=OH (by unfold gU;rw[hon];rfl)
  have HO:=OH hon;have hs:Value.bool s.on=.bool false:=by rw[hon]
  have HV:=OH hs;go_enter func226,ntmps226;go_wp2_with (first|(go_at_call 268;(with_reducible refine(kS s i x _ HO.out HX.out oM oM).mono ?_);rintro e w1 ⟨rfl,hb⟩;(try rw[HO.out]);(try(have g0:=h0));(try(have g1:=h1));(try(have g2:=h2));have hB:=aE (w:=w) gM hb;have h0:w1.heap[w.heap.size]?=OC #[.bool false,JI s.high,JI s.since,JS s.off.seq,JT s.off.time,JS s.off.pic,JW s.off.tl0,JS s.out.seq,JT s.out.time,JS s.out.pic,JW s.out.tl0] 375:=(hb.block (w.heap.size) fM).trans dJ;have h1:w1.heap[w.heap.size+1]?=OC #[JS i.seq,JT i.time,JS i.pic,JW i.tl0] 373:=(hb.block (w.heap.size+1) fM).trans dJ;have h2:w1.heap[w.heap.size+1+1]?=OC #[.bool false,JI 0,JI 0,JS 0,JT 0,JS 0,JW 0,JS 0,JT 0,JS 0,JW 0] 375:=(hb.block (w.heap.size+1+1) fM).trans dJ;(try clear g0);obtain⟨c0,f0,z0⟩:=ab h0;(try clear g1);obtain⟨c1,f1,z1⟩:=ab h1;(try clear g2);obtain⟨c2,f2,z2⟩:=ab h2))
  exact X1
 .have HO:=OH hon
  by_cases hlt:x<=s.high
  .have HR:Hid (gU s i bg=s):=OH (by unfold gU om;rw[HX.out,HO.out,if_neg xM])
   have hd:decide (x<=s.high)=true:=xM;go_enter func226,ntmps226;go_wp2_with (first|(go_at_call 268;(with_reducible refine(kS s i x _ HO.out HX.out oM oM).mono ?_);rintro e w1 ⟨rfl,hb⟩;(try rw[HO.out]);(try(have g0:=h0));(try(have g1:=h1));(try(have g2:=h2));have hB:=aE (w:=w) gM hb;have h0:w1.heap[w.heap.size]?=OC #[.bool true,JI s.high,JI s.since,JS s.off.seq,JT s.off.time,JS s.off.pic,JW s.off.tl0,JS s.out.seq,JT s.out.time,JS s.out.pic,JW s.out.tl0] 375:=(hb.block (w.heap.size) fM).trans dJ;have h1:w1.heap[w.heap.size+1]?=OC #[JS i.seq,JT i.time,JS i.pic,JW i.tl0] 373:=(hb.block (w.heap.size+1) fM).trans dJ;have h2:w1.heap[w.heap.size+1+1]?=OC #[.bool false,JI 0,JI 0,JS 0,JT 0,JS 0,JW 0,JS 0,JT 0,JS 0,JW 0] 375:=(hb.block (w.heap.size+1+1) fM).trans dJ;(try clear g0);obtain⟨c0,f0,z0⟩:=ab h0;(try clear g1);obtain⟨c1,f1,z1⟩:=ab h1;(try clear g2);obtain⟨c2,f2,z2⟩:=ab h2))
   exact X1
  .have hd:decide (x<=s.high)=false:=xM
   have HR:Hid (gU s i bg=⟨true,x,x,o6 s.off bg,s.out⟩):=OH (by unfold gU om;rw[HX.out,HO.out,if_pos xM]);have HW:=OH (jS (s.off.seq+1));have HP:=OH (jS (s.off.pic+1));cases bg;all_goals
    go_enter func226,ntmps226;go_wp2_with (first|(go_at_call 268;(with_reducible refine(kS s i x _ HO.out HX.out oM oM).mono ?_);rintro e w1 ⟨rfl,hb⟩;(try rw[HO.out]);(try(have g0:=h0));(try(have g1:=h1));(try(have g2:=h2));have hB:=aE (w:=w) gM hb;have h0:w1.heap[w.heap.size]?=OC #[.bool true,JI s.high,JI s.since,JS s.off.seq,JT s.off.time,JS s.off.pic,JW s.off.tl0,JS s.out.seq,JT s.out.time,JS s.out.pic,JW s.out.tl0] 375:=(hb.block (w.heap.size) fM).trans dJ;have h1:w1.heap[w.heap.size+1]?=OC #[JS i.seq,JT i.time,JS i.pic,JW i.tl0] 373:=(hb.block (w.heap.size+1) fM).trans dJ;have h2:w1.heap[w.heap.size+1+1]?=OC #[.bool false,JI 0,JI 0,JS 0,JT 0,JS 0,JW 0,JS 0,JT 0,JS 0,JW 0] 375:=(hb.block (w.heap.size+1+1) fM).trans dJ;(try clear g0);obtain⟨c0,f0,z0⟩:=ab h0;(try clear g1);obtain⟨c1,f1,z1⟩:=ab h1;(try clear g2);obtain⟨c2,f2,z2⟩:=ab h2))
    (try simp only[Xb7,Exit.then]);refine ju rfl rfl underlying375 rfl rfl ⟨_,_,qY,kM,?_,gM⟩;refine pG ?_;rw[HR.out];simp only[o6,HW.out,HP.out];rfl
end Mu
namespace Mu
def Sent(r:St×Nu×Bool)(e:Ending):Prop:=e=aA (.tuple #[.agg #[.bool r.1.on,JI r.1.high,JI r.1.since,JS r.1.off.seq,JT r.1.off.time,JS r.1.off.pic,JW r.1.off.tl0,JS r.1.out.seq,JT r.1.out.time,JS r.1.out.pic,JW r.1.out.tl0],.agg #[JS r.2.1.seq,JT r.2.1.time,JS r.2.1.pic,JW r.2.1.tl0],.bool r.2.2])
theorem wR{r:St×Nu×Bool}{s:St}{m:Nu}{is:Bool}{e:Ending}(h:r=(s,m,is))(he:e=aA (.tuple #[.agg #[.bool s.on,JI s.high,JI s.since,JS s.off.seq,JT s.off.time,JS s.off.pic,JW s.off.tl0,JS s.out.seq,JT s.out.time,JS s.out.pic,JW s.out.tl0],.agg #[JS m.seq,JT m.time,JS m.pic,JW m.tl0],.bool is])):Sent r e:=by subst h;exact he
set_option maxRecDepth 100000 in
theorem send_any(s:St)(i:Nu)(w:World)(l0: -1000000000000000000<=s.high)(l1:s.high<=1000000000000000000) :
  az 235 #[.agg #[.bool s.on,JI s.high,JI s.since,JS s.off.seq,JT s.off.time,JS s.off.pic,JW s.off.tl0,JS s.out.seq,JT s.out.time,JS s.out.pic,JW s.out.tl0],.agg #[JS i.seq,JT i.time,JS i.pic,JW i.tl0]] w λe w'=>Sent (ef s i) e/\aC w w':=by
 refine Xp;obtain⟨d,hd⟩:∃d,jc s.off i=d:=⟨_,rfl⟩
 refine ku;cases hon:s.on
 .have HR:Hid (ef s i=(s,nu0,false)):=OH (by unfold ef oZ;rw[hon];rfl)
  have HO:=OH hon;go_enter func235,ntmps235;go_wp2_with (first|(go_at_call 268;(with_reducible refine(kS s i x _ HO.out HX.out oM oM).mono ?_);rintro e w1 ⟨rfl,hb⟩;(try(have g0:=h0));(try(have g1:=h1));(try(have g2:=h2));(try(have g3:=h3));have hB:=aE (w:=w) gM hb;have h0:w1.heap[w.heap.size]?=OC #[.bool false,JI s.high,JI s.since,JS s.off.seq,JT s.off.time,JS s.off.pic,JW s.off.tl0,JS s.out.seq,JT s.out.time,JS s.out.pic,JW s.out.tl0] 375:=(hb.block (w.heap.size) fM).trans dJ;have h1:w1.heap[w.heap.size+1]?=OC #[JS i.seq,JT i.time,JS i.pic,JW i.tl0] 373:=(hb.block (w.heap.size+1) fM).trans dJ;have h2:w1.heap[w.heap.size+1+1]?=OC #[.bool false,JI 0,JI 0,JS 0,JT 0,JS 0,JW 0,JS 0,JT 0,JS 0,JW 0] 375:=(hb.block (w.heap.size+1+1) fM).trans dJ;have h3:w1.heap[w.heap.size+1+1+1]?=OC #[JS 0,JT 0,JS 0,JW 0] 373:=(hb.block (w.heap.size+1+1+1) fM).trans dJ;(try clear g0);obtain⟨c0,f0,z0⟩:=ab h0;(try clear g1);obtain⟨c1,f1,z1⟩:=ab h1;(try clear g2);obtain⟨c2,f2,z2⟩:=ab h2;(try clear g3);obtain⟨c3,f3,z3⟩:=ab h3))
  exact YU
 .have HO:=OH hon
  by_cases hlt:x<=s.high
  .have hd:decide (x<=s.high)=true:=xM
   have hsl:decide (s.high<x)=false:=xM;by_cases hsi:x<=s.since
   .have hd2:decide (x<=s.since)=true:=xM
    have HR:Hid (ef s i=(s,nu0,false)):=OH (by unfold ef oZ;rw[HO.out,HX.out,hd,hd2];rfl);go_enter func235,ntmps235;go_wp2_with (first|(go_at_call 268;(with_reducible refine(kS s i x _ HO.out HX.out oM oM).mono ?_);rintro e w1 ⟨rfl,hb⟩;(try(have g0:=h0));(try(have g1:=h1));(try(have g2:=h2));(try(have g3:=h3));have hB:=aE (w:=w) gM hb;have h0:w1.heap[w.heap.size]?=OC #[.bool true,JI s.high,JI s.since,JS s.off.seq,JT s.off.time,JS s.off.pic,JW s.off.tl0,JS s.out.seq,JT s.out.time,JS s.out.pic,JW s.out.tl0] 375:=(hb.block (w.heap.size) fM).trans dJ;have h1:w1.heap[w.heap.size+1]?=OC #[JS i.seq,JT i.time,JS i.pic,JW i.tl0] 373:=(hb.block (w.heap.size+1) fM).trans dJ;have h2:w1.heap[w.heap.size+1+1]?=OC #[.bool false,JI 0,JI 0,JS 0,JT 0,JS 0,JW 0,JS 0,JT 0,JS 0,JW 0] 375:=(hb.block (w.heap.size+1+1) fM).trans dJ;have h3:w1.heap[w.heap.size+1+1+1]?=OC #[JS 0,JT 0,JS 0,JW 0] 373:=(hb.block (w.heap.size+1+1+1) fM).trans dJ;(try clear g0);obtain⟨c0,f0,z0⟩:=ab h0;(try clear g1);obtain⟨c1,f1,z1⟩:=ab h1;(try clear g2);obtain⟨c2,f2,z2⟩:=ab h2;(try clear g3);obtain⟨c3,f3,z3⟩:=ab h3))
    exact YU
   .have hd2:decide (x<=s.since)=false:=xM
    have HR:Hid (ef s i=(s,d,true)):=OH (by unfold ef oZ CT om;rw[HO.out,HX.out,hd,hd2,HD.out,hsl];rfl);refine zq4;case rest=>
     refine Z1;refine ay;go_region;all_goals
      go_wp2_with fail;(try simp only[Xb7,Exit.then]);refine jt rfl rfl rfl underlying375 rfl underlying373 rfl rfl ⟨_,_,_,_,qY,kM,qY,kM,?_,gM⟩;exact wR HR.out (by rw[HO.out];rfl)
  .have hd:decide (x<=s.high)=false:=xM
   have hsl:decide (s.high<x)=true:=xM;have HR:Hid (ef s i=(⟨true,x,s.since,s.off,⟨d.seq,if 0<lZ d.time s.out.time then s.out.time else d.time,d.pic,d.tl0⟩⟩,⟨d.seq,if 0<lZ d.time s.out.time then s.out.time else d.time,d.pic,d.tl0⟩,true)):=OH (by unfold ef oZ CT om vH;rw[HO.out,HX.out,hd,HD.out,hsl];rfl)
   by_cases hL:0<lZ d.time s.out.time
   .rw[if_pos hL]at HR
    have HL:Hid (decide (0<lZ d.time s.out.time)=true):=OH (by simpa using hL);refine zq4;case rest=>
     refine X6;go_cut [] (λwx=>wx.heap[w.heap.size]?=OC #[.bool true,JI x,JI s.since,JS s.off.seq,JT s.off.time,JS s.off.pic,JW s.off.tl0,JS d.seq,JT s.out.time,JS d.pic,JW d.tl0] 375/\wx.heap[w.heap.size+1+1]?=OC #[.bool false,JI 0,JI 0,JS 0,JT 0,JS 0,JW 0,JS 0,JT 0,JS 0,JW 0] 375/\wx.heap[w.heap.size+1+1+1]?=OC #[JS 0,JT 0,JS 0,JW 0] 373/\wx.heap[g]?=OC #[JS d.seq,JT s.out.time,JS d.pic,JW d.tl0] 373/\aC w wx);case first=>exact Vd
     case rest=>exact Z3
   .rw[if_neg hL]at HR
    have HL:Hid (decide (0<lZ d.time s.out.time)=false):=OH (by simpa using hL);refine zq4;case rest=>
     refine X6;go_cut [] (λwx=>wx.heap[w.heap.size]?=OC #[.bool true,JI x,JI s.since,JS s.off.seq,JT s.off.time,JS s.off.pic,JW s.off.tl0,JS d.seq,JT d.time,JS d.pic,JW d.tl0] 375/\wx.heap[w.heap.size+1+1]?=OC #[.bool false,JI 0,JI 0,JS 0,JT 0,JS 0,JW 0,JS 0,JT 0,JS 0,JW 0] 375/\wx.heap[w.heap.size+1+1+1]?=OC #[JS 0,JT 0,JS 0,JW 0] 373/\wx.heap[g]?=OC #[JS d.seq,JT d.time,JS d.pic,JW d.tl0] 373/\aC w wx);case first=>exact Vd
     case rest=>exact Z3
end Mu
namespace Ch
def ofB(on:Bool)(f l xf xl:Int):Bool:=on&& (xf==f&&xl==l)
def tidF(t:Int)(bg wh ht:Bool)(xt:Int)(sy:Bool)(wt:Int):Int:=
 if bg=false then t else if wh=true\/wt<t then wt else if ht=true/\sy=true/\t<xt/\xt<=wt then xt else t
def eG(on:Bool)(f l t xf xl:Int)(bg wh ht:Bool)(xt:Int)(sy:Bool)(wf wl wt:Int):Bool×Int×Int×Int×Int:=
 if ofB on f l xf xl=true then
  let t':=tidF t bg wh ht xt sy wt
  (on,f,l,t',if ht=true/\t'<xt then 2 else 1)
 else if xf=wf/\xl=wl/\bg=true/\wh=true then(true,wf,wl,wt,3)
 else(on,f,l,t,0)
end Ch
namespace Ch
theorem OO(on:Bool)(f l t xf xl:Int)(w:World) :
  az 237 #[.agg #[.bool on,JI f,JI l,JI t],.agg #[JI xf,JI xl]] w λe w'=>e=aA (.bool (ofB on f l xf xl))/\aC w w':=by
 go_enter func237,ntmps237
 go_wp2
 all_goals
  go_ret;refine⟨Bf ?_,gM⟩;simp only[ofB]
  simp_all
theorem RD(on:Bool)(f l t xf xl:Int)(bg wh ht:Bool)(xt:Int)(sy:Bool)(wf wl wt:Int)(w:World) :
  az 274 #[.agg #[.bool on,JI f,JI l,JI t],.agg #[JI xf,JI xl,.bool bg,.bool wh,.bool ht,JI xt,.bool sy],.agg #[JI wf,JI wl,JI wt]] w
   λe w'=>e=aA (JI (tidF t bg wh ht xt sy wt))/\aC w w':=by
 go_enter func274,ntmps274
 go_wp2
 all_goals
  go_ret;refine⟨lC ?_,gM⟩;unfold tidF;first
   |(simp_all;done)
   |(simp_all;omega)
theorem asks_any(on:Bool)(f l t wf wl wt:Int)(w:World) :
  az 180 #[.agg #[.bool on,JI f,JI l,JI t],.agg #[JI wf,JI wl,JI wt]] w λe w'=>e=aA (.bool (!ofB on f l wf wl))/\aC w w':=by
 go_enter func180,ntmps180;go_wp2_with (go_at_call 237;(with_reducible refine(OO _ _ _ _ _ _ _).mono ?_);rintro e w1 ⟨rfl,hb⟩;have hB:=aE (w:=w) gM hb)
 go_ret;exact ql
end Ch
namespace Ch
def TookB(r:Bool×Int×Int×Int×Int)(e:Ending):Prop:=
 e=aA (.tuple #[.agg #[.bool r.1,JI r.2.1,JI r.2.2.1,JI r.2.2.2.1],JI r.2.2.2.2])
theorem AV(on:Bool)(f l t xf xl:Int)(bg wh ht:Bool)(xt:Int)(sy:Bool)(wf wl wt:Int)(w:World) :
  az 236 #[.agg #[.bool on,JI f,JI l,JI t],.agg #[JI xf,JI xl,.bool bg,.bool wh,.bool ht,JI xt,.bool sy],.agg #[JI wf,JI wl,JI wt]] w
   λe w'=>TookB (eG on f l t xf xl bg wh ht xt sy wf wl wt) e/\aC w w':=by
 go_enter func236,ntmps236;go_wp2_with (first
  |(go_at_call 237;(with_reducible refine(OO _ _ _ _ _ _ _).mono ?_);rintro e w1 ⟨rfl,hb⟩;(try(have g0:=h0));(try(have g1:=h1));(try(have g2:=h2));(try(have g3:=h3));(try(have g4:=h4));have hB:=aE (w:=w) gM hb;have h0:w1.heap[w.heap.size]?=OC #[.bool on,JI f,JI l,JI t] 371:=(hb.block (w.heap.size) fM).trans gD;have h1:w1.heap[w.heap.size+1]?=OC #[JI xf,JI xl,.bool bg,.bool wh,.bool ht,JI xt,.bool sy] 416:=(hb.block (w.heap.size+1) fM).trans gD;have h2:w1.heap[w.heap.size+1+1]?=OC #[JI wf,JI wl,JI wt] 304:=(hb.block (w.heap.size+1+1) fM).trans gD;have h3:w1.heap[w.heap.size+1+1+1]?=OC #[.bool false,JI 0,JI 0,JI 0] 371:=(hb.block (w.heap.size+1+1+1) fM).trans gD;have h4:w1.heap[w.heap.size+1+1+1+1]?=OC #[JI xf,JI xl] 428:=(hb.block (w.heap.size+1+1+1+1) fM).trans gD;(try clear g0);obtain⟨c0,f0,z0⟩:=ab h0;(try clear g1);obtain⟨c1,f1,z1⟩:=ab h1;(try clear g2);obtain⟨c2,f2,z2⟩:=ab h2;(try clear g3);obtain⟨c3,f3,z3⟩:=ab h3;(try clear g4);obtain⟨c4,f4,z4⟩:=ab h4)
  |(go_at_call 274;(with_reducible refine(RD _ _ _ _ _ _ _ _ _ _ _ _ _ _ _).mono ?_);rintro e w1 ⟨rfl,hb⟩;(try(have g0:=h0));(try(have g1:=h1));(try(have g2:=h2));(try(have g3:=h3));(try(have g4:=h4));have hB:=aE (w:=w) gM hb;have h0:w1.heap[w.heap.size]?=OC #[.bool on,JI f,JI l,JI t] 371:=(hb.block (w.heap.size) fM).trans gD;have h1:w1.heap[w.heap.size+1]?=OC #[JI xf,JI xl,.bool bg,.bool wh,.bool ht,JI xt,.bool sy] 416:=(hb.block (w.heap.size+1) fM).trans gD;have h2:w1.heap[w.heap.size+1+1]?=OC #[JI wf,JI wl,JI wt] 304:=(hb.block (w.heap.size+1+1) fM).trans gD;have h3:w1.heap[w.heap.size+1+1+1]?=OC #[.bool false,JI 0,JI 0,JI 0] 371:=(hb.block (w.heap.size+1+1+1) fM).trans gD;have h4:w1.heap[w.heap.size+1+1+1+1]?=OC #[JI xf,JI xl] 428:=(hb.block (w.heap.size+1+1+1+1) fM).trans gD;(try clear g0);obtain⟨c0,f0,z0⟩:=ab h0;(try clear g1);obtain⟨c1,f1,z1⟩:=ab h1;(try clear g2);obtain⟨c2,f2,z2⟩:=ab h2;(try clear g3);obtain⟨c3,f3,z3⟩:=ab h3;(try clear g4);obtain⟨c4,f4,z4⟩:=ab h4))
 all_goals
  (try simp only[Xb7,Exit.then]);refine bQ rfl rfl underlying371 rfl rfl ⟨_,_,ur,kM,?_,gM⟩
  go_light
  unfold TookB eG;refine pG ?_;first
   |(simp_all;done)
   |(rw[if_pos aM];simp_all;omega)
end Ch
theorem lx(g:Nat)(t:TypeId)(vs:List Value):∀ (w:World) (k:Nat) (l:List Value),w.heap[g]?=OC l.toArray t->k+vs.length<=l.length->(aR w g k vs).heap[g]?=OC (l.take k++vs++l.drop (k+vs.length)).toArray t:=by
 induction vs with
 |nil=>
  intro w k l h hk;simpa[aR]using h
 |cons v vs ih=>
  intro w k l h hk;simp only[List.length_cons]at hk;have h1:=av k v h;rw[List.setIfInBounds_toArray]at h1;have h2:=ih _ (k+1) (l.set k v) h1 xM;rw[show(l.set k v).take (k+1)++vs++(l.set k v).drop (k+1+vs.length)=l.take k++v::vs++l.drop (k+(v::vs).length) by rw[List.take_add_one,List.take_set_of_le (Nat.le_refl _),List.getElem?_set_self oM,List.drop_set_of_lt oM];simp[Nat.add_assoc,Nat.add_comm 1]]at h2
  exact h2
structure oz where
 on:Bool
 f:Int
 l:Int
 t:Int
 st:Mu.St
 c0:Int
 c1:Int
 c2:Int
 c3:Int
 c4:Int
abbrev me(s:Mu.St):List Value:=[.bool s.on,JI s.high,JI s.since,JS s.off.seq,JT s.off.time,JS s.off.pic,JW s.off.tl0,JS s.out.seq,JT s.out.time,JS s.out.pic,JW s.out.tl0]
abbrev JA(s:Int)(S:Nat)(x:oz):Array Value:=#[JT s,.bool x.on,JI x.f,JI x.l,JI x.t,.bool x.st.on,JI x.st.high,JI x.st.since,JS x.st.off.seq,JT x.st.off.time,JS x.st.off.pic,JW x.st.off.tl0,JS x.st.out.seq,JT x.st.out.time,JS x.st.out.pic,JW x.st.out.tl0,OV S,JI x.c0,JI x.c1,JI x.c2,JI x.c3,JI x.c4]
abbrev JB:oz:=⟨false,0,0,0,Mu.st0,0,0,0,0,0⟩
def gL(w:World)(N S R M n:Nat):Prop:=∃B E t m K rg,St.dk w S R M B E n t m K rg/\m<=N/\∀p∈K,p.2.length<=40000/\aG p.2
structure dC(w:World)(N D S R M n:Nat)(s:Int)(x:oz):Prop where
 d:w.heap[D]?=OC (JA s S x) 379
 k:gL w N S R M n
 st:x.st.Ok (65536*((N:Int)+1))
 s:0<=s/\s<=4294967295
 n:1<=n/\n<=4096
abbrev iB(D S R M:Nat):Nat->Prop:=λj=>j=D\/j=S\/j=R\/j=M
theorem gL.chg(h:gL w N S R M n)(hc:ag X w w')(h1:¬X S)(h2:¬X R)(h3:¬X M)(h5:jF X w):gL w' N S R M n:=by obtain⟨B,E,t,m,K,rg,h,hm,hk⟩:=h;refine⟨B,E,t,m,K,rg,⟨ae hc h.s h1,ae hc h.r h2,h.rl,h.rw,h.map.same (hc.block _ h.map.lt h3),h.kl,λj hj=>?_,h.bS,h.bR,h.bM,Xb4 h.bw hc.size,Xb4 h.ew hc.size⟩,hm,hk⟩;obtain⟨re,a1,a2,a3⟩:=h.ent j hj;exact⟨re,a1,a2,a3.kept λg c _ hg=>ae hc hg (λq=>h5 _ _ q hg)⟩
theorem gL.ne(h:gL w N S R M n)(hD:w.heap[D]?=OC c t)(ht:t≠243/\t≠430):S≠D/\R≠D/\M≠D:=by obtain⟨B,E,t',m,K,rg,h,-,-⟩:=h;exact⟨λq=>au hD ht.1 (q ▸ h.s),λq=>au hD ht.2 (q ▸ h.r),h.map.not_cells hD⟩
theorem gL.mono{N':Nat}(h:gL w N S R M n)(hN:N<=N'):gL w N' S R M n:=by obtain⟨B,E,t',m,K,rg,h,a,b⟩:=h;exact⟨B,E,t',m,K,rg,h,oM,b⟩
theorem St.aQ.chg{B:Nat}(h:St.aQ S R M B w w'):ag (λj=>j=S\/j=R\/j=M) w w':=⟨h.below.os,h.below.tape,h.below.output,h.size,λj hj hn=>by have:=Xb8 hj;rw[this];exact h.other j _ this (λq=>hn (.inl q)) (λq=>hn (.inr (.inl q))) (λq=>hn (.inr (.inr q)))⟩
theorem gL.add(h:gL w N S R M n)(hn:1<=n/\n<=4096)(hN:N<=100000)(q:Int)(q0:0<=q/\q<=65535)(A:Option Addr)(cap:Nat)(zs:List Int)(hl:zs.length<=40000)(hby:aG zs)(hA:bd w A .u8 zs) :
  az 272 #[OV S,JS q,.slice A zs.length cap] w λe w'=>e=aA (.tuple #[])/\gL w' (N+1) S R M n/\ag (λj=>j=S\/j=R\/j=M) w w':=by
 obtain⟨B,E,t,m,K,rg,h,hm,hk⟩:=h;refine(St.add_t w S R M B E n t m K rg h hn.1 hn.2 q q0.1 q0.2 A cap zs oM hA oM).mono ?_;rintro e w' ⟨rfl,⟨rg',h'⟩,hmv⟩;refine⟨rfl,⟨B,E,_,_,_,rg',h',oM,λp hp=>?_⟩,hmv.chg⟩;unfold St.iz at hp;split at hp
 .refine EI
  .exact hk p (List.mem_of_mem_tail q)
  .refine iH
   exact⟨hl,hby⟩
 .refine EI
  .exact hk p q
  .refine iH
   exact⟨hl,hby⟩
section
variable {w w':World}{N N' D S R M n:Nat}{s:Int}{x:oz}
theorem dC.chg(h:dC w N D S R M n s x)(hc:ag X w w')(hx:∀j,X j->¬iB D S R M j)(h5:jF X w):dC w' N D S R M n s x:=
 ⟨ae hc h.d (λq=>hx _ q (.inl rfl)),h.k.chg hc (λq=>hx _ q (.inr (.inl rfl))) (λq=>hx _ q (.inr (.inr (.inl rfl)))) (λq=>hx _ q (.inr (.inr (.inr rfl)))) h5,h.st,h.s,h.n⟩
theorem dC.below(h:dC w N D S R M n s x)(hb:aC w w'):dC w' N D S R M n s x:=h.chg (X:=af) (.of hb) (λ_ q=>q.elim) iF
theorem dC.mono(h:dC w N D S R M n s x)(hN:N<=N'):dC w N' D S R M n s x:=⟨h.d,h.k.mono hN,⟨J9,Ka,h.st.off,h.st.out⟩,h.s,h.n⟩
theorem dC.row(h:dC w N D S R M n s x)(k:Nat)(vs:List Value)(x':oz)(hk:k+vs.length<=22)(hx:(JA s S x).toList.take k++vs++(JA s S x).toList.drop (k+vs.length)=(JA s S x').toList)(hst:x'.st.Ok (65536*((N:Int)+1))):dC (aR w D k vs) N D S R M n s x'/\ag (iB D S R M) w (aR w D k vs):=by have hc:ag (λj=>j=D) w (aR w D k vs):=ax (S:=λj=>j=D) (.inl rfl) vs w k dp;have h1:=lx D 379 vs w k (JA s S x).toList h.d hk;rw[hx]at h1;obtain⟨a,b,c⟩:=h.k.ne h.d dM;exact⟨⟨h1,h.k.chg hc a b c (ci h.d dM),hst,h.s,h.n⟩,hc.mono λj _ q=> .inl q⟩
end
theorem TE(w:World)(n:Nat)(s k:Int)(hk:k=n)(hn:1<=n/\n<=4096)(hs:0<=s/\s<=4294967295):az 156 #[JT s,JI k] w λe w'=>∃D S R M,e=aA (OV D)/\dC w' 0 D S R M n s JB/\(∀j,iB D S R M j->w.heap.size<=j)/\aC w w':=by
 subst hk;go_enter func156,ntmps156;refine ay;refine(St.new_t n n rfl w hn.1 hn.2).mono ?_;rintro r w1 ⟨S,R,M,rfl,hs1,hb1⟩;have hd:dC (w1.alloc (.cells (JA s S JB) 379)) 0 w1.heap.size S R M n s JB:=⟨ao _ _ _ rfl,⟨_,_,_,_,_,_,hs1.below jI,oM,sM⟩,Mu.st0_ok _ oM,hs,hn⟩
 refine ku;have hge:=hb1.size;have hg:∀j,iB w1.heap.size S R M j->w.heap.size<=j:=λj q=>by
  rcases q with q|q|q|q
  .omega
  .rw[q]
   exact hs1.bS
  .rw[q]
   exact hs1.bR
  .rw[q]
   exact hs1.bM
 have HG:=OH hg;refine bj;exact⟨_,S,R,M,rfl,HD.out,HG.out,ag.none (ag.alloc (.of hb1) _)⟩
abbrev py(nu:Mu.Nu):Array Value:=#[JS nu.seq,JT nu.time,JS nu.pic,JW nu.tl0]
def JZ(w:World)(N D S R M n:Nat)(s:Int)(P:oz->Prop)(is:Bool->Prop)(e:Ending)(w':World):Prop:=∃A cap zs b x',e=aA (.tuple #[.slice A zs.length cap,.bool b])/\is b/\BR w' 0 (.slice A zs.length cap) zs/\aG zs/\zs.length<=40000/\dC w' (N+1) D S R M n s x'/\P x'/\ag (iB D S R M) w w'
def jD(x x':oz):Prop:=x'.on=x.on/\x'.f=x.f/\x'.l=x.l/\x'.t=x.t
theorem St.far5_kept(h:gL w N S R M n):jF (λj=>j=S\/j=R\/j=M) w:=λj cur q hj=>by
 obtain⟨B,E,t',m,K,rg,h,a,b⟩:=h;rcases q with q|q|q
 .exact au h.s dM (q ▸ hj)
 .exact au h.r dM (q ▸ hj)
 .exact h.map.not_cells hj q.symm
theorem xZ{x:oz}(h:dC w N D S R M n s x):jF (iB D S R M) w:=λj cur q hj=>by
 rcases q with q|q
 .exact au h.d dM (q ▸ hj)
 .exact St.far5_kept h.k j cur q hj
theorem Ja{k:IntKind}{zs:List Int}(h:bd w A k zs):bd w.drew A k zs:=h
theorem Hh{x:oz}{nu:Mu.Nu}(h:dC w N D S R M n s x)(hN:N<=100000)(hp:yD w p)(hnu:nu.Ok) :
  az 233 #[OV D,.agg (ij p).toArray,.agg (py nu)] w (JZ w N D S R M n s (jD x) (λb=>b=true)):=by
 refine rS;have HNU:=OH hnu;have hwr:=λ(W:World) (hb:aC w W)=>NB (hp.zs.below hb) hp.b (by have:=hp.n.zs;omega) ⟨hnu.p0,hnu.p1⟩ ⟨hnu.l0,hnu.l1⟩
 have HWR:=OH hwr;clear h hp hnu hwr;go_enter func233,ntmps233;refine ay;refine(HWR.out _ jI).mono ?_;rintro r w1 ⟨A1,c1,z1,e1,rfl,hz1,hb1,hl1,hbw⟩;have kP:w1.heap[w.heap.size]?=OC (ij p).toArray 58:=(hbw.block _ xM).trans bZ;have kN:w1.heap[w.heap.size+1]?=OC (py nu) 373:=(hbw.block _ sM).trans bZ;have hG1:ag af w w1:=ag.next bu hbw;have HZ1:=OH hz1;have kD:=(H.out.below hG1.none).d;have hPl:=aB kP;clear hz1 hbw;generalize hPw:w.heap.size=P at *;obtain⟨cP,fP,zP⟩:=ab kP;obtain⟨cN,fN,zN⟩:=ab kN;obtain⟨cD,fD,zD⟩:=ab kD;have hDP:D<P:=by rw[←hPw];exact aB H.out.d
 have HPW:=OH hPw;clear hPw;refine gq;have hle:w.heap.size<=P:=by have:=HPW.out;omega
 have kP5:((((w1.setCell ⟨P,7,none⟩ (.slice A1 z1.length c1)).setCell ⟨P,2,none⟩ (JS nu.seq)).setCell ⟨P,3,none⟩ (JT nu.time)).setCell ⟨P,4,none⟩ (JT s)).heap[P]?=OC (ij {p with seq:=nu.seq,time:=nu.time,ssrc:=s,a3:=A1,c3:=c1,zs:=z1}).toArray 58:=bZ;have kN5:((((w1.setCell ⟨P,7,none⟩ (.slice A1 z1.length c1)).setCell ⟨P,2,none⟩ (JS nu.seq)).setCell ⟨P,3,none⟩ (JT nu.time)).setCell ⟨P,4,none⟩ (JT s)).heap[P+1]?=OC (py nu) 373:=bZ;have hcP:ag (λj=>j=P) w1 ((((w1.setCell ⟨P,7,none⟩ (.slice A1 z1.length c1)).setCell ⟨P,2,none⟩ (JS nu.seq)).setCell ⟨P,3,none⟩ (JT nu.time)).setCell ⟨P,4,none⟩ (JT s)):=(((ag.set (S:=λj=>j=P) dp ⟨P,7,none⟩ (.inl rfl) _).set ⟨P,2,none⟩ (.inl rfl) _).set ⟨P,3,none⟩ (.inl rfl) _).set ⟨P,4,none⟩ (.inl rfl) _;have hG5:=hG1.new hcP hle;have hpz:=HZ1.out.chg hcP (ci kP dM);generalize Xc0 (Xc0 _ _ _) _ _=u5 at *;have hn:=HP.out.n;have hpk:=HP.out.below hG5.none;have hp':yD u5 {p with seq:=nu.seq,time:=nu.time,ssrc:=s,a3:=A1,c3:=c1,zs:=z1}:=⟨⟨hn.ty,⟨HNU.out.s0,HNU.out.s1⟩,⟨HNU.out.t0,HNU.out.t1⟩,H.out.s,hn.cs,hn.xs,by have:=hn.zs;dsimp only;omega,hn.pad⟩,hpk.cs,hpk.xs,hpk.x,hpz,hb1⟩
 have HPQ:=OH (NZ hp');have H5:=OH (H.out.below hG5.none);clear kP kN kD cP fP zP cN fN zN cD fD zD hpz hpk hp' hG1 hcP;obtain⟨cP,fP,zP⟩:=ab kP5;refine ay;refine HPQ.out.mono ?_;rintro r w2 ⟨v2,err,zr,rfl,⟨A2',k2,c2',rfl,hnil⟩,hok,-,hb2⟩;obtain⟨A2,c2,z2,hv2,hz2,hby2,hl2⟩:∃A c z,Value.slice A2' k2 c2'=.slice A (List.length z) c/\BR w2 0 (.slice A z.length c) z/\aG z/\z.length<=40000:=by
  by_cases he:err=0
  .obtain⟨ho,hby,hl⟩:=hok he
   obtain⟨_,_,hq⟩:=aj ho;simp only[Value.slice.injEq]at hq;obtain⟨-,rfl,-⟩:=hq;exact⟨A2',c2',zr,rfl,(mR ho).mono kn,hby,hl⟩
  .obtain⟨rfl,rfl,rfl⟩:=hnil he
   exact⟨none,0,[],rfl,eq _ _,λz hz=>absurd hz sM,sM⟩
 rw[hv2];have hG2:ag af w w2:=hG5.next hb2;have kN2:=(hb2.block _ (aB kN5)).trans kN5;have H2:=OH (H5.out.below hb2);have HZ2:=OH hz2;have HI2:=OH (Ja (iD hz2));have kD2:=H2.out.d;clear hv2 hok hnil hb2 cP fP zP kP5 kN5 hz2 HPQ;obtain⟨cN,fN,zN⟩:=ab kN2;obtain⟨cD,fD,zD⟩:=ab kD2;refine nJ;refine rg 7 (λw'=>Bk w' D (JA s S x) 379/\Bk w' (P+1) (py nu) 373) ⟨bk,bk⟩ (λhH=>?_);refine qU;refine oL;refine((H2.out.below ((ag.refl af w2).drew.none)).k.add H.out.n hN nu.seq ⟨HNU.out.s0,HNU.out.s1⟩ A2 c2 z2 oM hby2 HI2.out).mono ?_;rintro r w3 ⟨rfl,hk3,hc3⟩;refine oK;have hd3:=H2.out.d;have hne:=H2.out.k.ne hd3 dM;have hc23:ag (λj=>j=S\/j=R\/j=M) w2 w3:=(ag.refl _ w2).drew.trans hc3;have kD3:=ae hc23 hd3 (λq=>q.elim (λq=>hne.1 q.symm) (λq=>q.elim (λq=>hne.2.1 q.symm) (λq=>hne.2.2 q.symm)));have h3:dC w3 (N+1) D S R M n s x:=⟨kD3,hk3,by have:=H.out.st;exact⟨by have:=this.h0;omega,by have:=this.h1;omega,this.off,this.out⟩,H.out.s,H.out.n⟩
 have HH3:=OH h3;have hz3:=HZ2.out.chg hc23 (St.far5_kept H2.out.k);have HZ3:=OH hz3;have hG3:ag (iB D S R M) w w3:=(hG2.mono (λ_ _ q=>q.elim)).trans (hc23.mono λj _ q=> .inr q);clear cN fN zN cD fD zD hd3 hk3 hc3 hc23 h3 hz3 kN2 kD2;obtain⟨cD,fD,zD⟩:=ab kD3;refine df;obtain⟨h4,hc4⟩:=HH3.out.row 17 [JI (wrap64 (x.c0+1))] {x with c0:=wrap64 (x.c0+1)} sM rfl HH3.out.st;exact⟨A2,c2,z2,true,_,rfl,rfl,HZ3.out.chg hc4 (xZ HH3.out),hby2,hl2,h4,⟨rfl,rfl,rfl,rfl⟩,hG3.trans hc4⟩
theorem oR(g:Nat)(vs:List Value):∀ (w:World) (k:Nat),w.setCells g k vs=aR w g k vs:=by
 induction vs with
 |nil=>
  intro w k;rfl
 |cons v vs ih=>intro w k;exact ih _ _
theorem AS{b o:Nat}{l:Array Value}(hb:w.heap[b]?=OC l t)(hn:o+n<=l.size):w.there b o n:=λj hj=>by obtain⟨h1,h2,_⟩:=ab hb;exact⟨by rw[h1,Xb8 (by omega)];rfl,h2 _⟩
section
variable {P:Program}{md:Region.Mode}{l:List Oper}{Q:Exit->Act->World->Prop}{op:Oper}{a:Act}{w:World}{K:Act->World->Prop}{ty t:TypeId}{x y:Operand}{b o:Nat}{cells old:Array Value}
theorem st(hb:w.heap[b]?=OC old t)(h:K (a.put op.dst undef) (aR w b o cells.toList))(ho:op.op=.store ty x y:=by rfl)(hx:a.eval x=.pointer (some ⟨b,o,none⟩):=by rfl)(hy:a.eval y=.agg cells:=by rfl)(hn:o+cells.size<=old.size:=by exact Nat.le_of_ble_eq_true rfl)(hi:(P.info? ty).map (·.size)=some cells.size:=by kernel_rfl)(h1:cells.toList.all (·.oneCell')=true:=by rfl)(hw:Region.wanted op (yielded l.toArray a.tmps)=true:=by rfl) :
  if Region.wanted op (yielded l.toArray a.tmps)=true then Oper.wp P op a w K Q else K (a.put op.dst undef) w:=by
 rw[if_pos hw];exact wp_store_mid ty x y ho b o cells hx hy (AS hb hn) hi (by rw[←Xb9];exact h1) (by rw[oR];exact h)
theorem lst{S:World->Prop}(hb:w.heap[b]?=OC old t)(h:Q .normal (a.put op.dst undef) (aR w b o cells.toList))(hl:l[n]?=some op:=by rfl)(hk:((List.range n).all (λk=>listed.getD k true)&&decide (Region.ready md l.toArray listed=[n])&&decide (Region.ready md l.toArray (listed.setIfInBounds n true)=[]))=true:=by kernel_rfl)(ho:op.op=.store ty x y:=by rfl)(hx:a.eval x=.pointer (some ⟨b,o,none⟩):=by rfl)(hy:a.eval y=.agg cells:=by rfl)(hn:o+cells.size<=old.size:=by exact Nat.le_of_ble_eq_true rfl)(hi:(P.info? ty).map (·.size)=some cells.size:=by kernel_rfl)(h1:cells.toList.all (·.oneCell')=true:=by rfl)(hw:Region.wanted op (yielded l.toArray a.tmps)=true:=by rfl):cq P md l.toArray Q S n 1 0 listed a w:=
 la (λK hK=>st hb (hK _ _ h) ho hx hy hn hi h1 hw) hl hk
theorem ons{S:World->Prop}{g:Nat}(i:Nat)(hb:w.heap[b]?=OC old t)(hS:S (aR w b o cells.toList))(h:S (aR w b o cells.toList)->cq P md l.toArray Q S n g f (listed.setIfInBounds i true) (a.put op.dst undef) (aR w b o cells.toList))(hl:l[i]?=some op:=by rfl)(hr:Region.ready md l.toArray listed=[i]:=by kernel_rfl)(hin:i<n:=by decide)(ho:op.op=.store ty x y:=by rfl)(hx:a.eval x=.pointer (some ⟨b,o,none⟩):=by rfl)(hy:a.eval y=.agg cells:=by rfl)(hn:o+cells.size<=old.size:=by exact Nat.le_of_ble_eq_true rfl)(hi:(P.info? ty).map (·.size)=some cells.size:=by kernel_rfl)(h1:cells.toList.all (·.oneCell')=true:=by rfl)(hw:Region.wanted op (yielded l.toArray a.tmps)=true:=by rfl):cq P md l.toArray Q S n g (f+1) listed a w:=
 one_h hl hr hin (λK hK=>st hb (hK _ _ hS h) ho hx hy hn hi h1 hw)
theorem QO{S:World->Prop}(h:Q .normal (a.put op.dst (a.eval x)) w)(hl:l[n]?=some op:=by rfl)(hk:((List.range n).all (λk=>listed.getD k true)&&decide (Region.ready md l.toArray listed=[n])&&decide (Region.ready md l.toArray (listed.setIfInBounds n true)=[]))=true:=by kernel_rfl)(ho:op.op=.assign x:=by rfl)(hw:Region.wanted op (yielded l.toArray a.tmps)=true:=by rfl):cq P md l.toArray Q S n 1 0 listed a w:=
 la (λK hK=>by rw[if_pos hw];unfold Oper.wp execOp;simp only[ho];exact hK _ _ h) hl hk
theorem stl{ops:Array Oper}{rest:List Oper}(hb:w.heap[b]?=OC old t)(h:wpList P ops Q rest (a.put op.dst undef) (aR w b o cells.toList))(ho:op.op=.store ty x y:=by rfl)(hx:a.eval x=.pointer (some ⟨b,o,none⟩):=by rfl)(hy:a.eval y=.agg cells:=by rfl)(hn:o+cells.size<=old.size:=by exact Nat.le_of_ble_eq_true rfl)(hi:(P.info? ty).map (·.size)=some cells.size:=by kernel_rfl)(h1:cells.toList.all (·.oneCell')=true:=by rfl)(hgd:op.guard=none:=by rfl):wpList P ops Q (op::rest) a w:=
 wpList_store_mid hgd ty x y ho b o cells hx hy (AS hb hn) hi (by rw[←Xb9];exact h1) (by rw[oR];exact h)
end
def Tyd(w:World)(A:Option Addr)(n:Nat)(t:TypeId):Prop:=0<n->∀ad,A=some ad->∃cur,w.heap[ad.block]?=OC cur t
theorem Tyd.chg{S:Nat->Prop}(h:Tyd w A n t)(hc:ag S w w')(ho:gk S t w):Tyd w' A n t:=λh0 ad e=>by obtain⟨cur,hq⟩:=h h0 ad e;exact⟨cur,ae hc hq (λq=>ho _ _ q hq)⟩
theorem dV.chg{S:Nat->Prop}{c:Nat}{xs:List Value}(h:dV w A n c xs)(hn:xs≠ []->0<n)(ht:Tyd w A n t)(hc:ag S w w')(ho:gk S t w)(hA:∀ad,A=some ad->xs≠ []->∃g off,ad=⟨g,off,none⟩):dV w' A n c xs:=
 ⟨h.1,λad had j u hu=>by obtain⟨cur,hq⟩:=ht (hn (λe=>by rw[e]at hu;simp at hu)) ad had;obtain⟨g,off,rfl⟩:=hA ad had (λe=>by rw[e]at hu;simp at hu);have:=h.2 _ had j u hu;rw[Addr.add_lit]at this ⊢;rw[(ab (ae hc hq (λq=>ho _ _ q hq))).1,←(ab hq).1];exact this⟩
structure yC(w:World)(p:Pk):Prop where
 k:yD w p
 c:Tyd w p.a1 p.cs.length 52
 e:Tyd w p.a2 p.xs.length 287
theorem yC.chg{S:Nat->Prop}(h:yC w p)(hc:ag S w w')(h1:gk S 52 w)(h2:gk S 287 w)(h5:jF S w):yC w' p:=
 ⟨⟨h.k.n,⟨h.k.cs.1.chg (λq=>by cases hz:p.cs with|nil=>rw[hz]at q;exact absurd rfl q|cons a l=>simp) h.c hc h1 (λad e q=>h.k.cs.2.2 ad e λe2=>q (by rw[e2];rfl)),h.k.cs.2⟩,⟨h.k.xs.s.chg (λq=>by cases hz:p.xs with|nil=>rw[hz]at q;exact absurd rfl q|cons a l=>simp) h.e hc h2 (λad e q=>h.k.xs.a ad e λe2=>q (by rw[e2];rfl)),h.k.xs.n,h.k.xs.a⟩,λx hx=>(h.k.x x hx).chg hc h5,h.k.zs.chg hc h5,h.k.b⟩,h.c.chg hc h1,h.e.chg hc h2⟩
theorem yC.below(h:yC w p)(hb:aC w w'):yC w' p:=h.chg (S:=af) (.of hb) (λ_ _ q=>q.elim) (λ_ _ q=>q.elim) iF
section
variable {P:Program}{md:Region.Mode}{l:List Oper}{Q:Exit->Act->World->Prop}{S:World->Prop}{n g:Nat}
theorem tr(i j k:Nat){oi oj ok:Oper}{a:Act}(hi:l[i]?=some oi:=by rfl)(hj:l[j]?=some oj:=by rfl)(hk:l[k]?=some ok:=by rfl)(hr:Region.ready md l.toArray listed=[i,j,k]:=by kernel_rfl)(hin:i<n:=by decide)(hjn:j<n:=by decide)(hkn:k<n:=by decide)(h1:∀K':Act->World->Prop,Shut (∀a w,S w->(S w->cq P md l.toArray Q S n g f (listed.setIfInBounds i true) a w)->K' a w)->if Region.wanted oi (yielded l.toArray a.tmps)=true then Oper.wp P oi a w K' Q else K' (a.put oi.dst undef) w)(h2:∀K':Act->World->Prop,Shut (∀a w,S w->(S w->cq P md l.toArray Q S n g f (listed.setIfInBounds j true) a w)->K' a w)->if Region.wanted oj (yielded l.toArray a.tmps)=true then Oper.wp P oj a w K' Q else K' (a.put oj.dst undef) w)(h3:∀K':Act->World->Prop,Shut (∀a w,S w->(S w->cq P md l.toArray Q S n g f (listed.setIfInBounds k true) a w)->K' a w)->if Region.wanted ok (yielded l.toArray a.tmps)=true then Oper.wp P ok a w K' Q else K' (a.put ok.dst undef) w) :
  cq P md l.toArray Q S n g (f+1) listed a w:=by
 refine⟨by rw[hr];simp,λq hq=>?_⟩;rw[hr]at hq;rcases List.mem_cons.1 hq with rfl|hq
 .exact Wx
 .rcases List.mem_cons.1 hq with rfl|hq
  .exact Xs
  .rw[List.mem_singleton]at hq
   subst hq;exact⟨hkn,wpOp_step rG (λK' hK=>h3 K' (λa w hS hW=>hK a w ⟨hS,hW hS⟩))⟩
end
section
variable {w:World}{N D S R M n b nb ib pb:Nat}{s:Int}{x:oz}{p:Pk}{nu:Mu.Nu}
theorem eC(h:dC w N D S R M n s x)(hb:w.heap[b]?=OC c t)(ht:t≠379/\t≠243/\t≠430:=by decide):¬iB D S R M b:=λq=>by
 rcases q with q|q
 .exact au hb ht.1 (q ▸ h.d)
 .obtain⟨a1,a2,a3⟩:=h.k.ne hb ht.2
  rcases q with q|q|q
  .exact a1 q.symm
  .exact a2 q.symm
  .exact a3 q.symm
theorem sZ(h:dC w N D S R M n s x)(ht:t≠379/\t≠243/\t≠430:=by decide):gk (iB D S R M) t w:=λj cur q hj=>eC h hj ht q
theorem pk_dn(hp:yC w p)(h:dC w N D S R M n s x)(hc:ag (iB D S R M) w w'):yC w' p:=hp.chg hc (sZ h) (sZ h) (xZ h)
theorem IH{s:Mu.St}{i:Mu.Nu}(h:s.out.Ok)(q:(Mu.ef s i).2.2=true):(Mu.ef s i).2.1.Ok:=by
 unfold Mu.ef at *;split
 .split<;>exact Mu.SD h
 .rename_i h1
  rw[if_neg h1]at q;cases q
theorem OM{r:Mu.St}(h:r.Ok (65536*((N:Int)+1)+65536)):r.Ok (65536*(((N+1:Nat):Int)+1)):=⟨by have:=h.h0;omega,by have:=h.h1;omega,h.off,h.out⟩
theorem f229_t(h:dC w N D S R M n s x)(hb:w.heap[b]?=OC #[OV D] 78):az 229 #[OV b] w (JZ w N D S R M n s (jD x) (λb=>b=false)):=by refine bI;have hD:=h.d;refine EQ;refine zy;go_enter func229,ntmps229;refine df;obtain⟨h4,hc4⟩:=H.out.row 18 [JI (wrap64 (x.c1+1))] {x with c1:=wrap64 (x.c1+1)} sM rfl H.out.st;exact⟨none,0,[],false,_,rfl,rfl,eq _ _,λz hz=>absurd hz sM,sM,h4.mono oM,⟨rfl,rfl,rfl,rfl⟩,hc4⟩
theorem f230_t{iv:List Value}{bg:Bool}(h:dC w N D S R M n s x)(hN:N<=100000)(hnu:nu.Ok)(hb:w.heap[b]?=OC #[OV D] 78)(hnb:w.heap[nb]?=OC (py nu) 373)(hib:w.heap[ib]?=OC iv.toArray 416)(hbg:iv[2]?=some (.bool bg)) :
  az 230 #[OV b,OV nb,OV ib] w (JZ w N D S R M n s (jD x) (λb=>b=false)):=by
 refine bI;have hD:=h.d;obtain⟨r,hr⟩:∃r,Mu.gU x.st nu bg=r:=⟨_,rfl⟩
 have hdr:=λW=>Mu.drop_eq x.st r nu bg W hr J9 Ka h.st.off.s0 h.st.off.s1
 have HDR:=OH hdr;have HRO:=OH (hr ▸ Mu.dropF_ok (i:=nu) (b:=bg) h.st);obtain⟨cib,fib,zib⟩:=ab hib;have cib2:w.cell? ⟨ib,2,none⟩=some (.bool bg):=by rw[cib];simpa using hbg
 have hne:D≠ib:=λq=>au hD (show(379:TypeId)≠416 by decide) (q ▸ hib)
 go_enter func230,ntmps230;refine ay;refine rg 11 (λw'=>Bk w' b #[OV D] 78/\Bk w' nb (py nu) 373/\Bk w' D (JA s S x) 379/\w'.cell? ⟨ib,2,none⟩=some (.bool bg)) ⟨bk,bk,bk,cib2⟩ (λhH=>?_);refine qU;refine tk 7 ?_;refine rW;refine(HDR.out _).mono ?_;rintro r' w2 ⟨rfl,hb2⟩;have hc2:ag af w w2:=ag.next bu hb2;have hb':=ae hc2 hb id;have hnb':=ae hc2 hnb id;have hD':=ae hc2 hD id;have cib2':=(hb2.cell (p:=⟨ib,2,none⟩) (by simpa using zib)).trans cib2;obtain⟨cD,fD,zD⟩:=ab hD';refine hK.out _ _ ⟨bk,bk,bk,cib2'⟩ (λhH=>?_);refine bV;refine gN;refine tk 10 ?_;refine je;obtain⟨h4,hc4⟩:=((H.out.below hc2.none).mono yP).row 5 (me r) {x with st:=r} sM rfl (OM HRO.out);simp only[aR]at h4 hc4;generalize Xc0 (Xc0 _ _ _) _ _=u at *;have hb4:=ae hc4 hb' (eC (H.out.below hc2.none) hb');have hD4:=h4.d;have H4:=OH h4;have HC4:=OH ((hc2.mono λ_ _ q=>q.elim:ag (iB D S R M) w w2).trans hc4);obtain⟨cb,fb,zb⟩:=ab hb4;obtain⟨cD,fD,zD⟩:=ab hD4;refine df;obtain⟨h5,hc5⟩:=H4.out.row 19 [JI (wrap64 (x.c2+1))] {x with st:=r,c2:=wrap64 (x.c2+1)} sM rfl H4.out.st;exact⟨none,0,[],false,_,rfl,rfl,eq _ _,λz hz=>absurd hz sM,sM,h5,⟨rfl,rfl,rfl,rfl⟩,HC4.out.trans hc5⟩
theorem f231_t(h:dC w N D S R M n s x)(hN:N<=99999)(hnu:nu.Ok)(hp:yC w p)(hb:w.heap[b]?=OC #[OV D] 78)(hnb:w.heap[nb]?=OC (py nu) 373)(hpb:w.heap[pb]?=OC (ij p).toArray 58) :
  az 231 #[OV b,OV nb,OV pb] w (JZ w (N+1) D S R M n s (jD x) (λb=>b=true)):=by
 refine bI;have hD:=h.d;obtain⟨o,ho⟩:∃o,Mu.sK x.st nu 3000=o:=⟨_,rfl⟩
 obtain⟨d,hd⟩:∃d,Mu.jc o nu=d:=⟨_,rfl⟩
 have hsw:=λW=>Mu.switch_eq x.st nu o d 3000 W ho hd hnu.s0 hnu.s1
 have HSW:=OH hsw;have hro:Mu.St.Ok ⟨true,nu.seq,nu.seq,d,o⟩ (65536*(((N+1:Nat):Int)+1)):=by have:=Mu.switchF_ok (s:=x.st) (t:=3000) (B:=65536*(((N+1:Nat):Int)+1)) hnu oM;unfold Mu.wP at this;rw[ho,hd]at this;exact this
 have HRO:=OH hro;have HOO:=OH (show o.Ok from hro.out);refine nL;have hG:ag af w w:=ag.refl _ _;have hnbl:=aB hnb;go_enter func231,ntmps231;refine kx;go_cut [5,6] from 7 to 15 (λs5 s6 wx=>∃V5 V6,s5=OV V5/\s6=OV V6/\wx.heap[V5]?=OC (me ⟨true,nu.seq,nu.seq,d,o⟩).toArray 375/\wx.heap[V6]?=OC (py o) 373/\ag af w wx);case first=>
  refine rl 12 (λw'=>Bk w' b #[OV D] 78/\Bk w' nb (py nu) 373/\Bk w' D (JA s S x) 379) (λw0_ hc0=>?_);refine Wu;refine tr 5 9 10 (h1:=λK hK=>?_) (h2:=oa (λV5 w2_ hV5 hc2 hlV5=>?_)) (h3:=oa (λV6 w3_ hV6 hc3 hlV6=>?_))
  .skip
   refine uX;rintro r' w1_ ⟨rfl,hbq⟩;refine XN;refine bV;refine mj;refine bo 9 10 (h1:=oa (λV5 w4_ hV5 hc4 hlV5=>?_)) (h2:=oa (λV6 w5_ hV6 hc5 hlV6=>?_))
   .skip
    refine XQ;refine on 10 ?_;refine Y6;have hcs:=ax (S:=λj=>j=V5) (.inl rfl) (me ⟨true,nu.seq,nu.seq,d,o⟩) w6_ 0 dp;refine Ih;have hc6:=ax (S:=λj=>j=V6) (.inl rfl) (py o).toList (aR w6_ V5 0 (me ⟨true,nu.seq,nu.seq,d,o⟩)) 0 dp;exact Im
   .skip
    refine XP;refine on 9 ?_;refine Y7;have hcs:=ax (S:=λj=>j=V5) (.inl rfl) (me ⟨true,nu.seq,nu.seq,d,o⟩) w7_ 0 dp;refine Ih;have hc6:=ax (S:=λj=>j=V6) (.inl rfl) (py o).toList (aR w7_ V5 0 (me ⟨true,nu.seq,nu.seq,d,o⟩)) 0 dp;exact Im
  .skip
   refine XM;refine bo 5 10 (h1:=λK hK=>?_) (h2:=oa (λV6 w9_ hV6 hc9 hlV6=>?_))
   .skip
    refine uX;rintro r' w8_ ⟨rfl,hbq⟩;refine YQ;refine bV;refine mj;refine on 10 ?_;refine Zb;have hcs:=ax (S:=λj=>j=V5) (.inl rfl) (me ⟨true,nu.seq,nu.seq,d,o⟩) w10_ 0 dp;refine Ih;have hc6:=ax (S:=λj=>j=V6) (.inl rfl) (py o).toList (aR w10_ V5 0 (me ⟨true,nu.seq,nu.seq,d,o⟩)) 0 dp;exact Im
   .skip
    refine Y5;rintro r' w11_ ⟨rfl,hbq⟩;refine Zh;refine bV;refine mj;have hcs:=ax (S:=λj=>j=V5) (.inl rfl) (me ⟨true,nu.seq,nu.seq,d,o⟩) w11_ 0 dp;refine Ih;have hc6:=ax (S:=λj=>j=V6) (.inl rfl) (py o).toList (aR w11_ V5 0 (me ⟨true,nu.seq,nu.seq,d,o⟩)) 0 dp;exact Im
  .skip
   refine XO;refine bo 5 9 (h1:=λK hK=>?_) (h2:=oa (λV5 w13_ hV5 hc13 hlV5=>?_))
   .skip
    refine uX;rintro r' w12_ ⟨rfl,hbq⟩;refine YW;refine bV;refine mj;refine on 9 ?_;refine Za;have hcs:=ax (S:=λj=>j=V5) (.inl rfl) (me ⟨true,nu.seq,nu.seq,d,o⟩) w14_ 0 dp;refine Ih;have hc6:=ax (S:=λj=>j=V6) (.inl rfl) (py o).toList (aR w14_ V5 0 (me ⟨true,nu.seq,nu.seq,d,o⟩)) 0 dp;exact Im
   .skip
    refine Y9;rintro r' w15_ ⟨rfl,hbq⟩;refine Zk;refine bV;refine mj;have hcs:=ax (S:=λj=>j=V5) (.inl rfl) (me ⟨true,nu.seq,nu.seq,d,o⟩) w15_ 0 dp;refine Ih;have hc6:=ax (S:=λj=>j=V6) (.inl rfl) (py o).toList (aR w15_ V5 0 (me ⟨true,nu.seq,nu.seq,d,o⟩)) 0 dp;exact Im
 case rest=>obtain⟨V5,V6,rfl,rfl,h5,h6,hG⟩:=hcut;refine Xv;obtain⟨h8,hc8⟩:=((H.out.below hG.none).mono yP).row 5 (me ⟨true,nu.seq,nu.seq,d,o⟩) {x with st:=⟨true,nu.seq,nu.seq,d,o⟩} sM rfl HRO.out;refine zq99;change Code.wp _ _ _ _ (aR wc D 5 (me ⟨true,nu.seq,nu.seq,d,o⟩));generalize aR wc D 5 (me ⟨true,nu.seq,nu.seq,d,o⟩)=u at *;refine WM;refine ay;refine(Hh H8.out oM HPK.out.k HOO.out).mono ?_;refine ZL;exact⟨A,cap,zs,true,x',rfl,rfl,q1,q2,q3,q4,q5,q6⟩
theorem f234_t(h:dC w N D S R M n s x)(hN:N<=99999)(hnu:nu.Ok)(hp:yC w p)(hb:w.heap[b]?=OC #[OV D] 78)(hnb:w.heap[nb]?=OC (py nu) 373)(hpb:w.heap[pb]?=OC (ij p).toArray 58) :
  az 234 #[OV b,OV nb,OV pb] w (JZ w (N+1) D S R M n s (jD x) (λ_=>True)):=by
 refine bI;have hD:=h.d;obtain⟨⟨s',o,is⟩,hr⟩:∃r,Mu.ef x.st nu=r:=⟨_,rfl⟩
 have hsw:=λW=>Mu.send_any x.st nu W J9 Ka
 rw[hr]at hsw;have HSW:=OH hsw;have hro:s'.Ok (65536*(((N+1:Nat):Int)+1)):=by have:=OM (Mu.sendF_ok (i:=nu) h.st);rw[hr]at this;exact this
 have HRO:=OH hro;have HOO:=OH (show is=true->o.Ok from λq=>by have:=IH (s:=x.st) (i:=nu) h.st.out (by rw[hr];exact q);rw[hr]at this;exact this)
 refine nL;have hG:ag af w w:=ag.refl _ _;have hnbl:=aB hnb;go_enter func234,ntmps234;refine kx;go_cut [5,6,7] from 8 to 17 (λs5 s6 s7 wx=>∃V5 V6,s5=OV V5/\s6=OV V6/\s7=.bool is/\wx.heap[V5]?=OC (me s').toArray 375/\wx.heap[V6]?=OC (py o) 373/\ag af w wx);case first=>
  refine rl 14 (λw'=>Bk w' b #[OV D] 78/\Bk w' nb (py nu) 373/\Bk w' D (JA s S x) 379) (λw0_ hc0=>?_);refine Wu;refine tr 5 10 11 (h1:=λK hK=>?_) (h2:=oa (λV5 w2_ hV5 hc2 hlV5=>?_)) (h3:=oa (λV6 w3_ hV6 hc3 hlV6=>?_))
  .skip
   refine uX;rintro r' w1_ ⟨hse,hbq⟩;refine Ax;refine XN;refine qD;refine bo 10 11 (h1:=oa (λV5 w4_ hV5 hc4 hlV5=>?_)) (h2:=oa (λV6 w5_ hV6 hc5 hlV6=>?_))
   .skip
    refine XQ;refine on 11 ?_;refine Y6;have hcs:=ax (S:=λj=>j=V5) (.inl rfl) (me s') w6_ 0 dp;refine vD;have hc6:=ax (S:=λj=>j=V6) (.inl rfl) (py o).toList (aR w6_ V5 0 (me s')) 0 dp;exact Io
   .skip
    refine XP;refine on 10 ?_;refine Y7;have hcs:=ax (S:=λj=>j=V5) (.inl rfl) (me s') w7_ 0 dp;refine vD;have hc6:=ax (S:=λj=>j=V6) (.inl rfl) (py o).toList (aR w7_ V5 0 (me s')) 0 dp;exact Io
  .skip
   refine XM;refine bo 5 11 (h1:=λK hK=>?_) (h2:=oa (λV6 w9_ hV6 hc9 hlV6=>?_))
   .skip
    refine uX;rintro r' w8_ ⟨hse,hbq⟩;refine Ax;refine YQ;refine qD;refine on 11 ?_;refine Zb;have hcs:=ax (S:=λj=>j=V5) (.inl rfl) (me s') w10_ 0 dp;refine vD;have hc6:=ax (S:=λj=>j=V6) (.inl rfl) (py o).toList (aR w10_ V5 0 (me s')) 0 dp;exact Io
   .skip
    refine Y5;rintro r' w11_ ⟨hse,hbq⟩;refine Ax;refine Zh;refine qD;have hcs:=ax (S:=λj=>j=V5) (.inl rfl) (me s') w11_ 0 dp;refine vD;have hc6:=ax (S:=λj=>j=V6) (.inl rfl) (py o).toList (aR w11_ V5 0 (me s')) 0 dp;exact Io
  .skip
   refine XO;refine bo 5 10 (h1:=λK hK=>?_) (h2:=oa (λV5 w13_ hV5 hc13 hlV5=>?_))
   .skip
    refine uX;rintro r' w12_ ⟨hse,hbq⟩;refine Ax;refine YW;refine qD;refine on 10 ?_;refine Za;have hcs:=ax (S:=λj=>j=V5) (.inl rfl) (me s') w14_ 0 dp;refine vD;have hc6:=ax (S:=λj=>j=V6) (.inl rfl) (py o).toList (aR w14_ V5 0 (me s')) 0 dp;exact Io
   .skip
    refine Y9;rintro r' w15_ ⟨hse,hbq⟩;refine Ax;refine Zk;refine qD;have hcs:=ax (S:=λj=>j=V5) (.inl rfl) (me s') w15_ 0 dp;refine vD;have hc6:=ax (S:=λj=>j=V6) (.inl rfl) (py o).toList (aR w15_ V5 0 (me s')) 0 dp;exact Io
 case rest=>
  obtain⟨V5,V6,rfl,rfl,rfl,h5,h6,hG⟩:=hcut;refine Xv;obtain⟨h8,hc8⟩:=((H.out.below hG.none).mono yP).row 5 (me s') {x with st:=s'} sM rfl HRO.out;refine zq99;change Code.wp _ _ _ _ (aR wc D 5 (me s'));generalize aR wc D 5 (me s')=u at *;refine WM;cases is with
  |false=>
   have hD8:=H8.out.d;obtain⟨cD,fD,zD⟩:=ab hD8;refine df;obtain⟨h9,hc9⟩:=H8.out.row 20 [JI (wrap64 (x.c3+1))] {x with st:=s',c3:=wrap64 (x.c3+1)} sM rfl H8.out.st;exact⟨none,0,[],false,_,rfl,trivial,eq _ _,λz hz=>absurd hz sM,sM,h9.mono oM,⟨rfl,rfl,rfl,rfl⟩,HC8.out.trans hc9⟩
  |true=>refine ay;refine(Hh H8.out oM HPK.out.k (HOO.out trivial)).mono ?_;refine ZL;exact⟨A,cap,zs,true,x',rfl,trivial,q1,q2,q3,q4,q5,q6⟩
end
end Go.Proofs.YtnpancjkjheffaaGreat
