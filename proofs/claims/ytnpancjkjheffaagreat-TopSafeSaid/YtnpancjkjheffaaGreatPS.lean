/- Part 1 of the proof of TopSafe: scripts that its other parts use. No condition. -/
import Derived.ArgAppend
import Derived.BigQuiet
import Derived.ChangeArms
import Derived.ChangeSame
import Derived.DataReads
import Derived.Deep.AppendLies
import Derived.Deep.CutBlock
import Derived.Deep.DeepCutAuto
import Derived.Deep.Fields
import Derived.Deep.Light
import Derived.Deep.LoopGhost
import Derived.Deep.MidRow
import Derived.Deep.OwnRows
import Derived.Deep.QuietTactic
import Derived.Deep.RegionHeld
import Derived.Deep.RegionHeld3
import Derived.Deep.Slices
import Derived.DeepKeys5
import Derived.Handy
import Derived.IntWalk
import Derived.JoinedOf
import Derived.Laws.AppendOwnNone
import Derived.Laws.BytesArg
import Derived.Laws.CopyOwn
import Derived.Laws.Externs
import Derived.Laws.IdiomCopy
import Derived.Laws.IdiomStrings
import Derived.Laws.MakeOwn
import Derived.Laws.Shifts
import Derived.Lib.AppendZerosOnto
import Derived.Lib.Hide
import Derived.Lib.Overlaps
import Derived.Lib.SliceRun
import Derived.Lib.Walk
import Derived.LoopIn
import Derived.LoopNIn
import Derived.Maps.OwnSet
import Derived.Maps.RangeWalk
import Derived.OpenShut
import Derived.Outline
import Derived.OwnWalkIn
import Derived.ProofKit
import Derived.RangeFuncBound
import Derived.RangeFuncBox
import Derived.RangeFuncCalls
import Derived.RangeFuncLeaves
import Derived.RangeFuncNested
import Derived.RangeFuncWrites
import Derived.Shelf.Abstract
import Derived.Shelf.Spec.SlicesInsert
import Derived.StillTail
import Derived.StillTailTactics
import Derived.TacticsInMore
import Derived.Test.YtnpancjkjheffaaGreatProg
import Derived.Test.YtnpancjkjheffaaGreatRows
import Derived.WalkKit
import Derived.WalkLawsBesides
import Derived.WalkMore
import Derived.WalkSpells
namespace Go.Proofs.YtnpancjkjheffaaGreat
set_option linter.unusedVariables false
set_option linter.unusedSimpArgs false
set_option maxRecDepth 100000
set_option maxHeartbeats 8000000
open Go.RowKit
open Go.Proofs.Tryz
variable {P:Prop}
theorem leR{n:Nat}:n<=n:=Nat.le_refl _
abbrev dp(h:P:=by exact ag.refl _ _):=h
abbrev cy(h:P:=by exact ON _ _):=h
abbrev gY(h:P:=by dsimp only;omega):=h
abbrev fo(h:P:=by exact Nat.le_refl _):=h
abbrev zt4(h:P:=by rw[show((ys.length:Nat):Int)=(n:Int)-1 from by have:=HN1.out;omega,show(((a+1) % L:Nat):Int)=((a:Int)+1) % (L:Int)from by push_cast;rfl];exact gD):=h
abbrev gm(h:P:=by exact eF.fr rM sM):=h
abbrev eR(h:P:=by exact gh rM):=h
abbrev eT(h:P:=by go_num):=h
abbrev yN(h:P:=by exact Below.refl _ _):=h
abbrev mc(h:P:=by dsimp;omega):=h
abbrev jJ(h:P:=by show ¬(_=_);omega):=h
abbrev If(h:P:=by unfold maxLen;first|omega|(simp only[List.length_append,List.length_cons];omega)):=h
abbrev zt12(h:P:=by rw[hdl,show Nat.min (l.length-i) (l.length-i)=l.length-i from Nat.min_self _]):=h
abbrev nz(h:P:=by simp[Value.oneCell']):=h
abbrev Ie(h:P:=by first|omega|(simp only[List.length_append,List.length_cons];omega)):=h
abbrev lm(h:P:=by exact List.getElem_mem hi):=h
abbrev Kn(h:P:=by exact ⟨_,_,_,rfl,by first|exact λq=>absurd rfl q|exact λ_=>⟨rfl,rfl,rfl⟩⟩):=h
abbrev oC(h:P:=by rw[aD];omega):=h
abbrev pB(h:P:=by simp[aG]):=h
abbrev gV(h:P:=by simp[h]):=h
abbrev Kb(h:P:=by exact ⟨aO gD,aO gD,by first|omega|(simp;done)|(simp;omega),gM⟩):=h
abbrev ny(h:P:=by exact List.getElem_mem hk):=h
abbrev un(h:P:=by exact Nat.lt_of_lt_of_le hgz hB.size):=h
abbrev wI(h:P:=by exact ⟨eq _ _,by simp[aG],sM⟩):=h
abbrev gZ(h:P:=by cases q):=h
abbrev iF(h:P:=by exact Jt _):=h
abbrev QZ(h:P:=by first|(with_reducible exact Below.refl _ _)|(with_reducible assumption)|go_grown):=h
abbrev nv(h:P:=by simpa using hi):=h
abbrev ko(h:P:=by simp[rk]):=h
abbrev jI(h:P:=by exact ag.none bu):=h
abbrev kn(h:P:=by exact Nat.zero_le _):=h
abbrev yO(h:P:=by first|exact trivial|exact rfl):=h
abbrev Id(h:P:=by rw[List.length_map];unfold maxLen;omega):=h
abbrev km(h:P:=by exact gD):=h
abbrev QY(h:P:=by exact ⟨aO gD,aO gD,by first|omega|(simp;done)|(simp;omega),lW⟩):=h
abbrev qS(h:P:=by exact List.getElem_mem hlt):=h
abbrev pz(h:P:=by simpa using f1):=h
abbrev Cm(h:P:=by rw[cH];exact hsz1):=h
abbrev Cl(h:P:=by subst e;exact Nat.le_refl _):=h
abbrev J7(h:P:=by exact ⟨λ_=>⟨rfl,rfl⟩,λad e=>by cases e⟩):=h
abbrev mf(h:P:=by exact fy sM):=h
abbrev zt41(h:P:=by have:=hMau3.nd;rw[gr HN3.out]at this;exact this):=h
abbrev oB(h:P:=by simp[sP]):=h
abbrev Ck(h:P:=by rw[List.length_map];omega):=h
abbrev oe(h:P:=by exact IW rfl):=h
abbrev od(h:P:=by exact aJ hW dM):=h
abbrev rG(h:P:=by simpa using hk):=h
abbrev qR(h:P:=by cases e):=h
abbrev Ic(h:P:=by exact ⟨World.ownsRow_nil _ _ _ _,sM⟩):=h
abbrev QX(h:P:=by exact ⟨hd.part,hd.pic,hd.tl0,by dsimp only;omega,hd.key⟩):=h
abbrev kj(h:P:=by exact sY dM):=h
abbrev um(h:P:=by simpa using hj):=h
abbrev ul(h:P:=by simpa using h1):=h
abbrev im(h:P:=by exact ag.alloc dp _):=h
abbrev oA(h:P:=by exact Below.alloc yN fo _):=h
abbrev J6(h:P:=by exact ax (S:=λj=>j=w.heap.size) (.inl rfl) (ij rk) _ 0 dp):=h
abbrev zt56(h:P:=by rw[gr HN3.out,iM (p:=((track,layer),JI 0)) zt41 sM];rfl):=h
abbrev zt57(h:P:=by rw[gr HN3.out,iM (p:=((who,track),JI 0)) zt41 sM];rfl):=h
abbrev zt58(h:P:=by first|(with_reducible exact Below.refl _ _)|(with_reducible exact bF yN _)|go_grown):=h
abbrev wH(h:P:=by exact Below.alloc yN fo o):=h
abbrev QW(h:P:=by exact ⟨a,cur,hq.kept hc (h.nW hq.q dM) (h.nW hq.r dM)⟩):=h
abbrev Ib(h:P:=by exact eF.fr rM (by simp[h.nm.2.1])):=h
abbrev zt62(h:P:=by first|exact Qi sM|exact tY sM|exact BV sM):=h
abbrev zt63(h:P:=by exact ⟨hR.l,hR.d,(hcd.block _ zC id).trans hR.c,hR.ws.chg hcd cy cy cy,hR.b.below hcd.none,hR.t.below hcd.none,hR.e,aF hR.g (aY hcd)⟩):=h
abbrev wG(h:P:=by simp[setBlock]):=h
abbrev Ia(h:P:=by have:=hB.size;simp;omega):=h
abbrev zt66(h:P:=by exact ⟨aO (fa hb5 bZ dM),aO (fa hb5 bZ dM),hb6⟩):=h
abbrev zt67(h:P:=by rw[gr HN5.out,iM (p:=((slot,turn),JI 0)) (by have:=hMau4.nd;rw[gr HN5.out]at this;exact this) sM];rfl):=h
abbrev zt68(h:P:=by exact ⟨aO gD,aM,by first|omega|(simp;done)|(simp;omega),lW⟩):=h
abbrev qQ(h:P:=by exact ag.none lW):=h
abbrev QV(h:P:=by have:=HLN.out;(try dsimp only);omega):=h
abbrev QU(h:P:=by exact ⟨kb hb5,kb hb5,kb hb5,ag.next aM hb5⟩):=h
abbrev zt72(h:P:=by exact ⟨aO gD,by first|omega|(simp;done)|(simp;omega),lW⟩):=h
abbrev zt73(h:P:=by rw[hdl];congr 1;simp only[Nat.min_def];split<;>omega):=h
abbrev nZ(h:P:=by exact Jb.sub hn):=h
abbrev J5(h:P:=by exact Nat.lt_of_lt_of_le hj h.size):=h
abbrev QT(h:P:=by subst q;rw[hZ]at hb;simp at hb):=h
abbrev zt77(h:P:=by obtain⟨_,a2,_,a4,_⟩:=mH (hby p (by rw[hq];simp)) hp;exact⟨a2,λz hz=>(a4 z hz).1⟩):=h
abbrev zt78(h:P:=by(try rw[Nat.mul_one]);exact gD):=h
abbrev zt79(h:P:=by intro u hu;simp only[List.mem_cons,List.not_mem_nil,or_false]at hu;rcases hu with rfl|rfl<;>rfl):=h
abbrev yM(h:P:=by exact jH hcs hV5 hV6):=h
abbrev zt81(h:P:=by exact ⟨ks,ah HT.out hcf cy,HK.out.kept hcf cy⟩):=h
abbrev J4(h:P:=by simp only[It];omega):=h
abbrev zt83(h:P:=by rw[HP.out];(try rw[Nat.mul_one]);exact gD):=h
abbrev zt84(h:P:=by rcases q with q|q;exact q.elim;exact hgS j q):=h
abbrev J3(h:P:=by first|rfl|(simp;done)):=h
abbrev zt86(h:P:=by exact ao w (.cells (fq q A cap) 50) _ rfl):=h
abbrev QS(h:P:=by rw[HT.out];simp[←HD.out]):=h
abbrev Hz(h:P:=by rw[HN3.out];rfl):=h
abbrev rF(h:P:=by cases h):=h
abbrev zt90(h:P:=by exact ⟨λi hi=>by simp at hi,λ_=>rfl,sM,sM,sM⟩):=h
abbrev wF(h:P:=by simp[hx]):=h
abbrev zt92(h:P:=by rw[cH,cH];exact hRs):=h
abbrev Hy(h:P:=by exact List.getElem_mem hj):=h
abbrev uk(h:P:=by exact ag.none aM):=h
abbrev Hx(h:P:=by have:=h.N;omega):=h
abbrev QR(h:P:=by rw[ic];exact h.size):=h
abbrev zt97(h:P:=by exact ⟨aO gD,d0,d1,d2,d3,d4,(by first|exact Below.refl _ _|exact bF yN 1)⟩):=h
abbrev zt98(h:P:=by rw[C7 (λt=>Value.agg (Rv.trC t)),←ht0];cases nB x.came p.ssrc<;>rfl):=h
abbrev yL(h:P:=by exact aJ hy dM):=h
abbrev KM(h:P:=by simp only[bE,aD];omega):=h
abbrev uL(h:P:=by rw[hsz];omega):=h
abbrev uK(h:P:=by rw[hRs];omega):=h
abbrev KL(h:P:=by rw[List.getElem_set];split<;>simp_all):=h
abbrev KK(h:P:=by exact av 1 v1 (av 0 v0 h)):=h
abbrev KJ(h:P:=by unfold maxLen;rw[iN];omega):=h
abbrev KI(h:P:=by have:=h.be.1.size;have:=h.be.2;omega):=h
abbrev UF(h:P:=by exact ⟨v,ae hc k1 (n1 k1 dM dM),ah k2 hc (λj c hj hh=>n1 hh dM dM hj)⟩):=h
abbrev KH(h:P:=by subst hD;exact⟨rfl,rfl,rfl,rfl⟩):=h
abbrev UE(h:P:=by exact ⟨d.seq,if 0<lZ d.time s.out.time then s.out.time else d.time,d.pic,d.tl0⟩):=h
abbrev zt110(h:P:=by rw[C7 (λt=>Value.int .i64 t),←ha];cases nB x.asked ss<;>rfl):=h
abbrev UD(h:P:=by exact ⟨W,C,ing,cm,sl,.slice A k cap,.slice none 0 0,w.heap.size,w,λ_ _=>False⟩):=h
abbrev KG(h:P:=by subst q;rw[hC11]at hb;simp at hb):=h
abbrev KF(h:P:=by exact aY (show ag af w8 _ from bu)):=h
abbrev KE(h:P:=by rw[List.length_drop]at e2;omega):=h
abbrev KD(h:P:=by have:=hg2.size;simp at this;omega):=h
abbrev KC(h:P:=by rw[ht];exact List.mem_cons_self):=h
abbrev zt117(h:P:=by have:=h.ct.lo;have:=h.yb;rcases hn j hj with e|e<;>subst e<;>omega):=h
abbrev yU(h:P:=by have:=b.e;omega):=h
abbrev oD(h:P:=by exact Hu.refl _):=h
abbrev yT(h:P:=by exact List.getElem_mem hl):=h
abbrev UC(h:P:=by exact ⟨Y,X,z,rfl,hs,⟨hw0,hb0⟩,⟨x1,x2,x3,x4,x5,x6,x7,x8⟩,hz,hf,hd,he⟩):=h
abbrev UB(h:P:=by exact ⟨Dd.new id,List.mem_append_right _ (List.mem_singleton.2 rfl),rfl,rfl⟩):=h
abbrev UA(h:P:=by exact (tf (λx:Su=>(x.who,x.track)) (mL (who,track)) l (mono_k hs _))):=h
abbrev KB(h:P:=by subst q;exact au k3 dM hb):=h
abbrev EC(h:P:=by rw[By];decide):=h
abbrev Uz(h:P:=by have:=h.e;simp only[List.length_append,List.length_map];omega):=h
abbrev yS(h:P:=by exact Nat.le_trans bw yB):=h
abbrev EB(h:P:=by have:=HKL.out;omega):=h
abbrev EA(h:P:=by have:=HEL.out;omega):=h
abbrev rJ(h:P:=by exact O5 _ _):=h
abbrev uJ(h:P:=by exact aX h hb):=h
abbrev uI(h:P:=by exact aJ hW1 dM):=h
abbrev KA(h:P:=by simp only[aD];omega):=h
abbrev Ez(h:P:=by rw[←q];exact hg):=h
abbrev Kz(h:P:=by rw[cH,hsz];omega):=h
abbrev Ky(h:P:=by rw[cH,hRs];omega):=h
abbrev Ey(h:P:=by rw[hl7];exact bZ):=h
abbrev Ew(h:P:=by have:=E1.out;omega):=h
abbrev Kv(h:P:=by dsimp only;rw[hX.cf,p1];rfl):=h
abbrev Ku(h:P:=by rw[gF _ _ _ oM];omega):=h
abbrev Kt(h:P:=by rw[gF _ _ _ hi];omega):=h
abbrev Ks(h:P:=by rw[List.length_append];rfl):=h
abbrev Eu(h:P:=by rw[hW];exact bZ):=h
abbrev Uy(h:P:=by rw[List.length_append,List.flatMap_append];exact hown6):=h
abbrev Ux(h:P:=by exact ⟨_,_,hr.out.pop (zs:=[JI 0,.slice none 0 0]) rfl zt4 zt78⟩):=h
abbrev uH(h:P:=by exact aJ hO dM):=h
abbrev Kr(h:P:=by exact aJ (HE.out.now j hn).jb dM):=h
abbrev Kq(h:P:=by rw[k2];exact ag.refl _ _):=h
abbrev zt149(h:P:=by rw[getElem_congr_idx (c:=z.c.ws) hsh];exact hep oM hp):=h
abbrev Kp(h:P:=by rw[aw_len hz.L,hwin];simp):=h
abbrev Ko(h:P:=by have:=h.m;dsimp only;omega):=h
abbrev yR(h:P:=by exact eF.la h.b.la rM):=h
abbrev Uw(h:P:=by rw[hlen,List.map_append,List.map_append];exact hown5):=h
abbrev Uv(h:P:=by exact ⟨λi hi=>by simp at hi,λ_=>rfl,sM,λg off e=>qR⟩):=h
abbrev Et(h:P:=by have:=ht.e;omega):=h
abbrev Uu(h:P:=by exact ⟨(HKP.out _ hw _).trans q00,(HKP.out _ hw _).trans q01⟩):=h
abbrev Ut(h:P:=by exact ao u4.drew (.cells #[ov (.ask d)] 224) _ rfl):=h
abbrev Us(h:P:=by rw[dt];simp only[Nat.min_def];split<;>omega):=h
abbrev Ur(h:P:=by rw[ce];simp only[Nat.min_def];split<;>omega):=h
abbrev Uq(h:P:=by rw[dS];simp only[Nat.min_def];split<;>omega):=h
abbrev Km(h:P:=by have:=h.se.tn x hx;omega):=h
abbrev Es(h:P:=by exact ⟨k2,k4 g cur h.2⟩):=h
abbrev yQ(h:P:=by exact ci h1 dM):=h
abbrev Er(h:P:=by simpa using hy):=h
abbrev Ep(h:P:=by simpa using hs):=h
abbrev Eo(h:P:=by simpa using ho):=h
abbrev Em(h:P:=by simpa using hn):=h
abbrev El(h:P:=by simpa using hl):=h
abbrev Ek(h:P:=by simpa using h2):=h
abbrev Ej(h:P:=by rw[x6];decide):=h
abbrev Kl(h:P:=by rw[iN];omega):=h
abbrev Up(h:P:=by rw[List.getElem_map,List.getElem_map];exact e):=h
abbrev Kk(h:P:=by have:=HR.out.2.2;omega):=h
abbrev Kj(h:P:=by have h9:=hn8;exact bu):=h
abbrev Uo(h:P:=by rw[HTD.out];exact T3.mono λi _=>Jb.sub2 i):=h
abbrev Un(h:P:=by exact ⟨λq=>q.elim hnm.1 k1,λq=>q.elim hnm.2.1 k2⟩):=h
abbrev uG(h:P:=by exact dsn HPT.out):=h
abbrev Um(h:P:=by have:=(HPL.out a b).1;have:=HBE.out;simp_all):=h
abbrev Ki(h:P:=by dsimp only at *;omega):=h
abbrev Ul(h:P:=by exact (ag.none bu:aC w1 (w1.alloc (.cells #[OV c] 193)))):=h
abbrev Uk(h:P:=by exact Below.alloc yN fo (.cells #[.slice none 0 0] 268)):=h
abbrev Ei(h:P:=by rw[hpos];rfl):=h
abbrev rI(h:P:=by exact Rg _):=h
abbrev Uj(h:P:=by exact tf Pe.who (λi=>fl i t) l (OU hs t)):=h
abbrev Kh(h:P:=by simp[List.getD,hlt]):=h
abbrev Ui(h:P:=by rw[cH,cH];exact hsz):=h
abbrev Kg(h:P:=by rw[hlen];exact h.wl):=h
abbrev rH(h:P:=by exact aB hb):=h
abbrev Eh(h:P:=by exact bF yN 1):=h
abbrev yP(h:P:=by exact Nat.le_succ N):=h
abbrev Uh(h:P:=by exact tf Tk.id (λi=>fl i t) l (OU hs t)):=h
abbrev Ug(h:P:=by rw[hz7,List.length_append,hlp.out];omega):=h
abbrev Uf(h:P:=by rw[List.mem_singleton.1 q,hD];exact HZ10):=h
abbrev Kf(h:P:=by exact ⟨⟨kd,rfl,hkd⟩,hwN⟩):=h
abbrev Ue(h:P:=by exact ⟨kb hb5,kb hb5,kb hb5,kb hb5,ag.next aM hb5⟩):=h
abbrev Ke(h:P:=by exact ao _ _ _ rfl):=h
abbrev Kd(h:P:=by rw[hzl,hsz1];omega):=h
abbrev Kc(h:P:=by rw[f12];exact h.st):=h
abbrev Ud(h:P:=by have:=z5;first|omega|(simp at zg2;omega)):=h
abbrev Ka(h:P:=by have:=h.st.h1;omega):=h
abbrev J9(h:P:=by have:=h.st.h0;omega):=h
abbrev J8(h:P:=by have:=HRE.out;omega):=h
abbrev Uc(h:P:=by exact ⟨a,hbl,H1.out,H2.out,by rw[dif_neg hk];rfl⟩):=h
abbrev Ub(h:P:=by exact Hb (by rw[h.yb];exact hts) λj hj=>zt117):=h
abbrev Eg(h:P:=by exact ag.refl af _):=h
abbrev ay(h:P:=by go_wp2_with fail;obtain h:=?_;exact h):=h
abbrev Ce(h:P:=by refine vm;refine tk 4 ?_;obtain h:=?_;exact h):=h
abbrev zq4(h:P:=by
 go_enter func235,ntmps235;go_upto_region 5 with(first|(go_at_call 268;(with_reducible refine(kS s i x _ HO.out HX.out oM oM).mono ?_);rintro e w1 ⟨rfl,hb⟩;(try(have g0:=h0));(try(have g1:=h1));(try(have g2:=h2));(try(have g3:=h3));have hB:=aE (w:=w) gM hb;have h0:w1.heap[w.heap.size]?=OC #[.bool true,JI s.high,JI s.since,JS s.off.seq,JT s.off.time,JS s.off.pic,JW s.off.tl0,JS s.out.seq,JT s.out.time,JS s.out.pic,JW s.out.tl0] 375:=(hb.block (w.heap.size) fM).trans dJ;have h1:w1.heap[w.heap.size+1]?=OC #[JS i.seq,JT i.time,JS i.pic,JW i.tl0] 373:=(hb.block (w.heap.size+1) fM).trans dJ;have h2:w1.heap[w.heap.size+1+1]?=OC #[.bool false,JI 0,JI 0,JS 0,JT 0,JS 0,JW 0,JS 0,JT 0,JS 0,JW 0] 375:=(hb.block (w.heap.size+1+1) fM).trans dJ;have h3:w1.heap[w.heap.size+1+1+1]?=OC #[JS 0,JT 0,JS 0,JW 0] 373:=(hb.block (w.heap.size+1+1+1) fM).trans dJ;(try clear g0);obtain⟨c0,f0,z0⟩:=ab h0;(try clear g1);obtain⟨c1,f1,z1⟩:=ab h1;(try clear g2);obtain⟨c2,f2,z2⟩:=ab h2;(try clear g3);obtain⟨c3,f3,z3⟩:=ab h3))
 go_cut [10] (λs10 wx=>∃g:Nat,s10=OV g/\w.heap.size+3<g/\wx.heap[w.heap.size]?=OC #[.bool true,JI s.high,JI s.since,JS s.off.seq,JT s.off.time,JS s.off.pic,JW s.off.tl0,JS s.out.seq,JT s.out.time,JS s.out.pic,JW s.out.tl0] 375/\wx.heap[w.heap.size+1]?=OC #[JS i.seq,JT i.time,JS i.pic,JW i.tl0] 373/\wx.heap[w.heap.size+1+1]?=OC #[.bool false,JI 0,JI 0,JS 0,JT 0,JS 0,JW 0,JS 0,JT 0,JS 0,JW 0] 375/\wx.heap[w.heap.size+1+1+1]?=OC #[JS 0,JT 0,JS 0,JW 0] 373/\wx.heap[g]?=OC #[JS d.seq,JT d.time,JS d.pic,JW d.tl0] 373/\aC w wx);case first=>
  go_wp2_with (first|(go_at_call 270;(with_reducible refine(xW _ _ d _ HD.out).mono ?_);rintro e w2 ⟨rfl,hb⟩;(try(have g0:=h0));(try(have g1:=h1));(try(have g2:=h2));(try(have g3:=h3));have hB:=aE (w:=w) gM hb;have h0:w2.heap[w.heap.size]?=OC #[.bool true,JI s.high,JI s.since,JS s.off.seq,JT s.off.time,JS s.off.pic,JW s.off.tl0,JS s.out.seq,JT s.out.time,JS s.out.pic,JW s.out.tl0] 375:=(hb.block (w.heap.size) fM).trans dJ;have h1:w2.heap[w.heap.size+1]?=OC #[JS i.seq,JT i.time,JS i.pic,JW i.tl0] 373:=(hb.block (w.heap.size+1) fM).trans dJ;have h2:w2.heap[w.heap.size+1+1]?=OC #[.bool false,JI 0,JI 0,JS 0,JT 0,JS 0,JW 0,JS 0,JT 0,JS 0,JW 0] 375:=(hb.block (w.heap.size+1+1) fM).trans dJ;have h3:w2.heap[w.heap.size+1+1+1]?=OC #[JS 0,JT 0,JS 0,JW 0] 373:=(hb.block (w.heap.size+1+1+1) fM).trans dJ;(try clear g0);obtain⟨c0,f0,z0⟩:=ab h0;(try clear g1);obtain⟨c1,f1,z1⟩:=ab h1;(try clear g2);obtain⟨c2,f2,z2⟩:=ab h2;(try clear g3);obtain⟨c3,f3,z3⟩:=ab h3))
  go_meet;go_split_ands;exact⟨_,rfl,oM,dJ,dJ,dJ,dJ,dJ,gM⟩
 case rest=>obtain h:=?rest;exact h):=h
abbrev je(h:P:=by refine oL;refine hK.out _ _ ?_;obtain h:=?_;exact h):=h
abbrev zq6(h:P:=by
 have I1:=OH i1;clear i1;have I2:=OH i2;clear i2;have I3:=OH i3;clear i3;refine qf;clear hps;refine rV;go_enter func189,ntmps189;refine ay;refine rg 10 (λw'=>Bk w' X (gi c (.slice A1 d.people.length n1) (.slice A2 ks.length n2) (.slice A3 d.subs.length n3)) 42/\Bk w' w.heap.size (fq q A cap) 50/\ag af w w') ⟨bk,bk,bu⟩ (λhHeld0=>?_);refine uZ;refine(HPS.out _ uk).mono ?_;refine uS;refine Ii;try simp only[pu]
 refine mj;refine gN;refine Yz;refine EF;clear hc5 hX;refine Aj;refine ay;refine(I1.out _).mono ?_;refine jf;all_goals(obtain h:=?_;exact h)):=h
abbrev zq8(h:P:=by
 refine ay;refine rg 12 (λw'=>Bk w' X (gi c (.slice A1 d.people.length n1) (.slice A2 ks.length n2) (.slice (aT gS) d.subs.length n3)) 42/\Bk w' w.heap.size (fq q A cap) 50/\ag af w w') ⟨bk,bk,bu⟩ (λhHeld0=>?_);refine UZ;try simp only[pu]
 refine tk 8 ?_;refine oF;refine eY;refine FP;have hX5:w5.heap[X]?=OC (gi c (.slice A1 d.people.length n1) (.slice A2 ks.length n2) (.slice (aT gS) d.subs.length n3)) 42:=(hc5.block _ hXl id).trans hX;refine EF;clear hc5;refine Aj;all_goals(obtain h:=?_;exact h)):=h
abbrev zq9(h:P:=by refine qf;clear hps;have HTS:=OH hts;clear hts;have I2:=OH i2;clear i2;have I3:=OH i3;clear i3;have I4:=OH i4;clear i4;refine rV;go_enter func191,ntmps191;refine ay;refine Ze;refine uZ;refine(HPS.out _ uk).mono ?_;rintro e w4 ⟨rfl,hb4⟩;refine hK.out _ _ ⟨kb hb4,kb hb4,ag.next aM hb4⟩ (λhHeld1=>?_);refine nR;refine mj;refine gN;refine oL;refine oK;refine rU;have hc5:ag af w w4:=aM;have hX4:w4.heap[X]?=OC (gi c (.slice (aT gP) d.people.length n1) (.slice A2 ks.length n2) (.slice A3 d.subs.length n3)) 42:=(hc5.block _ hXl id).trans hX;have hZ4:w4.heap[w.heap.size]?=OC (fq q A cap) 50:=aM;have HC4:=OH hc5;clear hc5;obtain⟨c8,f8,z8⟩:=ab hX4;obtain⟨c9,f9,z9⟩:=ab hZ4;go_wp2_with fail;refine Ze;refine vm;refine tk 4 ?_;refine lU;refine sD;refine(HTS.out _ uk).mono ?_;refine uS;refine Ii;refine qD;refine oL;refine oK;refine FP;have hX5:w5.heap[X]?=OC (gi c (.slice (aT gP) d.people.length n1) (.slice A2 ks.length n2) (.slice A3 d.subs.length n3)) 42:=(hc5.block _ hXl id).trans hX;refine EF;clear hc5;refine Aj;have hgn:w5.heap[gP]?=OC cr 167:=(HC5.out.block _ hgl id).trans hg;obtain⟨c6,f6,z6⟩:=ab hgn;have e6:=(c6 (pi*3+2)).trans hd;refine ay;all_goals(obtain h:=?_;exact h)):=h
abbrev iU(h:P:=by refine Ce;refine tk 5 ?_;refine mj;obtain h:=?_;exact h):=h
abbrev Rc(h:P:=by refine MF;have hXl:=aB hX;have hXn:X≠w.heap.size:=oM;refine XY;obtain h:=?_;exact h):=h
abbrev bV(h:P:=by
 try simp only[pu]
 obtain h:=?_;exact h):=h
abbrev Io(h:P:=by refine ons 13 (jH hcs hV5 hV6) ⟨bk (jH hc6 (jH hcs hV5 hV6) (jH hcs hV5 hb)),bk (ae hc6 (jH hcs hV5 hnb) (λ(q:nb=V6)=>oM)),bk (jH hc6 (jH hcs hV5 hV6) (jH hcs hV5 hD))⟩ (λhH=>?_);refine bV;refine QO ?_;have h5:=jH hc6 (jH hcs hV5 hV6) (aK (me s') hV5 rfl);have h6:=aK (py o).toList (jH hcs hV5 hV6) rfl;refine dr;exact⟨V5,V6,rfl,rfl,rfl,h5,h6,(hG.new hcs hlV5).new hc6 hlV6⟩):=h
abbrev zq14(h:P:=by refine zq9;refine uO;refine qq;refine ay;refine(I3.out _ HC5.out).mono ?_;refine qq;refine ay;refine rg 9 (λw'=>Bk w' X (gi c (.slice (aT gP) d.people.length n1) (.slice A2 ks.length n2) (.slice A3 d.subs.length n3)) 42/\Bk w' w.heap.size (fq q A cap) 50/\ag af w w') ⟨bk,bk,bu⟩ (λhHeld0=>?_);refine qd;refine sD;refine(I4.out _ aM).mono ?_;rintro e w7 ⟨rfl,hb5⟩;refine Ii;refine bV;refine tk 8 ?_;refine eY;refine rU;have hc5:ag af w w7:=aM;have hX7:w7.heap[X]?=OC (gi c (.slice (aT gP) d.people.length n1) (.slice A2 ks.length n2) (.slice A3 d.subs.length n3)) 42:=(hc5.block _ hXl id).trans hX;have hZ7:w7.heap[w.heap.size]?=OC (fq q A cap) 50:=aM;have HC7:=OH hc5;clear hc5;obtain⟨c8,f8,z8⟩:=ab hX7;obtain⟨c9,f9,z9⟩:=ab hZ7;refine ay;all_goals(obtain h:=?_;exact h)):=h
abbrev zq15(h:P:=by refine ay;refine rg 12 (λw'=>Bk w' X (gi c (.slice A1 d.people.length n1) (.slice A2 ks.length n2) (.slice A3 d.subs.length n3)) 42/\Bk w' w.heap.size (fq q A cap) 50/\ag af w w') ⟨bk,bk,bu⟩ (λhHeld0=>?_);refine UZ;refine bV;refine tk 8 ?_;refine gN;refine nK;refine Yz;refine EF;clear hc5;refine Aj;refine ay;go_ret;all_goals(obtain h:=?_;exact h)):=h
abbrev zq16(h:P:=by
 obtain⟨cx,fx,zx⟩:=ab hx;refine XL;have hcc:ag (λj=>j=Q\/j=R) w w1:=ag.next im hb;have hb9:(a+xs.length) % L*2+2<=cur.size:=by rw[hr.out.size];have:=Nat.mul_le_mul_right 2 (Nat.succ_le_of_lt hp);omega
 have hpos:∀j,j<2->∃v,cur[(a+xs.length) % L*2+j]?=some v:=λj hj=>⟨_,Array.getElem?_eq_getElem oM⟩
 obtain⟨u0,d0⟩:=hpos 0 dM;obtain⟨u1,d1⟩:=hpos 1 dM;simp only[Nat.add_zero,Nat.mul_one]at d0;clear hpos;have hQ:=h1.q;have HH1:=OH h1;clear h1;clear hq c0 f0 c1 f1 ha1 hr;generalize hP:(a+xs.length) % L=P at *;have HP:=OH hP;clear hP;obtain⟨X,hXe⟩:∃X,X=w.heap.size:=⟨_,rfl⟩
 rw[←hXe]at hx cx fx zx ⊢;have hX0:w.heap.size<=X:=oM;have HXE:=OH hXe;clear hXe;have hXQ:X≠Q:=oM;have hXR:X≠R:=oM;clear hb;refine iI;obtain h:=?_;exact h):=h
abbrev zq17(h:P:=by
 rw[g1,if_neg dM]at hJ;rw[g1]at hss;obtain⟨hki,hke⟩:=SR hs (by simpa using g1);rw[show(bD d.subs).length=d.subs.length by simp[bD]]at hki;obtain⟨k,hk0⟩:∃k,k=kR (q.who,q.track) (bD d.subs):=⟨_,rfl⟩
 rw[←hk0]at hki hss hJ;rw[List.getElem?_eq_getElem hki]at hJ;obtain⟨x,hx0⟩:∃x,x=d.subs[k]:=⟨_,rfl⟩
 rcases bW HS.out with⟨_,h0,_⟩|⟨gS,cap2,hA,hBg,hgl,hcap,hmx⟩
 .omega
 refine FC;obtain⟨-,-,-,-,cr,hg,hsz,hrow⟩:=it HS.out;have hd:=hrow k hki 4 dM;have hd2:=hrow k hki 2 dM;have hd3:=hrow k hki 3 dM;have hb2:k*5+2<cr.size:=by rw[hsz];omega
 have hb3:k*5+3<cr.size:=by rw[hsz];omega
 have hb4:k*5+4<cr.size:=by rw[hsz];omega
 simp only[List.getElem?_cons_zero,List.getElem?_cons_succ]at hd hd2 hd3;rw[←hx0]at hJ hd hd2 hd3;have HX0:=OH hx0;clear hke hk0 hrow hx0 hs g1;all_goals(obtain h:=?_;exact h)):=h
abbrev Rb(h:P:=by
 have hys:(xs.take (k+1)).filter (λx=>!p x)=xs.take k:=by
  rw[List.take_add_one,List.getElem?_eq_getElem hk,List.filter_append];have h1:(xs.take k).filter (λx=>!p x)=xs.take k:=by
   refine U7;have:j<k:=by simp at hj;omega
   simp[hp j oM this]
  rw[h1];simp[hpk]
 have hyl:(xs.take k).length=k:=xM;have HY:=OH hys;clear hys;have HYL:=OH hyl;clear hyl;have HPK:=OH hpk;clear hpk;refine rK;clear h0 hrow HI;have hk9:(((k:Nat):Int)== -1)=false:=sM;refine ay;obtain h:=?_;exact h):=h
abbrev jf(h:P:=by refine qq;refine ay;obtain h:=?_;exact h):=h
abbrev zq20(h:P:=by
 have CL:=OH c0;have hfk:=HF.out k hlt wr hJ;have HFK:=OH hfk;refine ay;refine Calls.mono HFK.out ?_;rintro e w1 ⟨rfl,hJ1,hc1⟩;cases hpk:p xs[k]with
 |true=>
  have HPK:=OH hpk;refine bj;exact⟨k,HPN.out,.inl ⟨hlt,HPK.out,rfl,hJ1⟩,hc.trans hc1⟩
 |false=>
  have HPK:=OH hpk;refine ay;go_roundw;case rel=>exact⟨k+1,oM,eT,λj hj hjk=>(Nat.lt_or_ge j k).elim (λq=>HPN.out j hj q) (λq=>by have:j=k:=oM;subst this;exact HPK.out),hJ1,hc.trans hc1⟩
  case measure=>simp[intOf];omega):=h
abbrev AJ(h:P:=by rw[HJ.out];have hcf:ag af w w5:=HC5.out;exact⟨rfl,⟨_,_,_,hX5,ah HP.out hcf cy,zt81,ah HS.out hcf cy⟩,hcf.none.mono hB⟩):=h
abbrev bj(h:P:=by refine ay;go_ret;all_goals(obtain h:=?_;exact h)):=h
abbrev Ra(h:P:=by
 have HI:=OH h;have HC:=OH (λW (hc:ag af w W)=>Qm (hs.none hc));have HP:=OH (λW (hc:ag af w W)=>Bs (hs.none hc));go_enter func10,ntmps10;refine jO;refine W5;generalize w.heap.size=Z at *;have hra:u.rangeAt Z 0 (RL s):=λj v hv=>by rw[(ab hS).1 (0+j),Nat.zero_add];simpa using hv
 obtain⟨cS,fS,zS⟩:=ab hS;obtain h:=?_;exact h):=h
abbrev zq24(h:P:=by
 rw[←hX0];have hqt:cE V B 263 (.slice A1 rest.length c1) (rest.map λp=>OV p.at'):=by rw[hA1,hc1e];simpa using hqt
 have hX:X=V.setCell ⟨C,23,none⟩ (.slice A1 rest.length c1):=by rw[hX0,hA1,hc1e]
 clear hA1 hc1e hc1 hX0;have HQT:=OH hqt;have HX:=OH hX;clear hqt hX;have hsX:ag (λj=>j=C) V X:=by rw[HX.out];exact ag.set (S:=λj=>j=C) dp ⟨C,23,none⟩ (.inl rfl) _
 have hFX:ag (Fr [(153,C,C+1)] [] V) V X:=hsX.mono (λj _ q=>by subst q;exact tG hCV sM leR (Nat.lt_succ_self _));have hCX:X.heap[C]?=OC (iP G vp vt vs t ever (.slice A1 rest.length c1)) 153:=by rw[HX.out];exact bZ
 have hPX:=bJ hFX hPV rM;have hWX:=(hwsV.tail HQT.out).chg hFX eR eR eR;have hBX:=mS HR.out.b hFX rM sM;have hTX:=CC HR.out.t hFX rM sM sM;have hzX:=ah (hwsV.p _ (List.mem_cons_self)).2.2.1 hFX eR;have HOX:=OH (ah HOV.out hFX eR);have hgX:=aF HR.out.g (dq hFX sM sM);have hl:=HR.out.l;have hd:=HR.out.d;have he:=HR.out.e;clear hsX hFX hCV hPV cC fC zC cP fP zP HOV hwsV HQT HX hcV;have HWX:=OH hWX;have HBX:=OH hBX;have HTX:=OH hTX;have HZX:=OH hzX;have HGX:=OH hgX;have HL:=OH hl;have HD:=OH hd;have HE:=OH he;clear hWX hBX hTX hzX hgX hl hd he HR;obtain⟨cC,fC,zC⟩:=ab hCX;obtain⟨cP,fP,zP⟩:=ab hPX;refine ej 12 (S:=(λw'=>Bk w' C (iP G vp vt vs t ever (.slice A1 rest.length c1)) 153/\Bk w' pa #[JU pid,JU pep,.slice pA pcl.length pc] 265)) kM rM ?_ (λhHeld0=>?_)
 .exact⟨bk,bk⟩
 refine Ce;refine tk 5 ?_;refine mj;refine gN;refine sm;have hcd:ag af X X.drew:=bu;have hCd:=(hcd.block _ zC id).trans hCX;have hPd:=(hcd.block _ zP id).trans hPX;have hTd:=HTX.out.below hcd.none;have hzd:=ah HZX.out hcd cy;refine(wu hCd hTd (by have:=congrArg List.length HL.out;simp at this;omega) pid 0 ⟨hid.1,hid.2⟩ ⟨dM,dM⟩ hzd hpl1).mono ?_;rintro r w5 ⟨v5,s5,rfl,hs59,hown5,hT5,hc5⟩;have HS59:=OH hs59;clear hs59;rcases bW hown5 with⟨_,h0,_⟩|⟨g5,cap5,rfl,-,-,-,-⟩
 .omega
 have hC5:=bJ hc5 hCd rM;have hP5:=bJ hc5 hPd rM;refine nO
 .exact⟨aO hC5,aO hP5⟩
 clear hK K;refine mi;try simp only[pu]
 refine rY;have hownA:=ah (ah HOX.out hcd cy) hc5 eR;refine step_append_lies _ rM _ _ _ rM w.heap.size 255 i0 _ 3 24 underlying175 hi0 hz0 hz1 hz2 rfl oM _ _ _ rM hownA ⟨g5,0,none⟩ pcl.length cap5 (pcl.flatMap (rpC pid 0)) rM (bX (RW pid 0) pcl) ((eZ hown5).2 _ rfl) (SH pid 0 pcl) hpl2 lM oM (by have:=HGX.out.size;have:=hcd.size;have:=hc5.size;omega) _ rfl ?_;intro gg cap2 w6 hown6 hgrow hat hlt6;have hcg:ag (λi=>(Value.slice Av (dF dn).length cv).ownBlock=some i) w5 w6:=ag.grown (v:=.slice Av (dF dn).length cv) dp hgrow (λi hi _=>hi);have hFg:ag (Fr [(255,w.heap.size,0)] [] w5) w5 w6:=hcg.mono (λi _ q=>by obtain⟨cur,hq⟩:=bG hownA q;exact eN hq sM (eV hownA i q));have hC6:=bJ hFg hC5 rM;have hP6:=bJ hFg hP5 rM;refine nP
 .exact⟨aO hC6,aO hP6⟩
 clear hK K;(try clear hHeld1);try simp only[pu]
 refine eY;have hF5:ag (Fr [(238,B2,0),(47,B2,0),(255,w.heap.size,0)] [M] X) X w6:=aF (aF (aY hcd) (dq hc5 sM sM)) (dq hFg sM sM);have hW6:=HWX.out.chg hF5 eR eR eR;have hB6:=mS HBX.out hF5 rM xM;have hT6:=CC hT5 hFg rM sM sM;have hg6:=(aF HGX.out (aF (aY hcd) (dq hc5 sM sM))).call hcg (λi hi q=>absurd (eV hownA i q) oM);have hl6:(dn++ [⟨pa,pid,pep,.slice pA pcl.length pc,pcl⟩])++rest=ps:=by rw[←HL.out];simp
 have hd6:∀p∈dn++ [(⟨pa,pid,pep,.slice pA pcl.length pc,pcl⟩:Pd)],p.epoch<=kQ last':=λp hp=>by
  rcases List.mem_append.1 hp with hp|hp
  .exact HD.out p hp
  .rw[List.mem_singleton]at hp
   subst hp;simpa using hbb
 have he6:jG L ((dn++ [(⟨pa,pid,pep,.slice pA pcl.length pc,pcl⟩:Pd)]).map Pd.id) (Dd.endF L1 pid s5).1:=by rw[List.map_append];exact jG.snoc pid s5 HS59.out HE.out
 have hrl:(dF (dn++ [(⟨pa,pid,pep,.slice pA pcl.length pc,pcl⟩:Pd)])).length=(dF dn).length+pcl.length:=by rw[pH,List.length_append,List.length_map]
 have hrr:(dF (dn++ [(⟨pa,pid,pep,.slice pA pcl.length pc,pcl⟩:Pd)])).flatMap Cj=(dF dn).flatMap Cj++pcl.flatMap (rpC pid 0):=by rw[pH,List.flatMap_append,rp_re]
 have hT7:Dd.ed w6 G.D M B2 room2 (k0+(dn++ [(⟨pa,pid,pep,.slice pA pcl.length pc,pcl⟩:Pd)]).length) (Dd.endF L1 pid s5).1:=by rw[List.length_append];exact hT6
 rw[←hrr,←hrl]at hown6;have HRR:Cd w C B BB QA RA LA n M B2 room room2 k0 G vp vt vs t ever q r tabs acks' last' L ps (dn++ [⟨pa,pid,pep,.slice pA pcl.length pc,pcl⟩]) rest A1 c1 (Dd.endF L1 pid s5).1 w6:=⟨hl6,hd6,hC6,hW6,hB6,hT7,he6,hg6⟩
 have hml:=GM ps (dn++ [⟨pa,pid,pep,.slice pA pcl.length pc,pcl⟩]) rest hl6;rw[hrl]at hml;clear hF5 hW6 hB6 hT6 hg6 hl6 hd6 he6 hrr hT7 hcg hFg hC6 hP6 hownA hgrow hC5 hP5 hT5 hc5 hown5 hcd hCd hPd hTd hzd;refine dA;case rel=>exact⟨_,rest,A1,c1,_,some ⟨gg,0,none⟩,cap2,by rw[hrl],HRR,hown6⟩
 case measure=>simp only[lenOf];omega):=h
abbrev iT(h:P:=by refine hK.out _ _ ⟨bk,bk⟩ (λhH=>?_);refine bV;obtain h:=?_;exact h):=h
abbrev Q9(h:P:=by
 have HFQ:=OH hfq;clear hfq;have K1:=OH hk1;clear hk1;have K2:=OH hk2;clear hk2;refine ku;clear hd;have htk:(xs.take (q+1)).filter (λx=>!p x)=(xs.take q).filter (λx=>!p x)++(if p xs[q]=true then [] else [xs[q]]):=by rw[List.take_add_one,List.getElem?_eq_getElem hlt,List.filter_append];cases hh:p xs[q]<;>simp[hh]
 have HT:=OH htk;clear htk;refine ay;refine Calls.mono HFQ.out ?_;rintro e w2 ⟨rfl,hJ2,hc2,hkp⟩;have hrw2:=hkp g cr (ai hrw);obtain h:=?_;exact h):=h
abbrev zq27(h:P:=by
 obtain⟨g,rfl,hg,gz,hBx⟩:=hcut;obtain⟨u1,hwc⟩:∃wq,wq=wc:=⟨_,rfl⟩
 subst hwc;have yBn:w.heap.size<=u1.heap.size:=hBx.size;have yB:=yBn;have hMvn:aQ S R M B w u1:=.of hBx bw;refine Wm;refine YL;refine jO;go_cut [6,7,8] from 7 to 107 (λs6 s7 s8 wx=>s6=OV g/\s7=JI j/\s8=.bool is/\aC u1 wx);case first=>
  have hlk:∀W:World,aP W prog 51 .u16 M m f->(Instr.lookup 241 (.map (some M)) (JS q0) true).run prog W=.ok (.tuple #[JI j,.bool is]) W:=λW h=>h.look underlying51 underlying241 (jR _) hxw H1.out H2.out
  go_region_held3 (λw'=>(∀j,w'.cell? ⟨S,j,none⟩=#[.slice (aT R) n n,JI (a:Int),JI (c:Int),.map (some M)][j]?)/\(∀j,w'.cell? ⟨g,j,none⟩=#[JS q0,.slice A0 n0 c0][j]?)/\aP w' prog 51 .u16 M m f/\aC u1 w') ((refine keepM zS cS zG cG hM ?_;(first|(with_reducible exact Below.refl _ _)|(go_split_ands;first|(with_reducible assumption)|go_grown)))) (first|(go_split_ands;simp only[hlk _ aM]))
  all_goals(go_wp2_with fail;go_meet;go_split_ands;exact⟨rfl,rfl,rfl,zt58⟩)
 case rest=>obtain h:=?rest;exact h):=h
abbrev In(h:P:=by rintro r w3 ⟨rfl,z',hi,hp⟩;have HE:=OH (And.intro hi hp);refine ay;(try simp only[Exit.inBlock,Exit.then]);refine sE;exact⟨rfl,z',HE.out.1,HE.out.2⟩):=h
abbrev ME(h:P:=by have hO0:(w.alloc (.cells #[JI 0,JI 0,JI 0,JT 0,.slice none 0 0,JI 0,JU 0,JI 0,JT 0] 68)).heap[w.heap.size]?=OC #[JI 0,JI 0,JI 0,JT 0,.slice none 0 0,JI 0,JU 0,JI 0,JT 0] 68:=bZ;have hG0:ag af w (w.alloc (.cells #[JI 0,JI 0,JI 0,JT 0,.slice none 0 0,JI 0,JU 0,JI 0,JT 0] 68)):=bu;obtain h:=?_;exact h):=h
abbrev zq31(h:P:=by
 have hlt:∀ (k:Nat) (hk:k<z.wk.length) (j:Nat),z.wk[k].own j->j<w.heap.size:=λk hk j hj=>(h.wk _ ny).own_lt hj
 have hap:∀ (k l:Nat) (hk:k<z.wk.length) (hl:l<z.wk.length),k≠l->∀j,z.wk[k].own j->¬z.wk[l].own j:=λk l hk hl e=>Oi (R:=λx y=>∀j,x.own j->¬y.own j) (λa b q j hb ha=>q j ha hb) h.wo hk hl e
 have hlen:(z.wk.set i x').length=z.wk.length:=List.length_set;have hall:∀ {P:Wk->Prop},P x'->(∀ (k:Nat) (hk:k<z.wk.length),k≠i->P z.wk[k])->∀x∈z.wk.set i x',P x:=λh1 h2 x hx=>by
  obtain⟨k,hk,rfl⟩:=List.getElem_of_mem hx;refine lQ;split
  .exact h1
  .next e=>exact h2 k rG (λq=>e q.symm)
 obtain h:=?_;exact h):=h
abbrev zq32(h:P:=by
 have hlt2:k<k2.length:=by rw[HL2.out];exact hlt
 rcases bW ht with⟨h1',h2',_⟩|⟨g,cap,h1',hBg,hgl,hcap,hmx⟩
 .omega
 simp only[Value.slice.injEq]at h1';obtain⟨rfl,-,rfl⟩:=h1';rw[←HL2.out]at ht;obtain⟨-,-,-,-,cr,hg,hsz,hrow⟩:=gH ht;have hd:=hrow k hlt2 3 dM;have hbd:k*4+3<cr.size:=by rw[hsz];have:=HL2.out;omega
 have HROW:=OH hrow;clear hrow;simp only[List.getElem?_cons_zero,List.getElem?_cons_succ]at hd;have hkt:k<d.tracks.length:=by rw[←HKL.out];exact hlt
 have hold:=HK.out.2 k hlt hkt;have heq:k2[k]=ks[k]:=by have:=(HR.out k k2[k] d.tracks[k] (List.getElem?_eq_getElem hlt2) (List.getElem?_eq_getElem hkt)).2 fo;rw[List.getElem?_eq_getElem hlt]at this;exact(Option.some.inj this).symm
 rw[←heq]at hold;have hcu:=λW (hW:aC wr W)=>rE W _ _ _ _ (by rw[show(iJ d.tracks[k].ssrcs).length=d.tracks[k].ssrcs.length by simp[iJ],rj hold];omega) (by have:=h4 d.tracks[k] (List.getElem_mem hkt);rw[rj hold]at this;omega) (wN _) ((hold.kept (.of hb) cy).kept (.of hW) cy).src
 have HCU:=OH hcu;clear hcu;have HO:=OH hold;clear hold;have HT:=OH ht;clear ht;obtain⟨c3,f3,z3⟩:=ab hg;all_goals(obtain h:=?_;exact h)):=h
abbrev eP(h:P:=by obtain⟨cW,fW,zW⟩:=ab hW;obtain h:=?_;exact h):=h
abbrev wJ(h:P:=by
 (try simp only[Exit.inBlock,Exit.then]);obtain h:=?_;exact h):=h
abbrev zq35(h:P:=by
 have hb5':aC w w5:=hb.trans (hc5.none.mono oM);refine dA;case rel=>
  refine⟨k+1,k2.set k ⟨y.id,y.owner,y.fr,A7,y.n,n7⟩,oM,eT,by rw[List.length_set];exact HL2.out,?_,?_,eM,eM,aU (ah HP.out hc5 cy) hg5 dM,aU (ah HS.out hc5 cy) hg5 dM,gM⟩
  .have hst:=((ah HT.out hc5 cy).stored (k*4+3) (.slice A7 y.n n7)).1
   rw[iO dt k2 k 3 hlt2 dM (.slice A7 y.n n7) ⟨y.id,y.owner,y.fr,A7,y.n,n7⟩ (by rw[HYK.out];rfl)]at hst;rw[List.length_set,HL2.out];rw[HL2.out]at hst;exact hst
  .intro j k1 t hj1 hj2
   by_cases hjk:j=k
   .subst hjk
    rw[List.getElem?_set_self hlt2]at hj1;obtain rfl:=Option.some.inj hj1;rw[List.getElem?_eq_getElem hkt]at hj2;obtain rfl:=Option.some.inj hj2;exact⟨λ_=>⟨HO.out.1,HO.out.2.1,HO.out.2.2.1,aU (aW HO5.out nM) hg5 dM⟩,λq=>oM⟩
   .rw[List.getElem?_set_ne oM]at hj1
    have:=HR.out j k1 t hj1 hj2;exact⟨λq=>((this.1 oM).kept hc5 cy).kept hs5 (aJ hg5 dM),λq=>this.2 oM⟩
 case measure=>exact di):=h
abbrev zq36(h:P:=by
 have hal:a<rg.length:=oM;obtain⟨d0,d1⟩:=lB hr hal;have e4:rg[a]=⟨q0,.slice A0 n0 c0⟩:=by rw[List.getElem?_eq_getElem hal]at hre;simpa using hre
 rw[e4]at d0 d1;have HA:=OH hA;have HRL:=OH hrl;have HA':=OH ha';refine An;have hxw:=Cv hq0 hq1;have hxq:=Cv qz qo;refine vb;have zR:=aB hr;have hSR:S≠R:=λh=>by subst h;rw[hs]at hr;simp at hr
 go_enter func272,ntmps272;refine kx;go_cut [6] from 9 to 107 (λs6 wx=>∃g:Nat,s6=OV g/\wx.heap[g]?=OC #[JS q0,.slice A0 n0 c0] 430/\w.heap.size<=g/\aC w wx);case first=>
  go_region_held3 (λw'=>(∀j,w'.cell? ⟨S,j,none⟩=#[.slice (aT R) n n,JI (a:Int),JI (c:Int),.map (some M)][j]?)/\w'.cell? ⟨R,a*2,none⟩=some (JS q0)/\w'.cell? ⟨R,a*2+1,none⟩=some (.slice A0 n0 c0)/\aC w w') ((refine keepS zS cS zR d0 d1 ?_;(first|(with_reducible exact Below.refl _ _)|(go_split_ands;first|(with_reducible assumption)|go_grown)))) (first|fail)
  all_goals(go_wp2_with fail;go_meet;go_split_ands;exact⟨_,rfl,vQ,fM,by first|(with_reducible exact Below.refl _ _)|go_grown⟩)
 case rest=>obtain h:=?rest;exact h):=h
abbrev Im(h:P:=by have h5:=jH hc6 (jH hcs hV5 hV6) (aK (me ⟨true,nu.seq,nu.seq,d,o⟩) hV5 rfl);have h6:=aK (py o).toList (jH hcs hV5 hV6) rfl;refine dr;exact⟨V5,V6,rfl,rfl,h5,h6,(hG.new hcs hlV5).new hc6 hlV6⟩):=h
abbrev zq38(h:P:=by rw[gF _ _ _ oM]at hown;refine my;clear hown;have HB:=OH hB3;clear hB3 hB1 hB2;unfold maxLen at hG63;refine YH;have hb2:¬(G=i+1):=oM;have hb6:¬(G=i):=oM;have hb4:¬(l.length=i):=oM;have hin:i<=l.length:=oM;have hb5:(l.length:Int)<(l.length:Int)+1:=oM;clear hW1 hW2 hW3 hN1 hN2 hN3 hV1 c0 c1 f0 f1 hg hV hrow hlen hRr hRs hdl htl hik hkk hfit hinfo hi0 hz0 hzs hzb;obtain h:=?_;exact h):=h
abbrev zq39(h:P:=by
 refine Rc;obtain⟨hpi,hpe⟩:=tp hs (t:=q.who) hw;rw[List.length_map]at hpi;obtain⟨pi,hpi0⟩:∃pi,pi=fi q.who (d.people.map Pe.who):=⟨_,rfl⟩
 rw[←hpi0]at hpi;rcases bW HP.out with⟨_,h0,_⟩|⟨gP,cap2,hA,hBg,hgl,hcap,hmx⟩
 .omega
 refine FC;obtain⟨-,-,-,-,cr,hg,hsz,hrow⟩:=lE HP.out;have hd:=hrow pi hpi 2 dM;have hd1:=hrow pi hpi 1 dM;simp only[List.getElem?_cons_zero,List.getElem?_cons_succ]at hd hd1;obtain⟨rt,hrt⟩:∃rt,rt=d.people[pi].rights:=⟨_,rfl⟩
 obtain⟨rm,hrm⟩:∃rm,rm=d.people[pi].room:=⟨_,rfl⟩
 rw[←hrt]at hd;rw[←hrm]at hd1;have hps:=λW (hb:aC w W)=>oV (w:=W) (aT gP) A2 A3 d.people.length ks.length d.subs.length n1 n2 n3 q.who (aX HP.out hb) oM hs c.people c.tracks c.subs c.slots
 rw[←hpi0,decide_eq_true hw]at hps;have hts:=λW (hb:aC w W)=>wO (w:=W) (aT gP) A2 A3 d.people.length ks.length d.subs.length n1 n2 n3 q.track (aX HT.out hb) EB (by rw[js HK.out];exact hs2) c.people c.tracks c.subs c.slots
 rw[js HK.out]at hts;all_goals(obtain h:=?_;exact h)):=h
abbrev zq41(h:P:=by
 refine ZM;refine ay;refine(HH _).mono ?_;refine Ab;refine Lr;by_cases hcn:cc<0
 .have hcd:decide (cc<0)=true:=by simpa using hcn
  refine dA;case rel=>exact⟨(a+b) / 2+1,b,(by congr 1),rfl,oM,hbl,λq hq hq2=>by
   by_cases hqa:q<a
   .exact H1.out q hq hqa
   .exact HM.out q ((a+b) / 2) oM hh (by rw[HCC.out];exact hcn),H2.out,HHB2.out⟩
  case measure=>exact di
 .have hcd:decide (cc<0)=false:=by simpa using hcn
  refine dA;case rel=>exact⟨a,(a+b) / 2,rfl,(by congr 1),oM,oM,H1.out,λq hq hq2=>by
   refine Wh
   .exact hq3,HHB2.out⟩
  case measure=>exact di):=h
abbrev Il(h:P:=by refine Gb;have hZ2:=hJ.keep hc2 hZ;clear hJ hB hT cT fT zT hZ cZ fZ zZ hc2;obtain⟨cZ,fZ,zZ⟩:=ab hZ2;obtain h:=?_;exact h):=h
abbrev zq43(h:P:=by
 refine Z2;have d1:cur[a*2+1]?=some (.slice v1 vl1 vc1):=by have q:cur[((a+0) % L)*2+1]?=some (.slice v1 vl1 vc1):=h.ent 0 sM 1 dM;exact LL
 obtain h:=?_;exact h):=h
abbrev Q8(h:P:=by exact⟨rfl,⟨_,_,_,eM,ah HP.out hcf cy,zt81,ah HS.out hcf cy⟩,hcf.none.mono hB⟩):=h
abbrev Ik(h:P:=by
 .go_ret
  rw[HJ.out];exact⟨rfl,⟨_,_,_,eM,ah HP.out hc cy,⟨ks,ah HT.out hc cy,HK.out.kept hc cy⟩,ah HS.out hc cy⟩,hc.none.mono hB⟩):=h
abbrev oG(h:P:=by refine hK.out _ _ ⟨bk,bk,bk⟩ (λhH=>?_);obtain h:=?_;exact h):=h
abbrev oF(h:P:=by refine gN;refine nK;obtain h:=?_;exact h):=h
abbrev zq53(h:P:=by
 have hd:0<=IntKind.u16.wrap (b-a)/\IntKind.u16.wrap (b-a)<=65535:=by rw[jS];omega
 obtain⟨h0,h1⟩:=hd;have HF:Hid (eQ a b=if 32768<=IntKind.u16.wrap (b-a) then IntKind.u16.wrap (b-a)-65536 else IntKind.u16.wrap (b-a)):=OH (by rw[jS];rfl);go_enter func126,ntmps126;go_wp2_with (go_at_call 169;refine(O8 _ _ oM oM).mono ?_;rintro e w' ⟨rfl,rfl⟩)
 all_goals
  go_ret;refine⟨lC ?_,rfl⟩;rw[HF.out];first|rw[if_pos aM] |rw[if_neg oM]):=h
abbrev Q7(h:P:=by
 rw[hpq,if_pos rfl,List.append_nil]at HT;have CL:=OH c2;clear c2;have HPQ:=OH hpq;clear hpq;refine dA;case rel=>exact⟨q+1,d,cr,oM,eT,rfl,by rw[HT.out];exact HD.out,oM,hrw2,hsz1,by rw[HT.out];exact K1.out,λi hi j hqi hj=>K2.out i hi j oM hj,hJ2,hcc⟩
 case measure=>exact di):=h
abbrev Ij(h:P:=by obtain⟨c1,f1,z1'⟩:=ab k1;refine EY;obtain⟨c10,f10,z10'⟩:=ab k10;obtain⟨c8,f8,z8'⟩:=ab k8;obtain h:=?_;exact h):=h
abbrev zq57(h:P:=by refine Wm;have hgn:=aZ hBx zG hg;have hg:=hgn;refine YL;obtain h:=?_;exact h):=h
abbrev LE(h:P:=by subst hwc;have hs:=hsn;have hr:=hrn;have hM:=hMn;have hMv:=hMvn;refine vb;have zR:=aB hr;have hMS:=hM.not_cells hs;have hMR:=hM.not_cells hr;have yB:=hMv.size;obtain h:=?_;exact h):=h
abbrev zq59(h:P:=by
 have HW:=OH hw;go_enter func250,ntmps250;refine ay;refine rg 10 (λw'=>Bk w' X (gi c (.slice A1 m1 n1) (.slice (aT g) ks.length n2) (.slice A3 m3 n3)) 42/\Bk w' w.heap.size (fq q A cap) 50/\ag af w w') ⟨bk,bk,bu⟩ (λhHeld0=>?_);refine Zc;have hX5:=(hc5.block _ z0 id).trans hX;have hg5:=(hc5.block _ z3 id).trans hg;have HC5:=OH hc5;obtain⟨c6,f6,z6⟩:=ab hX5;obtain⟨c7,f7,z7⟩:=ab hg5;have e3:=(c7 (i*4+1)).trans hd;go_wp2_with (go_quiet (fail))
 go_ret2;all_goals(obtain h:=?_;exact h)):=h
abbrev zq62(h:P:=by
 simp only[Option.some.injEq,Addr.mk.injEq]at e;obtain⟨rfl,rfl,-⟩:=e;have b0:=jX hb (j:=0) oM;have b1:=jX hb (j:=1) oM;have e2:decide (2<=zs.length)=true:=by simpa using h2
 have hF:xQ zs=((bits .and .u8 (zs.getD 0 0) 192==128)&&decide (192<=zs.getD 1 0)&&decide (zs.getD 1 0<=223)):=by unfold xQ;rw[e2,Bool.true_and]
 generalize xQ zs=r at *;generalize zs.getD 0 0=x at *;generalize zs.getD 1 0=y at *;generalize zs.length=n at *;have i1:(0:Int)<(n:Int):=oM;have i2:(1:Int)<(n:Int):=oM;obtain⟨q1,f1⟩:∃b,(bits .and .u8 x 192==128)=b:=⟨_,rfl⟩
 obtain⟨q2,f2⟩:∃b,decide (192<=y)=b:=⟨_,rfl⟩
 rw[f1,f2]at hF;have HF:=OH hF;clear hF h hb e2;rw[Nat.add_zero]at c0;cases q1<;>cases q2<;>(go_enter func88,ntmps88;go_wp2_with fail;go_ret;exact⟨by rw[HF.out];rfl,rfl⟩)):=h
abbrev zq63(h:P:=by go_simp;refine(AV (HA6.out.chg (S:=af) Kj id id) hl htn HV.out HBA.out D).mono ?_;rintro r w9 ⟨s,tn,err,l1,live1,rfl,hTR,hA9,hc9⟩;have hg9:ag (Fr [(124,BP,0),(352,BP,0)] [] w6) w6 w9:=aF (aY Kj) hc9;have hC9:w9.heap[C]?=OC ((iP G (.slice A1 d.people.length n1) (.slice A2 ks.length n2) (.slice A3 d.subs.length n3) t ever vw)) 153:=bJ hg9 hC6 rM;obtain h:=?_;exact h):=h
abbrev qV(h:P:=by refine qC;refine bV;obtain h:=?_;exact h):=h
abbrev zq65(h:P:=by refine ay;refine HCA.out.mono ?_;rintro r w5 ⟨A5,c5,rfl,hl5,hc5⟩;have ha5:=HAK.out.none hc5;have HR5:=OH (And.intro (ae hc5 hR id) (ae hc5 hS id));have HAS:=OH (askA_t HX.out.2.2.1 ha5 oM hl5 dM);refine ay;refine HAS.out.mono ?_;rintro r w6 ⟨rfl,ha6,hk6⟩;have HA6:=OH ha6;have HR6:=OH (And.intro (hk6 _ _ _ (.inl rfl) HR5.out.1) (hk6 _ _ _ (.inr rfl) HR5.out.2));refine ay;obtain h:=?_;exact h):=h
abbrev zq66(h:P:=by go_region;all_goals(go_wp2_with fail;(try simp only[Exit.inBlock,Exit.then]);(refine bodyPost_end (results_none rfl _ _ _) rfl ?_);first|exact⟨g2,rfl,vQ,vQ,vQ,gz2,Sj,Si⟩|exact⟨rfl,g2,vQ,vQ,vQ,gz2,Sj,Si⟩|exact⟨rfl,vQ,g2,vQ,vQ,gz2,Sj,Si⟩)):=h
abbrev zq67(h:P:=by refine ay;refine rg 6 (λw'=>Bk w' V #[OV R] 396/\Bk w' R (CN c n (gE kd)) 399) ⟨bk,bk⟩ (λhH=>?_);refine XH;have g1:=h1.set 3 (JT x1) {gE kd with ssrc:=x1} rfl;refine Yy;refine ay;refine rg 6 (λw'=>Bk w' V #[OV R] 396/\Bk w' R (CN c n {gE kd with ssrc:=x1}) 399) ⟨bk,bk⟩ (λhH=>?_);refine XG;have g2:=h2.set 4 (JT x2) {gE kd with ssrc:=x1,media:=x2} rfl;refine M4;have hG:ag (λj=>j=c\/j=R) w u2:=hg2;have H:=OH H2.out;have l3:=l2;have ym:=y2;generalize x1=sx at *;generalize x2=mx at *;generalize z2=z0 at *;generalize e2=e0 at *;subst hn;obtain h:=?_;exact h):=h
abbrev zq68(h:P:=by
 go_wp2_with (first
  |(go_at_call 93;(with_reducible refine(lN _ _ _).mono ?_);rintro e w' ⟨rfl,rfl⟩;rw[hfh.out])
  |(at_builtin;refine wpList_append_own _ rfl (.tmp 46) (.tmp 49) 110 rfl w.heap.size 209 i0 (.agg #[JS 0,JS 0]) 2 4 underlying110 hi hz0 hz1 hz2 rfl dM _ _ _ rfl (hown.alloc _) ⟨wr.heap.size,0,none⟩ 1 1 [JS s,JS 0] rfl rfl mf oe If Ie Ia ?_;intro v1 w1 hown1 hgrow1 _))
 refine Vw;have hfar:¬(s-p) % 65536<=16:=by rcases HD.out with h|h<;>omega
 have hown3:w1.ownsRow w.heap.size 209 2 v1 (O++ [(p,m)] ++ [(s,0)]).length (bp .u16 (O++ [(p,m)] ++ [(s,0)])):=by simpa[bp]using hown1
 clear hown hown1 hgrow1 hB;go_roundw;case rel=>exact⟨k+1,oM,eT,by rw[hst.out];exact(by rw[lD _ _ _ _ hfar];exact hown3),hB1⟩
 case measure=>simp[intOf];omega):=h
abbrev zq69(h:P:=by
 refine LW
 .refine MA
  simp only[Nat.add_zero,List.getElem?_cons_zero,List.getElem?_cons_succ]at d0 d1 d2;obtain⟨c0,f0,z0⟩:=ab hrw;have e0:=(c0 (k*3)).trans d0;have e1:=(c0 (k*3+1)).trans d1;have e2:=(c0 (k*3+2)).trans d2;exact zq20
 .exact LD):=h
abbrev zq71(h:P:=by refine ay;refine rg 6 (λw'=>Bk w' V #[OV R] 396/\Bk w' R (CN c n (gE k)) 399) ⟨bk,bk⟩ (λhH=>?_);refine XH;have g1:=h1.set 3 (JT x1) {gE k with ssrc:=x1} rfl;refine Yy;obtain h:=?_;exact h):=h
abbrev mj(h:P:=by refine tk 6 ?_;refine uV;obtain h:=?_;exact h):=h
abbrev zq75(h:P:=by refine⟨_,by rw[←HD.out];rfl,du zs _ _ _ hrw,Cm,?_,HS.out _ _ _ hJ hcs,hc.trans (hcs.mono λj _ h=> .inr h)⟩;intro i hi j hj;rw[mE (by have:=HD.out;omega) hj Kd];exact K1.out i hi j hj):=h
abbrev Ii(h:P:=by refine hK.out _ _ ⟨kb hb5,kb hb5,ag.next aM hb5⟩ (λhHeld1=>?_);clear hK K;refine mi;obtain h:=?_;exact h):=h
abbrev zq77(h:P:=by
 go_enter func40,ntmps40;refine ay;refine ej 13 (S:=(λw'=>Bk w' C (iP G vp vt vs t ever vw) 153)) kM rM ?_ (λhHeld0=>?_)
 .exact bk
 refine iU;refine kB;have hCd:w.drew.heap[C]?=OC (iP G vp vt vs t ever vw) 153:=bZ;have hcd:ag af w w.drew:=bu;refine(lI _ A zs.length cap (zs.map (Value.int .u8)) sM hzl (jB .u8 zs) (HSR.out.below hcd.none)).mono ?_;refine WW;have hC5:=(hc5.block _ zC id).trans hC;have hq5:=HQ.out.kept hc5 id id;refine nO
 .exact aO hC5
 refine mi;refine bV;refine E0;all_goals(obtain h:=?_;exact h)):=h
abbrev zq78(h:P:=by
 obtain⟨hp,ht,hs⟩:=h;obtain⟨ks,hk,hks⟩:=ht;refine KW;have hkl:=hks.1;have q1:=λW (hb:aC w W)=>Qf W _ _ _ _ (bX dS d.people) oM (xD _) (eZ (aX hp hb))
 have q2:=λW (hb:aC w W)=>BS W _ _ _ _ (bX ce d.subs) oM (oW _) (eZ (aX hs hb))
 have q3:=λW (hb:aC w W)=>Qe W _ _ _ _ (bX dt ks) oM (xC _) (eZ (aX hk hb))
 have Q1:=OH q1;clear q1;have Q2:=OH q2;clear q2;have Q3:=OH q3;clear q3;have HK:=OH hks;clear hks;refine rL;have h2':ks.length<=1000:=oM;clear hp hk hs hkl;obtain h:=?_;exact h):=h
abbrev zq79(h:P:=by
 go_enter func255,ntmps255;go_wp2_with (first|(at_builtin;refine wpList_append_own _ rfl (.tmp 23) (.tmp 24) 40 rfl B 170 i0 (.agg #[JI 0,JI 0,JI 0,JI 0,.bool false]) 5 40 underlying40 hi hz0 hz1 hz2 rfl dM _ _ _ rfl HO.out ⟨V,0,none⟩ 1 1 (el x) rfl rfl (World.news_of_block HV.out) (xF x) lM oM hB ?_;intro v1 w1 hown1 hgrow1 _))
 go_ret;all_goals(obtain h:=?_;exact h)):=h
abbrev zq80(h:P:=by
 refine so;obtain⟨A,cap,rfl⟩:=hv.slice;have e1:(ka (e::r)).length=r.length+1:=by simp[ka]
 rw[e1]at hT hv;obtain⟨g,off,rfl,_,gl,gc,gf⟩:=mX hv (j:=0) (by simp[ka]);have hcap:=(sV hv).2.1;have hfd:=PP;rw[Nat.add_zero]at gc gf;replace gc:w.cell? ⟨g,off,none⟩=some (JU e.id):=gc;refine jP;obtain⟨b0,b1⟩:=hok.lo e sM;have hex:=pC b0 b1;have hfe:dB (e::r) e.id=some e:=Js hok.nd sM;have l1:(dW (e::r) x).getD (.agg #[.string ⟨#[]⟩,.bool false])=.agg #[.string ⟨#[]⟩,.bool false]:=Ae
 have l2:(dW (e::r) x).isSome=false:=Ae
 obtain h:=?_;exact h):=h
abbrev zq81(h:P:=by
 go_enter func249,ntmps249;go_wp2_with (first|(at_builtin;refine wpList_append_own _ rfl (.tmp 23) (.tmp 24) 39 rfl B 173 i0 (.agg #[JI 0,JI 0,JI 0,.slice none 0 0]) 4 48 underlying39 hi hz0 hz1 hz2 rfl dM _ _ _ rfl HO.out ⟨V,0,none⟩ 1 1 (eU x) rfl rfl (World.news_of_block HV.out) (xE x) lM oM hB ?_;intro v1 w1 hown1 hgrow1 _))
 go_ret;all_goals(obtain h:=?_;exact h)):=h
abbrev di(h:P:=by simp[intOf];omega):=h
abbrev zq83(h:P:=by refine YH;have hb2:¬(cap=i+1):=oM;have hb3:(i:Int)<=(l.length:Int)+1:=oM;have hb4:¬(cap=i):=oM;have hin:i<=l.length:=oM;have hb5:¬((cap:Int)<(l.length:Int)+1):=oM;obtain h:=?_;exact h):=h
abbrev Ih(h:P:=by refine ons 11 (hV5) ⟨bk (jH hcs hV5 hb),bk (jH hcs hV5 hnb),bk (jH hcs hV5 hD)⟩ (λhH=>?_);refine bV;refine lst (jH hcs hV5 hV6) ?_;obtain h:=?_;exact h):=h
abbrev zq85(h:P:=by
 have hn1:n=ys.length+1:=by rw[←hN];simp
 have HN:=OH hN;clear hN;have hn2:n<=4096:=by have:=hr.out.le;rw[HN.out]at this;omega
 have hn3:ys.length=n-1:=oM;have HN1:=OH hn1;clear hn1;have HN3:=OH hn3;clear hn3;obtain h:=?_;exact h):=h
abbrev df(h:P:=by refine ay;go_ret2;all_goals(obtain h:=?_;exact h)):=h
abbrev qU(h:P:=by refine Ce;refine tk 5 ?_;refine tk 6 ?_;obtain h:=?_;exact h):=h
abbrev zq88(h:P:=by
 go_enter func240,ntmps240;go_wp2_with (first|(at_builtin;refine wpList_append_own _ rfl (.tmp 23) (.tmp 24) 38 rfl B 167 i0 (.agg #[JI 0,JI 0,JI 0]) 3 24 underlying38 hi hz0 hz1 hz2 rfl dM _ _ _ rfl HO.out ⟨V,0,none⟩ 1 1 (gp x) rfl rfl (World.news_of_block HV.out) (xG x) lM oM hB ?_;intro v1 w1 hown1 hgrow1 _))
 go_ret;all_goals(obtain h:=?_;exact h)):=h
abbrev zq89(h:P:=by have hGd:=ag.refl af w;refine rl 15 (λw'=>Bk w' x.W #[OV K.A,OV K.P,OV K.B,JI x.sh,OV x.Q,nA x.tb,Po x.now,nA x.nx,JI 2,.map (some x.cm),.map (some x.am),JI x.c0,JI x.c1,JI x.c2,JI x.c3,JI x.c4] 164) (λw0_ hc0=>?_);refine yW;refine AE;refine Lt;refine(oO (H.out.tb.below hGd.none)).mono ?_;rintro r' w1_ ⟨rfl,hww1_⟩;subst hww1_;have hc1:ag af w0_ w0_:=ag.refl _ _;have hW:=ae hc1 hW id;have hGd:=ag.trans hGd hc1;refine hK.out _ _ bk (λhH=>?_);refine qE;refine sb;obtain h:=?_;exact h):=h
abbrev mh(h:P:=by simp only[Value.slice.injEq]at h1;obtain h:=?_;exact h):=h
abbrev qT(h:P:=by refine hK.out _ _ bk (λhH=>?_);refine qE;obtain h:=?_;exact h):=h
abbrev dA(h:P:=by
 refine ay;go_roundw;case rel=>obtain h:=?rel;exact h
 case measure=>obtain h:=?measure;exact h):=h
abbrev Ig(h:P:=by rw[←hW];clear hW hZ2 hJ2 hB2 cZ fZ zZ;refine zE;have hT:=hJ.t;refine jP;refine ay;obtain h:=?_;exact h):=h
abbrev Q6(h:P:=by exact⟨k+1,k,cur,oM,sM,rfl,by rw[HY.out,HYL.out],oM,hrw,hsz,by rw[HY.out];intro i hi j hj;rw[HC.out i (by have:=HYL.out;omega) j hj];simp,λi hi j _ hj=>HC.out i hi j hj,hJ,hc.mono λj _ h=> .inl h⟩):=h
abbrev zq95(h:P:=by
 refine ay;go_loopw [5,8] (λ_ i wr=>∃k:Nat,k<=n/\i=JI k/\ag af w wr) (λ_ i _=>n- (intOf i).toNat);case atStart=>exact⟨0,oM,rfl,ag.refl _ _⟩
 case round=>
  obtain⟨k,hk,rfl,hc⟩:=hrel;by_cases hlt:k<n
  .obtain⟨g,e,e0⟩:=HC.out wr hc k hlt
   subst e;have hfk:=HF.out wr k hc hlt;have HFK:=OH hfk;refine ay;refine Calls.mono HFK.out ?_;refine rZ;refine ay;go_roundw;case rel=>exact⟨k+1,oM,eT,hc.next hb1⟩
   case measure=>simp[intOf];omega
  .have hkl:k=n:=oM
   refine mq;exact⟨rfl,hc.none⟩):=h
abbrev Q0(h:P:=by go_quiet (fail);all_goals(go_wp2_with fail;go_meet;go_split_ands;exact⟨rfl,rfl,zt58⟩)):=h
abbrev zq97(h:P:=by refine ay;refine wY underlying58 ?_ (h1:=aK (ij rk) hX7 rfl);exact⟨rk,11,rfl,λq=>absurd q dM,λq=>absurd (HP.out q).2.2.2.2.2.2.2.2.1 HN32.out,(H7.out.g.new J6 fo).none⟩):=h
abbrev zq98(h:P:=by go_split_ands;refine(HDO.out _ aM).mono ?_;rintro r w5 ⟨hdo,hb5⟩;obtain⟨vp',vt',vs',B',rfl,hD5,hB5⟩:=hdo;have HD5:=OH hD5;obtain⟨hp5,⟨ks5,hk5,-⟩,hs5⟩:=hD5;obtain⟨A4,n4,rfl⟩:=aj hp5;obtain⟨A5,n5,rfl⟩:=aj hk5;obtain⟨A6,n6,rfl⟩:=aj hs5;clear hp5 hk5 hs5;have hC5:w5.heap[C]?=OC (iP G (.slice A1 d.people.length n1) (.slice A2 ks.length n2) (.slice A3 d.subs.length n3) t ever vw) 153:=(hb5.block C aM).trans aM;have hZ5:w5.heap[w.heap.size]?=OC (fq rq A cap) 50:=(hb5.block w.heap.size aM).trans aM;have hc5:ag af w w5:=ag.next aM hb5;all_goals(obtain h:=?_;exact h)):=h
abbrev zq99(h:P:=by
 have HG:=OH hG;have hb8:=ae hc8 hbc (eC (H.out.below hG.none) hbc);have h58:=ae hc8 h5 (eC (H.out.below hG.none) h5);have h68:=ae hc8 h6 (eC (H.out.below hG.none) h6);have hp8:=ae hc8 hpc (eC (H.out.below hG.none) hpc);have HPK:=OH (pk_dn HPC.out (H.out.below hG.none) hc8);obtain⟨cb,fb,zb⟩:=ab hbc;obtain⟨c5,f5,z5⟩:=ab h5;obtain⟨cD,fD,zD⟩:=ab hDc;go_upto_region 3 with(refine stl hDc ?_)
 have H8:=OH h8;have HC8:=OH ((HG.out.mono λ_ _ q=>q.elim:ag (iB D S R M) w wc).trans hc8);obtain h:=?_;exact h):=h
abbrev Gi(h:P:=by refine bj;exact⟨w.heap.size+1,w.heap.size,_,J3,⟨gD,ur,dM,(by first|exact HS.out|(simp;done)),oM,sM,h1,sM,λi hi=>by simp at hi⟩,oM,oM,qQ⟩):=h
abbrev aa3(h:P:=by
 have HP3:=OH (aX (aU HP2.out hx2 dM) hb3);have HS3:=OH (aX (aU HS.out hx2 dM) hb3);have HT:=OH (aW (B':=w.heap.size) ht xM);clear ht;have hB3:aC w w3:=aE (w:=w) gM hb3;clear hb3 HP2 HS c1 f1 z1 c2 f2 z2 hx2 hy2;obtain⟨c1,f1,z1⟩:=ab hx3;obtain⟨c2,f2,z2⟩:=ab hy3;have hst:∀j k1 t,ks[j]?=some k1->d.tracks[j]?=some t->(j<0->gy w3 w.heap.size k1 t)/\(0<=j->ks[j]?=some k1):=λj k1 t h _=>⟨λq=>oM,λ_=>h⟩
 refine qg;clear hst;refine ay;obtain h:=?_;exact h):=h
abbrev aa2(h:P:=by refine MZ;have Q:=OH (show(yA x p fr la wf wl->b'=true)/\BR w9 0 (.slice A zs.length cap) zs/\aG zs/\zs.length<=40000/\dC w9 (N+1+1) D S R M n s x'/\(yA x p fr la wf wl->x'.on=true/\x'.f=wf/\x'.l=wl)/\ag (iB D S R M) w w9 from⟨λq=>absurd (HPK.out q).2.2.2 dM,q1,q2,q3,q4.mono (Nat.le_succ _),λq=>absurd (HPK.out q).2.2.2 dM,HC8.out.trans q6⟩);clear q1 q2 q3 q4 q5 q6 hbq;obtain h:=?_;exact h):=h
abbrev Gh(h:P:=by
 subst hsc;refine ay;go_round;case rel=>exact⟨jj+1,by have:=HLJ.out;omega,by have:=HLJ.out;omega,eT,by rw[HB2.out]⟩
 case measure=>have:=HLJ.out;simp[intOf];omega):=h
abbrev Nj(h:P:=by
 refine List.pairwise_iff_getElem.2 λk l hk hl hkl j hj hj2=>?_
 have hk':k<z.wk.length:=by simpa using hk
 have hl':l<z.wk.length:=by simpa using hl
 rw[List.getElem_set]at hj hj2;split at hj
 .next e=>
  subst e;rw[if_neg oM]at hj2;rcases ho j hj with q|q
  .exact hap i l hi hl' oM j q hj2
  .have:=hlt l hl' j hj2
   omega
 .next e=>
  split at hj2
  .next e2=>
   subst e2;rcases ho j hj2 with q|q
   .exact hap k i hk' hi oM j hj q
   .have:=hlt k hk' j hj
    omega
  .exact hap k l hk' hl' oM j hj hj2):=h
abbrev vD(h:P:=by refine ons 12 (hV5) ⟨bk (jH hcs hV5 hb),bk (jH hcs hV5 hnb),bk (jH hcs hV5 hD)⟩ (λhH=>?_);refine bV;obtain h:=?_;exact h):=h
abbrev Gg(h:P:=by have n1:=hq9.ne hW9 dM;have n2:=hq9.ne hJ9 dM;have n3:=hq9.ne hZ dM;obtain⟨i0,hi,hz0,hz1,hz2⟩:=aI Tg;have hln:=HLN.out;obtain h:=?_;exact h):=h
abbrev ga(h:P:=by refine bj;exact gO):=h
abbrev aa1(h:P:=by
 refine iU;refine on 9 λK hK=>?_
 go_simp;have hz9:=hHeld0;go_split_ands;refine(HCU.out _ uk).mono ?_;rintro e w5 ⟨v5,rfl,hown5,hb5⟩;obtain⟨A7,n7,rfl⟩:=aj hown5;have HO5:=OH hown5;clear hown5;refine Ii;refine bV;refine nK;refine je;clear hK K;refine rU;have hc5:ag af wr w5:=aM;have hg5:w5.heap[g]?=OC cr 173:=aM;have hs5:ag (λj=>j=g) w5 (w5.setCell ⟨g,k*4+3,none⟩ (.slice A7 y.n n7)):=ag.set (S:=λj=>j=g) dp ⟨g,k*4+3,none⟩ (.inl rfl) _;all_goals(obtain h:=?_;exact h)):=h
abbrev aa0(h:P:=by
 go_enter func45,ntmps45;refine ay;refine rg 13 (λw'=>Bk w' x.W (ou K x) 164) bk (λhH=>?_);refine iU;refine on 9 λK hK=>?_
 go_simp;have hcd:ag af w w.drew:=bu;refine(lI _ A zs.length cap (zs.map (Value.int .u8)) sM hl (jB _ _) (hz.below hcd.none)).mono ?_;refine WW;have hW5:=ae hc5 hW id;have hq5:=HQ.out.kept hc5 id id;refine qT;refine E0;obtain h:=?_;exact h):=h
abbrev Ni(h:P:=by refine lP;have hqr:=h.qr;have hL1:=h.L1;have ha:=h.at';obtain⟨c0,f0,z0⟩:=ab h.q;obtain⟨c1,f1,z1⟩:=ab h.r;have hq:=h.q;clear h;refine Wn;obtain h:=?_;exact h):=h
abbrev Z9(h:P:=by
 have HROW:=OH hrow1;clear hrow1 r1 r1' hflat;have HEL:=OH hel;clear hel;have R2:=OH r2;clear r2;go_enter func256,ntmps256;go_upto_region 5 with fail;refine ej 7 (S:=(λw'=>True)) kM rM ?_ (λhHeld0=>?_)
 .trivial
 refine Fq;rw[if_pos rM];refine Lib.wp_append_run _ (.tmp 22) (.tmp 25) 40 40 rM _ _ rM rM _ _ HRUN.out ?_;refine nO
 .trivial
 clear hK K;refine mi;refine bV;refine je;clear hK K;refine bj;all_goals(obtain h:=?_;exact h)):=h
abbrev Z8(h:P:=by
 go_enter func175,ntmps175;go_wp2_with (first|(go_at_call 220;(with_reducible refine(jE _ _ _ oM oM).mono ?_);rintro e w' ⟨rfl,rfl⟩;rw[HY.out]))
 refine Mg;obtain h:=?_;exact h):=h
abbrev Nh(h:P:=by
 have hp':tmps[p]?.getD undef=OV g:=by simpa using hp
 have hq':tmps[q]?.getD undef=OV g':=by simpa using hq
 simp[results,h,hp',hq',asAddr,run_loadVar_row w g t ty cs (0,0) d hg hu hd hi,run_loadVar_row w g' t' ty' cs' (0,0) d' hg' hu' hd' hi']):=h
abbrev Ng(h:P:=by go_enter func168,ntmps168;refine ay;refine qm;refine qm;go_quiet (fail);refine df;exact⟨rfl,(bF (bF (bF oA _) _) _)⟩):=h
abbrev Nf(h:P:=by
 go_enter func111,ntmps111;go_wp2_with (at_lookup;refine ex _ rfl (.tmp 14) (.tmp 15) 236 rfl 47 322 .u64 underlying47 underlying236 rI M n (dW (e::r)) rfl hM x rfl hxw _ _ H1.out H2.out ?_)
 go_quiet (fail);obtain h:=?_;exact h):=h
abbrev Nd(h:P:=by
 have e:(z.wk.set i x').map (λx=>Value.pointer (some ⟨x.W,0,.none⟩))=z.wk.map λx=>OV x.W:=by rw[List.map_set,hW];exact Wl
 dsimp only;rw[hlen,e];exact this):=h
abbrev Z7(h:P:=by go_split_ands;refine(hdn _ _ (by have:=HEV.out;omega) (by have:=HEV.out;omega) (Nat.le_trans HC6.out.size (show ag af w6 _ from bu).size)).mono ?_;rintro r w8 ⟨D,rfl,hDl,hDN8,hb8⟩;have hn8:ag af w6 w8:=(show ag af w6 _ from bu).next hb8;have hC8:w8.heap[C]?=OC ((iP G (.slice A1 d.people.length n1) (.slice A2 ks.length n2) (.slice A3 d.subs.length n3) t ever vw)) 153:=(hn8.block _ zC id).trans hC6;have hDl8:w6.heap.size<=D:=Nat.le_trans (show ag af w6 _ from bu).size hDl;all_goals(obtain h:=?_;exact h)):=h
abbrev vC(h:P:=by obtain⟨rfl,rfl⟩:=hsrc.1 rfl;have:xs=[]:=List.eq_nil_of_length_eq_zero El;subst this;obtain h:=?_;exact h):=h
abbrev Z6(h:P:=by
 have hi:=(HI.out.none hG)
 have hp:yJ s.kind z z:=.same rfl rfl;have HI2:=OH hi;have HI3:=OH hi;have HP3:=OH hp;refine ay;refine Calls.mono (Jh HI3.out) ?_;rintro r w4 ⟨rfl,z2,hi2,e1,e2⟩;have HE:=OH (And.intro hi2 (HP3.out.next (by rw[e1]) e2));refine kv;refine bodyPost_ret (results_none rfl _ _ _) rfl ?_;obtain⟨M9,N9,m9,q1,q2⟩:=HE.out.1;exact⟨rfl,z2,⟨M9,N9,m9,q1,q2.mono (N':=N9) (m':=m9) oM⟩,HE.out.2⟩):=h
abbrev Z5(h:P:=by refine WO;refine Calls.mono (HC.out _ hG) ?_;refine Y4;refine Calls.mono (PD (kd:=s.kind) (HI.out.none HG2.out) hk HZ.out.1 HZ.out.2.1 HZ.out.2.2) ?_;exact In):=h
abbrev bI(h:P:=by have H:=OH h;obtain h:=?_;exact h):=h
abbrev Gf(h:P:=by
 refine ay;go_loopw [5,8] (λ_ i wr=>∃k:Nat,k<=xs.length/\i=JI k/\(∀j (hj:j<xs.length),j<k->p xs[j]=false)/\J k wr/\ag S w wr) (λ_ i _=>xs.length- (intOf i).toNat);case atStart=>exact⟨0,oM,rfl,λj _ hj=>oM,h0,ag.refl _ _⟩
 case round=>obtain h:=?round;exact h):=h
abbrev Z4(h:P:=by have hXo:=hX;have hX:=aK (SP ⟨m1,m2,m3,m4,m5,m6,m7,.slice a1 a2 a3,.slice a4 a5 a6,.slice a7 a8 a9,.slice d1 d2 d3,m8⟩) hX rfl;have hm1:=hm1.chg hs (aJ hXo dM) (aJ hXo dM);have hw:=hw.new hs hXl;refine Mv;refine je;refine ay;go_meet;exact⟨X,_,err,rfl,rfl,hX,hm1,⟨_,_,_,_,_,_,_,_,_,_,_,_,_,_,_,_,_,_,_,_,rfl⟩,hw,hXl⟩):=h
abbrev AN(h:P:=by simp[IntKind.wrap,IntKind.bits,IntKind.signed];obtain h:=?_;exact h):=h
abbrev qH(h:P:=by rintro r w2 ⟨rfl,hw2⟩;have hw3:=hw2.symm;subst hw3;obtain h:=?_;exact h):=h
abbrev Z3(h:P:=by
 obtain⟨h0,h2,h3,h4,hB⟩:=hcut;obtain⟨c0,f0,z0⟩:=ab h0;refine WE;refine oI;go_region;all_goals
  go_wp2_with fail;(try simp only[Exit.inBlock,Exit.then]);refine jt rfl rfl rfl underlying375 rfl underlying373 rfl rfl ⟨_,_,_,_,qY,kM,qY,kM,?_,gM⟩;exact wR HR.out rfl):=h
abbrev Ge(h:P:=by refine uN;refine la (λK hK=>?_);refine qu;go_simp;refine oK;refine ay;go_meet;obtain h:=?_;exact h):=h
abbrev jQ(h:P:=by obtain⟨c0,f0,z0⟩:=ab h1;obtain h:=?_;exact h):=h
abbrev Z2(h:P:=by
 refine Vi;have d0:cur[a*2]?=some (JI v0):=by have q:cur[((a+0) % L)*2+0]?=some (JI v0):=h.ent 0 sM 0 dM;exact LL
 obtain h:=?_;exact h):=h
abbrev nS(h:P:=by refine tk 12 ?_;refine tk 13 ?_;obtain h:=?_;exact h):=h
abbrev lU(h:P:=by
 refine on 5 λK hK=>?_
 go_simp;obtain h:=?_;exact h):=h
abbrev Z1(h:P:=by obtain⟨g,rfl,hg,h0,h1,h2,h3,h4,hB⟩:=hcut;obtain⟨c0,f0,z0⟩:=ab h0;obtain⟨c1,f1,z1⟩:=ab h1;refine WE;obtain h:=?_;exact h):=h
abbrev Z0(h:P:=by refine YT;refine ay;refine(HH _).mono ?_;refine Ab;exact YF):=h
abbrev dr(h:P:=by refine ay;go_meet;obtain h:=?_;exact h):=h
abbrev ZZ(h:P:=by rw[g2]at hly;have HLY:=OH hly;clear hly g2;refine rV;go_enter func198,ntmps198;refine zq8;refine ay;refine(HLY.out _).mono ?_;rintro e w6 ⟨rfl,hb6⟩;have hc6:=ag.of (S:=af) hb6;have hX6:=(hc6.block _ z1 id).trans hX5;have hZ6:=(hc6.block _ z2 id).trans hZ5;have HC6:=OH (HC5.out.trans hc6);clear hb6 hc6;obtain⟨c3,f3,z3⟩:=ab hX6;obtain⟨c4,f4,z4⟩:=ab hZ6;all_goals(obtain h:=?_;exact h)):=h
abbrev ZY(h:P:=by
 rw[e1];refine .inr ⟨g,off,cap,cur.setIfInBounds (off+xs.length) u,sM,hg1,av _ _ hg2,by simpa using hr,hg4,by simpa using hg5,λj hj=>?_⟩;rw[List.length_append,List.length_singleton]at hj;rw[Array.getElem?_setIfInBounds];by_cases q:j<xs.length
 .rw[if_neg oM,List.getElem?_append_left q]
  exact hg6 j q
 .have:j=xs.length:=oM
  subst this;rw[if_pos rfl,if_pos oM];simp):=h
abbrev Nc(h:P:=by
 rcases q with q|q|q|q|q|⟨y,hy,q⟩
 .exact .inl (.inl q)
 .exact .inl (.inr (.inl q))
 .exact .inl (.inr (.inr (.inl q)))
 .exact .inl (.inr (.inr (.inr (.inl q))))
 .exact .inl (.inr (.inr (.inr (.inr (.inl q)))))
 all_goals(obtain h:=?_;exact h)):=h
abbrev ZX(h:P:=by have hc1:ag (λj=>j=Q\/j=R) w w1:=ag.next im hb;obtain⟨c0,f0,y0⟩:=ab hq1;obtain⟨c1,f1,y1⟩:=ab hR1;have g0:=(c1 (a*2)).trans d0;have g1:=(c1 (a*2+1)).trans d1;obtain h:=?_;exact h):=h
abbrev jp(h:P:=by rintro e w1 ⟨rfl,hb⟩;obtain h:=?_;exact h):=h
abbrev Gd(h:P:=by clear hrw hJ hc;obtain⟨q,d,cr,hq,rfl,rfl,hd,hdq,hrw,hsz1,hk1,hk2,hJ,hc⟩:=hrel;obtain⟨c1,f1,y1⟩:=ab hrw;by_cases hlt:q<xs.length;all_goals(obtain h:=?_;exact h)):=h
abbrev ZW(h:P:=by generalize (w.setCell _ _).drew=u2 at h2 ⊢;have H2:=OH h2;have k1:=H2.out.h1;have k6:=H2.out.h6;have k10:=H2.out.h10;have k8:=H2.out.h8;refine Ij;refine ay;refine(eu H2.out.cut H2.out.b 1 dM dM 1 rfl r1).mono ?_;rintro r w3 ⟨rfl,hk,hc⟩;have H3:=OH (H2.out.num hk b1' (dI r1) hc);have k1:=H3.out.h1;have k6:=H3.out.h6;have k10:=H3.out.h10;have k8:=H3.out.h8;refine Ij;obtain h:=?_;exact h):=h
abbrev qG(h:P:=by refine tk 0 ?_;refine tk 1 ?_;obtain h:=?_;exact h):=h
abbrev ZV(h:P:=by have HP2:=OH (aX (aU HP.out hx1 dM:_) hb2);have HS:=OH (aW (B':=w.heap.size) hs xM);clear hs;have hB2:aC w w2:=aE (w:=w) gM hb2;clear hb2 HP c1 f1 z1 c2 f2 z2 hx1 hy1;obtain⟨c1,f1,z1⟩:=ab hx2;obtain⟨c2,f2,z2⟩:=ab hy2;refine ay;refine(Q3.out _ gM).mono ?_;rintro e w3 ⟨vt,rfl,ht,hb3⟩;obtain⟨A6,n6,rfl⟩:=aj ht;obtain h:=?_;exact h):=h
abbrev sF(h:P:=by obtain⟨c0,f0,z0⟩:=ab h.q;obtain h:=?_;exact h):=h
abbrev nR(h:P:=by clear hK K;refine mi;refine bV;obtain h:=?_;exact h):=h
abbrev Nb(h:P:=by
 go_wp2_with (at_lookup;refine ex _ rfl (.tmp 15) (.tmp 16) 236 rfl 47 322 .u64 underlying47 underlying236 rI M n (dW L) rfl hM x rfl hxw _ _ H1.out H2.out ?_)
 obtain h:=?_;exact h):=h
abbrev M8(h:P:=by obtain⟨A1,n1,rfl⟩:=aj hp;obtain⟨A2,n2,rfl⟩:=aj hk;obtain h:=?_;exact h):=h
abbrev M7(h:P:=by have HC1:=OH hc1;have HN:=OH hn;refine L8;refine ay;refine HC1.out.mono ?_;rintro r w3 ⟨a1,c1,rfl,hbr,hb⟩;all_goals(obtain h:=?_;exact h)):=h
abbrev Gc(h:P:=by exact⟨V,R,c,kd,rfl,hkd,⟨eM,jH hs hV hR,hcut.low.kp1 hs hV,HBB.out⟩,jH hs hV hT,jH hs hV hG,hw.new hs hVl,hcl,hRl⟩):=h
abbrev eY(h:P:=by refine je;clear hK K;obtain h:=?_;exact h):=h
abbrev Gb(h:P:=by rintro r w2 ⟨rfl,hJ2,hc2⟩;have hB2:=hB.trans (hc2.below (B:=w.heap.size) (λj q=>by have:=hJ.nc;omega) (by have:=hJ.n;omega));obtain h:=?_;exact h):=h
abbrev jP(h:P:=by obtain⟨cT,fT,zT⟩:=ab hT;obtain h:=?_;exact h):=h
abbrev M6(h:P:=by
 have hbs:(setBlock w1 r (.mapIter (some b) since (seen.push en.born) clock)).heap[b]?=some (.map es clock):=by rw[←g1,←hb1];exact dH.block b (by rw[hb1];exact h.lt.1) hbr
 obtain h:=?_;exact h):=h
abbrev ZU(h:P:=by obtain⟨d,bb,hbb,how⟩:=aa4 HU.out hn md md0 md1;have HBB:=OH hbb;have HOW:=OH how;refine ay;refine HOW.out.mono ?_;refine rT;have hG4:ag af u (w2.alloc (.cells (eW d).toArray 198)):=ag.alloc (.of hb2) _;refine VY;have hX4:=ae hG4 hX id;obtain h:=?_;exact h):=h
abbrev M5(h:P:=by
 refine Rc;have hss:=λW (hb:aC w W)=>NN (w:=W) A1 A2 A3 d.people.length ks.length d.subs.length n1 n2 n3 q.who q.track (aX HS.out hb) oM hs c.people c.tracks c.subs c.slots
 obtain h:=?_;exact h):=h
abbrev ZT(h:P:=by
 refine⟨by rw[hr];simp,λk hk=>?_⟩;rw[hr]at hk;rcases List.mem_cons.1 hk with rfl|hk
 .exact Wx
 .rw[List.mem_singleton]at hk
  subst hk;exact Xs):=h
abbrev gq(h:P:=by go_upto_region 5 with fail;obtain h:=?_;exact h):=h
abbrev kB(h:P:=by
 refine on 9 λK hK=>?_
 go_simp;obtain h:=?_;exact h):=h
abbrev ZS(h:P:=by
 refine⟨rfl,⟨⟨.slice A1 ((ka r).length+1) cap1,?_,?_⟩,hM2.congr (vZ HF.out),bT,bM,KD⟩,hMv.set bT 1 _ |>.grownMap (hM1.set hMT _) hg2 bM xM⟩
 .exact UL
 .exact VL):=h
abbrev ZR(h:P:=by
 have hA:∀ {us:List TypeId} {ms:Nat->Prop},us ⊆ sP->(¬ms X.G.M/\¬ms X.DM)->eF us ms w (Fr ts ns w):=λhu hm=>eF.fr (List.all_eq_true.2 λp hp=>List.all_eq_true.2 λu hu'=>List.all_eq_true.1 (List.all_eq_true.1 ht p hp) u (hu hu')) λj hj=>by
  rcases hn j hj with e|e<;>subst e
  .exact hm.1
  .exact hm.2
 have hnm:=h.ct.nm;have hs:=hc.size;obtain h:=?_;exact h):=h
abbrev M4(h:P:=by have hg2:=hg1.trans (((ag.refl _ u1).drew.call hc2 (λj _ q=> .inl q)).trans g2.2);have H2:=OH g2.1;have hv:=g2.1.v;have hr:=g2.1.r;generalize w2.setCell _ _=u2 at *;refine ay;obtain h:=?_;exact h):=h
abbrev Ga(h:P:=by have hqn:q=xs.length:=oM;subst hqn;rw[List.take_length]at hd hk1;have K1:=OH hk1;clear hk1;refine ku;clear hd;obtain h:=?_;exact h):=h
abbrev F9(h:P:=by have HI:=OH hidx;clear hidx;refine kt;clear hf;have HC:=OH hcur;clear hcur;have HS:=OH hst;clear hst;obtain h:=?_;exact h):=h
abbrev dg(h:P:=by refine ay;go_end0;all_goals(obtain h:=?_;exact h)):=h
abbrev M3(h:P:=by refine mA;have hcut:WkC u Y X M N m {z with c:=c',wk:=z.wk.set i x',dn:=dn',ev:=z.ev++ [] } O o:=⟨hO,HO2.out,by rw[List.append_nil];exact HS3.out⟩):=h
abbrev F8(h:P:=by refine Fm;rintro e w1 ⟨k,hp,hk,hc⟩;rcases hk with⟨hk,hpk,rfl,hJ,hrw⟩|⟨rfl,rfl,hJ,hrw⟩;all_goals(obtain h:=?_;exact h)):=h
abbrev F7(h:P:=by refine bj;exact⟨cur,(by simp only[hxs];rfl),hrw,hsz,by rw[hxs];exact HC.out,hJ,hc.mono λj _ h=> .inl h⟩):=h
abbrev F6(h:P:=by
 refine ay;go_loop [5,8] (λ_ i=>i=JI 0) (λ_ _=>0);case atStart=>rfl
 case round=>subst hrel;exact ga):=h
abbrev fK(h:P:=by obtain⟨a,cur,hq⟩:=h.q;obtain h:=?_;exact h):=h
abbrev qF(h:P:=by simp only[List.mem_cons,List.not_mem_nil,or_false]at hp;obtain h:=?_;exact h):=h
abbrev sE(h:P:=by refine bodyPost_ret (results_none rfl _ _ _) rfl ?_;obtain h:=?_;exact h):=h
abbrev qE(h:P:=by clear hK K;refine bV;obtain h:=?_;exact h):=h
abbrev F5(h:P:=by refine kx;go_quiet (fail);refine bj;exact⟨lC (by push_cast;rfl),qQ⟩):=h
abbrev ZQ(h:P:=by have hGd:=ag.refl af w;refine rl 14 (λw'=>Bk w' x.W #[OV K.A,OV K.P,OV K.B,JI x.sh,OV x.Q,nA x.tb,Po x.now,nA x.nx,JI 0,.map (some x.cm),.map (some x.am),JI x.c0,JI x.c1,JI x.c2,JI x.c3,JI x.c4] 164) (λw0_ hc0=>?_);refine yW;refine AE;obtain h:=?_;exact h):=h
abbrev M2(h:P:=by
 refine⟨k1,k2,k3,hall (λq=>?_) λk hk _=>k4 _ ny⟩;rcases ho _ q with q|q
 .exact k4 _ hm q
 all_goals(obtain h:=?_;exact h)):=h
abbrev sD(h:P:=by have hz9:=hHeld0;go_split_ands;all_goals(obtain h:=?_;exact h)):=h
abbrev ZP(h:P:=by
 refine ay;go_loopw [9,10] (λi j wr=>∃a b:Nat,i=JI a/\j=JI b/\a<=b/\b<=l.length/\(∀q (hq:q<l.length),q<a->c l[q] <0)/\(∀q (hq:q<l.length),b<=q->0<=c l[q])/\aC w wr) (λi j _=>(intOf j).toNat- (intOf i).toNat);case atStart=>exact⟨0,l.length,rfl,rfl,oM,oM,λq _ hq=>oM,λq hq hq2=>oM,Below.refl _ _⟩
 case round=>obtain h:=?round;exact h):=h
abbrev ZO(h:P:=by
 have hb:=mP l x;have HF:Hid (eQ (IntKind.u16.wrap l) x=eQ l x):=OH (by rw[jS,DI]);have HN:Hid (bC l x=l+eQ l x):=OH rfl;go_enter func220,ntmps220;go_wp2_with (go_at_call 126;(with_reducible refine(lH _ _ _).mono ?_);rintro e w' ⟨rfl,rfl⟩;rw[HF.out])
 obtain h:=?_;exact h):=h
abbrev iI(h:P:=by go_upto_region 3 with fail;obtain h:=?_;exact h):=h
abbrev ZN(h:P:=by clear HT HP3 HS3 hx3 hy3 c1 f1 z1 c2 f2 z2 hB3 HST;obtain⟨k,k2,hk,rfl,hl2,ht,hrel,hx,hy,hp,hs,hb⟩:=hrel;have HR:=OH hrel;clear hrel;refine rK;refine jM;clear hs;have HL2:=OH hl2;clear hl2;obtain⟨c1,f1,z1⟩:=ab hx;obtain⟨c2,f2,z2⟩:=ab hy;by_cases hlt:k<ks.length;all_goals(obtain h:=?_;exact h)):=h
abbrev AM(h:P:=by refine oE;obtain⟨A,cap,rfl⟩:=aj h2;obtain h:=?_;exact h):=h
abbrev FZ(h:P:=by have hcc:ag (λb=>S b\/b=g) w w2:=(hc.alloc _).call hc2 (λj _ h=> .inl h);have hgx:wr.heap.size≠g:=oM;obtain h:=?_;exact h):=h
abbrev ZM(h:P:=by
 have w1:IntKind.u64.wrap ((a:Int)+(b:Int))=((a:Int)+(b:Int)):=LJ
 have w2:IntKind.i64.wrap (((a:Int)+(b:Int)) / 2)=((a:Int)+(b:Int)) / 2:=IntWalk.i64_in _ oM;have HH:=HC.out l[(a+b) / 2];generalize hcc:c l[(a+b) / 2]=cc at HH;have HCC:=OH hcc;obtain h:=?_;exact h):=h
abbrev FY(h:P:=by refine df;obtain⟨q0,q1,q2,q3,q4,q5,q6⟩:=Q.out;exact⟨A,cap,zs,b',x',rfl,q0,q1,q2,q3,q4,q5,q6⟩):=h
abbrev vB(h:P:=by obtain⟨c0,f0,z0⟩:=ab hg;obtain⟨c1,f1,z1⟩:=ab hV;obtain h:=?_;exact h):=h
abbrev ZL(h:P:=by rintro r w9 ⟨A,cap,zs,b',x',rfl,rfl,q1,q2,q3,q4,q5,q6⟩;have Q:=OH (show BR w9 0 (.slice A zs.length cap) zs/\aG zs/\zs.length<=40000/\dC w9 (N+1+1) D S R M n s x'/\jD x x'/\ag (iB D S R M) w w9 from⟨q1,q2,q3,q4,q5,HC8.out.trans q6⟩);refine df;obtain⟨q1,q2,q3,q4,q5,q6⟩:=Q.out;all_goals(obtain h:=?_;exact h)):=h
abbrev FX(h:P:=by refine lst (hV) ?_;have h17:=aK (Cg 0 0 0 0 z.c.acks.length z.c.live z.c.wt.length).toList hV rfl;obtain h:=?_;exact h):=h
abbrev i9(h:P:=by go_upto_region 4 with fail;obtain h:=?_;exact h):=h
abbrev AL(h:P:=by obtain⟨A',cap',h1,h2,h3,h4⟩:=h;refine mh;obtain h:=?_;exact h):=h
abbrev ZK(h:P:=by
 rw[hpq,if_neg dM]at HT;have HPQ:=OH hpq;clear hpq;have hbd:d*3+3<=cr.size:=by rw[hsz1];omega
 obtain⟨u0,g0⟩:∃u,cr[d*3]?=some u:=⟨_,Array.getElem?_eq_getElem oM⟩
 obtain⟨u1,g1⟩:∃u,cr[d*3+1]?=some u:=⟨_,Array.getElem?_eq_getElem oM⟩
 obtain⟨u2,g2⟩:∃u,cr[d*3+2]?=some u:=⟨_,Array.getElem?_eq_getElem oM⟩
 refine dA;case rel=>obtain h:=?rel;exact h
 case measure=>obtain h:=?measure;exact h):=h
abbrev ZJ(h:P:=by obtain⟨c1,f1,z1⟩:=ab hx1;obtain⟨c2,f2,z2⟩:=ab hy1;have HP:=OH (aW (B':=w.heap.size) hp xM);clear hp;have hB1:aC w w1:=aE (w:=w) gM hb1;clear hb1;refine ay;refine(Q2.out _ gM).mono ?_;rintro e w2 ⟨vs,rfl,hs,hb2⟩;obtain⟨A5,n5,rfl⟩:=aj hs;obtain h:=?_;exact h):=h
abbrev M0(h:P:=by have hzb:=hb.size;have hq1:w1.heap[Q]?=_:=(hb.block Q nM).trans (ai hq);have hR1:w1.heap[R]?=_:=(hb.block R nM).trans (ai hR);obtain h:=?_;exact h):=h
abbrev ZI(h:P:=by
 refine Rc;have how:=λW (hc:ag af w W)=>own_t (w:=W) (c:=c) (A:=A) (cap:=cap) (m1:=d.people.length) (m3:=d.subs.length) q ((hc.block _ hXl id).trans hX) (ah HT.out hc cy) EB (by rw[js HK.out];exact hs)
 have HOW:=OH how;clear how;obtain h:=?_;exact h):=h
abbrev AK(h:P:=by refine iT;refine tk 3 ?_;refine ze;obtain h:=?_;exact h):=h
abbrev ZH(h:P:=by
 have H0:=OH h;obtain⟨x1,z1,e1,r1⟩:∃x z e',bO (zs,0) 4=(x,z,e'):=⟨_,_,_,rfl⟩
 have b1:=(dP h.b r1).1;obtain⟨x2,z2,e2,r2⟩:∃x z e',bO (z1,e1) 4=(x,z,e'):=⟨_,_,_,rfl⟩
 have b2:=(dP b1 r2).1;have hv:=h.v;have hr:=h.r;have l1:=xO r1 (λq=>absurd rfl q);obtain h:=?_;exact h):=h
abbrev MZ(h:P:=by have HCL:=OH hcall;clear hcall hb8 hpb8 hib8 hnb8;refine vh;rintro r w9 ⟨A,cap,zs,b',x',rfl,hbq,q1,q2,q3,q4,q5,q6⟩;obtain h:=?_;exact h):=h
abbrev FW(h:P:=by go_enter func123,ntmps123;refine ay;refine(jV hh.out).mono ?_;rintro r w1 ⟨rfl,rfl⟩;obtain h:=?_;exact h):=h
abbrev ZG(h:P:=by refine L5;simp only[Nat.add_zero,List.getElem?_cons_zero,List.getElem?_cons_succ]at d0 d1 d2;have e0:=(c1 (q*3)).trans d0;have e1:=(c1 (q*3+1)).trans d1;have e2:=(c1 (q*3+2)).trans d2;have CL:=OH c1;clear c1 d0 d1 d2;all_goals(obtain h:=?_;exact h)):=h
abbrev iH(h:P:=by rw[List.mem_singleton.1 q];obtain h:=?_;exact h):=h
abbrev MY(h:P:=by rw[hROW];simp only[Array.size_append,List.size_toArray,htl,Builtin.zeroCells,Array.size_map,Array.size_range,Value.cells];simp;omega):=h
abbrev sC(h:P:=by exact⟨rfl,qQ⟩):=h
abbrev MX(h:P:=by refine ay;refine(mK H0.out.cut).mono ?_;rintro r w9 ⟨rfl,hw9⟩;have hw8:=hw9.symm;subst hw8;obtain h:=?_;exact h):=h
abbrev ZF(h:P:=by obtain⟨y,o,b,dy,jy,a1,a2,a3,a4,a5,a6,a7,a8,a9⟩:=h;exact⟨y,o,b,dy,jy,a1,a2,a3,a4.else hO (λq=>by have:=(h0.mo _ q).1;omega) hf,a5,a6.chg hf (λk e=>e ▸ eC a6 hO) (ci hO dM),a7.chg hf (ci hO dM),a8.call hf (λi hi q=>oM),a9⟩):=h
abbrev ZE(h:P:=by
 have hc:ag (λi=>v.ownBlock=some i) w w':=ag.grown dp hg (λi hi _=>hi);have hT:∀i,v.ownBlock=some i->∀cur t',t≠t'->w.heap[i]?≠OC cur t':=λi hi cur t' ht'=>by obtain⟨cur',hq⟩:=bG ho hi;exact au hq ht'
 obtain⟨vc,kc,_⟩:=h.cut;obtain h:=?_;exact h):=h
abbrev FV(h:P:=by
 conv=>lhs;rw[←List.take_append_drop i l,List.flatMap_append]
 obtain h:=?_;exact h):=h
abbrev vy(h:P:=by refine⟨⟨bk,bk⟩,λhH=>?_⟩;obtain h:=?_;exact h):=h
abbrev ZD(h:P:=by have hc3:ag af w (w1.alloc (.cells #[JI x,JU id,JI 20] 255)):=bu;exact⟨_,ps,[(x,id,20)],rfl,sM,rfl,HW1.out.chg (S:=af) im cy cy cy,rn (x:=(x,id,20)) eM hc1.size,aY hc3⟩):=h
abbrev ZC(h:P:=by
 have HH:=OH h;have hxw:=Cv x0 x1;go_enter func181,ntmps181;go_wp2_with (at_lookup;refine ex _ rfl (.tmp 14) (.tmp 15) 241 rfl 51 3 .u16 underlying51 underlying241 (jR _) M m (gW n t K) rfl qx12 x rfl hxw _ _ H1.out H2.out ?_)
 obtain h:=?_;exact h):=h
abbrev gO(h:P:=by exact⟨rfl,rfl⟩):=h
abbrev FU(h:P:=by exact⟨V,rfl,hlV,h17,ae hc17 hR (λe=>oM),hG.new hc17 J8⟩):=h
abbrev MW(h:P:=by exact⟨V17,wh,rfl,h17,λq=>HWHQ.out (by rw[q.2.2.2.2];rfl) (by rw[q.2.2.2.2];rfl) (by rw[q.2.2.2.2];rfl),hG2.new hc17 hlV⟩):=h
abbrev kA(h:P:=by rw[IntKind.wrap_i64];omega):=h
abbrev vx(h:P:=by refine bj;exact⟨_,rfl,World.ownsRow_nil _ _ _ _,gM⟩):=h
abbrev kz(h:P:=by obtain⟨ve,hW,_,_⟩:=h.ev;obtain h:=?_;exact h):=h
abbrev vq(h:P:=by have HS:=OH hsrc;have HL:=OH hl;have H1:=OH h1;obtain h:=?_;exact h):=h
abbrev FT(h:P:=by exact(List.getElem?_eq_some_iff.1 hj).1):=h
abbrev ZB(h:P:=by
 obtain⟨rfl,rfl,rfl,hBx⟩:=hcut;obtain⟨u2,hwc⟩:∃wq,wq=wc:=⟨_,rfl⟩
 subst hwc;have yBn:w.heap.size<=u2.heap.size:=Nat.le_trans yB hBx.size;have yB:=yBn;have hMvn:aQ S R M B w u2:=hMv.call hBx (Nat.le_trans bw (by first|assumption|omega));refine zq57;obtain h:=?_;exact h):=h
abbrev qD(h:P:=by refine bV;refine mj;refine gN;obtain h:=?_;exact h):=h
abbrev MV(h:P:=by have cSd:∀j,u6.drew.cell? ⟨S,j,none⟩=_:=cS;have fSd:∀j,u6.drew.frozen? ⟨S,j,none⟩=false:=fS;have zSd:S<u6.drew.heap.size:=zS;obtain h:=?_;exact h):=h
abbrev ZA(h:P:=by
 obtain⟨B,E,t,m,K,rg,k,_,_⟩:=h.k;rcases hD with rfl|rfl|rfl|rfl
 .exact hS.not h.d (ht:=by decide) q
 .exact hS.not k.s (ht:=by decide) q
 .exact hS.not k.r (ht:=by decide) q
 .exact hS.obj k.map.lt (λ_ _ e=>k.map.not_cells e rfl) hm q):=h
abbrev Zz(h:P:=by have hn:=HES.out.n;have hlk:k<es.length:=oM;obtain⟨_,hg',hf,h24⟩:=HES.out.cell hlk;cases hg';have hx:=HES.out.ok _ (List.getElem_mem hlk);all_goals(obtain h:=?_;exact h)):=h
abbrev Zy(h:P:=by
 obtain⟨rfl,rfl,hBx⟩:=hcut;obtain⟨u3,hwc⟩:∃wq,wq=wc:=⟨_,rfl⟩
 subst hwc;have yBn:w.heap.size<=u3.heap.size:=Nat.le_trans yB hBx.size;have yB:=yBn;have hMvn:aQ S R M B w u3:=hMv.call hBx (Nat.le_trans bw (by first|assumption|omega));refine zq57;obtain h:=?_;exact h):=h
abbrev FR(h:P:=by refine bQ rfl rfl underlying42 rfl rfl ⟨_,_,hf,kM,?_⟩;obtain h:=?_;exact h):=h
abbrev Zx(h:P:=by
 obtain⟨b1,_,_,b2,_⟩:=mH (hb p (by rw[e];exact List.mem_cons_self)) hp;obtain⟨s1,s2,s3,s4⟩:=AY h.sn b1 hs;obtain⟨c1,c2,c3,c4,c5,c6,c7⟩:=fH.do (h.upd (inq':=rest) s1 h.pn λp hp=>s4 _ (h.pd p hp)) hX hk0 (λz hz=>(b2 z hz).1) hd
 obtain h:=?_;exact h):=h
abbrev qC(h:P:=by refine⟨⟨bk,bk,bk⟩,λhH=>?_⟩;obtain h:=?_;exact h):=h
abbrev nQ(h:P:=by obtain⟨cX,fX,zX⟩:=ab hX;obtain h:=?_;exact h):=h
abbrev AI(h:P:=by obtain⟨MR,MD,h2,h3,h4,h5,h6⟩:=h;obtain⟨c0,f0,z0⟩:=ab h2;obtain h:=?_;exact h):=h
abbrev Zw(h:P:=by
 have hp:(0:Int)<256 ^ k:=Int.pow_pos dM;unfold bO at h;split at h
 .cases h
  exact⟨hb,oM,hp⟩
 .split at h
  .cases h
   exact⟨hb,oM,hp⟩
  .rename_i h2
   cases h;exact⟨hb.drop k,Ea hb k (by simp at h2;exact h2)⟩):=h
abbrev Zv(h:P:=by refine va;obtain⟨c1,f1,z1⟩:=ab hR;have g0:=(c1 (a*2)).trans d0;have g1:=(c1 (a*2+1)).trans d1;obtain h:=?_;exact h):=h
abbrev MU(h:P:=by refine zu;refine ES;have CL:=OH cL;obtain h:=?_;exact h):=h
abbrev AH(h:P:=by have hlV5:=Nat.le_trans hG.size hlV5;obtain h:=?_;exact h):=h
abbrev AG(h:P:=by have hlV6:=Nat.le_trans hG.size hlV6;obtain h:=?_;exact h):=h
abbrev FQ(h:P:=by
 have ho7:∀ {e:TypeId},e≠42->gk (λj=>j=X) e w6:=λhe=>aJ hX6 (Ne.symm he)
 obtain h:=?_;exact h):=h
abbrev MT(h:P:=by
 have hfit:Builtin.nextslicecap (i+(l.length+1-i)) l.length*i0.bytes<=281474976710656:=by rw[hzb];exact growslice_fits oM oM
 obtain h:=?_;exact h):=h
abbrev MQ(h:P:=by have hik:i+(l.length+1-i)=l.length+1:=oM;have hkk:(((l.length+1-i:Nat):Int))=(l.length:Int)+1- (i:Int):=oM;rw[hik,hkk]at hrz0;obtain h:=?_;exact h):=h
abbrev Zu(h:P:=by
 have hnews:∀j y,[u][j]?=some y->w.cell? (ad.add j)=some y:=by
  intro j y h;cases j with
  |zero=>
   simp at h;subst h;exact hc
  |succ j=>simp at h
 have hone:∀y∈ [u],y.oneCell'=true:=by intro y hy;simp at hy;subst hy;exact h1c
 obtain h:=?_;exact h):=h
abbrev MP(h:P:=by refine ay;refine(HB.out _ gM).mono ?_;refine rZ;refine df;exact⟨rfl,aE (w:=w) gM hb1⟩):=h
abbrev nP(h:P:=by refine hK.out _ _ ?_ (λhHeld2=>?_);all_goals(obtain h:=?_;exact h)):=h
abbrev sB(h:P:=by have H1:=OH l1;have H2:=OH l2;obtain h:=?_;exact h):=h
abbrev MO(h:P:=by
 obtain⟨cx2,fx2,yx2⟩:=ab hx2;have hw1:wrap64 ((n:Int)-1)=(n:Int)-1:=by unfold wrap64;omega
 refine kv;obtain h:=?_;exact h):=h
abbrev iZ(h:P:=by rw[h1]at q1;cases q1;all_goals(obtain h:=?_;exact h)):=h
abbrev MN(h:P:=by clear h;go_enter func87,ntmps87;refine ay;refine(O0 _ _).mono ?_;rintro r w1 ⟨rfl,rfl⟩;rw[m1];refine ay;obtain h:=?_;exact h):=h
abbrev MM(h:P:=by go_enter func224,ntmps224;refine ay;refine(nan_t _ _).mono ?_;refine jf;refine(nan_t _ _).mono ?_;refine jN;all_goals(obtain h:=?_;exact h)):=h
abbrev jo(h:P:=by go_upto_region 8 with fail;obtain h:=?_;exact h):=h
abbrev qB(h:P:=by exact⟨_,rfl,by simpa using hown,hB⟩):=h
abbrev iG(h:P:=by obtain⟨M,N,m,a,b⟩:=h;obtain h:=?_;exact h):=h
abbrev jO(h:P:=by go_upto_region 2 with fail;obtain h:=?_;exact h):=h
abbrev FP(h:P:=by refine rU;have hc5:ag af w w5:=aM;all_goals(obtain h:=?_;exact h)):=h
abbrev ML(h:P:=by
 have hn:=h.n;obtain⟨x1,z1,e1,r1⟩:∃x z e',bO (zs,e) 1=(x,z,e'):=⟨_,_,_,rfl⟩
 obtain⟨b1',y1,l1⟩:=dP h.b r1;obtain h:=?_;exact h):=h
abbrev MK(h:P:=by
 rw[←hW1]at hrz0;have hB1:aC w W1:=by rw[hW1];exact Below.alloc Eh fo _
 obtain h:=?_;exact h):=h
abbrev MJ(h:P:=by exact⟨_,rfl,hown1,ag.grown (v:=.slice (aT g) l.length l.length) dp hgrow1 (λk hk _=>hk)⟩):=h
abbrev Zt(h:P:=by
 refine Vi;have d0:cur[a]?=some (.pointer v0):=by have q:cur[((a+0) % L)*1+0]?=some (.pointer v0):=h.ent 0 sM 0 dM;exact LL
 obtain h:=?_;exact h):=h
abbrev AF(h:P:=by
 (try clear hHeld1);refine bV;obtain h:=?_;exact h):=h
abbrev Zs(h:P:=by
 have hg8:decide (a<l.length)=false:=by simpa using hk
 have hg9:decide ((a:Int)<(l.length:Int))=false:=by simpa using hk
 obtain h:=?_;exact h):=h
abbrev MI(h:P:=by refine lst (hV17) ?_;have h17:=aK [JI fr,JI la,.bool bg,.bool wh,.bool d.hasTid,JI d.tid,.bool d.sync] hV17 rfl;obtain h:=?_;exact h):=h
abbrev Zr(h:P:=by
 refine ay;refine rg 6 (λw'=>SW b1 b6 b10 b8 c A n cap d pc tl w') H.out.drew.sw (λhH=>?_);refine qG;refine tk 2 ?_;refine on 3 λK hK=>?_
 go_simp;refine(mK H.out.drew.cut).mono ?_;rintro r w2 ⟨rfl,hw2⟩;subst hw2;refine hK.out _ _ H.out.drew.sw (λhH=>?_);refine bV;refine ze;refine je;obtain h:=?_;exact h):=h
abbrev Zq(h:P:=by refine ons 11 (hV20) ⟨bk (jH hcs hV20 hb),bk (jH hcs hV20 hib),bk (jH hcs hV20 hwb),bk (jH hcs hV20 hD)⟩ (λhH=>?_);refine bV;refine QO ?_;have h20:=aK [.bool on',JI f',JI l',JI t'] hV20 rfl;refine dr;exact⟨V20,rfl,rfl,h20,hG2.new hcs hlV⟩):=h
abbrev Zp(h:P:=by
 have e2:decide (2<=zs.length)=false:=by simpa using h2
 have hF:xQ zs=false:=by unfold xQ;rw[e2];rfl
 have HF:=OH hF;have i1:((zs.length:Nat):Int)<2:=oM;clear hF h hb;go_enter func88,ntmps88;refine bj;exact⟨by rw[HF.out];rfl,rfl⟩):=h
abbrev Zo(h:P:=by refine U5;rw[ht]at hq;refine jQ;obtain⟨g,rfl,hgB,hgz,hg1⟩:=kF h2 hk;go_enter func104,ntmps104;refine Lu;obtain h:=?_;exact h):=h
abbrev nO(h:P:=by refine hK.out _ _ ?_ (λhHeld1=>?_);all_goals(obtain h:=?_;exact h)):=h
abbrev Zn(h:P:=by refine i9;refine XZ;have hv:=H1.out.v;refine sg;refine ay;obtain h:=?_;exact h):=h
abbrev Zm(h:P:=by
 obtain⟨cU,fU,zU⟩:=ab hT9;refine hK.out _ _ ?_ (λhHeld3=>?_)
 .exact⟨aO hC9,hg9⟩
 refine Ft;refine nS;refine tk 14 ?_;refine on 16 λK hK=>?_
 go_simp;refine hK.out _ _ ?_ (λhHeld4=>?_);all_goals(obtain h:=?_;exact h)):=h
abbrev FO(h:P:=by refine iI;go_quiet (fail);refine bj;exact⟨lC oM,qQ⟩):=h
abbrev AE(h:P:=by have hGd:=ag.trans hGd hc0;refine Ak;refine iU;obtain h:=?_;exact h):=h
abbrev Zl(h:P:=by
 go_enter func111,ntmps111;go_wp2_with (at_lookup;refine ex _ rfl (.tmp 14) (.tmp 15) 236 rfl 47 322 .u64 underlying47 underlying236 rI M n (dW L) rfl hM x rfl hxw _ _ H1.out H2.out ?_)
 obtain h:=?_;exact h):=h
abbrev Zk(h:P:=by have hc15:ag af w13_ w15_:=.of hbq;have hb:=ae hc15 hb id;have hnb:=ae hc15 hnb id;have hD:=ae hc15 hD id;have hG:=ag.trans hG hc15;have hV6:=ae hc15 hV6 id;have hV5:=ae hc15 hV5 id;refine oG;obtain h:=?_;exact h):=h
abbrev Zj(h:P:=by rw[←HEL.out]at hrw;exact⟨rfl,hrw,(ag.grown (v:=.slice (aT g) 0 0) (ag.drew (ag.refl _ w)) R2.out (λj q _=>hgS j (by simpa[Value.ownBlock]using q.symm))).trans (hcs.mono λj _ q=>hgS j q)⟩):=h
abbrev Zi(h:P:=by cases is<;>go_quiet (fail);all_goals(go_wp2_with fail;go_meet;go_split_ands;exact⟨rfl,rfl,zt58⟩)):=h
abbrev Zh(h:P:=by have hc11:ag af w9_ w11_:=.of hbq;have hb:=ae hc11 hb id;have hnb:=ae hc11 hnb id;have hD:=ae hc11 hD id;have hG:=ag.trans hG hc11;have hV5:=ae hc11 hV5 id;have hV6:=ae hc11 hV6 id;refine oG;obtain h:=?_;exact h):=h
abbrev nN(h:P:=by obtain⟨cC,fC,zC⟩:=ab hC;obtain h:=?_;exact h):=h
abbrev Zg(h:P:=by
 have hcu:ag af w4 u:=by rw[←hu];exact bu
 have HG5:=OH (HG4.out.trans hcu);generalize w4.heap.size=T at *;refine jP;refine df;exact⟨by rw[HBE.out,HBS.out,HDD.out];rfl,HG5.out.none⟩):=h
abbrev MH(h:P:=by exact⟨_,rfl,hown1,ag.grown (v:=.slice (aT g) l.length cap) dp hgrow1 (λk hk _=>hk)⟩):=h
abbrev FN(h:P:=by
 subst hn;rcases h.2 with⟨h1,_⟩|⟨g',cap',cur,h1,h2,h3,h4,h5,h6,h7⟩
 .cases h1
 all_goals(obtain h:=?_;exact h)):=h
abbrev FM(h:P:=by refine zq6;refine uO;refine jf;refine(I3.out _).mono ?_;refine jf;all_goals(obtain h:=?_;exact h)):=h
abbrev sA(h:P:=by refine hK.out _ _ bk (λhH=>?_);refine bV;obtain h:=?_;exact h):=h
abbrev AD(h:P:=by
 refine qG;refine on 2 λK hK=>?_
 go_simp;obtain h:=?_;exact h):=h
abbrev Zf(h:P:=by refine Gg;refine rg 18 (λw'=>Bk w' x.W (mV K x j.at') 164/\Bk w' j.at' (ki j) 219/\Bk w' V (eW d).toArray 198) ⟨bk,bk,bk⟩ (λhH=>?_);refine rP;refine nS;refine sb;obtain h:=?_;exact h):=h
abbrev Ze(h:P:=by refine rg 10 (λw'=>Bk w' X (gi c (.slice (aT gP) d.people.length n1) (.slice A2 ks.length n2) (.slice A3 d.subs.length n3)) 42/\Bk w' w.heap.size (fq q A cap) 50/\ag af w w') ⟨bk,bk,bu⟩ (λhHeld0=>?_);obtain h:=?_;exact h):=h
abbrev qA(h:P:=by have hc1:ag af w0_ w1_:=.of hbq;obtain h:=?_;exact h):=h
abbrev Zd(h:P:=by
 have i3:=λW (hb:ag af w W)=>may_t A cap q.ss W hq.2.2.1 (by have:=hq.2.2.2.1;omega) hq.2.2.2.2 (hq.1.below rfl hb.none) |>.mono (R':=λe w'=>e=aA (.bool (tj q.ss))/\W=w') λe w' ⟨x,y⟩=>⟨x,y.symm⟩
 obtain h:=?_;exact h):=h
abbrev Zc(h:P:=by refine uZ;refine(HT.out _ uk).mono ?_;refine uS;refine hK.out _ _ ⟨kb hb5,kb hb5,ag.next aM hb5⟩ (λhHeld1=>?_);refine mi;refine qD;refine je;refine FP;all_goals(obtain h:=?_;exact h)):=h
abbrev MG(h:P:=by have HE1:=OH hes1;have hf3:=(HES.out.next hb).r.frozenAt;obtain⟨_,hg',-,h24⟩:=(HES.out.next hb).cell hlk;obtain h:=?_;exact h):=h
abbrev MF(h:P:=by obtain⟨vp,vt,vs,hX,hp,⟨ks,hk,hks⟩,hS⟩:=h;refine M8;obtain⟨A3,n3,rfl⟩:=aj hS;have hkl:=hks.1;obtain h:=?_;exact h):=h
abbrev Zb(h:P:=by refine oa (λV6 w10_ hV6 hc10 hlV6=>?_);refine AG;have hb:=ae hc10 hb id;have hnb:=ae hc10 hnb id;have hD:=ae hc10 hD id;have hG:=ag.trans hG hc10;have hV5:=ae hc10 hV5 id;refine qV;obtain h:=?_;exact h):=h
abbrev Za(h:P:=by refine oa (λV5 w14_ hV5 hc14 hlV5=>?_);refine AH;have hb:=ae hc14 hb id;have hnb:=ae hc14 hnb id;have hD:=ae hc14 hD id;have hG:=ag.trans hG hc14;have hV6:=ae hc14 hV6 id;refine qV;obtain h:=?_;exact h):=h
abbrev Y9(h:P:=by refine AH;have hb:=ae hc13 hb id;have hnb:=ae hc13 hnb id;have hD:=ae hc13 hD id;have hG:=ag.trans hG hc13;have hV6:=ae hc13 hV6 id;refine qV;refine lU;refine(HSW.out _).mono ?_;obtain h:=?_;exact h):=h
abbrev Y8(h:P:=by
 refine jP;have l1:(dW L x).getD (.agg #[.string ⟨#[]⟩,.bool false])=.agg #[.string ⟨#[]⟩,.bool false]:=Ae
 have l2:(dW L x).isSome=false:=Ae
 obtain h:=?_;exact h):=h
abbrev nL(h:P:=by have HP:=OH hp;obtain h:=?_;exact h):=h
abbrev sr(h:P:=by obtain⟨vp,vt,vs,A,cap,BD,c1,c2,c3⟩:=h.c;obtain h:=?_;exact h):=h
abbrev AC(h:P:=by refine nS;refine tk 14 ?_;obtain h:=?_;exact h):=h
abbrev MC(h:P:=by clear hrow;have HG2:=OH hg2;clear hg2;have HC2:=OH hch2;clear hch2 hch1;clear hW1 hg1 hV1 c0 c1 hdl;obtain h:=?_;exact h):=h
abbrev Y7(h:P:=by refine oa (λV5 w7_ hV5 hc7 hlV5=>?_);refine AH;have hb:=ae hc7 hb id;have hnb:=ae hc7 hnb id;have hD:=ae hc7 hD id;have hG:=ag.trans hG hc7;have hV6:=ae hc7 hV6 id;refine qV;obtain h:=?_;exact h):=h
abbrev Y6(h:P:=by refine oa (λV6 w6_ hV6 hc6 hlV6=>?_);refine AG;have hb:=ae hc6 hb id;have hnb:=ae hc6 hnb id;have hD:=ae hc6 hD id;have hG:=ag.trans hG hc6;have hV5:=ae hc6 hV5 id;refine qV;obtain h:=?_;exact h):=h
abbrev vn(h:P:=by simp only[Prod.mk.injEq,DataW.held.injEq]at hv';obtain h:=?_;exact h):=h
abbrev Y5(h:P:=by refine AG;have hb:=ae hc9 hb id;have hnb:=ae hc9 hnb id;have hD:=ae hc9 hD id;have hG:=ag.trans hG hc9;have hV5:=ae hc9 hV5 id;refine qV;refine lU;refine(HSW.out _).mono ?_;obtain h:=?_;exact h):=h
abbrev Y4(h:P:=by rintro r w2 ⟨A,c,zs,rfl,h1,h2,h3,h4,hc2⟩;have HZ:=OH (And.intro h1 (And.intro h2 h3));have HG2:=OH (hG.trans hc2);have hS2:=ae hc2 hS id;obtain⟨cS,fS,zS⟩:=ab hS2;refine ay;obtain h:=?_;exact h):=h
abbrev FL(h:P:=by obtain⟨cJ,fJ,zJ⟩:=ab hJ;obtain h:=?_;exact h):=h
abbrev Y3(h:P:=by have hk:bD (d.subs.insertIdx (kR (q.who,q.track) (bD d.subs)) ⟨q.who,q.track,q.layer,q.tid,false⟩)=(bD d.subs).insertIdx (kR (q.who,q.track) (bD d.subs)) (q.who,q.track):=o5 _ _ _ _;obtain h:=?_;exact h):=h
abbrev kx(h:P:=by go_upto_region 1 with fail;obtain h:=?_;exact h):=h
abbrev MB(h:P:=by
 obtain⟨x2,z2,e2,r2⟩:∃x z e',bO (z1,e1) 1=(x,z,e'):=⟨_,_,_,rfl⟩
 obtain h:=?_;exact h):=h
abbrev vm(h:P:=by refine qG;refine tk 2 ?_;refine tk 3 ?_;obtain h:=?_;exact h):=h
abbrev Y2(h:P:=by have HJ:=OH hJ;clear hJ hmv;go_enter func257,ntmps257;refine zq8;have hgn:w5.heap[gS]?=OC cr 170:=(HC5.out.block _ hgl id).trans hg;obtain⟨c6,f6,z6⟩:=ab hgn;have e6:=(c6 (k*5+4)).trans hd;all_goals(obtain h:=?_;exact h)):=h
abbrev YZ(h:P:=by
 go_wp2_with (at_mapUpdate;refine fe _ rfl (.tmp 70) (.tmp 71) (.tmp 72) 236 rfl 47 322 .u64 underlying47 underlying236 M n (dW r) rfl Oh lM x _ rfl rfl hxw ?_;intro w2 hM2 hg2)
 obtain h:=?_;exact h):=h
abbrev vl(h:P:=by obtain⟨i0,hi,hz0,hz1,hz2⟩:=aI info5;obtain h:=?_;exact h):=h
abbrev MA(h:P:=by have hrw:=HR.out k wr hJ;have d0:=HC.out k hlt 0 dM;have d1:=HC.out k hlt 1 dM;have d2:=HC.out k hlt 2 dM;obtain h:=?_;exact h):=h
abbrev Mz(h:P:=by
 exact⟨λq=>by rcases ho _ q with q|q
           .exact m1 q
           .omega,λq=>by rcases ho _ q with q|q
                     .exact m2 q
                     .omega⟩):=h
abbrev nK(h:P:=by refine tk 10 ?_;refine tk 11 ?_;obtain h:=?_;exact h):=h
abbrev My(h:P:=by obtain⟨_,_,k,_⟩:=mH (hb _ (by rw[h];exact List.mem_cons_self)) hp;simp[hD.2.2.1,k]):=h
abbrev YY(h:P:=by subst hi;refine bI;refine oE;have h3:=h.n1;refine Fa;go_enter func106,ntmps106;refine Lu;obtain h:=?_;exact h):=h
abbrev Mx(h:P:=by
 have hch1:ag (λj=>j=g) w W1:=by rw[hW1];exact(ag.drew dp).trans (bA _ _ _)
 obtain h:=?_;exact h):=h
abbrev YX(h:P:=by
 obtain⟨i,rfl⟩:∃i:Nat,k=i:=⟨k.toNat,oM⟩
 have hi:i<z.wk.length:=oM;have fb:(decide ((0:Int)<=i)&&decide ((i:Int)<z.wk.length))=true:=xM;rw[fb]at HH;obtain⟨g,rfl,hg2,g0⟩:=h.wcell hi hv;obtain h:=?_;exact h):=h
abbrev Mw(h:P:=by exact⟨_,rfl,hown1,ag.grown (v:=.slice none 0 0) dp hgrow1 (λk hk _=>hk)⟩):=h
abbrev YW(h:P:=by have hc12:ag af w3_ w12_:=.of hbq;have hb:=ae hc12 hb id;have hnb:=ae hc12 hnb id;have hD:=ae hc12 hD id;have hG:=ag.trans hG hc12;have hV6:=ae hc12 hV6 id;refine oG;obtain h:=?_;exact h):=h
abbrev FK(h:P:=by obtain⟨c2,f2,y2⟩:=ab hrw2;obtain⟨c3,f3,y3⟩:=ab hX2;obtain h:=?_;exact h):=h
abbrev YV(h:P:=by
 refine qU;refine tk 7 ?_;refine rW;refine hK.out _ _ ⟨aO ((hcau3.block _ aM jJ).trans aM),aM,by first|omega|(simp at *;omega),hcau3⟩ (λhHeld1=>?_);refine bV;refine gN;refine As;case rel=>obtain h:=?rel;exact h
 case measure=>obtain h:=?measure;exact h
 all_goals(obtain h:=?_;exact h)):=h
abbrev oN(h:P:=by have hmm:= @run_makeMap prog;obtain h:=?_;exact h):=h
abbrev Mv(h:P:=by refine hK.out _ _ Uu (λhH=>?_);refine bV;obtain h:=?_;exact h):=h
abbrev AB(h:P:=by rintro r w9 ⟨rfl,hw9⟩;have hw9':=hw9.symm;subst hw9';obtain h:=?_;exact h):=h
abbrev YU(h:P:=by refine wJ;refine jt rfl rfl rfl underlying375 rfl underlying373 rfl rfl ⟨_,_,_,_,qY,kM,qY,kM,?_,gM⟩;exact wR HR.out (by rw[HO.out];rfl)):=h
abbrev Mt(h:P:=by exact⟨rfl,⟨_,HG2.out,Ui,HR.out⟩,HC2.out⟩):=h
abbrev YT(h:P:=by
 have HH:=HC.out l[a];generalize hcc:c l[a]=cc at HH;have HCC:=OH hcc;have hg8:decide (a<l.length)=true:=by simpa using hk
 have hg9:decide ((a:Int)<(l.length:Int))=true:=by simpa using hk
 obtain h:=?_;exact h):=h
abbrev YS(h:P:=by
 rcases q with q|q|q|q|q|⟨y,hy,_⟩
 .exact qv
 .exact qv
 .exact qv
 .exact qv
 .exact qv
 .cases hy):=h
abbrev Mr(h:P:=by refine(hf xs[j] Hy u (hu.mono λj _ q=>hgS j q)).mono λe u' ⟨k1,k2⟩=>⟨k1,hu.next k2,.of k2,λb cur hb=>(k2.block b rH).trans hb⟩):=h
abbrev Mq(h:P:=by rintro e w' ⟨rfl,⟨cr',k1,k2,k3⟩,hch⟩;refine⟨_,rfl,?_,hch.mono (λj _ e=>by rw[e];rfl)⟩;obtain h:=?_;exact h):=h
abbrev YR(h:P:=by have HTD:=OH htd;refine ay;refine(HCT.out _ HG3.out).mono ?_;refine uT;have hw5:=hw4.symm;subst hw5;refine ay;refine(HTD.out _ HG3.out).mono ?_;rintro r w4 ⟨rfl,hb4⟩;obtain h:=?_;exact h):=h
abbrev so(h:P:=by obtain⟨⟨v,hT,hv⟩,hM,bT,bM,bw⟩:=h;obtain h:=?_;exact h):=h
abbrev Az(h:P:=by refine hK.out _ _ ⟨bk,bk⟩ (λhH=>?_);refine qE;obtain h:=?_;exact h):=h
abbrev YQ(h:P:=by have hc8:ag af w2_ w8_:=.of hbq;have hb:=ae hc8 hb id;have hnb:=ae hc8 hnb id;have hD:=ae hc8 hD id;have hG:=ag.trans hG hc8;have hV5:=ae hc8 hV5 id;refine oG;obtain h:=?_;exact h):=h
abbrev YP(h:P:=by clear hown5;refine hK.out _ _ zt66 (λhHeld1=>?_);refine nR;refine uV;refine eY;refine rU;all_goals(obtain h:=?_;exact h)):=h
abbrev Mp(h:P:=by rintro r w2 ⟨v2,rfl,hv2,hb2⟩;obtain⟨A2,c2,rfl⟩:=aj hv2;obtain h:=?_;exact h):=h
abbrev oL(h:P:=by refine la (λK hK=>?_);go_simp;obtain h:=?_;exact h):=h
abbrev qy(h:P:=by refine ay;refine HP.out.mono ?_;obtain h:=?_;exact h):=h
abbrev Mo(h:P:=by rintro r w' ⟨rfl,M',m',z',⟨q1,q2⟩,q3⟩;obtain h:=?_;exact h):=h
abbrev qx(h:P:=by obtain⟨cV,fV,zV⟩:=ab hVX;obtain h:=?_;exact h):=h
abbrev qw(h:P:=by obtain⟨cW,fW,zW⟩:=ab hW3;obtain h:=?_;exact h):=h
abbrev Mn(h:P:=by
 refine ay;go_round;case rel=>exact⟨k+1,oM,eT⟩
 case measure=>exact di):=h
abbrev YO(h:P:=by go_split_ands;refine bj;exact⟨rfl,⟨_,HH1.out.push [JI v0,.slice v1 vl1 vc1] rfl hf km zt83⟩,lW⟩):=h
abbrev Ml(h:P:=by rw[g1,if_pos rfl]at hJ;rw[g1]at hss;have HSS:=OH hss;clear hss hs g1;have HJ:=OH hJ;obtain h:=?_;exact h):=h
abbrev YN(h:P:=by exact⟨0,ks,oM,rfl,rfl,aU HT.out hx3 dM,λj k1 t a b=>⟨λq=>oM,λ_=>a⟩,eM,eM,aU HP3.out hx3 dM,aU HS3.out hx3 dM,gM⟩):=h
abbrev Mk(h:P:=by
 rcases List.mem_append.1 hd with k|k
 .exact h.dn d k
 .exact hnd d (by simpa using k)):=h
abbrev FJ(h:P:=by rcases Tt E g2 h.ok w hx with⟨r1,r2⟩|⟨j,en,r1,r2,r3,r4,r5⟩;all_goals(obtain h:=?_;exact h)):=h
abbrev jn(h:P:=by rw[←hu];exact bZ):=h
abbrev Ay(h:P:=by obtain⟨i,hi,rfl⟩:=List.getElem_of_mem hx;obtain h:=?_;exact h):=h
abbrev oK(h:P:=by refine hK.out _ _ ?_;clear hK K;obtain h:=?_;exact h):=h
abbrev FI(h:P:=by obtain⟨es,clock,g1,g2,g3,g4⟩:=h.e;obtain⟨l,hl⟩:=E.key x hx;obtain h:=?_;exact h):=h
abbrev YM(h:P:=by
 have hb1:(i+1)*s<=R.size:=Nat.le_trans (Nat.mul_le_mul_right _ oM) hR;have hb2:(i+1)*s+(l.drop i).length*s=(l.length+1)*s:=by rw[List.length_drop,←Nat.add_mul];congr 1;omega
 obtain h:=?_;exact h):=h
abbrev YL(h:P:=by have hMn:=hM.below hBx;have hM:=hMn;have HAn:=OH (HA.out.below rfl hBx);have HA:=HAn;refine vb;obtain⟨cG,fG,zG⟩:=ab hg;have zR:=aB hr;obtain h:=?_;exact h):=h
abbrev YK(h:P:=by refine ay;refine(HM.out _ gM).mono ?_;rintro e w1 ⟨rfl,hD,hb1⟩;refine bj;exact⟨rfl,hD,Below.trans (Below.mono (show aC w _ by go_grown) hB) hb1⟩):=h
abbrev YJ(h:P:=by
 rintro e w' ⟨g2,h1,h2,h3,h4,h5,h6,h7⟩;refine⟨h1,fin w' g2 _ h2 h3 h4 h5 h6 h7 (λy=>?_)⟩;rw[←DJ (p0:=k0) hcn' htn y];by_cases hy:y=(q,zs).1
 .rw[if_pos hy,if_pos hy]
 all_goals(obtain h:=?_;exact h)):=h
abbrev jN(h:P:=by refine jf;go_ret;all_goals(obtain h:=?_;exact h)):=h
abbrev YI(h:P:=by go_enter func168,ntmps168;refine ay;go_quiet (fail);refine df;exact⟨rfl,(bF oA _)⟩):=h
abbrev vj(h:P:=by rw[hi]at h;cases h;rw[hp]at hp';cases hp';all_goals(obtain h:=?_;exact h)):=h
abbrev Mj(h:P:=by
 .rintro r w' ⟨rfl,M',m',z',⟨q1,q2⟩,q3⟩
  exact⟨rfl,M',m',z',q3,q2,q1⟩):=h
abbrev YH(h:P:=by
 have hw1:IntKind.i64.wrap ((i:Int)+1)=(i:Int)+1:=kA
 have hb1:(0:Int)<=(i:Int)+1:=oM;have htn:((i:Int)+1).toNat=i+1:=oM;have hz2:¬((i:Int)=(l.length:Int)):=oM;obtain h:=?_;exact h):=h
abbrev Mi(h:P:=by
 have hgS:∀j,j=g->oy 170 B w j:=λj q=>⟨by rw[q];exact hBg,cr,by rw[q];exact hg⟩
 obtain h:=?_;exact h):=h
abbrev lT(h:P:=by rw[←hu];exact bu):=h
abbrev sm(h:P:=by
 refine on 10 λK hK=>?_
 go_simp;obtain h:=?_;exact h):=h
abbrev YG(h:P:=by refine ons 15 (hV14) ⟨bk (jH hcs hV14 hp0),bk (jH hcs hV14 hW0),bk (jH hcs hV14 hJ0)⟩ (λhH=>?_);refine bV;refine QO ?_;have h14:=aK (kE rt) hV14 rfl;obtain h:=?_;exact h):=h
abbrev nJ(h:P:=by go_upto_region 6 with fail;obtain h:=?_;exact h):=h
abbrev Mh(h:P:=by rintro e w' ⟨cur',rfl,k2,k3,k4,k5,k6⟩;have hle:=List.length_filter_le (λx=>!p x) xs;obtain h:=?_;exact h):=h
abbrev Mg(h:P:=by refine wJ;refine j8 rfl rfl underlying364 rfl rfl ⟨_,_,ur,kM,?_,gM⟩;obtain h:=?_;exact h):=h
abbrev YF(h:P:=by refine Lr;refine df;exact⟨⟨a,hbl,H1.out,H2.out,by rw[dif_pos hk,HCC.out];rfl⟩,HHB2.out⟩):=h
abbrev YE(h:P:=by go_simp;refine(HH _).mono ?_;refine Ab;have hb2:aC wr w2:=aE (w:=wr) Eh hb2;have hX2:=aZ hb2 (aB hX) hX;obtain h:=?_;exact h):=h
abbrev YD(h:P:=by have hV:=ae hc0 hV id;have hW2:=ae hc0 hW2 id;have hJ2:=ae hc0 hJ2 id;have hO2:=ae hc0 hO2 id;have hGz:=ag.trans hGz hc0;refine qC;refine iU;obtain h:=?_;exact h):=h
abbrev FH(h:P:=by
 .rw[N2 oM hj rfl hbd]
  exact K2.out i hi j oM hj):=h
abbrev FG(h:P:=by obtain⟨l⟩:=cs;simp only[List.setIfInBounds_toArray]at key;obtain h:=?_;exact h):=h
abbrev YC(h:P:=by
 have b0:decide ((i:Int)<0)=false:=sM;have b1:(0:Int)<=(i:Int):=oM;have b2:(i:Int)<(l.length:Int):=oM;have b3:decide ((l.length:Int)<=(i:Int))=false:=by simpa using hi
 obtain h:=?_;exact h):=h
abbrev YB(h:P:=by have cSd:∀j,u7.drew.cell? ⟨S,j,none⟩=_:=cS;have fSd:∀j,u7.drew.frozen? ⟨S,j,none⟩=false:=fS;have zSd:S<u7.drew.heap.size:=zS;exact zq66):=h
abbrev lS(h:P:=by refine bj;rw[HJ.out];all_goals(obtain h:=?_;exact h)):=h
abbrev YA(h:P:=by have HE:=OH hE;go_enter func50,ntmps50;refine ay;refine HE.out.mono ?_;rintro r w2 ⟨rfl,hw2⟩;subst hw2;exact zf):=h
abbrev FE(h:P:=by rcases bW h with⟨rfl,h2,h3⟩|⟨g,cap,rfl,h2,h3,h4,h5⟩;all_goals(obtain h:=?_;exact h)):=h
abbrev FD(h:P:=by
 have hnl:z.wk.length<=4:=by have:=h.wl;have:=h.ct.st;omega
 obtain h:=?_;exact h):=h
abbrev Mf(h:P:=by
 obtain⟨be,hbe⟩:∃b,(err==0)=b:=⟨_,rfl⟩
 have gbe:(err !=0)=!be:=by rw[bne,hbe]
 obtain h:=?_;exact h):=h
abbrev Yz(h:P:=by refine eY;refine FP;have hX5:w5.heap[X]?=OC (gi c (.slice A1 d.people.length n1) (.slice A2 ks.length n2) (.slice A3 d.subs.length n3)) 42:=(hc5.block _ hXl id).trans hX;all_goals(obtain h:=?_;exact h)):=h
abbrev Yy(h:P:=by have hg1:=id (((ag.refl _ w).drew.call hc1 (λj _ q=> .inl q)).trans g1.2);have H1:=OH g1.1;have hv:=g1.1.v;have hr:=g1.1.r;generalize w1.setCell _ _=u1 at *;obtain h:=?_;exact h):=h
abbrev Yw(h:P:=by refine Fm;rintro e w1 ⟨k,k1,k2,rfl,hk,rfl⟩;have HK:=OH hk;refine bj;exact⟨by rw[←HK.out];rfl,rfl⟩):=h
abbrev Yv(h:P:=by
 generalize w5.setCell _ _=u9 at *;refine dA;case rel=>exact⟨k+1,_,_,_,_,_,eT,oM,HR8.out,HO9.out,hG9⟩
 case measure=>exact di):=h
abbrev qv(h:P:=by dsimp only at q;omega):=h
abbrev FC(h:P:=by simp only[Value.slice.injEq]at hA;obtain⟨rfl,-,rfl⟩:=hA;obtain h:=?_;exact h):=h
abbrev FB(h:P:=by refine hK.out _ _ ⟨bk,bk,bk,bk⟩ (λhH=>?_);refine qE;obtain h:=?_;exact h):=h
abbrev FA(h:P:=by refine sF;have hle:=h.le;have hL1:=h.L1;have HH:=OH h;obtain h:=?_;exact h):=h
abbrev Ax(h:P:=by have hse':=hse;unfold Mu.Sent at hse';subst hse';obtain h:=?_;exact h):=h
abbrev Yu(h:P:=by have hV:=ae hb4 hV id;have hW2:=ae hb4 hW2 id;have hO2:=ae hb4 hO2 id;have hJ2:=ae hb4 hJ2 id;have hGz:=hb4;generalize u3.alloc _=u4 at *;obtain h:=?_;exact h):=h
abbrev Yt(h:P:=by
 .refine lQ
  have hk':k<z.wk.length:=by simpa using hk
  split
  .next e=>subst e;rw[hsh];exact h.wi i hi
  .exact h.wi k hk'):=h
abbrev Me(h:P:=by simp only[Nat.add_zero,List.getElem?_cons_zero,List.getElem?_cons_succ]at d0 d1 d2 d3 d4;all_goals(obtain h:=?_;exact h)):=h
abbrev Ys(h:P:=by simp[Builtin.delete_,run_underlying ht,MapKept.run_getObj_map g1,E.K.check w _ hl,r1,MapKept.run_setObj_map _ g1,Result.andThen,setBlock]):=h
abbrev Yr(h:P:=by
 have y2:=(dP b1 r2).2;have hz2l:z2.length<=1600:=by have:=dI r1;have:=dI r2;omega
 simp only[Int.reducePow]at y2;generalize hn:(N:Int)=n at *;obtain h:=?_;exact h):=h
abbrev Yq(h:P:=by
 cases i with
 |zero=>
  simp[eo]
 |succ i=>have:=ih i nv;rw[show(i+1)*3=i*3+3 by omega];simpa[eo]using this):=h
abbrev Yp(h:P:=by
 cases i with
 |zero=>
  simp[dG]
 |succ i=>have:=ih i nv;rw[show(i+1)*2=i*2+2 by omega];simpa[dG]using this):=h
abbrev Yo(h:P:=by obtain⟨v,hv,e⟩:=List.any_eq_true.1 ht;have:=List.all_eq_true.1 hu v hv;simp only[bne_iff_ne,ne_eq,beq_iff_eq]at this e;exact this e):=h
abbrev Yn(h:P:=by refine ay;refine(JR _ P L l live sl tn i (AA.out.alloc _) hl HA.out).mono ?_;refine jp;have hA1:=(AA.out.alloc (.cells #[JI sl,JT tn] 66)).below hb;obtain h:=?_;exact h):=h
abbrev Md(h:P:=by exact⟨bk,bk,bk,HK2.out _ (HMF2.out.chg (S:=af) (by exact bu) id)⟩):=h
abbrev sj(h:P:=by generalize hu:World.alloc _ _=u;obtain h:=?_;exact h):=h
abbrev Ym(h:P:=by
 have HC6:=OH (aF HCV.out hc6);refine dA;case rel=>exact⟨k+1,oM,eT,HE6.out,HC6.out⟩
 case measure=>exact di):=h
abbrev lR(h:P:=by obtain⟨cr,fr,zr⟩:=ab hr;obtain h:=?_;exact h):=h
abbrev Mc(h:P:=by rintro r w2 ⟨rfl,hk2,hc2⟩;have h2:=H1.out.num hk2 b2 hc2;have hx2:=ae hc2 hX1 (H1.out.ne hX1);obtain⟨cX,fX,zX⟩:=ab hx2;obtain h:=?_;exact h):=h
abbrev Au(h:P:=by
 obtain⟨x1,z1,e1,r1⟩:∃x z e',bO (zs,e) 4=(x,z,e'):=⟨_,_,_,rfl⟩
 obtain h:=?_;exact h):=h
abbrev Yl(h:P:=by
 obtain⟨b2,y2,l2⟩:=dP b1 r2;simp only[Int.reducePow]at l2;have q2:x2 % 256=x2:=oM;obtain⟨x3,z3,e3,r3⟩:∃x z e',bO (z2,e2) 3=(x,z,e'):=⟨_,_,_,rfl⟩
 obtain⟨b3,y3,l3⟩:=dP b2 r3;simp only[Int.reducePow]at l3;have q3:x3 % 4294967296=x3:=oM;obtain h:=?_;exact h):=h
abbrev Yk(h:P:=by have H2:=OH (h2.other hx2 dM 1 (JW x2));have hG2:ag (λj=>j=c\/j=R) wr (w2.setCell ⟨X,1,none⟩ (JW x2)):=(hG1.trans (hc2.mono (λj _ q=> .inl q))).set ⟨X,1,none⟩ (.inr hXn) _;generalize w2.setCell _ _=u2 at *;have hr:=H2.out.r;obtain h:=?_;exact h):=h
abbrev Yj(h:P:=by have HCV:=OH (aF HCK.out (aY (ts:=evT Y.b) (ms:=[]) hcV));generalize wr.alloc _=u at *;generalize wr.heap.size=V at *;refine qu;refine ay;refine HP.out.mono ?_;rintro r w6 ⟨rfl,he6,hc6⟩;obtain h:=?_;exact h):=h
abbrev Mb(h:P:=by intro g5 cap5 w5 hown5 hgrow5 hat5 hlt5;have h5:=(H7.out.below jI).grown (HO7.out.alloc _).drew hgrow5;obtain h:=?_;exact h):=h
abbrev sg(h:P:=by obtain⟨cv,fv,zv⟩:=ab hv;obtain h:=?_;exact h):=h
abbrev mA(h:P:=by go_upto_region 7 with fail;obtain h:=?_;exact h):=h
abbrev Ma(h:P:=by
 have hXo:(Value.slice A k cap).ownBlock≠some X:=λq=>by have:=(HO.out.lt _ q).2;omega
 obtain h:=?_;exact h):=h
abbrev As(h:P:=by refine je;refine mi;(try clear hHeld1);obtain h:=?_;exact h):=h
abbrev Yi(h:P:=by refine ay;refine rg 6 (λw'=>Bk w' V #[JI p.n,.slice p.a p.zs.length p.c] 143) bk (λhH=>?_);refine vm;refine tk 5 ?_;refine EG;obtain h:=?_;exact h):=h
abbrev Yh(h:P:=by
 .subst h
  exact⟨⟨rfl,rfl,rfl,rfl,rfl,rfl,rfl,rfl,rfl,rfl,rfl,rfl⟩,j,hn,rfl,rfl,rfl,rfl,by rw[ht];simp,λ_=>by rw[ht];simp⟩):=h
abbrev vi(h:P:=by refine iZ;rw[h2]at q2;cases q2):=h
abbrev Aq(h:P:=by
 .exact⟨h.c.cong (inq':=z.c.inq),rfl⟩):=h
abbrev An(h:P:=by have H1:=OH h1;have H2:=OH h2;obtain h:=?_;exact h):=h
abbrev Yg(h:P:=by rintro r w7 h7;obtain⟨A7,cap7,err7,zs7,rfl,h8⟩:=h7.tol (b:=b) (F:=PacF s) hGx HNP.out;have H7:=OH h8;refine bj;exact H7.out):=h
abbrev Yf(h:P:=by refine ZX;generalize hN:(([JI v0,.slice v1 vl1 vc1]::ys).length)=n at *;refine zq85;refine zF;refine i9;go_region;refine ay;obtain h:=?_;exact h):=h
abbrev qu(h:P:=by obtain⟨cV,fV,zV⟩:=ab hV;obtain h:=?_;exact h):=h
abbrev sf(h:P:=by obtain⟨c0,f0,z0⟩:=ab hX;obtain h:=?_;exact h):=h
abbrev sd(h:P:=by obtain⟨c0,f0,z0⟩:=ab hZ;obtain h:=?_;exact h):=h
abbrev Fz(h:P:=by
 .rw[HT.out]
  exact N1 K1.out HD.out hbd rfl):=h
abbrev L9(h:P:=by refine⟨Uu,λhH=>?_⟩;obtain h:=?_;exact h):=h
abbrev kv(h:P:=by refine ay;refine wJ;obtain h:=?_;exact h):=h
abbrev oJ(h:P:=by have hwc:=hwc.symm;subst hwc;obtain h:=?_;exact h):=h
abbrev L8(h:P:=by dsimp only[yI,Hf,List.getElem?_cons_zero,List.getElem?_cons_succ,Array.toList]at e0;all_goals(obtain h:=?_;exact h)):=h
abbrev Ye(h:P:=by
 obtain⟨h0,h1⟩:=mP a b;go_enter func93,ntmps93;go_wp2_with (go_at_call 126;refine(lH _ _ _).mono ?_;rintro e w' ⟨rfl,rfl⟩)
 obtain h:=?_;exact h):=h
abbrev Yd(h:P:=by
 split
 .exact .inl rfl
 split
 .exact .inl rfl
 next x hx=>
 split
 .exact .inl rfl
 .refine .inr ⟨_,?_,rfl⟩
  exact Pj hx rfl):=h
abbrev Fy(h:P:=by simp only[List.length_cons,List.length_nil];omega):=h
abbrev L7(h:P:=by rintro e w' ⟨v',rfl,ho,hb⟩;exact⟨v',rfl,aW ho hB,.of hb⟩):=h
abbrev Fx(h:P:=by have hx:xs=[]:=List.eq_nil_of_length_eq_zero h2;subst hx;obtain h:=?_;exact h):=h
abbrev Fw(h:P:=by refine lP;refine sF;have e0:L-xs.length=0:=oM;obtain h:=?_;exact h):=h
abbrev L6(h:P:=by refine ay;refine rc underlying198 ?_;exact EU):=h
abbrev mz(h:P:=by refine oG;refine qE;obtain h:=?_;exact h):=h
abbrev L5(h:P:=by have d0:=hk2 q hlt 0 oM dM;have d1:=hk2 q hlt 1 oM dM;have d2:=hk2 q hlt 2 oM dM;obtain h:=?_;exact h):=h
abbrev Yc(h:P:=by refine ay;have hc0:ag af w (w.alloc (.cells (fq q A cap) 50)):=bu;refine Calls.mono (HOW.out _ hc0) ?_;rintro e w1 ⟨⟨v,err,rfl,ho⟩,hb1⟩;obtain h:=?_;exact h):=h
abbrev Yb(h:P:=by rw[hl]at hv;obtain⟨y,hy,hq⟩:=List.mem_map.1 (OZ hl);simp only[Prod.mk.injEq]at hq;exact⟨y,(hq.2.trans hv).symm⟩):=h
abbrev Ya(h:P:=by obtain⟨cO,fO,zO⟩:=ab hO3;go_upto_region 15 with fail;refine ay;refine wY underlying68 ?_ (h1:=aK (qL oh).toList hO3 rfl);obtain h:=?_;exact h):=h
abbrev X9(h:P:=by refine UR;obtain⟨-,fg,zg⟩:=ab kg;have i1:(k:Int)<n:=oM;have i3:k<n:=oM;obtain h:=?_;exact h):=h
abbrev X8(h:P:=by go_enter func110,ntmps110;refine ay;go_step3;refine ay;refine HFD.out.mono ?_;rintro e w1 ⟨rfl,hb1⟩;have hc1:ag af w w1:=.of hb1;obtain h:=?_;exact h):=h
abbrev sb(h:P:=by
 refine on 14 λK hK=>?_
 go_simp;obtain h:=?_;exact h):=h
abbrev vh(h:P:=by refine ay;refine HCL.out.mono ?_;obtain h:=?_;exact h):=h
abbrev X7(h:P:=by have CL:=OH c1;clear c1;refine bj;have hcs:ag (λb=>b=g) wr (wr.setCells g (d*3) zs):=bA zs _ _;exact zq75):=h
abbrev X6(h:P:=by
 refine Z1;go_upto_region 11 with(first|(go_at_call 273;(with_reducible refine(Ee _ _ _).mono ?_);rintro e w' ⟨rfl,rfl⟩;rw[HL.out]))
 obtain h:=?_;exact h):=h
abbrev L4(h:P:=by refine ay;refine(pY _ _ _).mono ?_;refine jN;exact sC):=h
abbrev Am(h:P:=by obtain⟨j,hj,rfl⟩:=List.getElem_of_mem hx;obtain h:=?_;exact h):=h
abbrev oI(h:P:=by go_upto_region 12 with fail;obtain h:=?_;exact h):=h
abbrev Al(h:P:=by simp only[Option.some.injEq]at hy;subst hy;obtain h:=?_;exact h):=h
abbrev X5(h:P:=by
 refine Z2;have d1:cur[a*2+1]?=some (JU v1):=by have q:cur[((a+0) % L)*2+1]?=some (JU v1):=h.ent 0 sM 1 dM;simpa[Nat.mod_eq_of_lt ha]using q
 obtain h:=?_;exact h):=h
abbrev X4(h:P:=by refine jO;generalize w1.alloc _=u at *;refine nQ;refine ay;refine(PK _ x h0 h1).mono ?_;refine rT;have hG2:=hG.next hb2;obtain h:=?_;exact h):=h
abbrev nI(h:P:=by obtain⟨rfl,_,rfl⟩:=h1;obtain h:=?_;exact h):=h
abbrev rZ(h:P:=by rintro e w1 ⟨rfl,hb1⟩;obtain h:=?_;exact h):=h
abbrev Ak(h:P:=by refine⟨bk,λhH=>?_⟩;obtain h:=?_;exact h):=h
abbrev oH(h:P:=by have hG:=ag.trans hG hc0;obtain h:=?_;exact h):=h
abbrev rY(h:P:=by
 refine on 11 λK hK=>?_
 obtain h:=?_;exact h):=h
abbrev ia(h:P:=by simpa using this):=h
abbrev rX(h:P:=by
 .exact .inl (by rw[e];simp)):=h
abbrev Fv(h:P:=by obtain⟨rfl,hsn,hrn,hqn,hMn,hMvn⟩:=hcut;have hq:=hqn;obtain h:=?_;exact h):=h
abbrev X3(h:P:=by go_enter func94,ntmps94;refine ay;refine(PK _ 0 dM dM).mono ?_;rintro r w1 ⟨rfl,hb1⟩;have hG1:ag af w w1:=ag.next bu hb1;obtain h:=?_;exact h):=h
abbrev X2(h:P:=by
 obtain⟨x0,z0,e0,r0⟩:∃x z e,bO (zs,0) 8=(x,z,e):=⟨_,_,_,rfl⟩
 obtain⟨x1,z1,e1,r1⟩:∃x z e,bO (z0,e0) 1=(x,z,e):=⟨_,_,_,rfl⟩
 obtain h:=?_;exact h):=h
abbrev X1(h:P:=by refine wJ;refine ju rfl rfl underlying375 rfl rfl ⟨_,_,qY,kM,?_,gM⟩;exact pG (by rw[HR.out,HO.out])):=h
abbrev X0(h:P:=by
 refine dA;case rel=>exact⟨k+1,oM,eT,by rw[HST.out];simp[eJ];try omega,gM⟩
 case measure=>exact di):=h
abbrev L3(h:P:=by apply Array.toList_inj.1;simp only[madeCells,Array.toList_map,Array.toList_range];all_goals(obtain h:=?_;exact h)):=h
abbrev my(h:P:=by have HO:=OH hown;obtain h:=?_;exact h):=h
abbrev rW(h:P:=by
 refine on 8 λK hK=>?_
 go_simp;obtain h:=?_;exact h):=h
abbrev LY(h:P:=by have hm:=List.getElem_mem hi;have hx:=h.wk _ hm;obtain⟨m1,m2⟩:=h.wm _ hm;obtain h:=?_;exact h):=h
abbrev LX(h:P:=by
 refine FV;rw[List.getElem?_append_right (by rw[htl];omega),htl]
 congr 1
 obtain h:=?_;exact h):=h
abbrev XZ(h:P:=by have hXn:wr.heap.size<=w1.heap.size:=hc1.size;generalize hXe:w1.heap.size=X at *;generalize w1.alloc _=u1 at *;have hr:=H1.out.r;refine lR;obtain h:=?_;exact h):=h
abbrev XY(h:P:=by have HK:=OH hks;clear hks;have HT:=OH hk;clear hk;refine rK;have HS:=OH hS;clear hS;refine rL;clear hkl;obtain h:=?_;exact h):=h
abbrev vg(h:P:=by exact⟨by rw[E.out];rfl,rfl⟩):=h
abbrev XW(h:P:=by rw[e1];exact⟨rfl,rfl,rfl,by simp[World.setCell],λk hk hne=>eA w _ u k (λq=>hne (by rw[q];rfl))⟩):=h
abbrev LW(h:P:=by obtain⟨k,hk,rfl,hp,hJ,hc⟩:=hrel;have HPN:=OH hp;by_cases hlt:k<xs.length;all_goals(obtain h:=?_;exact h)):=h
abbrev LV(h:P:=by simp only[Option.some.injEq,Addr.mk.injEq]at k1;obtain⟨rfl,rfl,-⟩:=k1;obtain h:=?_;exact h):=h
abbrev LU(h:P:=by have hO7:=ae h7 hOc id;obtain⟨cO,fO,zO⟩:=ab hO7;refine ay;obtain h:=?_;exact h):=h
abbrev XV(h:P:=by
 have hep:=λW (hb:aC w W)=>Ty (h.xs.below hb) oM (λx hx=>(h.x x hx).chg (S:=af) (.of hb) iF)
 have HEP:=OH hep;obtain h:=?_;exact h):=h
abbrev XU(h:P:=by
 refine⟨λh=>(by rw[h]at hr;cases hr),λj hj=>⟨xV ht inv hr hin hj,?_⟩⟩;by_cases hji:j=i
 .subst hji
  exact hy.wpOp hi hS ⟨hS,H⟩
 all_goals(obtain h:=?_;exact h)):=h
abbrev XT(h:P:=by
 rcases bW h with⟨h1,_,_⟩|⟨g,c,h1,_⟩
 .refine mh
  exact h1.2.2
 .refine mh
  rw[q]at h1;cases h1.1):=h
abbrev XS(h:P:=by refine eP;go_enter func15,ntmps15;refine ay;refine HBL.out.mono ?_;rintro r w1 ⟨rfl,hb1⟩;have hc1:ag af w w1:=.of hb1;obtain h:=?_;exact h):=h
abbrev LT(h:P:=by
 obtain⟨x5,z5,e5,r5⟩:∃x z e',bO (z4,e4) 4=(x,z,e'):=⟨_,_,_,rfl⟩
 obtain h:=?_;exact h):=h
abbrev LS(h:P:=by
 obtain⟨x4,z4,e4,r4⟩:∃x z e',bO (z3,e3) 4=(x,z,e'):=⟨_,_,_,rfl⟩
 obtain h:=?_;exact h):=h
abbrev LR(h:P:=by
 have l2:(dW L x).isSome=true:=by unfold dW;rw[hf];rfl
 refine sB;obtain h:=?_;exact h):=h
abbrev LQ(h:P:=by rw[hfl];rcases bW HO.out with⟨rfl,hl0,_⟩|⟨g,cap,rfl,_,_,hcap,_⟩;all_goals(obtain h:=?_;exact h)):=h
abbrev LO(h:P:=by
 obtain⟨x1,z1,e1,r1⟩:∃x z e',bO (zs,0) 1=(x,z,e'):=⟨_,_,_,rfl⟩
 obtain h:=?_;exact h):=h
abbrev rV(h:P:=by have HJ:=OH hJ;clear hJ;obtain h:=?_;exact h):=h
abbrev XR(h:P:=by
 have h:∀z:Int,0<=IntKind.u8.wrap z/\IntKind.u8.wrap z<=255:=λz=>by exact qe
 cases o<;>exact h _):=h
abbrev Fu(h:P:=by refine jp;rw[e0];refine bj;exact sC):=h
abbrev XQ(h:P:=by refine AH;have hb:=ae hc4 hb id;have hnb:=ae hc4 hnb id;have hD:=ae hc4 hD id;have hG:=ag.trans hG hc4;refine qV;obtain h:=?_;exact h):=h
abbrev XP(h:P:=by refine AG;have hb:=ae hc5 hb id;have hnb:=ae hc5 hnb id;have hD:=ae hc5 hD id;have hG:=ag.trans hG hc5;refine qV;obtain h:=?_;exact h):=h
abbrev XO(h:P:=by refine AG;have hb:=ae hc3 hb id;have hnb:=ae hc3 hnb id;have hD:=ae hc3 hD id;have hG:=ag.trans hG hc3;refine qV;obtain h:=?_;exact h):=h
abbrev XN(h:P:=by refine qA;have hb:=ae hc1 hb id;have hnb:=ae hc1 hnb id;have hD:=ae hc1 hD id;refine qj;refine oG;obtain h:=?_;exact h):=h
abbrev XM(h:P:=by refine AH;have hb:=ae hc2 hb id;have hnb:=ae hc2 hnb id;have hD:=ae hc2 hD id;have hG:=ag.trans hG hc2;refine qV;obtain h:=?_;exact h):=h
abbrev vf(h:P:=by refine(c0 _).trans (Eq.trans ?_ hj);obtain h:=?_;exact h):=h
abbrev XL(h:P:=by obtain⟨c2,f2,z2⟩:=ab h1.q;obtain⟨c3,f3,z3⟩:=ab h1.r;have hz:=hb.size;have hp:(a+xs.length) % L<L:=Nat.mod_lt _ oM;obtain h:=?_;exact h):=h
abbrev Ft(h:P:=by clear hK K;(try clear hHeld2);refine bV;obtain h:=?_;exact h):=h
abbrev XK(h:P:=by refine ay;refine rcc22 underlying410 underlying460 ?_ (h1:=(bU _ _).trans q1) (h1':=(bU _ _).trans q2);obtain h:=?_;exact h):=h
abbrev XJ(h:P:=by generalize w2.alloc _=u4 at *;generalize w2.heap.size=V at *;have HG4:=OH (HG.out.trans hG4);obtain⟨cX,fX,zX⟩:=ab hX4;obtain h:=?_;exact h):=h
abbrev XI(h:P:=by refine fK;have HQ:=OH (Pb hq);have hW:=h.wb;refine eP;have hl:(x.pk.map cwC).length=x.pk.length:=sM;have HL:=OH hl;obtain h:=?_;exact h):=h
abbrev LN(h:P:=by obtain⟨b1,y1,l1⟩:=dP H0.out.b r1;simp only[Int.reducePow]at l1;obtain h:=?_;exact h):=h
abbrev rU(h:P:=by have hw:=hHeld1;go_split_ands;all_goals(obtain h:=?_;exact h)):=h
abbrev LM(h:P:=by obtain⟨cS,fS,zS⟩:=ab hS5;obtain⟨cL,fL,zL⟩:=ab hL5;obtain h:=?_;exact h):=h
abbrev Aj(h:P:=by obtain⟨c1,f1,z1⟩:=ab hX5;obtain⟨c2,f2,z2⟩:=ab hZ5;obtain h:=?_;exact h):=h
abbrev XH(h:P:=by refine AD;refine(gC H0.out.drew r1).mono ?_;rintro r w1 ⟨rfl,h1,hc1⟩;have hv:=h1.v;have hr:=h1.r;refine AK;refine je;obtain h:=?_;exact h):=h
abbrev XG(h:P:=by refine AD;refine(gC H1.out.drew r2).mono ?_;rintro r w2 ⟨rfl,h2,hc2⟩;have hv:=h2.v;have hr:=h2.r;refine AK;refine je;obtain h:=?_;exact h):=h
abbrev lQ(h:P:=by rw[List.getElem_set];obtain h:=?_;exact h):=h
abbrev LL(h:P:=by simpa[Nat.mod_eq_of_lt ha]using q):=h
abbrev LK(h:P:=by exact⟨0,oM,rfl,World.ownsRow_nil _ _ _ _,Below.refl _ _⟩):=h
abbrev LJ(h:P:=by unfold IntKind.wrap;simp[IntKind.signed,IntKind.bits];omega):=h
abbrev XF(h:P:=by have D2:=OH d2;clear d2;go_enter func103,ntmps103;refine bj;exact⟨by rw[D2.out];rfl,rfl⟩):=h
abbrev vb(h:P:=by obtain⟨cS,fS,zS⟩:=ab hs;obtain h:=?_;exact h):=h
abbrev qq(h:P:=by rintro e w1 ⟨rfl,rfl⟩;obtain h:=?_;exact h):=h
abbrev Fs(h:P:=by exact(eF.one hq.q rM).or (eF.one hq.r rM)):=h
abbrev va(h:P:=by obtain⟨c0,f0,z0⟩:=ab hq;obtain h:=?_;exact h):=h
abbrev Ai(h:P:=by refine AL;obtain⟨rfl,rfl,rfl⟩:=h1;obtain h:=?_;exact h):=h
abbrev Ah(h:P:=by refine ay;refine(mK HC.out).mono ?_;obtain h:=?_;exact h):=h
abbrev Ag(h:P:=by refine jp;have hb1:=hb.symm;subst hb1;obtain h:=?_;exact h):=h
abbrev Fq(h:P:=by
 refine Ce;refine tk 5 ?_;refine on 6 λK hK=>?_
 obtain h:=?_;exact h):=h
abbrev qp(h:P:=by generalize w.alloc _=u at *;obtain h:=?_;exact h):=h
abbrev XE(h:P:=by go_enter func148,ntmps148;refine ay;refine(Db (hr.out.kept (S:=af) im id id)).mono ?_;obtain h:=?_;exact h):=h
abbrev uZ(h:P:=by refine Ce;refine lU;refine sD;all_goals(obtain h:=?_;exact h)):=h
abbrev XD(h:P:=by go_enter func133,ntmps133;refine ay;refine(Pb (hr.out.kept (S:=af) im id id)).mono ?_;obtain h:=?_;exact h):=h
abbrev XB(h:P:=by go_enter func206,ntmps206;refine ay;refine(Pc (hr.out.kept (S:=af) im id id)).mono ?_;obtain h:=?_;exact h):=h
abbrev Xz(h:P:=by obtain⟨p,hp,hq⟩:=List.mem_map.1 this;simp only[Prod.mk.injEq]at hq;exact⟨p,hp,hq.1.symm,hq.2.symm⟩):=h
abbrev Xy(h:P:=by
 obtain⟨hP,hL,hne⟩:=hA;refine MU;clear cL;have hne':L≠P:=λh=>hne h.symm
 go_enter func155,ntmps155;refine ay;obtain h:=?_;exact h):=h
abbrev jM(h:P:=by have HS:=OH hs;obtain h:=?_;exact h):=h
abbrev LI(h:P:=by refine ju rfl rfl underlying42 rfl rfl ⟨_,_,hf,kM,?_⟩;obtain h:=?_;exact h):=h
abbrev uY(h:P:=by rw[hW];exact hJ2.set hZ2 hRZ):=h
abbrev Xx(h:P:=by refine hK.out _ _ zt66 (λhHeld2=>?_);refine rQ;obtain h:=?_;exact h):=h
abbrev uX(h:P:=by go_simp;refine(HSW.out _).mono ?_;obtain h:=?_;exact h):=h
abbrev Xw(h:P:=by refine wJ;refine ju rfl rfl underlying373 rfl rfl ⟨_,_,ur,kM,?_,gM⟩;exact pG H.out):=h
abbrev Xv(h:P:=by have hbc:=ae hG hb id;have hDc:=ae hG hD id;have hpc:=ae hG hpb id;have HPC:=OH (HP.out.below hG.none);obtain h:=?_;exact h):=h
abbrev Fp(h:P:=by obtain⟨pv,hpv,_⟩:=(HPR.out.below hGd.none).p;obtain h:=?_;exact h):=h
abbrev Fo(h:P:=by obtain⟨es,clock,since,seen,c0,g1,g2,g3⟩:=h.i;obtain h:=?_;exact h):=h
abbrev Xu(h:P:=by exact⟨hm.upd h.sn h.pn h.pd,⟨Int.le_refl _,λ_ _ _ _ q=>q⟩,rfl,rfl,λ_=> .inl rfl,.inl rfl⟩):=h
abbrev Xt(h:P:=by
 have hnc:=λW (hb:aC w W)=>jx (w:=W) A zs.length cap rfl hl (iD (h.below hb)) (kf h)
 have HNC:=OH hnc;obtain h:=?_;exact h):=h
abbrev LH(h:P:=by clear hK K;(try clear hHeld3);refine bV;refine eY;refine dr;obtain h:=?_;exact h):=h
abbrev Xs(h:P:=by exact⟨hjn,wpOp_step um (λK' hK=>h2 K' (λa w hS hW=>hK a w ⟨hS,hW hS⟩))⟩):=h
abbrev LG(h:P:=by rw[HJ.out];have hcf:ag af w w5:=HC5.out;exact Q8):=h
abbrev Xr(h:P:=by
 have hxw:=pC hx0 hx1;have hl2:r.length+1<=5000:=by simpa using hl
 subst hr;have p0:(0:Int)<((r.length+1:Nat):Int):=oM;obtain h:=?_;exact h):=h
abbrev Xq(h:P:=by rw[List.getElem?_eq_getElem hj]at e2;simp only[Option.some.injEq]at e2;rw[e2];exact⟨rfl,hnew⟩):=h
abbrev Xp(h:P:=by
 have hn:=xI s i;obtain⟨x,hx⟩:∃x,mI s i=x:=⟨_,rfl⟩
 rw[hx]at hn;obtain⟨n0,n1⟩:=hn;refine nG;obtain h:=?_;exact h):=h
abbrev oE(h:P:=by obtain⟨v,h1,h2⟩:=h.p;obtain h:=?_;exact h):=h
abbrev qn(h:P:=by go_upto_region 9 with fail;obtain h:=?_;exact h):=h
abbrev Af(h:P:=by have hc1:ag af w0_ w1_:=.of hbw1_;obtain h:=?_;exact h):=h
abbrev Fm(h:P:=by refine ay;refine Calls.mono HI.out ?_;obtain h:=?_;exact h):=h
abbrev qm(h:P:=by go_quiet (fail);refine ay;obtain h:=?_;exact h):=h
abbrev Xo(h:P:=by have:=(h.2.2.2 (he q).1).1 dM z;exact⟨this.1,by have:=this.2;dsimp only;split<;>simp_all<;>omega⟩):=h
abbrev Ae(h:P:=by unfold dW;rw[hf];rfl):=h
abbrev Fl(h:P:=by have HR8:=OH g8.1;have hG9:=hG8.trans g8.2;obtain h:=?_;exact h):=h
abbrev Xn(h:P:=by have e0:decide ((0:Int)<(zr.length:Nat))=false:=decide_eq_false oM;have e9:decide (0<zr.length)=false:=decide_eq_false oM;obtain h:=?_;exact h):=h
abbrev LF(h:P:=by rw[List.take_add_one,List.getElem?_eq_getElem hlt];rfl):=h
abbrev Xm(h:P:=by obtain⟨cO,fO,zO⟩:=ab hOc;refine ay;refine wY underlying68 ?_ (h1:=aK (qL oh).toList hOc rfl);obtain h:=?_;exact h):=h
abbrev Xl(h:P:=by
 have hMo:∀j,M j->¬z.wk[i].own j:=λj hj=>(hx.mo j hj).2
 refine zq31;have hGM:=h.ct.se.lt;have hDM:=h.ct.seen.map.lt;obtain h:=?_;exact h):=h
abbrev LD(h:P:=by have hkl:k=xs.length:=oM;refine mq;exact⟨xs.length,HPN.out,.inr ⟨rfl,rfl,hJ⟩,hc⟩):=h
abbrev Xk(h:P:=by refine oF;refine AC;refine tk 15 ?_;refine zj;refine tk 18 ?_;refine tk 19 ?_;refine tk 20 ?_;obtain h:=?_;exact h):=h
abbrev LC(h:P:=by
 repeat(split;· exact λx hx=>hx)
 exact λx hx=>hx):=h
abbrev Xj(h:P:=by rw[List.map_set];exact List.ext_getElem sM λi h1 h2=>KL):=h
abbrev Xi(h:P:=by refine ay;refine bQ rfl rfl underlying203 rfl rfl ⟨_,_,ur,kM,?_⟩;exact sC):=h
abbrev Xh(h:P:=by refine ay;refine bQ rfl rfl underlying198 rfl rfl ⟨_,_,ur,kM,?_⟩;exact sC):=h
abbrev ku(h:P:=by have HD:=OH hd;obtain h:=?_;exact h):=h
abbrev Fk(h:P:=by
 have hS:∀i,i=x.W->x.own i:=λi e=> .inl e
 obtain h:=?_;exact h):=h
abbrev kt(h:P:=by have HF:=OH hf;obtain h:=?_;exact h):=h
abbrev Fj(h:P:=by go_enter func171,ntmps171;refine ay;obtain h:=?_;exact h):=h
abbrev Ac(h:P:=by refine ay;(try rw[Exit.noGoto_ret]);obtain h:=?_;exact h):=h
abbrev Fi(h:P:=by
 refine AC;refine on 15 λK hK=>?_
 go_simp;obtain h:=?_;exact h):=h
abbrev Xg(h:P:=by have fb:(decide ((0:Int)<=k)&&decide (k<z.wk.length))=false:=xM;rw[fb]at HH;have HS:=OH h;have HI:=OH hin;obtain h:=?_;exact h):=h
abbrev Xf(h:P:=by go_region;all_goals(go_wp2_with fail;go_meet;go_split_ands;exact⟨rfl,vQ,vQ,vQ,Sj,Si⟩)):=h
abbrev Xe(h:P:=by refine ay;refine Calls.mono (Ji (kd:=s.kind) s.shard (HI.out.none hG) hk) ?_;exact In):=h
abbrev LB(h:P:=by simp only[ja,decide_eq_false_iff_not,Classical.not_not]at h1;obtain h:=?_;exact h):=h
abbrev Lz(h:P:=by
 have hGn:l.length+1<=G:=by rw[hG];exact grownCap_ge w _ _ _
 obtain h:=?_;exact h):=h
abbrev Ly(h:P:=by have hb6:=tV hc9 hb5;obtain⟨A7,n7,rfl⟩:=aj hown6;obtain h:=?_;exact h):=h
abbrev Lx(h:P:=by rw[Addr.add_lit,Nat.zero_add];refine hlen j v (Eq.trans ?_ hj);obtain h:=?_;exact h):=h
abbrev Xd(h:P:=by
 rcases e with e|e
 .subst e
  exact au hg ht.1 hq.q
 .subst e
  exact au hg ht.2 hq.r):=h
abbrev Ab(h:P:=by rintro e w2 ⟨rfl,hb2⟩;obtain h:=?_;exact h):=h
abbrev Xc(h:P:=by
 have e1:w.setCells g (off+xs.length*i.size) [u]=w.setCell ⟨g,off+xs.length,none⟩ u:=by simp[World.setCells,h4]
 obtain h:=?_;exact h):=h
abbrev Xb(h:P:=by have k8:((w1.alloc (.cells (kW d) 410)).alloc (.cells #[JI pc,JI tl] 460)).heap[w1.heap.size]?=OC (kW d) 410:=bZ;obtain h:=?_;exact h):=h
abbrev Fh(h:P:=by refine eP;go_enter func63,ntmps63;obtain h:=?_;exact h):=h
abbrev kr(h:P:=by rw[hW];exact bZ):=h
abbrev Fg(h:P:=by clear h;have z0:=aB hq;have z1:=aB hR;obtain h:=?_;exact h):=h
abbrev Ff(h:P:=by refine ay;refine HH.out.mono ?_;refine qH;obtain h:=?_;exact h):=h
abbrev Xa(h:P:=by rw[h1]at k1;simp only[Value.slice.injEq,Option.some.injEq,Addr.mk.injEq]at k1;obtain⟨⟨rfl,_⟩,_,rfl⟩:=k1;obtain h:=?_;exact h):=h
abbrev Lw(h:P:=by go_region;refine bj;exact⟨_,rfl,HO.out,HB.out⟩):=h
abbrev W7(h:P:=by simp only[Nat.add_zero]at e0;refine hK.out _ _ ⟨aO hX2,e0,e1,e2,e3,e4,hb2⟩ (λhHeld1=>?_);refine bV;obtain h:=?_;exact h):=h
abbrev Lu(h:P:=by refine ay;refine(bhas_t H.out k _ rfl hk).mono ?_;refine jf;obtain h:=?_;exact h):=h
abbrev W5(h:P:=by
 refine sj;have hS:u.heap[w.heap.size]?=OC (Ci s) 61:=jn
 have hG:ag af w u:=lT
 obtain h:=?_;exact h):=h
abbrev W0(h:P:=by go_quiet (fail);refine lS;have hcf:ag af w (w5.drewN nq):=HC5.out.drewN _;exact Q8):=h
abbrev WZ(h:P:=by have hnn:=HN.out;subst h2;exact⟨_,cap2,zs',0,rfl,h1.mono kn,h3,oM,h6.none⟩):=h
abbrev WY(h:P:=by
 refine dA;case rel=>exact⟨k+1,oM,eT,z2,HI13.out⟩
 case measure=>exact di):=h
abbrev Lt(h:P:=by
 refine oF;refine tk 12 ?_;refine on 13 λK hK=>?_
 go_simp;obtain h:=?_;exact h):=h
abbrev jm(h:P:=by exact .inl rfl):=h
abbrev Ls(h:P:=by
 .simp only[Prod.mk.injEq]at hs
  exact hs.1.symm):=h
abbrev WX(h:P:=by
 refine dA;case rel=>exact⟨_,HIA.out,gM⟩
 case measure=>rw[HLA.out];exact HL.out):=h
abbrev WW(h:P:=by rintro r w5 ⟨v5,rfl,hown5,hb5⟩;obtain⟨A5,c5,rfl⟩:=aj hown5;have hc5:ag af w w5:=hcd.next hb5;obtain h:=?_;exact h):=h
abbrev zK(h:P:=by obtain⟨a,b,d,e⟩:=h.jb j hj;obtain h:=?_;exact h):=h
abbrev zH(h:P:=by obtain⟨cW,fW,zW⟩:=ab hW1;obtain h:=?_;exact h):=h
abbrev WV(h:P:=by refine bQ rfl rfl underlying157 rfl rfl ⟨_,_,ur,kM,rM,qQ⟩):=h
abbrev WU(h:P:=by refine bQ rfl rfl underlying132 rfl rfl ⟨_,_,ur,kM,rM,qQ⟩):=h
abbrev WT(h:P:=by refine bQ rfl rfl underlying143 rfl rfl ⟨_,_,ur,kM,rM,qQ⟩):=h
abbrev Lr(h:P:=by have hB2:=hB.trans (hb2.mono hB.size);have HHB2:=OH hB2;obtain h:=?_;exact h):=h
abbrev Lq(h:P:=by have hxw:=pC hx0 hx1;go_enter func161,ntmps161;obtain h:=?_;exact h):=h
abbrev Lp(h:P:=by
 .rw[e]
  dsimp only;rw[e1];exact λx hx=>hx):=h
abbrev WS(h:P:=by
 have hly:=λW=>Pg q.kind q.who q.room q.rights q.track (.slice A q.ss.length cap) q.layer q.tid W rfl
 obtain h:=?_;exact h):=h
abbrev WR(h:P:=by
 refine Ay;have hi':i<z.wk.length:=by dsimp only at hi;omega
 obtain⟨am,e⟩:=(t2 i hi' hi).1 hi';rw[e];obtain h:=?_;exact h):=h
abbrev ql(h:P:=by exact⟨rfl,gM⟩):=h
abbrev WQ(h:P:=by
 have hlp:∀ {ts ms},(ts.all λu=>u !=317)=true->eF ts ms w (λj=>j=X.LP):=λht=>eF.one h.ct.p.l ht
 obtain h:=?_;exact h):=h
abbrev Lo(h:P:=by have hcb:((c:Int)==(n:Int))=false:=beq_eq_false_iff_ne.2 oM;obtain h:=?_;exact h):=h
abbrev WP(h:P:=by
 have hS:∀i,(i=x.Q\/i=x.R)->x.own i:=λi e=>e.elim (λe=> .inr (.inl e)) λe=> .inr (.inr (.inl e))
 obtain h:=?_;exact h):=h
abbrev qk(h:P:=by rw[Rv.Gu];omega):=h
abbrev Ln(h:P:=by have hl0:l=[]:=List.eq_nil_of_length_eq_zero hl0;subst hl0;obtain h:=?_;exact h):=h
abbrev WO(h:P:=by
 go_wp2_with (refine wpList_load_mid rfl 61 (.tmp 3) rfl Z 0 rfl (RL s) _ hra underlying61 rfl kM ?_)
 obtain h:=?_;exact h):=h
abbrev WN(h:P:=by
 have e1:w.setCells g (off+xs.length*1) [u]=w.setCell ⟨g,off+xs.length,none⟩ u:=by simp[World.setCells]
 obtain h:=?_;exact h):=h
abbrev WM(h:P:=by obtain⟨cb,fb,zb⟩:=ab hb8;obtain⟨c6,f6,z6⟩:=ab h68;obtain⟨cp,fp,zp⟩:=ab hp8;obtain h:=?_;exact h):=h
abbrev zF(h:P:=by obtain⟨cG,fG,yG⟩:=ab hG;obtain h:=?_;exact h):=h
abbrev zE(h:P:=by obtain⟨cZ,fZ,zZ⟩:=ab hZ;obtain h:=?_;exact h):=h
abbrev zy(h:P:=by obtain⟨cD,fD,zD⟩:=ab hD;obtain h:=?_;exact h):=h
abbrev zu(h:P:=by obtain⟨cP,fP,zP⟩:=ab hP;obtain h:=?_;exact h):=h
abbrev uW(h:P:=by refine jN;exact gO):=h
abbrev Lm(h:P:=by have hW:=h.wb;simp only[ou,hp]at hW;have HB:=OH hB;obtain h:=?_;exact h):=h
abbrev WL(h:P:=by refine ay;refine(Q1.out _ gM).mono ?_;rintro e w1 ⟨vp,rfl,hp,hb1⟩;obtain⟨A4,n4,rfl⟩:=aj hp;obtain h:=?_;exact h):=h
abbrev WK(h:P:=by go_enter func222,ntmps222;refine ay;refine(hlen).mono ?_;rintro e w1 ⟨k,rfl,rfl⟩;refine ay;obtain h:=?_;exact h):=h
abbrev WI(h:P:=by rw[show ts.take (k+1)=ts.take k++ [ts[k]] from by rw[List.take_add_one,List.getElem?_eq_getElem h];rfl];obtain h:=?_;exact h):=h
abbrev uV(h:P:=by refine tk 7 ?_;refine tk 8 ?_;obtain h:=?_;exact h):=h
abbrev WH(h:P:=by refine⟨k1,λh0=>(by rw[k2]at h0;cases h0),λj hj=>?_⟩;rw[k2,List.mem_singleton]at hj;subst hj;obtain h:=?_;exact h):=h
abbrev Ll(h:P:=by generalize decide (q.who∈d.people.map Pe.who)=bb at hps;obtain h:=?_;exact h):=h
abbrev WG(h:P:=by go_simp;refine(jx A zs.length cap rfl oM (iD (HBR.out.chg hw iF)) HSC.out).mono ?_;obtain h:=?_;exact h):=h
abbrev WF(h:P:=by
 rw[if_pos q,if_pos q.symm];simp only[Option.map_some,List.length_append,List.length_singleton]
 congr 4
 obtain h:=?_;exact h):=h
abbrev WE(h:P:=by obtain⟨c2,f2,z2⟩:=ab h2;obtain⟨c3,f3,z3⟩:=ab h3;obtain⟨c4,f4,z4⟩:=ab h4;obtain h:=?_;exact h):=h
abbrev WD(h:P:=by refine rN;have HLL:=OH hll;have hr:=h.r;refine lR;have hv:=h.v;refine sg;subst hg;obtain h:=?_;exact h):=h
abbrev WC(h:P:=by
 rw[if_neg q,if_neg (λr=>q r.symm)];simp only[List.length_append,List.length_singleton]
 congr 1
 funext j
 congr 4
 omega):=h
abbrev WB(h:P:=by exact⟨mc,mc,mc,mc,mc,mc,a7⟩):=h
abbrev WA(h:P:=by
 rcases Nat.lt_or_ge b w2.heap.size with q|q
 .exact q
 .rw[Array.getElem?_eq_none q]at hw2
  cases hw2):=h
abbrev Wx(h:P:=by exact⟨hin,wpOp_step nv (λK' hK=>h1 K' (λa w hS hW=>hK a w ⟨hS,hW hS⟩))⟩):=h
abbrev Ww(h:P:=by refine wJ;refine FR;rw[HJ.out];exact⟨⟨_,_,_,B,rfl,H.out.below gM,λh=>absurd h sM⟩,gM⟩):=h
abbrev Wu(h:P:=by have hb:=ae hc0 hb id;have hnb:=ae hc0 hnb id;have hD:=ae hc0 hD id;refine oH;refine qC;refine Ce;obtain h:=?_;exact h):=h
abbrev Wr(h:P:=by have H1:=OH (H.out.none hc1);refine vh;rintro r w2 ⟨a,c,rfl,hbr,hb2⟩;have H2:=OH (H1.out.none (.of hb2));obtain h:=?_;exact h):=h
abbrev Wq(h:P:=by refine wp_region_any hm ?_;have:=lV _ _ _ _ (h hS);rw[←hn]at this;exact ia):=h
abbrev qj(h:P:=by have hG:=ag.trans hG hc1;obtain h:=?_;exact h):=h
abbrev zo(h:P:=by obtain⟨A5,c5,hv5⟩:=hq5.slice;rw[List.length_append,List.length_map,List.length_singleton]at hv5;subst hv5;obtain h:=?_;exact h):=h
abbrev zn(h:P:=by refine hK.out _ _ ⟨bk (ae hG5 hW9 n1),bk (ae hG5 hJ9 n2),bk (ae hG5 hZ n3)⟩ (λhH=>?_);obtain h:=?_;exact h):=h
abbrev mq(h:P:=by subst hkl;refine bj;all_goals(obtain h:=?_;exact h)):=h
abbrev Wp(h:P:=by refine Zs;refine df;exact⟨Uc,hB⟩):=h
abbrev lP(h:P:=by have hr:=OH h;obtain h:=?_;exact h):=h
abbrev Wo(h:P:=by
 obtain⟨k1,k2,k3,k4⟩:=h.dm d hd;refine M2
 .have:=(h.dn d hd).k.lt.2.2
  omega):=h
abbrev zm(h:P:=by rcases List.mem_append.1 hy with q|q;all_goals(obtain h:=?_;exact h)):=h
abbrev Lk(h:P:=by
 rcases bW h with⟨_,hl0,_⟩|⟨g,cap,rfl,_⟩
 .omega
 all_goals(obtain h:=?_;exact h)):=h
abbrev zl(h:P:=by obtain⟨c0,f0,z0⟩:=ab h;obtain h:=?_;exact h):=h
abbrev Fe(h:P:=by go_enter func51,ntmps51;obtain h:=?_;exact h):=h
abbrev Wn(h:P:=by
 have e0:((L-xs.length:Nat):Int)≠0:=oM;have e1:(((L-xs.length:Nat):Int)==0)=false:=by simpa using e0
 obtain h:=?_;exact h):=h
abbrev Lj(h:P:=by refine jp;have h1:=ha1.kept (S:=af) (.of hb) id id;obtain h:=?_;exact h):=h
abbrev Wm(h:P:=by have hMv:=hMvn;have hsn:=aZ hBx zS hs;have hs:=hsn;have hrn:=aZ hBx zR hr;have hr:=hrn;obtain h:=?_;exact h):=h
abbrev Wl(h:P:=by exact List.ext_getElem sM λk h1 h2=>KL):=h
abbrev Wj(h:P:=by exact⟨0,none,0,[],z0,e0,H.out,l3,rfl,oM,World.ownsRow_nil _ _ _ _,rfl,sM,hG⟩):=h
abbrev Wi(h:P:=by refine ay;go_round;(case rel=>exact⟨1,oM,rfl⟩);(case measure=>simp[intOf])):=h
abbrev Wh(h:P:=by
 rcases Int.lt_or_le (c l[q]) 0 with hq3|hq3
 .have:=HM.out ((a+b) / 2) q hq2 hq hq3
  rw[HCC.out]at this;omega
 all_goals(obtain h:=?_;exact h)):=h
abbrev Li(h:P:=by cases h1;refine⟨rfl,h4,h2,h5,cur,h3,h6,λi hi j hj=>?_⟩;all_goals(obtain h:=?_;exact h)):=h
abbrev uU(h:P:=by rw[←hdl];exact FT):=h
abbrev Wg(h:P:=by refine kz;obtain⟨A,cap,hv,hh⟩:=h.has k;have HH:=OH hh;refine eP;by_cases hin:0<=k/\k<z.wk.length;all_goals(obtain h:=?_;exact h)):=h
abbrev Wf(h:P:=by have HQ:=OH heq;clear heq;generalize hyk:k2[k]=y at *;have HYK:=OH hyk;clear hyk;refine ay;obtain h:=?_;exact h):=h
abbrev We(h:P:=by
 refine sm;refine hK.out _ _ ?_ (λhHeld3=>?_)
 .exact⟨bk,bk,bu⟩
 refine Ft;refine eY;refine dr;all_goals(obtain h:=?_;exact h)):=h
abbrev Fd(h:P:=by refine⟨⟨bk,bk,bk,bk⟩,λhH=>?_⟩;obtain h:=?_;exact h):=h
abbrev uT(h:P:=by rintro r w4 ⟨rfl,hw4⟩;obtain h:=?_;exact h):=h
abbrev mn(h:P:=by have HB:=OH hb;obtain h:=?_;exact h):=h
abbrev ml(h:P:=by have HR:=OH hr;obtain h:=?_;exact h):=h
abbrev rT(h:P:=by rintro r w2 ⟨rfl,hb2⟩;obtain h:=?_;exact h):=h
abbrev uS(h:P:=by rintro e w5 ⟨rfl,hb5⟩;obtain h:=?_;exact h):=h
abbrev uR(h:P:=by
 rename_i h1
 dsimp only at h1;obtain h:=?_;exact h):=h
abbrev rS(h:P:=by refine bI;refine nL;obtain h:=?_;exact h):=h
abbrev Lh(h:P:=by obtain⟨c0,f0,z0⟩:=ab h.l;have CL:=OH c0;obtain h:=?_;exact h):=h
abbrev Wd(h:P:=by
 have hdl:((l.drop i).flatMap el).length=(l.length-i)*5:=by rw[bX ce,List.length_drop]
 obtain h:=?_;exact h):=h
abbrev Wc(h:P:=by have hG:=aZ hb rJ (ao w (.cells #[JI 0,.slice none 0 0] 157) _ rfl);obtain h:=?_;exact h):=h
abbrev Wb(h:P:=by
 have hdl:((l.drop i).flatMap eU).length=(l.length-i)*4:=by rw[bX dt,List.length_drop]
 obtain h:=?_;exact h):=h
abbrev Wa(h:P:=by
 have hdl:((l.drop i).flatMap gp).length=(l.length-i)*3:=by rw[bX dS,List.length_drop]
 obtain h:=?_;exact h):=h
abbrev V9(h:P:=by have hG:=aZ hb rJ (ao w (.cells #[JI 0,.slice none 0 0] 143) _ rfl);obtain h:=?_;exact h):=h
abbrev V8(h:P:=by exact⟨rfl,aE oA hb⟩):=h
abbrev Lg(h:P:=by obtain⟨f1,f2,f3,f4,f5,f6,f7,f8,f9,f10,f11,f12⟩:=he;obtain h:=?_;exact h):=h
abbrev V7(h:P:=by obtain⟨m1,m2,m3,m4,m5,m6,m7,a1,a2,a3,a4,a5,a6,a7,a8,a9,d1,d2,d3,m8,rfl⟩:=hsh;have hwo:=hw.size;obtain h:=?_;exact h):=h
abbrev Lf(h:P:=by rintro r w3 ⟨rfl,hw3⟩;have hw4:=hw3.symm;subst hw4;obtain h:=?_;exact h):=h
abbrev V4(h:P:=by refine zq43;refine Zv;have e0:(((([JI v0,.slice v1 vl1 vc1]::ys).length:Nat):Int)==0)=false:=xM;obtain h:=?_;exact h):=h
abbrev Le(h:P:=by rintro r w5 ⟨rfl,hw5⟩;have hw6:=hw5.symm;subst hw6;obtain h:=?_;exact h):=h
abbrev V3(h:P:=by rw[h]at q;simp only[Option.some.injEq,Obj.cells.injEq]at q;exact ht q.2.1):=h
abbrev V2(h:P:=by refine hK.out _ _ ⟨bk,bk,HLK.out _ hGd⟩ (λhH=>?_);refine qE;refine AC;refine tk 15 ?_;obtain h:=?_;exact h):=h
abbrev Fc(h:P:=by obtain⟨y,hy,rfl⟩:=List.mem_map.1 hx;obtain h:=?_;exact h):=h
abbrev Fb(h:P:=by rw[List.map_cons,List.nodup_cons]at h;obtain h:=?_;exact h):=h
abbrev lO(h:P:=by dsimp only;omega):=h
abbrev Fa(h:P:=by obtain⟨a,cur,hq⟩:=h.ak;refine jQ;obtain h:=?_;exact h):=h
abbrev V1(h:P:=by refine Mp;exact⟨A2,c2,rfl,mR (aW hv2 kn),hb2⟩):=h
abbrev Ld(h:P:=by obtain⟨v,k1,k2⟩:=h.p;obtain⟨a1,cur1,k3⟩:=h.ak;obtain h:=?_;exact h):=h
abbrev V0(h:P:=by obtain⟨s,hs,rfl⟩:=List.mem_map.1 ha;rw[List.map_cons,List.map_nil,List.mem_singleton]at hb;obtain h:=?_;exact h):=h
abbrev VZ(h:P:=by rw[hz]at hfz;have HFZ:=OH hfz;have HZ:=OH hz;refine ay;refine Calls.mono HFZ.out ?_;obtain h:=?_;exact h):=h
abbrev uQ(h:P:=by go_upto_region 10 with fail;obtain h:=?_;exact h):=h
abbrev VY(h:P:=by have hV:(w2.alloc (.cells (eW d).toArray 198)).heap[w2.heap.size]?=OC (eW d).toArray 198:=bZ;obtain h:=?_;exact h):=h
abbrev zk(h:P:=by unfold eQ;split<;>omega):=h
abbrev VX(h:P:=by exact⟨rfl,_,⟨M,N,m,by rw[List.append_assoc]at h;exact h,t1⟩,t2⟩):=h
abbrev E9(h:P:=by obtain⟨cq2,fq2,yq2⟩:=ab hq2;obtain h:=?_;exact h):=h
abbrev E8(h:P:=by obtain⟨cr2,fr2,yr2⟩:=ab hr2;obtain h:=?_;exact h):=h
abbrev VW(h:P:=by obtain⟨-,hcap1,-,-,cr1,hg1,hsz1,hrow1⟩:=it r1';obtain⟨c1,f1,z1⟩:=ab hg1;obtain h:=?_;exact h):=h
abbrev VV(h:P:=by
 have hw0:IntKind.i64.wrap ((n:Int)-zs.length)=(n:Int)-zs.length:=kA
 refine bI;obtain h:=?_;exact h):=h
abbrev zj(h:P:=by refine tk 16 ?_;refine tk 17 ?_;obtain h:=?_;exact h):=h
abbrev rR(h:P:=by refine vy;refine bV;obtain h:=?_;exact h):=h
abbrev E7(h:P:=by refine ay;refine Calls.mono HH.out ?_;obtain h:=?_;exact h):=h
abbrev E6(h:P:=by rw[Nat.succ_mul]at this;omega):=h
abbrev Lc(h:P:=by intro u hu;obtain⟨x,_,hx⟩:=List.mem_flatMap.1 hu;obtain h:=?_;exact h):=h
abbrev VU(h:P:=by refine lS;exact⟨rfl,H.out.below HC1.out.none,HC1.out.none.mono hB⟩):=h
abbrev VT(h:P:=by rintro r w2 ⟨rfl,h2,hc⟩;refine bj;exact⟨_,rfl,eq _ _,h2,hc⟩):=h
abbrev VR(h:P:=by go_enter func49,ntmps49;refine bj;exact⟨by simp[f1],rfl⟩):=h
abbrev VQ(h:P:=by refine qq;generalize (([JI v0,.slice v1 vl1 vc1]::ys).length)=n at *;refine i9;go_region;obtain h:=?_;exact h):=h
abbrev VP(h:P:=by
 .exact⟨rfl,_,⟨M,N,m,h,b.mono (N':=N) (m':=m) oM⟩,.same rfl rfl⟩):=h
abbrev VO(h:P:=by simp only[Option.some.injEq,Obj.cells.injEq]at hb;exact ht hb.2.1.symm):=h
abbrev VN(h:P:=by simp only[Bool.not_eq_false,Bool.not_eq_true]at h2 h4;obtain⟨_,m1,m2,m3⟩:=may_ok h2 h0;obtain h:=?_;exact h):=h
abbrev VM(h:P:=by obtain⟨p,hp,e1⟩:=List.mem_map.1 a;obtain⟨t,ht,e2⟩:=List.mem_map.1 b;rw[←e1,←e2];obtain h:=?_;exact h):=h
abbrev VL(h:P:=by rw[Je];exact j7 (mF hT1 dM hv1) (hM1.set hMT _) hg2):=h
abbrev nH(h:P:=by have HM:=OH hm;obtain h:=?_;exact h):=h
abbrev nG(h:P:=by have HX:=OH hx;obtain h:=?_;exact h):=h
abbrev nF(h:P:=by have HQ:=OH hq;obtain h:=?_;exact h):=h
abbrev nE(h:P:=by have HC:=OH hc;obtain h:=?_;exact h):=h
abbrev nD(h:P:=by have HV:=OH hv;obtain h:=?_;exact h):=h
abbrev VK(h:P:=by exact⟨bk,bk,HK3.out _ (HMS'.out.chg (S:=af) (by exact bu) id)⟩):=h
abbrev VJ(h:P:=by obtain⟨k,A,cap,l,zs,e,h,hz,hg,hk,hown,hll,hok,hG⟩:=hrel;have H0:=OH h;refine my;obtain h:=?_;exact h):=h
abbrev mi(h:P:=by
 (try clear hHeld0);obtain h:=?_;exact h):=h
abbrev Lb(h:P:=by obtain⟨i0,hi,hz0,hz1,hz2⟩:=aI Tl;obtain h:=?_;exact h):=h
abbrev La(h:P:=by obtain⟨i0,hi,hz0,hz1,hz2⟩:=aI xU;obtain h:=?_;exact h):=h
abbrev zi(h:P:=by refine jp;have hzb:=hb.size;obtain h:=?_;exact h):=h
abbrev VH(h:P:=by have hO2:=dz (o:=.cells #[JU x,JI 4] 185) (aX HO.out hb2);have hz:=hG2.size;obtain h:=?_;exact h):=h
abbrev VG(h:P:=by have hB1:aC w w1:=hB.trans (hc1.below (λj e=>Cl) hB.size);obtain h:=?_;exact h):=h
abbrev K9(h:P:=by unfold fl;split<;>(try split)<;>omega):=h
abbrev K8(h:P:=by rw[hW3];exact du _ _ _ _ hN2):=h
abbrev K7(h:P:=by rw[hW2];exact du _ _ _ _ hN1):=h
abbrev K5(h:P:=by rw[hW1];exact ao _ _ _ rfl):=h
abbrev VF(h:P:=by rw[List.take_add_one,List.getElem?_eq_getElem h];simp[List.getD,h]):=h
abbrev E5(h:P:=by rintro r w1 ⟨c,rfl,hcl,hcut,hb1⟩;obtain h:=?_;exact h):=h
abbrev E3(h:P:=by obtain⟨x,hx,e⟩:=List.mem_map.1 q;obtain h:=?_;exact h):=h
abbrev VD(h:P:=by have hG:=aZ hb rJ (ao w (.cells #[JI 0,JU 0] 132) _ rfl);obtain h:=?_;exact h):=h
abbrev K4(h:P:=by obtain⟨i0,hi,hz0,hz1,hz2⟩:=aI Pr;obtain h:=?_;exact h):=h
abbrev rQ(h:P:=by clear hK K;refine AF;obtain h:=?_;exact h):=h
abbrev K0(h:P:=by refine kz;obtain⟨A,cap,hv⟩:=aj h.wv;obtain h:=?_;exact h):=h
abbrev rP(h:P:=by refine iU;refine oF;obtain h:=?_;exact h):=h
abbrev E0(h:P:=by refine tk 10 ?_;refine rY;go_simp;obtain h:=?_;exact h):=h
abbrev VC(h:P:=by have HG:=OH hg;go_enter func142,ntmps142;refine ay;refine HG.out.mono ?_;obtain h:=?_;exact h):=h
abbrev qh(h:P:=by have HPL:=OH hpl;obtain h:=?_;exact h):=h
abbrev qg(h:P:=by have HST:=OH hst;obtain h:=?_;exact h):=h
abbrev qf(h:P:=by have HPS:=OH hps;obtain h:=?_;exact h):=h
abbrev KZ(h:P:=by rw[hW1];exact du _ _ _ _ hg):=h
abbrev qe(h:P:=by refine AN;omega):=h
abbrev zh(h:P:=by refine bj;exact ql):=h
abbrev zf(h:P:=by refine df;exact gO):=h
abbrev VB(h:P:=by
 obtain⟨_,(⟨e0,_⟩|⟨_,e1,l1,v1,ev1,se1,se2,wt2,T,hx,hg,ht1,ht2,ht3,rfl⟩)⟩:=hd
 .cases e0
 all_goals(obtain h:=?_;exact h)):=h
abbrev VA(h:P:=by
 have he:e=0:=Decidable.byContradiction λq=>by have:=hz q;omega
 subst he;refine MX;obtain h:=?_;exact h):=h
abbrev Vz(h:P:=by have hGd:=ax (.inr hlV16) (Rv.trC t1).toList _ 0 hGd;refine ons 17 (hV16) ⟨bk (jH hcs hV16 hp1),bk (jH hcs hV16 hW1),HLK.out _ hGd⟩ (λhH=>?_);refine bV;refine tk 18 ?_;refine QO ?_;have h16:=aK (Rv.trC t1).toList hV16 rfl;refine dr;exact⟨V16,rfl,rfl,rfl,h16,hGd,hlV16⟩):=h
abbrev gN(h:P:=by refine tk 9 ?_;obtain h:=?_;exact h):=h
abbrev KY(h:P:=by refine⟨⟨bk,bk,HLK.out _ hGd⟩,λhH=>?_⟩;obtain h:=?_;exact h):=h
abbrev Vy(h:P:=by rw[List.find?_cons_of_neg (by simpa using hxy),List.find?_cons_of_neg (by simpa[hp]using hxy)];all_goals(obtain h:=?_;exact h)):=h
abbrev KX(h:P:=by rw[dU _ _ _ _ e,dU _ _ _ _ e];obtain h:=?_;exact h):=h
abbrev Vx(h:P:=by
 have hrf:mW d q.who=rt:=by rw[mW,←hpi0,List.getElem?_eq_getElem hpi,hrt]
 obtain h:=?_;exact h):=h
abbrev KW(h:P:=by refine M8;obtain⟨A3,n3,rfl⟩:=aj hs;obtain h:=?_;exact h):=h
abbrev ze(h:P:=by refine tk 4 ?_;refine tk 5 ?_;obtain h:=?_;exact h):=h
abbrev KV(h:P:=by refine ay;refine(of_t H.out k _ rfl hk).mono ?_;obtain h:=?_;exact h):=h
abbrev EZ(h:P:=by obtain⟨cp,fp,zp⟩:=ab hpb;obtain h:=?_;exact h):=h
abbrev EY(h:P:=by obtain⟨c6,f6,z6'⟩:=ab k6;obtain h:=?_;exact h):=h
abbrev EX(h:P:=by
 .rw[e]
  exact λx hx=>hx):=h
abbrev EW(h:P:=by obtain⟨cW,fW,zW⟩:=ab hW2;obtain h:=?_;exact h):=h
abbrev EV(h:P:=by have hlV:=Nat.le_trans hG2.size hlV;obtain h:=?_;exact h):=h
abbrev Vw(h:P:=by have hB1:aC w w1:=bq gM Ia (hown.alloc _) hgrow1;obtain h:=?_;exact h):=h
abbrev Vv(h:P:=by cases q:dB L x with|none=>rfl|some e=>rw[q]at hs;simp at hs):=h
abbrev Vu(h:P:=by refine ay;refine wY underlying68 ?_ (h1:=aK (qL oh).toList hO4 rfl);obtain h:=?_;exact h):=h
abbrev Vt(h:P:=by refine ay;refine(Hm HC.out 4 r1).mono ?_;rintro r w2 ⟨v2,rfl,hv2,hcut2,hc2⟩;obtain h:=?_;exact h):=h
abbrev KU(h:P:=by have hx:=(h.next hb).ok _ ny;obtain h:=?_;exact h):=h
abbrev Vs(h:P:=by simp only[Bool.and_eq_true,decide_eq_true_eq,List.all_eq_true,List.mem_range]at hk;obtain h:=?_;exact h):=h
abbrev Vr(h:P:=by rw[List.getD_eq_getElem?_getD,List.getElem?_eq_getElem h0];rfl):=h
abbrev Vq(h:P:=by
 refine LE;have hgS:g2≠S:=λh=>by subst h;rw[hs]at hq;simp at hq
 refine nJ;obtain h:=?_;exact h):=h
abbrev Vp(h:P:=by refine Z8;refine mD HE.out (pG ?_);rw[hm.out];rfl):=h
abbrev KT(h:P:=by exact⟨rfl,_,⟨M,N,m,h,t1⟩,t2⟩):=h
abbrev za(h:P:=by apply List.ext_getElem?;intro i;all_goals(obtain h:=?_;exact h)):=h
abbrev Vo(h:P:=by rintro e w' ⟨rfl,hb⟩;exact⟨by rw[List.length_map],hb⟩):=h
abbrev Vn(h:P:=by
 obtain⟨b1,f1⟩:∃b,(e1==0)=b:=⟨_,rfl⟩
 have g1:(e1 !=0)=!b1:=by rw[bne,f1]
 obtain h:=?_;exact h):=h
abbrev Vm(h:P:=by have hG2:=hG.new hc2 hcl;have HO2:=OH (ah HO.out hc2 (eK HC.out dM));obtain h:=?_;exact h):=h
abbrev Vl(h:P:=by obtain⟨v,h1,h2⟩:=h;exact⟨v,h1,h2.mono kn⟩):=h
abbrev yZ(h:P:=by unfold gW;rw[hx];rfl):=h
abbrev Vk(h:P:=by refine MB;obtain⟨b2',y2,l2⟩:=dP b1' r2;simp only[Int.reducePow]at l1 l2;obtain h:=?_;exact h):=h
abbrev Vj(h:P:=by rw[hw]at hv;simp only[List.mem_cons,List.not_mem_nil,or_false]at hv;rcases hv with rfl|rfl;all_goals(obtain h:=?_;exact h)):=h
abbrev Vi(h:P:=by refine lP;have ha:=h.at';have hL1:=h.L1;have hq:=h.q;have hR:=h.r;have hqr:=h.qr;obtain h:=?_;exact h):=h
abbrev EU(h:P:=by exact⟨rfl,ag.none bu⟩):=h
abbrev ET(h:P:=by obtain⟨c8,f8,z8⟩:=ab k8;obtain h:=?_;exact h):=h
abbrev KS(h:P:=by obtain⟨n1,n2,n3⟩:=List.nodup_append.1 h.nd;obtain h:=?_;exact h):=h
abbrev ES(h:P:=by obtain⟨cL,fL,zL⟩:=ab hL;obtain h:=?_;exact h):=h
abbrev ER(h:P:=by have hVl:=Nat.le_trans hw.size hlV;obtain h:=?_;exact h):=h
abbrev EQ(h:P:=by obtain⟨cb,fb,zb⟩:=ab hb;obtain h:=?_;exact h):=h
abbrev EP(h:P:=by have hRl:=Nat.le_trans hw.size hlR;obtain h:=?_;exact h):=h
abbrev EO(h:P:=by obtain⟨k,hk,rfl,hown,hB⟩:=hrel;obtain h:=?_;exact h):=h
abbrev EN(h:P:=by obtain⟨cR,fR,zR⟩:=ab hR;obtain h:=?_;exact h):=h
abbrev KR(h:P:=by go_enter func263,ntmps263;refine ay;obtain h:=?_;exact h):=h
abbrev KQ(h:P:=by refine zK;exact⟨a,b,λq=>eH (d q) rfl rfl rfl,e⟩):=h
abbrev Vh(h:P:=by obtain⟨k,A,cap,xs,zs,e,rfl,hk,h,hown,hG⟩:=hrel;have H0:=OH h;refine my;obtain h:=?_;exact h):=h
abbrev Vg(h:P:=by refine rV;refine ay;refine(I3.out _ HC1.out).mono ?_;rintro e w3 ⟨rfl,rfl⟩;obtain h:=?_;exact h):=h
abbrev Vf(h:P:=by obtain⟨a,b,rfl,rfl,hab,hbl,h1,h2,hB⟩:=hrel;refine An;have yB:=hB.size;by_cases hlt:a<b;all_goals(obtain h:=?_;exact h)):=h
abbrev uP(h:P:=by
 .exact⟨h.c,rfl⟩):=h
abbrev Ve(h:P:=by rw[List.getD_eq_getElem?_getD,List.getElem?_eq_getElem hlt,Option.getD_some]at hc;subst hA;all_goals(obtain h:=?_;exact h)):=h
abbrev Vd(h:P:=by refine dr;go_split_ands;exact⟨dJ,dJ,dJ,dJ,gM⟩):=h
abbrev KP(h:P:=by have hab2:a=b:=oM;subst hab2;by_cases hk:a<l.length;all_goals(obtain h:=?_;exact h)):=h
abbrev Vc(h:P:=by rw[h1]at i1;go_enter func253,ntmps253;refine ay;refine(i1 _).mono ?_;obtain h:=?_;exact h):=h
abbrev Vb(h:P:=by refine ME;refine eP;refine Fe;refine ay;refine(HP.out _ hG0.none).mono ?_;obtain h:=?_;exact h):=h
abbrev uO(h:P:=by refine(I2.out _).mono ?_;obtain h:=?_;exact h):=h
abbrev KO(h:P:=by obtain⟨vp,vt,vs,A0,cap0,BD,c1,c2,c3⟩:=h.c;obtain h:=?_;exact h):=h
abbrev uN(h:P:=by refine Ak;refine bV;obtain h:=?_;exact h):=h
abbrev uM(h:P:=by refine eP;refine FL;obtain h:=?_;exact h):=h
abbrev Va(h:P:=by rw[hq,List.length_append];exact aU hown1 hT3 dM):=h
abbrev U9(h:P:=by
 obtain⟨a,cur,hq⟩:=HB.out.tq x.sh hs;rcases e with e|e
 .subst e
  exact hM _ hj _ _ hq.q
 all_goals(obtain h:=?_;exact h)):=h
abbrev U8(h:P:=by refine qy;rintro r w3 ⟨rfl,he3,hc3⟩;have H3:=OH (H2.out.evt hc3 he3);obtain h:=?_;exact h):=h
abbrev U7(h:P:=by rw[List.filter_eq_self];intro a ha;obtain⟨j,hj,rfl⟩:=List.getElem_of_mem ha;obtain h:=?_;exact h):=h
abbrev U6(h:P:=by refine uT;subst hw4;refine hK.out _ _ H.out.drew.sw (λhH=>?_);refine qE;obtain h:=?_;exact h):=h
abbrev U5(h:P:=by subst hi;refine bI;refine AM;have h3:=h.n1;obtain⟨a,cur,hq⟩:=h.tq k hk;obtain h:=?_;exact h):=h
abbrev U4(h:P:=by have I4:=OH (λW (hb:ag af w1 W)=>i4 W (HC1.out.trans hb));clear i4 g4;refine Vg;refine ay;refine rg 6 (λw'=>Bk w' X (gi c (.slice A1 d.people.length n1) (.slice (aT g) ks.length n2) (.slice A3 d.subs.length n3)) 42/\Bk w' w.heap.size (fq q A cap) 50/\ag af w1 w') ⟨bk,bk,bu⟩ (λhHeld0=>?_);refine uZ;refine(I4.out _ aM).mono ?_;refine uS;refine Ii;refine bV;refine eY;refine rU;have hc5:ag af w1 w5:=aM;all_goals(obtain h:=?_;exact h)):=h
abbrev U3(h:P:=by simp only[List.getElem?_cons_zero,List.getElem?_cons_succ,Nat.add_zero]at d0 d1 d2 d3 d4;all_goals(obtain h:=?_;exact h)):=h
abbrev U2(h:P:=by refine wY underlying113 ?_ (h1:=aK (kO (gE 0)).toList hG8 rfl);obtain h:=?_;exact h):=h
abbrev EM(h:P:=by go_simp;refine(HTK.out _).mono ?_;obtain h:=?_;exact h):=h
abbrev EL(h:P:=by have HOW:=OH hown;clear hown;obtain h:=?_;exact h):=h
abbrev EK(h:P:=by refine ay;refine HST.out.mono ?_;obtain h:=?_;exact h):=h
abbrev EJ(h:P:=by refine U7;simp[h j hj]):=h
abbrev U1(h:P:=by have HBS:=OH hbs;have HDD:=OH hd;have HG4:=OH (HG3.out.next hb4);obtain h:=?_;exact h):=h
abbrev U0(h:P:=by
 simp only[Option.map_some,List.length_cons]
 congr 4
 omega):=h
abbrev UZ(h:P:=by refine qd;refine sD;refine(HSS.out _ uk).mono ?_;refine uS;refine Ii;all_goals(obtain h:=?_;exact h)):=h
abbrev yY(h:P:=by go_upto_region 11 with fail;obtain h:=?_;exact h):=h
abbrev KN(h:P:=by simp only[ou,Po,hn,Option.map_some]at hW;obtain h:=?_;exact h):=h
abbrev UY(h:P:=by simp only[Option.isSome_none,Bool.false_eq_true,false_iff,not_and,not_exists];obtain h:=?_;exact h):=h
abbrev yX(h:P:=by go_upto_region 13 with fail;obtain h:=?_;exact h):=h
abbrev UX(h:P:=by refine(read_t (n:=nn) hnn (HB3.out.chg hw iF) HBB3.out hl3).mono ?_;obtain h:=?_;exact h):=h
abbrev UW(h:P:=by have e1:pF (e::L) x a=(if e.id=x then⟨x,a,true⟩ else e)::pF L x a:=rfl;obtain h:=?_;exact h):=h
abbrev yW(h:P:=by have hW:=ae hc0 hW id;obtain h:=?_;exact h):=h
abbrev UV(h:P:=by
 refine ay;go_loop [5,14] (λa i=>a=JU 0/\i=JI 0) (λ_ _=>0);case atStart=>exact gO
 case round=>obtain h:=?round;exact h):=h
abbrev qd(h:P:=by
 refine qU;refine on 7 λK hK=>?_
 go_simp;obtain h:=?_;exact h):=h
abbrev UU(h:P:=by go_enter func182,ntmps182;refine ay;refine(O9 (hr.out)).mono ?_;obtain h:=?_;exact h):=h
abbrev UT(h:P:=by obtain⟨k,hk,rfl,hEk,hck⟩:=hrel;have HEK:=OH hEk;have HCK:=OH hck;obtain h:=?_;exact h):=h
abbrev US(h:P:=by generalize World.setCell w3 _ _=wr at *;have HES:=HE1;generalize es1=es at *;refine Zz;all_goals(obtain h:=?_;exact h)):=h
abbrev EI(h:P:=by rcases List.mem_append.1 hp with q|q;all_goals(obtain h:=?_;exact h)):=h
abbrev rO(h:P:=by by_cases hlt:k<l.length;all_goals(obtain h:=?_;exact h)):=h
abbrev EH(h:P:=by rcases List.mem_append.1 hx with q|q;all_goals(obtain h:=?_;exact h)):=h
abbrev UR(h:P:=by obtain⟨g,off,cur,rfl,kg,hcl⟩:=HJ.out.cell oM;obtain⟨v0,cg0⟩:=hcl k oM;obtain h:=?_;exact h):=h
abbrev UQ(h:P:=by go_enter func205,ntmps205;refine ay;refine(GI hr.out).mono ?_;obtain h:=?_;exact h):=h
abbrev UP(h:P:=by refine Fm;refine rZ;refine bj;exact⟨rfl,hb1⟩):=h
abbrev rN(h:P:=by have HOK:=OH hok;obtain h:=?_;exact h):=h
abbrev rL(h:P:=by have HKL:=OH hkl;obtain h:=?_;exact h):=h
abbrev UO(h:P:=by simp only[Nat.add_zero,List.getElem?_cons_zero,List.getElem?_cons_succ]at d0 d1 d2 d3;all_goals(obtain h:=?_;exact h)):=h
abbrev UN(h:P:=by simp only[List.getElem?_cons_zero,List.getElem?_cons_succ,Nat.add_zero]at d0 d1 d2 d3;all_goals(obtain h:=?_;exact h)):=h
abbrev rK(h:P:=by refine nL;clear hp;obtain h:=?_;exact h):=h
abbrev EG(h:P:=by
 refine on 4 λK hK=>?_
 go_simp;obtain h:=?_;exact h):=h
abbrev EF(h:P:=by have hZ5:w5.heap[w.heap.size]?=OC (fq q A cap) 50:=aM;have HC5:=OH hc5;obtain h:=?_;exact h):=h
abbrev EE(h:P:=by refine Ab;have hzb2:=hb2.size;obtain h:=?_;exact h):=h
abbrev UM(h:P:=by
 rw[if_neg e];have hne:(Lit.int q y)≠(.int q x):=λh=>e (by cases h;rfl)
 obtain h:=?_;exact h):=h
abbrev ED(h:P:=by refine ay;refine HC.out.mono ?_;obtain h:=?_;exact h):=h
abbrev UL(h:P:=by exact cj (av 1 _ hT1) (hM1.set hMT _) hg2):=h
abbrev UK(h:P:=by
 have:z.c.ps=[]:=by simpa using h.ps
 simp[this,hp1,hp2,e1,ht1]):=h
abbrev UJ(h:P:=by exact⟨hid.1,hid.2,gY,gY⟩):=h
abbrev UI(h:P:=by cases h;exact⟨h0,hb,Nat.le_refl _,λq=>absurd q dM⟩):=h
abbrev UH(h:P:=by simp only[Prod.mk.injEq]at hs;exact absurd hs.2.symm hc):=h
abbrev UG(h:P:=by rintro r w' ⟨rfl,hb⟩;exact⟨rfl,h0.none (.of hb)⟩):=h
end Go.Proofs.YtnpancjkjheffaaGreat
