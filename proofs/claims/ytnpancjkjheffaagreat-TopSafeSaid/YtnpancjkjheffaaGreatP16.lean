/- Part 18 of the proof of TopSafe. No condition. -/
import Derived.Test.YtnpancjkjheffaaGreatP15
namespace Go.Proofs.YtnpancjkjheffaaGreat
set_option linter.unusedVariables false
set_option linter.unusedSimpArgs false
set_option maxRecDepth 100000
set_option maxHeartbeats 8000000
open Go.RowKit
open Go.Proofs.Tryz
open _root_.Nat renaming le_trans->PI,lt_of_lt_of_le->Xa0,le_refl->Xa1
open _root_.List renaming all_eq_true->Xa2,length_map->Xa3,mem_singleton->Xa4,mem_filter->Xa5
open Obj renaming map->Xa6,cells->Xa7
open Value renaming int->Xa8
open _root_.Bool renaming and_eq_true->Xa9
variable {c:Array Value}{ep ever live:Int}{acks:List (Int×Int)}{ts:List (TypeId×Nat×Nat)}{last:List Int}{ms ns:List Nat}{ws:List Pw}{se:List Se}{l:List Sl}{wt:List Wt}{B B' BP C LA LP N P QA RA T b cap g m n room:Nat}{tabs:Nat->List Value}{q r:Nat->Nat}{M S:Nat->Prop}{A:Option Addr}{rq:Rq}{k t:TypeId}{w w':World}
theorem u32_wf{x:Int}(h:OI .u32 x):0<=x/\x<=4294967295:=by have h2:(Lit.int .u32 x).wf=true:=h;simp only[Lit.wf,Xa9,decide_eq_true_eq]at h2;exact h2
section
variable {w w' u wr:World}{N:Nat}{M:Nat->Prop}{K:Kw}{x x':Wk}{j:Jb}
theorem del_cm(L:List (Int×Rv.Tr))(s:Int):uz (cmL L) s=cmL (L.filter λp=>decide (p.1≠s)):=by unfold uz;rw[List.filter_map];rfl
theorem CV{L:List (Int×Value)}(h:bH w prog 52 (Xa8 .u32) (OI .u32) b L):gk (λi=>i=b) t w:=λi cur e q=>h.ne q e.symm
theorem aL.inst{L:List (Int×Rv.Tr)}(h:aL w N M K x)(hL:∀p∈L,p∈x.came)(hc:ag (λi=>i=x.cm) w wr)(hm:bH wr prog 52 (Xa8 .u32) (OI .u32) x.cm (cmL L))(hs:ag (λi=>i=x.W) wr w')(hb:w'.heap[x.W]?=OC (ou K {x with tb:=x.nx,came:=L}) 164):aL w' N M K {x with tb:=x.nx,came:=L}:=by
 have hS:∀i,(i=x.cm\/i=x.W)->x.own i:=λi e=>e.elim (λe=> .inr (.inr (.inr (.inl e)))) .inl
 have hT:ag (λi=>i=x.cm\/i=x.W) w w':=(hc.mono λ_ _ e=> .inl e).trans (hs.mono λ_ _ e=> .inr e);refine fK;have hne:∀ {i:Nat} {c:Array Value} {t:TypeId},w.heap[i]?=OC c t->t≠164->¬(i=x.cm\/i=x.W):=λq ht e=>e.elim (λe=>h.cm.ne q e.symm) (h.nW q ht)
 exact⟨hb,⟨a,cur,hq.kept hT (hne hq.q dM) (hne hq.r dM)⟩,h.pk' hS hT,h.tb' hS hT h.nx,h.tb' hS hT h.nx,h.jb' hS hT (λj hj=>⟨hne (h.now j hj).jb dM,λg hg=>(λ⟨_,_,_,k⟩=>hne k dM) ((h.now j hj).v.block hg)⟩),hm.chg hs (λe=>hm.ne (ae hc h.wb (λe=>h.cm.ne h.wb e.symm)) e),λp hp=>h.cb p (hL p hp),h.am.chg hT (λe=>e.elim (λe=>h.ne e.symm) (λe=>h.am.ne h.wb e)),h.ne,h.sh,h.mo' hT λi q=> .inl q⟩
def InsJ(w:World)(x:Wk)(r:Nat)(wr:World):Prop:=∃ (L:List (Int×Rv.Tr)) (S:List Int),(∀p∈L,p∈x.came)/\fm wr prog 52 (Xa8 .u32) (OI .u32) x.cm r (cmL L) S/\ag (λi=>i=x.cm) w wr
theorem Cu(h:aL w N M K x)(hp:br w BP K.P LP ws wt)(hM:¬M LP)(hs:x.sh<ws.length)(hep:ws[x.sh].at'<=gw x.nx) :
  az 105 #[OV x.W] w λe w'=>e=aA (.tuple #[])/\∃L,(∀p∈L,p∈x.came)/\aL w' N M K {x with tb:=x.nx,came:=L}/\br w' BP K.P LP (ws.set x.sh ⟨gw x.nx,ws[x.sh].sees,ws[x.sh].looks⟩) wt/\ag (λi=>x.own i\/i=LP) w w':=by
 refine rS;have hW:=h.wb;obtain⟨o,hrun,hI⟩:=fm.made h.cm underlying160;have HI:=OH hI;have hncm:=λ(W:World) (hc:ag (λi=>i=x.cm) w W)=>ae hc hW (λe=>h.cm.ne hW e.symm)
 have HN:=OH hncm;refine eP;have hlt:=h.cm.lt;go_enter func105,ntmps105;refine ay;have hGo:ag (λi=>i=x.cm) w (w.alloc o):=bu;go_loopw [2,3,4,5,6] (λ_ _ _ _ _ wr=>InsJ w x w.heap.size wr) (λ_ _ _ _ _ wr=>ik wr w.heap.size);case atStart=>exact⟨x.came,[],λ_ q=>q,HI.out,hGo⟩
 case round=>
  obtain⟨L,S,hL,hI,hc⟩:=hrel;have hW1:=HN.out _ hc;have HL:=OH hL;refine nE;have HX:=OH (H.out.tb' (S:=λi=>i=x.cm) (λi e=> .inr (.inr (.inr (.inl e)))) hc H.out.tb);have HXN:=OH (H.out.tb' (S:=λi=>i=x.cm) (λi e=> .inr (.inr (.inr (.inl e)))) hc H.out.nx);refine zH;rcases hI.next lY.inj 0 with⟨hall,hnx⟩|⟨p,hp,hpS,w1,hnx,hI1,hc1,hz1,hlt1,hen⟩
  .refine jo
   have hs2:ag (λi=>i=x.W) wr (wr.setCell ⟨x.W,5,none⟩ (nA x.nx)):=bu;have hW2:(wr.setCell ⟨x.W,5,none⟩ (nA x.nx)).heap[x.W]?=OC (ou K {x with tb:=x.nx,came:=L}) 164:=bZ;have hX2:=H.out.inst (L:=L) HL.out HC.out hI.m hs2 hW2;have hP2:=(HP.out.chg HC.out (CV H.out.cm) (CV H.out.cm) (CV H.out.cm)).chg hs2 uI uI uI;have HC2:=OH ((HC.out.mono λi _ e=> .inl (.inr (.inr (.inr (.inl e)))):ag (λi=>x.own i\/i=LP) w wr).trans (hs2.mono λi _ e=> .inl (.inl e)));have HX2:=OH hX2;have HP2:=OH hP2;generalize wr.setCell _ _=u at *;have hGd:=ag.refl af u;refine rl 14 (λw'=>Bk w' x.W (ou K {x with tb:=x.nx,came:=L}) 164) (λw0_ hc0=>?_);have hW2:=ae hc0 hW2 id;refine AE;refine Lt;refine(oO (HX2.out.tb.below hGd.none)).mono ?_;rintro r w1_ ⟨rfl,hww1_⟩;subst hww1_;have hc1:ag af w0_ w0_:=ag.refl _ _;have hW2:=ae hc1 hW2 id;have hGd:=ag.trans hGd hc1;refine sA;refine oL;refine(Jc (HP2.out.below hGd.none) x.sh x.sh _ rfl hs hep).mono ?_;rintro r w9 ⟨rfl,hP9,hc9⟩;refine hK.out _ _ ?_;have HX9:=(HX2.out.below hGd.none).else (HP2.out.below hGd.none).l hM hc9;refine dg;exact⟨rfl,L,HL.out,HX9,hP9,(HC2.out.trans (hGd.mono λ_ _ q=>q.elim)).trans (hc9.mono λi _ e=> .inr e)⟩
  .have hcw:=HC.out.call hc1 (λi hi e=>oM)
   have hb1:=u32_wf (hI.m.ok p hp);have HT:=OH (λ(t:Option Tb) (ht:gj w M t) (W:World) (hb:aC w1 W)=>sJ ((H.out.tb' (S:=λi=>i=x.cm) (λi e=> .inr (.inr (.inr (.inl e)))) hcw ht).below hb) p.1 hb1.1 hb1.2);have HI1:=OH hI1;have HPM:=OH hp;have HCW:=OH hcw;have hW2:=HN.out _ hcw;refine EW;obtain⟨a,ha⟩:∃a,(dQ x.tb p.1).getD NX=a:=⟨_,rfl⟩
   obtain⟨c,hc⟩:∃c,(dQ x.nx p.1).getD NX=c:=⟨_,rfl⟩
   obtain⟨is,his⟩:∃c,(dQ x.nx p.1).isSome=c:=⟨_,rfl⟩
   have t1:=HT.out x.tb H.out.tb;have t2:=HT.out x.nx H.out.nx;rw[ha]at t1;rw[hc,his]at t2;have T1:=OH t1;have T2:=OH t2;refine ay;refine(T1.out _ yN).mono ?_;rintro r w3 ⟨rfl,hb3⟩;have hW3:=ae (.of hb3:ag af w1 w3) hW2 id;refine qw;refine i9;have hc3:ag af w1 (w3.alloc (.cells (kE a).toArray 203)):=ag.alloc (.of hb3) _;have hA3:(w3.alloc (.cells (kE a).toArray 203)).heap[w3.heap.size]?=OC (kE a).toArray 203:=bZ;have hW4:=ae hc3 hW2 id;have HC3:=OH hc3;generalize w3.alloc _=u3 at *;generalize w3.heap.size=A at *;obtain⟨cW,fW,zW⟩:=ab hW4;refine ay;refine(T2.out _ HC3.out.none).mono ?_;rintro r w4 ⟨rfl,hb4⟩;have hc4:ag af u3 (w4.alloc (.cells (kE c).toArray 203)):=ag.alloc (.of hb4) _;have hC4:(w4.alloc (.cells (kE c).toArray 203)).heap[w4.heap.size]?=OC (kE c).toArray 203:=bZ;refine gq;have hA4:=ae hc4 hA3 id;have hW5:=ae hc4 hW4 id;have HC4:=OH (HC3.out.trans hc4);generalize w4.alloc _=u4 at *;generalize w4.heap.size=C at *;obtain⟨cW,fW,zW⟩:=ab hW5;obtain⟨cA,fA,zA⟩:=ab hA4;obtain⟨cC,fC,zC⟩:=ab hC4;have hIu:=HI1.out.chg (T:=af) HC4.out id id;have hle:=lG (HC4.out.block _ HI1.out.lt.2.1 id) HI1.out (HC4.out.block _ HI1.out.lt.1 id);obtain⟨u5,hrun,hI5,hc5,hz5,hl5⟩:=hIu.run_del lY underlying160 (HI1.out.m.ok p HPM.out) 0;rw[del_cm]at hI5;have hkeep:InsJ w x w.heap.size u4:=⟨L,_,HL.out,hIu,HCW.out.trans (HC4.out.mono λ_ _ q=>q.elim)⟩
   have hdel:InsJ w x w.heap.size u5:=⟨_,_,λq hq=>HL.out q (Xa5.1 hq).1,hI5,(HCW.out.trans (HC4.out.mono λ_ _ q=>q.elim)).trans hc5⟩
   have HKP:=OH hkeep;have HDL:=OH hdel;have HM1:=OH (show ik u4 w.heap.size<ik wr w.heap.size by omega);have HM2:=OH (show ik u5 w.heap.size<ik wr w.heap.size by omega);cases is;all_goals
    go_wp2_with fail;all_goals
     go_roundw;case rel=>first|exact HDL.out|exact HKP.out
     case measure=>first|exact HM2.out|exact HM1.out
end
section
variable {B P QA RA LA n room:Nat}{q r:Nat->Nat}{tabs:Nat->List Value}{acks:List (Int×Int)}{last:List Int}{w w':World}{N:Nat}{M:Nat->Prop}{K:Kw}{x:Wk}
theorem aH.keep(h:aH w B P QA RA LA n q r room tabs acks last)(hc:ag S w w')(h1:gk S 136 w)(h2:gk S 229 w)(h3:gk S 132 w)(h4:¬S LA)(h5:gk S 232 w)(h6:gk S 139 w)(h7:gk S 137 w):aH w' B P QA RA LA n q r room tabs acks last:=by
 obtain⟨v,hp,_⟩:=h.p;obtain⟨a,cur,hq⟩:=h.ak;exact h.kept hc (λk=>h1 _ _ k hp) (λk=>h2 _ _ k hq.q) (λk=>h3 _ _ k hq.r) h4 (λi hi=>by obtain⟨a,cur,hq⟩:=h.tq i hi;exact⟨λk=>h5 _ _ k hq.q,λk=>h6 _ _ k hq.r⟩) h7
theorem aL.apart(h:aL w N M K x)(hc:ag S w w')(hS:∀j,S j->∃c t,w.heap[j]?=OC c t/\([164,246,157,219,224,279,52,287,5].all λu=>u !=t)=true)(hM:∀j,M j->¬S j):aL w' N M K x:=by
 have ho:∀t,([164,246,157,219,224,279,52,287,5].any λu=>u==t)=true->gk S t w:=λt ht j cur hj e=>by obtain⟨c,u,k,hu⟩:=hS j hj;rw[k]at e;simp only[Option.some.injEq,Xa7.injEq]at e;obtain⟨_,rfl,_⟩:=e;exact Yo
 refine h.kept hc (λj hj hs=>?_) (ho _ dM) (λj hj _=>hM j hj) (ho _ dM) (ho _ dM) (ho 5 dM);obtain⟨c,u,k,hu⟩:=hS j hs;rcases h.own_type hj k with e|e|e|e|e<;> · subst e;exact absurd hu dM
theorem aL.phs{t:Option Tb}{p:Int}(h:aL w N M K x)(ht:gj w M t)(hc:ag (λi=>i=x.W) w w')(hb:w'.heap[x.W]?=OC (ou K {x with nx:=t,ph:=p}) 164):aL w' N M K {x with nx:=t,ph:=p}:=by refine Fk;refine fK;exact⟨hb,QW,h.pk' hS hc,h.tb' hS hc h.tb,h.tb' hS hc ht,h.jb' hS hc (λj hj=>⟨h.nW (h.now j hj).jb dM,λg hg=>(λ⟨_,_,_,k⟩=>h.nW k dM) ((h.now j hj).v.block hg)⟩),h.cm.chg hc (λe=>h.cm.ne h.wb e),h.cb,h.am.chg hc (λe=>h.am.ne h.wb e),h.ne,h.sh,h.mo' hc λi q=> .inl q⟩
theorem nqr{k:Nat}(hg:w.heap[g]?=OC c t)(hB:aH w B P QA RA LA n q r room tabs acks last)(hk:k<n)(ht:t≠232/\t≠139:=by decide):¬(g=q k\/g=r k):=λe=>by obtain⟨a,cur,hq⟩:=hB.tq k hk;exact Xd
theorem nak(hg:w.heap[g]?=OC c t)(hB:aH w B P QA RA LA n q r room tabs acks last)(ht:t≠229/\t≠132:=by decide):¬(g=QA\/g=RA):=λe=>by obtain⟨a,cur,hq⟩:=hB.ak;exact Xd
theorem off_qr{k:Nat}(hB:aH w B P QA RA LA n q r room tabs acks last)(hk:k<n)(ht:t≠232/\t≠139:=by decide):gk (λj=>j=q k\/j=r k) t w:=λj cur e k'=>nqr k' hB hk ht e
theorem Ny(h:aL w N M K x)(hp:x.ph=0)(hB:aH w B K.B QA RA LA n q r room tabs acks last)(hs:x.sh<n)(ht:tabs x.sh=[]):az 63 #[OV x.W] w λe w'=>e=aA (.tuple #[])/\aC w w':=by refine Lm;refine Fh;refine gq;refine ZQ;refine kB;refine(D7 (HB.out.below hGd.none) x.sh x.sh rfl hs ht).mono ?_;rintro r w1_ ⟨rfl,hbw1_⟩;refine Af;have hW:=ae hc1 hW id;have hGd:=ag.trans hGd hc1;refine sA;refine nK;refine nS;refine QO ?_;refine dg;exact⟨rfl,hGd.none⟩
theorem Nx{t:Option Tb}{xs:List Value}(h:aL w N M K x)(hp:x.ph=0)(hB:aH w B K.B QA RA LA n q r room tabs acks last)(hs:x.sh<n)(ht:tabs x.sh=nA t::xs)(hT:gj w M t)(hM:∀j,M j->∀c t,w.heap[j]?≠OC c t):az 63 #[OV x.W] w λe w'=>e=aA (.tuple #[])/\aL w' N M K {x with nx:=t,ph:=1}/\aH w' B K.B QA RA LA n q r room (jw tabs x.sh xs) acks last/\ag (λj=>x.own j\/j=q x.sh\/j=r x.sh) w w':=by
 refine Lm;refine bI;clear h hB;refine Fh;refine gq;clear cW fW zW;refine ZQ;refine kB;refine(D6 (HB.out.below hGd.none) x.sh x.sh rfl hs _ xs ht).mono ?_;rintro r w1_ ⟨rfl,hB2,hc2⟩;have hW:=ae hc2 hW (nqr hW (HB.out.below hGd.none) hs);refine qT;refine nK;refine nS;refine QO ?_;have HX:=OH ((H.out.below hGd.none).apart hc2 (λj e=>by
  obtain⟨a,cur,hq⟩:=(HB.out.below hGd.none).tq x.sh hs;rcases e with e|e
  .subst e
   exact⟨_,_,hq.q,rfl⟩
  .subst e
   exact⟨_,_,hq.r,rfl⟩) (λj hj e=>by
  refine U9
  .subst e
   exact hM _ hj _ _ hq.r))
 have HT:=OH ((hT.below hGd.none).kept hc2 (off_qr (HB.out.below hGd.none) hs) λj hj _ e=>by
  refine U9
  .subst e
   exact hM _ hj _ _ hq.r)
 have HB2:=OH hB2;have HC:=OH ((hGd.mono λ_ _ q=>q.elim:ag (λj=>x.own j\/j=q x.sh\/j=r x.sh) w w0_).trans (hc2.mono λ_ _ e=> .inr e));clear hB2 hc2 hGd hc0 hH HB H;generalize w1_=v at *;refine eP;refine dg;have hc:ag (λi=>i=x.W) v ((v.setCell ⟨x.W,7,none⟩ (nA t)).setCell ⟨x.W,8,none⟩ (JI 1)):=bu;have hb:((v.setCell ⟨x.W,7,none⟩ (nA t)).setCell ⟨x.W,8,none⟩ (JI 1)).heap[x.W]?=OC (ou K {x with nx:=t,ph:=1}) 164:=bZ;exact⟨rfl,HX.out.phs HT.out hc hb,HB2.out.keep hc od od od (λe=>au hW (show(164:TypeId)≠47 by decide) (e ▸ HB2.out.la)) od od od,HC.out.trans (hc.mono λi _ e=> .inl (.inl e))⟩
theorem Nw(h:aL w N M K x)(hp1:x.ph=1)(hp:br w BP K.P LP ws wt)(hM:¬M LP)(hs:x.sh<ws.length)(hep:ws[x.sh].at'<=gw x.nx) :
  az 63 #[OV x.W] w λe w'=>e=aA (.tuple #[])/\∃L,(∀p∈L,p∈x.came)/\aL w' N M K {x with tb:=x.nx,came:=L,ph:=2}/\br w' BP K.P LP (ws.set x.sh ⟨gw x.nx,ws[x.sh].sees,ws[x.sh].looks⟩) wt/\ag (λi=>x.own i\/i=LP) w w':=by
 have hin:=Cu h hp hM hs hep;have HI:=OH hin;have hW:=h.wb;simp only[ou,hp1]at hW;refine Fh;refine ay;refine HI.out.mono ?_;rintro r' w2 ⟨rfl,L,hL,hx,hp2,hc2⟩;have hW2:w2.heap[x.W]?=OC (ou K {x with tb:=x.nx,came:=L}) 164:=hx.wb;refine nG;have HP2:=OH hp2;have HC2:=OH hc2;refine EW;refine dg;have hc:ag (λi=>i=x.W) w2 (w2.setCell ⟨x.W,8,none⟩ (JI 2)):=bu;have hb:(w2.setCell ⟨x.W,8,none⟩ (JI 2)).heap[x.W]?=OC (ou K {x with tb:=x.nx,came:=L,ph:=2}) 164:=bZ;exact⟨rfl,L,hL,HX.out.phs (t:=x.nx) (p:=2) HX.out.nx hc hb,HP2.out.chg hc (aJ hW2 dM) (aJ hW2 dM) (aJ hW2 dM),HC2.out.trans (hc.mono λi _ e=> .inl (.inl e))⟩
theorem Nv(h:aL w N M K x)(hp:x.ph=2)(hB:aH w B K.B QA RA LA n q r room tabs acks last)(hs:x.sh<n)(hM:∀j,M j->∀c t,w.heap[j]?≠OC c t):az 63 #[OV x.W] w λe w'=>e=aA (.tuple #[])/\∃acks' p,((acks.length<n*room/\p=0/\acks'=acks++ [((x.sh:Int),gw x.tb)])\/(acks.length=n*room/\p=2/\acks'=acks))/\aL w' N M K {x with ph:=p}/\aH w' B K.B QA RA LA n q r room tabs acks' last/\ag (λj=>x.own j\/j=QA\/j=RA) w w':=by
 refine Lm;refine bI;obtain⟨aa,acur,haq⟩:=hB.ak;have hle:=haq.le;rw[Xa3]at hle;clear h hB;refine Fh;rcases Nat.lt_or_ge acks.length (n*room)with hf|hf
 .refine jO
  clear cW fW zW;refine zq89;refine(back_t (HB.out.below hGd.none) x.sh x.sh _ rfl hs hf).mono ?_;rintro r' w2_ ⟨rfl,hB2,hc2⟩;have hW:=ae hc2 hW (nak hW (HB.out.below hGd.none));refine qT;refine eY;have HX:=OH ((H.out.below hGd.none).apart hc2 (λj e=>by
   obtain⟨a,cur,hq⟩:=(HB.out.below hGd.none).ak;rcases e with e|e
   .subst e
    exact⟨_,_,hq.q,rfl⟩
   .subst e
    exact⟨_,_,hq.r,rfl⟩) (λj hj e=>by
   rcases e with e|e
   .subst e
    exact hM _ hj _ _ haq.q
   .subst e
    exact hM _ hj _ _ haq.r))
  have HB2:=OH hB2;have HC:=OH ((hGd.mono λ_ _ q=>q.elim:ag (λj=>x.own j\/j=QA\/j=RA) w w0_).trans (hc2.mono λ_ _ e=> .inr e));clear hB2 hc2 hGd hc0 hH HB H haq;generalize w2_=v at *;refine eP;refine dg;have hc:ag (λi=>i=x.W) v (v.setCell ⟨x.W,8,none⟩ (JI 0)):=bu;have hb:(v.setCell ⟨x.W,8,none⟩ (JI 0)).heap[x.W]?=OC (ou K {x with nx:=x.nx,ph:=0}) 164:=bZ;exact⟨rfl,_,0,.inl ⟨hf,rfl,rfl⟩,HX.out.phs HX.out.nx hc hb,HB2.out.keep hc od od od (λe=>au hW (show(164:TypeId)≠47 by decide) (e ▸ HB2.out.la)) od od od,HC.out.trans (hc.mono λi _ e=> .inl (.inl e))⟩
 .have hf2:acks.length=n*room:=oM
  refine jO;clear cW fW zW hf;refine zq89;refine(JQ (HB.out.below hGd.none) x.sh x.sh _ rfl hs hf2).mono ?_;rintro r' w2_ ⟨rfl,hbw2_⟩;have hc2:ag af _ w2_:=.of hbw2_;have hW:=ae hc2 hW id;have hGd:=ag.trans hGd hc2;refine qT;refine eY;refine dg;have e:({x with ph:=2}:Wk)=x:=by rw[←hp]
  exact⟨rfl,_,2,.inr ⟨hf2,rfl,rfl⟩,by rw[e];exact H.out.below hGd.none,HB.out.below hGd.none,hGd.mono λ_ _ q=>q.elim⟩
theorem wnew_t{A:Nat}(sh room:Nat)(s k:Int)(hs:s=sh)(hk:k=room)(h4:sh<4)(h0:1<=room)(h1:room<=4096)(hM:∀j,M j->j<w.heap.size):az 22 #[JI s,JI k,OV A,OV P,OV B'] w λe w'=>∃x:Wk,e=aA (OV x.W)/\aL w' 0 M ⟨A,P,B'⟩ x/\(x.sh=sh/\x.L=room/\x.pk=[]/\x.tb=none/\x.now=none/\x.nx=none/\x.ph=0/\x.came=[]/\x.asked=[]/\x.c4=0)/\(∀j,x.own j->w.heap.size<=j)/\aC w w':=by
 subst hs hk;refine oN;have e1:decide ((sh:Int)<0)=false:=by first|(simp;done)|(simp;omega)
 have e2:decide ((4:Int)<=(sh:Int))=false:=by first|(simp;done)|(simp;omega)
 go_enter func22,ntmps22;refine ay;refine(Sp room room rfl h0 h1 _).mono ?_;rintro r' w2 ⟨Q,R,cur,rfl,hq,hQ,hR,hb2⟩;refine bj;have hc:ag af w2 (((w2.alloc (Xa6 #[] 0)).alloc (Xa6 #[] 0)).alloc (.cells (ou ⟨A,P,B'⟩ ⟨w2.heap.size+1+1,sh,Q,R,room,[],none,none,none,0,w2.heap.size,w2.heap.size+1,[],[],0,0,0,0,0⟩) 164)):=bu;have hm1:=bH.made w2 prog 52 (Xa8 .u32) (OI .u32);have hm2:=bH.made (w2.alloc (Xa6 #[] 0)) prog 52 (Xa8 .u32) (OI .u32);have hz2:=hb2.size;have hz:(w2.alloc (Xa6 #[] 0)).heap.size=w2.heap.size+1:=sM;rw[hz]at hm2;refine⟨⟨w2.heap.size+1+1,sh,Q,R,room,[],none,none,none,0,w2.heap.size,w2.heap.size+1,[],[],0,0,0,0,0⟩,rfl,⟨bZ,⟨0,cur,hq.kept hc id id⟩,sM,(λ_ e=>qR),(λ_ e=>qR),(λ_ e=>qR),(hm1.below (show Below _ _ (((w2.alloc (Xa6 #[] 0)).alloc (Xa6 #[] 0)).alloc (.cells (ou ⟨A,P,B'⟩ ⟨w2.heap.size+1+1,sh,Q,R,room,[],none,none,none,0,w2.heap.size,w2.heap.size+1,[],[],0,0,0,0,0⟩) 164))from ag.none bu)),sM,(hm2.below (show Below _ _ (((w2.alloc (Xa6 #[] 0)).alloc (Xa6 #[] 0)).alloc (.cells (ou ⟨A,P,B'⟩ ⟨w2.heap.size+1+1,sh,Q,R,room,[],none,none,none,0,w2.heap.size,w2.heap.size+1,[],[],0,0,0,0,0⟩) 164))from ag.none bu)),sM,h4,λj hj=>⟨Xa0 (hM j hj) (PI hz2 hc.size),λq=>?_⟩⟩,⟨rfl,rfl,rfl,rfl,rfl,rfl,rfl,rfl,rfl,rfl⟩,λj q=>?_,((ag.of hb2:ag af w w2).trans hc).none⟩
 .have:=hM j hj
  exact YS
 .exact YS
end
theorem SB(d:De)(q:Rq):0<=sW d q/\sW d q<=99:=by
 unfold sW;split
 .omega
 .split
  .split<;>omega
  .omega
theorem opF_bd(k:Nat)(c:Cf)(d:De)(q:Rq):0<=(GS k c d q).2/\(GS k c d q).2<=99:=by
 have h0:=SB d q;unfold GS mN ig ii ie j6 oS j4 kC;repeat' split
 all_goals(dsimp only;omega)
theorem doF_bd(c:Cf)(d:De)(q:Rq):0<=(dN c d q).2/\(dN c d q).2<2 ^ 63:=by
 have h0:=opF_bd q.kind.toNat c d q;unfold dN;repeat' split
 all_goals(dsimp only;omega)
def DoC(w:World)(G:Kx)(d:De)(rq:Rq)(A:Option Addr)(cap:Nat)(s6 s7:Value)(wx:World):Prop:=∃T6 vp' vt' vs' B',s6=OV T6/\s7=JI (dN G.cf d rq).2/\wx.heap[T6]?=OC (gi G.cf vp' vt' vs') 42/\bK wx B' vp' vt' vs' (dN G.cf d rq).1/\((dN G.cf d rq).2=0->w.heap.size<=B')/\w.heap.size<T6/\wx.heap[w.heap.size]?=OC (fq rq A cap) 50/\ag af w wx
def T7(rq:Rq)(l:List Sl)(live ever:Int)(se:List Se)(dn:Nat->Prop)(l1:List Sl)(live1 ever1:Int)(se1:List Se):Prop:=(rq.kind≠5/\l1=l/\live1=live/\ever1=ever/\se1=se)\/(rq.kind=5/\∃i D,∃hi:i<l.length,l[i].used=false/\dn D/\l1=l.set i ⟨OV D,l[i].turn+1,true⟩/\live1=live+1/\ever1=ever+1/\se1=se++ [⟨(rq.who,rq.track),i,l[i].turn+1,2147483648+ever⟩])
theorem T7.mono{l1:List Sl}{live1 ever1:Int}{se1:List Se}{p q:Nat->Prop}(h:T7 rq l live ever se p l1 live1 ever1 se1)(hpq:∀D,p D->q D):T7 rq l live ever se q l1 live1 ever1 se1:=by
 rcases h with h|⟨a,i,D,hi,b,c,d⟩
 .exact .inl h
 .exact .inr ⟨a,i,D,hi,b,hpq _ c,d⟩
def DoS(w6:World)(C LA2 BP:Nat)(G:Kx)(vp vt vs vw:Value)(t:Option Addr)(l:List Sl)(live ever:Int)(se:List Se)(rq:Rq)(DN:World->Nat->Prop)(wx:World):Prop:=∃l1 live1 ever1 se1,T7 rq l live ever se (λD=>w6.heap.size<=D/\DN wx D) l1 live1 ever1 se1/\wx.heap[C]?=OC (iP G vp vt vs t ever1 vw) 153/\At wx G.A LA2 124 352 l1 live1/\bH wx prog 333 (E2 .i64 .i64) (O2 .i64 .i64) G.M (vL se1)/\ag (Fr [(153,C,C+1),(124,BP,0),(352,BP,0)] [G.M] w6) w6 wx
theorem bH.fr{α:Type}{P:Program}{enc:α->Value}{ok:α->Prop}{L:List (α×Value)}(h:bH w P k enc ok b L)(hc:ag (Fr ts ms w) w w')(hm:b ∉ ms):bH w' P k enc ok b L:=by obtain⟨es,c,h1,h2⟩:=h.e;exact h.same ((fr_obj hc h1 sM hm).trans h1.symm)
theorem dE.fr{rs:List Rt}{ds:List Dn}(h:dE w M T ep rs ds)(hc:ag (Fr ts ms w) w w')(ht:(ts.all λp=>p.1 !=279)=true)(hm:∀j∈ms,¬M j):dE w' M T ep rs ds:=by obtain⟨MR,MD,a1,a2,a3,a4,a5⟩:=h.e;exact⟨MR,MD,bJ hc a1 ht,a2.fr hc λq=>hm _ q a4,a3.fr hc λq=>hm _ q a5,a4,a5⟩
theorem Bd(h:aH w B P QA RA LA n q r room tabs acks last)(hc:ag (Hv n q r) w w')(h1:(232,B,0)∈ts)(h2:(139,B,0)∈ts):ag (Fr ts ms w) w w':=hc.mono λj _ ⟨i,hi,e⟩=>by
 obtain⟨a,cur,hq⟩:=h.tq i hi;rcases e with rfl|rfl
 .exact eN hq.q h1 (h.b.2.2.2.2 i hi).1
 .exact eN hq.r h2 (h.b.2.2.2.2 i hi).2
theorem xY{E X:Nat}{cs:Array Value}{a b:World}(h:ag (λj=>j=X) a b)(hX:a.heap[X]?=OC cs t)(ht:(t,B,E)∈ts)(hB:B<=X)(hE:X<E):ag (Fr ts ms a) a b:=h.mono λj _ q=>by subst q;exact tG hX ht hB hE
theorem PJ{α:Type}{P:Program}{enc:α->Value}{ok:α->Prop}{L:List (α×Value)}(hM:bH w P k enc ok b L)(h:ag (λj=>j=b) w w')(hm:b∈ms):ag (Fr ts ms w) w w':=h.mono λj _ e=>by obtain⟨es,c,hb,_⟩:=hM.e;subst e;exact .inl ⟨hm,λc t q=>by rw[hb]at q;cases q⟩
@[go_sem] theorem field331(a b c:Value)(w:World):(Instr.field 331 (.agg #[a,b,c]) 0).run prog w=.ok (.agg #[a,b]) w:=kM
def GnJ(u:World)(C BP LP:Nat)(G:Kx)(cc:Array Value)(ep:Int)(se:List Se)(wt:List Wt)(ws:List Pw)(gn:List Su)(i:Value)(wr:World):Prop:=∃ (k:Nat) (se2:List Se) (wt2:List Wt),i=JI k/\k<=gn.length/\eB (ep+1) (se,wt) (gn.take k)=(se2,wt2)/\bH wr prog 333 (E2 .i64 .i64) (O2 .i64 .i64) G.M (vL se2)/\br wr BP G.P LP ws wt2/\wr.heap[C]?=OC cc 153/\ag (Fr [(128,BP,0),(346,BP,0)] [G.M] u) u wr
def DoOk(w:World)(C BB BP QA RA LA LP LA2 n room:Nat)(G:Kx)(vw:Value)(t:Option Addr)(ever live ep:Int)(q r:Nat->Nat)(tabs:Nat->List Value)(acks:List (Int×Int))(last:List Int)(d:De)(ws:List Pw)(wt:List Wt)(l:List Sl)(se:List Se)(rq:Rq)(DN:World->Nat->Prop)(e:Ending)(w':World):Prop:=
 (dN G.cf d rq).2=0/\∃ (vp vt vs:Value) (B':Nat) (l1:List Sl) (live1 ever1:Int) (se1:List Se) (t1:Option Addr) (ep1:Int) (wt2:List Wt) (se2:List Se) (tabs2:Nat->List Value),
  (w.heap.size<=B'/\bK w' B' vp vt vs (dN G.cf d rq).1)/\∃wm:World,(w.heap.size<=wm.heap.size/\ag (Fr [(153,C,C+1),(124,BP,0),(352,BP,0),(128,BP,0),(346,BP,0),(232,BB,0),(139,BB,0),(66,0,0)] [G.M] wm) wm w') /\
  T7 rq l live ever se (λD=>w.heap.size<=D/\DN wm D) l1 live1 ever1 se1 /\
  ((rq.kind=0/\ep1=0/\t1=t/\wt2=wt/\se2=se1/\tabs2=tabs)\/(rq.kind≠0/\ep1=ep+1/\eB (ep+1) (se1,wt) (il d (dN G.cf d rq).1)=(se2,wt2)/\∃T,t1=some ⟨T,0,none⟩/\wm.heap.size<=T/\dE w' (λj=>wm.heap.size<=j) T (ep+1) (ch n (dN G.cf d rq).1.tracks) ((dN G.cf d rq).1.subs.map (ec n (dN G.cf d rq).1.tracks se2))/\tabs2=λi=>tabs i++ [OV T])) /\
  e=aA (.tuple #[JU ep1,JI 0])/\w'.heap[C]?=OC (iP G vp vt vs t1 ever1 vw) 153/\At w' G.A LA2 124 352 l1 live1/\br w' BP G.P LP ws wt2/\bH w' prog 333 (E2 .i64 .i64) (O2 .i64 .i64) G.M (vL se2)/\aH w' BB G.B QA RA LA n q r room tabs2 acks last /\
  ag (Fr [(153,C,C+1),(124,BP,0),(352,BP,0),(128,BP,0),(346,BP,0),(232,BB,0),(139,BB,0)] [G.M] w) w w'
def DoE(w:World)(C BB BP QA RA LA LP LA2 n room:Nat)(G:Kx)(vw:Value)(t:Option Addr)(ever live ep:Int)(q r:Nat->Nat)(tabs:Nat->List Value)(acks:List (Int×Int))(last:List Int)(d:De)(ws:List Pw)(wt:List Wt)(l:List Sl)(se:List Se)(rq:Rq)(DN:World->Nat->Prop)(e:Ending)(w':World):Prop:=
 (∃err,e=aA (.tuple #[JU 0,JI err])/\err≠0/\At w' G.A LA2 124 352 l live/\ag (Fr [(124,BP,0),(352,BP,0)] [] w) w w'/\(¬(∀i,i<n->(tabs i).length<room)\/(dN G.cf d rq).2≠0\/(rq.kind=5/\∀ (j:Nat) (h:j<l.length),l[j].used=true))/\0<=err/\err<2 ^ 63)\/DoOk w C BB BP QA RA LA LP LA2 n room G vw t ever live ep q r tabs acks last d ws wt l se rq DN e w'
def TakeR(l:List Sl)(live:Int)(D:Nat)(l1:List Sl)(live1:Int)(s tn err:Int):Prop:=(err=20/\s=0/\tn=0/\l1=l/\live1=live/\∀ (j:Nat) (h:j<l.length),l[j].used=true)\/(err=0/\∃i,∃hi:i<l.length,l[i].used=false/\s=i/\tn=l[i].turn+1/\l1=l.set i ⟨OV D,l[i].turn+1,true⟩/\live1=live+1)
def DoT(w6:World)(LA2 BP:Nat)(G:Kx)(l:List Sl)(live:Int)(DN:World->Nat->Prop)(s9 s10:Value)(wx:World):Prop:=∃T9 D s tn err l1 live1,s9=OV T9/\s10=JI err/\TakeR l live D l1 live1 s tn err/\wx.heap[T9]?=OC #[JI s,JT tn] 66/\w6.heap.size<=D/\DN wx D/\At wx G.A LA2 124 352 l1 live1/\ag (Fr [(124,BP,0),(352,BP,0)] [] w6) w6 wx
theorem DF(l:List Sl):(∀j,∀h:j<l.length,l[j].used=true)\/∃i,∃hi:i<l.length,l[i].used=false/\∀j,j<i->∀h:j<l.length,l[j].used=true:=by
 induction l with
 |nil=>
  exact .inl λj h=>by simp at h
 |cons s l ih=>
  cases hs:s.used with
  |false=>
   exact .inr ⟨0,sM,Ep,λj hj=>oM⟩
  |true=>
   rcases ih with h|⟨i,hi,h1,h2⟩
   .exact .inl λj hj=>by
     cases j with
     |zero=>
      simpa using hs
     |succ j=>simpa using h j um
   .exact .inr ⟨i+1,nv,ul,λj hj hl=>by
     cases j with
     |zero=>
      simpa using hs
     |succ j=>simpa using h2 j oM El⟩
theorem AV{L:Nat}(hA:At w P L 124 352 l live)(hl:l.length<=64)(ht:∀s∈l,0<=s.turn/\s.turn<=1000000)(hv:0<=live/\live<=64)(hBA:BP<=P/\BP<=L)(D:Nat) :
  az 155 #[OV P,OV D] w λe w'=>∃s tn err l1 live1,e=aA (.tuple #[.agg #[JI s,JT tn],JI err])/\TakeR l live D l1 live1 s tn err/\At w' P L 124 352 l1 live1/\ag (Fr [(124,BP,0),(352,BP,0)] [] w) w w':=by
 rcases DF l with h|⟨i,hi,h1,h2⟩
 .exact(AT w P L l live _ hA hl h).mono λe w' ⟨a,b⟩=>⟨_,_,_,_,_,a,.inl ⟨rfl,rfl,rfl,rfl,rfl,h⟩,hA.chg (S:=af) (.of b) id id,tH b⟩
 .exact(take_d w P L l live _ hA hl ht oM oM i hi h1 h2).mono λe w' ⟨a,b,c⟩=>⟨_,_,_,_,_,a,.inr ⟨rfl,i,hi,h1,rfl,rfl,rfl,rfl⟩,b,xX (sI c) hA.p hA.l sM sM hBA.1 hBA.2⟩
theorem cdo_t{BD BB LA2:Nat}{G:Kx}{vp vt vs vw:Value}{t:Option Addr}{d:De}{DN:World->Nat->Prop}(hC:w.heap[C]?=OC (iP G vp vt vs t ever vw) 153)(hD:bK w BD vp vt vs d)(hF:Fit d)(hq:rh w A cap rq)(hB:aH w BB G.B QA RA LA n q r room tabs acks last)(hA:At w G.A LA2 124 352 l live)(hl:l.length<=64)(htn:∀s∈l,0<=s.turn/\s.turn<=1000000)(hv:0<=live/\live<=64)(hM:bH w prog 333 (E2 .i64 .i64) (O2 .i64 .i64) G.M (vL se))(hnew:rq.kind=5->(dN G.cf d rq).2=0->dK (vL se) (rq.who,rq.track)=none)(hwt:(0<=rq.who/\rq.who<=65535)/\0<=rq.track/\rq.track<=65535)(hev:0<=ever/\ever<=1000000)(hP:br w BP G.P LP ws wt)(hBA:BP<=G.A/\BP<=LA2)(hBP:BP<=w.heap.size)(hwl:rq.kind≠0->(dN G.cf d rq).2=0->wt.length+(il d (dN G.cf d rq).1).length<=64)(hF2:(dN G.cf d rq).2=0->Fit (dN G.cf d rq).1)(ep0:0<=ep)(ep1:ep<=1000000)(hep:∀W,ag (Fr [(153,C,C+1),(124,BP,0),(352,BP,0)] [G.M] w) w W->az 98 #[.pointer t] W λe w'=>e=aA (JU ep)/\W=w')(hsw:∀x∈d.subs,(0<=x.who/\x.who<=65535)/\0<=x.track/\x.track<=65535)(hn:G.n=n)(hn0:1<=n)(hn1:n<=4)(hmk:rq.kind≠0->(dN G.cf d rq).2=0->∀l1 live1 ever1 se1,T7 rq l live ever se (λ_=>True) l1 live1 ever1 se1->QH n (dN G.cf d rq).1 (eB (ep+1) (se1,wt) (il d (dN G.cf d rq).1)).1)(hdn:∀ (W:World) (s:Int),0<=s->s<=4294967295->w.heap.size<=W.heap.size->az 156 #[JT s,JI G.keep] W λe w'=>∃D,e=aA (OV D)/\W.heap.size<=D/\DN w' D/\aC W w')(hDN:∀ (W W':World) (D:Nat),DN W D->ag (Fr [(153,C,C+1),(124,BP,0),(352,BP,0),(128,BP,0),(346,BP,0),(232,BB,0),(139,BB,0),(66,0,0)] [G.M] W) W W'->DN W' D) :
  az 112 #[OV C,.agg (fq rq A cap)] w (DoE w C BB BP QA RA LA LP LA2 n room G vw t ever live ep q r tabs acks last d ws wt l se rq DN):=by
 have hdo:=λW (hb:ag af w W)=>do_t (w:=W) (c:=G.cf) (A:=A) (cap:=cap) (q:=rq) (hD.chg hb cy cy cy cy) hF ⟨hq.1.below rfl hb.none,hq.2⟩
 have HDO:=OH hdo;clear hdo;have HBPP:=OH hP.bP;have HBA:=OH hBA;refine nD;have HWT:=OH hwt;have HEV:=OH hev;clear hv hwt hev;have hrm:=λW (hb:aC w W)=>Hn (hB.below hb) _ rfl
 generalize hbb:decide (∀i,i<n->(tabs i).length<room)=bb at hrm;have HBB:=OH hbb;clear hbb;have HFIT:=OH hF;have HWL:=OH hwl;clear hwl;have HF2:=OH hF2;clear hF2;have HMK:=OH hmk;clear hmk;have HEP:=OH hep;clear hep;have HN:=OH hn;clear hn;have HSW:=OH hsw;clear hsw;have HPN:=OH hP;clear hP;have HBD:=OH hB;have HRM:=OH hrm;clear hrm;obtain⟨hp,⟨ks,hk,hks⟩,hs⟩:=hD;refine KW;have HD:=OH (show bK w BD (.slice A1 d.people.length n1) (.slice A2 ks.length n2) (.slice A3 d.subs.length n3) d from⟨hp,⟨ks,hk,hks⟩,hs⟩);clear hp hk hks hs hq hF;refine nN;cases bb with
 |false=>
  go_enter func112,ntmps112;refine ay;refine(HRM.out _ gM).mono ?_;refine rZ;refine df;have hcE:ag af w _:=(show ag af w _ from bu).next hb1;exact .inl ⟨20,rfl,dM,hA.chg hcE id id,aY hcE,.inl (of_decide_eq_false HBB.out),dM,dM⟩
 |true=>
  go_enter func112,ntmps112;refine ay;refine(HRM.out _ gM).mono ?_;rintro e w3 ⟨rfl,hb1⟩;have hw3:ag af w w3:=(show ag af w _ from bu).next hb1;have hC3:=(hw3.block _ zC id).trans hC;have hZ3:w3.heap[w.heap.size]?=OC (fq rq A cap) 50:=(hb1.block _ KA).trans bZ;clear cC fC zC;obtain⟨cC,fC,zC⟩:=ab hC3;obtain⟨cZ,fZ,zZ⟩:=ab hZ3;refine iI;go_cut [6,7] from 22 to 30 (λs6 s7 wx=>DoC w G d rq A cap s6 s7 wx);case first=>
   refine ej 11 (S:=(λw'=>Bk w' C (iP G (.slice A1 d.people.length n1) (.slice A2 ks.length n2) (.slice A3 d.subs.length n3) t ever vw) 153/\Bk w' w.heap.size (fq rq A cap) 50/\ag af w w')) kM rM ?_ (λhHeld0=>?_)
   .exact⟨bk,bk,bu⟩
   refine Ce;refine D8 (i:=5) (j:=9) rfl rfl kM dM dM (λK hK=>?_) (λK hK=>?_)
   .skip
    go_simp;have hz9:=hHeld0;refine zq98;refine nO
    .exact⟨aO hC5,aO hZ5,hc5⟩
    refine nR;refine mj;refine kB;refine nP
    .exact⟨bk,bk,bu⟩
    refine rQ;refine We;exact⟨w5.heap.size,_,_,_,B',rfl,rfl,eM,HD5.out.chg (S:=af) bu cy cy cy cy,λh=>PI hw3.size (hB5 h),by have:=(aB hZ5);omega,eM,bu⟩
   .go_simp
    refine nO
    .exact⟨bk,bk,bu⟩
    refine nR;refine lU;have hz9:=hHeld1;refine zq98;have hT5:w5.heap[w3.heap.size]?=OC #[JI 0,JI 0,JI 0,JI 0,.slice none 0 0,.slice none 0 0,.slice none 0 0] 42:=(hb5.block _ KM).trans bZ;obtain⟨cT,fT,zT⟩:=ab hT5;refine nP
    .exact⟨aO hC5,aO hZ5,hc5⟩
    refine rQ;refine mj;refine We;exact⟨w3.heap.size,_,_,_,B',rfl,rfl,eM,HD5.out.chg (S:=λj=>j=w3.heap.size) bu (aJ hT5 dM) (aJ hT5 dM) (aJ hT5 dM) (aJ hT5 dM),λh=>by have h1:=hB5 h;have h2:=hw3.size;(try simp only[bE,aD]at h1);omega,by have:=(aB hZ3);omega,eM,bu⟩
  case rest=>
   obtain⟨T6,vp',vt',vs',B',rfl,rfl,hT6,hD6,hB6,hT6l,hZ6,hc6⟩:=hcut;have HD6:=OH hD6;obtain⟨hp6,⟨ks6,hk6,-⟩,hs6⟩:=hD6;obtain⟨A4,n4,rfl⟩:=aj hp6;obtain⟨A5,n5,rfl⟩:=aj hk6;obtain⟨A6,n6,rfl⟩:=aj hs6;clear hp6 hk6 hs6 hb1 hw3 hC3 hZ3 cC fC zC cZ fZ zZ HRM;have hC6:=(hc6.block _ (aB hC) id).trans hC;obtain⟨cC,fC,zC⟩:=ab hC6;obtain⟨cZ,fZ,zZ⟩:=ab hZ6;obtain⟨cT,fT,zT⟩:=ab hT6;obtain⟨b1,f1⟩:∃b,((dN G.cf d rq).2==0)=b:=⟨_,rfl⟩
   have f2:((dN G.cf d rq).2 !=0)=!b1:=by rw[bne,f1]
   cases b1 with
   |false=>
    refine df;exact .inl ⟨_,rfl,pz,hA.chg hc6 id id,aY hc6,.inr (.inl pz),doF_bd G.cf d rq⟩
   |true=>
    have hA6:=hA.chg (S:=af) hc6 id id;have HA6:=OH hA6;have HM6:=OH (hM.chg hc6 id);have HC6:=OH hc6;clear hA6 hA hM hB hc6;obtain⟨b2,k1⟩:∃b,(rq.kind==5)=b:=⟨_,rfl⟩
    go_upto_if 36 with fail;generalize wc=w6 at *;go_cut [] from 34 to 77 (λwx=>DoS w6 C LA2 BP G (.slice A1 d.people.length n1) (.slice A2 ks.length n2) (.slice A3 d.subs.length n3) vw t l live ever se rq DN wx);case first=>
     cases b2 with
     |false=>
      refine dr;exact⟨l,live,ever,se,.inl ⟨by simpa using k1,rfl,rfl,rfl,rfl⟩,hC6,HA6.out,HM6.out,aY dp⟩
     |true=>
      have hm1:(2147483648+ever) % 4294967296=2147483648+ever:=by have:=HEV.out;omega
      have hm2:(ever+1) % 4294967296=ever+1:=by have:=HEV.out;omega
      have hm3:rq.kind=5:=by simpa using k1
      have HK5:=OH hm3;clear hm3;refine jo;go_cut [9,10] from 42 to 56 (λs9 s10 wx=>DoT w6 LA2 BP G l live DN s9 s10 wx);case first=>
       refine ej 17 (S:=(λw'=>Bk w' C (iP G (.slice A1 d.people.length n1) (.slice A2 ks.length n2) (.slice A3 d.subs.length n3) t ever vw) 153/\ag (Fr [(124,BP,0),(352,BP,0)] [] w6) w6 w')) kM rM ?_ (λhHeld0=>?_)
       .exact⟨bk,aY bu⟩
       refine iU;refine gN;refine D8 (i:=10) (j:=15) rfl rfl kM dM dM (λK hK=>?_) (λK hK=>?_)
       .skip
        go_simp;have hz9:=hHeld0;refine Z7;refine nO
        .exact⟨aO hC8,aY hn8⟩
        refine nR;refine D8 (i:=11) (j:=15) rfl rfl kM dM dM (λK hK=>?_) (λK hK=>?_)
        .skip
         refine zq63;refine nP
         .exact⟨aO hC9,hg9⟩
         refine rQ;refine Fi;refine hK.out _ _ ?_ (λhHeld3=>?_)
         .exact⟨bk,aF hg9 (aY bu)⟩
         refine Ft;refine on 16 λK hK=>?_
         go_simp;refine hK.out _ _ ?_ (λhHeld4=>?_)
         .exact⟨bk,aF hg9 (aY bu)⟩
         refine LH;have hcF:ag af w9 (w9.alloc (.cells #[JI s,JT tn] 66)):=bu;exact⟨w9.heap.size,D,s,tn,err,l1,live1,rfl,rfl,hTR,eM,hDl8,hDN _ _ _ hDN8 (dq (aF KF (aF hc9 (aY hcF))) sM sM),hA9.chg hcF id id,aF hg9 (aY hcF)⟩
        .go_simp
         refine nP
         .exact⟨bk,aY Kj⟩
         refine rQ;refine rY;refine zq63;have hT9:w9.heap[w8.heap.size]?=OC #[JI 0,JT 0] 66:=bJ hc9 bZ rM;have hT9l:w6.heap.size<=w8.heap.size:=hn8.size;refine Zm
         .exact⟨bk,hg9.call (T:=λj=>j=w8.heap.size) bu (λj hj q=>absurd hT9l oM)⟩
         refine LH;have hcF:ag (λj=>j=w8.heap.size) w9 ((w9.setCell ⟨w8.heap.size,0,none⟩ (JI s)).setCell ⟨w8.heap.size,1,none⟩ (JT tn)):=bu;exact⟨w8.heap.size,D,s,tn,err,l1,live1,rfl,rfl,hTR,eM,hDl8,hDN _ _ _ hDN8 (aF KF (aF (dq hc9 sM sM) (tF (t:=66) (B:=0) hcF hT9 sM kn))),hA9.chg hcF (λq=>au hA9.p (show(124:TypeId)≠66 by decide) (q.symm ▸ hT9)) (λq=>au hA9.l (show(352:TypeId)≠66 by decide) (q.symm ▸ hT9)),hg9.call hcF (λj hj q=>absurd hT9l oM)⟩
       .go_simp
        refine nO
        .exact⟨bk,aY bu⟩
        refine nR;refine sm;have hz9:=hHeld1;refine Z7;have hT8:w8.heap[w6.heap.size]?=OC #[JI 0,JT 0] 66:=(hb8.block _ KM).trans bZ;refine nP
        .exact⟨aO hC8,aY hn8⟩
        refine rQ;refine rY;refine zq63;have hT9:w9.heap[w6.heap.size]?=OC #[JI 0,JT 0] 66:=bJ hc9 hT8 rM;have hT9l:w6.heap.size<=w6.heap.size:=Xa1 _;refine Zm
        .exact⟨bk,hg9.call (T:=λj=>j=w6.heap.size) bu (λj hj q=>absurd hT9l oM)⟩
        refine LH;have hcF:ag (λj=>j=w6.heap.size) w9 ((w9.setCell ⟨w6.heap.size,0,none⟩ (JI s)).setCell ⟨w6.heap.size,1,none⟩ (JT tn)):=bu;exact⟨w6.heap.size,D,s,tn,err,l1,live1,rfl,rfl,hTR,eM,hDl8,hDN _ _ _ hDN8 (aF KF (aF (dq hc9 sM sM) (tF (t:=66) (B:=0) hcF hT9 sM kn))),hA9.chg hcF (λq=>au hA9.p (show(124:TypeId)≠66 by decide) (q.symm ▸ hT9)) (λq=>au hA9.l (show(352:TypeId)≠66 by decide) (q.symm ▸ hT9)),hg9.call hcF (λj hj q=>absurd hT9l oM)⟩
      case rest=>
       obtain⟨T9,D,s,tn,err,l1,live1,rfl,rfl,hTR,hT9,hDl,hDN9,hA9,hc9⟩:=hcut;have hC9:=bJ hc9 hC6 rM;have HM9:=OH (HM6.out.fr hc9 sM);clear cC fC zC cZ fZ zZ cT fT zT;obtain⟨cC,fC,zC⟩:=ab hC9;obtain⟨cZ,fZ,zZ⟩:=ab (bJ hc9 hZ6 rM);obtain⟨cT,fT,zT⟩:=ab hT9;rcases hTR with⟨e1,e2,e3,e4,e5,e6⟩|⟨e1,i,hi,hu,e2,e3,e4,e5⟩
       .subst e1 e2 e3
        have hA9:At wc G.A LA2 124 352 l live:=by rw[←e4,←e5];exact hA9
        clear e4 e5;refine df;exact .inl ⟨20,rfl,dM,hA9,aF (aY HC6.out) hc9,.inr (.inr ⟨HK5.out,e6⟩),dM,dM⟩
       .subst e1 e2 e3 e4 e5
        refine oI;have hcU:ag (λj=>j=C) wc (wc.setCell ⟨C,21,none⟩ (JT (ever+1))):=bu;have hC11:(wc.setCell ⟨C,21,none⟩ (JT (ever+1))).heap[C]?=OC (iP G (.slice A1 d.people.length n1) (.slice A2 ks.length n2) (.slice A3 d.subs.length n3) t (ever+1) vw) 153:=eM;have hfU:ag (Fr [(153,C,C+1),(124,BP,0),(352,BP,0)] [G.M] wc) wc (wc.setCell ⟨C,21,none⟩ (JT (ever+1))):=xY (B:=C) (E:=C+1) hcU hC9 sM leR oM;have hZ11:=bJ hfU (bJ hc9 hZ6 rM) rM;have hT11:=bJ hfU hT9 rM;have hc11:ag (Fr [(153,C,C+1),(124,BP,0),(352,BP,0)] [G.M] w6) w6 (wc.setCell ⟨C,21,none⟩ (JT (ever+1))):=aF (dq hc9 sM sM) hfU;have HA11:=OH (hA9.chg hcU (λq=>au hA9.p (show(124:TypeId)≠153 by decide) (q.symm ▸ hC9)) (λq=>au hA9.l (show(352:TypeId)≠153 by decide) (q.symm ▸ hC9)));have HM11:=OH (HM9.out.chg hcU (HM9.out.ne hC9));have HDN11:=OH (hDN _ _ _ hDN9 (dq hfU sM sM));clear hcU hfU cC fC zC cZ fZ zZ cT fT zT hm1 hm2;generalize wc.setCell ⟨C,21,none⟩ (JT (ever+1))=u1 at *;have hz12:=HM11.out.lt;obtain⟨u2,hrun2,hM2,hc2,hz2⟩:=(HM11.out.same (w':=u1.drew) rfl).run_put G0 underlying150 (x:=(rq.who,rq.track)) (by have h9:=HWT.out;exact⟨ip oM oM,ip oM oM⟩) (.agg #[JI i,JT (l[i].turn+1),JT (2147483648+ever)]);rw[show(rq.who,rq.track)=(⟨(rq.who,rq.track),i,l[i].turn+1,2147483648+ever⟩:Se).key from rfl,RS se ⟨(rq.who,rq.track),i,l[i].turn+1,2147483648+ever⟩ (hnew HK5.out pz)]at hM2;have HM2:=OH hM2;have hd2:ag (λj=>j=G.M) u1 u2:=(ag.drew dp).trans hc2;have HC2:=OH hd2;clear hM2 hc2 hz2 hd2;obtain⟨cC,fC,zC⟩:=ab hC11;obtain⟨cZ,fZ,zZ⟩:=ab hZ11;obtain⟨cT,fT,zT⟩:=ab hT11;refine rg 12 (λw'=>Bk w' C (iP G (.slice A1 d.people.length n1) (.slice A2 ks.length n2) (.slice A3 d.subs.length n3) t (ever+1) vw) 153/\Bk w' w.heap.size (fq rq A cap) 50/\Bk w' T9 #[JI i,JT (l[i].turn+1)] 66/\u1.heap.size<=w'.heap.size/\ag af u1 w') ⟨bk,bk,bk,by first|omega|(simp;done)|(simp;omega),bu⟩ (λhHeld0=>?_);refine rP;refine eY;refine dr;have hfM:ag (Fr [(153,C,C+1),(124,BP,0),(352,BP,0)] [G.M] u1) u1 u2:=PJ HM11.out HC2.out sM;exact⟨_,_,_,_,.inr ⟨HK5.out,i,D,hi,hu,⟨hDl,hDN _ _ _ HDN11.out (dq hfM sM sM)⟩,rfl,rfl,rfl,rfl⟩,ae HC2.out hC11 (λq=>HM11.out.ne hC11 q.symm),HA11.out.chg HC2.out (λq=>HM11.out.ne HA11.out.p q.symm) (λq=>HM11.out.ne HA11.out.l q.symm),HM2.out,aF hc11 hfM⟩
    case rest=>
     obtain⟨l1,live1,ever1,se1,hX,hC7,hA7,hM7,hc7⟩:=hcut;have HX:=OH hX;have HA7:=OH hA7;have HM7:=OH hM7;have HD7:=OH (HD.out.chg (S:=af) HC6.out cy cy cy cy |>.chg hc7 eR eR eR eR);have HD8:=OH (HD6.out.chg hc7 eR eR eR eR);have hZ7:=bJ hc7 hZ6 rM;have hT7:=bJ hc7 hT6 rM;have hc8:ag (Fr [(153,C,C+1),(124,BP,0),(352,BP,0)] [G.M] w) w wc:=aF (aY HC6.out) hc7;have HC8:=OH hc8;clear hX hA7 hM7 hc7 hc8 cC fC zC cZ fZ zZ cT fT zT k1 hC6 hZ6 hT6;obtain⟨cC,fC,zC⟩:=ab hC7;obtain⟨cZ,fZ,zZ⟩:=ab hZ7;obtain⟨cT,fT,zT⟩:=ab hT7;have hgn:=λ(W:World) (hb:ag af wc W)=>gone_t (w:=W) G.cf G.cf (HD7.out.chg hb cy cy cy cy) (HD8.out.chg hb cy cy cy cy) (by have:=HFIT.out.s;omega) (by have:=(HF2.out pz).s;omega) (HF2.out pz).us
     have HGN:=OH hgn;clear hgn;generalize wc=w8 at *;refine yX;refine rg 6 (λw'=>Bk w' C (iP G (.slice A1 d.people.length n1) (.slice A2 ks.length n2) (.slice A3 d.subs.length n3) t ever1 vw) 153/\Bk w' w.heap.size (fq rq A cap) 50/\Bk w' T6 (gi G.cf (.slice A4 (dN G.cf d rq).1.people.length n4) (.slice A5 ks6.length n5) (.slice A6 (dN G.cf d rq).1.subs.length n6)) 42/\ag af w8 w') ⟨bk,bk,bk,bu⟩ (λhHeld0=>?_);refine uZ;refine(HGN.out _ aM).mono ?_;rintro r w9 ⟨gv,rfl,hg9,hb9⟩;have hc9:ag af w8 w9:=ag.next aM hb9;have hC9:=(hc9.block _ (aB hC7) id).trans hC7;have hZ9:=(hc9.block _ (aB hZ7) id).trans hZ7;have hT9:=(hc9.block _ (aB hT7) id).trans hT7;refine nO
     .exact⟨aO hC9,aO hZ9,aO hT9,hc9⟩
     refine nR;refine eY;clear hHeld1 cC fC zC cZ fZ zZ cT fT zT;obtain⟨cC,fC,zC⟩:=ab hC9;obtain⟨cZ,fZ,zZ⟩:=ab hZ9;obtain⟨cT,fT,zT⟩:=ab hT9;go_upto_if 90 with fail;clear hb9;have hA9p:=(HA7.out.chg hc9 id id).p;have hA9l:=(HA7.out.chg hc9 id id).l;have hO9:=aW hg9 (show w8.heap.size<=w8.drew.heap.size from Xa1 _);obtain⟨gA,gc,rfl⟩:=aj hO9;obtain⟨gn,hgn⟩:∃l,il d (dN G.cf d rq).1=l:=⟨_,rfl⟩
     rw[show(d.subs.filter (λx=>!decide ((x.who,x.track)∈bD (dN G.cf d rq).1.subs)))=gn from hgn]at hO9 ⊢;have hCu:=lx C 153 [JI G.cf.people,JI G.cf.tracks,JI G.cf.subs,JI G.cf.slots,.slice A4 (dN G.cf d rq).1.people.length n4,.slice A5 ks6.length n5,.slice A6 (dN G.cf d rq).1.subs.length n6] w9 13 (iP G (.slice A1 d.people.length n1) (.slice A2 ks.length n2) (.slice A3 d.subs.length n3) t ever1 vw).toList hC9 sM;have hsu:=ei w9 C 13 [JI G.cf.people,JI G.cf.tracks,JI G.cf.subs,JI G.cf.slots,.slice A4 (dN G.cf d rq).1.people.length n4,.slice A5 ks6.length n5,.slice A6 (dN G.cf d rq).1.subs.length n6];generalize hu:aR w9 C 13 _=u9 at hCu hsu;have hu2:=hu;simp only[aR]at hu2;rw[hu2];have hCu:u9.heap[C]?=OC (iP G (.slice A4 (dN G.cf d rq).1.people.length n4) (.slice A5 ks6.length n5) (.slice A6 (dN G.cf d rq).1.subs.length n6) t ever1 vw) 153:=hCu;have hfu:ag (Fr [(153,C,C+1),(124,BP,0),(352,BP,0)] [G.M] w9) w9 u9:=xY (B:=C) (E:=C+1) hsu hC9 sM leR oM;have hcu:ag (Fr [(153,C,C+1),(124,BP,0),(352,BP,0)] [G.M] w) w u9:=aF (aF HC8.out (aY hc9)) hfu;have HCU:=OH hcu;have HA9:=OH ((HA7.out.chg hc9 id id).chg hsu (λq=>au hA9p (show(124:TypeId)≠153 by decide) (q.symm ▸ hC9)) (λq=>au hA9l (show(352:TypeId)≠153 by decide) (q.symm ▸ hC9)));have HM9:=OH ((HM7.out.chg hc9 id).chg hsu ((HM7.out.chg hc9 id).ne hC9));have HD9:=OH ((HD8.out.chg hc9 cy cy cy cy).chg hsu (aJ hC9 dM) (aJ hC9 dM) (aJ hC9 dM) (aJ hC9 dM));have HP9:=OH (HPN.out.chg hcu eR eR eR);have HB9:=OH (mS HBD.out hcu rM sM);have HX9:=OH (HX.out.mono λD q=>(⟨PI HC6.out.size q.1,hDN _ _ _ q.2 (aF (aY hc9) (dq hfu sM sM))⟩:w.heap.size<=D/\DN u9 D));have HG9:=OH (ah hO9 hsu (λj cur e q=>au hC9 (show(153:TypeId)≠170 by decide) (e ▸ q)));have hZu:=jH hsu hC9 hZ9;have HGN2:=OH hgn;have hB6':=hB6 pz;clear hu hu2 hsu hfu hcu hO9 hgn hg9 hc9 hC9 hZ9 hT9 cC fC zC cZ fZ zZ cT fT zT HX HA7 HM7 HD7 HD8 hZ7 hT7 hC7 HC8 HGN HD HPN HBD HDO hA9p hA9l;obtain⟨cC,fC,zC⟩:=ab hCu;by_cases hk0:rq.kind=0
     .have e0:(rq.kind==0)=true:=by simpa using hk0
      refine df;refine .inr ⟨pz,_,_,_,B',l1,live1,ever1,se1,t,0,wt,se1,tabs,⟨hB6',HD9.out⟩,u9,⟨HCU.out.size,ag.refl _ _⟩,HX9.out,.inl ⟨hk0,rfl,rfl,rfl,rfl,rfl⟩,rfl,hCu,HA9.out,HP9.out,HM9.out,HB9.out,dq HCU.out sM sM⟩
     .have e0:(rq.kind==0)=false:=by simpa using hk0
      have hws:wt.length+gn.length<=64:=by rw[←HGN2.out];exact HWL.out hk0 pz
      have hee:(ep+1) % 18446744073709551616=ep+1:=oM;have HEP2:=OH (HEP.out u9 HCU.out);refine ay;refine HEP2.out.mono ?_;rintro r' w10 ⟨rfl,hw10⟩;subst hw10;have HSWG:=OH (λx hx=>HSW.out x (by rw[←HGN2.out]at hx;exact(Xa5.1 hx).1):∀x∈gn,(0<=x.who/\x.who<=65535)/\0<=x.track/\x.track<=65535);have HGB:=OH (show BP<=u9.heap.size from PI hBP HCU.out.size);go_upto_region 18 with fail;clear HEP2 e0;refine ay;go_loopw [14,15,99] (λ_ _ i wr=>GnJ u9 C BP LP G (iP G (.slice A4 (dN G.cf d rq).1.people.length n4) (.slice A5 ks6.length n5) (.slice A6 (dN G.cf d rq).1.subs.length n6) t ever1 vw) ep se1 wt ws gn i wr) (λ_ _ i _=>gn.length- (intOf i).toNat);case atStart=>exact⟨0,se1,wt,rfl,Nat.zero_le _,rfl,HM9.out,HP9.out,hCu,ag.refl _ _⟩
      case round=>
       clear cC fC zC hCu;obtain⟨k,se2,wt2,rfl,hk,hgs,hMr,hPr,hCr,hcr⟩:=hrel;have HMR:=OH hMr;have HPR:=OH hPr;have HCR:=OH hcr;have HGS:=OH hgs;have hgl:=Dp (ep+1) (se1,wt) (gn.take k);rw[hgs]at hgl;dsimp only at hgl;rw[List.length_take,Nat.min_eq_left hk]at hgl;have hzr:=hcr.size;clear hgs hMr hPr hcr;obtain⟨cC,fC,zC⟩:=ab hCr;by_cases hlt:k<gn.length
       .obtain⟨g,e9,hg1,hg2,hg3⟩:=cM ce (ah HG9.out HCR.out eR) hlt
        subst e9;obtain⟨e0,e1,e2,e3,e4⟩:=And.intro (hg3 0 dM) (And.intro (hg3 1 dM) (And.intro (hg3 2 dM) (And.intro (hg3 3 dM) (hg3 4 dM))));have hts:=List.take_succ_eq_append_getElem hlt;have hgw:=HSWG.out gn[k] qS;generalize gn[k]=y at *;obtain⟨yw,yt,yl,yd,ym⟩:=y;dsimp only[el,List.getElem?_cons_zero,List.getElem?_cons_succ,Nat.add_zero]at e0 e1 e2 e3 e4;dsimp only at hgw;have hok:O2 .i64 .i64 (yw,yt):=⟨ip oM oM,ip oM oM⟩
        have hlk:=λW (hc:ag af wr W)=>(HMR.out.chg hc id).run_look G0 underlying150 (Gj W) (x:=(yw,yt)) hok false (NW se2 (yw,yt)) rfl
        obtain⟨s1,hs1⟩:∃s,CI se2 (yw,yt)=s:=⟨_,rfl⟩
        rw[hs1]at hlk;have HLK:=OH hlk;have hsn:=BH (ep+1) (se1,wt) (gn.take k) ⟨yw,yt,yl,yd,ym⟩;rw[←hts,HGS.out]at hsn;simp only[qM,hs1]at hsn;have HSN:=OH hsn;have hlen:wt2.length<64:=oM;clear hlk hsn hs1 hts hg3 HGS;go_upto_region 22 with fail;have hb1:ag af wr ((wr.alloc (.cells #[JI yw,JI yt,JI yl,JI yd,.bool ym] 170)).alloc (.cells #[JI yw,JI yt] 333)):=bu;have hZ1:((wr.alloc (.cells #[JI yw,JI yt,JI yl,JI yd,.bool ym] 170)).alloc (.cells #[JI yw,JI yt] 333)).heap[wr.heap.size+1]?=OC #[JI yw,JI yt] 333:=bZ;have hC1:=ae hb1 hCr id;have hGd:=hb1;clear cC fC zC hCr e0 e1 e2 e3 e4 hb1;generalize (wr.alloc _).alloc _=wa at *;generalize wr.heap.size+1=Z at *;refine rl 12 (λw'=>Bk w' C (iP G (.slice A4 (dN G.cf d rq).1.people.length n4) (.slice A5 ks6.length n5) (.slice A6 (dN G.cf d rq).1.subs.length n6) t ever1 vw) 153/\Bk w' Z #[JI yw,JI yt] 333/\(Instr.lookup 150 (.map (some G.M)) (.agg #[JI yw,JI yt]) false).run prog w'=.ok (.agg #[JI s1.slot,JT s1.turn,JT s1.ssrc]) w') (λw0_ hc0=>?_);have hC1:=ae hc0 hC1 id;have hZ1:=ae hc0 hZ1 id;have hGd:=ag.trans hGd hc0;refine⟨⟨bk,bk,HLK.out _ hGd⟩,λhH=>?_⟩;refine iU;refine oF;refine la (λK hK=>?_);go_simp;refine(Oe (HPR.out.below hGd.none) hlen s1.slot s1.turn (ep+1) (PI HGB.out (PI hzr hGd.size))).mono ?_;rintro r' w11 ⟨rfl,hP11,hc11⟩;refine hK.out _ _ ?_;clear hK K;have hfr:ag (Fr [(128,BP,0),(346,BP,0)] [G.M] wr) wr w11:=aF (aY hGd) (by refine Fp;exact tE hc11 hpv sM sM leR HBPP.out)
        have hC2:=bJ (aF (aY (ts:=[(128,BP,0),(346,BP,0)]) (ms:=[G.M]) (ag.refl af _)) (show ag (Fr [(128,BP,0),(346,BP,0)] [G.M] w0_) w0_ w11 by refine Fp;exact tE hc11 hpv sM sM leR HBPP.out)) hC1 rM
        have hZ2:=bJ (show ag (Fr [(128,BP,0),(346,BP,0)] [G.M] w0_) w0_ w11 by refine Fp;exact tE hc11 hpv sM sM leR HBPP.out) hZ1 rM
        have hM2:bH w11 prog 333 (E2 .i64 .i64) (O2 .i64 .i64) G.M (vL se2):=(HMR.out.chg hGd id).chg hc11 (by
         refine Fp;intro q;rcases q with q|⟨_,cur,q⟩
         .exact(HMR.out.chg hGd id).ne hpv q
         .exact(HMR.out.chg hGd id).ne q rfl)
        obtain⟨w12,hrun,hM3,hc12,hz12⟩:=(hM2.same (w':=w11.drew) rfl).run_del G0 underlying150 (x:=(yw,yt)) hok 0;have hfr2:ag (Fr [(128,BP,0),(346,BP,0)] [G.M] w11) w11 w12:=PJ hM2 ((ag.drew dp).trans hc12) sM;have HFR:=OH (aF (aF HCR.out hfr) hfr2);rw[RT]at hM3;have HM3:=OH hM3;have HP3:=OH (hP11.chg ((ag.drew (ag.refl (λj=>j=G.M) w11)).trans hc12) (λj cur e q=>hM2.ne q e.symm) (λj cur e q=>hM2.ne q e.symm) (λj cur e q=>hM2.ne q e.symm));have hC3:=bJ hfr2 hC2 rM;clear hfr hfr2 hM2 hM3 hc12 hz12 hP11 hc11 hGd hH hc0;obtain⟨cC,fC,zC⟩:=ab hC2;obtain⟨cZ,fZ,zZ⟩:=ab hZ2;go_upto_region 23 with fail;refine rg 5 (λw'=>Bk w' C (iP G (.slice A4 (dN G.cf d rq).1.people.length n4) (.slice A5 ks6.length n5) (.slice A6 (dN G.cf d rq).1.subs.length n6) t ever1 vw) 153/\Bk w' Z #[JI yw,JI yt] 333) ⟨bk,bk⟩ (λhH=>?_);refine Ce;refine je;clear hK K;refine dA;case rel=>exact⟨k+1,_,_,eT,oM,HSN.out,HM3.out,HP3.out,hC3,HFR.out⟩
        case measure=>exact di
       .have hk2:k=gn.length:=oM
        have hgs:=HGS.out;rw[hk2,List.take_length]at hgs;have HGS2:=OH hgs;have hmk:=HMK.out hk0 pz l1 live1 ever1 se1 (HX9.out.mono λ_ _=>trivial);rw[HGN2.out,hgs]at hmk;have HDR:=OH (HD9.out.chg HCR.out eR eR eR eR);have hmd:=hmk.made hCr HDR.out HMR.out (ep+1) HN.out hn0 hn1;have HMD:=OH hmd;clear hmd hmk hgs HGS hlt;refine ay;refine HMD.out.mono ?_;rintro r' w13 ⟨T,rfl,hTl,hTT,hb13⟩;have hg13:ag af wr w13:=.of hb13;have hC13:=ae hg13 hCr id;have HTT:=OH hTT;have HG13:=OH hg13;clear cC fC zC hTT hb13 hg13;obtain⟨cC,fC,zC⟩:=ab hC13;go_upto_region 26 with fail;have hs14:ag (λi=>i=C) w13 (w13.setCell ⟨C,20,none⟩ (OV T)):=bu;have hC14:(w13.setCell ⟨C,20,none⟩ (OV T)).heap[C]?=OC (iP G (.slice A4 (dN G.cf d rq).1.people.length n4) (.slice A5 ks6.length n5) (.slice A6 (dN G.cf d rq).1.subs.length n6) (aT T) ever1 vw) 153:=bZ;have hf14:ag (Fr [(153,C,C+1)] [] w13) w13 (w13.setCell ⟨C,20,none⟩ (OV T)):=xY (B:=C) (E:=C+1) hs14 hC13 sM leR oM;have HF14:=OH hf14;clear hs14 hf14 hC13 cC fC zC hCr;generalize w13.setCell _ _=w14 at *;have hBd:=mS (mS HB9.out HCR.out rM sM) (aF (aY (ts:=[(153,C,C+1)]) (ms:=[]) HG13.out) HF14.out) rM sM;have HBd:=OH hBd;clear hBd;have hroom:=of_decide_eq_true HBB.out;have hGd:=ag.refl af w14;refine rl 8 (λw'=>Bk w' C (iP G (.slice A4 (dN G.cf d rq).1.people.length n4) (.slice A5 ks6.length n5) (.slice A6 (dN G.cf d rq).1.subs.length n6) (aT T) ever1 vw) 153) (λw0_ hc0=>?_);have hC14:=ae hc0 hC14 id;have hGd:=ag.trans hGd hc0;refine Ak;refine qU;refine tk 7 ?_;refine oL;refine(TP (HBd.out.below hGd.none) ⟨T,0,none⟩ hroom).mono ?_;rintro r' w15 ⟨rfl,hB15,hc15⟩;refine oK;obtain⟨w99,hw99⟩:∃z,z=w15:=⟨_,rfl⟩
        have hrg:=Bd (ts:=[(153,C,C+1),(124,BP,0),(352,BP,0),(128,BP,0),(346,BP,0),(232,BB,0),(139,BB,0),(66,0,0)]) (ms:=[G.M]) (HBd.out.below hGd.none) hc15 sM sM;have hrg2:=Bd (ts:=[(232,BB,0),(139,BB,0)]) (ms:=[]) (HBd.out.below hGd.none) hc15 sM sM;have hm14:ag (Fr [(153,C,C+1)] [] wr) wr w0_:=aF (aF (aY HG13.out) HF14.out) (aY hGd);have hm15:ag (Fr [(153,C,C+1),(232,BB,0),(139,BB,0)] [] wr) wr w15:=aF (dq hm14 sM sM) (dq hrg2 sM sM);have hC15:=bJ hrg2 hC14 rM;have hall:ag (Fr [(153,C,C+1),(124,BP,0),(352,BP,0),(128,BP,0),(346,BP,0),(232,BB,0),(139,BB,0)] [G.M] w) w w15:=aF (aF (dq HCU.out sM sM) (dq HCR.out sM sM)) (dq hm15 sM sM);clear hw99;refine df;refine .inr ⟨pz,_,_,_,B',l1,live1,ever1,se1,some ⟨T,0,none⟩,ep+1,wt2,se2,λi=>tabs i++ [OV T],⟨hB6',HDR.out.chg hm15 eR eR eR eR⟩,wr,⟨PI HCU.out.size hzr,dq hm15 sM sM⟩,HX9.out.mono λD q=>⟨q.1,hDN _ _ _ q.2 (dq HCR.out sM sM)⟩,.inr ⟨hk0,rfl,by rw[HGN2.out];exact HGS2.out,T,rfl,hTl,?_,rfl⟩,rfl,hC15,?_,HPR.out.chg hm15 eR eR eR,HMR.out.fr hm15 sM,hB15,hall⟩
        .exact HTT.out.fr (aF (aF (dq HF14.out (us:=[(153,C,C+1),(232,BB,0),(139,BB,0)]) (ns:=[]) sM sM) (aY hGd)) (dq hrg2 sM sM)) rM sM
        .have ha:=HA9.out.chg HCR.out (λq=>gh rM _ _ q HA9.out.p) (λq=>gh rM _ _ q HA9.out.l)
         exact ha.chg hm15 (λq=>gh rM _ _ q ha.p) (λq=>gh rM _ _ q ha.l)
def eF(ts:List TypeId)(ms:Nat->Prop)(w:World)(S:Nat->Prop):Prop:=∀j,j<w.heap.size->S j->(∃c t,w.heap[j]?=OC c t/\(ts.all λu=>u !=t)=true)\/((∀c t,w.heap[j]?≠OC c t)/\¬ms j)
section
variable {ts:List TypeId}{ms ms':Nat->Prop}{w w':World}{S S':Nat->Prop}
theorem eF.off(h:eF ts ms w S)(ht:(ts.any λu=>u==t)=true:=by decide):gk S t w:=λj cur hj q=>by
 rcases h j (Array.getElem?_eq_some_iff.1 q).1 hj with⟨c,u,k,hu⟩|⟨k,_⟩
 .rw[k]at q
  simp only[Option.some.injEq,Xa7.injEq]at q;obtain⟨_,rfl,_⟩:=q;exact Yo
 .exact k _ _ q
theorem eF.not(h:eF ts ms w S)(hg:w.heap[g]?=OC c t)(ht:(ts.any λu=>u==t)=true:=by decide):¬S g:=λq=>h.off ht g c q hg
theorem eF.obj(h:eF ts ms w S)(hl:g<w.heap.size)(hg:∀c t,w.heap[g]?≠OC c t)(hm:ms g):¬S g:=λq=>by
 rcases h g hl q with⟨c,u,k,_⟩|⟨_,k⟩
 .exact hg _ _ k
 .exact k hm
theorem eF.mp{α:Type}{P:Program}{enc:α->Value}{ok:α->Prop}{L:List (α×Value)}(h:eF ts ms w S)(hb:bH w P k enc ok b L)(hm:ms b):¬S b:=h.obj hb.lt (λ_ _ q=>hb.ne q rfl) hm
theorem eF.or(h:eF ts ms w S)(h':eF ts ms w S'):eF ts ms w (λj=>S j\/S' j):=λj hl q=>q.elim (h j hl) (h' j hl)
theorem eF.mono{us:List TypeId}(h:eF ts ms w S)(hu:us ⊆ ts)(hm:∀j,ms' j->ms j):eF us ms' w S:=λj hl q=>(h j hl q).imp (λ⟨c,t,k,e⟩=>⟨c,t,k,Xa2.2 λu hu'=>Xa2.1 e u (hu hu')⟩) λ⟨k,e⟩=>⟨k,λq=>e (hm j q)⟩
theorem eF.one(hg:w.heap[g]?=OC c t)(ht:(ts.all λu=>u !=t)=true):eF ts ms w (λj=>j=g):=λj _ e=> .inl (by subst e;exact⟨c,t,hg,ht⟩)
theorem eF.fr{us:List (TypeId×Nat×Nat)}(ht:(us.all λp=>ts.all λu=>u !=p.1)=true)(hm:∀j∈ns,¬ms j):eF ts ms w (Fr us ns w):=λj _ q=>by
 rcases q with⟨q,k⟩|⟨p,hp,_,_,cur,k⟩
 .exact .inr ⟨k,hm j q⟩
 .exact .inl ⟨cur,p.1,k,Xa2.1 ht p hp⟩
end
structure Cx where
 C:Nat
 G:Kx
 R:Nat
 LP:Nat
 LA2:Nat
 QA:Nat
 RA:Nat
 LA:Nat
 q:Nat->Nat
 r:Nat->Nat
 DM:Nat
 n:Nat
 room:Nat
 li:Nat
 win:Nat
 B:Nat
 b:Nat
structure Cs where
 inq:List Ca
 L:List Dd.En
 d:De
 t:Option Tb
 ever:Int
 se:List Se
 ps:List Pd
 l:List Sl
 live:Int
 ws:List Pw
 wt:List Wt
 tabs:Nat->List Tb
 acks:List (Int×Int)
 last:List Int
abbrev Iw(f:Nat->List Tb):Nat->List Value:=λi=>(f i).map λt=>nA (some t)
structure bh(w:World)(X:Cx)(M:Nat->Prop)(m:Nat)(s:Cs):Prop where
 c:∃vp vt vs A cap BD,w.heap[X.C]?=OC (iP X.G vp vt vs (s.t.map λt=>⟨t.at',0,none⟩) s.ever (.slice A s.ps.length cap)) 153/\bK w BD vp vt vs s.d/\dD w X.B (.slice A s.ps.length cap) s.ps
 q:∃a cur,eD w X.G.Q X.R 235 143 2 X.li a (s.inq.map cwC) cur
 ca:px w 0 s.inq
 seen:Dd.ed w X.G.D X.DM X.B X.win m s.L
 se:bH w prog 333 (E2 .i64 .i64) (O2 .i64 .i64) X.G.M (vL s.se)
 a:At w X.G.A X.LA2 124 352 s.l s.live
 p:br w X.b X.G.P X.LP s.ws s.wt
 b:aH w X.b X.G.B X.QA X.RA X.LA X.n X.q X.r X.room (Iw s.tabs) s.acks s.last
 t:gj w M s.t
 tt:∀i,i<X.n->∀t∈s.tabs i,gj w M (some t)
 mm:∀j,M j->j<w.heap.size/\∀c t,w.heap[j]?≠OC c t
 nm:¬M X.G.M/\¬M X.DM/\X.G.M≠X.DM
 st:X.G.n=X.n/\1<=X.n/\X.n<=4/\X.LA<X.B/\X.B<=w.heap.size/\s.ws.length=X.n
 lo:(X.b<=X.C/\X.b<X.B)/\(X.b<=X.G.Q/\X.b<=X.R)/\(X.b<=X.G.A/\X.b<=X.LA2)/\X.b<=X.G.D/\X.b<=X.DM/\X.b<=X.G.M
abbrev ctT:List TypeId:=[153,167,173,170,52,263,265,3,235,143,5,238,47,124,352,128,317,346,136,229,132,232,139,137,279]
abbrev Hj(X:Cx)(M:Nat->Prop)(j:Nat):Prop:=M j\/j=X.G.M\/j=X.DM
theorem gj.apt{ms:Nat->Prop}{ts:List TypeId}{t:Option Tb}(h:gj w M t)(hc:ag S w w')(hS:eF ts ms w S)(ht:(ts.any λu=>u==279)=true)(hM:∀j,M j->ms j)(hm:∀j,M j->j<w.heap.size/\∀c t,w.heap[j]?≠OC c t):gj w' M t:=
 h.kept hc (hS.off ht) λj hj _=>hS.obj (hm j hj).1 (hm j hj).2 (hM j hj)
theorem Dd.ed.apt{M:Nat}{L:List Dd.En}{ms:Nat->Prop}{ts:List TypeId}(h:Dd.ed w T M B room n L)(hc:ag S w w')(hS:eF ts ms w S)(h1:(ts.any λu=>u==238)=true)(h2:(ts.any λu=>u==47)=true)(hM:ms M):Dd.ed w' T M B room n L:=by obtain⟨v,hv,hq⟩:=h.row;exact⟨⟨v,ae hc hv (hS.not hv h1),hq.kept λg hg=>(λ⟨_,hlt,cur,hcur⟩=>hc.block g hlt (hS.not hcur h2)) (hq.block hg)⟩,h.map.same (hc.block M h.map.lt (hS.obj h.map.lt (λ_ _ q=>h.map.not_cells q rfl) hM)),h.bT,h.bM,PI h.bw hc.size⟩
theorem bh.apt{X:Cx}{s:Cs}(h:bh w X M m s)(hc:ag S w w')(hS:eF ctT (Hj X M) w S):bh w' X M m s:=by
 refine sr;refine fK;have hm:∀j,M j->Hj X M j:=λ_=> .inl
 exact⟨⟨vp,vt,vs,A,cap,BD,ae hc c1 (hS.not c1),c2.chg hc hS.off hS.off hS.off hS.off,c3.chg hc hS.off hS.off hS.off⟩,⟨a,cur,hq.kept hc (hS.not hq.q) (hS.not hq.r)⟩,h.ca.chg hc hS.off,h.seen.apt hc hS dM dM (.inr (.inr rfl)),h.se.chg hc (hS.mp h.se (.inr (.inl rfl))),h.a.chg hc (hS.not h.a.p) (hS.not h.a.l),h.p.chg hc hS.off hS.off hS.off,h.b.keep hc hS.off hS.off hS.off (hS.not h.b.la) hS.off hS.off hS.off,h.t.apt hc hS dM hm h.mm,λi hi t ht=>(h.tt i hi t ht).apt hc hS dM hm h.mm,λj hj=>⟨Xa0 (h.mm j hj).1 hc.size,λc t q=>(h.mm j hj).2 c t ((hc.block j (h.mm j hj).1 (hS.obj (h.mm j hj).1 (h.mm j hj).2 (.inl hj))) ▸ q)⟩,h.nm,⟨h.st.1,h.st.2.1,h.st.2.2.1,h.st.2.2.2.1,PI h.st.2.2.2.2.1 hc.size,h.st.2.2.2.2.2⟩,h.lo⟩
theorem gx{ts:List TypeId}{ms:Nat->Prop}:eF ts ms w af:=λ_ _ q=>q.elim
theorem bh.below{X:Cx}{s:Cs}(h:bh w X M m s)(hb:aC w w'):bh w' X M m s:=h.apt (S:=af) (.of hb) gx
section
variable {w w':World}{X:Cx}{M ms:Nat->Prop}{m:Nat}{s:Cs}{S:Nat->Prop}
theorem bh.pc(h:bh w X M m s)(hc:ag S w w')(hS:eF [153,167,173,170,52,263,265,3] ms w S):∃vp vt vs A cap BD,w'.heap[X.C]?=OC (iP X.G vp vt vs (s.t.map λt=>⟨t.at',0,none⟩) s.ever (.slice A s.ps.length cap)) 153/\bK w' BD vp vt vs s.d/\dD w' X.B (.slice A s.ps.length cap) s.ps:=by refine sr;exact⟨vp,vt,vs,A,cap,BD,ae hc c1 (hS.not c1),c2.chg hc hS.off hS.off hS.off hS.off,c3.chg hc hS.off hS.off hS.off⟩
theorem bh.pq(h:bh w X M m s)(hc:ag S w w')(hS:eF [235,143] ms w S):∃a cur,eD w' X.G.Q X.R 235 143 2 X.li a (s.inq.map cwC) cur:=by refine fK;exact⟨a,cur,hq.kept hc (hS.not hq.q) (hS.not hq.r)⟩
theorem bh.pca(h:bh w X M m s)(hc:ag S w w')(hS:eF [5] ms w S):px w' 0 s.inq:=h.ca.chg hc hS.off
theorem bh.psn(h:bh w X M m s)(hc:ag S w w')(hS:eF [238,47] (λj=>j=X.DM) w S):Dd.ed w' X.G.D X.DM X.B X.win m s.L:=h.seen.apt hc hS dM dM rfl
theorem bh.pse(h:bh w X M m s)(hc:ag S w w')(hS:eF [] (λj=>j=X.G.M) w S):bH w' prog 333 (E2 .i64 .i64) (O2 .i64 .i64) X.G.M (vL s.se):=h.se.chg hc (hS.mp h.se rfl)
theorem bh.pa(h:bh w X M m s)(hc:ag S w w')(hS:eF [124,352] ms w S):At w' X.G.A X.LA2 124 352 s.l s.live:=h.a.chg hc (hS.not h.a.p) (hS.not h.a.l)
theorem bh.pp(h:bh w X M m s)(hc:ag S w w')(hS:eF [128,317,346] ms w S):br w' X.b X.G.P X.LP s.ws s.wt:=h.p.chg hc hS.off hS.off hS.off
theorem bh.pb(h:bh w X M m s)(hc:ag S w w')(hS:eF [136,229,132,232,139,137] ms w S)(hl:¬S X.LA):aH w' X.b X.G.B X.QA X.RA X.LA X.n X.q X.r X.room (Iw s.tabs) s.acks s.last:=h.b.keep hc hS.off hS.off hS.off hl hS.off hS.off hS.off
theorem bh.pt(h:bh w X M m s)(hc:ag S w w')(hS:eF [279] M w S):gj w' M s.t:=h.t.apt hc hS dM (λ_=>id) h.mm
theorem bh.ptt(h:bh w X M m s)(hc:ag S w w')(hS:eF [279] M w S):∀i,i<X.n->∀t∈s.tabs i,gj w' M (some t):=λi hi t ht=>(h.tt i hi t ht).apt hc hS dM (λ_=>id) h.mm
theorem bh.pmm(h:bh w X M m s)(hc:ag S w w')(hS:eF [] M w S):∀j,M j->j<w'.heap.size/\∀c t,w'.heap[j]?≠OC c t:=λj hj=>⟨Xa0 (h.mm j hj).1 hc.size,λc t q=>(h.mm j hj).2 c t ((hc.block j (h.mm j hj).1 (hS.obj (h.mm j hj).1 (h.mm j hj).2 hj)) ▸ q)⟩
theorem bh.pst(h:bh w X M m s)(hc:ag S w w')(hw:ws.length=s.ws.length):X.G.n=X.n/\1<=X.n/\X.n<=4/\X.LA<X.B/\X.B<=w'.heap.size/\ws.length=X.n:=⟨h.st.1,h.st.2.1,h.st.2.2.1,h.st.2.2.2.1,PI h.st.2.2.2.2.1 hc.size,hw.trans h.st.2.2.2.2.2⟩
theorem eF.la(hg:w.heap[g]?=OC c t)(ht:(ts.all λp=>p.1 !=t)=true):¬Fr ts ns w g:=λq=>gh ht g c q hg
end
def ui(w w':World)(M':Nat->Prop)(kp:Nat)(D:Nat):Prop:=∃S R Mm sx,dC w' 0 D S R Mm kp sx JB/\∀j,iB D S R Mm j->w.heap.size<=j/\¬M' j
structure Hw(X:Cx)(s:Cs)(q:Rq):Prop where
 new:q.kind=5->(dN X.G.cf s.d q).2=0->dK (vL s.se) (q.who,q.track)=none
 rg:(0<=q.who/\q.who<=65535)/\0<=q.track/\q.track<=65535
 wl:q.kind≠0->(dN X.G.cf s.d q).2=0->s.wt.length+(il s.d (dN X.G.cf s.d q).1).length<=64
 fit:(dN X.G.cf s.d q).2=0->Fit (dN X.G.cf s.d q).1
 mks:q.kind≠0->(dN X.G.cf s.d q).2=0->∀l1 live1 ever1 se1,T7 q s.l s.live s.ever s.se (λ_=>True) l1 live1 ever1 se1->QH X.n (dN X.G.cf s.d q).1 (eB (gw s.t+1) (se1,s.wt) (il s.d (dN X.G.cf s.d q).1)).1
 dl:(dN X.G.cf s.d q).1.subs.length<=12
structure QK(X:Cx)(s:Cs):Prop where
 fit:Fit s.d
 sw:∀x∈s.d.subs,(0<=x.who/\x.who<=65535)/\0<=x.track/\x.track<=65535
 l64:s.l.length<=64
 tn:∀x∈s.l,0<=x.turn/\x.turn<=1000000
 lv:0<=s.live/\s.live<=64
 ev:0<=s.ever/\s.ever<=1000000
 ep:0<=gw s.t/\gw s.t<=900000
 ps:s.ps.length<=900
 kp:∃kp:Nat,X.G.keep=kp/\1<=kp/\kp<=4096
structure uE(X:Cx)(L:List Dd.En):Prop where
 ok:Dd.Ok L X.win
 win:1<=X.win/\X.win<=4096
 an:∀x,(Dd.PL L x).1.size<=9
def J1(X:Cx)(s:Cs)(q:Rq)(ND:Nat->Prop)(ep:Int)(s':Cs):Prop:=
 (dN X.G.cf s.d q).2=0/\((q.kind=0/\ep=0/\s'= {s with d:=(dN X.G.cf s.d q).1}) \/
  (q.kind≠0/\ep=gw s.t+1/\∃l1 live1 ever1 se1 se2 wt2,∃T:Tb,T7 q s.l s.live s.ever s.se ND l1 live1 ever1 se1/\eB (gw s.t+1) (se1,s.wt) (il s.d (dN X.G.cf s.d q).1)=(se2,wt2) /\
   T.ep=gw s.t+1/\T.rs=ch X.n (dN X.G.cf s.d q).1.tracks/\T.ds=(dN X.G.cf s.d q).1.subs.map (ec X.n (dN X.G.cf s.d q).1.tracks se2) /\
   s'= {s with d:=(dN X.G.cf s.d q).1,t:=some T,ever:=ever1,se:=se2,l:=l1,live:=live1,wt:=wt2,tabs:=λi=>s.tabs i++ [T] }))
def DoN(X:Cx)(s:Cs)(q:Rq)(err:Int):Prop:=err≠0/\(¬(∀i,i<X.n->(s.tabs i).length<X.room)\/(dN X.G.cf s.d q).2≠0\/(q.kind=5/\∀ (j:Nat) (h:j<s.l.length),s.l[j].used=true))/\0<=err/\err<2 ^ 63
abbrev doT(b:Nat):List (TypeId×Nat×Nat):=[(153,b,0),(124,b,0),(352,b,0),(128,b,0),(346,b,0),(232,b,0),(139,b,0)]
def Do2E(w:World)(X:Cx)(M:Nat->Prop)(m:Nat)(s:Cs)(q:Rq)(e:Ending)(w':World):Prop:=∃ep err M' s',e=aA (.tuple #[JU ep,JI err])/\(∀j,M j->M' j)/\(∀j,M' j->M j\/w.heap.size<=j)/\bh w' X M' m s'/\ag (Fr (doT X.b) [X.G.M] w) w w' /\
 ((ep=0/\s'=s/\DoN X s q err)\/(err=0/\J1 X s q (ui w w' M' X.G.keep.toNat) ep s'))
theorem dC.fr{D S R Mm:Nat}{s:Int}{x:oz}(h:dC w N D S R Mm n s x)(hc:ag (Fr ts ms w) w w')(ht:(ts.all λp=>p.1 !=379&&p.1 !=243&&p.1 !=430&&p.1 !=5)=true)(hm:∀j∈ms,¬iB D S R Mm j):dC w' N D S R Mm n s x:=by
 refine h.chg hc (λj hj hD=>?_) (gh (Xa2.2 λp hp=>?_))
 .rcases hj with⟨q,_⟩|⟨p,hp,_,_,cur,q⟩
  .exact hm j q hD
  .refine eC h q ?_ hD
   have:=Xa2.1 ht p hp;simp only[Xa9,bne_iff_ne,ne_eq]at this;exact⟨this.1.1.1,this.1.1.2,this.1.2⟩
 .have:=Xa2.1 ht p hp
  simp only[Xa9]at this;exact this.2
theorem br.low{L:Nat}(h:br w B P L ws wt)(hb:B'<=B):br w B' P L ws wt:=by refine oE;exact⟨⟨v,h1,aW h2 hb⟩,h.l,h.le,PI hb h.bP,PI hb h.bL⟩
theorem dofr(hb:b<=C)(hc:ag (Fr [(153,C,C+1),(124,b,0),(352,b,0),(128,b,0),(346,b,0),(232,b,0),(139,b,0)] [g] w) w w'):ag (Fr (doT b) [g] w) w w':=hc.mono λj _ q=>q.imp id λ⟨p,hp,hle,_,cur,k⟩=>by refine qF;rcases hp with rfl|rfl|rfl|rfl|rfl|rfl|rfl<;>exact⟨(_,b,0),sM,Ki,.inl rfl,cur,k⟩
theorem do2_t{X:Cx}{s:Cs}{q:Rq}(h:bh w X M m s)(ok:QK X s)(hq:rh w A cap q)(hh:Hw X s q):az 112 #[OV X.C,.agg (fq q A cap)] w (Do2E w X M m s q):=by
 obtain⟨vp,vt,vs,vA,vcap,BD,c1,c2,c3⟩:=h.c;obtain⟨kp,k0,k1,k2⟩:=ok.kp;have hMlt:=h.se.lt;refine(cdo_t (DN:=λW D=>∃S R Mm sx,dC W 0 D S R Mm kp sx JB/\∀j,iB D S R Mm j->w.heap.size<=j/\j<W.heap.size) c1 c2 ok.fit hq h.b h.a ok.l64 ok.tn ok.lv h.se hh.new hh.rg ok.ev h.p h.lo.2.2.1 (by have:=h.st;have:=h.lo;omega) hh.wl hh.fit (ep:=gw s.t) ok.ep.1 (by have:=ok.ep;omega) (λW hc=>?_) ok.sw h.st.1 h.st.2.1 h.st.2.2.1 hh.mks ?_ ?_).mono ?_
 .have hk:=h.t.apt (ms:=M) (ts:=[279]) hc (eF.fr rM (by simp[h.nm.1])) dM (λ_=>id) h.mm
  exact oO hk
 .intro W sx s0 s1 hz
  refine(TE W kp sx X.G.keep k0 ⟨k1,k2⟩ ⟨s0,s1⟩).mono ?_;rintro e w' ⟨D,S,R,Mm,rfl,hd,hl,hb⟩;refine⟨D,rfl,hl D (.inl rfl),⟨S,R,Mm,sx,hd,λj hj=>⟨PI hz (hl j hj),?_⟩⟩,hb⟩;obtain⟨l1,l2,l3⟩:=hd.k.lt;rcases hj with e|e|e|e
  .exact e ▸ aB hd.d
  .exact e ▸ l1
  .exact e ▸ l2
  .exact e ▸ l3
 .rintro W W' D ⟨S,R,Mm,sx,hd,hl⟩ hc
  exact⟨S,R,Mm,sx,hd.fr hc rM (λj hj hD=>by simp only[Xa4]at hj;subst hj;have:=(hl _ hD).1;omega),λj hj=>⟨(hl j hj).1,Xa0 (hl j hj).2 hc.size⟩⟩
 .rintro e w' (⟨err,rfl,he,hA,hc,hw,hb0,hb1⟩|⟨hd0,vp',vt',vs',B',l1,live1,ever1,se1,t1,ep1,wt2,se2,tabs2,⟨hB',hD'⟩,wm,⟨hwm,hcm⟩,hX,hor,rfl,hC',hA',hP',hMp,hBd,hc⟩)
  .refine⟨0,err,M,s,rfl,λ_=>id,λ_=> .inl,?_,dq hc sM sM,.inl ⟨rfl,rfl,he,?_,hb0,hb1⟩⟩
   .exact⟨h.pc (ms:=λ_=>False) hc gm,h.pq (ms:=λ_=>False) hc gm,h.pca (ms:=λ_=>False) hc gm,h.psn hc gm,h.pse hc gm,hA,h.pp (ms:=λ_=>False) hc gm,h.pb (ms:=λ_=>False) hc gm yR,h.pt hc gm,h.ptt hc gm,h.pmm hc gm,h.nm,h.pst hc rfl,h.lo⟩
   .rcases hw with hw|hw|hw
    .exact .inl λq=>hw λi hi=>by rw[Xa3];exact q i hi
    .exact .inr (.inl hw)
    .exact .inr (.inr hw)
  .have hkp:X.G.keep.toNat=kp:=by rw[k0];rfl
   have hwt:dD w' X.B (.slice vA s.ps.length vcap) s.ps:=c3.chg hc eR eR eR;have hG:∀j∈ [X.G.M],¬M j:=by simp[h.nm.1]
   have hND:∀M':Nat->Prop,(∀j,M' j->M j\/wm.heap.size<=j)->∀D,(w.heap.size<=D/\∃S R Mm sx,dC wm 0 D S R Mm kp sx JB/\∀j,iB D S R Mm j->w.heap.size<=j/\j<wm.heap.size)->ui w w' M' X.G.keep.toNat D:=by
    rintro M' hM' D ⟨_,S,R,Mm,sx,hd,hl⟩;rw[hkp];refine⟨S,R,Mm,sx,hd.fr hcm rM (λj hj hD=>?_),λj hj=>⟨(hl j hj).1,λq=>?_⟩⟩
    .simp only[Xa4]at hj
     subst hj;have:=(hl _ hD).1;omega
    .rcases hM' j q with q|q
     .have:=(h.mm j q).1
      have:=(hl j hj).1;omega
     .have:=(hl j hj).2
      omega
   rcases hor with⟨hk,rfl,rfl,rfl,rfl,rfl⟩|⟨hk,rfl,hg,T,rfl,hTl,hTT,rfl⟩
   .rcases hX with⟨_,rfl,rfl,rfl,rfl⟩|⟨h5,_⟩
    .exact⟨0,0,M,{s with d:=(dN X.G.cf s.d q).1},rfl,λ_=>id,λ_=> .inl,⟨⟨vp',vt',vs',vA,vcap,B',hC',hD',hwt⟩,h.pq (ms:=λ_=>False) hc gm,h.pca (ms:=λ_=>False) hc gm,h.psn hc (eF.fr rM (by simp[h.nm.2.2])),hMp,hA',hP',hBd,h.pt hc (eF.fr rM hG),h.ptt hc (eF.fr rM hG),h.pmm hc (eF.fr rM hG),h.nm,h.pst hc rfl,h.lo⟩,dofr h.lo.1.1 hc,.inr ⟨rfl,hd0,.inl ⟨hk,rfl,rfl⟩⟩⟩
    .omega
   .obtain⟨MR,MD,a1,a2,a3,a4,a5⟩:=hTT.e
    have hsz:wm.heap.size<=w'.heap.size:=hcm.size;obtain⟨M',hM'⟩:∃M':Nat->Prop,M'=λj=>M j\/(wm.heap.size<=j/\j<w'.heap.size/\∀c t,w'.heap[j]?≠OC c t):=⟨_,rfl⟩
    have hl:∀j,M j->M' j:=λj q=>by rw[hM'];exact .inl q
    have hu:∀j,M' j->M j\/wm.heap.size<=j:=λj q=>by rw[hM']at q;exact q.imp id λq=>q.1
    have hT':gj w' M' (some ⟨T,gw s.t+1,ch X.n (dN X.G.cf s.d q).1.tracks,(dN X.G.cf s.d q).1.subs.map (ec X.n (dN X.G.cf s.d q).1.tracks se2)⟩):=λx hx=>by
     cases hx;refine⟨⟨MR,MD,a1,a2,a3,?_,?_⟩,by rw[Xa3];exact hh.dl,by have:=ok.ep;dsimp only;omega,by have:=ok.ep;dsimp only;omega⟩
     .rw[hM']
      exact .inr ⟨a4,a2.lt,λc t q=>a2.ne q rfl⟩
     .rw[hM']
      exact .inr ⟨a5,a3.lt,λc t q=>a3.ne q rfl⟩
    have hup:∀t,gj w' M t->gj w' M' t:=λt ht x hx=>⟨(ht x hx).1.mono λj _ q=>hl j q,(ht x hx).2⟩
    have hmm:∀j,M' j->j<w'.heap.size/\∀c t,w'.heap[j]?≠OC c t:=λj q=>by rw[hM']at q;exact q.elim (h.pmm hc (eF.fr rM hG) j) λq=>q.2
    have hnm:¬M' X.G.M/\¬M' X.DM/\X.G.M≠X.DM:=by
     refine⟨λq=>(hu _ q).elim h.nm.1 λq=>?_,λq=>(hu _ q).elim h.nm.2.1 λq=>?_,h.nm.2.2⟩
     .omega
     .have:=h.seen.map.lt
      omega
    refine⟨gw s.t+1,0,M',{s with d:=(dN X.G.cf s.d q).1,t:=some ⟨T,gw s.t+1,ch X.n (dN X.G.cf s.d q).1.tracks,(dN X.G.cf s.d q).1.subs.map (ec X.n (dN X.G.cf s.d q).1.tracks se2)⟩,ever:=ever1,se:=se2,l:=l1,live:=live1,wt:=wt2,tabs:=λi=>s.tabs i++ [⟨T,gw s.t+1,ch X.n (dN X.G.cf s.d q).1.tracks,(dN X.G.cf s.d q).1.subs.map (ec X.n (dN X.G.cf s.d q).1.tracks se2)⟩] },rfl,hl,λj q=>(hu j q).imp id λq=>PI hwm q,⟨⟨vp',vt',vs',vA,vcap,B',hC',hD',hwt⟩,h.pq (ms:=λ_=>False) hc gm,h.pca (ms:=λ_=>False) hc gm,h.psn hc (eF.fr rM (by simp[h.nm.2.2])),hMp,hA',hP',?_,hT',λi hi t ht=>?_,hmm,hnm,h.pst hc rfl,h.lo⟩,dofr h.lo.1.1 hc,.inr ⟨rfl,hd0,.inr ⟨hk,rfl,l1,live1,ever1,se1,se2,wt2,⟨T,gw s.t+1,ch X.n (dN X.G.cf s.d q).1.tracks,(dN X.G.cf s.d q).1.subs.map (ec X.n (dN X.G.cf s.d q).1.tracks se2)⟩,hX.mono (hND M' hu),hg,rfl,rfl,rfl,rfl⟩⟩⟩
    .have e:Iw (λi=>s.tabs i++ [⟨T,gw s.t+1,ch X.n (dN X.G.cf s.d q).1.tracks,(dN X.G.cf s.d q).1.subs.map (ec X.n (dN X.G.cf s.d q).1.tracks se2)⟩])=λi=>Iw s.tabs i++ [OV T]:=by
      funext i
      simp[Iw]
     rw[e];exact hBd
    .rcases List.mem_append.1 ht with q|q
     .exact hup _ (h.ptt hc (eF.fr rM hG) i hi t q)
     .refine iH
      exact hT'
end Go.Proofs.YtnpancjkjheffaaGreat
