/- Part 10 of the proof of TopSafe. No condition. -/
import Derived.Test.YtnpancjkjheffaaGreatP07
namespace Go.Proofs.YtnpancjkjheffaaGreat
set_option linter.unusedVariables false
set_option linter.unusedSimpArgs false
set_option maxRecDepth 100000
set_option maxHeartbeats 8000000
open Go.RowKit
open Go.Proofs.Tryz
open _root_.List renaming pairwise_iff_getElem->PI,length_append->Xa0,replicate->Xa1,length_map->Xa2,getElem?_eq_getElem->Xa3,length_take->Xa4,getElem?_cons_zero->Xa5,getElem?_cons_succ->Xa6,take_of_length_le->Xa7,length_singleton->Xa8,take_length->Xa9,length_cons->Xb0,getD->Xb1,all_eq_true->Xb2,map_append->Xb3,length_set->Xb4
open _root_.Nat renaming le_trans->Xb5,mul_le_mul_left->Xb6,lt_or_gt_of_ne->Xb7,div_add_mod->Xb8,mul_one->Xb9,mul_add->Xc0,le_refl->Xc1
open Value renaming int->Xc2,ownBlock->Xc3
open World renaming ownsRow_nil->Xc4,news_of_block->Xc5
open _root_.Option renaming some->Xc6
variable {ever live x:Int}{G:Kx}{acks:List (Int×Int)}{ts:List (TypeId×Nat×Nat)}{last zs:List Int}{ms:List Nat}{ws:List Pw}{l:List Sl}{wt:List Wt}{B C E LA M P QA R RA T b cap i j n room:Nat}{tabs:Nat->List Value}{q r:Nat->Nat}{S:Nat->Prop}{o:Obj}{A t:Option Addr}{k:TypeId}{v vp vs vt vw:Value}{w w':World}
theorem Tj:(prog.info? 203).map (λi=>(i.zero,i.size,i.bytes))=some (some (.agg #[JT 0,JI 0,JI 0,JI 0,JI 0]),5,40):=kM
theorem Gj(w:World):(zeroValue 331).run prog w=.ok (.agg #[JI 0,JT 0,JT 0]) w:=kM
theorem SI{α:Type}{P:Program}{e:TypeId}{enc:α->Value}{ok:α->Prop}{L:List (α×Value)}(h:bH w P k enc ok b L):gk (λj=>j=b) e w:=λj cur hj hc=>by subst hj;exact h.ne hc rfl
theorem made_t{K:Kx}{d:De}{se:List Se}(hC:w.heap[C]?=OC (iP K vp vt vs t ever vw) 153)(h:bK w B vp vt vs d)(hM:bH w prog 333 (E2 .i64 .i64) (O2 .i64 .i64) K.M (vL se))(ep:Int)(hn:K.n=n)(n0:1<=n)(n1':n<=4)(h1:d.people.length<=900)(h2:d.tracks.length<=100)(h3:d.subs.length<=100)(h4:∀t∈d.tracks,t.ssrcs.length<=3/\0<=t.id/\t.id<=999/\0<=t.frm/\t.frm<=1000000)(h5:∀x∈d.subs,0<=x.who/\x.who<=999/\0<=x.track/\x.track<=999)(r1:∀x∈ch n d.tracks,OI .u32 x.ssrc/\x.ssrc<2147483648/\O2 .i64 .i64 (x.track,x.layer))(r2:((ch n d.tracks).map Rt.ssrc).Nodup)(r3:((ch n d.tracks).map λx=>(x.track,x.layer)).Nodup)(d1:∀x∈d.subs.map (ec n d.tracks se),OI .u32 x.ssrc/\2147483648<=x.ssrc/\O2 .i64 .i64 (x.who,x.track)/\O2 .i64 .u32 (x.slot,x.turn))(d2:((d.subs.map (ec n d.tracks se)).map Dn.ssrc).Nodup)(d3:((d.subs.map (ec n d.tracks se)).map λx=>(x.who,x.track)).Nodup)(d4:((d.subs.map (ec n d.tracks se)).map λx=>(x.slot,x.turn)).Nodup) :
  az 159 #[OV C,JU ep] w λe w'=>∃T,e=aA (.tuple #[OV T,JI 0])/\w.heap.size<=T/\dE w' (λj=>w.heap.size<=j) T ep (ch n d.tracks) (d.subs.map (ec n d.tracks se))/\aC w w':=by
 obtain⟨i0,hi0,hz0,hz1,hz2⟩:=aI Tj;obtain⟨i1,hi1,hy0,hy1,hy2⟩:=aI G9;have hmk:=λW vr vd hB hr hd hrl=>make_t (w:=W) (B:=w.heap.size) (ep:=ep) (vr:=vr) (vd:=vd) hB hr hd hrl r1 r2 r3 Ck d1 d2 d3 d4
 have HMK:=OH hmk;clear hmk r1 r2 r3 d1 d2 d3 d4;obtain⟨hp,⟨ks,hk,hks⟩,hs⟩:=h;refine KW;have HK:=OH hks;have hkl:=hks.1;have HT:=OH hk;refine jM;refine rL;have HM:=OH hM;have H4:=OH h4;have H5:=OH h5;clear hks hp hk hs hM h4 h5 hkl;refine nN;have hMl:=HM.out.lt;refine oN;go_enter func159,ntmps159;refine ay;clear hmm;have hm0:=bH.made w prog 3 (Xc2 .i64) (OI .i64);go_loopw [6,23] (λv i wr=>∃k:Nat,k<=ks.length/\i=JI k/\wr.ownsRow w.heap.size 203 5 v (ch n (d.tracks.take k)).length ((ch n (d.tracks.take k)).flatMap kE)/\bH wr prog 3 (Xc2 .i64) (OI .i64) w.heap.size (uy (d.tracks.take k))/\aC w wr) (λ_ i _=>ks.length- (intOf i).toNat);case atStart=>exact⟨0,oM,rfl,Xc4 _ _ _ _,hm0,gM⟩
 case round=>
  clear hm0;obtain⟨k,hk,rfl,hown,hMf,hB⟩:=hrel;have hCw:wr.heap[C]?=_:=(hB.block _ zC).trans hC;refine EL;have HMF:=OH hMf;clear hMf;have zB:=hB.size;by_cases hlt:k<ks.length
  .have hkt:k<d.tracks.length:=by have:=HKL.out;omega
   obtain⟨g,rfl,hg1,hg2,hg3⟩:=cM dt HT.out hlt;have g0:=(hB.cell (p:=⟨g,k*4,none⟩) hg2).trans (hg3 0 dM);have g1:=(hB.cell (p:=⟨g,k*4+1,none⟩) hg2).trans (hg3 1 dM);have g2:=(hB.cell (p:=⟨g,k*4+2,none⟩) hg2).trans (hg3 2 dM);have g3:=(hB.cell (p:=⟨g,k*4+3,none⟩) hg2).trans (hg3 3 dM);clear hg3;have htk:=HK.out.2 k hlt hkt;obtain⟨hs1,hi1',hi2,hf1,hf2⟩:=H4.out d.tracks[k] (List.getElem_mem hkt);have hRS:=wW n d.tracks k hkt;have hFS:=Jl d.tracks k hkt;generalize ks[k]=x at *;generalize d.tracks[k]=y at *;obtain⟨xid,xow,xfr,xa,xn,xc⟩:=x;obtain⟨t1,t2,t3,t4⟩:=htk;have HRS:=OH hRS;clear hRS;have HFS:=OH hFS;clear hFS;dsimp only[eU,Xa5,Xa6]at g0 g1 g2 g3;dsimp only at t1 t2 t3 t4 g0 g1 g2 g3;rw[t1]at g0;rw[t2]at g1;rw[t3]at g2;have HTK:=OH (show gy w B ⟨xid,xow,xfr,xa,xn,xc⟩ y from⟨t1,t2,t3,t4⟩);have hxn:=rj (w:=w) (B:=B) (k:=⟨xid,xow,xfr,xa,xn,xc⟩) (t:=y) ⟨t1,t2,t3,t4⟩;dsimp only at hxn;have HXN:=OH hxn;clear hxn t1 t2 t3 t4;obtain⟨u,hrun,hMu,hcu,hzu⟩:=(HMF.out.chg (S:=af) (w':=wr.alloc (.cells #[JI y.id,JI y.owner,JI y.frm,.slice xa xn xc] 173)) bu id).run_put fc underlying392 (x:=y.id) (ip oM oM) (JI y.frm);rw[←HFS.out]at hMu;have HMU:=OH hMu;clear hMu;have HCU:=OH hcu;clear hcu;have HZU:=OH hzu;clear hzu;refine mA;have hZu:u.heap[wr.heap.size]?=OC #[JI y.id,JI y.owner,JI y.frm,.slice xa xn xc] 173:=(HCU.out.block wr.heap.size KA (by have:=HMF.out.lt;omega)).trans bZ;have hMlt:=HMF.out.lt;have hown1:=ah (dz (o:=.cells #[JI y.id,JI y.owner,JI y.frm,.slice xa xn xc] 173) HOW.out) HCU.out (SI (HMF.out.chg (S:=af) (w':=wr.alloc (.cells #[JI y.id,JI y.owner,JI y.frm,.slice xa xn xc] 173)) bu id));have hB1:aC w u:=hB.trans (Below.trans ((ag.alloc (ag.refl af wr) _).below (λj q=>q.elim) zB) (HCU.out.below (λj q=>oM) KA));have hsi:=kU HTK.out.2.2.2;have hsl:=HXN.out;have HSI:=OH hsi;clear hsi;have hR0:(ch n (d.tracks.take k)).length<=300:=by
    have h9:=qK n (d.tracks.take k) λt ht=>(H4.out t (List.mem_of_mem_take ht)).1
    have h8:(d.tracks.take k).length<=100:=by rw[Xa4];omega
    omega
   obtain⟨R0,hR0e⟩:∃R0,R0=ch n (d.tracks.take k):=⟨_,rfl⟩
   rw[←hR0e]at hown1 hR0 HRS;obtain⟨F1,hF1e⟩:∃F1,F1=uy (d.tracks.take (k+1)):=⟨_,rfl⟩
   rw[←hF1e]at HMU;have HF1:=OH hF1e;clear hR0e HOW HMF HCU hF1e;clear hCw hB;generalize wr.heap.size=Z at *;obtain⟨cZ,fZ,zZ⟩:=ab hZu;obtain⟨m,hm⟩:∃m,m=y.ssrcs.length:=⟨_,rfl⟩
   rw[hsl]at hm;have HTM:=OH hm;refine ay;go_loopw [6,35] (λv i wx=>∃j:Nat,j<=xn/\i=JI j/\wx.ownsRow w.heap.size 203 5 v (R0++d7 n y j).length ((R0++d7 n y j).flatMap kE)/\bH wx prog 3 (Xc2 .i64) (OI .i64) w.heap.size F1/\wx.heap[Z]?=OC #[JI y.id,JI y.owner,JI y.frm,.slice xa xn xc] 173/\aC w wx) (λ_ i _=>xn- (intOf i).toNat);case atStart=>exact⟨0,oM,rfl,by simpa[d7]using hown1,HMU.out,hZu,hB1⟩
   case round=>
    clear hown1 hZu hB1 cZ fZ zZ;obtain⟨j,hj,rfl,hown,hMf,hZ,hB1⟩:=hrel;have hCx:wr.heap[C]?=_:=(hB1.block _ zC).trans hC;obtain⟨cC2,fC2,zC2⟩:=ab hCx;refine zE;refine EL;have HMF:=OH hMf;clear hMf;by_cases hlj:j<xn
    .obtain⟨b,o,rfl,hb,hc⟩:=(HSI.out.below rfl hB1) j (by have:=HXN.out;omega)
     have hRT:=wV n y j;have hid:0<=y.id/\y.id<=1000000:=oM;have hln:(R0++d7 n y j).length<=400:=by
      have:(d7 n y j).length=j:=by simp[d7]
      rw[Xa0];omega
     generalize y.ssrcs.getD j 0=z at hc hRT;have HRT:=OH hRT;clear hRT;obtain⟨R1,hR1⟩:∃R1,R1=R0++d7 n y j:=⟨_,rfl⟩
     rw[←hR1]at HOW hln;have HR1:=OH hR1;clear hR1;go_upto_region 10 with fail;refine ej 14 (S:=(λw'=>Bk w' Z #[JI y.id,JI y.owner,JI y.frm,.slice (some ⟨b,o,none⟩) xn xc] 173/\Bk w' C (iP K (.slice A1 d.people.length n1) (.slice (aT g) ks.length n2) (.slice A3 d.subs.length n3) t ever vw) 153)) kM rM ?_ (λhHeld0=>?_)
     .exact⟨bk,bk⟩
     refine iU;refine tk 9 ?_;refine on 10 λK hK=>?_
     go_simp;refine(GD eM n hn n0 n1' y.id hid).mono ?_;rintro e w2 ⟨rfl,rfl⟩;refine hK.out _ _ ?_ (λhHeld1=>?_)
     .exact⟨bk,bk⟩
     clear hK K;(try clear hHeld0);refine bV;refine tk 11 ?_;refine on 12 λK hK=>?_
     go_simp;refine hK.out _ _ ?_ (λhHeld2=>?_)
     .exact⟨bk,bk⟩
     clear hK K;(try clear hHeld1);refine bV;refine on 13 λK hK=>?_
     have hownA:(wr.drew.alloc (.cells #[JT z,JI y.id,JI y.frm,JI j,JI (y.id % n)] 203)).ownsRow w.heap.size 203 5 u6 R1.length (R1.flatMap kE):=dz HOW.out.drew;refine step_append_lies _ rM _ _ _ rM w.heap.size 203 i0 _ 5 40 underlying391 hi0 hz0 hz1 hz2 rfl oM _ _ _ rM hownA ⟨wr.heap.size,0,none⟩ 1 1 [JT z,JI y.id,JI y.frm,JI j,JI (y.id % n)] rM rM (Xc5 (cs:=#[JT z,JI y.id,JI y.frm,JI j,JI (y.id % n)]) (t:=203) (fr:=(0,0)) bZ) nz oM lM oM (by have:=hB1.size;simp only[aD,bE];omega) _ rfl ?_;intro gg cap2 w3 hown3 hgrow hat hlt3;refine hK.out _ _ ?_ (λhHeld3=>?_)
     .exact⟨aO (aV (t:=173) hownA hgrow bZ dM),aO (aV (t:=153) hownA hgrow bZ dM)⟩
     clear hK K;(try clear hHeld2);refine bV;refine je;clear hK K;have hcg:ag (λi=>u6.ownBlock=some i) wr w3:=ag.grown (v:=u6) ((ag.drew dp).alloc _) hgrow (λi hi _=>hi);have hty:∀ {i:Nat} {cs:Array Value} {t:TypeId},wr.heap[i]?=OC cs t->t≠203->u6.ownBlock≠some i:=λh1 h2 q=>by obtain⟨cur,hq⟩:=bG HOW.out q;exact au h1 h2 hq
     have hM3:=HMF.out.chg hcg (λq=>by obtain⟨cur,hq⟩:=bG HOW.out q;exact HMF.out.ne hq rfl);have hZ3:=ae hcg hZ (hty hZ dM);have hB3:aC w w3:=hB1.trans (hcg.below (λi q=>eV HOW.out i q) hB1.size);have h9:(R1++ [(⟨z,y.id,y.frm,j,y.id % n⟩:Rt)]).flatMap kE=R1.flatMap kE++ [JT z,JI y.id,JI y.frm,JI j,JI (y.id % n)]:=sM;have hown4:w3.ownsRow w.heap.size 203 5 (.slice (aT gg) (R1.length+1) cap2) (R0++d7 n y (j+1)).length ((R0++d7 n y (j+1)).flatMap kE):=by rw[HRT.out,←List.append_assoc,←HR1.out,h9,Xa0];exact hown3
     clear h9 hown3 hgrow hcg hownA;refine dA;case rel=>exact⟨j+1,oM,eT,hown4,hM3,hZ3,hB3⟩
     case measure=>exact di
    .have hjn:j=xn:=oM
     subst hjn;refine dA;case rel=>exact⟨k+1,oM,eT,by rw[HRS.out,HXN.out];exact HOW.out,by rw[←HF1.out];exact HMF.out,hB1⟩
     case measure=>exact di
  .have hkk:d.tracks.length<=k:=by have:=HKL.out;omega
   rw[Xa7 hkk]at HOW HMF;have hk9:k=ks.length:=oM;subst hk9;clear hkk hk;obtain⟨Ar,cr,rfl⟩:=aj HOW.out;obtain⟨cC2,fC2,zC2⟩:=ab hCw;have hlk2:=λW (hW:bH W prog 3 (Xc2 .i64) (OI .i64) w.heap.size (uy d.tracks)) (x:Int) (h0:0<=x/\x<=999)=>hW.run_look fc underlying392 (jR W) (x:=x) (ip oM oM) false (Tq d.tracks x) rfl
   simp only[Bool.false_eq_true,if_false]at hlk2;have hlk3:=λW (hW:bH W prog 333 (E2 .i64 .i64) (O2 .i64 .i64) K.M (vL se)) (x:Int×Int) (h0:0<=x.1/\x.1<=999/\0<=x.2/\x.2<=999)=>hW.run_look G0 underlying150 (Gj W) (x:=x) ⟨ip oM oM,ip oM oM⟩ false (NW se x) rfl
   simp only[Bool.false_eq_true,if_false]at hlk3;have HL2:=OH hlk2;clear hlk2;have HL3:=OH hlk3;clear hlk3;have hrl:(ch n d.tracks).length<=300:=by
    have h9:=qK n d.tracks λt ht=>(H4.out t ht).1
    omega
   generalize hRR:ch n d.tracks=RR at *;generalize hFF:uy d.tracks=FF at *;refine ay;go_loopw [12,62] (λv i wx=>∃j:Nat,j<=d.subs.length/\i=JI j/\wx.ownsRow w.heap.size 198 10 v ((d.subs.take j).map (ec n d.tracks se)).length (((d.subs.take j).map (ec n d.tracks se)).flatMap eW)/\wx.ownsRow w.heap.size 203 5 (.slice Ar RR.length cr) RR.length (RR.flatMap kE)/\bH wx prog 3 (Xc2 .i64) (OI .i64) w.heap.size FF/\aC w wx) (λ_ i _=>d.subs.length- (intOf i).toNat);case atStart=>exact⟨0,oM,rfl,Xc4 _ _ _ _,HOW.out,HMF.out,hB⟩
   case round=>
    clear HOW HMF hB hCw cC2 fC2 zC2 zB;obtain⟨j,hj,rfl,hown,hr,hMf,hB⟩:=hrel;have hCx:wr.heap[C]?=_:=(hB.block _ zC).trans hC;refine EL;have HOR:=OH hr;clear hr;have HMF:=OH hMf;clear hMf;have hMs:bH wr prog 333 (E2 .i64 .i64) (O2 .i64 .i64) K.M (vL se):=HM.out.chg (JG hB) (λq=>oM);have HMS:=OH hMs;clear hMs;have zB:=hB.size;by_cases hlt:j<d.subs.length
    .obtain⟨g,rfl,hg1,hg2,hg3⟩:=cM ce HS.out hlt
     have g0:=(hB.cell (p:=⟨g,j*5,none⟩) hg2).trans (hg3 0 dM);have g1:=(hB.cell (p:=⟨g,j*5+1,none⟩) hg2).trans (hg3 1 dM);have g2:=(hB.cell (p:=⟨g,j*5+2,none⟩) hg2).trans (hg3 2 dM);have g3:=(hB.cell (p:=⟨g,j*5+3,none⟩) hg2).trans (hg3 3 dM);have g4:=(hB.cell (p:=⟨g,j*5+4,none⟩) hg2).trans (hg3 4 dM);clear hg3;have hx:=H5.out d.subs[j] qS;have hDS:(d.subs.take (j+1)).map (ec n d.tracks se)=(d.subs.take j).map (ec n d.tracks se)++ [ec n d.tracks se d.subs[j]]:=by rw[show d.subs.take (j+1)=d.subs.take j++ [d.subs[j]] from by rw[List.take_add_one,Xa3 hlt];rfl,Xb3];rfl
     generalize d.subs[j]=x at *;have HDS:=OH hDS;clear hDS;dsimp only[el,Xa5,Xa6]at g0 g1 g2 g3 g4;obtain⟨xw,xt,xl,xd,xm⟩:=x;dsimp only at g0 g1 g2 g3 g4 hx;obtain⟨s1,hs1⟩:∃s,s=CI se (xw,xt):=⟨_,rfl⟩
     obtain⟨f1,hf1⟩:∃f,f=Ts d.tracks xt:=⟨_,rfl⟩
     have hdf:ec n d.tracks se ⟨xw,xt,xl,xd,xm⟩=⟨s1.ssrc,s1.slot,s1.turn,xw,xt,xt % n,f1,xl,xd,xm⟩:=by rw[hs1,hf1];rfl
     have hk3:=λW hW=>HL3.out W hW (xw,xt) ⟨hx.1,hx.2.1,hx.2.2.1,hx.2.2.2⟩
     have hk2:=λW hW=>HL2.out W hW xt ⟨hx.2.2.1,hx.2.2.2⟩
     rw[←hs1]at hk3;rw[←hf1]at hk2;dsimp only[E2]at hk3;(try dsimp only at hk2);have HK3:=OH hk3;clear hk3;have HK2:=OH hk2;clear hk2;have HDF:=OH hdf;clear hdf hs1 hf1;have hDl:((d.subs.take j).map (ec n d.tracks se)).length<=100:=by rw[Xa2,Xa4];omega
     obtain⟨D,hD⟩:∃D,D=(d.subs.take j).map (ec n d.tracks se):=⟨_,rfl⟩
     rw[←hD]at HOW HDS hDl;clear hD;obtain⟨cC2,fC2,zC2⟩:=ab hCx;have hMsl:=HMS.out.lt;go_upto_region 17 with fail;obtain⟨W,hW⟩:∃W,W=wr.alloc (.cells #[JI xw,JI xt,JI xl,JI xd,.bool xm] 170):=⟨_,rfl⟩
     rw[←hW];have hZ:W.heap[wr.heap.size]?=OC #[JI xw,JI xt,JI xl,JI xd,.bool xm] 170:=kr
     have hcW:ag af wr W:=by rw[hW];exact bu
     have hCW:W.heap[C]?=_:=(hcW.block _ zC2 id).trans hCx;have HMS':=OH (HMS.out.chg hcW id);have HMF':=OH (HMF.out.chg hcW id);have HOW':=OH (ah HOW.out hcW cy);have HOR':=OH (ah HOR.out hcW cy);have hBW:aC w W:=hB.trans (hcW.none.mono hB.size);have hzW:W.heap.size=wr.heap.size+1:=by rw[hW,aD]
     clear hW hcW hCx cC2 fC2 zC2 HMS HMF HOW HOR hB;generalize wr.heap.size=Z at *;obtain⟨cC2,fC2,zC2⟩:=ab hCW;obtain⟨cZ,fZ,zZ⟩:=ab hZ;refine ej 11 (S:=(λw'=>Bk w' Z #[JI xw,JI xt,JI xl,JI xd,.bool xm] 170/\Bk w' C (iP K (.slice A1 d.people.length n1) (.slice A2 ks.length n2) (.slice (aT g) d.subs.length n3) t ever vw) 153/\(Instr.lookup 150 (.map (some K.M)) (.agg #[JI xw,JI xt]) false).run prog w'=.ok (.agg #[JI s1.slot,JT s1.turn,JT s1.ssrc]) w')) kM rM ?_ (λhHeld0=>?_)
     .exact VK
     refine iU;refine tk 9 ?_;refine on 10 λK hK=>?_
     go_simp;refine hK.out _ _ ?_ (λhHeld1=>?_)
     .exact VK
     clear hK K;(try clear hHeld0);refine bV;refine je;clear hK K;(try clear hHeld0);(try clear hHeld1);obtain⟨V,hV⟩:∃V,V=(W.alloc (.cells #[JI s1.slot,JT s1.turn,JT s1.ssrc] 331)).drew:=⟨_,rfl⟩
     rw[←hV];have hY:V.heap[Z+1]?=OC #[JI s1.slot,JT s1.turn,JT s1.ssrc] 331:=by rw[hV,←hzW];exact bZ
     have hcV:ag af W V:=by rw[hV];exact bu
     have hZV:V.heap[Z]?=_:=(hcV.block _ zZ id).trans hZ;have hCV:V.heap[C]?=_:=(hcV.block _ zC2 id).trans hCW;have HMF2:=OH (HMF'.out.chg hcV id);have HOW2:=OH (ah HOW'.out hcV cy);have HOR2:=OH (ah HOR'.out hcV cy);have hBV:aC w V:=hBW.trans (hcV.none.mono hBW.size);clear hV hcV hZ cZ fZ zZ hCW cC2 fC2 zC2 HMF' HOW' HOR' HMS' hBW hzW;obtain⟨cY,fY,zY⟩:=ab hY;obtain⟨cZ,fZ,zZ⟩:=ab hZV;obtain⟨cC2,fC2,zC2⟩:=ab hCV;refine ay;refine ej 26 (S:=(λw'=>Bk w' (Z+1) #[JI s1.slot,JT s1.turn,JT s1.ssrc] 331/\Bk w' Z #[JI xw,JI xt,JI xl,JI xd,.bool xm] 170/\Bk w' C (iP K (.slice A1 d.people.length n1) (.slice A2 ks.length n2) (.slice (aT g) d.subs.length n3) t ever vw) 153/\(Instr.lookup 392 (.map (some w.heap.size)) (JI xt) false).run prog w'=.ok (JI f1) w')) kM rM ?_ (λhHeld0=>?_)
     .exact Md
     refine iU;refine oF;refine tk 13 ?_;refine tk 14 ?_;refine tk 15 ?_;refine tk 16 ?_;refine tk 17 ?_;refine tk 18 ?_;refine tk 19 ?_;refine tk 20 ?_;refine tk 21 ?_;refine tk 22 ?_;refine on 12 λK hK=>?_
     go_simp;refine(GD eM n hn n0 n1' xt ⟨hx.2.2.1,oM⟩).mono ?_;rintro e w2 ⟨rfl,rfl⟩;refine hK.out _ _ ?_ (λhHeld1=>?_)
     .exact Md
     clear hK K;(try clear hHeld0);refine bV;refine tk 23 ?_;refine on 24 λK hK=>?_
     go_simp;refine hK.out _ _ ?_ (λhHeld2=>?_)
     .exact Md
     clear hK K;(try clear hHeld1);refine bV;refine on 25 λK hK=>?_
     have hownA:(V.drew.alloc (.cells #[JT s1.ssrc,JI s1.slot,JT s1.turn,JI xw,JI xt,JI (xt % n),JI f1,JI xl,JI xd,.bool xm] 198)).ownsRow w.heap.size 198 10 u12 D.length (D.flatMap eW):=dz HOW2.out.drew;refine step_append_lies _ rM _ _ _ rM w.heap.size 198 i1 _ 10 80 underlying367 hi1 hy0 hy1 hy2 rfl oM _ _ _ rM hownA ⟨V.heap.size,0,none⟩ 1 1 [JT s1.ssrc,JI s1.slot,JT s1.turn,JI xw,JI xt,JI (xt % n),JI f1,JI xl,JI xd,.bool xm] rM rM (Xc5 (cs:=#[JT s1.ssrc,JI s1.slot,JT s1.turn,JI xw,JI xt,JI (xt % n),JI f1,JI xl,JI xd,.bool xm]) (t:=198) (fr:=(0,0)) bZ) nz oM lM oM (by have:=hBV.size;simp only[aD,bE];omega) _ rfl ?_;intro gg cap2 w3 hown3 hgrow hat hlt3;have hcg:ag (λi=>u12.ownBlock=some i) V w3:=ag.grown (v:=u12) ((ag.drew dp).alloc _) hgrow (λi hi _=>hi);have hM3:=HMF2.out.chg hcg (λq=>by obtain⟨cur,hq⟩:=bG HOW2.out q;exact HMF2.out.ne hq rfl);refine hK.out _ _ ?_ (λhHeld3=>?_)
     .exact⟨aO (aV (t:=331) hownA hgrow bZ dM),aO (aV (t:=170) hownA hgrow bZ dM),aO (aV (t:=153) hownA hgrow bZ dM),HK2.out _ hM3⟩
     clear hK K;(try clear hHeld2);refine bV;refine je;clear hK K;have hB3:aC w w3:=hBV.trans (hcg.below (λi q=>eV HOW2.out i q) hBV.size);have hr3:=ah HOR2.out hcg (λi cur hq hc=>by obtain⟨cur',h'⟩:=bG HOW2.out hq;exact au h' dM hc);have h9:(D++ [ec n d.tracks se ⟨xw,xt,xl,xd,xm⟩]).flatMap eW=D.flatMap eW++ [JT s1.ssrc,JI s1.slot,JT s1.turn,JI xw,JI xt,JI (xt % n),JI f1,JI xl,JI xd,.bool xm]:=by rw[HDF.out];simp
     have hown4:w3.ownsRow w.heap.size 198 10 (.slice (aT gg) (D.length+1) cap2) ((d.subs.take (j+1)).map (ec n d.tracks se)).length (((d.subs.take (j+1)).map (ec n d.tracks se)).flatMap eW):=by rw[HDS.out,h9,Xa0];exact hown3
     clear h9 hown3 hgrow hcg hownA;refine dA;case rel=>exact⟨j+1,oM,eT,hown4,hr3,hM3,hB3⟩
     case measure=>exact di
    .have hjj:d.subs.length<=j:=oM
     rw[Xa7 hjj]at HOW;have hj9:j=d.subs.length:=oM;subst hj9;obtain⟨Ad,cd,hu⟩:=aj HOW.out;subst hu;have hcall:=HMK.out wr _ _ hB.size HOR.out HOW.out oM;simp only[Xa2]at hcall;have HCL:=OH hcall;clear hcall;refine vh;rintro e w9 ⟨T,rfl,hT,htab,hb⟩;refine df;obtain⟨MR,MD,a1,a2,a3,a4,a5⟩:=htab.e;rw[hRR];exact⟨T,rfl,Xb5 hB.size hT,⟨MR,MD,a1,a2,a3,Xb5 hB.size a4,Xb5 hB.size a5⟩,hB.trans (hb.mono hB.size)⟩
theorem Dd.moved_chg(h:Dd.aQ T B M w w'):ag (λj=>B<=j/\(j=T\/j=M\/∃c,w.heap[j]?=OC c 47)) w w':=
 ⟨h.below.os,h.below.tape,h.below.output,h.size,λj hj hn=>by
  by_cases hb:j<B
  .exact h.below.block j hb
  .obtain⟨o,ho⟩:∃o,w.heap[j]?=some o:=⟨_,Array.getElem?_eq_getElem hj⟩
   rw[ho];exact h.other j o ho (λq=>hn ⟨oM,.inl q⟩) (λq=>hn ⟨oM,.inr (.inl q)⟩) (λc q=>hn ⟨oM,.inr (.inr ⟨c,ho.trans (congrArg _ q)⟩)⟩)⟩
theorem BM{L:List Dd.En}(hT:Dd.ed w T M B room n L)(h:Dd.aQ T B M w w'):ag (Fr [(238,B,0),(47,B,0)] [M] w) w w':=(Dd.moved_chg h).mono λj _ ⟨hb,q⟩=>by
 obtain⟨v,hv,_⟩:=hT.row;rcases q with q|q|⟨c,q⟩
 .subst q
  exact eN hv sM hb
 .subst q
  exact .inl ⟨sM,λc t hc=>hT.map.not_cells hc rfl⟩
 .exact eN q sM hb
theorem Rz{z:Int}(h0:0<=z)(h1:z<=255):((UInt8.ofNat z.toNat).toNat:Int)=z:=by have:z.toNat<256:=oM;simp[UInt8.toNat_ofNat,Nat.mod_eq_of_lt this];omega
theorem Qb(hl:zs.length=n+0)(hb:aG zs)(h:bd w A .u8 zs)(hn:0<n:=by decide):∃s:ByteArray,s.size=n/\(convert 56 9 (.slice A n cap)).run prog w=.ok (.string s) w:=by
 obtain⟨b,o,rfl,-,-⟩:=h 0 oM;have hlen:(zs.map λz=>UInt8.ofNat z.toNat).length=n:=by rw[Xa2];exact hl
 have key:=run_convert_bytes_back (P:=prog) w 56 9 5 ⟨b,o,none⟩ cap (zs.map λz=>UInt8.ofNat z.toNat) underlying56 underlying5 underlying9 (λj hj=>by
  rw[Xa2]at hj;obtain⟨b',o',hA,-,hc⟩:=h j hj;simp only[Xc6.injEq,Addr.mk.injEq]at hA;obtain⟨rfl,rfl,-⟩:=hA;have hadd:(⟨b,o,none⟩:Addr).add j=⟨b,o+j,none⟩:=by unfold Addr.add;split<;>simp_all
  rw[hadd,hc,List.getElem_map];obtain⟨h0,h1⟩:=pZ hb j;have hg:zs.getD j 0=zs[j]:=by simp[Xb1,hj]
  rw[hg]at h0 h1 ⊢;rw[Rz h0 h1])
 rw[hlen]at key;refine⟨_,?_,key⟩;rw[←hlen];simp[ByteArray.size]
abbrev rpC(id e:Int)(z:Int):List Value:=[JI z,JU id,JI e]
theorem RW(id e z:Int):(rpC id e z).length=3:=rfl
theorem G8:(prog.info? 255).map (λi=>(i.zero,i.size,i.bytes))=some (some (.agg #[JI 0,JU 0,JI 0]),3,24):=kM
theorem wu{B3 m:Nat}{L:List Dd.En}(hC:w.heap[C]?=OC (iP G vp vt vs t ever vw) 153)(hT:Dd.ed w G.D M B room m L)(hm:m<=1000000)(id e:Int)(hid:0<=id/\id<2 ^ 64)(he:0<=e/\e<2 ^ 63)(hz:w.ownsRow B3 3 1 (.slice A zs.length cap) zs.length (zs.map (Xc2 .i64)))(hzl:zs.length<=1000) :
  az 113 #[OV C,JU id,JI e,.slice A zs.length cap] w λr w'=>∃v s,r=aA v/\s.size=9/\w'.ownsRow w.heap.size 255 3 v zs.length (zs.flatMap (rpC id e))/\Dd.ed w' G.D M B room (m+1) (Dd.endF L id s).1/\ag (Fr [(238,B,0),(47,B,0)] [M] w) w w':=by
 obtain⟨i0,hi0,hz0,hz1,hz2⟩:=aI G8;refine nN;go_enter func113,ntmps113;refine ay;refine ej 9 (S:=(λw'=>Bk w' C (iP G vp vt vs t ever vw) 153)) kM rM ?_ (λhHeld0=>?_)
 .exact bk
 refine qd;refine(Qw id e _ hid he).mono ?_;rintro r w5 ⟨v5,zs5,rfl,hl5,hb5y,hown5,hb5⟩;rcases bW hown5 with⟨_,h0,_⟩|⟨g5,cap5,rfl,-,-,-,-⟩
 .omega
 rw[hl5]at hown5;obtain⟨s5,hs5,hcv⟩:=Qb (w:=w5) (A:=some ⟨g5,0,none⟩) (n:=9) (cap:=cap5) hl5 hb5y (kU hown5);have hCd:w.drew.heap[C]?=OC (iP G vp vt vs t ever vw) 153:=bZ;have hC5:w5.heap[C]?=OC (iP G vp vt vs t ever vw) 153:=(hb5.block _ zC).trans hCd;have hc5:ag af w w5:=(show ag af w w.drew from bu).next hb5;refine nO
 .exact aO hC5
 refine mi;refine bV;refine rW;refine nP
 .exact aO hC5
 refine AF;refine oL;have he5:Dd.endF L id s5=((Dd.endF L id s5).1,(Dd.endF L id s5).2):=rfl;refine(Dd.end_t w5 G.D M B room m L id s5 (hT.below hc5.none) hid.1 oM hm _ _ he5).mono ?_;rintro r w6 ⟨rfl,htab,hmv⟩;refine hK.out _ _ ?_;have hc6:ag (Fr [(238,B,0),(47,B,0)] [M] w) w w6:=aF (aY hc5) (BM (hT.below hc5.none) hmv);have hz6:=ah hz hc6 eR;have hi6:=kU hz6;have HI:=OH hi6;have HC6:=OH hc6;have HTB:=OH htab;have HS5:=OH hs5;refine mi;(try clear hHeld1);(try clear hHeld2);have hs6:=HC6.out.size;refine ay;go_loopw [9,24] (λv i wr=>∃k:Nat,k<=zs.length/\i=JI k/\wr.ownsRow w6.heap.size 255 3 v (zs.take k).length ((zs.take k).flatMap (rpC id e))/\aC w6 wr) (λ_ i _=>zs.length- (intOf i).toNat);case atStart=>exact LK
 case round=>
  refine EO;have HOW:=OH hown;have zB:=hB.size;by_cases hlt:k<zs.length
  .obtain⟨b,o,rfl,hb,hc⟩:=(HI.out.below rfl hB) k hlt
   have hst:=lj zs k hlt;generalize zs.getD k 0=z at hc hst;have hl:(zs.take k).length<=1000:=by rw[Xa4];omega
   obtain⟨D,hD⟩:∃D,D=zs.take k:=⟨_,rfl⟩
   rw[←hD]at HOW hst hl;refine qg;go_wp2_with (first|(at_builtin;refine wpList_append_own _ rfl (.tmp 28) (.tmp 33) 175 rfl w6.heap.size 255 i0 _ 3 24 underlying175 hi0 hz0 hz1 hz2 rfl dM _ _ _ rfl (HOW.out.alloc _) ⟨wr.heap.size,0,none⟩ 1 1 [JI z,JU id,JI e] rfl rfl mf oe lM oM xM ?_;intro v1 w3 hown1 hgrow1 _))
   go_roundw;case rel=>exact⟨k+1,oM,eT,by rw[HST.out];simpa using hown1,bq (Below.alloc hB zB _) xM (HOW.out.alloc _) hgrow1⟩
   case measure=>exact di
  .have hkl:k=zs.length:=oM
   subst hkl;rw[Xa9]at HOW;refine bj;exact⟨_,s5,rfl,HS5.out,aW HOW.out hs6,HTB.out.below hB,HC6.out.next hB⟩
def gR(s:List Sl×Int)(r:Int×Int):List Sl×Int:=match o9 s.1 r.1 r.2 with|some i=>(s.1.set i ⟨.pointer none,r.2,false⟩,s.2-1)|none=>s
def eb(s:List Sl×Int)(rs:List (Int×Int)):List Sl×Int:=rs.foldl gR s
theorem sI{L:Nat}(h:da P L w w'):ag (λj=>j=P\/j=L) w w':=⟨h.os,h.tape,h.output,h.size,λj hj hn=>h.block j hj (λq=>hn (.inl q)) (λq=>hn (.inr q))⟩
theorem At.chg{L:Nat}{tP tL:TypeId}(h:At w P L tP tL l live)(hc:ag S w w')(h1:¬S P)(h2:¬S L):At w' P L tP tL l live:=⟨ae hc h.p h1,ae hc h.l h2,h.ne⟩
theorem Jp(s:List Sl×Int)(r:Int×Int):(gR s r).1.length=s.1.length:=by unfold gR;split<;>simp
theorem DE(s:List Sl×Int)(r:Int×Int):s.2-1<=(gR s r).2/\(gR s r).2<=s.2:=by unfold gR;split<;>simp<;>omega
theorem free_t{L:Nat}(hA:At w P L 124 352 l live)(hl:l.length<=64)(hv0: -1000<=live)(hv1:live<=1000)(hB:B<=P/\B<=L)(sl tn:Int) :
  az 117 #[OV P,.agg #[JI sl,JT tn]] w λe w'=>∃c,e=aA (JI c)/\At w' P L 124 352 (gR (l,live) (sl,tn)).1 (gR (l,live) (sl,tn)).2/\ag (Fr [(124,B,0),(352,B,0)] [] w) w w':=by
 unfold gR;dsimp only;cases h:o9 l sl tn with
 |none=>
  exact(BL w P L l live sl tn hA hl h).mono λe w' ⟨h1,h2⟩=>⟨_,h1,hA.chg (S:=af) (.of h2) id id,tH h2⟩
 |some i=>exact(BK w P L l live sl tn i hA hl hv0 hv1 h).mono λe w' ⟨h1,h2,h3⟩=>⟨_,h1,h2,xX (sI h3) hA.p hA.l sM sM hB.1 hB.2⟩
theorem Dz(s:List Sl×Int)(rs:List (Int×Int))(r:Int×Int):eb s (rs++ [r])=gR (eb s rs) r:=by simp[eb]
theorem pV(s:List Sl×Int)(rs:List (Int×Int)):(eb s rs).1.length=s.1.length:=by
 induction rs generalizing s with
 |nil=>
  rfl
 |cons r rs ih=>exact(ih (gR s r)).trans (Jp s r)
theorem DC(s:List Sl×Int)(rs:List (Int×Int)):s.2-rs.length<=(eb s rs).2/\(eb s rs).2<=s.2:=by
 induction rs generalizing s with
 |nil=>
  simp[eb]
 |cons r rs ih=>have h1:=ih (gR s r);have h2:=DE s r;rw[show eb s (r::rs)=eb (gR s r) rs from rfl,Xb0];omega
theorem br.chg{L:Nat}(h:br w B P L ws wt)(hc:ag S w w')(h1:gk S 128 w)(h2:gk S 317 w)(h3:gk S 346 w):br w' B P L ws wt:=by obtain⟨v,h4,h5⟩:=h.p;exact⟨⟨v,ae hc h4 (λq=>h1 _ _ q h4),ah h5 hc h3⟩,ae hc h.l (λq=>h2 _ _ q h.l),h.le,h.bP,h.bL⟩
theorem P9{LP:Nat}(hC:w.heap[C]?=OC (iP G vp vt vs t ever vw) 153)(hP:br w B G.P LP ws wt)(h0:1<=ws.length)(h64:wt.length<=64)(hA:At w G.A LA 124 352 l live)(hl:l.length<=64)(hv:0<=live/\live<=64)(hB:B<=G.A/\B<=LA) :
  az 67 #[OV C] w λe w'=>(∃c,e=aA (JI c))/\br w' B G.P LP ws (wt.filter (λx=>!decide (x.epoch<=jL ws)))/\At w' G.A LA 124 352 (eb (l,live) (dw wt (jL ws))).1 (eb (l,live) (dw wt (jL ws))).2/\ag (Fr [(128,B,0),(346,B,0),(124,B,0),(352,B,0)] [] w) w w':=by
 obtain⟨vP,hp0,-⟩:=hP.p;have hs:=RI hP h0 h64;have hfl:(dw wt (jL ws)).length<=64:=by unfold dw;rw[Xa2];exact Xb5 (List.length_filter_le _ _) h64
 obtain⟨wt',hwt⟩:∃wt',wt'=wt.filter (λx=>!decide (x.epoch<=jL ws)):=⟨_,rfl⟩
 rw[←hwt]at hs ⊢;clear hwt;generalize dw wt (jL ws)=rs at *;refine jM;clear hs;refine nN;go_enter func67,ntmps67;refine ay;refine HS.out.mono ?_;rintro e w1 ⟨v,rfl,hown,hP1,hc1⟩;have hcA:ag (Fr [(128,B,0),(346,B,0),(124,B,0),(352,B,0)] [] w) w w1:=tE hc1 hp0 sM sM leR hP.bP;have hcB:ag (Fr [(128,B,0),(346,B,0)] [] w) w w1:=tE hc1 hp0 sM sM leR hP.bP;have hC1:=bJ hcB hC rM;have hA1:=hA.chg hcB (λq=>gh rM _ _ q hA.p) (λq=>gh rM _ _ q hA.l);clear hcB hc1 cC fC zC;obtain⟨A,cap,rfl⟩:=aj hown;obtain⟨cC,fC,zC⟩:=ab hC1;have HOW:=OH hown;have HP1:=OH hP1;have HA1:=OH hA1;have HCA:=OH hcA;clear hown hP1 hA1 hcA hA hP hp0;refine ay;go_loopw [5,15] (λ_ i wr=>∃k:Nat,k<=rs.length/\i=JI k/\At wr G.A LA 124 352 (eb (l,live) (rs.take k)).1 (eb (l,live) (rs.take k)).2/\ag (Fr [(124,B,0),(352,B,0)] [] w1) w1 wr) (λ_ i _=>rs.length- (intOf i).toNat);case atStart=>exact⟨0,oM,rfl,HA1.out,ag.refl _ _⟩
 case round=>
  obtain⟨k,hk,rfl,hAk,hck⟩:=hrel;have hCk:=bJ hck hC1 rM;have HAK:=OH hAk;clear hAk;have HCK:=OH hck;by_cases hlt:k<rs.length
  .obtain⟨g,rfl,hg1,hg2,hg3⟩:=cM R6 (ah HOW.out hck eR) hlt
   have g0:wr.cell? ⟨g,k*2,none⟩=_:=hg3 0 dM;have g1:wr.cell? ⟨g,k*2+1,none⟩=_:=hg3 1 dM;have hst:rs.take (k+1)=rs.take k++ [rs[k]]:=LF
   have hfs:=Dz (l,live) (rs.take k) rs[k];rw[←hst]at hfs;have hll:=pV (l,live) (rs.take k);have hlv:=DC (l,live) (rs.take k);rw[Xa4]at hlv;dsimp only at hll hlv;generalize eb (l,live) (rs.take k)=sk at *;generalize rs[k]=x at *;obtain⟨x1,x2⟩:=x;obtain⟨lk,vk⟩:=sk;dsimp only at HAK hfs hll hlv;dsimp only[rfC,Xa5,Xa6]at g0 g1;have HFS:=OH hfs;clear hg3 hck hfs hst;obtain⟨cC2,fC2,zC2⟩:=ab hCk;go_upto_region 7 with fail;obtain⟨V,hV⟩:∃V,V=wr.alloc (.cells #[JI x1,JT x2] 66):=⟨_,rfl⟩
   rw[←hV];have hZ:V.heap[wr.heap.size]?=OC #[JI x1,JT x2] 66:=by rw[hV];exact bZ
   have hcV:ag af wr V:=by rw[hV];exact bu
   have hCV:=(hcV.block _ zC2 id).trans hCk;have HAV:=OH (HAK.out.chg hcV id id);have HCV:=OH (aF HCK.out (aY hcV));clear hV hcV HAK HCK cC2 fC2 zC2 hCk;have HAK:=HAV;clear HAV;generalize wr.heap.size=Z at *;obtain⟨cC2,fC2,zC2⟩:=ab hCV;obtain⟨cZ,fZ,zZ⟩:=ab hZ;refine ej 5 (S:=(λw'=>Bk w' C (iP G vp vt vs t ever vw) 153/\Bk w' Z #[JI x1,JT x2] 66)) kM rM ?_ (λhHeld0=>?_)
   .exact⟨bk,bk⟩
   refine Ce;refine la (λK hK=>?_);go_simp;have hAd:At V.drew G.A LA 124 352 lk vk:=HAK.out.chg (S:=af) (by exact bu) id id;refine(free_t hAd oM oM oM hB x1 x2).mono ?_;rintro r w6 ⟨cc,rfl,hA6,hc6⟩;refine hK.out _ _ ?_;clear hK K;have hcF:ag (Fr [(124,B,0),(352,B,0)] [] w1) w1 w6:=aF HCV.out (aF (aY (show ag af V V.drew from bu)) hc6);clear hc6 hAd hCV hZ;refine dA;case rel=>exact⟨k+1,oM,eT,by rw[HFS.out];exact hA6,hcF⟩
   case measure=>exact di
  .have hkl:k=rs.length:=oM
   subst hkl;rw[Xa9]at HAK;refine bj;exact⟨⟨_,rfl⟩,HP1.out.chg HCK.out eR eR eR,HAK.out,aF HCA.out (dq HCK.out sM sM)⟩
structure Ca where
 n:Int
 a:Option Addr
 c:Nat
 zs:List Int
abbrev cwC(x:Ca):List Value:=[JI x.n,.slice x.a x.zs.length x.c]
def px(w:World)(B:Nat)(l:List Ca):Prop:=∀x∈l,w.ownsRow B 5 1 (.slice x.a x.zs.length x.c) x.zs.length (x.zs.map (Xc2 .u8))/\aG x.zs/\x.zs.length<=1000000
theorem px.chg{l:List Ca}(h:px w B l)(hc:ag S w w')(h5:gk S 5 w):px w' B l:=λx hx=>⟨ah (h x hx).1 hc h5,(h x hx).2⟩
theorem TN{L a:Nat}{k:Int}{xs:List (List Value)}{cur:Array Value}(hC:w.heap[C]?=OC (iP G vp vt vs t ever vw) 153)(hq:eD w G.Q R 235 143 2 L a xs cur)(hs:dV w A zs.length cap (zs.map (Xc2 .u8)))(hzl:zs.length<=1000000)(hB:B<=G.Q/\B<=R) :
  az 40 #[OV C,JI k,.slice A zs.length cap] w λe w'=>
   (xs.length<L->e=aA (.bool true)/\∃A' c' cur',eD w' G.Q R 235 143 2 L a (xs++ [[JI k,.slice A' zs.length c']]) cur'/\w'.ownsRow w.heap.size 5 1 (.slice A' zs.length c') zs.length (zs.map (Xc2 .u8)))/\(xs.length=L->e=aA (.bool false)/\aC w w')/\ag (Fr [(235,B,0),(143,B,0)] [] w) w w':=by
 refine nN;have HSR:=OH hs;refine nF;have hle:=hq.le;by_cases hf:xs.length<L
 .refine zq77
  refine(Sw hq5 hf k A5 zs.length c5).mono ?_;rintro r w6 ⟨rfl,⟨cur',hq6⟩,hc6⟩;have hF:ag (Fr [(235,B,0),(143,B,0)] [] w5) w5 w6:=xX hc6 hq5.q hq5.r sM sM hB.1 hB.2;have hC6:=bJ hF hC5 rM;refine nP
  .exact aO hC6
  refine AF;refine tk 12 ?_;refine je;have ho6:=aW (ah hown5 hF eR) hcd.size;have hcF:ag (Fr [(235,B,0),(143,B,0)] [] w) w w6:=aF (aY hc5) hF;refine bj;exact⟨λ_=>⟨rfl,A5,c5,cur',hq6,ho6⟩,λq=>oM,hcF⟩
 .have hf:xs.length=L:=oM
  refine zq77;refine(xg hq5 hf k A5 zs.length c5).mono ?_;rintro r w6 ⟨rfl,hb6⟩;have hC6:=(hb6.block _ (aB hC5)).trans hC5;refine nP
  .exact aO hC6
  refine AF;refine tk 12 ?_;refine je;have hcF:ag af w w6:=hc5.next hb6;refine bj;exact⟨λq=>oM,λ_=>⟨rfl,hcF.none⟩,aY hcF⟩
namespace St
abbrev Pk:=Int×List Int
def fj:List Pk->Int->Option Nat
 | [],_=>none
 |p::K,x=>match fj K x with|some j=>some (j+1)|none=>if p.1=x then some 0 else none
theorem Bx{K:List Pk}(h:fj K x=some j):∃hj:j<K.length,K[j].1=x:=by
 induction K generalizing j with
 |nil=>
  cases h
 |cons p K ih=>
  unfold fj at h;split at h
  .rename_i i q
   cases h;obtain⟨hj,e⟩:=ih q;exact⟨um,by simpa using e⟩
  .split at h
   .rename_i e;cases h;exact⟨sM,by simpa using e⟩
   .cases h
theorem tw(K:List Pk)(p:Pk)(x:Int):fj (K++ [p]) x=if p.1=x then some K.length else fj K x:=by
 induction K with
 |nil=>
  simp[fj]
 |cons a K ih=>
  rw[List.cons_append,fj,ih];by_cases h:p.1=x
  .rw[if_pos h,if_pos h]
   rfl
  .rw[if_neg h,if_neg h]
   rfl
def iz(n:Nat)(K:List Pk)(p:Pk):List Pk:=if K.length=n then K.tail++ [p] else K++ [p]
theorem qO{t:Nat}{K:List Pk}{p:Pk}(h:K.length=min t n)(hn:1<=n):(iz n K p).length=min (t+1) n:=by
 unfold iz;split
 .rw[Xa0,List.length_tail,Xa8]
  omega
 .rw[Xa0,Xa8]
  omega
def gW(n t:Nat)(K:List Pk)(x:Int):Option Value:=(fj K x).map λj=>JI (((t-K.length+j) % n:Nat):Int)
theorem xj(hi:i<n)(hj:j<n)(h:(b+i) % n=(b+j) % n):i=j:=by
 have h1:=Xb8 (b+i) n;have h2:=Xb8 (b+j) n;rw[h]at h1;have h3:n*((b+i) / n)+j=n*((b+j) / n)+i:=oM;rcases Nat.lt_trichotomy ((b+i) / n) ((b+j) / n)with q|q|q
 .have:n*((b+i) / n)+n<=n*((b+j) / n):=by
   calc n*((b+i) / n)+n=n*((b+i) / n+1):=by rw[Xc0,Xb9]
    _<=n*((b+j) / n):=Xb6 _ q
  omega
 .rw[q]at h3
  omega
 .have:n*((b+j) / n)+n<=n*((b+i) / n):=by
   calc n*((b+j) / n)+n=n*((b+j) / n+1):=by rw[Xc0,Xb9]
    _<=n*((b+i) / n):=Xb6 _ q
  omega
theorem IR{t:Nat}{K:List Pk}{p:Pk}(h:K.length=min t n)(hl:K.length<n)(y:Int) :
  (if y=p.1 then some (JI ((t % n:Nat):Int)) else gW n t K y)=gW n (t+1) (iz n K p) y:=by
 have e:iz n K p=K++ [p]:=by unfold iz;rw[if_neg oM]
 have ht:t=K.length:=oM;unfold gW;rw[e,tw];by_cases q:y=p.1
 .refine WF
  omega
 .exact WC
theorem DK{t:Nat}{p:Pk}{K:List Pk}(h:K.length+1=n)(ht:n<=t)(hx:fj K p.1≠none)(y:Int):gW n t (p::K) y=gW n t K y/\gW n t (p::K) p.1=gW n t K p.1:=by
 have key:∀y,(fj K y≠none\/y≠p.1)->gW n t (p::K) y=gW n t K y:=by
  intro y hy;unfold gW;rw[fj];cases q:fj K y with
  |none=>
   have:¬p.1=y:=by rcases hy with r|r;exact absurd q r;exact λs=>r s.symm
   rw[if_neg this];rfl
  |some j=>exact U0
 exact⟨key y (by by_cases q:y=p.1;exact .inl (q ▸ hx);exact .inr q),key p.1 (.inl hx)⟩
theorem DL{t:Nat}{p:Pk}{K:List Pk}(h:K.length+1=n)(ht:n<=t)(hx:fj K p.1=none)(y:Int):(if y=p.1 then none else gW n t (p::K) y)=gW n t K y:=by
 by_cases q:y=p.1
 .subst q
  rw[if_pos rfl];exact yZ
 .rw[if_neg q]
  unfold gW;rw[fj];cases r:fj K y with
  |none=>
   rw[if_neg (λs=>q s.symm)];rfl
  |some j=>exact U0
theorem DJ{t:Nat}{p p0:Pk}{K:List Pk}(h:K.length+1=n)(ht:n<=t)(y:Int) :
  (if y=p.1 then some (JI ((t % n:Nat):Int)) else gW n t K y)=gW n (t+1) (iz n (p0::K) p) y:=by
 have e:iz n (p0::K) p=K++ [p]:=by unfold iz;rw[if_pos (by simpa using h)];rfl
 unfold gW;rw[e,tw];by_cases q:y=p.1
 .refine WF
  rw[show t+1- (K.length+1)+K.length=t by omega]
 .exact WC
structure RE where
 q:Int
 v:Value
instance:Inhabited RE:=⟨⟨0,.slice none 0 0⟩⟩
def re0:RE:=⟨0,.slice none 0 0⟩
def dG:List RE->List Value
 | []=> []
 |r::l=>JS r.q::r.v::dG l
theorem DY(l:List RE)(i:Nat)(hi:i<l.length):(dG l)[i*2]?=some (JS l[i].q)/\(dG l)[i*2+1]?=some l[i].v:=by
 induction l generalizing i with
 |nil=>
  simp at hi
 |cons s l ih=>exact Yp
theorem DW(l:List RE)(i:Nat)(hi:i<l.length)(r:RE):(((dG l).set (i*2) (JS r.q)).set (i*2+1) r.v)=dG (l.set i r):=by
 induction l generalizing i with
 |nil=>
  simp at hi
 |cons a l ih=>exact Yp
def iE(w:World)(E:Nat)(v:Value)(zs:List Int):Prop:=
 ∃g,v=.slice (aT g) zs.length zs.length/\E<=g/\w.heap[g]?=OC (zs.map (Xc2 .u8)).toArray 5
theorem iE.kept(h:iE w E v zs)(hb:∀g c,E<=g->w.heap[g]?=OC c 5->w'.heap[g]?=OC c 5):iE w' E v zs:=by obtain⟨g,h1,h2,h3⟩:=h;exact⟨g,h1,h2,hb g _ h2 h3⟩
theorem D5{c:Nat}(h:iE w E (.slice A n c) zs):bd w A .u8 zs/\n=zs.length/\c=zs.length/\∃g,A=some ⟨g,0,none⟩/\E<=g/\g<w.heap.size:=by obtain⟨g,h1,h2,h3⟩:=h;refine mh;obtain⟨rfl,rfl,rfl⟩:=h1;refine⟨λi hi=>⟨g,0,rfl,aB h3,?_⟩,rfl,rfl,g,rfl,h2,aB h3⟩;rw[(ab h3).1,Nat.zero_add];simp[Xb1,hi]
structure dk(w:World)(S R M B E n t m:Nat)(K:List Pk)(rg:List RE):Prop where
 s:w.heap[S]?=OC #[.slice (aT R) n n,JI ((t % n:Nat):Int),JI (K.length:Nat),.map (some M)] 243
 r:w.heap[R]?=OC (dG rg).toArray 430
 rl:rg.length=n
 rw:∀x∈rg,0<=x.q/\x.q<=65535/\∃A k c,x.v=.slice A k c
 map:aP w prog 51 .u16 M m (gW n t K)
 kl:K.length=min t n
 ent:∀j (hj:j<K.length),∃re,rg[(t-K.length+j) % n]?=some re/\re.q=K[j].1/\iE w E re.v K[j].2
 bS:B<=S
 bR:B<=R
 bM:B<=M
 bw:B<=w.heap.size
 ew:E<=w.heap.size
structure aQ(S R M B:Nat)(w w':World):Prop where
 below:Below B w w'
 size:w.heap.size<=w'.heap.size
 other:∀ (j:Nat) (o:Obj),w.heap[j]?=some o->j≠S->j≠R->j≠M->w'.heap[j]?=some o
section
variable {S R M B:Nat}{a b c w w':World}
theorem aQ.refl(S R M B:Nat)(w:World):aQ S R M B w w:=⟨Below.refl _ _,Xc1 _,λ_ _ h _ _ _=>h⟩
theorem aQ.trans(h:aQ S R M B a b)(k:aQ S R M B b c):aQ S R M B a c:=
 ⟨h.below.trans k.below,Xb5 h.size k.size,λj o hj h1 h2 h3=>k.other j o (h.other j o hj h1 h2 h3) h1 h2 h3⟩
theorem GB(h:w.heap[j]?=some o):j<w.heap.size:=by rw[Array.getElem?_eq_some_iff]at h;exact h.1
theorem aQ.of(h:aC w w')(hB:B<=w.heap.size):aQ S R M B w w':=
 ⟨h.mono hB,h.size,λj o hj _ _ _=>aZ h (GB hj) hj⟩
theorem aQ.call(h:aQ S R M B a w)(hb:aC w w')(hB:B<=w.heap.size):aQ S R M B a w':=h.trans (.of hb hB)
theorem jU(hB:B<=w.heap.size)(h:aQ S R M B a w):aQ S R M B a (w.alloc o):=h.call wH hB
theorem aQ.drewN(h:aQ S R M B a w)(n:Nat):aQ S R M B a (w.drewN n):=⟨bF h.below n,h.size,h.other⟩
theorem aQ.drew(h:aQ S R M B a w):aQ S R M B a w.drew:=⟨h.below.drew,h.size,h.other⟩
theorem na{p:Addr}(hp:p.block=S\/p.block=R)(hB:B<=p.block)(h:aQ S R M B a w):aQ S R M B a (w.setCell p v):=
 ⟨h.below.setCell hB v,QR,λi o hi h1 h2 h3=>aN (by rcases hp with q|q<;>rw[q]<;>assumption) (h.other i o hi h1 h2 h3)⟩
theorem pP{P:Program}{q:IntKind}{f:Int->Option Value}(h:aQ S R M B a w)(hm:aP w P k q M n f)(hg:w.grownBy w' (some M))(hB:B<=M)(hs:B<=w.heap.size):aQ S R M B a w':=
 ⟨h.below.grown hg hs (λk hk=>by cases hk;exact hB),Xb5 h.size hg.size,λi o hi h1 h2 h3=>by have h4:=h.other i o hi h1 h2 h3;exact(hg.block i (GB h4) (λq=>h3 (by cases q;rfl))).trans h4⟩
end
section
variable {w w':World}{S R M B E n t m:Nat}{K:List Pk}{rg:List RE}
theorem dk.below(h:dk w S R M B E n t m K rg)(hb:aC w w'):dk w' S R M B E n t m K rg:=
 ⟨aZ hb (aB h.s) h.s,aZ hb (aB h.r) h.r,h.rl,h.rw,h.map.below hb,h.kl,λj hj=>by obtain⟨re,h1,h2,h3⟩:=h.ent j hj;exact⟨re,h1,h2,h3.kept λg c _ hg=>aZ hb (aB hg) hg⟩,h.bS,h.bR,h.bM,Xb5 h.bw hb.size,Xb5 h.ew hb.size⟩
theorem dk.alloc(h:dk w S R M B E n t m K rg)(o:Obj):dk (w.alloc o) S R M B E n t m K rg:=h.below wH
theorem dk.drewN(h:dk w S R M B E n t m K rg)(k:Nat):dk (w.drewN k) S R M B E n t m K rg:=h.below (bF yN k)
theorem dk.drew(h:dk w S R M B E n t m K rg):dk w.drew S R M B E n t m K rg:=h.below (Below.refl _ _).drew
theorem dk.mono(h:dk w S R M B E n t m K rg){m':Nat}(hm:m<=m'):dk w S R M B E n t m' K rg:=⟨h.s,h.r,h.rl,h.rw,h.map.mono hm,h.kl,h.ent,h.bS,h.bR,h.bM,h.bw,h.ew⟩
theorem dk.set(h:dk w S R M B E n t m K rg){p:Addr}{u:Value}(h1:p.block≠S)(h2:p.block≠R)(h3:p.block≠M)(h4:p.block<E):dk (w.setCell p u) S R M B E n t m K rg:=
 ⟨aN (Ne.symm h1) h.s,aN (Ne.symm h2) h.r,h.rl,h.rw,h.map.set (Ne.symm h3) u,h.kl,λj hj=>by obtain⟨re,q1,q2,q3⟩:=h.ent j hj;exact⟨re,q1,q2,q3.kept λg c hE hg=>aN oM hg⟩,h.bS,h.bR,h.bM,by rw[ic];exact h.bw,by rw[ic];exact h.ew⟩
end
theorem lB{l:List RE}{t:TypeId}(hL:w.heap[R]?=OC (dG l).toArray t)(hi:i<l.length) :
  w.cell? ⟨R,i*2,none⟩=some (JS l[i].q)/\w.cell? ⟨R,i*2+1,none⟩=some l[i].v:=by
 obtain⟨h1,h2⟩:=DY l i hi;refine⟨?_,?_⟩<;>rw[(ab hL).1]<;>simpa
theorem O4(z:Value)(n:Nat):(madeCells #[z] n).toList=Xa1 n z:=by
 apply List.ext_getElem
 .simp[madeCells]
 .intro i h1 h2
  simp[madeCells,Nat.mod_one]
theorem Bu(a b:Value)(n:Nat):madeCells #[a,b] (n*2)=((Xa1 n [a,b]).flatten).toArray:=by
 refine L3;induction n with
 |zero=>
  rfl
 |succ n ih=>rw[show(n+1)*2=n*2+2 by omega,List.range_add,Xb3,ih,List.replicate_succ',List.flatten_append];simp[List.range_succ,Nat.add_mod,Nat.mul_mod_left]
theorem IY(n:Nat):madeCells #[JS 0,.slice none 0 0] (n*2)=(dG (Xa1 n re0)).toArray:=by
 rw[Bu]
 congr 1
 induction n with
 |zero=>
  rfl
 |succ n ih=>simp[List.replicate_succ,dG,ih,re0]
end St
namespace St
theorem jR(w:World):(zeroValue 3).run prog w=.ok (JI 0) w:=kM
theorem S8:(prog.info? 430).map (λi=>(i.zero,i.size,i.bytes))=some (some (.agg #[JS 0,.slice none 0 0]),2,32):=kM
theorem JL(zs:List Int):∀u∈zs.map (Xc2 .u8),u.oneCell'=true:=by intro u hu;obtain⟨z,_,rfl⟩:=List.mem_map.1 hu;rfl
theorem CG{α:Type}(L cs:List α)(h:cs.length=L.length):splice L 0 cs=cs:=by simp[splice,h]
theorem Qa{c:Array Value}{t:TypeId}(h:bd w A .u8 zs)(h0:0<(zs.map (Xc2 .u8)).length) :
  ∃ad,A=some ad/\∀j v,(zs.map (Xc2 .u8))[j]?=some v->(w.alloc (.cells c t)).cell? (ad.add j)=some v:=by
 obtain⟨b,o,hA,hb,_⟩:=h 0 (by simpa using h0);refine⟨⟨b,o,none⟩,hA,λj v hv=>?_⟩;have hj:j<zs.length:=by have:=(List.getElem?_eq_some_iff.1 hv).1;exact ia
 obtain⟨b2,o2,hA2,hb2,hc⟩:=h j hj;rw[hA]at hA2;simp only[Xc6.injEq,Addr.mk.injEq]at hA2;obtain⟨rfl,rfl,_⟩:=hA2;have hv':v=JW (zs.getD j 0):=by rw[List.getElem?_map,Xa3 hj]at hv;simp at hv;rw[←hv];simp[Xb1,hj]
 rw[hv',Addr.add_lit];exact((Below.alloc (Below.refl w.heap.size w) fo _).cell (p:=⟨b,o+j,none⟩) hb).trans hc
theorem OD(w:World)(A:Option Addr)(cap:Nat)(zs:List Int)(hl:zs.length<=1000000)(hA:bd w A .u8 zs) :
  az 238 #[.slice A zs.length cap] w λe w'=>∃g,e=aA (.slice (aT g) zs.length zs.length)/\w'.heap[g]?=OC (zs.map (Xc2 .u8)).toArray 5/\w.heap.size<=g/\aC w w':=by
 have HA:=OH hA;have hmk:=run_make_row' (P:=prog) 56 5 (JW 0) 1 underlying56 kM rfl .i64 .i64 zs.length oM oM;go_enter func238,ntmps238;refine jO;have hg:(w.alloc (.cells (madeCells #[JW 0] zs.length) 5)).heap[w.heap.size]?=OC (Xa1 zs.length (JW 0)).toArray 5:=by rw[ao _ _ _ rfl,←O4]
 have G:=OH hg;go_wp2_with (with_reducible refine wpList_copy_splice rfl (.tmp 7) (.tmp 8) 56 56 rfl 5 underlying56 kM _ _ zs.length zs.length zs.length cap rfl rfl w.heap.size 0 _ 5 G.out (zs.map (Xc2 .u8)) sM (λh0=>⟨rfl,Qa HA.out h0⟩) sM (JL zs) w.heap.size w oA fo ?_;intro w1 hg1 hb1)
 go_ret;have h2:=hg1.out;rw[CG _ _ sM]at h2;exact⟨_,rfl,h2,Xc1 _,hb1⟩
theorem new_t(k:Int)(n:Nat)(hk:k=n)(w:World)(h0:1<=n)(h1:n<=4096) :
  az 58 #[JI k] w λe w'=>∃S R M,e=aA (OV S)/\dk w' S R M w.heap.size w.heap.size n 0 0 [] (Xa1 n re0)/\aC w w':=by
 subst hk;obtain⟨i0,hi,hz0,hz1,hz2⟩:=info_parts S8;have hmk:∀W:World,(Instr.makeSlice 240 (JI (n:Int)) (JI (n:Int))).run prog W=.ok (.slice (aT W.heap.size) n n) (W.alloc (.cells (dG (Xa1 n re0)).toArray 430)):=by intro W;have hr:=run_make (P:=prog) W 240 430 i0 _ underlying240 hi hz0 .i64 .i64 n n oM oM (by rw[hz2];omega) oM;rw[hz1,Int.toNat_natCast]at hr;rw[←IY];exact hr
 refine oN;go_enter func58,ntmps58;refine bj;refine⟨w.heap.size+1+1,w.heap.size,w.heap.size+1,J3,⟨?_,?_,sM,?_,?_,sM,λj hj=>by simp at hj,oM,oM,oM,xM,xM⟩,gM⟩
 .rw[Nat.zero_mod]
  exact vQ
 .exact vQ
 .intro x hx
  rw[List.eq_of_mem_replicate hx];exact⟨by simp[re0],by simp[re0],none,0,0,by simp[re0]⟩
 .have:=(aP.made (w.alloc (.cells (dG (Xa1 n re0)).toArray 430)) prog 51 .u16).alloc (.cells #[.slice (aT w.heap.size) n n,JI 0,JI 0,.map (some (w.heap.size+1))] 243)
  rw[aD]at this;exact this.congr (λx=>rfl)
theorem Cv(h0:0<=x)(h1:x<=65535):(Lit.int .u16 x).wf=true:=WalkArith.wf_u16 ⟨h0,h1⟩
theorem get_none(w:World)(S R M B E n t m:Nat)(K:List Pk)(rg:List RE)(h:dk w S R M B E n t m K rg)(x:Int)(x0:0<=x)(x1:x<=65535)(hx:fj K x=none) :
  az 181 #[OV S,JS x] w λe w'=>e=aA (.tuple #[.slice none 0 0,.bool false])/\w=w':=by
 have hs:=h.s;have hM:=h.map;refine vb;have l1:(gW n t K x).getD (JI 0)=JI 0:=yZ
 have l2:(gW n t K x).isSome=false:=yZ
 refine sB;refine ZC;go_ret2;exact gO
theorem get_some(w:World)(S R M B E n t m:Nat)(K:List Pk)(rg:List RE)(h:dk w S R M B E n t m K rg)(hn:1<=n)(hn1:n<=4096)(x:Int)(x0:0<=x)(x1:x<=65535)(j:Nat)(hx:fj K x=some j)(zs:List Int)(hzs:∀hj:j<K.length,K[j].2=zs)(hl:zs.length<=1000000) :
  az 181 #[OV S,JS x] w λe w'=>∃g,e=aA (.tuple #[.slice (aT g) zs.length zs.length,.bool true])/\w'.heap[g]?=OC (zs.map (Xc2 .u8)).toArray 5/\w.heap.size<=g/\aC w w':=by
 have hs:=h.s;have hM:=h.map;have hr:=h.r;obtain⟨hj,_⟩:=Bx hx;obtain⟨re,e1,_,e3⟩:=h.ent j hj;rw[hzs hj]at e3;have hp:(t-K.length+j) % n<n:=Nat.mod_lt _ oM;have l1:(gW n t K x).getD (JI 0)=JI (((t-K.length+j) % n:Nat):Int):=yZ
 have l2:(gW n t K x).isSome=true:=yZ
 generalize (t-K.length+j) % n=p at *;have hpl:p<rg.length:=by rw[h.rl];exact hp
 have d1:=(lB hr hpl).2;have e4:rg[p]=re:=by rw[Xa3 hpl]at e1;simpa using e1
 rw[e4]at d1;obtain⟨g,hv,hg,hh⟩:=e3;have e3':iE w E re.v zs:=⟨g,hv,hg,hh⟩
 rw[hv]at d1 e3';have hint:=(D5 e3').1;refine vb;have zR:=aB hr;refine sB;have HI:=OH hint;refine ZC;refine(OD _ _ _ zs hl HI.out).mono ?_;rintro e w1 ⟨g1,rfl,h1,h2,hb⟩;refine df;exact⟨g1,rfl,h1,h2,hb⟩
end St
theorem Dd.ed.low{B':Nat}{L:List Dd.En}(h:Dd.ed w T M B room n L)(hB:B'<=B):Dd.ed w T M B' room n L:=by obtain⟨⟨v,hv,hq⟩,hm,b1,b2,b3⟩:=h;exact⟨⟨v,hv,hq.imp id (λ⟨g,off,cap,cur,e1,e2,r⟩=>⟨g,off,cap,cur,e1,Xb5 hB e2,r⟩)⟩,hm,Xb5 hB b1,Xb5 hB b2,Xb5 hB b3⟩
theorem cnew_t{n:Int}{ni nw nk A:Nat}{c:Cf}(h0:1<=n)(h1:n<=4)(h2:1<=ni)(h3:ni<=100)(h4:1<=nw)(h5:nw<=100)(h6:1<=nk)(h7:nk<=100)(ha:ja c.people 1 16=true)(hb:ja c.tracks 1 16=true)(hc:ja c.subs 1 16=true)(hs:ja c.slots 1 64=true) :
  az 21 #[.agg #[JI n,JI ni,JI nw,JI nk,JI c.people,JI c.tracks,JI c.subs,JI c.slots],OV A,OV P,OV B] w λe w'=>∃C Q R T M S cur,e=aA (OV C) /\
   w'.heap[C]?=OC (iP ⟨n,ni,nw,nk,c,A,P,B,Q,T,S⟩ (.slice none 0 0) (.slice none 0 0) (.slice none 0 0) none 0 (.slice none 0 0)) 153/\eD w' Q R 235 143 2 ni 0 [] cur/\Dd.ed w' T M w.heap.size nw 0 []/\bH w' prog 333 (E2 .i64 .i64) (O2 .i64 .i64) S []/\w.heap.size<=C/\w.heap.size<=Q/\w.heap.size<=R/\w.heap.size<=S/\S≠M/\aC w w':=by
 have e1:decide (n<1)=false:=xM;have e2:decide (4<n)=false:=xM;have hdn:=λW=>dnew_t c.people c.tracks c.subs c.slots ha hb hc hs W
 have HDN:=OH hdn;go_enter func21,ntmps21;refine ay;refine ej 7 (S:=(λw'=>Bk w' w.heap.size #[JI n,JI ni,JI nw,JI nk,JI c.people,JI c.tracks,JI c.subs,JI c.slots] 30/\ag af w w')) kM rM ?_ (λhHeld0=>?_)
 .exact⟨bk,bu⟩
 refine qG;refine tk 3 ?_;refine tk 4 ?_;refine on 2 λK hK=>?_
 go_simp;refine sD;refine(Sq ni _ rfl h2 oM _).mono ?_;rintro r w5 ⟨Q,R,cur,rfl,hq5,hQ,hR,hb5⟩;have hd5:ag af w (w.alloc (.cells #[JI n,JI ni,JI nw,JI nk,JI c.people,JI c.tracks,JI c.subs,JI c.slots] 30)).drew:=bu;have hc5:ag af w w5:=hd5.next hb5;have hZ5:w5.heap[w.heap.size]?=OC #[JI n,JI ni,JI nw,JI nk,JI c.people,JI c.tracks,JI c.subs,JI c.slots] 30:=(hb5.block _ KM).trans bZ;refine nO
 .exact⟨aO hZ5,hc5⟩
 refine mi;refine bV;refine lU;refine(Dd.new_t _ nw rfl _ h4 oM).mono ?_;rintro r w6 ⟨T,M,rfl,ht6,hb6⟩;have hc6:ag af w w6:=hc5.next hb6;have hq6:=hq5.kept (S:=af) (.of hb6) id id;have hZ6:=(hb6.block _ (aB hZ5)).trans hZ5;refine nP
 .exact⟨aO hZ6,hc6⟩
 refine AF;refine tk 6 ?_;refine As;(try clear hHeld2);have HQ6:=OH hq6;have HT6:=OH (Dd.ed.low ht6 (B':=w.heap.size) hc5.size);obtain⟨c0,f0,z0⟩:=ab hZ6;refine ay;refine(HDN.out _).mono ?_;rintro r w7 ⟨rfl,hb7⟩;have hc7:ag af w w7:=hc6.next hb7;have hZ7:=(hb7.block _ z0).trans hZ6;have HQ7:=OH (HQ6.out.kept (S:=af) (.of hb7) id id);have HT7:=OH (HT6.out.below hb7);obtain⟨c0,f0,z0⟩:=ab hZ7;have hX:(w7.alloc (.cells (gi c (.slice none 0 0) (.slice none 0 0) (.slice none 0 0)) 42)).heap[w7.heap.size]?=OC (gi c (.slice none 0 0) (.slice none 0 0) (.slice none 0 0)) 42:=bZ;obtain⟨c1,f1,z1⟩:=ab hX;refine oN;refine ay;refine(St.new_t _ nk rfl _ h6 oM).mono ?_;rintro r w8 ⟨S1,R1,M1,rfl,-,hb8⟩;have hd8:ag af w7 w8:=(show ag af w7 _ from ag.alloc dp _).next hb8;have hZ8:=(hd8.block _ z0 id).trans hZ7;have hX8:=(hb8.block _ z1).trans hX;have hc8:=hc7.trans hd8;have HQ8:=OH (HQ7.out.kept hd8 id id);have HT8:=OH (HT7.out.below hd8.none);obtain⟨c0,f0,z0⟩:=ab hZ8;obtain⟨c1,f1,z1⟩:=ab hX8;refine bj;have hd9:ag af w8 (w8.alloc (.map #[] 0)):=bu;have hM9:=bH.made w8 prog 333 (E2 .i64 .i64) (O2 .i64 .i64);have hTM:=HT8.out.map.lt;refine⟨_,Q,R,T,M,w8.heap.size,cur,rfl,eM,HQ8.out.kept (S:=af) bu id id,HT8.out.below jI,hM9.chg (S:=af) bu id,?_,by rw[bE,aD]at hQ;omega,by rw[bE,aD]at hR;omega,?_,oM,hc8.none.trans (ag.below (S:=af) bu (λj q=>q.elim) hc8.size)⟩;all_goals(have:=hc8.size;omega)
def bB(s:List (Int×Int)×List Int):List (Int×Int)×List Int:=match s.1 with| []=>s|x::r=>(r,s.2.set x.1.toNat x.2)
theorem Eb(h:aH w B P QA RA LA n q r room tabs acks last)(ha:∀x∈acks,0<=x.1/\x.1.toNat<n) :
  az 114 #[OV P] w λe w'=>(∃x y z,e=aA (.tuple #[JI x,JU y,.bool z]))/\aH w' B P QA RA LA n q r room tabs (bB (acks,last)).1 (bB (acks,last)).2/\ag (Fr [(229,B,0),(132,B,0),(47,LA,LA+1)] [] w) w w':=by
 match acks,h,ha with
 | [],h,_=>
  exact(yh h).mono λe w' ⟨h1,h2⟩=>⟨⟨_,_,_,h1⟩,h.below h2,tH h2⟩
 |(s,ep)::acks,h,ha=>
  obtain⟨s0,s1⟩:=ha (s,ep) sM;dsimp only at s0 s1;obtain⟨k,rfl⟩:∃k:Nat,s=k:=⟨s.toNat,oM⟩
  rw[Int.toNat_natCast]at s1;obtain⟨a,cur,hq⟩:=h.ak;exact(yg h s1).mono λe w' ⟨h1,h2,h3⟩=>⟨⟨_,_,_,h1⟩,by simpa[bB]using h2,h3.mono λj _ q=>by
   rcases q with(q|q)|q<;>subst q
   .exact eN hq.q sM h.b.2.1
   .exact eN hq.r sM h.b.2.2.1
   .exact tG h.la sM leR (Nat.lt_succ_self _)⟩
structure Pd where
 at':Nat
 id:Int
 epoch:Int
 v:Value
 calls:List Int
structure dD(w:World)(B:Nat)(vw:Value)(ps:List Pd):Prop where
 q:cE w B 263 vw (ps.map λp=>OV p.at')
 p:∀p∈ps,B<=p.at'/\w.heap[p.at']?=OC #[JU p.id,JU p.epoch,p.v] 265/\w.ownsRow B 3 1 p.v p.calls.length (p.calls.map (Xc2 .i64))/\p.calls.length<=1000/\0<p.calls.length/\0<=p.id/\p.id<2 ^ 64
 n:(ps.map Pd.at').Nodup
 s:ps.Pairwise λp q=>∀g,p.v.ownBlock=some g->q.v.ownBlock≠some g
theorem dD.chg{ps:List Pd}(h:dD w B vw ps)(hc:ag S w w')(h1:gk S 263 w)(h2:gk S 265 w)(h3:gk S 3 w):dD w' B vw ps:=
 ⟨h.q.kept λg hg=>by
  obtain⟨_,hl,cur,hb⟩:=h.q.block hg;exact hc.block g hl (λq=>h1 _ _ q hb),λp hp=>by
  obtain⟨a,b,c,d⟩:=h.p p hp;exact⟨a,ae hc b (λq=>h2 _ _ q b),ah c hc h3,d⟩,h.n,h.s⟩
theorem dD.tail{p:Pd}{ps:List Pd}(h:dD w B v (p::ps))(hq:cE w B 263 vw (ps.map λp=>OV p.at')):dD w B vw ps:=
 ⟨hq,λx hx=>h.p x wF,(List.nodup_cons.1 h.n).2,(List.pairwise_cons.1 h.s).2⟩
theorem mS(h:aH w B P QA RA LA n q r room tabs acks last)(hc:ag (Fr ts ms w) w w')(ht:(ts.all λp=>p.1 !=136&&p.1 !=229&&p.1 !=132&&p.1 !=232&&p.1 !=139&&p.1 !=137)=true)(hl:∀p∈ts,p.1=47->LA<p.2.1\/(p.2.2≠0/\p.2.2<=LA)):aH w' B P QA RA LA n q r room tabs acks last:=by
 have ht':∀e,(e=136\/e=229\/e=132\/e=232\/e=139\/e=137)->(ts.all λp=>p.1 !=e)=true:=λe he=>Xb2.2 λp hp=>by have:=Xb2.1 ht p hp;simp only[Bool.and_eq_true]at this;rcases he with rfl|rfl|rfl|rfl|rfl|rfl<;>simp[this]
 obtain⟨v,k1,-⟩:=h.p;obtain⟨a,cur,k2⟩:=h.ak;refine h.kept hc (λq=>gh (ht' 136 sM) _ _ q k1) (λq=>gh (ht' 229 sM) _ _ q k2.q) (λq=>gh (ht' 132 sM) _ _ q k2.r) (λq=>?_) (λi hi=>?_) (gh (ht' 137 sM))
 .rcases q with⟨_,q⟩|⟨p,hp,hle,hle2,cur',hc'⟩
  .exact q _ _ h.la
  .have:=hl p hp (by by_cases hq:p.1=47;exact hq;exact(au h.la (λq=>hq q.symm) hc').elim)
   omega
 .obtain⟨a,cur,k⟩:=h.tq i hi
  exact⟨λq=>gh (ht' 232 sM) _ _ q k.q,λq=>gh (ht' 139 sM) _ _ q k.r⟩
theorem CC{L:List Dd.En}(h:Dd.ed w T M B room n L)(hc:ag (Fr ts ms w) w w')(ht:(ts.all λp=>p.1 !=238)=true)(hl:∀p∈ts,p.1=47->p.2.2≠0/\p.2.2<=B)(hm:M ∉ ms):Dd.ed w' T M B room n L:=by
 obtain⟨v,hv,hq⟩:=h.row;refine⟨⟨v,bJ hc hv ht,hq.kept λg hg=>?_⟩,?_,h.bT,h.bM,Xb5 h.bw hc.size⟩
 .obtain⟨hb,hlt,cur,hcur⟩:=hq.block hg
  refine hc.block g hlt (λq=>?_);rcases q with⟨_,q⟩|⟨p,hp,hle,hle2,cur',hc'⟩
  .exact q _ _ hcur
  .have:=hl p hp (by by_cases hq:p.1=47;exact hq;exact(au hcur (λq=>hq q.symm) hc').elim)
   omega
 .exact h.map.same (hc.block M h.map.lt λq=>by
   rcases q with⟨q,_⟩|⟨p,hp,_,_,cur',hc'⟩
   .exact hm q
   .exact h.map.not_cells hc' rfl)
inductive jG:List Dd.En->List Int->List Dd.En->Prop
 |none (L:List Dd.En):jG L [] L
 |snoc {L L1:List Dd.En} {ids:List Int} (id:Int) (s:ByteArray) (hs:s.size=9) (h:jG L ids L1):jG L (ids++ [id]) (Dd.endF L1 id s).1
def dF(ps:List Pd):List (Int×Int×Int):=ps.flatMap λp=>p.calls.map λz=>(z,p.id,0)
abbrev Cj(x:Int×Int×Int):List Value:=[JI x.1,JU x.2.1,JI x.2.2]
theorem Sh(x:Int×Int×Int):(Cj x).length=3:=rfl
theorem pH(ps:List Pd)(p:Pd):dF (ps++ [p])=dF ps++p.calls.map λz=>(z,p.id,0):=by simp[dF]
theorem rp_re(id e:Int)(zs:List Int):zs.flatMap (rpC id e)=(zs.map λz=>(z,id,e)).flatMap Cj:=by rw[List.flatMap_map]
theorem SH(id e:Int)(zs:List Int):∀u∈zs.flatMap (rpC id e),u.oneCell'=true:=λu hu=>by obtain⟨z,_,hz⟩:=List.mem_flatMap.1 hu;simp only[rpC,List.mem_cons,List.not_mem_nil,or_false]at hz;rcases hz with rfl|rfl|rfl<;>rfl
theorem GM(ps dn rest:List Pd)(h:dn++rest=ps):(dF dn).length<=(dF ps).length:=by rw[←h];simp[dF]
theorem R7(ps:List Pd)(h:∀p∈ps,p.calls.length<=1000):(dF ps).length<=ps.length*1000:=by
 induction ps with
 |nil=>
  simp[dF]
 |cons p ps ih=>
  have h1:=h p sM;have h2:=ih λq hq=>h q (by simp[hq])
  simp only[dF,List.flatMap_cons,Xa0,Xa2,Xb0]at *;omega
def lenOf:Value->Nat|.slice _ n _=>n|_=>0
structure Cd(w:World)(C B BB QA RA LA n M B2 room room2 k0:Nat)(G:Kx)(vp vt vs:Value)(t:Option Addr)(ever:Int)(q r:Nat->Nat)(tabs:Nat->List Value)(acks:List (Int×Int))(last:List Int)(L:List Dd.En)(ps dn rest:List Pd)(A:Option Addr)(cap:Nat)(L1:List Dd.En)(w':World):Prop where
 l:dn++rest=ps
 d:∀p∈dn,p.epoch<=kQ last
 c:w'.heap[C]?=OC (iP G vp vt vs t ever (.slice A rest.length cap)) 153
 ws:dD w' B (.slice A rest.length cap) rest
 b:aH w' BB G.B QA RA LA n q r room tabs acks last
 t:Dd.ed w' G.D M B2 room2 (k0+dn.length) L1
 e:jG L (dn.map Pd.id) L1
 g:ag (Fr [(229,BB,0),(132,BB,0),(47,LA,LA+1),(238,B2,0),(47,B2,0),(153,C,C+1)] [M] w) w w'
def CollE(w:World)(C B BB QA RA LA n M B2 room room2 k0:Nat)(G:Kx)(vp vt vs:Value)(t:Option Addr)(ever:Int)(q r:Nat->Nat)(tabs:Nat->List Value)(acks:List (Int×Int))(last:List Int)(L:List Dd.En)(ps:List Pd)(e:Ending)(w':World):Prop:=
 ∃v dn rest A cap L1,e=aA v/\Cd w C B BB QA RA LA n M B2 room room2 k0 G vp vt vs t ever q r tabs acks last L ps dn rest A cap L1 w'/\(∀p,rest.head?=some p->¬p.epoch<=kQ last)/\w'.ownsRow w.heap.size 255 3 v (dF dn).length ((dF dn).flatMap Cj)
theorem DZ{BB B2 room2 k0 cap0:Nat}{A0:Option Addr}{L:List Dd.En}{ps:List Pd}(hC:w.heap[C]?=OC (iP G vp vt vs t ever (.slice A0 ps.length cap0)) 153)(hW:dD w B (.slice A0 ps.length cap0) ps)(hB:aH w BB G.B QA RA LA n q r room tabs acks last)(ha:∀x∈acks,0<=x.1/\x.1.toNat<n)(hT:Dd.ed w G.D M B2 room2 k0 L)(hk:k0+ps.length<=900000)(hpl:ps.length<=1000)(hLA:LA<B2) :
  az 66 #[OV C] w (CollE w C B BB QA RA LA n M B2 room room2 k0 G vp vt vs t ever q r tabs (bB (acks,last)).1 (bB (acks,last)).2 L ps):=by
 have hcl:=Eb hB ha;have HCL:=OH hcl;generalize (bB (acks,last)).1=acks' at *;generalize (bB (acks,last)).2=last' at *;refine nN;clear hcl hB ha;obtain⟨i0,hi0,hz0,hz1,hz2⟩:=aI G8;go_enter func66,ntmps66;refine vh;rintro e w1 ⟨⟨x,y,z,rfl⟩,hB1,hc1⟩;have hC1:=bJ hc1 hC rM;have hW1:=hW.chg hc1 eR eR eR;have hT1:=CC hT hc1 rM xM sM;have hg1:ag (Fr [(229,BB,0),(132,BB,0),(47,LA,LA+1),(238,B2,0),(47,B2,0),(153,C,C+1)] [M] w) w w1:=dq hc1 sM sM;have hR1:Cd w C B BB QA RA LA n M B2 room room2 k0 G vp vt vs t ever q r tabs acks' last' L ps [] ps A0 cap0 L w1:=⟨rfl,λ_ h=>absurd h sM,hC1,hW1,hB1,hT1,jG.none L,hg1⟩
 clear cC fC zC hC hW hT hC1 hW1 hT1 hg1 hB1 hc1 HCL;refine ay;have hpc:∀p∈ps,0<p.calls.length/\p.calls.length<=1000:=λp hp=>⟨(hR1.ws.p p hp).2.2.2.2.1,(hR1.ws.p p hp).2.2.2.1⟩
 have HPC:=OH hpc;clear hpc;have HR1:=OH hR1;clear hR1;go_loopw [3] (λv wr=>∃ (dn rest:List Pd) (A:Option Addr) (cap:Nat) (L1:List Dd.En) (Av:Option Addr) (cv:Nat),v=.slice Av (dF dn).length cv/\Cd w C B BB QA RA LA n M B2 room room2 k0 G vp vt vs t ever q r tabs acks' last' L ps dn rest A cap L1 wr/\wr.ownsRow w.heap.size 255 3 (.slice Av (dF dn).length cv) (dF dn).length ((dF dn).flatMap Cj)) (λv _=>(dF ps).length-lenOf v);case atStart=>exact⟨[],ps,A0,cap0,L,none,0,rfl,HR1.out,Xc4 _ _ _ _⟩
 case round=>
  clear HR1;obtain⟨dn,rest,A,cap,L1,Av,cv,rfl,hR,hown⟩:=hrel;have HR:=OH hR;refine EL;have hC:=hR.c;refine nN;have hak:=λnq=>T0 (hR.b.below (w':=wr.drewN nq) (bF yN _))
  have HAK:=OH hak;clear hak hR;cases rest with
  |nil=>
   have cC':∀j,wr.cell? ⟨C,j,none⟩=(iP G vp vt vs t ever (.slice A 0 cap))[j]?:=cC;have hC':wr.heap[C]?=OC (iP G vp vt vs t ever (.slice A 0 cap)) 153:=hC;clear cC hC;refine ay;go_quiet (fail);refine bj;have hR:=HR.out;have hcd:ag af wr (wr.drewN nq):=bu;exact⟨_,dn,[],A,cap,L1,rfl,zt63,sM,ah HOW.out hcd cy⟩
  |cons p rest=>
   have cC':∀j,wr.cell? ⟨C,j,none⟩=(iP G vp vt vs t ever (.slice A (rest.length+1) cap))[j]?:=cC;have hC':wr.heap[C]?=OC (iP G vp vt vs t ever (.slice A (rest.length+1) cap)) 153:=hC;clear cC hC;have hWS:=HR.out.ws;obtain⟨hpB,hP,hpo,hpl1,hpl2,hid⟩:=hWS.p p sM;obtain⟨g,off,rfl,hgB,hgl,hcell,-⟩:=mX hWS.q (j:=0) sM;have hcell0:wr.cell? ⟨g,off,none⟩=some (OV p.at'):=hcell;obtain⟨pA,pc,hpv⟩:=aj hpo;obtain⟨pa,pid,pep,pv,pcl⟩:=p;dsimp only at hpB hP hpo hpl1 hpl2 hid hcell0 hpv;subst hpv;have hln:=(sV hWS.q)
   refine zu;have e0:decide ((0:Int)<((rest.length+1:Nat):Int))=true:=by simp only[decide_eq_true_eq];omega
   have e9:decide (0<rest.length+1)=true:=sM;have hi9:(0:Int)<((rest.length+1:Nat):Int):=oM;obtain⟨bb,hbb⟩:∃b,decide (pep<=kQ last')=b:=⟨_,rfl⟩
   cases bb with
   |false=>
    refine ay;go_quiet (refine Calls.quiet_of_same (HAK.out _));refine bj;have hR:=HR.out;have hcd:ag af wr (wr.drewN nq):=bu;exact⟨_,dn,_,_,cap,L1,rfl,zt63,(λp hp=>by simp at hp;subst hp;simpa using hbb),ah HOW.out hcd cy⟩
   |true=>
    refine ay;go_quiet (refine Calls.quiet_of_same (HAK.out _));obtain⟨V,hV⟩:∃V,V=wr.drewN nq:=⟨_,rfl⟩
    rw[←hV];have hcd:ag af wr V:=by rw[hV];exact bu
    have hR:=HR.out;have HRV:Cd w C B BB QA RA LA n M B2 room room2 k0 G vp vt vs t ever q r tabs acks' last' L ps dn (⟨pa,pid,pep,.slice pA pcl.length pc,pcl⟩::rest) (some ⟨g,off,none⟩) cap L1 V:=⟨hR.l,hR.d,(hcd.block _ zC id).trans hR.c,hR.ws.chg hcd cy cy cy,hR.b.below hcd.none,hR.t.below hcd.none,hR.e,aF hR.g (aY hcd)⟩
    have HOV:=OH (ah HOW.out hcd cy);have hCV:V.heap[C]?=OC (iP G vp vt vs t ever (.slice (some ⟨g,off,none⟩) (rest.length+1) cap)) 153:=(hcd.block _ zC id).trans hC';have hPV:=(hcd.block _ zP id).trans hP;have hcV:V.cell? ⟨g,off,none⟩=some (OV pa):=by rw[←hcell0];unfold World.cell?;rw[hcd.block g hgl id]
    clear hV hcd hR HR HOW hC' hP hcell hcell0 cC' fC zC cP fP zP HAK hWS hpo;have HR:=OH HRV;clear HRV;obtain⟨cC,fC,zC⟩:=ab hCV;obtain⟨cP,fP,zP⟩:=ab hPV;have hwsV:=HR.out.ws;have hrb:=R7 ps (λp hp=>(HPC.out p hp).2);have hrd:=GM ps dn _ HR.out.l;rcases Decidable.em (cap=1)with hc1|hc1
    .refine jo
     have hqt:=kH hwsV.q off (.inl ⟨hc1,rfl⟩);rw[hc1]at hqt;obtain⟨A1,hA1⟩:∃A1:Option Addr,A1=some ⟨g,off,none⟩:=⟨_,rfl⟩
     obtain⟨c1,hc1e⟩:∃c1:Nat,c1=0:=⟨_,rfl⟩
     obtain⟨X,hX0⟩:∃X,X=V.setCell ⟨C,23,none⟩ (.slice (some ⟨g,off,none⟩) rest.length 0):=⟨_,rfl⟩
     exact zq24
    .refine jo
     have hqt:=kH hwsV.q (off+1) (.inr ⟨hc1,rfl⟩);obtain⟨A1,hA1⟩:∃A1:Option Addr,A1=some ⟨g,off+1,none⟩:=⟨_,rfl⟩
     obtain⟨c1,hc1e⟩:∃c1:Nat,c1=cap-1:=⟨_,rfl⟩
     obtain⟨X,hX0⟩:∃X,X=V.setCell ⟨C,23,none⟩ (.slice (some ⟨g,off+1,none⟩) rest.length (cap-1)):=⟨_,rfl⟩
     exact zq24
theorem dD.put{V w1:World}{ps:List Pd}{k:Nat}{gg cap2:Nat}(h:dD V B vw ps)(hk:k<ps.length)(hl:ps[k].calls.length<1000)(hown:w1.ownsRow B 3 1 (.slice (aT gg) (ps[k].calls.length+1) cap2) (ps[k].calls.length+1) (ps[k].calls.map (Xc2 .i64)++ [JI x]))(hg:V.grownBy w1 ps[k].v.ownBlock)(hat:ps[k].v.ownBlock=some gg\/gg=V.heap.size) :
  dD (w1.setCell ⟨ps[k].at',2,none⟩ (.slice (aT gg) (ps[k].calls.length+1) cap2)) B vw (ps.set k ⟨ps[k].at',ps[k].id,ps[k].epoch,.slice (aT gg) (ps[k].calls.length+1) cap2,ps[k].calls++ [x]⟩):=by
 obtain⟨p1,p2,p3,p4,p5,p6⟩:=h.p ps[k] ny;have hblk:∀ {i:Nat} {cs:Array Value} {t:TypeId},V.heap[i]?=OC cs t->t≠3->w1.heap[i]?=OC cs t:=λh1 h2=>aV p3 hg h1 h2
 have hP1:=hblk p2 dM;have hset:∀ {i:Nat} {cs:Array Value} {t:TypeId},i≠ps[k].at'->w1.heap[i]?=OC cs t->(w1.setCell ⟨ps[k].at',2,none⟩ (.slice (aT gg) (ps[k].calls.length+1) cap2)).heap[i]?=OC cs t:=λh1 h2=>aN h1 h2
 have hmap:(ps.set k ⟨ps[k].at',ps[k].id,ps[k].epoch,.slice (aT gg) (ps[k].calls.length+1) cap2,ps[k].calls++ [x]⟩).map (λp:Pd=>Value.pointer (some ⟨p.at',0,none⟩))=ps.map λp=>OV p.at':=Xj
 have hmap2:(ps.set k ⟨ps[k].at',ps[k].id,ps[k].epoch,.slice (aT gg) (ps[k].calls.length+1) cap2,ps[k].calls++ [x]⟩).map Pd.at'=ps.map Pd.at':=Xj
 have hsep:∀i (hi:i<ps.length),i≠k->∀g,ps[i].v.ownBlock=some g->ps[k].v.ownBlock≠some g:=λi hi hik g h1 h2=>by
  rcases Xb7 hik with q|q
  .exact PI.1 h.s i k hi hk q g h1 h2
  .exact PI.1 h.s k i hk hi q g h2 h1
 have hne:∀i (hi:i<ps.length),i≠k->ps[i].at'≠ps[k].at':=λi hi hik q=>by
  have hn:=PI.1 h.n;rcases Xb7 hik with r|r
  .exact hn i k nv rG r (by simpa using q)
  .exact hn k i rG nv r (by simpa using q.symm)
 have hfar:∀i (hi:i<ps.length),i≠k->ps[i].v.ownBlock≠some gg:=λi hi hik q=>by
  rcases hat with r|r
  .exact hsep i hi hik gg q r
  .have:=((h.p ps[i] lm).2.2.1.lt _ q).2
   omega
 refine⟨?_,λy hy=>?_,by rw[hmap2];exact h.n,?_⟩
 .rw[hmap]
  exact(h.q.kept λg hgq=>by obtain⟨_,hl,cur,hb⟩:=h.q.block hgq;rw[hb];exact hset (λq=>au hb (by decide:(263:TypeId)≠265) (q ▸ p2)) (hblk hb dM))
 .obtain⟨i,hi,rfl⟩:=List.getElem_of_mem hy
  rw[Xb4]at hi;refine lQ;split
  .rename_i hik
   refine⟨p1,av 2 _ hP1,?_,xM,sM,p6⟩;have h3:=aU (a:=⟨ps[k].at',2,none⟩) (u:=.slice (aT gg) (ps[k].calls.length+1) cap2) hown hP1 dM;simpa using h3
  .rename_i hik
   have hik:i≠k:=λq=>hik q.symm
   obtain⟨q1,q2,q3,q4⟩:=h.p ps[i] lm;refine⟨q1,hset (hne i hi hik) (hblk q2 dM),?_,q4⟩;refine aU (OA q3 hg ?_) hP1 dM;cases ho:ps[i].v.ownBlock with
   |none=>
    exact jm
   |some g=>exact .inr (λq=>hsep i hi hik g ho q.symm)
 .rw[PI]
  intro i j hi hj hij g h1 h2;rw[Xb4]at hi hj;rw[List.getElem_set]at h1 h2;split at h1
  .split at h2
   .omega
   .rename_i a b
    simp only[Xc3,Xc6.injEq]at h1;exact hfar j hj (λq=>b q.symm) (h1 ▸ h2)
  .split at h2
   .rename_i a b
    simp only[Xc3,Xc6.injEq]at h2;exact hfar i hi (λq=>a q.symm) (h2 ▸ h1)
   .exact PI.1 h.s i j hi hj hij g h1 h2
end Go.Proofs.YtnpancjkjheffaaGreat
