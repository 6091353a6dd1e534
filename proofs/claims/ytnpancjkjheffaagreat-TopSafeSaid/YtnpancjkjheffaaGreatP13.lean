/- Part 15 of the proof of TopSafe. No condition. -/
import Derived.Test.YtnpancjkjheffaaGreatP12
namespace Go.Proofs.YtnpancjkjheffaaGreat
set_option linter.unusedVariables false
set_option linter.unusedSimpArgs false
set_option maxRecDepth 100000
set_option maxHeartbeats 8000000
open Go.RowKit
open Go.Proofs.Tryz
open _root_.Option renaming bind_some->PI,map_some->Xa0,isSome_map->Xa1,map_none->Xa2,some->Xa3,map_map->Xa4
open Region renaming wanted->Xa5,ready->Xa6,noSelect->Xa7,free->Xa8
open _root_.Nat renaming le_trans->Xa9,lt_of_lt_of_le->Xb0,le_refl->Xb1
open _root_.List renaming mem_singleton->Xb2,mem_of_find?_eq_some->Xb3,find?_map->Xb4,map_map->Xb5
open Value renaming int->Xb6
variable {a a':Act}{listed:Array Bool}{cur:Array Value}{B s wf wl wt y:Int}{zs:List Int}{D N R f g j n:Nat}{M S:Nat->Prop}{o oi:Oper}{p:Pk}{t:Tr}{v:Value}{w w':World}{x:oz}
def yA(x:oz)(p:Pk)(fr la wf wl:Int):Prop:=x.on=false/\fr=wf/\la=wl/\wC p/\p.zs=[16,0]
theorem RG(on:Bool)(f l t xf xl:Int)(bg wh ht:Bool)(xt:Int)(sy:Bool)(wf wl wt:Int):(Ch.eG on f l t xf xl bg wh ht xt sy wf wl wt).2.2.2.2=0\/(Ch.eG on f l t xf xl bg wh ht xt sy wf wl wt).2.2.2.2=1\/(Ch.eG on f l t xf xl bg wh ht xt sy wf wl wt).2.2.2.2=2\/(Ch.eG on f l t xf xl bg wh ht xt sy wf wl wt).2.2.2.2=3:=by
 unfold Ch.eG;split
 .dsimp only
  split
  .exact .inr (.inr (.inl rfl))
  .exact .inr (.inl rfl)
 .split
  .exact .inr (.inr (.inr rfl))
  .exact jm
theorem gL.lt{S M:Nat}(h:gL w N S R M n):S<w.heap.size/\R<w.heap.size/\M<w.heap.size:=by obtain⟨B,E,t',m,K,rg,h,-,-⟩:=h;exact⟨aB h.s,aB h.r,h.map.lt⟩
theorem TB{S M:Nat}{fr la:Int}(h:dC w N D S R M n s x)(hN:N<=99998)(hp:yC w p) :
  az 179 #[OV D,.agg (ij p).toArray,JI fr,JI la,.agg #[JI wf,JI wl,JI wt]] w (JZ w (N+1) D S R M n s (λx'=>yA x p fr la wf wl->x'.on=true/\x'.f=wf/\x'.l=wl) (λb=>yA x p fr la wf wl->b=true)):=by
 refine rS;clear h hp;go_enter func179,ntmps179;refine ay;have hb:(((w.alloc (.cells #[OV D] 78)).alloc (.cells (ij p).toArray 58)).alloc (.cells #[JI wf,JI wl,JI wt] 304)).heap[w.heap.size]?=OC #[OV D] 78:=bZ;have hpb:(((w.alloc (.cells #[OV D] 78)).alloc (.cells (ij p).toArray 58)).alloc (.cells #[JI wf,JI wl,JI wt] 304)).heap[w.heap.size+1]?=OC (ij p).toArray 58:=bZ;have hwb:(((w.alloc (.cells #[OV D] 78)).alloc (.cells (ij p).toArray 58)).alloc (.cells #[JI wf,JI wl,JI wt] 304)).heap[w.heap.size+1+1]?=OC #[JI wf,JI wl,JI wt] 304:=bZ;have hGa:ag af w (((w.alloc (.cells #[OV D] 78)).alloc (.cells (ij p).toArray 58)).alloc (.cells #[JI wf,JI wl,JI wt] 304)):=bu;generalize (((w.alloc _).alloc _).alloc _)=wa at *;generalize hbe:w.heap.size=b at *;have HBE:=OH hbe;clear hbe;have HGA:=OH hGa;have hzl:=HP.out.k.n.zs;refine(vG (HP.out.below HGA.out.none).k.zs HP.out.k.b oM).mono ?_;rintro r w1 ⟨d,m,err,rfl,hd,hok,hpl,hb1⟩;have hG:ag af w ((w1.alloc (.cells (kW d) 410))):=(HGA.out.next hb1).alloc _;have hb:=ai (o:=.cells (kW d) 410) ((hb1.block _ rH).trans hb);have hpb:=ai (o:=.cells (kW d) 410) ((hb1.block _ (aB hpb)).trans hpb);have hwb:=ai (o:=.cells (kW d) 410) ((hb1.block _ (aB hwb)).trans hwb);have hdb:=ao w1 (.cells (kW d) 410) _ rfl;refine qh;refine ku;clear hd hok hpl hb1 HGA hGa;refine EZ;refine ay;generalize w1.alloc _=u1 at *;generalize w1.heap.size=db at *;refine(NZ (p:=p) (HP.out.below hG.none).k).mono ?_;rintro r w2 ⟨v2,err2,zr,rfl,-,-,hpl2,hb2⟩;have hb:=(hb2.block _ rH).trans hb;have hpb:=(hb2.block _ (aB hpb)).trans hpb;have hwb:=(hb2.block _ (aB hwb)).trans hwb;have hdb:=(hb2.block _ (aB hdb)).trans hdb;have hG:=hG.next hb2;have H2:=OH (H.out.below hG.none);have hD:=H2.out.d;have HPL2:=OH (λq=>(hpl2 q).1);have hgood:yA x p fr la wf wl->err=0/\err2=0/\d= {Jy with start:=true}:=λq=>by obtain⟨q1,q2,q3,q4,q5⟩:=q;obtain⟨a1,a2,a3⟩:=HPL.out (by rw[q5];rfl) (by rw[q5];rfl);exact⟨a1,HPL2.out q4,a2⟩
 have HGD:=OH hgood;refine Mf;obtain⟨bf,hbf⟩:∃b,(err2==0)=b:=⟨_,rfl⟩
 have gbf:(err2 !=0)=!bf:=by rw[bne,hbf]
 have HBB:=OH (show yA x p fr la wf wl->be=true/\bf=true from λq=>by obtain⟨a1,a2,_⟩:=hgood q;subst a1 a2;exact⟨hbe.symm.trans dM,hbf.symm.trans dM⟩)
 clear hbe hbf hb2 hpl2 hgood cp fp zp HPL HPL2;refine iI;go_cut [39] from 34 to 39 (λs wx=>(∃bb,s=.bool bb/\(yA x p fr la wf wl->bb=false))/\wx=w2);case first=>
  cases be<;>cases bf;all_goals
   go_wp2_with fail;go_meet;exact⟨⟨_,rfl,λq=>(by have:=HBB.out q;first|rfl|exact absurd this.1 dM|exact absurd this.2 dM)⟩,rfl⟩
 rename_i wc0
 obtain⟨⟨bb,rfl,hbb⟩,hwc⟩:=hcut;refine oJ;have HBBB:=OH hbb;clear gbe gbf hbb HBB;refine EQ;refine EZ;obtain⟨cw,fw,zw⟩:=ab hwb;obtain⟨cd,fd,zd⟩:=ab hdb;refine zy;cases bb with
 |true=>
  obtain⟨ba,hba⟩:∃b,Ch.ofB x.on x.f x.l fr la=b:=⟨_,rfl⟩
  refine ay;refine(Ch.asks_any x.on x.f x.l x.t fr la 0 _).mono ?_;rintro r w3 ⟨rfl,hb3⟩;have hb:=(hb3.block _ rH).trans hb;have hpb:=(hb3.block _ (aB hpb)).trans hpb;have hG:=hG.next hb3;have H3:=OH (H2.out.below hb3);have hD:=H3.out.d;rw[hba];clear hba cb fb zb cp fp zp cw fw zw cd fd zd cD fD zD hdb hwb hb3;refine EQ;refine EZ;refine zy;go_upto_if 48 with fail;go_cut [49] from 49 to 60 (λs' wx=>∃x',dC wx (N+1) D S R M n s x'/\jD x x'/\wx.heap[b]?=OC #[OV D] 78/\ag (iB D S R M) w wx);case first=>
   cases ba with
   |false=>
    refine dr;exact⟨x,H3.out.mono yP,⟨rfl,rfl,rfl,rfl⟩,hb,hG.mono (λ_ _ q=>q.elim)⟩
   |true=>
    obtain⟨r0,hr⟩:∃r,Mu.gU x.st ⟨p.seq,0,0,0⟩ false=r:=⟨_,rfl⟩
    have hdr:=λW=>Mu.drop_eq x.st r0 ⟨p.seq,0,0,0⟩ false W hr (by have:=H.out.st.h0;omega) (by have:=H.out.st.h1;omega) H.out.st.off.s0 H.out.st.off.s1
    have HDR:=OH hdr;have HRO:=OH (hr ▸ Mu.dropF_ok (i:=⟨p.seq,0,0,0⟩) (b:=false) H.out.st);clear hdr hr cb fb zb cp fp zp cD fD zD;refine gq;refine rl 12 (λw'=>Bk w' b #[OV D] 78/\Bk w' (b+1) (ij p).toArray 58/\Bk w' D (JA s S x) 379) (λw0_ hc0=>?_);have hb:=ae hc0 hb id;have hpb:=ae hc0 hpb id;have hD:=ae hc0 hD id;refine oH;refine qC;refine iU;refine kB;refine(HDR.out _).mono ?_;rintro r' w1_ ⟨rfl,hbq⟩;refine qA;have hb:=ae hc1 hb id;have hpb:=ae hc1 hpb id;have hD:=ae hc1 hD id;refine qj;refine mz;refine nK;refine lst (hD) ?_;obtain⟨h5,hc5⟩:=((H.out.below hG.none).mono yP).row 5 (me r0) {x with st:=r0} sM rfl (OM HRO.out);refine dr;exact⟨_,h5,⟨rfl,rfl,rfl,rfl⟩,ae hc5 hb (eC (H.out.below hG.none) hb),(hG.mono (λ_ _ q=>q.elim)).trans hc5⟩
  case rest=>
   obtain⟨x',h5,hsp,hb5,hc5⟩:=hcut;have hD5:=h5.d;have H5:=OH h5;have HC5:=OH hc5;clear h5 hsp hc5 hb hpb hG hD cb fb zb cp fp zp cD fD zD;obtain⟨cb,fb,zb⟩:=ab hb5;obtain⟨cD,fD,zD⟩:=ab hD5;refine df;obtain⟨h9,hc9⟩:=H5.out.row 21 [JI (wrap64 (x'.c4+1))] {x' with c4:=wrap64 (x'.c4+1)} sM rfl H5.out.st;exact⟨none,0,[],false,_,rfl,λq=>absurd (HBBB.out q) dM,eq _ _,λz hz=>absurd hz sM,sM,h9.mono oM,λq=>absurd (HBBB.out q) dM,HC5.out.trans hc9⟩
 |false=>
  obtain⟨bg,hbg⟩:∃bg,(d.start&& (d.part==0))=bg:=⟨_,rfl⟩
  have hbeg:=λW=>B5 W d
  rw[hbg]at hbeg;have HBEG:=OH hbeg;have HBG:=OH hbg;have hwhl:=λ(W:World) (hq:ag af w W)=>Rr (HP.out.below hq.none).k.zs HP.out.k.b oM
  have HWH:=OH hwhl;have htid:IntKind.i64.wrap d.tid=d.tid:=by have:=HD.out.tid;exact kA
  have htid0:=HD.out.tid;have hG2:ag af w2 w2:=ag.refl _ _;clear hbeg hbg hwhl cb fb zb cp fp zp cw fw zw cd fd zd cD fD zD;refine jo;go_cut [17] from 70 to 84 (λs' wx=>∃V wh,s'=OV V/\wx.heap[V]?=OC #[JI fr,JI la,.bool bg,.bool wh,.bool d.hasTid,JI d.tid,.bool d.sync] 416/\(yA x p fr la wf wl->wh=true)/\ag af w2 wx);case first=>
   refine rl 16 (λw'=>Bk w' (b+1) (ij p).toArray 58/\Bk w' db (kW d) 410) (λw0_ hc0=>?_);have hpb:=ae hc0 hpb id;have hdb:=ae hc0 hdb id;refine oH;have hG2:=ag.trans hG2 hc0;refine vy;refine qG;refine tk 2 ?_;refine ze;refine uV;refine oF;refine nS;refine bo 3 15 (h1:=λK hK=>?_) (h2:=oa (λV17 w2_ hV17 hc2 hlV17=>?_))
   .skip
    go_simp;refine(HBEG.out _).mono ?_;rintro r' w1_ ⟨rfl,hbq⟩;refine qA;have hpb:=ae hc1 hpb id;have hdb:=ae hc1 hdb id;refine qj;have hG2:=ag.trans hG2 hc1;refine Az;refine bo 6 15 (h1:=λK hK=>?_) (h2:=oa (λV17 w4_ hV17 hc4 hlV17=>?_))
    .skip
     go_simp;refine(HWH.out _ hG).mono ?_;rintro r' w3_ ⟨wh,rfl,hwh,hbq⟩;have HWHQ:=OH hwh;clear hwh;have hc3:ag af w1_ w3_:=.of hbq;have hpb:=ae hc3 hpb id;have hdb:=ae hc3 hdb id;have hG:=ag.trans hG hc3;have hG2:=ag.trans hG2 hc3;refine Az;refine tk 14 ?_;refine on 15 ?_;refine oa (λV17 w5_ hV17 hc5 hlV17=>?_);have hlV:=Xa9 hG2.size hlV17;have hpb:=ae hc5 hpb id;have hdb:=ae hc5 hdb id;have hG:=ag.trans hG hc5;have hG2:=ag.trans hG2 hc5;refine rR;refine MI;have hc17:=ax (S:=λj=>j=V17) (.inl rfl) [JI fr,JI la,.bool bg,.bool wh,.bool d.hasTid,JI d.tid,.bool d.sync] w5_ 0 dp;refine dr;exact MW
    .skip
     have hlV:=Xa9 hG2.size hlV17;have hpb:=ae hc4 hpb id;have hdb:=ae hc4 hdb id;have hG:=ag.trans hG hc4;have hG2:=ag.trans hG2 hc4;refine rR;refine on 6 λK hK=>?_
     go_simp;refine(HWH.out _ hG).mono ?_;rintro r' w6_ ⟨wh,rfl,hwh,hbq⟩;have HWHQ:=OH hwh;clear hwh;have hc6:ag af w4_ w6_:=.of hbq;have hpb:=ae hc6 hpb id;have hdb:=ae hc6 hdb id;have hG:=ag.trans hG hc6;have hG2:=ag.trans hG2 hc6;have hV17:=ae hc6 hV17 id;refine Az;refine tk 14 ?_;refine MI;have hc17:=ax (S:=λj=>j=V17) (.inl rfl) [JI fr,JI la,.bool bg,.bool wh,.bool d.hasTid,JI d.tid,.bool d.sync] w6_ 0 dp;refine dr;exact MW
   .skip
    have hlV:=Xa9 hG2.size hlV17;have hpb:=ae hc2 hpb id;have hdb:=ae hc2 hdb id;have hG:=ag.trans hG hc2;have hG2:=ag.trans hG2 hc2;refine rR;refine on 3 λK hK=>?_
    go_simp;refine(HBEG.out _).mono ?_;rintro r' w7_ ⟨rfl,hbq⟩;have hc7:ag af w2_ w7_:=.of hbq;have hpb:=ae hc7 hpb id;have hdb:=ae hc7 hdb id;have hG:=ag.trans hG hc7;have hG2:=ag.trans hG2 hc7;have hV17:=ae hc7 hV17 id;refine Az;refine on 6 λK hK=>?_
    go_simp;refine(HWH.out _ hG).mono ?_;rintro r' w8_ ⟨wh,rfl,hwh,hbq⟩;have HWHQ:=OH hwh;clear hwh;have hc8:ag af w7_ w8_:=.of hbq;have hpb:=ae hc8 hpb id;have hdb:=ae hc8 hdb id;have hG:=ag.trans hG hc8;have hG2:=ag.trans hG2 hc8;have hV17:=ae hc8 hV17 id;refine Az;refine tk 14 ?_;refine MI;have hc17:=ax (S:=λj=>j=V17) (.inl rfl) [JI fr,JI la,.bool bg,.bool wh,.bool d.hasTid,JI d.tid,.bool d.sync] w8_ 0 dp;refine dr;exact MW
  case rest=>
   obtain⟨ib,wh,rfl,hib,hwh,hGx⟩:=hcut;have hb:=ae hGx hb id;have hpb:=ae hGx hpb id;have hwb:=ae hGx hwb id;have hdb:=ae hGx hdb id;have hD:=ae hGx hD id;have hG:=hG.trans hGx;have HWQ:=OH hwh;clear hGx hwh hG2 htid;refine EZ;obtain⟨cd,fd,zd⟩:=ab hdb;refine uQ;have hX:ag af wc (wc.alloc (.cells (py ⟨p.seq,p.time,d.pic,d.tl0⟩) 373)):=(ag.refl _ _).alloc _;have hnb:=ao wc (.cells (py ⟨p.seq,p.time,d.pic,d.tl0⟩) 373) _ rfl;have hb:=ae hX hb id;have hpb:=ae hX hpb id;have hwb:=ae hX hwb id;have hib:=ae hX hib id;have hD:=ae hX hD id;have hG:=hG.trans hX;clear cp fp zp cd fd zd hX hdb;generalize wc.alloc _=u9 at *;generalize wc.heap.size=nb at *;have hGs:=hG.size;have hM0:=bH.made u9 prog 3 (Xb6 .i64) (OI .i64);refine oN;obtain⟨v1,run1,hM1,hp1,hz1⟩:=hM0.run_put fc underlying423 (x:=0) dM (.func (.func 229) #[] #[OV b]);obtain⟨v2',run2,hM2,hp2,hz2⟩:=hM1.run_put fc underlying423 (x:=2) dM (.func (.func 230) #[] #[OV b,OV nb,OV ib]);obtain⟨v3,run3,hM3,hp3,hz3⟩:=hM2.run_put fc underlying423 (x:=3) dM (.func (.func 231) #[] #[OV b,OV nb,OV (b+1)]);obtain⟨v4,run4,hM4,hp4,hz4⟩:=hM3.run_put fc underlying423 (x:=1) dM (.func (.func 234) #[] #[OV b,OV nb,OV (b+1)]);have hN:ag af u9 v4:=(((((ag.refl af u9).alloc _).new hp1 fo).new hp2 fo).new hp3 fo).new hp4 fo;refine yY;have hb:=ae hN hb id;have hpb:=ae hN hpb id;have hwb:=ae hN hwb id;have hib:=ae hN hib id;have hnb:=ae hN hnb id;have hD:=ae hN hD id;have hG:=hG.trans hN;have hG2:ag af v4 v4:=ag.refl _ _;clear run1 run2 run3 run4 hM1 hM2 hM3 hp1 hp2 hp3 hp4 hz1 hz2 hz3 hz4 hM0 hmm hN;generalize hTe:u9.heap.size=T at *;have HM4:=OH hM4;have HGT:=OH (show w.heap.size<=T from hTe ▸ hGs);clear hM4 hTe hGs;obtain⟨⟨on',f',l',t',k⟩,htk⟩:∃r,Ch.eG x.on x.f x.l x.t fr la bg wh d.hasTid d.tid d.sync wf wl wt=r:=⟨_,rfl⟩
   have htake:=λW=>Ch.AV x.on x.f x.l x.t fr la bg wh d.hasTid d.tid d.sync wf wl wt W
   rw[htk]at htake;have HTK:=OH htake;have hk4:=RG x.on x.f x.l x.t fr la bg wh d.hasTid d.tid d.sync wf wl wt;rw[htk]at hk4;have hpk:yA x p fr la wf wl->on'=true/\f'=wf/\l'=wl/\k=3:=λq=>by
    have e1:bg=true:=by rw[←HBG.out,(HGD.out q).2.2];rfl
    have e2:=HWQ.out q;obtain⟨q1,q2,q3,-,-⟩:=q;subst e1 e2 q2 q3;unfold Ch.eG Ch.ofB at htk;rw[q1]at htk;simp only[Bool.false_and,Bool.false_eq_true,if_false,and_self,if_true,Prod.mk.injEq]at htk;exact⟨htk.1.symm,htk.2.1.symm,htk.2.2.1.symm,htk.2.2.2.2.symm⟩
   have HPK:=OH hpk;have HK4:=OH hk4;clear hpk hk4 htake htk;go_cut [20,21] from 102 to 111 (λs20 s21 wx=>∃V,s20=OV V/\s21=JI k/\wx.heap[V]?=OC #[.bool on',JI f',JI l',JI t'] 371/\ag af v4 wx);case first=>
    refine rl 12 (λw'=>Bk w' b #[OV D] 78/\Bk w' ib #[JI fr,JI la,.bool bg,.bool wh,.bool d.hasTid,JI d.tid,.bool d.sync] 416/\Bk w' (b+1+1) #[JI wf,JI wl,JI wt] 304/\Bk w' D (JA s S x) 379) (λw0_ hc0=>?_);have hb:=ae hc0 hb id;have hib:=ae hc0 hib id;have hwb:=ae hc0 hwb id;have hD:=ae hc0 hD id;have hG2:=ag.trans hG2 hc0;refine Fd;refine Ce;refine tk 5 ?_;refine bo 6 10 (h1:=λK hK=>?_) (h2:=oa (λV20 w2_ hV20 hc2 hlV20=>?_))
    .skip
     refine EM;rintro r' w1_ ⟨hse,hbq⟩;have hse':=hse;unfold Ch.TookB at hse';subst hse';refine qA;have hb:=ae hc1 hb id;have hib:=ae hc1 hib id;have hwb:=ae hc1 hwb id;have hD:=ae hc1 hD id;have hG2:=ag.trans hG2 hc1;refine FB;refine uV;refine gN;refine on 10 ?_;refine oa (λV20 w3_ hV20 hc3 hlV20=>?_);have hlV:=Xa9 hG2.size hlV20;have hb:=ae hc3 hb id;have hib:=ae hc3 hib id;have hwb:=ae hc3 hwb id;have hD:=ae hc3 hD id;have hG2:=ag.trans hG2 hc3;refine Fd;refine bV;have hcs:=ax (S:=λj=>j=V20) (.inl rfl) [.bool on',JI f',JI l',JI t'] w3_ 0 dp;exact Zq
    .skip
     have hlV:=Xa9 hG2.size hlV20;have hb:=ae hc2 hb id;have hib:=ae hc2 hib id;have hwb:=ae hc2 hwb id;have hD:=ae hc2 hD id;have hG2:=ag.trans hG2 hc2;refine Fd;refine bV;refine on 6 λK hK=>?_
     refine EM;rintro r' w4_ ⟨hse,hbq⟩;have hse':=hse;unfold Ch.TookB at hse';subst hse';have hc4:ag af w2_ w4_:=.of hbq;have hb:=ae hc4 hb id;have hib:=ae hc4 hib id;have hwb:=ae hc4 hwb id;have hD:=ae hc4 hD id;have hG2:=ag.trans hG2 hc4;have hV20:=ae hc4 hV20 id;refine FB;refine uV;refine gN;have hcs:=ax (S:=λj=>j=V20) (.inl rfl) [.bool on',JI f',JI l',JI t'] w4_ 0 dp;exact Zq
   case rest=>
    obtain⟨V,rfl,rfl,hV,hGx⟩:=hcut;have hb:=ae hGx hb id;have hpb:=ae hGx hpb id;have hib:=ae hGx hib id;have hnb:=ae hGx hnb id;have hD:=ae hGx hD id;have hG:=hG.trans hGx;have HM5:=OH (HM4.out.chg hGx id);have hw:=H.out.below hG.none;obtain⟨h8,hc8⟩:=hw.row 1 [.bool on',JI f',JI l',JI t'] {x with on:=on',f:=f',l:=l',t:=t'} sM rfl hw.st;have hb8:=ae hc8 hb (eC hw hb);have hpb8:=ae hc8 hpb (eC hw hpb);have hib8:=ae hc8 hib (eC hw hib);have hnb8:=ae hc8 hnb (eC hw hnb);have hTd:¬iB D S R M T:=λq=>by
     have hlt:=HGT.out;rcases q with q|q|q|q
     .exact absurd (aB H.out.d) oM
     .exact absurd (H.out.k.lt).1 oM
     .exact absurd (H.out.k.lt).2.1 oM
     .exact absurd (H.out.k.lt).2.2 oM
    have HM8:=OH (HM5.out.chg hc8 hTd);have HPJ:=OH (pk_dn (HP.out.below hG.none) hw hc8);refine EQ;refine qu;go_upto_region 13 with(refine stl hD ?_)
    have H8:=OH h8;have HC8:=OH ((hG.mono λ_ _ q=>q.elim:ag (iB D S R M) w wc).trans hc8);change Code.wp _ _ _ _ (aR wc D 1 [.bool on',JI f',JI l',JI t']);clear h8 hc8 cb fb zb cV fV zV hb hpb hib hnb hD hwb hG hV hw hTd hGx HM4 HM5;generalize aR wc D 1 _=u at *;have hz:(zeroValue 422).run prog u=.ok .nilFunc u:=kM;have hnu:Mu.Nu.Ok ⟨p.seq,p.time,d.pic,d.tl0⟩:=⟨HP.out.k.n.seq.1,HP.out.k.n.seq.2,HP.out.k.n.time.1,HP.out.k.n.time.2,HD.out.pic.1,HD.out.pic.2,HD.out.tl0.1,HD.out.tl0.2⟩
    have HNU:=OH hnu;clear hnu;rcases HK4.out with rfl|rfl|rfl|rfl
    .have hlk:=HM8.out.run_look fc underlying423 hz (x:=0) (v:=.func (.func 229) #[] #[OV b]) dM false (is:=true) rM rM
     have hcall:=f229_t H8.out hb8;refine aa2;exact FY
    .have hlk:=HM8.out.run_look fc underlying423 hz (x:=1) (v:=.func (.func 234) #[] #[OV b,OV nb,OV (b+1)]) dM false (is:=true) rM rM
     have hcall:=f234_t H8.out oM HNU.out HPJ.out hb8 hnb8 hpb8;refine MZ;have Q:=OH (show(yA x p fr la wf wl->b'=true)/\BR w9 0 (.slice A zs.length cap) zs/\aG zs/\zs.length<=40000/\dC w9 (N+1+1) D S R M n s x'/\(yA x p fr la wf wl->x'.on=true/\x'.f=wf/\x'.l=wl)/\ag (iB D S R M) w w9 from⟨λq=>absurd (HPK.out q).2.2.2 dM,q1,q2,q3,q4,λq=>absurd (HPK.out q).2.2.2 dM,HC8.out.trans q6⟩);clear q1 q2 q3 q4 q5 q6 hbq;exact FY
    .have hlk:=HM8.out.run_look fc underlying423 hz (x:=2) (v:=.func (.func 230) #[] #[OV b,OV nb,OV ib]) dM false (is:=true) rM rM
     have hcall:=f230_t (iv:=[JI fr,JI la,.bool bg,.bool wh,.bool d.hasTid,JI d.tid,.bool d.sync]) (bg:=bg) H8.out oM HNU.out hb8 hnb8 hib8 rfl;refine aa2;exact FY
    .have hlk:=HM8.out.run_look fc underlying423 hz (x:=3) (v:=.func (.func 231) #[] #[OV b,OV nb,OV (b+1)]) dM false (is:=true) rM rM
     have hcall:=f231_t H8.out oM HNU.out HPJ.out hb8 hnb8 hpb8;refine MZ;have Q:=OH (show(yA x p fr la wf wl->b'=true)/\BR w9 0 (.slice A zs.length cap) zs/\aG zs/\zs.length<=40000/\dC w9 (N+1+1) D S R M n s x'/\(yA x p fr la wf wl->x'.on=true/\x'.f=wf/\x'.l=wl)/\ag (iB D S R M) w w9 from⟨λ_=>hbq,q1,q2,q3,q4,λq=>⟨q5.1.trans (HPK.out q).1,q5.2.1.trans (HPK.out q).2.1,q5.2.2.1.trans (HPK.out q).2.2.1⟩,HC8.out.trans q6⟩);clear q1 q2 q3 q4 q5 q6 hbq;exact FY
theorem TS(h:w.heap[g]?=OC (zs.map (Xb6 .u8)).toArray 5)(hl:zs.length<=40000):BR w 0 (.slice (aT g) zs.length zs.length) zs:=
 ⟨_,zs.length,rfl,Xb1 _,lM,.inr ⟨g,0,_,rfl,Nat.zero_le _,h,sM,λj hj=>by rw[Nat.zero_add,List.getElem?_toArray];exact BI zs j hj⟩⟩
def TakE(w:World)(N D S R M n:Nat)(s:Int)(P:oz->Bool->Bool->Prop)(e:Ending)(w':World):Prop:=∃A cap zs b a x',e=aA (.tuple #[.slice A zs.length cap,.bool b,.bool a])/\BR w' 0 (.slice A zs.length cap) zs/\aG zs/\zs.length<=40000/\dC w' (N+2) D S R M n s x'/\P x' b a/\ag (iB D S R M) w w'
theorem TI{S M:Nat}{fr ly:Int}(mu:Bool)(h:dC w N D S R M n s x)(hN:N<=99998)(hp:yC w p) :
  az 140 #[OV D,.agg (ij p).toArray,JI fr,JI ly,.agg #[JI wf,JI wl,JI wt],.bool mu] w (TakE w N D S R M n s (λ_ b a=>mu=false->yA x p fr ly wf wl->b=true/\a=false)):=by
 refine rS;have hD:=h.d;cases mu with
 |true=>
  refine zy;go_enter func140,ntmps140;refine ay
  go_ret3
  obtain⟨h8,hc8⟩:=H.out.row 1 [.bool false] {x with on:=false} sM rfl H.out.st;obtain⟨h9,hc9⟩:=h8.row 18 [JI (wrap64 (x.c1+1))] {x with on:=false,c1:=wrap64 (x.c1+1)} sM rfl H.out.st;have hX:=λ(u:World)=>(show ag af u ((u.alloc (.cells (ij p).toArray 58)).alloc (.cells #[JI wf,JI wl,JI wt] 304))from bu)
  exact⟨none,0,[],false,false,_,rfl,eq _ _,λz hz=>absurd hz sM,sM,(h9.mono oM).below (hX _).none,λq=>gZ,(hc8.trans hc9).next (hX _).none⟩
 |false=>
  go_enter func140,ntmps140;refine ay;have hX:ag af w ((w.alloc (.cells (ij p).toArray 58)).alloc (.cells #[JI wf,JI wl,JI wt] 304)):=bu;have hwb:((w.alloc (.cells (ij p).toArray 58)).alloc (.cells #[JI wf,JI wl,JI wt] 304)).heap[w.heap.size+1]?=OC #[JI wf,JI wl,JI wt] 304:=bZ;have hw:=H.out.below hX.none;have HW:=OH hw;have HX:=OH hX;have HPW:=OH (HP.out.below hX.none);generalize ((w.alloc _).alloc _)=wa at *;refine(TB (wt:=wt) HW.out hN HPW.out).mono ?_;rintro r w2 ⟨A,cap,zs,b',x',rfl,hbq,q1,q2,q3,q4,q5,q6⟩;have hwb2:=ae q6 hwb (eC HW.out hwb);have hD2:=q4.d;obtain⟨ba,hba⟩:∃b,Ch.ofB x'.on x'.f x'.l wf wl=b:=⟨_,rfl⟩
  have has:=λW=>Ch.asks_any x'.on x'.f x'.l x'.t wf wl wt W
  rw[hba]at has;have HAS:=OH has;have hpq:yA x p fr ly wf wl->b'=true/\(!ba)=false:=λq=>⟨hbq q,by obtain⟨a1,a2,a3⟩:=q5 q;rw[←hba,a1,a2,a3];simp[Ch.ofB]⟩
  have Q:=OH (show(yA x p fr ly wf wl->b'=true/\(!ba)=false)/\BR w2 0 (.slice A zs.length cap) zs/\aG zs/\zs.length<=40000/\dC w2 (N+1+1) D S R M n s x'/\ag (iB D S R M) w w2 from⟨hpq,q1,q2,q3,q4,(HX.out.mono λ_ _ q=>q.elim:ag (iB D S R M) w wa).trans q6⟩);obtain⟨cw,fw,zw⟩:=ab hwb2;obtain⟨cD,fD,zD⟩:=ab hD2;refine jo;refine rg 10 (λw'=>Bk w' (w.heap.size+1) #[JI wf,JI wl,JI wt] 304/\Bk w' D (JA s S x') 379) ⟨bk,bk⟩ (λhH=>?_);refine qd;refine(HAS.out _).mono ?_;rintro r' w3 ⟨rfl,hbq⟩;have hc3:ag af w2 w3:=ag.next bu hbq;have hwb2:=ae hc3 hwb2 id;have hD2:=ae hc3 hD2 id;refine iT;refine tk 8 ?_;refine gN;refine je;refine ay
  go_ret3
  obtain⟨q0,q1,q2,q3,q4,q6⟩:=Q.out;exact⟨A,cap,zs,b',!ba,x',rfl,q1.below hc3.none,q2,q3,q4.below hc3.none,λ_ q=>q0 q,q6.next hc3.none⟩
def AgnE(w:World)(e:Ending)(w':World):Prop:=∃A cap zs b,e=aA (.tuple #[.slice A zs.length cap,.bool b])/\BR w' 0 (.slice A zs.length cap) zs/\aG zs/\zs.length<=40000/\aC w w'
theorem P5{S M:Nat}{q:Int}(h:dC w N D S R M n s x)(q0:0<=q/\q<=65535) :
  az 142 #[OV D,JS q] w (AgnE w):=by
 refine bI;obtain⟨cD,fD,zD⟩:=ab h.d;have hn:=h.n;obtain⟨B,E,t',m,K,rg,hs,hm,hk⟩:=h.k;cases hl:St.fj K q with
 |none=>
  have hg:=St.get_none w S R M B E n t' m K rg hs q q0.1 q0.2 hl;refine VC;rintro r w2 ⟨rfl,hw2⟩;subst hw2;refine df;exact⟨none,0,[],false,rfl,eq _ _,λz hz=>absurd hz sM,sM,Below.refl _ _⟩
 |some j=>
  obtain⟨zs,hzs,hby,hzl⟩:∃zs:List Int,(∀hj:j<K.length,K[j].2=zs)/\aG zs/\zs.length<=40000:=by
   by_cases hj:j<K.length
   .exact⟨K[j].2,λ_=>rfl,(hk _ Hy).2,(hk _ Hy).1⟩
   .exact⟨[],λq=>absurd q hj,λz hz=>absurd hz sM,sM⟩
  have hg:=St.get_some w S R M B E n t' m K rg hs hn.1 hn.2 q q0.1 q0.2 j hl zs hzs oM;refine VC;rintro r w2 ⟨g,rfl,hgq,hgl,hb2⟩;have HGQ:=OH hgq;refine df;exact⟨some ⟨g,0,none⟩,zs.length,zs,true,rfl,TS HGQ.out hzl,hby,hzl,hb2⟩
namespace Rv
theorem O8(x:Int)(w:World)(h0:0<=x)(h1:x<=65535):az 169 #[JS x] w λe w'=>e=aA (JI x)/\w=w':=by
 go_enter func169,ntmps169
 go_wp2
 go_ret;exact gO
theorem lH(a b:Int)(w:World):az 126 #[JS a,JS b,JI 32768] w λe w'=>e=aA (JI (eQ a b))/\w=w':=zq53
theorem jE(l x:Int)(w:World)(l0: -1152921504606846976<=l)(l1:l<=1152921504606846976) :
  az 220 #[JI l,JS x] w λe w'=>e=aA (JI (bC l x))/\w=w':=by
 refine ZO;go_ret;exact⟨lC (by rw[HN.out]),rfl⟩
end Rv
namespace Rv
def It:Tr:=⟨false,0,0,0,0⟩
theorem vI(h:t.on=false)(s:Int):eG t s=(⟨true,s,s,1,1⟩,s,0):=by unfold eG;rw[if_neg gV]
theorem Iz(h:t.on=true)(hy:bC t.high s=y)(c:t.high<y):eG t s=(⟨true,t.base,y,t.got+1,sO t.seen (y-t.high).toNat⟩,y,0):=by unfold eG;rw[if_pos h,hy,if_pos c]
theorem Iy(h:t.on=true)(hy:bC t.high s=y)(c:64<=t.high-y):eG t s=(t,y,3):=by unfold eG;rw[if_pos h,hy,if_neg oM,if_pos c]
theorem jT(h:t.on=true)(hy:bC t.high s=y)(c:¬t.high<y)(c2:t.high-y<64)(hb:t.seen.testBit (t.high-y).toNat=true):eG t s=(t,y,2):=by unfold eG;rw[if_pos h,hy,if_neg c,if_neg oM,if_pos hb]
theorem CB(h:t.on=true)(hy:bC t.high s=y)(c:¬t.high<y)(c2:t.high-y<64)(hb:t.seen.testBit (t.high-y).toNat=false) :
  eG t s=(⟨true,min t.base y,t.high,t.got+1,orN t.seen (t.high-y).toNat⟩,y,1):=by
 unfold eG;rw[if_pos h,hy,if_neg c,if_neg oM,if_neg (by simp[hb])]
theorem sN(t:Tr)(h:t.on=true)(s:Int) :
  (t.high<bC t.high s/\eG t s=(⟨true,t.base,bC t.high s,t.got+1,sO t.seen (bC t.high s-t.high).toNat⟩,bC t.high s,0)) \/
  (¬t.high<bC t.high s/\64<=t.high-bC t.high s/\eG t s=(t,bC t.high s,3)) \/
  (¬t.high<bC t.high s/\t.high-bC t.high s<64/\t.seen.testBit (t.high-bC t.high s).toNat=true/\eG t s=(t,bC t.high s,2)) \/
  (¬t.high<bC t.high s/\t.high-bC t.high s<64/\t.seen.testBit (t.high-bC t.high s).toNat=false/\eG t s=(⟨true,min t.base (bC t.high s),t.high,t.got+1,orN t.seen (t.high-bC t.high s).toNat⟩,bC t.high s,1)):=by
 by_cases c1:t.high<bC t.high s
 .exact .inl ⟨c1,Iz h rfl c1⟩
 .by_cases c2:64<=t.high-bC t.high s
  .exact .inr (.inl ⟨c1,c2,Iy h rfl c2⟩)
  .cases c3:t.seen.testBit (t.high-bC t.high s).toNat with
   |true=>
    exact .inr (.inr (.inl ⟨c1,oM,rfl,jT h rfl c1 oM c3⟩))
   |false=>exact .inr (.inr (.inr ⟨c1,oM,rfl,CB h rfl c1 oM c3⟩))
theorem once(t:Tr)(h0:t.on=false->t.got=0)(s:Int)(s0:0<=s)(s1:s<65536) :
  let u:=(eG t s).1;let x:=(eG t s).2.1;let a:=(eG t s).2.2
  ((a=3\/a=2)/\u=t/\eG u s=(t,x,a)\/(a=0\/a=1)/\eG u s=(u,x,2)/\u.got=t.got+1)/\x % 65536=s/\u.on=true:=by
 intro u x a;by_cases hon:t.on=true
 .have hx:=CX t.high s
  rcases sN t hon s with⟨c1,e⟩|⟨c1,c2,e⟩|⟨c1,c2,c3,e⟩|⟨c1,c2,c3,e⟩<;>(show _/\_/\_;simp only[u,x,a];rw[e];dsimp only)
  .refine⟨.inr ⟨.inl rfl,?_,rfl⟩,oM,rfl⟩
   refine jT rfl (vX _ _ _ gY gY oM) mc mc ?_;dsimp;rw[NQ];simp
  .exact⟨.inl ⟨.inl rfl,rfl,e⟩,oM,hon⟩
  .exact⟨.inl ⟨.inr rfl,rfl,e⟩,oM,hon⟩
  .refine⟨.inr ⟨.inr rfl,?_,rfl⟩,oM,rfl⟩
   refine jT rfl rfl c1 c2 ?_;dsimp;rw[SF];simp
 .have hof:t.on=false:=by simpa using hon
  simp only[u,x,a];rw[vI hof];dsimp only;refine⟨.inr ⟨.inl rfl,?_,by rw[h0 hof];rfl⟩,oM,rfl⟩;exact jT rfl (vX _ _ _ gY gY oM) mc mc (by dsimp;simp[qJ])
def il(f:Int)(g:List Bool):Nat->List Int
 |0=> []
 |k+1=>il f g k++(if g.getD k false then [f+k+1] else [])
end Rv
namespace Rv
theorem BX(on:Bool)(b h g:Int)(s:Nat)(y:Int)(w:World)(hs:s<2 ^ 64)(y0:0<=y)(y1:y<64) :
  az 221 #[.agg #[.bool on,JI b,JI h,JI g,JU s],JI y] w λe w'=>e=aA (.bool (s.testBit y.toNat))/\aC w w':=by
 have H:=OH (JO s y.toNat hs);go_enter func221,ntmps221
 go_wp2
 go_ret;exact⟨Bf (by rw[←H.out]),gM⟩
def trC(t:Tr):Array Value:=#[.bool t.on,JI t.base,JI t.high,JI t.got,JU t.seen]
def QC(r:Tr×Int×Int)(e:Ending):Prop:=e=aA (.tuple #[.agg (trC r.1),JI r.2.1,JI r.2.2])
theorem mD{x k:Int}{e:Ending}{r:Tr×Int×Int}(h:r=(t,x,k))(he:e=aA (.tuple #[.agg (trC t),JI x,JI k])):QC r e:=by subst h;exact he
theorem take_off(b h g:Int)(s:Nat)(x:Int)(w:World)(x0:0<=x)(x1:x<=65535) :
  az 175 #[.agg #[.bool false,JI b,JI h,JI g,JU s],JS x] w λe w'=>QC (eG ⟨false,b,h,g,s⟩ x) e/\aC w w':=by
 have hx:IntKind.i64.wrap x=x:=BF x x0 oM;go_enter func175,ntmps175
 go_wp2
 refine Mg;exact mD (vI rfl x) rfl
theorem take_on(b h g:Int)(s:Nat)(x:Int)(w:World)(x0:0<=x)(x1:x<=65535)(lb: -1000000000000<=b)(ub:b<=1000000000000)(lh: -1000000000000<=h)(uh:h<=1000000000000)(lg:0<=g)(ug:g<=1000000000000)(hs:s<2 ^ 64) :
  az 175 #[.agg #[.bool true,JI b,JI h,JI g,JU s],JS x] w λe w'=>QC (eG ⟨true,b,h,g,s⟩ x) e/\aC w w':=by
 obtain⟨n0,n1⟩:=pN h x;have hw:=sN ⟨true,b,h,g,s⟩ rfl x;dsimp only at hw;refine jM;generalize hy:bC h x=y at *;have HY:=OH hy;rcases hw with⟨c1,e⟩|⟨c1,c2,e⟩|⟨c1,c2,c3,e⟩|⟨c1,c2,c3,e⟩
 .obtain⟨d,rfl⟩:∃d:Nat,y=h+d:=⟨(y-h).toNat,oM⟩
  have hd1:1<=d:=oM;rw[show(h+(d:Int)-h).toNat=d by omega]at e;have HE:=OH e;have hdd:(-(h- (h+(d:Int))))=d:=oM;by_cases hd:d<=64
  .have hm:=OH (ww s d HS.out hd1)
   exact Vp
  .have hm:Hid (bits BinOp.or IntKind.u64 (IntKind.u64.wrap ((s:Int)*18446744073709551616)) 1=(sO s d:Int)):=OH (uD s d HS.out oM)
   have hmin:min d 64=64:=oM;exact Vp
 .have HE:=OH e
  refine Z8;exact mD HE.out rfl
 .have HE:=OH e
  have HB:=OH c3;go_enter func175,ntmps175;go_wp2_with (first
   |(go_at_call 220;(with_reducible refine(jE _ _ _ oM oM).mono ?_);rintro e w' ⟨rfl,rfl⟩;rw[HY.out])
   |(go_at_call 221;(with_reducible refine(BX _ _ _ _ _ _ _ HS.out oM oM).mono ?_);rintro e w1 ⟨rfl,hb⟩;rw[HB.out];(try(have g0:=h0));(try(have g1:=h1));have hB:=aE (w:=w) gM hb;have h0:w1.heap[w.heap.size]?=OC #[.bool true,JI b,JI h,JI g,JU s] 364:=(hb.block (w.heap.size) fM).trans gD;have h1:w1.heap[w.heap.size+1]?=OC #[.bool false,JI 0,JI 0,JI 0,JU 0] 364:=(hb.block (w.heap.size+1) fM).trans gD;(try clear g0);obtain⟨c0,f0,z0⟩:=ab h0;(try clear g1);obtain⟨c1,f1,z1⟩:=ab h1))
  refine Mg;exact mD HE.out rfl
 .obtain⟨n,rfl⟩:∃n:Nat,y=h-n:=⟨(h-y).toNat,oM⟩
  have hnn:(h- (h- (n:Int))).toNat=n:=oM;have hn:n<64:=oM;have hn2:n<=64:=oM;rw[hnn]at c3 e;have HB:=OH c3;have hm:=OH (TV s n HS.out hn);have hsub:h- (h- (n:Int))=n:=oM;by_cases hmn:b<=h-n;all_goals
   first|rw[Int.min_eq_left hmn]at e|rw[Int.min_eq_right oM]at e
   have HE:=OH e;go_enter func175,ntmps175;go_wp2_with (first
    |(go_at_call 220;(with_reducible refine(jE _ _ _ oM oM).mono ?_);rintro e w' ⟨rfl,rfl⟩;rw[HY.out])
    |(go_at_call 221;(with_reducible refine(BX _ _ _ _ _ _ _ HS.out oM oM).mono ?_);rintro e w1 ⟨rfl,hb⟩;rw[Int.toNat_natCast,HB.out];(try(have g0:=h0));(try(have g1:=h1));have hB:=aE (w:=w) gM hb;have h0:w1.heap[w.heap.size]?=OC #[.bool true,JI b,JI h,JI g,JU s] 364:=(hb.block (w.heap.size) fM).trans gD;have h1:w1.heap[w.heap.size+1]?=OC #[.bool false,JI 0,JI 0,JI 0,JU 0] 364:=(hb.block (w.heap.size+1) fM).trans gD;(try clear g0);obtain⟨c0,f0,z0⟩:=ab h0;(try clear g1);obtain⟨c1,f1,z1⟩:=ab h1))
   go_region;go_wp2_with fail;(try simp only[Exit.inBlock,Exit.then]);refine j8 rfl rfl underlying364 rfl rfl ⟨_,_,ur,kM,?_,gM⟩;refine mD HE.out (pG ?_);rw[hm.out];first|rw[Int.min_eq_left hmn]|rw[Int.min_eq_right oM]
   rfl
end Rv
structure Tb where
 at':Nat
 ep:Int
 rs:List Rt
 ds:List Dn
abbrev nA(t:Option Tb):Value:=.pointer (t.map λt=>⟨t.at',0,none⟩)
def gj(w:World)(M:Nat->Prop)(t:Option Tb):Prop:=∀x,t=some x->dE w M x.at' x.ep x.rs x.ds/\x.ds.length<=12/\0<=x.ep/\x.ep<=1000000
inductive Th where
 |send (d:Dn)
 |again (d:Dn) (q:Int)
 |ask (d:Dn)
def Th.d:Th->Dn
 |.send d=>d
 |.again d _=>d
 |.ask d=>d
def ov:Th->Value
 |.send d=> .iface 300 (.agg (eW d).toArray)
 |.again d q=> .iface 308 (.agg (eW d++ [Xb6 .u16 q]).toArray)
 |.ask d=> .iface 305 (.agg (eW d).toArray)
structure Jb where
 at':Nat
 n:Int
 a:Option Addr
 c:Nat
 zs:List Int
 looks:Bool
 tb:Option Tb
 med:Pk
 rt:Rt
 todo:List Th
 v:Value
abbrev ki(j:Jb):Array Value:=#[JI j.n,.slice j.a j.zs.length j.c,.bool j.looks,nA j.tb,.bool j.med.mark,JW j.med.ty,JS j.med.seq,JT j.med.time,JT j.med.ssrc,.slice j.med.a1 j.med.cs.length j.med.c1,.slice j.med.a2 j.med.xs.length j.med.c2,.slice j.med.a3 j.med.zs.length j.med.c3,JI j.med.pad,JT j.rt.ssrc,JI j.rt.track,JI j.rt.frm,JI j.rt.layer,JI j.rt.shard,j.v]
structure yE(w:World)(M:Nat->Prop)(j:Jb):Prop where
 jb:w.heap[j.at']?=OC (ki j) 219
 z:BR w 0 (.slice j.a j.zs.length j.c) j.zs
 b:aG j.zs
 l:j.zs.length<=1000000
 t:gj w M j.tb
 m:yC w j.med
 v:cE w 0 224 j.v (j.todo.map ov)
 q:∀x∈j.todo,match x with|.again _ q=>0<=q/\q<=65535|_=>True
 tl:j.todo.length<=1000000000
structure Kw where
 A:Nat
 P:Nat
 B:Nat
structure Wk where
 W:Nat
 sh:Nat
 Q:Nat
 R:Nat
 L:Nat
 pk:List Ca
 tb:Option Tb
 now:Option Jb
 nx:Option Tb
 ph:Int
 cm:Nat
 am:Nat
 came:List (Int×Rv.Tr)
 asked:List (Int×Int)
 c0:Int
 c1:Int
 c2:Int
 c3:Int
 c4:Int
abbrev Po(j:Option Jb):Value:=.pointer (j.map λj=>⟨j.at',0,none⟩)
abbrev ou(K:Kw)(x:Wk):Array Value:=#[OV K.A,OV K.P,OV K.B,JI x.sh,OV x.Q,nA x.tb,Po x.now,nA x.nx,JI x.ph,.map (some x.cm),.map (some x.am),JI x.c0,JI x.c1,JI x.c2,JI x.c3,JI x.c4]
abbrev cmL(l:List (Int×Rv.Tr)):List (Int×Value):=l.map λp=>(p.1,.agg (Rv.trC p.2))
abbrev amL(l:List (Int×Int)):List (Int×Value):=l.map λp=>(p.1,JI p.2)
def Wk.own(x:Wk)(j:Nat):Prop:=j=x.W\/j=x.Q\/j=x.R\/j=x.cm\/j=x.am\/∃y,x.now=some y/\(j=y.at'\/y.v.ownBlock=some j)
structure aL(w:World)(N:Nat)(M:Nat->Prop)(K:Kw)(x:Wk):Prop where
 wb:w.heap[x.W]?=OC (ou K x) 164
 q:∃a cur,eD w x.Q x.R 246 157 2 x.L a (x.pk.map cwC) cur
 pk:∀p∈x.pk,BR w 0 (.slice p.a p.zs.length p.c) p.zs/\aG p.zs/\p.zs.length<=1000000
 tb:gj w M x.tb
 nx:gj w M x.nx
 now:∀j,x.now=some j->yE w M j
 cm:bH w prog 52 (Xb6 .u32) (OI .u32) x.cm (cmL x.came)
 cb:∀p∈x.came,p.2.Small (100000*((N:Int)+1))
 am:bH w prog 52 (Xb6 .u32) (OI .u32) x.am (amL x.asked)
 ne:x.cm≠x.am
 sh:x.sh<4
 mo:∀j,M j->j<w.heap.size/\¬x.own j
theorem gj.kept{t:Option Tb}(h:gj w M t)(hc:ag S w w')(h1:gk S 279 w)(h2:∀j,M j->j<w.heap.size->¬S j):gj w' M t:=λx hx=>by obtain⟨a,b⟩:=h x hx;obtain⟨MR,MD,k,_⟩:=a.e;exact⟨a.kept hc (λq=>h1 _ _ q k) h2,b⟩
theorem yE.kept{j:Jb}(h:yE w M j)(hc:ag S w w')(h0:¬S j.at')(hv:∀g,j.v.ownBlock=some g->¬S g)(h1:gk S 279 w)(h2:∀j,M j->j<w.heap.size->¬S j)(h3:gk S 52 w)(h4:gk S 287 w)(h5:jF S w):yE w' M j:=
 ⟨ae hc h.jb h0,h.z.chg hc h5,h.b,h.l,h.t.kept hc h1 h2,h.m.chg hc h3 h4 h5,h.v.kept λg hg=>hc.block g (h.v.block hg).2.1 (hv g hg),h.q,h.tl⟩
theorem aL.kept{K:Kw}{x:Wk}(h:aL w N M K x)(hc:ag S w w')(h0:∀j,x.own j->¬S j)(h1:gk S 279 w)(h2:∀j,M j->j<w.heap.size->¬S j)(h3:gk S 52 w)(h4:gk S 287 w)(h5:jF S w):aL w' N M K x:=by
 refine fK;exact⟨ae hc h.wb (h0 _ (.inl rfl)),⟨a,cur,hq.kept hc (h0 _ (.inr (.inl rfl))) (h0 _ (.inr (.inr (.inl rfl))))⟩,λp hp=>⟨(h.pk p hp).1.chg hc h5,(h.pk p hp).2⟩,h.tb.kept hc h1 h2,h.nx.kept hc h1 h2,
  λj hj=>(h.now j hj).kept hc (h0 _ (.inr (.inr (.inr (.inr (.inr ⟨j,hj,.inl rfl⟩)))))) (λg hg=>h0 _ (.inr (.inr (.inr (.inr (.inr ⟨j,hj,.inr hg⟩)))))) h1 h2 h3 h4 h5,h.cm.chg hc (h0 _ (.inr (.inr (.inr (.inl rfl))))),h.cb,h.am.chg hc (h0 _ (.inr (.inr (.inr (.inr (.inl rfl)))))),h.ne,h.sh,λj hj=>⟨Xb0 (h.mo j hj).1 hc.size,(h.mo j hj).2⟩⟩
theorem aL.below{K:Kw}{x:Wk}(h:aL w N M K x)(hb:aC w w'):aL w' N M K x:=
 h.kept (S:=af) (.of hb) (λ_ _=>id) (λ_ _ q=>q.elim) (λ_ _ _=>id) (λ_ _ q=>q.elim) (λ_ _ q=>q.elim) iF
theorem aL.one{am:Nat}{K:Kw}{x:Wk}{l:List (Int×Int)}(h:aL w N M K x)(ha:w.heap.size<=am)(hc:ag (λj=>j=x.W) w w')(hb:w'.heap[x.W]?=OC (ou K {x with am:=am,asked:=l}) 164)(hm:bH w' prog 52 (Xb6 .u32) (OI .u32) am (amL l)):aL w' N M K {x with am:=am,asked:=l}:=by
 have h1:∀ {j:Nat} {c:Array Value} {t:TypeId},w.heap[j]?=OC c t->t≠164->¬j=x.W:=λq ht e=>by subst e;exact au h.wb (Ne.symm ht) q
 refine fK;have hT:gk (λj=>j=x.W) 279 w:=aJ h.wb dM;have hM:∀j,M j->j<w.heap.size->¬j=x.W:=λj hj _ e=>(h.mo j hj).2 (.inl e)
 exact⟨hb,⟨a,cur,hq.kept hc (h1 hq.q dM) (h1 hq.r dM)⟩,λp hp=>⟨(h.pk p hp).1.chg hc (ci h.wb dM),(h.pk p hp).2⟩,h.tb.kept hc hT hM,h.nx.kept hc hT hM,
  λj hj=>(h.now j hj).kept hc (h1 (h.now j hj).jb dM) (λg hg=>(λ⟨_,q⟩=>h1 q dM) ((h.now j hj).v.block hg).2.2) hT hM (aJ h.wb dM) (aJ h.wb dM) (ci h.wb dM),h.cm.chg hc (λe=>h.cm.ne (e ▸ h.wb) rfl),h.cb,hm,λe=>by have:=h.cm.lt;dsimp only at e;omega,h.sh,λj hj=>⟨Xb0 (h.mo j hj).1 hc.size,λq=>by
   rcases q with q|q|q|q|q|q
   .exact(h.mo j hj).2 (.inl q)
   .exact(h.mo j hj).2 (.inr (.inl q))
   .exact(h.mo j hj).2 (.inr (.inr (.inl q)))
   .exact(h.mo j hj).2 (.inr (.inr (.inr (.inl q))))
   .have:=(h.mo j hj).1
    exact qv
   .exact(h.mo j hj).2 (.inr (.inr (.inr (.inr (.inr q)))))⟩⟩
section
variable {w:World}{N:Nat}{M:Nat->Prop}{K:Kw}{x:Wk}
theorem Cn(h:aL w N M K x):az 36 #[OV x.W] w λe w'=>e=aA (JI x.pk.length)/\w'=w:=by refine XI;go_enter func36,ntmps36;refine ay;refine HQ.out.mono ?_;refine qH;exact ga
theorem Nz(h:aL w N M K x):az 38 #[OV x.W] w λe w'=>e=aA (.agg #[JI x.c0,JI x.c1,JI x.c2,JI x.c3,JI x.c4])/\aC w w':=by have hW:=h.wb;refine eP;go_enter func38,ntmps38;refine ay;refine rc underlying99 ?_;exact EU
theorem Rl(h:aL w N M K x):az 68 #[OV x.W] w λe w'=>e=aA (.tuple #[])/\∃am,w.heap.size<=am/\aL w' N M K {x with am:=am,asked:=[] }/\ag (λj=>j=x.W) w w':=by refine bI;refine oN;have hW:=h.wb;refine eP;have hM0:=bH.made (w.setCell ⟨x.W,10,none⟩ (.map (some w.heap.size))) prog 52 (Xb6 .u32) (OI .u32);go_enter func68,ntmps68;refine dg;have hc:ag (λj=>j=x.W) w ((w.setCell ⟨x.W,10,none⟩ (.map (some w.heap.size))).alloc (.map #[] 0)):=bu;have hb:((w.setCell ⟨x.W,10,none⟩ (.map (some w.heap.size))).alloc (.map #[] 0)).heap[x.W]?=OC (ou K {x with am:=w.heap.size,asked:=[] }) 164:=bZ;exact⟨rfl,_,Xb1 _,H.out.one fo hc hb (by simpa using hM0),hc⟩
theorem Gr(h:aL w N M K x):az 85 #[OV x.W] w λe w'=>e=aA (.bool (decide (0<x.pk.length)||x.now.isSome))/\w'=w:=by
 refine XI;obtain⟨b1,f1⟩:∃b,decide (0<x.pk.length)=b:=⟨_,rfl⟩
 have g1:decide ((0:Int)<(x.pk.length:Nat))=b1:=by rw[←f1,decide_eq_decide];omega
 have HF:=OH f1;cases hn:x.now;all_goals
  cases b1;all_goals
   go_enter func85,ntmps85;go_wp2_with fail;refine HQ.out.mono ?_;rintro r w2 ⟨rfl,hw2⟩;have hw3:=hw2.symm;subst hw3;go_wp2_with fail;go_ret;simp[HF.out]
end
theorem iw{g':Nat}{c c':Array Value}{t t':TypeId}(h:w.heap[g]?=OC c t)(h':w.heap[g']?=OC c' t')(ht:t≠t'):g≠g':=λe=>by subst e;exact au h ht h'
section
variable {w w':World}{N:Nat}{M:Nat->Prop}{K:Kw}{x y:Wk}
theorem aL.own_type(h:aL w N M K x)(hj:x.own j){t:TypeId}(q:w.heap[j]?=OC cur t):t=164\/t=246\/t=157\/t=219\/t=224:=by
 have key:∀ {c:Array Value} {e:TypeId},w.heap[j]?=OC c e->t=e:=λk=>by rw[q]at k;simp only[Xa3.injEq,Obj.cells.injEq]at k;exact k.2.1
 obtain⟨a,c,hq⟩:=h.q;rcases hj with e|e|e|e|e|⟨y,hy,e|e⟩
 .subst e
  exact .inl (key h.wb)
 .subst e
  exact .inr (.inl (key hq.q))
 .subst e
  exact .inr (.inr (.inl (key hq.r)))
 .subst e
  exact absurd rfl (h.cm.ne q)
 .subst e
  exact absurd rfl (h.am.ne q)
 .subst e
  exact .inr (.inr (.inr (.inl (key (h.now y hy).jb))))
 .obtain⟨_,_,cur',k⟩:=(h.now y hy).v.block e
  exact .inr (.inr (.inr (.inr (key k))))
theorem aL.own_lt(h:aL w N M K x)(hj:x.own j):j<w.heap.size:=by
 obtain⟨a,c,hq⟩:=h.q;rcases hj with e|e|e|e|e|⟨y,hy,e|e⟩
 .subst e
  exact aB h.wb
 .subst e
  exact aB hq.q
 .subst e
  exact aB hq.r
 .subst e
  exact h.cm.lt
 .subst e
  exact h.am.lt
 .subst e
  exact aB (h.now y hy).jb
 .exact((h.now y hy).v.block e).2.1
theorem aL.off(h:aL w N M K x)(hS:∀j,S j->x.own j){t:TypeId}(ht:t≠164/\t≠246/\t≠157/\t≠219/\t≠224:=by decide):gk S t w:=λj cur hj q=>by
 rcases h.own_type (hS j hj) q with e|e|e|e|e
 .exact ht.1 e
 .exact ht.2.1 e
 .exact ht.2.2.1 e
 .exact ht.2.2.2.1 e
 .exact ht.2.2.2.2 e
theorem aL.far5(h:aL w N M K x)(hS:∀j,S j->x.own j):jF S w:=h.off hS
theorem aL.pk'(h:aL w N M K x)(hS:∀j,S j->x.own j)(hc:ag S w w'):∀p∈x.pk,BR w' 0 (.slice p.a p.zs.length p.c) p.zs/\aG p.zs/\p.zs.length<=1000000:=λp hp=>⟨(h.pk p hp).1.chg hc (h.far5 hS),(h.pk p hp).2⟩
theorem aL.tb'(h:aL w N M K x)(hS:∀j,S j->x.own j)(hc:ag S w w'){t:Option Tb}(ht:gj w M t):gj w' M t:=ht.kept hc (h.off hS) λj hj _ q=>(h.mo j hj).2 (hS j q)
theorem aL.mo'(h:aL w N M K x)(hc:ag S w w')(ho:∀j,y.own j->x.own j\/w.heap.size<=j):∀j,M j->j<w'.heap.size/\¬y.own j:=λj hj=>⟨Xb0 (h.mo j hj).1 hc.size,λq=>by
 rcases ho j q with k|k
 .exact(h.mo j hj).2 k
 .have:=(h.mo j hj).1
  omega⟩
theorem aL.jb'(h:aL w N M K x)(hS:∀j,S j->x.own j)(hc:ag S w w')(hn:∀j,x.now=some j->¬S j.at'/\∀g,j.v.ownBlock=some g->¬S g):∀j,x.now=some j->yE w' M j:=λj hj=>
 (h.now j hj).kept hc (hn j hj).1 (hn j hj).2 (h.off hS) (λj hj _ q=>(h.mo j hj).2 (hS j q)) (h.off hS) (h.off hS) (h.far5 hS)
theorem aL.nW(h:aL w N M K x){t:TypeId}(q:w.heap[j]?=OC cur t)(ht:t≠164):¬j=x.W:=λe=>by subst e;exact au h.wb (Ne.symm ht) q
theorem Rp(h:aL w N M K x):az 79 #[OV x.W] w λe w'=>e=aA (.bool (!(decide (0<x.pk.length)||x.now.isSome)&&decide (x.ph=0)))/\w'=w:=by
 have HB:=OH (Gr h);have hW:=h.wb;refine eP;obtain⟨b1,f1⟩:∃b,(decide (0<x.pk.length)||x.now.isSome)=b:=⟨_,rfl⟩
 obtain⟨b2,f2⟩:∃b,decide (x.ph=0)=b:=⟨_,rfl⟩
 rw[f1]at HB ⊢;rw[f2];cases b1;all_goals
  cases b2;all_goals
   go_enter func79,ntmps79;go_wp2_with fail;refine HB.out.mono ?_;rintro r w2 ⟨rfl,hw2⟩;have hw3:=hw2.symm;subst hw3;go_wp2_with fail;go_ret;first|(simp;done)|simpa using f2
def Wk.look(x:Wk):Int×Bool:=match x.now with
 |some j=>if j.looks then((j.tb.map (·.ep)).getD 0,true) else(0,false)
 |none=>(0,false)
theorem AP(h:aL w N M K x):az 50 #[OV x.W] w λe w'=>e=aA (.tuple #[JU x.look.1,.bool x.look.2])/\w'=w:=by
 have hW:=h.wb;have hnow:=h.now;unfold Wk.look;cases hn:x.now with
 |none=>
  simp only[ou,Po,hn,Xa2]at hW;refine eP;go_enter func50,ntmps50;exact zf
 |some j=>
  obtain⟨hJ,ht⟩:=And.intro (hnow j hn).jb (hnow j hn).t;refine KN;refine eP;obtain⟨bl,hbl⟩:∃b,j.looks=b:=⟨_,rfl⟩
  dsimp only;rw[hbl];cases bl with
  |false=>
   simp only[ki,hbl]at hJ;refine FL;go_enter func50,ntmps50;exact zf
  |true=>
   cases htb:j.tb with
   |none=>
    simp only[ki,hbl,nA,htb,Xa2]at hJ;refine FL;have hE:=tR w;exact YA
   |some t=>simp only[ki,hbl,nA,htb,Xa0]at hJ;refine FL;have hE:=Hg (ht t htb).1;exact YA
theorem Cw(h:aL w N M K x):az 52 #[OV x.W] w λe w'=>e=aA (JI ((x.now.map (·.n)).getD (-1)))/\w'=w:=by
 have hW:=h.wb;have hnow:=h.now;cases hn:x.now with
 |none=>
  simp only[ou,Po,hn,Xa2]at hW;refine eP;go_enter func52,ntmps52;exact ga
 |some j=>have hJ:=(hnow j hn).jb;refine KN;refine uM;go_enter func52,ntmps52;exact ga
theorem Ip(h:aL w N M K x){A:Option Addr}{cap:Nat}(hz:dV w A zs.length cap (zs.map (Xb6 .u8)))(hby:aG zs)(hl:zs.length<=1000000)(n:Int) :
  az 45 #[OV x.W,JI n,.slice A zs.length cap] w λe w'=>e=aA (.bool (decide (x.pk.length<x.L)))/\∃A' c',aL w' N M K {x with pk:=if x.pk.length<x.L then x.pk++ [⟨n,A',c',zs⟩] else x.pk}/\ag (λj=>j=x.Q\/j=x.R) w w':=by
 refine bI;refine fK;refine nF;have hW:=h.wb;refine eP;have hle:=hq.le;have hS:∀j,(j=x.Q\/j=x.R)->x.own j:=λj hj=>hj.elim (λe=> .inr (.inl e)) λe=> .inr (.inr (.inl e))
 clear h hq;rw[List.length_map]at hle;by_cases hf:x.pk.length<x.L
 .simp only[if_pos hf,decide_eq_true hf]
  refine kt;refine aa0;refine(Sv hq5 (by simpa using hf) n A5 zs.length c5).mono ?_;rintro r w6 ⟨rfl,⟨cur',hq6⟩,hc6⟩;have hW6:=ae hc6 hW5 (λq=>q.elim (λq=>iw hW5 hq5.q dM q) λq=>iw hW5 hq5.r dM q);refine qT;refine tk 12 ?_;refine eY;have hcF:ag (λj=>j=x.Q\/j=x.R) w w6:=(hc5.mono λ_ _ q=>q.elim).trans hc6;have hx6:aL w6 N M K {x with pk:=x.pk++ [⟨n,A5,c5,zs⟩] }:=by
   have h:=H.out;refine⟨hW6,⟨a,cur',by simpa using hq6⟩,λp hp=>?_,h.tb' hS hcF h.tb,h.tb' hS hcF h.nx,h.jb' hS hcF (λj hj=>?_),h.cm.chg hcF ?_,h.cb,h.am.chg hcF ?_,h.ne,h.sh,h.mo' hcF λj hj=> .inl hj⟩
   .refine EI
    .exact h.pk' hS hcF p q
    .simp only[Xb2]at q
     subst q;exact⟨((mR hown5).chg hc6 (Tx (ci hq5.q dM) (ci hq5.r dM))).mono kn,hby,hl⟩
   .have hJ:=h.now j hj
    refine⟨?_,λg hg=>?_⟩
    .rintro(q|q)
     .exact iw hJ.jb HQ.out.q dM q
     .exact iw hJ.jb HQ.out.r dM q
    .obtain⟨_,_,c',k⟩:=hJ.v.block hg
     rintro(q|q)
     .exact iw k HQ.out.q dM q
     .exact iw k HQ.out.r dM q
   .rintro(q|q)
    .exact h.cm.ne HQ.out.q q
    .exact h.cm.ne HQ.out.r q
   .rintro(q|q)
    .exact h.am.ne HQ.out.q q
    .exact h.am.ne HQ.out.r q
  have HX:=OH hx6;clear hx6 hown5 hc6 hW6 hW5 hq5 hq6 hc5 hb5 hcd;refine bj;exact⟨rfl,A5,c5,HX.out,hcF⟩
 .have hf:x.pk.length=x.L:=oM
  simp only[hf,Nat.lt_irrefl,if_false,decide_false];refine aa0;refine(xe hq5 (by simpa using hf) n A5 zs.length c5).mono ?_;rintro r w6 ⟨rfl,hb6⟩;have hW6:=(hb6.block _ (aB hW5)).trans hW5;refine qT;refine tk 12 ?_;refine eY;have hcF:ag af w w6:=hc5.next hb6;clear hown5 hb6 hW6 hW5 hq5 hc5 hb5 hcd;refine bj;exact⟨rfl,none,0,H.out.below hcF.none,hcF.mono λ_ _ q=>q.elim⟩
end
def l9:Dn:=⟨0,0,0,0,0,0,0,0,0,false⟩
def NX:Rt:=⟨0,0,0,0,0⟩
def gd(t:Option Tb)(s:Int):Option Dn:=t.bind λt=>t.ds.find? λd=>decide (d.ssrc=s)
def dQ(t:Option Tb)(s:Int):Option Rt:=t.bind λt=>t.rs.find? λd=>decide (d.ssrc=s)
theorem ry{α:Type}(f:α->Int)(g:α->Value)(l:List α)(s:Int):dK (l.map λx=>(f x,g x)) s=(l.find? λd=>decide (f d=s)).map g:=by simp only[dK,Xb4,Xa4];rfl
theorem IA{t:Option Tb}{d:Dn}(h:gd t s=some d):∃x,t=some x/\d∈x.ds/\d.ssrc=s:=by
 unfold gd at h;cases t with
 |none=>
  cases h
 |some x=>exact⟨x,rfl,Xb3 h,by simpa using List.find?_some h⟩
section
variable {w w':World}{M:Nat->Prop}{t:Option Tb}
theorem Gw(h:gj w M t)(s:Int)(h0:0<=s)(h1:s<=4294967295):az 90 #[nA t,JT s] w λe w'=>e=aA (.tuple #[tT ((gd t s).getD l9),.bool (gd t s).isSome])/\aC w w':=by
 cases t with
 |none=>
  exact Iu s w
 |some x=>
  have hx:=(h x rfl).1;refine town_t hx s h0 h1 _ _ ?_ ?_
  .rw[ry Dn.ssrc tT]
   simp only[gd,PI];cases x.ds.find? λd=>decide (d.ssrc=s)<;>rfl
  .rw[ry Dn.ssrc tT]
   simp only[gd,PI,Xa1]
theorem sJ(h:gj w M t)(s:Int)(h0:0<=s)(h1:s<=4294967295):az 91 #[nA t,JT s] w λe w'=>e=aA (.tuple #[GG ((dQ t s).getD NX),.bool (dQ t s).isSome])/\aC w w':=by
 cases t with
 |none=>
  exact CJ s w
 |some x=>
  have hx:=(h x rfl).1;refine RY hx s h0 h1 _ _ ?_ ?_
  .rw[ry Rt.ssrc GG]
   simp only[dQ,PI];cases x.rs.find? λd=>decide (d.ssrc=s)<;>rfl
  .rw[ry Rt.ssrc GG]
   simp only[dQ,PI,Xa1]
theorem NJ(h:gj w M t)(track:Int):az 176 #[nA t,JI track] w (wE ((t.map (·.ds)).getD []) track w):=by
 cases t with
 |none=>
  refine(DQ track w).mono ?_;rintro e w' ⟨rfl,rfl⟩;exact⟨_,[],rfl,World.ownsRow_nil _ _ _ _,⟨λ_ q=>absurd q sM,λ_ q=>absurd q sM,sM⟩,Below.refl _ _⟩
 |some x=>exact TC (h x rfl).1 (h x rfl).2.1 track
theorem Ir(h:gj w M t)(track layer:Int):az 143 #[nA t,JI track,JI layer] w (Ht w):=by
 cases t with
 |none=>
  refine(AZ track layer w).mono ?_;rintro e w' ⟨rfl,rfl⟩;exact⟨0,false,rfl,dM,dM,Below.refl _ _⟩
 |some x=>exact NP (h x rfl).1 track layer
theorem oO(h:gj w M t):az 98 #[nA t] w λe w'=>e=aA (JU ((t.map (·.ep)).getD 0))/\w=w':=by
 cases t with
 |none=>
  exact tR w
 |some x=>exact Hg (h x rfl).1
end
section
variable {P:Program}
theorem wT(w:World)(t ty:TypeId)(B:Nat)(e:TypeId)(i:TypeInfo)(z:Value)(bytes:Nat)(h1:P.underlying t=some (.slice e))(h2:P.info? e=some i)(h3:i.zero=some z)(h4:i.size=1)(h5:i.bytes=bytes)(h6:z.cells.size=1)(v:Value)(xs:List Value)(hq:cE w B e v xs)(ad:Addr)(c:Nat)(u:Value)(hc:w.cell? (ad.add 0)=some u)(h1c:u.oneCell'=true)(b1:xs.length+1<=maxLen)(b2:(xs.length+1)*bytes<=140737488355328)(hB:B<=w.heap.size) :
  ∃v' w',(Builtin.append_ #[t,t] ty #[v,.slice (some ad) 1 c]).run P w=.ok v' w'/\cE w' B e v' (xs++ [u])/\w.grownBy w' v.ownBlock/\∀g,v'.ownBlock=some g->v.ownBlock=some g\/w.heap.size<=g:=by
 refine Zu;rcases hq with⟨rfl,rfl⟩|⟨g,off,cap,cur,rfl,hg1,hg2,hg3,hg4,hg5,hg6⟩
 .obtain⟨g,cap,w',r1,r2,r3,r4,r5⟩:=run_append_lies (P:=P) w t ty w.heap.size e i z 1 bytes h1 h2 h3 h4 h5 h6 oM (.slice none 0 0) 0 [] (World.ownsRow_nil _ _ _ _) ad 1 c [u] rfl hnews hone oM lM (by simpa using b2) fo _ rfl
  refine⟨_,w',r1,cE.mono (mG (by simpa using r2)) hB,r3,λg' hg'=>?_⟩;simp only[Value.ownBlock,Xa3.injEq]at hg';rcases r4 with q|q
  .cases q
  .exact .inr oM
 .by_cases hr:xs.length+1<=cap
  .have hrun:=run_append_room_cells (P:=P) w t ty e i h1 h2 g off xs.length cap ad 1 c [u] (by simp[h4]) hnews hone hr (λj hj=>?_) (λj hj=>(ab hg2).2.1 _)
   .refine⟨_,_,hrun,?_,?_,λg' hg'=> .inl hg'⟩
    .refine Xc
     exact ZY
    .refine Xc
     exact XW
   .have hj0:j=0:=by simpa using hj
    subst hj0;rw[(ab hg2).1,h4,Array.getElem?_eq_getElem oM];rfl
  .obtain⟨v',w',hrun,r1,r2⟩:=run_append_arg_grows (P:=P) w t ty e i z 1 bytes h1 h2 h3 h4 h5 h6 oM ⟨g,off,none⟩ xs.length cap xs oM (λj y h=>by have hj:j<xs.length:=(List.getElem?_eq_some_iff.1 h).1;rw[Addr.add_lit];exact(((ab hg2).1 _).trans (hg6 j hj)).trans h) ad 1 c [u] rfl hnews oM b1 b2
   refine⟨v',w',hrun,cE.mono (mG r1) hB,⟨r2.os,r2.tape,r2.output,r2.size,λk hk _=>r2.block k hk sM⟩,λg' hg'=> .inr ?_⟩;exact((mG r1).block hg').1
theorem eS{ops:Array Oper}{K:Act->World->Prop}{Q:Exit->Act->World->Prop}{E:Prop}(hgd:o.guard=none)(s x:Operand)(t:TypeId)(ho:o.op=.call {callee:=.builtin .append,args:=#[s,x],argTypes:=#[t,t] })(B:Nat)(e:TypeId)(i:TypeInfo)(z:Value)(bytes:Nat)(h1:P.underlying t=some (.slice e))(h2:P.info? e=some i)(h3:i.zero=some z)(h4:i.size=1)(h5:i.bytes=bytes)(h6:z.cells.size=1)(v:Value)(xs:List Value)(hs:a.eval s=v)(hq:cE w B e v xs)(ad:Addr)(c:Nat)(u:Value)(hx:a.eval x=.slice (some ad) 1 c)(hc:w.cell? (ad.add 0)=some u)(h1c:u.oneCell'=true)(b1:xs.length+1<=maxLen)(b2:(xs.length+1)*bytes<=140737488355328)(hB:B<=w.heap.size)(h:∀v' w',cE w' B e v' (xs++ [u])->w.grownBy w' v.ownBlock->(∀g,v'.ownBlock=some g->v.ownBlock=some g\/w.heap.size<=g)->K (a.put o.dst v') w') :
  if Xa5 o (yielded ops a.tmps)=true then Oper.wp P o a w K Q else E:=by
 have hw:Xa5 o (yielded ops a.tmps)=true:=by simp[Xa5,hgd]
 rw[if_pos hw];obtain⟨v',w',hr,r1,r2,r3⟩:=wT (P:=P) w t o.type B e i z bytes h1 h2 h3 h4 h5 h6 v xs hq ad c u hc h1c b1 b2 hB;unfold Oper.wp execOp;simp only[ho,resolve,invoke,builtin,Sem.run_bind,Sem.run_pure,Result.andThen_ok,List.map_toArray,List.map_cons,List.map_nil,hs,hx,hr];exact h v' w' r1 r2 r3
end
theorem gj.below{t:Option Tb}(h:gj w M t)(hb:aC w w'):gj w' M t:=h.kept (S:=af) (.of hb) (λ_ _ q=>q.elim) (λ_ _ _=>id)
section
variable {P:Program}{md:Region.Mode}{l:List Oper}{Q:Exit->Act->World->Prop}{S:World->Prop}{n g:Nat}
theorem tg(i:Nat)(h:cq P md l.toArray Q S n g f (listed.setIfInBounds i true) a' w)(hi:l[i]?=some oi:=by rfl)(hk:(pE md l.toArray n&&BG md l n listed&&decide (i<n)&&Region.noSelect l.toArray&&Region.free md l.toArray listed i&& (Region.ready md l.toArray listed).contains i)=true:=by kernel_rfl)(hQ:∀c a w,Q (.panic c) (a.put oi.dst v) w->Q (.panic c) a w:=by exact(λ_ _ _ h=>h))(hy:YieldsIf P l.toArray S oi v a:=by(first|(exact Or.inr ⟨rM,rfl⟩)|(refine Or.inl ⟨rM,?_⟩;intro wz hSw;(try dsimp only[Bk]at hSw);go_simp;(try with_reducible rfl))))(ha:a.put oi.dst v=a':=by(simp only[pu];exact rfl))(hS:S w:=by assumption) :
  cq P md l.toArray Q S n g (f+1) listed a w:=NK hi hk hQ hy hS (ha ▸ h)
end
def SC(x:Wk)(j:Jb)(s:Int):Bool:=(gd j.tb s).isSome&& (decide (((gd j.tb s).getD l9).shard=x.sh)&&!((gd j.tb s).getD l9).muted)
section
variable {w w':World}{N:Nat}{M:Nat->Prop}{K:Kw}{x:Wk}{j:Jb}
theorem wown_t(h:aL w N M K x)(hn:x.now=some j)(s:Int)(h0:0<=s)(h1:s<=4294967295):az 177 #[OV x.W,JT s] w λe w'=>e=aA (.tuple #[tT ((gd j.tb s).getD l9),.bool (SC x j s)])/\aC w w':=by
 have hW:=h.wb;refine KN;have hJ:=(h.now j hn).jb;obtain⟨vt,hvt⟩:∃v,nA j.tb=v:=⟨_,rfl⟩
 have hdn:=λw' (hb:aC w w')=>hvt ▸ Gw ((h.now j hn).t.below hb) s h0 h1
 unfold SC;obtain⟨d,hd⟩:∃d,(gd j.tb s).getD l9=d:=⟨_,rfl⟩
 obtain⟨b,hb⟩:∃b,(gd j.tb s).isSome=b:=⟨_,rfl⟩
 simp only[hd,hb]at hdn ⊢;simp only[ki,hvt]at hJ;have HDN:=OH hdn;refine uM;go_enter func177,ntmps177;refine kx;have hV0:=ao w (.cells #[JT 0,JI 0,JT 0,JI 0,JI 0,JI 0,JI 0,JI 0,JI 0,.bool false] 198) _ rfl;refine ay;refine(HDN.out _ jI).mono ?_;refine rT;refine jO;have hU:(w2.alloc (.cells (eW d).toArray 198)).heap[w2.heap.size]?=OC (eW d).toArray 198:=bZ;have hV:=ai (o:=.cells (eW d).toArray 198) ((hb2.block _ sM).trans hV0);have hG:ag af w (w2.alloc (.cells (eW d).toArray 198)):=bu;have hW:=ae hG hW id;have hUV:¬w2.heap.size=w.heap.size:=by have:=hb2.size;simp only[aD]at this;omega
 generalize w2.alloc _=u at *;generalize w2.heap.size=U at *;generalize hVe:w.heap.size=V at *;obtain⟨b1,f1⟩:∃b,decide (d.shard=x.sh)=b:=⟨_,rfl⟩
 have g1:(d.shard==(x.sh:Int))=b1:=by rw[←f1];rfl
 have HVE:=OH hVe;cases b;all_goals
  cases b1;all_goals
   skip
   refine rl 17 (λw'=>Bk w' U (eW d).toArray 198/\Bk w' x.W (ou K {x with now:=some j}) 164) (λw0_ hc0=>?_);have hU:=ae hc0 hU id;have hV:=ae hc0 hV id;have hW:=ae hc0 hW id;have hG:=ag.trans hG hc0;refine⟨⟨bk,bk⟩,λhH=>?_⟩;refine tg 0 ?_;refine tg 1 ?_;refine tg 2 ?_;refine tg 3 ?_;refine tg 4 ?_;refine tg 5 ?_;refine tg 6 ?_;refine tg 7 ?_;refine tg 8 ?_;refine tg 9 ?_;refine tg 10 ?_;refine tg 11 ?_;refine tg 12 ?_;refine tg 13 ?_;refine tg 14 ?_;refine tg 15 ?_;have hcs:=ax (S:=λj=>j=V) (.inl rfl) (eW d) w0_ 0 dp;have hV9:=hV;have hG9:=hG;refine ons 16 (hV) ⟨bk (ae hcs hU hUV),bk (jH hcs hV hW)⟩ (λhH=>?_);try simp only[pu]
   refine QO ?_;have hn9:=aK (eW d) hV9 rfl;have hG9:ag af w (aR w0_ V 0 (eW d)):=ax (.inr (Nat.le_of_eq HVE.out)) (eW d) _ 0 hG9;generalize aR _ V 0 (eW d)=u9 at *;go_wp2_with fail;refine wY underlying198 ?_ (h1:=hn9);exact⟨by simp[f1,Act.put,Act.eval],hG9.none⟩
end
section
variable {w w':World}{N:Nat}{M:Nat->Prop}{K:Kw}{x:Wk}{j:Jb}
abbrev mV(K:Kw)(x:Wk)(p:Nat):Array Value:=#[OV K.A,OV K.P,OV K.B,JI x.sh,OV x.Q,nA x.tb,OV p,nA x.nx,JI x.ph,.map (some x.cm),.map (some x.am),JI x.c0,JI x.c1,JI x.c2,JI x.c3,JI x.c4]
theorem aL.wj(h:aL w N M K x)(hn:x.now=some j):w.heap[x.W]?=OC (mV K x j.at') 164:=by have:=h.wb;simp only[ou,Po,hn,Xa0]at this;exact this
abbrev ouC(k n tr s:Int)(v:Value)(a ep sl tn:Int):Array Value:=#[JI k,JI n,JI tr,JT s,v,JI a,JU ep,JI sl,JT tn]
abbrev gw(t:Option Tb):Int:=(t.map (·.ep)).getD 0
theorem Cr(h:aL w N M K x)(hn:x.now=some j)(d:Dn)(k n s:Int)(A:Option Addr)(l c:Nat) :
  az 141 #[OV x.W,JI k,JI n,tT d,JT s,.slice A l c] w λe w'=>e=aA (.agg (ouC k n d.track s (.slice A l c) j.n (gw j.tb) d.slot d.turn))/\aC w w':=by
 have hW:=h.wj hn;have hJ:=(h.now j hn).jb;have hE:=λw' (hb:aC w w')=>oO ((h.now j hn).t.below hb)
 have HE:=OH hE;go_enter func141,ntmps141;refine kx;have hU:((w.alloc (.cells (eW d).toArray 198)).alloc (.cells #[JI 0,JI 0,JI 0,JT 0,.slice none 0 0,JI 0,JU 0,JI 0,JT 0] 68)).heap[w.heap.size]?=OC (eW d).toArray 198:=bZ;have hV:((w.alloc (.cells (eW d).toArray 198)).alloc (.cells #[JI 0,JI 0,JI 0,JT 0,.slice none 0 0,JI 0,JU 0,JI 0,JT 0] 68)).heap[w.heap.size+1]?=OC #[JI 0,JI 0,JI 0,JT 0,.slice none 0 0,JI 0,JU 0,JI 0,JT 0] 68:=bZ;have hG:ag af w ((w.alloc (.cells (eW d).toArray 198)).alloc (.cells #[JI 0,JI 0,JI 0,JT 0,.slice none 0 0,JI 0,JU 0,JI 0,JT 0] 68)):=bu;have hW:=ae hG hW id;have hJ:=ae hG hJ id;have hUV:¬w.heap.size=w.heap.size+1:=oM;generalize (w.alloc _).alloc _=u at *;have hVe:w.heap.size<=w.heap.size+1:=Nat.le_succ _;generalize hU':w.heap.size=U at *;generalize U+1=V at *;have HU:=OH hU';refine rl 25 (λw'=>Bk w' U (eW d).toArray 198/\Bk w' x.W (mV K x j.at') 164/\Bk w' j.at' (ki j) 219/\Bk w' V #[JI 0,JI 0,JI 0,JT 0,.slice none 0 0,JI 0,JU 0,JI 0,JT 0] 68) (λw0_ hc0=>?_);have hU:=ae hc0 hU id;have hV:=ae hc0 hV id;refine yW;have hJ:=ae hc0 hJ id;refine oH;refine Fd;refine iU;refine Xk;refine tk 22 ?_;refine tk 23 ?_;refine on 21 λK hK=>?_
 go_simp;refine(HE.out _ (hG.none)).mono ?_;rintro r w9 ⟨rfl,hw9⟩;subst hw9;refine hK.out _ _ ⟨bk,bk,bk,bk⟩ (λhH=>?_);refine bV;refine tk 24 ?_;refine lst (hV) ?_;have hn9:=aK (ouC k n d.track s (.slice A l c) j.n (gw j.tb) d.slot d.turn).toList hV rfl;have hG9:ag af w (aR w0_ V 0 (ouC k n d.track s (.slice A l c) j.n (gw j.tb) d.slot d.turn).toList):=ax (.inr (HU.out ▸ hVe)) _ _ 0 hG;generalize aR _ V 0 _=u9 at *;refine ay;refine rc underlying68 ?_ (h1:=hn9);exact⟨rfl,hG9.none⟩
end
section
variable {w w':World}{N:Nat}{M:Nat->Prop}{K:Kw}{x:Wk}{j j':Jb}
def Jb.own(j:Jb)(i:Nat):Prop:=i=j.at'\/j.v.ownBlock=some i
theorem Jb.sub(hn:x.now=some j):∀i,j.own i->x.own i:=λi hi=> .inr (.inr (.inr (.inr (.inr ⟨j,hn,hi⟩))))
theorem aL.job(h:aL w N M K x)(hn:x.now=some j)(hat:j'.at'=j.at')(hc:ag j.own w w')(hj:yE w' M j')(hv:∀g,j'.v.ownBlock=some g->j.v.ownBlock=some g\/w.heap.size<=g) :
  aL w' N M K {x with now:=some j'}/\∀i,({x with now:=some j'}:Wk).own i->x.own i\/w.heap.size<=i:=by
 have hS:=Jb.sub hn;have hJ:=h.now j hn;refine fK;have hne:∀ {i:Nat} {c:Array Value} {t:TypeId},w.heap[i]?=OC c t->t≠219->t≠224->¬j.own i:=λq h1 h2 r=>by
  rcases r with r|r
  .subst r
   exact au hJ.jb (Ne.symm h1) q
  .obtain⟨_,_,c',k⟩:=hJ.v.block r
   exact au k (Ne.symm h2) q
 have hmp:∀ {i:Nat} {L:List (Int×Value)},bH w prog 52 (Xb6 .u32) (OI .u32) i L->¬j.own i:=λq r=>by
  rcases r with r|r
  .exact q.ne hJ.jb r
  .obtain⟨_,_,c',k⟩:=hJ.v.block r
   exact q.ne k rfl
 have ho:∀i,({x with now:=some j'}:Wk).own i->x.own i\/w.heap.size<=i:=λi q=>by
  refine Nc
  .refine Al
   rcases q with q|q
   .exact .inl (hS _ (.inl (q.trans hat)))
   .rcases hv i q with k|k
    .exact .inl (hS _ (.inr k))
    .exact .inr k
 refine⟨⟨?_,⟨a,cur,hq.kept hc (hne hq.q dM dM) (hne hq.r dM dM)⟩,h.pk' hS hc,h.tb' hS hc h.tb,h.tb' hS hc h.nx,λy hy=>?_,h.cm.chg hc (hmp h.cm),h.cb,h.am.chg hc (hmp h.am),h.ne,h.sh,h.mo' hc ho⟩,ho⟩
 .have:=ae hc h.wb (hne h.wb dM dM)
  simp only[ou,Po,hn,Xa0]at this;simp only[ou,Po,Xa0,hat];exact this
 .simp only[Xa3.injEq]at hy
  exact hy ▸ hj
theorem aL.push(h:aL w N M K x)(hn:x.now=some j){v':Value}{td:List Th}(hc:ag j.own w w')(hb:w'.heap[j.at']?=OC (ki {j with todo:=td,v:=v'}) 219)(hq:cE w' 0 224 v' (td.map ov))(hl:td.length<=1000000000)(hd:∀x∈td,match x with|.again _ q=>0<=q/\q<=65535|_=>True)(hv:∀g,v'.ownBlock=some g->j.v.ownBlock=some g\/w.heap.size<=g) :
  aL w' N M K {x with now:=some {j with todo:=td,v:=v'}}/\∀i,({x with now:=some {j with todo:=td,v:=v'}}:Wk).own i->x.own i\/w.heap.size<=i:=by
 have hS:=Jb.sub hn;have hJ:=h.now j hn;exact h.job hn rfl hc ⟨hb,hJ.z.chg hc (h.far5 hS),hJ.b,hJ.l,h.tb' hS hc hJ.t,hJ.m.chg hc (h.off hS) (h.off hS) (h.far5 hS),hq,hd,hl⟩ hv
theorem aL.cnt(h:aL w N M K x)(c:Int×Int×Int×Int×Int)(hc:ag (λi=>i=x.W) w w')(hb:w'.heap[x.W]?=OC (ou K {x with c0:=c.1,c1:=c.2.1,c2:=c.2.2.1,c3:=c.2.2.2.1,c4:=c.2.2.2.2}) 164) :
  aL w' N M K {x with c0:=c.1,c1:=c.2.1,c2:=c.2.2.1,c3:=c.2.2.2.1,c4:=c.2.2.2.2}:=by
 refine Fk;refine fK;exact⟨hb,QW,h.pk' hS hc,h.tb' hS hc h.tb,h.tb' hS hc h.nx,h.jb' hS hc (λj hj=>⟨h.nW (h.now j hj).jb dM,λg hg=>(λ⟨_,_,_,k⟩=>h.nW k dM) ((h.now j hj).v.block hg)⟩),h.cm.chg hc (λe=>h.cm.ne h.wb e),h.cb,h.am.chg hc (λe=>h.am.ne h.wb e),h.ne,h.sh,h.mo' hc λi q=> .inl q⟩
end
def pI{β:Type}(L:List (Int×β))(s:Int)(t:β):List (Int×β):=if(L.find? λp=>decide (p.1=s)).isSome then L.map (λp=>if p.1=s then(s,t) else p) else L++ [(s,t)]
def nB{β:Type}(L:List (Int×β))(s:Int):Option β:=(L.find? λp=>decide (p.1=s)).map (·.2)
theorem C7{β:Type}(f:β->Value)(L:List (Int×β))(s:Int):dK (L.map λp=>(p.1,f p.2)) s=(nB L s).map f:=by simp only[dK,nB,Xb4,Xa4];rfl
theorem put_G{β:Type}(f:β->Value)(L:List (Int×β))(s:Int)(t:β):jv (L.map λp=>(p.1,f p.2)) s (f t)=(pI L s t).map λp=>(p.1,f p.2):=by
 unfold jv pI;rw[C7];simp only[nB,Xa1];split
 .rw[Xb5,Xb5]
  refine List.map_congr_left λp _=>?_
  simp only[Function.comp];split<;>rfl
 .simp
theorem Ol{β:Type}{L:List (Int×β)}{t:β}{p:Int×β}(h:p∈pI L s t):p∈L\/p.2=t:=by
 unfold pI at h;split at h
 .obtain⟨q,hq,e⟩:=List.mem_map.1 h
  split at e
  .exact .inr (by rw[←e])
  .exact .inl (e ▸ hq)
 .rcases List.mem_append.1 h with h|h
  .exact .inl h
  .simp only[Xb2]at h
   exact .inr (by rw[h])
theorem PG{β:Type}{L:List (Int×β)}{t:β}(h:nB L s=some t):∃p∈L,p.2=t:=by
 unfold nB at h;cases hf:L.find? λp=>decide (p.1=s)with
 |none=>
  rw[hf]at h;cases h
 |some p=>rw[hf]at h;exact⟨p,Xb3 hf,by simpa using h⟩
theorem CA{t:Rv.Tr}(h:t.Small B)(hB:B<=1000000000000)(x:Int)(x0:0<=x)(x1:x<=65535)(w:World):az 175 #[.agg (Rv.trC t),JS x] w λe w'=>Rv.QC (Rv.eG t x) e/\aC w w':=by
 obtain⟨a1,a2,a3,a4,a5,a6,a7⟩:=h;obtain⟨on,ba,hi,go,se⟩:=t;dsimp only at *;cases on
 .exact Rv.take_off ba hi go se x w x0 x1
 .exact Rv.take_on ba hi go se x w x0 x1 oM oM oM oM a5 oM a7
theorem oQ{t:Rv.Tr}{C:Int}(h:t.Small B)(hBC:B<=C):t.Small C:=⟨by have:=h.h0;omega,by have:=h.h1;omega,by have:=h.b0;omega,by have:=h.b1;omega,h.g0,by have:=h.g1;omega,h.s1⟩
def It:Rv.Tr:=⟨false,0,0,0,0⟩
theorem Is(N:Nat):It.Small (100000*((N:Int)+1)):=⟨J4,J4,J4,J4,by simp[It],J4,by simp[It]⟩
section
variable {w w':World}{N:Nat}{M:Nat->Prop}{K:Kw}{x:Wk}{j j':Jb}
theorem aL.mono(h:aL w N M K x):aL w (N+1) M K x:= {h with cb:=λp hp=>oQ (h.cb p hp) oM}
theorem aL.small(h:aL w N M K x)(s:Int):((nB x.came s).getD It).Small (100000*((N:Int)+1)):=by
 cases hg:nB x.came s with
 |none=>
  exact Is N
 |some t=>obtain⟨p,hp,e⟩:=PG hg;exact e ▸ h.cb p hp
theorem aL.cam(h:aL w N M K x){t:Rv.Tr}(ht:t.Small (100000*((N:Int)+1)+65536))(hc:ag (λi=>i=x.cm) w w')(hm:bH w' prog 52 (Xb6 .u32) (OI .u32) x.cm (cmL (pI x.came s t))):aL w' (N+1) M K {x with came:=pI x.came s t}:=by
 have hS:∀i,i=x.cm->x.own i:=λi e=> .inr (.inr (.inr (.inl e)))
 refine fK;exact⟨ae hc h.wb (λe=>h.cm.ne h.wb e.symm),⟨a,cur,hq.kept hc (λe=>h.cm.ne hq.q e.symm) (λe=>h.cm.ne hq.r e.symm)⟩,h.pk' hS hc,h.tb' hS hc h.tb,h.tb' hS hc h.nx,h.jb' hS hc (λj hj=>⟨λe=>h.cm.ne (h.now j hj).jb e.symm,λg hg=>(λ⟨_,_,_,k⟩=>λe=>h.cm.ne k e.symm) ((h.now j hj).v.block hg)⟩),hm,λp hp=>by
  rcases Ol hp with q|q
  .exact oQ (h.cb p q) oM
  .exact q ▸ oQ ht oM,h.am.chg hc (λe=>h.ne e.symm),h.ne,h.sh,h.mo' hc λi q=> .inl q⟩
end
section
variable {P:Program}{md:Region.Mode}{l:List Oper}{Q:Exit->Act->World->Prop}{S:World->Prop}
theorem ra{id:Nat}(n:Nat)(S:World->Prop)(h:∀w',ag af w w'->S w'/\(S w'->wpAnyH P .any l.toArray Q S n (Array.replicate n false) a w'))(hm:P.follows .mixedOrders=true:=by kernel_rfl)(hn:n=l.length:=by rfl):(Code.region id l.toArray true).wp P Q a w:=by subst hn;have h1:=h w.drew (ag.drew dp);exact wp_region_held hm (S:=S) (by simpa using h1.2 h1.1)
theorem ta(i:Nat)(h:wpAnyH P md l.toArray Q S f (listed.setIfInBounds i true) a' w)(hi:l[i]?=some oi:=by rfl)(hk:(Region.noSelect l.toArray&&Region.free md l.toArray listed i&& (Region.ready md l.toArray listed).contains i)=true:=by kernel_rfl)(hQ:∀c a w,Q (.panic c) (a.put oi.dst v) w->Q (.panic c) a w:=by exact(λ_ _ _ h=>h))(hy:YieldsIf P l.toArray S oi v a:=by(first|(exact Or.inr ⟨rM,rfl⟩)|(refine Or.inl ⟨rM,?_⟩;intro wz hSw;(try dsimp only[Bk]at hSw);go_simp;(try with_reducible rfl))))(ha:a.put oi.dst v=a':=by(simp only[pu];exact rfl))(hS:S w:=by assumption) :
  wpAnyH P md l.toArray Q S (f+1) listed a w:=by
 simp only[Bool.and_eq_true]at hk;exact wpAnyH_take nv hk.1.1 hk.1.2 hk.2 hQ hy hS (ha ▸ h)
theorem oq(i:Nat)(h:∀K':Act->World->Prop,Shut (∀a w,S w->(S w->wpAnyH P md l.toArray Q S f (listed.setIfInBounds i true) a w)->K' a w)->if Region.wanted o (yielded l.toArray a.tmps)=true then Oper.wp P o a w K' Q else K' (a.put o.dst undef) w)(ho:l[i]?=some o:=by rfl)(hr:Region.ready md l.toArray listed=[i]:=by kernel_rfl) :
  wpAnyH P md l.toArray Q S (f+1) listed a w:=by
 refine wpAnyH_all hr (by simp) λj hj=>?_
 rw[Xb2]at hj;subst hj;exact wpOp_step Eo (λK' hK=>h K' (λa w hS hW=>hK a w ⟨hS,hW hS⟩))
theorem dn(h:Q .normal a w)(hr:Region.ready md l.toArray listed=[]:=by kernel_rfl):wpAnyH P md l.toArray Q S f listed a w:=wpAnyH_done hr h f
end
end Go.Proofs.YtnpancjkjheffaaGreat
