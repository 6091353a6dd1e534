/- Part 16 of the proof of TopSafe. No condition. -/
import Derived.Test.YtnpancjkjheffaaGreatP13
namespace Go.Proofs.YtnpancjkjheffaaGreat
set_option linter.unusedVariables false
set_option linter.unusedSimpArgs false
set_option maxRecDepth 100000
set_option maxHeartbeats 8000000
open Go.RowKit
open Go.Proofs.Tryz
open _root_.Nat renaming le_trans->PI,add_zero->Xa0,zero_le->Xa1
open _root_.List renaming mem_singleton->Xa2,length_append->Xa3,getElem?_cons_zero->Xa4,getElem?_cons_succ->Xa5,append_assoc->Xa6,mem_append->Xa7,map_append->Xa8,append_nil->Xa9
open _root_.And renaming intro->Xb0
open Value renaming int->Xb1,slice->Xb2
open IntKind renaming u16->Xb3
open World renaming ownsRow_nil->Xb4
variable {B c k n:Nat}{t:TypeId}{i v5 vk:Value}{x:Wk}{w w':World}
def ue(x:Wk)(j:Jb)(p:Pk)(x':Wk):Prop:=
 if(dQ j.tb p.ssrc).isSome=true/\((dQ j.tb p.ssrc).getD NX).shard=x.sh then
  if(Rv.eG ((nB x.came p.ssrc).getD It) p.seq).2.2=2\/(Rv.eG ((nB x.came p.ssrc).getD It) p.seq).2.2=3 then
   x'= {x with came:=pI x.came p.ssrc (Rv.eG ((nB x.came p.ssrc).getD It) p.seq).1,c2:=wrap64 (x.c2+1)}
  else ∃l v,po ((j.tb.map (·.ds)).getD []) ((dQ j.tb p.ssrc).getD NX).track l /\
   x'= {x with came:=pI x.came p.ssrc (Rv.eG ((nB x.came p.ssrc).getD It) p.seq).1,now:=some {j with med:=p,rt:=(dQ j.tb p.ssrc).getD NX,todo:=j.todo++l.map .send,v:=v}}
 else x'= {x with c1:=wrap64 (x.c1+1)}
def QF(w:World)(N:Nat)(M:Nat->Prop)(K:Kw)(x:Wk)(j:Jb)(p:Pk)(e:Ending)(w':World):Prop:=
 ∃x',e=aA (.tuple #[])/\ue x j p x'/\aL w' (N+1) M K x'/\(∀i,x'.own i->x.own i\/w.heap.size<=i)/\ag x.own w w'
theorem Tg:(prog.info? 224).map (λi=>(i.zero,i.size,i.bytes))=some (some .nilIface,1,16):=kM
def Th.ok:Th->Prop
 |.again _ q=>0<=q/\q<=65535
 |_=>True
section
variable {w w':World}{N:Nat}{M:Nat->Prop}{K:Kw}{x:Wk}{j j':Jb}
theorem aL.todo{wa w5:World}(h:aL w N M K x)(hn:x.now=some j)(hl:j.todo.length<1000000000)(th:Th)(hok:th.ok)(ha:ag af w wa)(hq:cE w5 0 224 v5 (j.todo.map ov++ [ov th]))(hg:wa.grownBy w5 j.v.ownBlock)(ho:∀g,v5.ownBlock=some g->j.v.ownBlock=some g\/wa.heap.size<=g) :
  aL (w5.setCell ⟨j.at',18,none⟩ v5) N M K {x with now:=some {j with todo:=j.todo++ [th],v:=v5}}/\(∀i,({x with now:=some {j with todo:=j.todo++ [th],v:=v5}}:Wk).own i->x.own i\/w.heap.size<=i)/\ag j.own w (w5.setCell ⟨j.at',18,none⟩ v5):=by
 have hJ:=h.now j hn;have hJ5:w5.heap[j.at']?=OC (ki j) 219:=ae (ag.grown (S:=λg=>j.v.ownBlock=some g) (ha.mono λ_ _ q=>q.elim) hg (λk hk _=>hk)) hJ.jb (λe=>by obtain⟨_,_,c,k⟩:=hJ.v.block e;exact au k dM hJ.jb)
 have hc5:ag j.own w w5:=ag.grown (ha.mono λ_ _ q=>q.elim) hg (λk hk _=> .inr hk);have hs:ag (λi=>i=j.at') w5 (w5.setCell ⟨j.at',18,none⟩ v5):=bu;have hF:ag j.own w (w5.setCell ⟨j.at',18,none⟩ v5):=hc5.call hs (λi _ e=> .inl e);have hb:(w5.setCell ⟨j.at',18,none⟩ v5).heap[j.at']?=OC (ki {j with todo:=j.todo++ [th],v:=v5}) 219:=bZ;have hq2:=hq.kept (w':=w5.setCell ⟨j.at',18,none⟩ v5) λg hg=>hs.block g (hq.block hg).2.1 (λe=>by subst e;obtain⟨_,_,c,k⟩:=hq.block hg;exact au k dM hJ5)
 obtain⟨a,b⟩:=h.push hn hF hb (by simpa using hq2) xM (λy hy=>by
  refine zm
  .exact hJ.q y q
  .refine iH
   cases th<;>exact hok) (λg hg=>(ho g hg).imp id (λq=>PI ha.size q))
 exact⟨a,b,hF⟩
end
theorem aL.cntJ{N:Nat}{M:Nat->Prop}{K:Kw}{j:Jb}(h:aL w N M K x)(hn:x.now=some j)(c:Int×Int×Int×Int×Int)(hc:ag (λi=>i=x.W) w w')(hb:w'.heap[x.W]?=OC (mV K {x with c0:=c.1,c1:=c.2.1,c2:=c.2.2.1,c3:=c.2.2.2.1,c4:=c.2.2.2.2} j.at') 164) :
  aL w' N M K {x with c0:=c.1,c1:=c.2.1,c2:=c.2.2.1,c3:=c.2.2.2.1,c4:=c.2.2.2.2}:=h.cnt c hc (by simp only[ou,Po,hn,Option.map_some];exact hb)
theorem ei(w:World)(g k:Nat)(vs:List Value):ag (λi=>i=g) w (aR w g k vs):=ax (S:=λi=>i=g) (.inl rfl) vs w k (ag.refl _ w)
def SJ(u:World)(N:Nat)(M:Nat->Prop)(K:Kw)(x:Wk)(j:Jb)(f:Nat->List Th)(n:Nat)(i:Value)(wr:World):Prop:=∃ (k:Nat) (vk:Value),i=JI k/\k<=n/\aL wr N M K {x with now:=some {j with todo:=j.todo++f k,v:=vk}}/\(∀g,vk.ownBlock=some g->j.v.ownBlock=some g\/u.heap.size<=g)/\ag x.own u wr
theorem SJ.own{j:Jb}{td:List Th}(hn:x.now=some j)(hv:∀g,vk.ownBlock=some g->j.v.ownBlock=some g\/B<=g):∀i,({x with now:=some {j with todo:=td,v:=vk}}:Wk).own i->x.own i\/B<=i:=λi q=>by
 refine Nc
 .refine Al
  rcases q with q|q
  .exact .inl (Jb.sub hn _ (.inl q))
  .exact(hv i q).imp (λk=>Jb.sub hn _ (.inr k)) id
theorem po.len{ds l:List Dn}{tr:Int}(h:po ds tr l)(hl:ds.length<=12):l.length<=12:=PI (pM h.2.2 λd hd=>(h.1 d hd).1) hl
theorem Re(w:World):(zeroValue 364).run prog w=.ok (.agg (Rv.trC It)) w:=kM
section
variable {w w':World}{N:Nat}{M:Nat->Prop}{K:Kw}{x:Wk}{j j':Jb}
theorem Nt{p:Pk}(h:aL w N M K x)(hN:N<=100000)(hn:x.now=some j)(ht:j.todo=[])(hp:yC w p):az 137 #[OV x.W,.agg (ij p).toArray] w (QF w N M K x j p):=by
 refine rS;have hps:=hp.k.n.ssrc;have hW:=h.wj hn;have hJ:=(h.now j hn).jb;have hr:=λw' (hb:aC w w')=>sJ ((h.now j hn).t.below hb) p.ssrc hps.1 hps.2
 obtain⟨is,hi⟩:∃b,(dQ j.tb p.ssrc).isSome=b:=⟨_,rfl⟩
 obtain⟨rt,hrt⟩:∃r,(dQ j.tb p.ssrc).getD NX=r:=⟨_,rfl⟩
 simp only[hi,hrt]at hr;refine ml;have HI:=OH hi;have HRT:=OH hrt;obtain⟨b1,f1⟩:∃b,decide (rt.shard=x.sh)=b:=⟨_,rfl⟩
 have g1:(rt.shard==(x.sh:Int))=b1:=by rw[←f1];rfl
 have HF:=OH f1;refine qf;have htb:((j.tb.map (·.ds)).getD []).length<=12:=by
  cases hq:j.tb with
  |none=>
   simp
  |some y=>exact((h.now j hn).t y hq).2.1
 have HTB:=OH htb;clear h hp hr hps hi hrt htb;have hG:ag af w (w.alloc (.cells (ij p).toArray 58)):=bu;have hp0:(w.alloc (.cells (ij p).toArray 58)).heap[w.heap.size]?=OC (ij p).toArray 58:=bZ;have hW0:=ae hG hW id;have hJ0:=ae hG hJ id;go_enter func137,ntmps137;refine kx;have HG:=OH hG;clear hW hJ hG;refine qp;have hbl:w.heap.size<=w.heap.size:=Nat.le_refl _;generalize hbe:w.heap.size=b at *;have HB:=OH hbe;clear hbe;go_cut [4,5] from 11 to 24 (λs4 s5 wx=>∃V,s4=OV V/\s5=.bool is/\wx.heap[V]?=OC (kE rt).toArray 203/\ag af u wx/\u.heap.size<=V);case first=>
  have hGu:=HG.out;have hGu2:=ag.refl af u;refine rl 16 (λw'=>Bk w' b (ij p).toArray 58/\Bk w' x.W (mV K x j.at') 164/\Bk w' j.at' (ki j) 219) (λw0_ hc0=>?_);have hp0:=ae hc0 hp0 id;have hW0:=ae hc0 hW0 id;have hJ0:=ae hc0 hJ0 id;have hGu:=ag.trans hGu hc0;have hGu2:=ag.trans hGu2 hc0;refine qC;refine iU;refine gN;refine bo 10 14 (h1:=λK hK=>?_) (h2:=oa (λV14 w2_ hV14 hc2 hlV14=>?_))
  .skip
   go_simp;refine(HR.out _ (hGu.none)).mono ?_;rintro r w1_ ⟨rfl,hbw1_⟩;refine Af;have hp0:=ae hc1 hp0 id;have hW0:=ae hc1 hW0 id;have hJ0:=ae hc1 hJ0 id;have hGu:=ag.trans hGu hc1;have hGu2:=ag.trans hGu2 hc1;refine mz;refine tk 11 ?_;refine nS;refine on 14 ?_;refine oa (λV14 w3_ hV14 hc3 hlV14=>?_);have hlV14:=PI hGu2.size hlV14;have hp0:=ae hc3 hp0 id;have hW0:=ae hc3 hW0 id;have hJ0:=ae hc3 hJ0 id;have hGu:=ag.trans hGu hc3;have hGu2:=ag.trans hGu2 hc3;refine qV;have hcs:=ax (S:=λj=>j=V14) (.inl rfl) (kE rt) w3_ 0 dp;refine YG;have hG9:ag af u (aR w3_ V14 0 (kE rt)):=ax (.inr hlV14) _ _ 0 hGu2;refine dr;exact⟨V14,rfl,rfl,h14,hG9,hlV14⟩
  .skip
   have hlV14:=PI hGu2.size hlV14;have hp0:=ae hc2 hp0 id;have hW0:=ae hc2 hW0 id;have hJ0:=ae hc2 hJ0 id;have hGu:=ag.trans hGu hc2;have hGu2:=ag.trans hGu2 hc2;refine qV;refine sm;refine(HR.out _ (hGu.none)).mono ?_;rintro r w4_ ⟨rfl,hbw4_⟩;have hc4:ag af w2_ w4_:=.of hbw4_;have hp0:=ae hc4 hp0 id;have hW0:=ae hc4 hW0 id;have hJ0:=ae hc4 hJ0 id;have hGu:=ag.trans hGu hc4;have hGu2:=ag.trans hGu2 hc4;have hV14:=ae hc4 hV14 id;refine mz;refine tk 11 ?_;refine nS;have hcs:=ax (S:=λj=>j=V14) (.inl rfl) (kE rt) w4_ 0 dp;refine YG;have hG9:ag af u (aR w4_ V14 0 (kE rt)):=ax (.inr hlV14) _ _ 0 hGu2;refine dr;exact⟨V14,rfl,rfl,h14,hG9,hlV14⟩
 case rest=>
  obtain⟨V,rfl,rfl,hV,hGx,hlV⟩:=hcut;have hp0:=ae hGx hp0 id;have hW0:=ae hGx hW0 id;have hJ0:=ae hGx hJ0 id;have hGw:=HG.out.trans hGx;have HX:=OH (H.out.below hGw.none);have HGW:=OH hGw;clear hGx hGw HG;refine jO;by_cases hcs:is=true/\b1=true
  .obtain⟨rfl,rfl⟩:=hcs
   have g2:(rt.shard !=(x.sh:Int))=false:=by simp[bne,g1]
   refine rg 10 (λw'=>Bk w' V (kE rt).toArray 203/\Bk w' x.W (mV K x j.at') 164) ⟨bk,bk⟩ (λhH=>?_);refine tg 0 ?_;refine tg 1 ?_;refine tg 2 ?_;refine tg 3 ?_;refine tg 4 ?_;refine tg 5 ?_;refine tg 6 ?_;refine tg 7 ?_;refine tg 8 ?_;refine tg 9 ?_;refine eY;have hcd:ag af wc wc.drew:=bu;have hp1:=ae hcd hp0 id;have hW1:=ae hcd hW0 id;have hJ1:=ae hcd hJ0 id;have hV1:=ae hcd hV id;have HD:=OH (HX.out.below hcd.none);have HGD:=OH (HGW.out.trans hcd);clear hp0 hW0 hJ0 hV HX HGW;generalize wc.drew=wd at *;clear hcd;obtain⟨t0,ht0⟩:∃t,(nB x.came p.ssrc).getD It=t:=⟨_,rfl⟩
   obtain⟨⟨t1,y1,k1⟩,hr1⟩:∃r,Rv.eG t0 p.seq=r:=⟨_,rfl⟩
   have hlk:=λW (hc:ag af wd W)=>(HD.out.cm.chg hc id).run_look lY underlying160 (Re W) (x:=p.ssrc) (ln HPS.out.1 HPS.out.2) false (v:=.agg (Rv.trC t0)) zt98 rfl
   have hsm:=HD.out.small p.ssrc;rw[ht0]at hsm;have hsq:=HP.out.k.n.seq;have htk:=λW=>CA hsm oM p.seq hsq.1 hsq.2 W
   have ht1:=Rv.takeF_small hsm hsq.1 oM oM;rw[hr1]at htk ht1;have HLK:=OH hlk;have HTK:=OH htk;have HT1:=OH ht1;have HT0:=OH ht0;have HR1:=OH hr1;clear hlk htk hsm ht1 ht0 hr1 hsq;refine i9;go_cut [6,7,8] from 45 to 60 (λs6 s7 s8 wx=>∃V6,s6=OV V6/\s7=JI y1/\s8=JI k1/\wx.heap[V6]?=OC #[.bool t1.on,JI t1.base,JI t1.high,JI t1.got,JU t1.seen] 364/\ag af wd wx/\wd.heap.size<=V6);case first=>
    have hGd:=ag.refl af wd;refine rl 19 (λw'=>Bk w' b (ij p).toArray 58/\Bk w' x.W (mV K x j.at') 164/\(Instr.lookup 160 (.map (some x.cm)) (JT p.ssrc) false).run prog w'=.ok (.agg (Rv.trC t0)) w') (λw0_ hc0=>?_);have hp1:=ae hc0 hp1 id;have hW1:=ae hc0 hW1 id;have hGd:=ag.trans hGd hc0;refine KY;refine iU;refine gN;refine tk 10 ?_;refine bo 11 16 (h1:=λK hK=>?_) (h2:=oa (λV16 w2_ hV16 hc2 hlV16=>?_))
    .skip
     refine EM;rintro r w1_ ⟨htk,hbw1_⟩;have htk:r=_:=htk;subst htk;refine Af;have hp1:=ae hc1 hp1 id;have hW1:=ae hc1 hW1 id;have hGd:=ag.trans hGd hc1;refine V2;refine on 16 ?_;refine oa (λV16 w3_ hV16 hc3 hlV16=>?_);have hlV16:=PI hGd.size hlV16;have hp1:=ae hc3 hp1 id;have hW1:=ae hc3 hW1 id;have hGd:=ag.trans hGd hc3;refine KY;refine bV;have hcs:=ax (S:=λj=>j=V16) (.inl rfl) (Rv.trC t1).toList w3_ 0 dp;exact Vz
    .skip
     have hlV16:=PI hGd.size hlV16;have hp1:=ae hc2 hp1 id;have hW1:=ae hc2 hW1 id;have hGd:=ag.trans hGd hc2;refine KY;refine bV;refine rY;refine EM;rintro r w4_ ⟨htk,hbw4_⟩;have htk:r=_:=htk;subst htk;have hc4:ag af w2_ w4_:=.of hbw4_;have hp1:=ae hc4 hp1 id;have hW1:=ae hc4 hW1 id;have hGd:=ag.trans hGd hc4;have hV16:=ae hc4 hV16 id;refine V2;have hcs:=ax (S:=λj=>j=V16) (.inl rfl) (Rv.trC t1).toList w4_ 0 dp;exact Vz
   case rest=>
    obtain⟨V6,rfl,rfl,rfl,hV6,hGx,hlV6⟩:=hcut;have hp2:=ae hGx hp1 id;have hW2:=ae hGx hW1 id;have hJ2:=ae hGx hJ1 id;have hV2:=ae hGx hV1 id;have HE:=OH (HD.out.below hGx.none);have HGE:=OH (HGD.out.trans hGx);clear hp1 hW1 hJ1 hV1 HD HGD hGx HLK HTK;obtain⟨u,hrun,hMu,hcu,hzu⟩:=(HE.out.cm.same (w':=wc.drew) rfl).run_put lY underlying160 (x:=p.ssrc) (ln HPS.out.1 HPS.out.2) (.agg #[.bool t1.on,JI t1.base,JI t1.high,JI t1.got,JU t1.seen]);rw[show jv (cmL x.came) p.ssrc (.agg #[.bool t1.on,JI t1.base,JI t1.high,JI t1.got,JU t1.seen])=_ from put_G (λt=>Value.agg (Rv.trC t)) x.came p.ssrc t1]at hMu;have hcu1:ag (λi=>i=x.cm) wc u:=(ag.drew dp).trans hcu;have HU:=OH (HE.out.cam HT1.out hcu1 hMu);have HGU:=OH hcu1;refine gq;refine rg 8 (λw'=>Bk w' b (ij p).toArray 58/\Bk w' x.W (mV K x j.at') 164/\Bk w' V6 #[.bool t1.on,JI t1.base,JI t1.high,JI t1.got,JU t1.seen] 364) ⟨bk,bk,bk⟩ (λhH=>?_);refine qU;refine tk 7 ?_;refine eY;have hp3:=ae HGU.out hp2 (HE.out.cm.ne hp2).symm;have hW3:=ae HGU.out hW2 (HE.out.cm.ne hW2).symm;have hJ3:=ae HGU.out hJ2 (HE.out.cm.ne hJ2).symm;have hV3:=ae HGU.out hV2 (HE.out.cm.ne hV2).symm;have hT3:ag x.own w u:=((HGE.out.mono λ_ _ q=>q.elim:ag x.own w wc)).trans (HGU.out.mono λi _ e=> .inr (.inr (.inr (.inl e))));have HT3:=OH hT3;clear hp2 hW2 hJ2 hV2 hV6 HE HGE HGU hrun hMu hcu hzu hcu1 hT3;by_cases hk':k1=2\/k1=3
    .have hfin:∀w',ag (λi=>i=x.W) u w'->w'.heap[x.W]?=OC (mV K {x with c0:=x.c0,c1:=x.c1,c2:=wrap64 (x.c2+1),c3:=x.c3,c4:=x.c4} j.at') 164->QF w N M K x j p (.returned (.tuple #[])) w':=λw' hc hb=>by refine⟨_,rfl,?_,HU.out.cntJ hn (x.c0,x.c1,wrap64 (x.c2+1),x.c3,x.c4) hc hb,λi q=> .inl q,HT3.out.trans (hc.mono λi _ e=> .inl e)⟩;unfold ue;rw[HI.out,HRT.out,HT0.out,HR1.out,if_pos ⟨rfl,of_decide_eq_true HF.out⟩,if_pos hk']
     have HN:=OH hfin;clear hfin;refine qw;clear hp3 hJ3 hV3;rcases hk' with rfl|rfl;all_goals
      go_wp2_with fail;go_end0;exact HN.out _ bu bZ
    .have hk2:¬k1=2:=λe=>hk' (.inl e)
     have hk3:¬k1=3:=λe=>hk' (.inr e)
     have e2:(k1==2)=false:=by simpa using hk2
     have e3:(k1==3)=false:=by simpa using hk3
     refine jo;clear hk2 hk3 e2 e3;refine rl 7 (λw'=>Bk w' b (ij p).toArray 58/\Bk w' x.W (mV K x j.at') 164/\Bk w' j.at' (ki j) 219) (λw0_ hc0=>?_);have hp5:=ae hc0 hp3 id;have hW5:=ae hc0 hW3 id;have hJ5:=ae hc0 hJ3 id;have hV5:=ae hc0 hV3 id;refine qC;refine qU;refine lst (hJ5) ?_;have hJ4:(aR w0_ j.at' 4 (ij p)).heap[j.at']?=OC (ki {j with med:=p}) 219:=lx j.at' 219 (ij p) w0_ 4 (ki j).toList hJ5 sM;have hc4:ag (λi=>i=j.at') u (aR w0_ j.at' 4 (ij p)):=(ag.mono hc0 λ_ _ q=>False.elim q).trans (ei w0_ j.at' 4 (ij p));have hs4:ag (λi=>i=j.at') w0_ (aR w0_ j.at' 4 (ij p)):=ei w0_ j.at' 4 (ij p);have hW4:=jH hs4 hJ5 hW5;have hV4:=jH hs4 hJ5 hV5;have HC4:=OH hc4;clear hs4 hc4 hp3 hW3 hJ3 hV3 hp5 hW5 hJ5 hV5;generalize aR w0_ j.at' 4 (ij p)=u1 at *;clear hc0 hH;refine qn;refine rl 7 (λw'=>Bk w' V (kE rt).toArray 203/\Bk w' x.W (mV K x j.at') 164/\Bk w' j.at' (ki {j with med:=p}) 219) (λw0_ hc0=>?_);have hW4:=ae hc0 hW4 id;have hJ4:=ae hc0 hJ4 id;have hV4:=ae hc0 hV4 id;refine qC;refine qU;refine lst (hJ4) ?_;have hJ6:(aR w0_ j.at' 13 (kE rt)).heap[j.at']?=OC (ki {j with med:=p,rt:=rt}) 219:=lx j.at' 219 (kE rt) w0_ 13 (ki {j with med:=p}).toList hJ4 sM;have hc6:ag (λi=>i=j.at') u (aR w0_ j.at' 13 (kE rt)):=(HC4.out.trans (ag.mono hc0 λ_ _ q=>False.elim q)).trans (ei w0_ j.at' 13 (kE rt));have hj6:ag j.own u (aR w0_ j.at' 13 (kE rt)):=hc6.mono λi _ e=> .inl e
     have hV6:(aR w0_ j.at' 13 (kE rt)).heap[V]?=_:=jH (ei w0_ j.at' 13 (kE rt)) hJ4 hV4;have hJU:=HU.out.now j hn;have hjb:yE (aR w0_ j.at' 13 (kE rt)) M {j with med:=p,rt:=rt}:=⟨hJ6,hJU.z.chg hj6 (HU.out.far5 nZ),hJU.b,hJU.l,HU.out.tb' nZ hj6 hJU.t,(HP.out.chg HT3.out (H.out.off λ_=>id) (H.out.off λ_=>id) (H.out.far5 λ_=>id)).chg hj6 (HU.out.off nZ) (HU.out.off nZ) (HU.out.far5 nZ),hJU.v.kept λg hg=>hc6.block g (hJU.v.block hg).2.1 (λe=>by subst e;obtain⟨_,_,c,k⟩:=hJU.v.block hg;exact au k dM hJU.jb),hJU.q,hJU.tl⟩
     obtain⟨hK6,ho6⟩:=HU.out.job (j':= {j with med:=p,rt:=rt}) hn rfl hj6 hjb λg hg=> .inl hg
     have HK6:=OH hK6;have HO6:=OH ho6;have hT6:ag x.own w (aR w0_ j.at' 13 (kE rt)):=HT3.out.call hj6 λi _ q=>Jb.sub hn i q
     have HT6:=OH hT6;have hz6:w.heap.size<=(aR w0_ j.at' 13 (kE rt)).heap.size:=hT6.size;clear hW4 hJ4 hV4 hJ6 hc6 hj6 hJU hjb hK6 ho6 hT6 HC4 hc0;generalize aR w0_ j.at' 13 (kE rt)=u2 at *;clear hH;refine uQ;have hW7:u2.heap[x.W]?=OC (mV K x j.at') 164:=HK6.out.wj (j:= {j with med:=p,rt:=rt}) rfl;have hJ7:u2.heap[j.at']?=OC (ki {j with med:=p,rt:=rt}) 219:=(HK6.out.now {j with med:=p,rt:=rt} rfl).jb;have hGb:=ag.refl af u2;refine ra 12 (λw'=>Bk w' V (kE rt).toArray 203/\Bk w' x.W (mV K x j.at') 164/\Bk w' j.at' (ki {j with med:=p,rt:=rt}) 219) (λw0_ hc0=>?_);have hV6:=ae hc0 hV6 id;have hW7:=ae hc0 hW7 id;have hJ7:=ae hc0 hJ7 id;have hGb:=ag.trans hGb hc0;refine qC;refine ta 0 ?_;refine ta 1 ?_;refine ta 2 ?_;refine ta 3 ?_;refine ta 4 ?_;refine ta 5 ?_;refine ta 6 ?_;refine ta 7 ?_;refine ta 8 ?_;refine ta 11 ?_;refine oq 9 λK hK=>?_
     go_simp;refine(NJ ((HK6.out.now {j with med:=p,rt:=rt} rfl).t.below hGb.none) rt.track).mono ?_;rintro r w1_ ⟨dv,dl,rfl,hO,hDO,hbw1_⟩;obtain⟨DA,dc,rfl⟩:=aj hO;have hO6:=aW hO hGb.size;refine Af;have hV6:=ae hc1 hV6 id;have hW7:=ae hc1 hW7 id;have hJ7:=ae hc1 hJ7 id;have hGb:=ag.trans hGb hc1;refine mz;refine ta 10 ?_;refine dn ?_;have HOW:=OH hO6;have HD6:=OH hDO;have hld:=HD6.out.len HTB.out;have HLD:=OH hld;have HA6:=OH (HK6.out.below hGb.none);have HGB:=OH hGb;clear hV6 hO hDO hGb hH hW7 hJ7 hc0 hc1 hO6 hld;refine ay;go_loopw [10,109] (λ_ i wr=>SJ w1_ (N+1) M K {x with came:=pI x.came p.ssrc t1,now:=some {j with med:=p,rt:=rt}} {j with med:=p,rt:=rt} (λk=>(dl.take k).map .send) dl.length i wr) (λ_ i _=>dl.length- (intOf i).toNat);case atStart=>exact⟨0,j.v,rfl,Xa1 _,by dsimp only;rw[List.take_zero,List.map_nil,Xa9];exact HA6.out,λg hg=> .inl hg,ag.refl _ _⟩
     case round=>
      obtain⟨k,vk,rfl,hk,hw,hv,hc⟩:=hrel;have hOw:=ah HOW.out hc (HA6.out.off (λ_=>id) (t:=198));have HW:=OH hw;refine nD;refine nE;have HO:=OH hOw;have hW8:wr.heap[x.W]?=OC (mV K x j.at') 164:=hw.wj (j:= {j with med:=p,rt:=rt,todo:=j.todo++(dl.take k).map .send,v:=vk}) rfl;have hjw:=hw.now {j with med:=p,rt:=rt,todo:=j.todo++(dl.take k).map .send,v:=vk} rfl;have hJ8:wr.heap[j.at']?=OC (ki {j with med:=p,rt:=rt,todo:=j.todo++(dl.take k).map .send,v:=vk}) 219:=hjw.jb;have hq8:=hjw.v;have hdl:=HLD.out;clear hw hv hc hOw hjw;by_cases hlt:k<dl.length
      .have htk:(j.todo++(dl.take k).map Th.send)++ [.send dl[k]]=j.todo++(dl.take (k+1)).map .send:=by rw[List.take_succ_eq_append_getElem hlt,Xa8,Xa6];rfl
       have hln:(j.todo++(dl.take k).map Th.send).length<=20:=by rw[ht];simp;omega
       obtain⟨g,rfl,hg1,hg2,hg3⟩:=cM jW HO.out hlt;obtain⟨e0,e1,e2,e3,e4,e5,e6,e7,e8,e9⟩:=Xb0 (hg3 0 dM) (Xb0 (hg3 1 dM) (Xb0 (hg3 2 dM) (Xb0 (hg3 3 dM) (Xb0 (hg3 4 dM) (Xb0 (hg3 5 dM) (Xb0 (hg3 6 dM) (Xb0 (hg3 7 dM) (Xb0 (hg3 8 dM) (hg3 9 dM)))))))));clear hg3;generalize dl[k]=d at *;obtain⟨td,htk0⟩:∃l,j.todo++(dl.take k).map Th.send=l:=⟨_,rfl⟩
       rw[htk0]at hJ8 hq8 htk hln HW;have HTK:=OH htk;have HLN:=OH hln;clear htk hln htk0;dsimp only[eW,Xa4,Xa5,Xa0]at e0 e1 e2 e3 e4 e5 e6 e7 e8 e9;go_upto_region 13 with fail;have hZ:(wr.alloc (.cells (eW d).toArray 198)).heap[wr.heap.size]?=OC (eW d).toArray 198:=bZ;have ha:ag af wr (wr.alloc (.cells (eW d).toArray 198)):=bu;have hW9:=ae ha hW8 id;have hJ9:=ae ha hJ8 id;have hq9:cE (wr.alloc (.cells (eW d).toArray 198)) 0 224 vk (td.map ov):=hq8.below ha.none;clear e0 e1 e2 e3 e4 e5 e6 e7 e8 e9 hW8 hJ8 hq8;generalize wr.alloc _=wa at *;generalize wr.heap.size=Z at *;refine Gg;refine rg 18 (λw'=>Bk w' x.W (mV K x j.at') 164/\Bk w' j.at' (ki {j with med:=p,rt:=rt,todo:=td,v:=vk}) 219/\Bk w' Z (eW d).toArray 198) ⟨bk,bk,bk⟩ (λhH=>?_);refine iU;refine oF;refine tk 12 ?_;refine tk 13 ?_;refine on 14 λK hK=>?_
       go_simp
       skip
       refine oG;clear hK K;refine bV;refine on 15 λK hK=>?_
       refine eS rfl (.tmp 123) (.tmp 127) 217 rfl 0 224 i0 .nilIface 16 underlying217 hi hz0 hz1 hz2 rfl _ _ rM (hq9.drew.alloc _) ⟨wa.drew.heap.size,0,none⟩ 1 (ov (.send d)) rM ((ab (ao wa.drew (.cells #[ov (.send d)] 224) _ rfl)).1 0) rfl Id Ck kn ?_;intro v5 w5 hq5 hg5 ho5;refine zo;have hG5:ag (λi=>(vk).ownBlock=some i) wa w5:=ag.grown (ag.alloc (ag.drew (ag.refl _ wa)) _) hg5 (λk hk _=>hk);refine zn;clear hK K;refine bV;refine tk 16 ?_;refine tk 17 ?_;refine je;clear hK K;obtain⟨T1,T2,T3⟩:=HW.out.todo (j:= {j with med:=p,rt:=rt,todo:=td,v:=vk}) rfl (by have:=HLN.out;dsimp only;omega) (.send d) trivial (wa:=wa.drew.alloc (.cells #[ov (.send d)] 224)) (ha.drew.alloc _) hq5 hg5 ho5;clear n1 n2 n3 hi hz0 hz1 hz2 hq9 hW9 hJ9 hZ hG5 hq5 hg5 hH;generalize w5.setCell _ _=u9 at *;refine dA;case rel=>exact⟨k+1,_,eT,oM,by have h9:=T1;rw[HTK.out]at h9;exact h9,λg hg=>by
        rcases ho5 g hg with q|q
        .exact HV.out g q
        .exact .inr (PI (PI HC.out.size (ha.drew.alloc _).size) q),HC.out.call T3 λi hi q=>by
         rcases q with q|q
         .exact Jb.sub (j:= {j with med:=p,rt:=rt}) rfl i (.inl q)
         .rcases HV.out i q with r|r
          .exact Jb.sub (j:= {j with med:=p,rt:=rt}) rfl i (.inr r)
          .omega⟩
       case measure=>exact di
      .have hk2:k=dl.length:=oM
       subst hk2;refine dg;have hTF:ag x.own w wr:=((HT6.out.call (HGB.out.mono λ_ _ q=>q.elim:ag x.own u2 w1_) λ_ _ q=>q).call HC.out λi hi q=>(HO6.out i q).elim id λh=>by have:=HT3.out.size;omega)
       have hw:=HW.out;rw[List.take_length]at hw;refine⟨_,rfl,?_,hw,λi q=>?_,hTF⟩
       .unfold ue
        rw[HI.out,HRT.out,HT0.out,HR1.out,if_pos ⟨rfl,of_decide_eq_true HF.out⟩,if_neg hk'];exact⟨dl,vk,HD6.out,rfl⟩
       .rcases SJ.own (x:= {x with came:=pI x.came p.ssrc t1,now:=some {j with med:=p,rt:=rt}}) (j:= {j with med:=p,rt:=rt}) rfl HV.out i q with r|r
        .exact(HO6.out i r).imp id λh=>PI HT3.out.size h
        .exact .inr (PI (PI HT6.out.size HGB.out.size) r)
  .have hends:∀wd,ag af wc wd->∀w',ag (λi=>i=x.W) wd w'->w'.heap[x.W]?=OC (mV K {x with c0:=x.c0,c1:=wrap64 (x.c1+1),c2:=x.c2,c3:=x.c3,c4:=x.c4} j.at') 164->QF w N M K x j p (.returned (.tuple #[])) w':=λwd hd w' hc hb=>by
    refine⟨_,rfl,?_,((HX.out.below hd.none).cntJ hn (x.c0,wrap64 (x.c1+1),x.c2,x.c3,x.c4) hc hb).mono,λi q=> .inl q,?_⟩
    .unfold ue
     rw[HI.out,HRT.out,if_neg];exact λq=>hcs ⟨q.1,HF.out ▸ decide_eq_true q.2⟩
    .exact(((HGW.out.trans hd).mono λ_ _ q=>q.elim:ag x.own w wd)).trans (hc.mono λi _ e=> .inl e)
   have HE:=OH hends;have h3:is=false\/is=true/\b1=false:=by
    cases is
    .exact jm
    .cases b1
     .exact .inr ⟨rfl,rfl⟩
     .exact absurd ⟨rfl,rfl⟩ hcs
   clear hends hcs;rcases h3 with rfl|⟨rfl,rfl⟩;all_goals
    try(have g2:(rt.shard !=(x.sh:Int))=true:=by simp[bne,g1])
    refine rg 10 (λw'=>Bk w' V (kE rt).toArray 203/\Bk w' x.W (mV K x j.at') 164) ⟨bk,bk⟩ (λhH=>?_);refine tg 0 ?_;refine tg 1 ?_;refine tg 2 ?_;refine tg 3 ?_;refine tg 4 ?_;refine tg 5 ?_;refine tg 6 ?_;refine tg 7 ?_;refine tg 8 ?_;refine tg 9 ?_;refine la (λK hK=>?_);go_simp;refine hK.out _ _ ?_;clear hK K;have hcd:ag af wc wc.drew:=bu;have hW0:=ae hcd hW0 id;generalize wc.drew=wd at *;have HC:=OH hcd;clear hcd;obtain⟨cW,fW,zW⟩:=ab hW0;clear hV hp0 hJ0;go_wp2_with fail;go_end0;exact HE.out wd HC.out _ bu bZ
end
namespace Na
theorem info51:(prog.info? 51).map (λi=>(i.zero,i.size,i.bytes))=some (some (JS 0),1,2):=kM
theorem List_any(A:Option Addr)(len cap:Nat)(ps:List (Int×Int))(w:World)(hlen:ps.length=len)(hl:len<=1000000)(hp:pg w A .u16 ps)(hr:∀p∈ps,0<=p.1/\p.1<65536/\0<=p.2/\p.2<65536) :
  az 178 #[.slice A len cap] w λe w'=>∃v,e=aA v/\w'.ownsRow w.heap.size 51 1 v (dL ps).length ((dL ps).map (Xb1 .u16))/\aC w w':=by
 subst hlen;obtain⟨i0,hi,hz0,hz1,hz2⟩:=info_parts info51;refine ml;refine nL;go_enter func178,ntmps178;refine ay;go_loopw [3,9] (λv i wr=>∃k:Nat,k<=ps.length/\i=JI k/\wr.ownsRow w.heap.size 51 1 v (dL (ps.take k)).length ((dL (ps.take k)).map (Xb1 .u16))/\aC w wr) (λ_ i _=>ps.length- (intOf i).toNat);case atStart=>exact⟨0,oM,rfl,by simpa[dL]using Xb4 _ _ _ _,gM⟩
 case round=>
  refine EO;by_cases hlt:k<ps.length
  .obtain⟨b,o,rfl,hb,q0,q1⟩:=HP.out k hlt
   have hpm:=HR.out (ps.getD k (0,0)) Kh;have hst:=OH (Da ps k hlt);have hln:=xL (ps.take k);have hln2:(ps.take k).length<=1000000:=xM;generalize ps.getD k (0,0)=pk at *;obtain⟨p,m⟩:=pk;dsimp only at q0 q1 hpm;obtain⟨p0,p1,m0,m1⟩:=hpm;replace q0:=(hB.cell (p:=⟨b,o+k*2,none⟩) hb).trans q0;replace q1:=(hB.cell (p:=⟨b,o+k*2+1,none⟩) hb).trans q1;have hbr:=Nat.lt_of_lt_of_le hb hB.size;generalize hL:dL (List.take k ps)=L at *;go_wp2_with (first
    |(at_builtin;refine wpList_append_own _ rfl (.tmp 13) (.tmp 16) 59 rfl w.heap.size 51 i0 (JS 0) 1 2 underlying59 hi hz0 hz1 hz2 rfl dM _ _ _ rfl ((hown.alloc _).alloc _) ⟨wr.heap.size+1,0,none⟩ 1 1 [JS p] rfl rfl mf oe If Ie Ia ?_;intro v1 w1 hown1 hgrow1 _))
   have z0:=hB.size;have h0:w1.heap[wr.heap.size]?=OC #[JS p,JS m] 209:=aV (t:=209) ((hown.alloc _).alloc _) hgrow1 gD dM;have hB1:aC w w1:=bq gM xM ((hown.alloc _).alloc _) hgrow1;go_loopw [3,18] (λv i wx=>∃j:Nat,j<=16/\i=JS j/\wx.ownsRow w.heap.size 51 1 v (L++p::jd p m j).length ((L++p::jd p m j).map (Xb1 .u16))/\wx.heap[wr.heap.size]?=OC #[JS p,JS m] 209/\aC w wx) (λ_ i _=>16- (intOf i).toNat);case atStart=>exact⟨0,oM,rfl,by simpa[jd]using hown1,h0,hB1⟩
   case round=>
    obtain⟨j,hj,rfl,hown,h0,hB⟩:=hrel;obtain⟨c0,f0,z1⟩:=ab h0;by_cases hjt:j<16
    .have hbl:=o8 p m j
     have hq:0<=m / 2 ^ j/\m / 2 ^ j<65536:=by have h1:(0:Int)<2 ^ j:=Int.pow_pos dM;exact⟨Int.ediv_nonneg m0 oM,Int.lt_of_le_of_lt (Int.ediv_le_self _ m0) m1⟩
     have hand:=OH (B7 _ hq.1 hq.2);by_cases hbit:m / 2 ^ j % 2=1
     .have ht:(bits BinOp.and Xb3 (m / 2 ^ j) 1==1)=true:=by rw[hand.out,hbit];rfl
      go_wp2_with (first
       |(at_builtin;refine wpList_append_own _ rfl (.tmp 27) (.tmp 33) 59 rfl w.heap.size 51 i0 (JS 0) 1 2 underlying59 hi hz0 hz1 hz2 rfl dM _ _ _ rfl (hown.alloc _) ⟨wr.heap.size,0,none⟩ 1 1 [JS (Xb3.wrap (Xb3.wrap (p+j)+1))] rfl rfl mf oe If Ie Ia ?_;intro v2 w2 hown1 hgrow1 _))
      have hB2:aC w w2:=bq gM Ia (hown.alloc _) hgrow1;have h2:=aV (t:=209) (hown.alloc _) hgrow1 (ai h0) dM;have ev:Xb3.wrap (Xb3.wrap (p+j)+1)=(p+j+1) % 65536:=by simp only[jS];omega
      rw[ev]at hown1;have hown3:w2.ownsRow w.heap.size 51 1 v2 (L++p::jd p m (j+1)).length ((L++p::jd p m (j+1)).map (Xb1 .u16)):=by simpa[jd,hbit,Nat.add_assoc]using hown1
      go_roundw;case rel=>exact⟨j+1,oM,eT,hown3,h2,hB2⟩
      case measure=>exact di
     .have ht:(bits BinOp.and Xb3 (m / 2 ^ j) 1==1)=false:=by rw[hand.out];simpa using hbit
      refine dA;case rel=>exact⟨j+1,oM,eT,by simpa[jd,hbit]using hown,h0,hB⟩
      case measure=>exact di
    .have hj16:j=16:=oM
     subst hj16;refine dA;case rel=>exact⟨k+1,oM,eT,by rw[hst.out];exact hown,hB⟩
     case measure=>exact di
  .have hkl:k=ps.length:=oM
   refine mq;exact qB
end Na
def yF(j:Jb)(th:Th):Prop:=th.ok/\∃t,j.tb=some t/\th.d∈t.ds
abbrev ri(x:Wk)(j:Jb)(td:List Th)(v:Value):Wk:= {x with now:=some {j with todo:=td,v:=v}}
def QD(w:World)(N:Nat)(M:Nat->Prop)(K:Kw)(x:Wk)(j:Jb)(n:Nat)(e:Ending)(w':World):Prop:=
 ∃ (l:List Th) (vk:Value),e=aA (.tuple #[])/\(∀th∈l,yF j th)/\l.length<=n/\aL w' N M K (ri x j (j.todo++l) vk)/\(∀g,vk.ownBlock=some g->j.v.ownBlock=some g\/w.heap.size<=g)/\ag x.own w w'
def TJ(u:World)(N:Nat)(M:Nat->Prop)(K:Kw)(x:Wk)(j:Jb)(n c:Nat)(i:Value)(wr:World):Prop:=∃ (k:Nat) (l:List Th) (vk:Value),i=JI k/\k<=n/\(∀th∈l,yF j th)/\l.length<=k*c/\aL wr N M K (ri x j (j.todo++l) vk)/\(∀g,vk.ownBlock=some g->j.v.ownBlock=some g\/u.heap.size<=g)/\ag x.own u wr
section
variable {w w' u wr:World}{N:Nat}{M:Nat->Prop}{K:Kw}{x:Wk}{j:Jb}
theorem Gp(hn:x.now=some j):ri x j (j.todo++ []) j.v=x:=by cases x;cases hn;simp[ri]
theorem QD.same(h:aL w N M K x)(hn:x.now=some j)(hb:ag af w w'):QD w N M K x j n (.returned (.tuple #[])) w':=
 ⟨[],j.v,rfl,sM,sM,by rw[Gp hn];exact h.below hb.none,λg hg=> .inl hg,hb.mono λ_ _ q=>q.elim⟩
theorem TJ.start(h:aL w N M K x)(hn:x.now=some j):TJ w N M K x j n c (JI 0) w:=
 ⟨0,[],j.v,rfl,Xa1 _,sM,sM,by rw[Gp hn];exact h,λg hg=> .inl hg,ag.refl _ _⟩
theorem TJ.step{l l2:List Th}(hn:x.now=some j)(hk:k<n)(hg:∀th∈l,yF j th)(hl:l.length<=k*c)(hv:∀g,vk.ownBlock=some g->j.v.ownBlock=some g\/u.heap.size<=g)(hc:ag x.own u wr)(hg2:∀th∈l2,yF j th)(hl2:l2.length<=c)(hw:aL w' N M K (ri x j ((j.todo++l)++l2) v5))(hc2:ag (ri x j (j.todo++l) vk).own wr w')(ho:∀g,v5.ownBlock=some g->vk.ownBlock=some g\/wr.heap.size<=g)(hi:i=JI (k+1:Nat)):TJ u N M K x j n c i w':=
 ⟨k+1,l++l2,v5,hi,hk,λth q=>(Xa7.1 q).elim (hg th) (hg2 th),by rw[Xa3,Nat.add_mul];omega,by rw[←Xa6];exact hw,λg q=>(ho g q).elim (hv g) (λr=> .inr (PI hc.size r)),hc.call hc2 λi hi q=>(SJ.own hn hv i q).elim id λr=>oM⟩
theorem TJ.skip{l:List Th}(hn:x.now=some j)(hk:k<n)(hg:∀th∈l,yF j th)(hl:l.length<=k*c)(hw:aL wr N M K (ri x j (j.todo++l) vk))(hv:∀g,vk.ownBlock=some g->j.v.ownBlock=some g\/u.heap.size<=g)(hc:ag x.own u wr)(hb:ag af wr w')(hi:i=JI (k+1:Nat)):TJ u N M K x j n c i w':=
 TJ.step (l2:=[]) hn hk hg hl hv hc sM sM (by rw[Xa9];exact hw.below hb.none) (hb.mono λ_ _ q=>q.elim) (λg q=> .inl q) hi
theorem Jb.sub2{td:List Th}:∀i,({j with todo:=td,v:=vk}:Jb).own i->(ri x j td vk).own i:=Jb.sub (x:=ri x j td vk) rfl
theorem aL.keep{V:Nat}{c:Array Value}(h:aL w N M K x)(hc:ag x.own w w')(hV:w.heap[V]?=OC c t)(ht:t≠164/\t≠246/\t≠157/\t≠219/\t≠224:=by decide):w'.heap[V]?=OC c t:=ae hc hV λq=>h.off (λ_=>id) ht V _ q hV
theorem QD.of{l:List Th}(hb:ag af w u)(hg:∀th∈l,yF j th)(hl:l.length<=n)(hw:aL w' N M K (ri x j (j.todo++l) vk))(hv:∀g,vk.ownBlock=some g->j.v.ownBlock=some g\/u.heap.size<=g)(hc:ag x.own u w'):QD w N M K x j n (.returned (.tuple #[])) w':=
 ⟨l,vk,rfl,hg,hl,hw,λg q=>(hv g q).imp id (PI hb.size),(hb.mono λ_ _ q=>q.elim:ag x.own w u).trans hc⟩
theorem aa4(h:aL w N M K x)(hn:x.now=some j)(s:Int)(h0:0<=s)(h1:s<=4294967295):∃ (d:Dn) (b:Bool),(b=true->∃t,j.tb=some t/\d∈t.ds)/\az 177 #[OV x.W,JT s] w λe w'=>e=aA (.tuple #[tT d,.bool b])/\aC w w':=by
 refine⟨(gd j.tb s).getD l9,SC x j s,λhb=>?_,wown_t h hn s h0 h1⟩;unfold SC at hb;cases hd:gd j.tb s with
 |none=>
  rw[hd]at hb;cases hb
 |some d=>obtain⟨t,e,hm,_⟩:=IA hd;exact⟨t,e,hm⟩
theorem Nk{m:Ms}(h:aL w N M K x)(hn:x.now=some j)(hl:j.todo.length<=900000000)(hm:lL w B m):az 138 #[OV x.W,.agg (kO m)] w (QD w N M K x j 6800):=by
 obtain⟨kd,ss,md,ck,tm,pk,bt,rp,wp,pr,ak,ty⟩:=m;obtain⟨⟨md0,md1⟩,⟨Ar,nr,cr,hr⟩,⟨Aw,nw,cw,hwh⟩,⟨ps,hps,hpl,hpr⟩,⟨qs,has,hal,har⟩⟩:=hm;obtain⟨Ap,cp,hpv⟩:=aj hps;obtain⟨Aa,ca,hav⟩:=aj has;dsimp only at md0 md1 hr hwh hpv hav hps has;subst hr hwh hpv hav;refine bI;refine qf;have HAS:=OH has;have HPR:=OH hpr;have HAR:=OH har;refine qh;have HAL:=OH hal;have HL:=OH hl;have hX:(w.alloc (.cells #[JI kd,JT ss,JT md,JU ck,JT tm,JT pk,JT bt,.slice Ar nr cr,.slice Aw nw cw,.slice Ap ps.length cp,.slice Aa qs.length ca,JW ty] 113)).heap[w.heap.size]?=OC #[JI kd,JT ss,JT md,JU ck,JT tm,JT pk,JT bt,.slice Ar nr cr,.slice Aw nw cw,.slice Ap ps.length cp,.slice Aa qs.length ca,JW ty] 113:=bZ;have hG:ag af w (w.alloc (.cells #[JI kd,JT ss,JT md,JU ck,JT tm,JT pk,JT bt,.slice Ar nr cr,.slice Aw nw cw,.slice Ap ps.length cp,.slice Aa qs.length ca,JW ty] 113)):=bu;go_enter func138,ntmps138;refine kx;have HG:=OH hG;have HU:=OH (H.out.below hG.none);generalize hB0:w.heap.size=X at *;have HB0:=OH hB0;refine qp;refine nQ;by_cases k3:kd=3
 .subst k3
  refine ZU;refine i9;refine XJ;cases bb with
  |false=>
   refine dg;exact .same H.out hn HG4.out
  |true=>
   obtain⟨tb,htb,hmem⟩:=HBB.out rfl;refine ay;refine(Na.List_any Ap ps.length cp ps u4 rfl (by have:=HPL.out;omega) (IU (aX HPS.out HG4.out.none)) (λp hp=>by have:=HPR.out p hp;omega)).mono ?_;rintro r w5 ⟨lv,rfl,hO,hb5⟩;obtain⟨ls,hls⟩:∃l,Na.dL ps=l:=⟨_,rfl⟩
   have hll:=Na.xL ps;have hlm:=Na.listF_mem ps (λp hp=>by have:=HPR.out p hp;omega);rw[hls]at hO hll hlm;have hG5:ag af u4 w5:=.of hb5;have hV5:=ae hG5 hV id;have hX5:=ae hG5 hX4 id;have HO:=OH hO;have HLL:=OH hll;have HLM:=OH hlm;have HG5:=OH (HG4.out.trans hG5);have H5:=OH (H.out.below (HG4.out.trans hG5).none);obtain⟨A5,c5,rfl⟩:=aj HO.out;have hlim:ls.length<=6800:=by have h3:=HLL.out;have h4:=HPL.out;omega
   obtain⟨cX,fX,zX⟩:=ab hX5;refine ay;go_loopw [7,30] (λ_ i wr=>TJ w5 N M K x j ls.length 1 i wr) (λ_ i _=>ls.length- (intOf i).toNat);case atStart=>exact .start H5.out hn
   case round=>
    obtain⟨k,l,vk,rfl,hk,hg,hkl,hw,hv,hc⟩:=hrel;have HW:=OH hw;refine nD;refine nE;have HGD:=OH hg;refine rL;have hlb:(j.todo++l).length<1000000000:=by rw[Xa3];have h1:=HL.out;have h2:=HLL.out;have h3:=HPL.out;omega
    by_cases hlt:k<ls.length
    .obtain⟨g,e0,hg1,hg2,hcl,hfr⟩:=iL (ah HO.out hc (H5.out.off (λ_=>id) (t:=51))) hlt (show 0<1 by decide)
     subst e0;have hk1:(ls.map (Xb1 .u16))[k*1+0]?=some (JS ls[k]):=by simp[hlt]
     rw[hk1,Xa0,Nat.mul_one,Nat.zero_add]at hcl;have hqb:=HLM.out ls[k] qS;generalize ls[k]=q at *;have hjw:=hw.now _ rfl;have hZ:wr.heap[V]?=OC (eW d).toArray 198:=H5.out.keep hc hV5;have hW9:wr.heap[x.W]?=OC (mV K x j.at') 164:=hw.wj (j:= {j with todo:=j.todo++l,v:=vk}) rfl;have hJ9:wr.heap[j.at']?=OC (ki {j with todo:=j.todo++l,v:=vk}) 219:=hjw.jb;have hq9:cE wr 0 224 vk ((j.todo++l).map ov):=hjw.v;obtain⟨td,htd⟩:∃t,j.todo++l=t:=⟨_,rfl⟩
     rw[htd]at hJ9 hq9 hlb HW;have HTD:=OH htd;have HLN:=OH hlb;have ha:=ag.refl af wr;have HFR:=OH hfr;go_upto_region 8 with fail;have hwa:∃wa,wr=wa:=⟨_,rfl⟩
     refine Gg;refine rg 19 (λw'=>Bk w' x.W (mV K x j.at') 164/\Bk w' j.at' (ki {j with todo:=td,v:=vk}) 219/\Bk w' V (eW d).toArray 198) ⟨bk,bk,bk⟩ (λhH=>?_);refine iU;refine oF;refine tk 12 ?_;refine tk 13 ?_;refine tk 14 ?_;refine on 15 λK hK=>?_
     go_simp
     skip
     refine oG;refine bV;refine on 16 λK hK=>?_
     refine eS rfl (.tmp 44) (.tmp 49) 217 rfl 0 224 i0 .nilIface 16 underlying217 hi hz0 hz1 hz2 rfl _ _ rM (hq9.drew.alloc _) ⟨wr.drew.heap.size,0,none⟩ 1 (ov (.again d q)) rM ((ab (ao wr.drew (.cells #[ov (.again d q)] 224) _ rfl)).1 0) rfl Id Ck kn ?_;intro v5 w5_ hq5 hg5 ho5;refine zo;have hG5:ag (λi=>(vk).ownBlock=some i) wr w5_:=ag.grown (ag.alloc (ag.drew (ag.refl _ wr)) _) hg5 (λk hk _=>hk);refine zn;refine bV;refine tk 17 ?_;refine tk 18 ?_;refine je;obtain⟨T1,T2,T3⟩:=HW.out.todo (j:= {j with todo:=td,v:=vk}) rfl QV (.again d q) (show(Th.again d q).ok from⟨hqb.1,by have:=hqb.2;omega⟩) (wa:=wr.drew.alloc (.cells #[ov (.again d q)] 224)) (ha.drew.alloc _) hq5 hg5 ho5;generalize w5_.setCell _ _=u9 at *;refine dA;case rel=>exact TJ.step (l2:=[.again d q]) hn hlt HGD.out HKL.out HV.out HC.out (λth h=>by rw[Xa2.1 h];exact⟨⟨hqb.1,by have:=hqb.2;omega⟩,tb,htb,hmem⟩) sM (by rw[HTD.out];exact T1) Uo (λg hg=>(ho5 g hg).imp id λq=>PI (ha.drew.alloc _).size q) eT
     case measure=>exact di
    .have hk2:k=ls.length:=oM
     refine dg;exact .of HG5.out HGD.out (by have h2:=HKL.out;have h3:=HLL.out;have h4:=HPL.out;omega) HW.out HV.out HC.out
 .by_cases k4:kd=4
  .subst k4
   refine ZU;refine oI;refine XJ;cases bb with
   |false=>
    refine dg;exact .same H.out hn HG4.out
   |true=>
    obtain⟨tb,htb,hmem⟩:=HBB.out rfl;have HU5:=OH (H.out.below HG4.out.none);have hjw:=HU5.out.now j hn;have hW9:u4.heap[x.W]?=OC (mV K x j.at') 164:=HU5.out.wj hn;have hJ9:u4.heap[j.at']?=OC (ki j) 219:=hjw.jb;have hq9:cE u4 0 224 j.v (j.todo.map ov):=hjw.v;have hZ:=hV;have ha:=ag.refl af u4;have HLN:=HL;have HW:=HU5;refine yX;refine Zf
    skip
    refine oG;refine bV;refine on 15 λK hK=>?_
    refine eS rfl (.tmp 74) (.tmp 78) 217 rfl 0 224 i0 .nilIface 16 underlying217 hi hz0 hz1 hz2 rfl _ _ rM (hq9.drew.alloc _) ⟨u4.drew.heap.size,0,none⟩ 1 (ov (.ask d)) rM ((ab Ut).1 0) rfl Id Ck kn ?_;intro v5 w5_ hq5 hg5 ho5;refine zo;have hG5:ag (λi=>(j.v).ownBlock=some i) u4 w5_:=ag.grown (ag.alloc (ag.drew (ag.refl _ u4)) _) hg5 (λk hk _=>hk);refine zn;refine bV;refine zj;refine je;obtain⟨T1,T2,T3⟩:=HW.out.todo (j:=j) hn QV (.ask d) trivial (wa:=u4.drew.alloc (.cells #[ov (.ask d)] 224)) (ha.drew.alloc _) hq5 hg5 ho5;generalize w5_.setCell _ _=u9 at *;refine dg;exact .of (l:=[.ask d]) HG4.out (λth h=>by rw[Xa2.1 h];exact⟨trivial,tb,htb,hmem⟩) sM T1 (λg hg=>(ho5 g hg).imp id λq=>PI (ha.drew.alloc _).size q) (T3.mono λi _=>Jb.sub hn i)
  .by_cases k5:kd=5
   .subst k5
    have hql:qs.length<=400:=HAL.out;refine ay;go_loopw [11,12,13,87] (λ_ _ _ i wr=>TJ u N M K x j qs.length 1 i wr) (λ_ _ _ i _=>qs.length- (intOf i).toNat);case atStart=>exact .start HU.out hn
    case round=>
     obtain⟨k,l,vk,rfl,hk,hg,hkl,hw,hv,hc⟩:=hrel;have HW0:=OH hw;refine nD;refine nE;have HGD:=OH hg;refine rL;have hlb:(j.todo++l).length<1000000000:=by rw[Xa3];have h1:=HL.out;omega
     by_cases hlt:k<qs.length
     .obtain⟨g,e0,hg1,hg2,hg3⟩:=cM (f:=asC) (λ_=>rfl) (ah (aX HAS.out HG.out.none) hc (HU.out.off (λ_=>id) (t:=284))) hlt
      subst e0;obtain⟨e0,e1⟩:=Xb0 (hg3 0 dM) (hg3 1 dM);have hqb:=HAR.out qs[k] qS;generalize qs[k]=q at *;dsimp only[asC,Xa4,Xa5,Xa0]at e0 e1;obtain⟨d,bb,hbb,how⟩:=aa4 (hw.below (show Below _ wr (wr.alloc (.cells (asC q).toArray 284))from ag.none bu)) (j:= {j with todo:=j.todo++l,v:=vk}) rfl q.1 hqb.1 hqb.2;have HBB:=OH hbb;have HOW:=OH how;have hb1:ag af wr (wr.alloc (.cells (asC q).toArray 284)):=bu;have HLB:=OH hlb;refine ay;refine HOW.out.mono ?_;refine rT;have hG4:ag af wr (w2.alloc (.cells (eW d).toArray 198)):=ag.alloc (hb1.next hb2) _;refine VY;go_upto_region 19 with fail;generalize w2.alloc _=u4 at *;generalize w2.heap.size=V at *;have HG4:=OH hG4;cases bb with
      |false=>
       refine dA;case rel=>exact .skip hn hlt HGD.out HKL.out HW0.out HV.out HC.out HG4.out eT
       case measure=>
        exact di
      |true=>
       obtain⟨tb,htb,hmem⟩:=HBB.out rfl;have hw:=HW0.out.below HG4.out.none;have HW:=OH hw;have hjw:=hw.now _ rfl;have hW9:u4.heap[x.W]?=OC (mV K x j.at') 164:=hw.wj (j:= {j with todo:=j.todo++l,v:=vk}) rfl;have hJ9:u4.heap[j.at']?=OC (ki {j with todo:=j.todo++l,v:=vk}) 219:=hjw.jb;have hq9:cE u4 0 224 vk ((j.todo++l).map ov):=hjw.v;have hZ:=hV;have hlb:=HLB.out;obtain⟨td,htd⟩:∃t,j.todo++l=t:=⟨_,rfl⟩
       rw[htd]at hJ9 hq9 hlb HW;have HTD:=OH htd;have HLN:=OH hlb;have ha:=ag.refl af u4;go_upto_region 20 with fail;refine Gg;refine rg 18 (λw'=>Bk w' x.W (mV K x j.at') 164/\Bk w' j.at' (ki {j with todo:=td,v:=vk}) 219/\Bk w' V (eW d).toArray 198) ⟨bk,bk,bk⟩ (λhH=>?_);refine iU;refine oF;refine tk 12 ?_;refine tk 13 ?_;refine on 14 λK hK=>?_
       go_simp
       skip
       refine oG;refine bV;refine on 15 λK hK=>?_
       refine eS rfl (.tmp 109) (.tmp 113) 217 rfl 0 224 i0 .nilIface 16 underlying217 hi hz0 hz1 hz2 rfl _ _ rM (hq9.drew.alloc _) ⟨u4.drew.heap.size,0,none⟩ 1 (ov (.ask d)) rM ((ab Ut).1 0) rfl Id Ck kn ?_;intro v5 w5_ hq5 hg5 ho5;refine zo;have hG5:ag (λi=>(vk).ownBlock=some i) u4 w5_:=ag.grown (ag.alloc (ag.drew (ag.refl _ u4)) _) hg5 (λk hk _=>hk);refine zn;refine bV;refine tk 16 ?_;refine tk 17 ?_;refine je;obtain⟨T1,T2,T3⟩:=HW.out.todo (j:= {j with todo:=td,v:=vk}) rfl QV (.ask d) trivial (wa:=u4.drew.alloc (.cells #[ov (.ask d)] 224)) (ha.drew.alloc _) hq5 hg5 ho5;generalize w5_.setCell _ _=u9 at *;refine dA;case rel=>exact TJ.step (l2:=[.ask d]) hn hlt HGD.out HKL.out HV.out HC.out (λth h=>by rw[Xa2.1 h];exact⟨trivial,tb,htb,hmem⟩) sM (by rw[HTD.out];exact T1) ((HG4.out.mono λ_ _ q=>q.elim:ag (ri x j (j.todo++l) vk).own wr u4).trans Uo) (λg hg=>(ho5 g hg).imp id λq=>PI HG4.out.size (PI (ha.drew.alloc _).size q)) eT
       case measure=>exact di
     .have hk2:k=qs.length:=oM
      refine dg;exact .of HG.out HGD.out (by have h2:=HKL.out;omega) HW0.out HV.out HC.out
   .have e3:(kd==3)=false:=by simpa using k3
    have e4:(kd==4)=false:=by simpa using k4
    have e5:(kd==5)=false:=by simpa using k5
    refine dg;exact .same H.out hn HG.out
end
abbrev rk:Pk:=⟨false,0,0,0,0,none,0,[],none,0,[],none,0,[],0⟩
def lJ(zs:List Int):Prop:=zs.getD 0 0=128/\zs.getD 1 0<128/\12<=zs.length/\zs.length<=1400
def PlP(zs:List Int)(p:Pk):Prop:=p.mark=false/\p.ty<128/\p.cs.length=0/\p.xs.length=0/\p.pad=0/\p.zs=zs.drop 12/\p.ssrc=wy ((zs.drop 8).take 4)
def ParE(w:World)(zs:List Int)(e:Ending)(w':World):Prop:=∃p err,e=aA (.tuple #[.agg (ij p).toArray,JI err])/\(err=0->yC w' p)/\(lJ zs->err=0/\PlP zs p)/\aC w w'
structure PX(w0 w:World)(V c:Nat)(cs:Array Value)(zs:List Int)(e:Int):Prop where
 r:w.heap[w0.heap.size]?=OC (ij rk).toArray 58
 x:w.heap[V]?=OC cs 58
 cut:cu w 0 c zs e
 b:aG zs
 lt:w0.heap.size<V/\w0.heap.size<c
 g:ag af w0 w
section
variable {w0 w w':World}{V c:Nat}{cs cs':Array Value}{zs zs':List Int}{e e':Int}
theorem PX.num(h:PX w0 w V c cs zs e)(k:cu w' 0 c zs' e')(hb:aG zs')(hc:ag (λj=>j=c) w w'):PX w0 w' V c cs zs' e':=
 ⟨ae hc h.r (λq=>by have:=h.lt.2;omega),ae hc h.x (λq=>eK h.cut (show(58:TypeId)≠274 by decide) _ _ q h.x),k,hb,h.lt,h.g.new hc (by have:=h.lt.2;omega)⟩
theorem PX.set(h:PX w0 w V c cs zs e)(i:Nat)(v:Value)(hcs:cs.setIfInBounds i v=cs'):PX w0 (w.setCell ⟨V,i,none⟩ v) V c cs' zs e:=by subst hcs;have hc:ag (λj=>j=V) w (w.setCell ⟨V,i,none⟩ v):=ag.set (S:=λj=>j=V) dp ⟨V,i,none⟩ (.inl rfl) v;exact⟨ae hc h.r (λq=>by have:=h.lt.1;omega),av i v h.x,h.cut.kept hc (λq=>eK h.cut (show(58:TypeId)≠274 by decide) _ _ q.symm h.x) (ci h.x dM),h.b,h.lt,h.g.new hc (by have:=h.lt.1;omega)⟩
theorem PX.chg{S:Nat->Prop}(h:PX w0 w V c cs zs e)(hc:ag S w w')(h1:¬S w0.heap.size)(h2:¬S V)(h3:¬S c)(h5:jF S w)(h6:∀j,j<w0.heap.size->¬S j):PX w0 w' V c cs zs e:=
 ⟨ae hc h.r h1,ae hc h.x h2,h.cut.kept hc h3 h5,h.b,h.lt,h.g.call hc λj hj q=>(h6 j hj q).elim⟩
theorem PX.below(h:PX w0 w V c cs zs e)(hb:aC w w'):PX w0 w' V c cs zs e:=h.chg (S:=af) (.of hb) id id id iF (λ_ _=>id)
theorem PX.drew(h:PX w0 w V c cs zs e):PX w0 w.drew V c cs zs e:=h.below ((ag.refl af w).drew.none)
theorem PX.grown{s:Nat}{v:Value}{xs:List Value}(h:PX w0 w V c cs zs e)(ho:w.ownsRow w0.heap.size t s v k xs)(hg:w.grownBy w' v.ownBlock)(ht:t≠58/\t≠274/\t≠5:=by decide):PX w0 w' V c cs zs e:=by refine ZE;exact h.chg hc (λq=>hT _ q _ _ ht.1 h.r) (λq=>hT _ q _ _ ht.1 h.x) (λq=>hT _ q _ _ ht.2.1 kc) (λj cur q=>hT _ q _ _ ht.2.2) (λj hj q=>by have:=(ho.lt j q).1;omega)
theorem PX.off(h:PX w0 w V c cs zs e)(ht:t≠274):∀j cur,j=c->w.heap[j]?≠OC cur t:=eK h.cut ht
end
theorem mk_pk{wx:World}{X:Nat}{cX:Array Value}(hX:wx.heap[X]?=OC cX 58)(hc:ag (λj=>j=X) wx w')(p:Pk)(n:PkN p)(h1:wx.ownsRow B 52 1 (.slice p.a1 p.cs.length p.c1) p.cs.length (p.cs.map (Xb1 .u32)))(h2:∀z∈p.cs,0<=z/\z<=4294967295)(h3:wx.ownsRow B 287 2 (.slice p.a2 p.xs.length p.c2) p.xs.length (p.xs.flatMap PR))(h4:∀x∈p.xs,uF wx x)(h5:BR wx 0 (.slice p.a3 p.zs.length p.c3) p.zs)(h6:aG p.zs):yC w' p:=by
 have o:∀ {t:TypeId},t≠58->∀j cur,j=X->wx.heap[j]?≠OC cur t:=λht j cur q=>q ▸ au hX (λe=>ht e.symm)
 have ad:∀ {t s n:Nat} {A:Option Addr} {c:Nat} {xs:List Value},w'.ownsRow B t s (.slice A n c) n xs->∀a,A=some a->∃g off,a=⟨g,off,none⟩:=λh a e=>by
  rcases bW h with⟨q,_⟩|⟨g,cap,q,_⟩
  .simp only[Xb2.injEq]at q
   rw[q.1]at e;cases e
  .simp only[Xb2.injEq]at q
   rw[q.1]at e;exact⟨g,0,(Option.some.inj e).symm⟩
 have k1:=ah h1 hc (o dM);have k3:=ah h3 hc (o dM);have ty:∀ {t s n:Nat} {A:Option Addr} {c:Nat} {xs:List Value},w'.ownsRow B t s (.slice A n c) n xs->Tyd w' A n t:=λh _ a e=>by obtain⟨g,off,rfl⟩:=ad h a e;subst e;exact bG h rfl
 exact⟨⟨n,⟨eZ k1,h2,λa e _=>ad k1 a e⟩,⟨eZ k3,rfl,λa e _=>ad k3 a e⟩,λx hx=>(h4 x hx).chg hc (ci hX dM),h5.chg hc (ci hX dM),h6⟩,ty k1,ty k3⟩
theorem IL{cap:Nat}{A:Option Addr}{zs:List Int}(h:BR w B (.slice A zs.length cap) zs)(hb:aG zs)(hl:zs.length<=1000000):az 135 #[.slice A zs.length cap] w (ParE w zs):=by
 refine K4;by_cases hb2:zs.length<=1500;case neg=>
  have f0:((1500:Int)<(zs.length:Nat)):=oM;have f1:decide (1500<zs.length)=true:=by simpa using hb2
  have HL:=OH hb2;go_enter func135,ntmps135;refine ay;refine wY underlying58 ?_;exact⟨rk,13,rfl,λq=>absurd q dM,λq=>absurd q.2.2.2 (by have:=HL.out;omega),ag.none bu⟩
 case pos=>
  have f0:¬((1500:Int)<(zs.length:Nat)):=oM;have f1:decide (1500<zs.length)=false:=by simpa using hb2
  refine Xt;refine mn;refine LO;obtain⟨b1,y1,l1⟩:=dP hb r1;refine MB;obtain⟨b2,y2,l2⟩:=dP b1 r2;obtain⟨x3,z3,e3,r3⟩:∃x z e',bO (z2,e2) 2=(x,z,e'):=⟨_,_,_,rfl⟩
  obtain⟨b3,y3,l3⟩:=dP b2 r3;refine LS;obtain⟨b4,y4,l4⟩:=dP b3 r4;refine LT;obtain⟨b5,y5,l5⟩:=dP b4 r5;simp only[Int.reducePow]at l1 l2 l3 l4 l5;have hpl:lJ zs->e1=0/\x1=128/\x2<128/\e5=0/\z5=zs.drop 12/\x5=wy ((zs.drop 8).take 4):=λ⟨q1,q2,q3,q4⟩=>by
   rw[mY oM]at r1;cases r1;rw[mY xM]at r2;cases r2;rw[mY xM]at r3;cases r3;rw[mY xM]at r4;cases r4;rw[mY xM]at r5;cases r5;match zs,q3 with
   |a::c::r,_=>exact⟨rfl,by simpa[wy]using q1,by simpa[wy]using q2,rfl,sM,sM⟩
  have hlz:z5.length<=1500:=by have:=dI r1;have:=dI r2;have:=dI r3;have:=dI r4;have:=dI r5;omega
  obtain⟨n15,hn15,n15a,-,n15b,-⟩:=yv 15 dM y1 l1;obtain⟨n16,hn16,n16a,-,n16b,-⟩:=yv 16 dM y1 l1;obtain⟨n32,hn32,n32a,-,n32b,-⟩:=yv 32 dM y1 l1;obtain⟨ty,hty,tya,-,-,tyb⟩:=yv 127 dM y2 l2;have hpl:lJ zs->e1=0/\x1=128/\x2<128/\e5=0/\z5=zs.drop 12/\x5=wy ((zs.drop 8).take 4)/\n15=0/\n16=0/\n32=0/\(ty:Int)<128:=λq=>by obtain⟨a1,a2,a3,a4,a5,a6⟩:=hpl q;exact⟨a1,a2,a3,a4,a5,a6,n15b a2,n16b a2,n32b a2,oM⟩
  have HP:=OH hpl;replace hn15:bits .and .u64 x1 15=n15:=hn15;replace hn16:bits .and .u64 x1 16=n16:=hn16;replace hn32:bits .and .u64 x1 32=n32:=hn32;replace hty:bits .and .u64 x2 127=ty:=hty;have hq1:((ty:Nat):Int) % 256=ty:=oM;have hq3:x3 % 65536=x3:=oM;have hq4:x4 % 4294967296=x4:=oM;have hq5:x5 % 4294967296=x5:=oM;obtain⟨bm,hbm⟩:∃b,decide (128<=x2)=b:=⟨_,rfl⟩
  have HBM:=OH hbm;obtain⟨b16,hb16⟩:∃b,decide (0<n16)=b:=⟨_,rfl⟩
  obtain⟨b32,hb32⟩:∃b,decide (0<n32)=b:=⟨_,rfl⟩
  obtain⟨be,hbe⟩:∃b,(e1==0)=b:=⟨_,rfl⟩
  obtain⟨bv,hbv⟩:∃b,(x1 / 64 !=2)=b:=⟨_,rfl⟩
  go_enter func135,ntmps135;refine ay;refine(HNC.out _ jI).mono ?_;rintro r w1 ⟨c,rfl,hcl,hcut,hbl1⟩;have hX0:w1.heap[w.heap.size]?=OC (ij rk).toArray 58:=(hbl1.block _ sM).trans bZ;have HX0:=OH hX0;have hG1:ag af w w1:=ag.next bu hbl1;have hcut0:=yn hcut;simp only[aD]at hcl;have HC:=OH hcut0;refine ay;refine(eu HC.out HB.out 1 dM dM 1 rfl r1).mono ?_;rintro r w2 ⟨rfl,hct2,hc2⟩;have HX2:=OH (ae hc2 HX0.out (λq=>oM));have hG2:=hG1.new hc2 oM;have HC2:=OH hct2;have hx128:x1=128->bv=false:=λq=>by subst q;rw[←hbv];decide
  have HBV:=OH hx128;refine gq;go_cut [30] from 23 to 30 (λs wx=>(∃b,s=.bool b/\(x1=128->b=false))/\wx=w2);case first=>
   refine ay;refine(jV HC2.out).mono ?_;rintro r w2' ⟨rfl,hw2⟩;have hw3:=hw2.symm;subst hw3;cases be;all_goals
    go_wp2_with fail;go_meet;exact⟨⟨_,rfl,λq=>(by first|rfl|exact HBV.out q)⟩,rfl⟩
  rename_i wc0
  obtain⟨⟨b30,rfl,hb30⟩,hwc⟩:=hcut;refine oJ;have HB30:=OH hb30;have hX2:=HX2.out;obtain⟨cX,fX,zX⟩:=ab hX2;cases b30 with
  |true=>
   refine ay;refine wY underlying58 ?_ (h1:=aK (ij rk) hX2 rfl);exact⟨rk,11,rfl,λq=>absurd q dM,λq=>absurd (HB30.out (HP.out q).2.1) dM,(hG2.new J6 fo).none⟩
  |false=>
   refine ay;refine(eu HC2.out b1 1 dM dM 1 rfl r2).mono ?_;rintro r w3 ⟨rfl,hk,hc⟩;have hX3:=ae hc hX2 (λq=>oM);have hG3:=hG2.new hc oM;have hlt3:=aB hX3;have hp0:PX w (w3.alloc (.cells #[.bool bm,JW ty,JS 0,JT 0,JT 0,.slice none 0 0,.slice none 0 0,.slice none 0 0,JI 0] 58)) w3.heap.size c #[.bool bm,JW ty,JS 0,JT 0,JT 0,.slice none 0 0,.slice none 0 0,.slice none 0 0,JI 0] z2 e2:=⟨ai hX3,ao _ _ _ rfl,hk.below jI,b2,⟨hlt3,oM⟩,hG3.alloc _⟩
   have HP0:=OH hp0;refine yY;generalize w3.alloc _=u0 at *;generalize w3.heap.size=V at *;have hVX:=HP0.out.x;refine qx;refine ay;refine(eu HP0.out.cut b2 2 dM dM 2 rfl r3).mono ?_;rintro r w4 ⟨rfl,hk,hc⟩;have HQ1:=OH (HP0.out.num hk b3 hc);have hVX:=HQ1.out.x;refine qx;refine oI;have HP1:=OH (HQ1.out.set 2 (JS x3) (cs':=#[.bool bm,JW ty,JS x3,JT 0,JT 0,.slice none 0 0,.slice none 0 0,.slice none 0 0,JI 0]) rfl);generalize w4.setCell _ _=u1 at *;have hVX:=HP1.out.x;refine qx;refine ay;refine(eu HP1.out.cut b3 4 dM dM 4 rfl r4).mono ?_;rintro r w5 ⟨rfl,hk,hc⟩;have HQ2:=OH (HP1.out.num hk b4 hc);have hVX:=HQ2.out.x;refine qx;refine yX;have HP2:=OH (HQ2.out.set 3 (JT x4) (cs':=#[.bool bm,JW ty,JS x3,JT x4,JT 0,.slice none 0 0,.slice none 0 0,.slice none 0 0,JI 0]) rfl);generalize w5.setCell _ _=u2 at *;have hVX:=HP2.out.x;refine qx;refine ay;refine(eu HP2.out.cut b4 4 dM dM 4 rfl r5).mono ?_;rintro r w6 ⟨rfl,hk,hc⟩;have HQ3:=OH (HP2.out.num hk b5 hc);have hVX:=HQ3.out.x;refine qx;go_upto_region 14 with fail;have HP3:=OH (HQ3.out.set 4 (JT x5) (cs':=#[.bool bm,JW ty,JS x3,JT x4,JT x5,.slice none 0 0,.slice none 0 0,.slice none 0 0,JI 0]) rfl);generalize w6.setCell _ _=u3 at *;have hVX:=HP3.out.x;refine qx;go_upto_region 14 with fail;refine ay;go_loopw [60] (λi wr=>∃ (k:Nat) (A:Option Addr) (cap:Nat) (xs:List Int) (zr:List Int) (er:Int),i=JU k/\k<=n15/\PX w wr V c #[.bool bm,JW ty,JS x3,JT x4,JT x5,.slice A k cap,.slice none 0 0,.slice none 0 0,JI 0] zr er/\zr.length<=1500/\wr.ownsRow w.heap.size 52 1 (.slice A k cap) k (xs.map (Xb1 .u32))/\(∀z∈xs,0<=z/\z<=4294967295)/\(n15=0->er=e5/\zr=z5)) (λi _=>n15- (intOf i).toNat);case atStart=>exact⟨0,none,0,[],z5,e5,rfl,oM,HP3.out,hlz,Xb4 _ _ _ _,sM,λ_=>⟨rfl,rfl⟩⟩
   case round=>
    obtain⟨k,A1,cap1,xs,zr,er,rfl,hk,hpx,hzl,hown,hxb,hpl0⟩:=hrel;have H0:=OH hpx;refine my;have HXB:=OH hxb;have HPL:=OH hpl0;have hVX:=hpx.x;refine qx;by_cases hlt:k<n15
    .obtain⟨x6,z6,e6,r6⟩:∃x z e',bO (zr,er) 4=(x,z,e'):=⟨_,_,_,rfl⟩
     obtain⟨b6,y6,l6⟩:=dP H0.out.b r6;simp only[Int.reducePow]at l6;have hq6:x6 % 4294967296=x6:=oM;have hq6':IntKind.u32.wrap x6=x6:=qe
     have hGs:=H0.out.g.size;go_upto_region 16 with fail;refine rg 10 (λw'=>Bk w' V #[.bool bm,JW ty,JS x3,JT x4,JT x5,.slice A1 k cap1,.slice none 0 0,.slice none 0 0,JI 0] 58) bk (λhH=>?_);refine tk 0 ?_;refine tk 1 ?_;refine tk 2 ?_;refine tk 3 ?_;refine on 4 λK hK=>?_
     go_simp;refine(eu H0.out.drew.cut H0.out.b 4 dM dM 4 rfl r6).mono ?_;rintro r w1q ⟨rfl,hk1,hc1⟩;have H1:=OH (H0.out.drew.num hk1 b6 hc1);have hVX:=H1.out.x;have HO1:=OH (ah HO.out ((ag.refl (λj=>j=c) wr).drew.call hc1 (λj _ q=>q)) (H0.out.off dM));have hZ1:=hc1.size;refine hK.out _ _ bk (λhH=>?_);refine bV;refine tk 5 ?_;refine on 6 λK hK=>?_
     go_simp
     skip
     refine hK.out _ _ bk (λhH=>?_);refine bV;refine on 7 λK hK=>?_
     refine step_append_lies _ rM _ _ _ rM w.heap.size 52 i0 _ 1 4 underlying48 hi hz0 hz1 hz2 rfl oM _ _ _ rM (HO1.out.alloc _) ⟨w1q.heap.size,0,none⟩ 1 1 [JT x6] rM rM (World.news_of_block (cs:=#[JT x6]) (t:=52) (fr:=(0,0)) bZ) nz oM lM oM (by(try simp only[aD,bE]);simp only[bE]at hZ1;omega) _ rfl ?_;intro g5 cap5 w5 hown5 hgrow5 hat5 hlt5;have h5:=(H1.out.below jI).grown (HO1.out.alloc _) hgrow5;have hVX:=h5.x;refine hK.out _ _ bk (λhH=>?_);refine bV;refine tk 8 ?_;refine tk 9 ?_;refine je;have g8:=h5.set 5 (.slice (aT g5) (k+1) cap5) (cs':=#[.bool bm,JW ty,JS x3,JT x4,JT x5,.slice (aT g5) (k+1) cap5,.slice none 0 0,.slice none 0 0,JI 0]) rfl;have HR8:=OH g8;have HO9:=OH (show(w5.setCell ⟨V,5,none⟩ (.slice (aT g5) (k+1) cap5)).ownsRow w.heap.size 52 1 (.slice (aT g5) (k+1) cap5) (k+1) _ from aU (a:=⟨V,5,none⟩) hown5 h5.x dM);have hz6:=dI r6;generalize w5.setCell _ _=u9 at *;refine dA;case rel=>exact⟨k+1,_,_,xs++ [x6],z6,e6,eT,oM,HR8.out,oM,by rw[Xa8];exact HO9.out,λz hz=>(Xa7.1 hz).elim (HXB.out z) (λq=>by rw[Xa2.1 q];omega),λq=>oM⟩
     case measure=>exact di
    .have hkn:k=n15:=oM
     subst hkn;have hxl:xs.length=k:=by have:=HO.out.1;exact ia
     have HXL:=OH hxl;have f16:decide (0<n16)=b16:=hb16;have g16:decide ((0:Int)<(n16:Nat))=b16:=by rw[←hb16,decide_eq_decide];omega
     go_upto_if 75 with fail;go_cut [11] from 76 to 103 (λs wx=>∃ (A2:Option Addr) (c2:Nat) (l:List Ex) (zr':List Int) (er':Int),PX w wx V c #[.bool bm,JW ty,JS x3,JT x4,JT x5,.slice A1 k cap1,.slice A2 l.length c2,.slice none 0 0,JI 0] zr' er'/\zr'.length<=1500/\wx.ownsRow w.heap.size 52 1 (.slice A1 k cap1) k (xs.map (Xb1 .u32))/\wx.ownsRow w.heap.size 287 2 (.slice A2 l.length c2) l.length (l.flatMap PR)/\l.length<=14/\(∀x∈l,uF wx x)/\(n16=0->l.length=0/\er'=er/\zr'=zr));case first=>
      cases b16 with
      |false=>
       refine dr;exact⟨none,0,[],zr,er,H0.out,hzl,HO.out,Xb4 _ _ _ _,sM,sM,λ_=>⟨rfl,rfl,rfl⟩⟩
      |true=>
       have HN16:=OH (show n16≠0 by have:=of_decide_eq_true hb16;omega);obtain⟨x7,z7,e7,r7⟩:∃x z e',bO (zr,er) 2=(x,z,e'):=⟨_,_,_,rfl⟩
       obtain⟨b7,y7,l7⟩:=dP H0.out.b r7;obtain⟨x8,z8,e8,r8⟩:∃x z e',bO (z7,e7) 2=(x,z,e'):=⟨_,_,_,rfl⟩
       obtain⟨b8,y8,l8⟩:=dP b7 r8;simp only[Int.reducePow]at l7 l8;have hq7:x7 % 65536=x7:=oM;have hz7:=dI r7;have hz8:=dI r8;refine ay;refine(eu H0.out.cut H0.out.b 2 dM dM 2 rfl r7).mono ?_;rintro r w6 ⟨rfl,hk6,hc6⟩;have H1:=OH (H0.out.num hk6 b7 hc6);have HO1:=OH (ah HO.out hc6 (H0.out.off dM));refine ay;refine(eu H1.out.cut H1.out.b 2 dM dM 2 rfl r8).mono ?_;rintro r w7 ⟨rfl,hk7,hc7⟩;have H2:=OH (H1.out.num hk7 b8 hc7);have HO2:=OH (ah HO1.out hc7 (H1.out.off dM));refine ay;refine(o7 H2.out.cut _).mono ?_;rintro r w8 ⟨A9,cap9,xs9,z9,e9,r9,rfl,hv9,hk9,hc9⟩;obtain⟨q1,q2,q3,q4⟩:=np H2.out.b r9;have H3:=OH (H2.out.num hk9 q2 hc9);have HO3:=OH (ah HO2.out hc9 (H2.out.off dM));have HV9:=OH hv9;obtain⟨be9,hbe9⟩:∃b,(e9==0)=b:=⟨_,rfl⟩
       have gbe9:(e9 !=0)=!be9:=by rw[bne,hbe9]
       have hX3:=H3.out.r;obtain⟨cX,fX,zX⟩:=ab hX3;refine ay;refine(jV H3.out.cut).mono ?_;refine AB;cases be9 with
       |false=>
        have HE9:=OH hbe9;refine ay;refine wY underlying58 ?_ (h1:=aK (ij rk) hX3 rfl);exact⟨rk,e9,rfl,λq=>(by have:=HE9.out;simp[q]at this),λq=>absurd (HP.out q).2.2.2.2.2.2.2.1 HN16.out,(H3.out.g.new J6 fo).none⟩
       |true=>
        have he9:e9=0:=by simpa using hbe9
        have hx9:xs9.length<=1500:=by obtain⟨-,a2,a3,a4,-⟩:=q4 he9;omega
        have HQ1:=OH q1;refine ay;refine(Jw HV9.out HQ1.out hx9).mono ?_;rintro r w10 ⟨hb10,A10,n10,cap10,err10,rfl,hl10⟩;have H4:=OH (H3.out.below hb10);have HO4:=OH (aX HO3.out hb10);have hgs3:=H3.out.g.size;have hX4:=H4.out.r;obtain⟨cX,fX,zX⟩:=ab hX4;have hV4:=H4.out.x;obtain⟨cV,fV,zV⟩:=ab hV4;have HL10:=OH hl10;obtain⟨bea,hbea⟩:∃b,(err10==0)=b:=⟨_,rfl⟩
        have gbea:(err10 !=0)=!bea:=by rw[bne,hbea]
        cases bea with
        |false=>
         have HEA:=OH hbea;refine ay;refine wY underlying58 ?_ (h1:=aK (ij rk) hX4 rfl);exact⟨rk,err10,rfl,λq=>(by have:=HEA.out;simp[q]at this),λq=>absurd (HP.out q).2.2.2.2.2.2.2.1 HN16.out,(H4.out.g.new J6 fo).none⟩
        |true=>obtain⟨l,hln,hl14,hlo,hlx⟩:=HL10.out (by simpa using hbea);subst hln;have HLO:=OH hlo;have HLX:=OH hlx;refine dr;have hcs:ag (λj=>j=V) w10 (w10.setCell ⟨V,6,none⟩ (.slice A10 l.length cap10)):=ag.set (S:=λj=>j=V) dp ⟨V,6,none⟩ (.inl rfl) _;exact⟨A10,cap10,l,z9,e9,H4.out.set 6 _ rfl,oM,ah HO4.out hcs (λj cur q=>q ▸ au hV4 dM),aW (ah HLO.out hcs (λj cur q=>q ▸ au hV4 dM)) hgs3,hl14,λx hx=>(HLX.out x hx).chg hcs (ci hV4 dM),λq=>absurd q HN16.out⟩
     case rest=>
      obtain⟨A2,c2,l,z11,e11,hpx,hz11,ho52,ho287,hl14,hlx,hpl16⟩:=hcut;have H5:=OH hpx;have HO5:=OH ho52;have HE5:=OH ho287;have HX5:=OH hlx;have HP5:=OH hpl16;generalize hwo:wc=wo at *;have hX5:=H5.out.r;obtain⟨cX,fX,zX⟩:=ab hX5;obtain⟨beb,hbeb⟩:∃b,(e11==0)=b:=⟨_,rfl⟩
      have gbeb:(e11 !=0)=!beb:=by rw[bne,hbeb]
      refine ay;refine(jV H5.out.cut).mono ?_;refine AB;cases beb with
      |false=>
       have HE9:=OH hbeb;refine ay;refine wY underlying58 ?_ (h1:=aK (ij rk) hX5 rfl);exact⟨rk,e11,rfl,λq=>(by have:=HE9.out;simp[q]at this),λq=>(by
        obtain⟨a1,a2,a3,a4,a5,a6,a7,a8,a9,a10⟩:=HP.out q;have:=HE9.out;rw[(HP5.out a8).2.1,(HPL.out a7).1,a4]at this;exact absurd this dM),(H5.out.g.new J6 fo).none⟩
      |true=>
       have he11:e11=0:=by simpa using hbeb
       subst he11;have hbf:gJ (z11,0) (z11.length:Int)=(z11,[],0):=by unfold gJ;simp
       refine ay;refine(mK H5.out.cut).mono ?_;refine AB;refine ay;refine(o7 H5.out.cut _).mono ?_;rintro r w12 ⟨A12,cap12,xs12,z12,e12,r12,rfl,hv12,hk12,hc12⟩;rw[hbf]at r12;cases r12;have HB11:=OH H5.out.b;have H6:=OH (H5.out.num hk12 (λz hz=>absurd hz sM) hc12);have HO6:=OH (ah HO5.out hc12 (H5.out.off dM));have HE6:=OH (ah HE5.out hc12 (H5.out.off dM));have HX6:=OH (λx hx=>(HX5.out x hx).chg hc12 (kV H5.out.cut));have HV12:=OH hv12;have hV6:=H6.out.x;obtain⟨cV,fV,zV⟩:=ab hV6;go_upto_region 32 with fail;have hcs:ag (λj=>j=V) w12 (w12.setCell ⟨V,7,none⟩ (.slice A12 z11.length cap12)):=ag.set (S:=λj=>j=V) dp ⟨V,7,none⟩ (.inl rfl) _;have H7:=OH (H6.out.set 7 (.slice A12 z11.length cap12) (cs':=#[.bool bm,JW ty,JS x3,JT x4,JT x5,.slice A1 k cap1,.slice A2 l.length c2,.slice A12 z11.length cap12,JI 0]) rfl);have HO7:=OH (ah HO6.out hcs (λj cur q=>q ▸ au hV6 dM));have HE7:=OH (ah HE6.out hcs (λj cur q=>q ▸ au hV6 dM));have HX7:=OH (λx hx=>(HX6.out x hx).chg hcs (ci hV6 dM));have HV13:=OH (HV12.out.chg hcs (ci hV6 dM));generalize w12.setCell _ _=u12 at *;have hV7:=H7.out.x;have hX7:=H7.out.r;obtain⟨cV,fV,zV⟩:=ab hV7;obtain⟨cX,fX,zX⟩:=ab hX7;have f32:decide (0<n32)=b32:=hb32;have g32:decide ((0:Int)<(n32:Nat))=b32:=by rw[←hb32,decide_eq_decide];omega
       cases b32 with
       |false=>
        refine ay;refine wY underlying58 ?_ (h1:=aK [.bool bm,JW ty,JS x3,JT x4,JT x5,.slice A1 k cap1,.slice A2 l.length c2,.slice A12 z11.length cap12,JI 0] hX7 rfl);have hxl:=HXL.out;subst hxl;have hcr:=ax (S:=λj=>j=w.heap.size) (.inl rfl) [.bool bm,JW ty,JS x3,JT x4,JT x5,.slice A1 xs.length cap1,.slice A2 l.length c2,.slice A12 z11.length cap12,JI 0] u12 0 dp;exact⟨⟨bm,ty,x3,x4,x5,A1,cap1,xs,A2,c2,l,A12,cap12,z11,0⟩,0,rfl,λ_=>mk_pk hX7 hcr _ ⟨gY,gY,gY,gY,gY,gY,hz11,gY⟩ HO7.out HXB.out HE7.out HX7.out HV13.out HB11.out,λq=>(by
         obtain⟨a1,a2,a3,a4,a5,a6,a7,a8,a9,a10⟩:=HP.out q;exact⟨rfl,by rw[←HBM.out];exact decide_eq_false oM,a10,a7,(HP5.out a8).1,rfl,by rw[(HP5.out a8).2.2,(HPL.out a7).2,a5],a6⟩),(H7.out.g.new hcr fo).none⟩
       |true=>
        have hn32:n32≠0:=by have:=of_decide_eq_true f32;omega
        have HN32:=OH hn32;have hcl:z11.length<=cap12/\cap12<=maxLen:=by obtain⟨A',cap',h1,h2,h3,_⟩:=HV13.out;refine mh;obtain⟨_,_,rfl⟩:=h1;exact⟨h2,h3⟩
        unfold maxLen at hcl;by_cases h0:z11.length=0
        .have e0:(z11.length==0)=true:=by simpa using h0
         have e1':((z11.length:Int)==0)=true:=by simpa using h0
         have H0Z:=OH h0;exact zq97
        .obtain⟨g,off,rfl,c0⟩:=gG HV13.out (j:=z11.length-1) oM
         have b0:=jX HB11.out (j:=z11.length-1) oM;have hhd:=λk hk=>Hq (k:=k) HV13.out hk
         have HHD:=OH hhd;obtain⟨m,hm⟩:∃m,z11.length=m+1:=⟨z11.length-1,oM⟩
         obtain⟨y,hy⟩:∃y:Nat,z11.getD (z11.length-1) 0=y:=⟨(z11.getD (z11.length-1) 0).toNat,oM⟩
         rw[hy]at c0 b0;rw[hm]at c0 hcl;have c0':u12.cell? ⟨g,off+m,none⟩=some (JW y):=c0;have e0:(m+1==0)=false:=sM;have e1':(((m+1:Nat):Int)==0)=false:=xM;have e2:((m:Int)+1==0)=false:=xM;have i1:((m+1:Nat):Int)-1=m:=oM;have i2:(m:Int)<((m+1:Nat):Int):=oM;have i3:(m:Int)+1-1=m:=oM;obtain⟨bz,hbz⟩:∃b,(y==0)=b:=⟨_,rfl⟩
         have gbz:((y:Int)==0)=bz:=by rw[←hbz,Bool.eq_iff_iff];simp
         obtain⟨bg,hbg⟩:∃b,decide (m+1<y)=b:=⟨_,rfl⟩
         have gbg:decide (((m+1:Nat):Int)<(y:Nat))=bg:=by rw[←hbg,decide_eq_decide];omega
         have gbg2:decide ((m:Int)+1<(y:Nat))=bg:=by rw[←hbg,decide_eq_decide];omega
         refine nH;have hVX7:u12.heap[V]?=OC #[.bool bm,JW ty,JS x3,JT x4,JT x5,.slice A1 k cap1,.slice A2 l.length c2,.slice (some ⟨g,off,none⟩) (m+1) cap12,JI 0] 58:=by rw[←hm];exact hV7
         rw[hm];obtain⟨cV,fV,zV⟩:=ab hVX7;cases bz with
         |true=>
          exact zq97
         |false=>
          cases bg with
          |true=>
           exact zq97
          |false=>
           have hyl:y<=m+1:=by have:=of_decide_eq_false hbg;omega
           have hcs:ag (λj=>j=V) u12 ((u12.setCell ⟨V,8,none⟩ (JI y)).setCell ⟨V,7,none⟩ (.slice (some ⟨g,off,none⟩) (m+1-y) cap12)):=(ag.set (S:=λj=>j=V) dp ⟨V,8,none⟩ (.inl rfl) _).set ⟨V,7,none⟩ (.inl rfl) _;have H8:=OH ((H7.out.set 8 (JI y) rfl).set 7 (.slice (some ⟨g,off,none⟩) (m+1-y) cap12) rfl);have HCS:=OH hcs;refine ay;have hX8:=H8.out.r;refine wY underlying58 ?_ (h1:=aK [.bool bm,JW ty,JS x3,JT x4,JT x5,.slice A1 k cap1,.slice A2 l.length c2,.slice (some ⟨g,off,none⟩) (m+1-y) cap12,JI y] hX8 rfl);have hxl:=HXL.out;subst hxl;have hcr:=ax (S:=λj=>j=w.heap.size) (.inl rfl) [.bool bm,JW ty,JS x3,JT x4,JT x5,.slice A1 xs.length cap1,.slice A2 l.length c2,.slice (some ⟨g,off,none⟩) (m+1-y) cap12,JI y] _ 0 (ag.refl _ ((u12.setCell ⟨V,8,none⟩ (JI y)).setCell ⟨V,7,none⟩ (.slice (some ⟨g,off,none⟩) (m+1-y) cap12)));have e:(z11.take (m+1-y)).length=m+1-y:=by have:=HM.out;simp;omega
           have o:∀ {t:TypeId},t≠58->∀j cur,j=V->u12.heap[j]?≠OC cur t:=λht j cur q=>q ▸ au hVX7 (λe=>ht e.symm)
           exact⟨⟨bm,ty,x3,x4,x5,A1,cap1,xs,A2,c2,l,some ⟨g,off,none⟩,cap12,z11.take (m+1-y),y⟩,0,congrArg (λn:Nat=>Ending.returned (.tuple #[.agg #[.bool bm,JW ty,JS x3,JT x4,JT x5,.slice A1 xs.length cap1,.slice A2 l.length c2,.slice (some ⟨g,off,none⟩) n cap12,JI y],JI 0])) e.symm,λ_=>mk_pk hX8 hcr _ ⟨gY,gY,gY,gY,gY,gY,by dsimp only;have:=HM.out;omega,gY⟩ (ah HO7.out HCS.out (o dM)) HXB.out (ah HE7.out HCS.out (o dM)) (λx hx=>(HX7.out x hx).chg HCS.out (ci hVX7 dM)) (by dsimp only;rw[e];exact(HHD.out _ (by have:=HM.out;omega)).chg HCS.out (ci hVX7 dM)) (HB11.out.take _),λq=>absurd (HP.out q).2.2.2.2.2.2.2.2.1 HN32.out,(H8.out.g.new hcr fo).none⟩
end Go.Proofs.YtnpancjkjheffaaGreat
