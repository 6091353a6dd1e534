/- Part 17 of the proof of TopSafe. No condition. -/
import Derived.Test.YtnpancjkjheffaaGreatP14
namespace Go.Proofs.YtnpancjkjheffaaGreat
set_option linter.unusedVariables false
set_option linter.unusedSimpArgs false
set_option maxRecDepth 100000
set_option maxHeartbeats 8000000
open Go.RowKit
open Go.Proofs.Tryz
open _root_.List renaming length_append->PI,not_mem_nil->Xa0,length_cons->Xa1,nil_append->Xa2,mem_cons->Xa3,getElem?_cons_zero->Xa4,mem_cons_of_mem->Xa5,length_nil->Xa6,map_cons->Xa7
open _root_.Nat renaming le_trans->Xa8,add_zero->Xa9,le_add_right->Xb0,le_refl->Xb1
open Instr renaming typeAssert->Xb2
open _root_.And renaming intro->Xb3
open World renaming ownsRow_nil->Xb4
open Value renaming int->Xb5,slice->Xb6
variable {c:Array Value}{p:Ca}{e:Ending}{live s:Int}{ws:List Pw}{l:List Sl}{rest:List Th}{wt:List Wt}{B BP D L LA LP Mm O R S cap g i n:Nat}{A:Option Addr}{th:Th}{w:World}{dx:oz}
section
variable {w w' u wr:World}{N:Nat}{M:Nat->Prop}{K:Kw}{x x':Wk}{j:Jb}
def Wk.eqv(x y:Wk):Prop:=y.W=x.W/\y.sh=x.sh/\y.Q=x.Q/\y.R=x.R/\y.L=x.L/\y.pk=x.pk/\y.tb=x.tb/\y.nx=x.nx/\y.ph=x.ph/\y.cm=x.cm/\y.am=x.am/\y.c4=x.c4
theorem aL.else{t:TypeId}(h:aL w N M K x)(hL:w.heap[L]?=OC c t)(hM:¬M L)(hc:ag (λi=>i=L) w w')(ht:t≠164/\t≠246/\t≠157/\t≠219/\t≠224/\t≠279/\t≠52/\t≠287/\t≠5:=by decide):aL w' N M K x:=by
 obtain⟨t1,t2,t3,t4,t5,t6,t7,t8,t9⟩:=ht;exact h.kept hc (λi hi e=>by
  subst e;rcases h.own_type hi hL with q|q|q|q|q
  .exact t1 q
  .exact t2 q
  .exact t3 q
  .exact t4 q
  .exact t5 q) (aJ hL t6) (λi hi _ e=>hM (e ▸ hi)) (aJ hL t7) (aJ hL t8) (aJ hL t9)
theorem aL.jset{lk:Bool}{tb:Option Tb}(h:aL w N M K x)(hn:x.now=some j)(ht:gj w M tb)(hc:ag (λi=>i=j.at') w w')(hb:w'.heap[j.at']?=OC (ki {j with looks:=lk,tb:=tb}) 219) :
  aL w' N M K {x with now:=some {j with looks:=lk,tb:=tb}}:=by
 have hJ:=h.now j hn;have hj:ag j.own w w':=hc.mono λi _ e=> .inl e
 exact(h.job (j':= {j with looks:=lk,tb:=tb}) hn rfl hj ⟨hb,hJ.z.chg hj (h.far5 nZ),hJ.b,hJ.l,h.tb' nZ hj ht,hJ.m.chg hj (h.off nZ) (h.off nZ) (h.far5 nZ),hJ.v.kept λg hg=>hc.block g (hJ.v.block hg).2.1 (λe=>by subst e;obtain⟨_,_,c,k⟩:=hJ.v.block hg;exact au k dM hJ.jb),hJ.q,hJ.tl⟩ λg hg=> .inl hg).1
def wD(w:World)(N:Nat)(M:Nat->Prop)(K:Kw)(x:Wk)(j:Jb)(BP LP:Nat)(ws:List Pw)(wt:List Wt)(e:Ending)(w':World):Prop:=
 e=aA (.tuple #[])/\∃x',x.eqv x'/\aL w' (N+1) M K x'/\(∀i,x'.own i->x.own i\/w.heap.size<=i)/\ag (λi=>x.own i\/i=LP) w w' /\
  ((x'.now=none/\br w' BP K.P LP ws wt/\¬(lJ j.zs/\xQ j.zs=false)) \/
   (∃a s,br w' BP K.P LP (ws.set x.sh ⟨a,a,true⟩) wt/\ws[x.sh]?=some ⟨a,s,false⟩/\∃j',x'.now=some j'/\j'.at'=j.at'/\j'.n=j.n/\j'.looks=true/\j'.tb=x.tb/\(∀th∈j'.todo,yF j' th)/\j'.todo.length<=8000000 /\
    (lJ j.zs->xQ j.zs=false->∃p,PlP j.zs p/\ue {x with now:=some {j with looks:=true,tb:=x.tb}} {j with looks:=true,tb:=x.tb} p x')))
def LkC(w:World)(B:Nat)(zs:List Int)(P:Nat)(s4 s5:Value)(wx:World):Prop:=∃err,s5=JI err/\ag af w wx /\
 (xQ zs=true->err=0->∃ (l:List Ms) (A:Option Addr) (c:Nat),s4=.slice A l.length c/\l.length<=400/\wx.ownsRow B 113 12 (.slice A l.length c) l.length (l.flatMap SP)/\∀m∈l,lL wx B m) /\
 (xQ zs=false->∃p,wx.heap[P]?=OC (ij p).toArray 58/\(err=0->yC wx p)/\(lJ zs->err=0/\PlP zs p))
theorem aL.fin(h:aL w N M K x)(c:Int×Int×Int×Int×Int)(hc:ag (λi=>i=x.W) w w')(hb:w'.heap[x.W]?=OC (ou K {x with now:=none,c0:=c.1,c1:=c.2.1,c2:=c.2.2.1,c3:=c.2.2.2.1,c4:=c.2.2.2.2}) 164) :
  aL w' N M K {x with now:=none,c0:=c.1,c1:=c.2.1,c2:=c.2.2.1,c3:=c.2.2.2.1,c4:=c.2.2.2.2}/\∀i,({x with now:=none,c0:=c.1,c1:=c.2.1,c2:=c.2.2.1,c3:=c.2.2.2.1,c4:=c.2.2.2.2}:Wk).own i->x.own i:=by
 refine Fk;have ho:∀i,({x with now:=none,c0:=c.1,c1:=c.2.1,c2:=c.2.2.1,c3:=c.2.2.2.1,c4:=c.2.2.2.2}:Wk).own i->x.own i:=λi q=>by
  rcases q with q|q|q|q|q|⟨y,hy,_⟩
  .exact .inl q
  .exact .inr (.inl q)
  .exact .inr (.inr (.inl q))
  .exact .inr (.inr (.inr (.inl q)))
  .exact .inr (.inr (.inr (.inr (.inl q))))
  .cases hy
 refine fK;exact⟨⟨hb,QW,h.pk' hS hc,h.tb' hS hc h.tb,h.tb' hS hc h.nx,(λj hj=>by cases hj),h.cm.chg hc (λe=>h.cm.ne h.wb e),h.cb,h.am.chg hc (λe=>h.am.ne h.wb e),h.ne,h.sh,h.mo' hc λi q=> .inl (ho i q)⟩,ho⟩
theorem xB{j':Jb}(hn:x.now=some j)(h1:j'.at'=j.at')(h2:j'.v=j.v):∀i,({x with now:=some j'}:Wk).own i->x.own i:=λi q=>by
 rcases q with q|q|q|q|q|⟨y,hy,q⟩
 .exact .inl q
 .exact .inr (.inl q)
 .exact .inr (.inr (.inl q))
 .exact .inr (.inr (.inr (.inl q)))
 .exact .inr (.inr (.inr (.inr (.inl q))))
 .refine Al
  rw[h1,h2]at q;exact Jb.sub hn i q
theorem ue.facts{p:Pk}(hn:x.now=some j)(ht:j.todo=[])(h:ue x j p x'):x.eqv x'/\∃j',x'.now=some j'/\j'.at'=j.at'/\j'.n=j.n/\j'.looks=j.looks/\j'.tb=j.tb/\(∀th∈j'.todo,yF j' th)/\(((j.tb.map (·.ds)).getD []).length<=12->j'.todo.length<=8000000):=by
 unfold ue at h;split at h
 .split at h
  exact Yh
  .obtain⟨l,v,hd,rfl⟩:=h
   refine⟨⟨rfl,rfl,rfl,rfl,rfl,rfl,rfl,rfl,rfl,rfl,rfl,rfl⟩,_,rfl,rfl,rfl,rfl,rfl,λth hth=>?_,λh12=>?_⟩
   .dsimp only at hth
    rw[ht,Xa2]at hth;obtain⟨d,hd',rfl⟩:=List.mem_map.1 hth;have hm:=(hd.1 d hd').1;refine⟨trivial,?_⟩;dsimp only;cases hq:j.tb with
    |none=>
     rw[hq]at hm;simp at hm
    |some t=>exact⟨t,rfl,by rw[hq]at hm;exact hm⟩
   .have:=pM hd.2.2 λd q=>(hd.1 d q).1
    simp[ht];omega
 exact Yh
theorem Ro(h:aL w N M K x)(hn:x.now=some j)(hN:N<=100000)(hl:j.looks=false)(ht:j.todo=[])(hp:br w BP K.P LP ws wt)(hM:¬M LP)(hs:x.sh<ws.length)(hsl:ws[x.sh].looks=false) :
  az 100 #[OV x.W] w (wD w N M K x j BP LP ws wt):=by
 refine rS;have hW:=h.wj hn;have hjb:=h.now j hn;have hJ:=hjb.jb;simp only[ki,hl]at hJ;have his:=is_t hjb.z hjb.b;have HIS:=OH his;have hpz:=λW (hc:ag af w W)=>IL (w:=W) (hjb.z.chg hc iF) hjb.b hjb.l
 have hrz:=λW (hc:ag af w W)=>N0 (w:=W) (hjb.z.chg hc iF) hjb.b hjb.l
 have HPZ:=OH hpz;have HRZ:=OH hrz;clear hpz hrz his hjb h hp;refine uM;go_enter func100,ntmps100;refine ay;refine HIS.out.mono ?_;refine qH;have hP0:(w.alloc (.cells (ij rk).toArray 58)).heap[w.heap.size]?=OC (ij rk).toArray 58:=bZ;have hG:ag af w (w.alloc (.cells (ij rk).toArray 58)):=bu;have hW0:=ae hG hW id;have hJ0:=ae hG hJ id;go_upto_if 17 with fail;clear cW fW zW cJ fJ zJ hW hJ HIS;have HG:=OH hG;clear hG;refine qp;generalize hPe:w.heap.size=P at *;have HPE:=OH hPe;clear hPe;obtain⟨told,htl⟩:∃b,xQ j.zs=b:=⟨_,rfl⟩
 rw[htl];obtain⟨cW,fW,zW⟩:=ab hW0;obtain⟨cJ,fJ,zJ⟩:=ab hJ0;go_cut [4,5] from 18 to 41 (λs4 s5 wx=>LkC w u.heap.size j.zs P s4 s5 wx);case first=>
  cases told with
  |true=>
   refine ay;refine(HRZ.out _ HG.out).mono ?_;rintro r w3 ⟨hb3,v,err,rfl,hl3⟩;refine dr;exact⟨err,rfl,HG.out.next hb3,λ_ he=>by
    obtain⟨l,a1,a2,a3⟩:=hl3 he;obtain⟨A,c,rfl⟩:=aj a2;exact⟨l,A,c,rfl,a1,a2,λm hm=>(a3 m hm).1⟩,λe=>by rw[htl]at e;cases e⟩
  |false=>refine ay;refine(HPZ.out _ HG.out).mono ?_;rintro r w3 ⟨p,err,rfl,hp1,hp2,hb3⟩;have hG3:ag af u w3:=.of hb3;have hP3:=ae hG3 hP0 id;obtain⟨cP,fP,zP⟩:=ab hP3;refine dr;have h9:=aK (ij p) hP3 rfl;have hc9:=ei w3 P 0 (ij p);refine⟨err,rfl,(HG.out.next hb3).call hc9 λi hi e=>absurd HPE.out oM,λe=>(by rw[htl]at e;cases e),λ_=>⟨p,h9,λhe=>(hp1 he).chg hc9 (aJ hP3 dM) (aJ hP3 dM) (ci hP3 dM),hp2⟩⟩
 case rest=>
  obtain⟨err,rfl,hGx,h1,h2⟩:=hcut;have HGX:=OH hGx;refine An;have HC:=OH (H.out.below hGx.none);have HPC:=OH (HP.out.below hGx.none);have hW1:=HC.out.wj hn;have hJ1:=(HC.out.now j hn).jb;simp only[ki,hl]at hJ1;clear h1 h2 hGx hW0 hJ0 hP0 cW fW zW cJ fJ zJ HRZ HPZ;refine zH;by_cases he:err=0
  .subst he
   refine uQ;clear cW fW zW;have hGd:=ag.refl af wc;refine rl 9 (λw'=>Bk w' x.W (mV K x j.at') 164) (λw0_ hc0=>?_);have hW1:=ae hc0 hW1 id;refine AE;refine oL;have HPD:=OH (HPC.out.below hGd.none);refine(pin_t HPD.out x.sh x.sh rfl hs hsl).mono ?_;rintro r w9 ⟨rfl,hP9,hc9⟩;refine oK;have HD:=OH (HC.out.below hGd.none);have HE:=OH (HD.out.else HPD.out.l hM hc9);have HGE:=OH ((HGX.out.mono λ_ _ q=>q.elim:ag (λi=>x.own i\/i=LP) w wc).trans ((hGd.mono λ_ _ q=>q.elim:ag (λi=>x.own i\/i=LP) wc w0_).trans (hc9.mono λi _ q=> .inr q)));have HGW:=OH hGd;have HC9:=OH hc9;have HP9:=OH hP9;have hW1:=HE.out.wj hn;have hJ1:=(HE.out.now j hn).jb;simp only[ki,hl]at hJ1;clear HD hc9 hP9 hGd hc0 hH;refine zH;obtain⟨cJ,fJ,zJ⟩:=ab hJ1;refine oI;have hs1:ag (λi=>i=j.at') w9 (w9.setCell ⟨j.at',2,none⟩ (.bool true)):=bu;have hJ2:(w9.setCell ⟨j.at',2,none⟩ (.bool true)).heap[j.at']?=OC (ki {j with looks:=true}) 219:=bZ;have hW2:=jH hs1 hJ1 hW1;have HS1:=OH hs1;clear hs1 cW fW zW cJ fJ zJ hW1 hJ1;generalize w9.setCell _ _=u1 at *;refine rg 10 (λw'=>Bk w' x.W (mV K x j.at') 164/\Bk w' j.at' (ki {j with looks:=true}) 219) ⟨bk,bk⟩ (λhH=>?_);refine iU;refine gN;refine eY;have hs2:ag (λi=>i=j.at') w9 ((u1.setCell ⟨j.at',3,none⟩ (nA x.tb)).drew):=HS1.out.trans (ag.drew (bu:ag (λi=>i=j.at') u1 (u1.setCell ⟨j.at',3,none⟩ (nA x.tb))));have hJ3:(u1.setCell ⟨j.at',3,none⟩ (nA x.tb)).drew.heap[j.at']?=OC (ki {j with looks:=true,tb:=x.tb}) 219:=bZ;have HF:=OH (HE.out.jset hn HE.out.tb hs2 hJ3);have HS2:=OH hs2;have HGF:=OH (HGE.out.trans (hs2.mono λi _ e=> .inl (Jb.sub hn i (.inl e))));have HP2:=OH (HP9.out.chg hs2 Kr Kr Kr);clear hs2 hJ3 hW2 hJ2 HS1 HGE hH;generalize (u1.setCell _ _).drew=u2 at *;have hoff:∀ (t:TypeId),t≠317->t≠219->∀ (g:Nat) (c:Array Value),wc.heap[g]?=OC c t->u2.heap[g]?=OC c t:=λt h1 h2 g c hg=>jH HS2.out (HE.out.now j hn).jb (jH HC9.out HPD.out.l (ae HGW.out hg id) h1) h2
   have hof2:∀ (t:TypeId),t≠317->t≠219->gk (λi=>i=LP) t w0_/\gk (λi=>i=j.at') t w9:=λt h1 h2=>⟨aJ HPD.out.l h1.symm,aJ (HE.out.now j hn).jb h2.symm⟩
   have HOF:=OH hoff;have HO2:=OH hof2;have hox:=xB (j':= {j with looks:=true,tb:=x.tb}) hn rfl rfl;have hpw:ws[x.sh]?=some ⟨ws[x.sh].at',ws[x.sh].sees,false⟩:=by rw[List.getElem?_eq_getElem hs,←hsl]
   have HPW:=OH hpw;clear hoff hof2 hpw;cases told with
   |false=>
    obtain⟨p,hPk,hpj,hpl⟩:=H2.out htl;have hPk2:=HOF.out 58 dM dM _ _ hPk;have hp2:yC u2 p:=(((hpj rfl).chg HGW.out cy cy iF).chg HC9.out (HO2.out 52 dM dM).1 (HO2.out 287 dM dM).1 (HO2.out 5 dM dM).1).chg HS2.out (HO2.out 52 dM dM).2 (HO2.out 287 dM dM).2 (HO2.out 5 dM dM).2;have hsn:=Nt (j:= {j with looks:=true,tb:=x.tb}) HF.out hN rfl ht hp2;have HSN:=OH hsn;refine qh;clear hsn hp2 hpj hPk hpl;obtain⟨cP,fP,zP⟩:=ab hPk2;refine ay;refine HSN.out.mono ?_;rintro r w5 ⟨x5,rfl,hsr,hw5,ho5,hc5⟩;refine dg;obtain⟨f1,j5,f2,f3,f4,f5,f6,f7,f8⟩:=ue.facts (j:= {j with looks:=true,tb:=x.tb}) rfl ht hsr;refine⟨rfl,x5,f1,hw5,λi q=>?_,HGF.out.call hc5 λi _ q=>?_,.inr ⟨_,_,HP2.out.chg hc5 (HF.out.off λ_=>id) (HF.out.off λ_=>id) (HF.out.off λ_=>id),HPW.out,j5,f2,f3,f4,f5,f6,f7,f8 (by cases hq:x.tb with|none=>simp|some t=>exact Xa8 (HF.out.tb t hq).2.1 dM),λq1 _=>⟨p,(HPL.out q1).2,hsr⟩⟩⟩
    .rcases ho5 i q with r|r
     .exact .inl (hox i r)
     .exact .inr (Xa8 HGF.out.size r)
    .exact .inl (hox i q)
   |true=>
    obtain⟨l,A,c,rfl,hll,hO,hm⟩:=H1.out htl rfl;have hO2:=ah (ah (aX hO HGW.out.none) HC9.out (HO2.out 113 dM dM).1) HS2.out (HO2.out 113 dM dM).2;have hm2:∀m∈l,lL u2 u.heap.size m:=λm q=>(((hm m q).chg HGW.out cy cy).chg HC9.out (HO2.out 209 dM dM).1 (HO2.out 284 dM dM).1).chg HS2.out (HO2.out 209 dM dM).2 (HO2.out 284 dM dM).2
    have HO:=OH hO2;have HM:=OH hm2;clear hO hm hO2 hm2;refine ay;go_loopw [7,89] (λ_ i wr=>TJ u2 N M K {x with now:=some {j with looks:=true,tb:=x.tb}} {j with looks:=true,tb:=x.tb} l.length 6800 i wr) (λ_ i _=>l.length- (intOf i).toNat);case atStart=>exact .start HF.out rfl
    case round=>
     obtain⟨k,td,vk,rfl,hk,hg,hkl,hw,hv,hc⟩:=hrel;have HW:=OH hw;refine nD;have HC5:=OH hc;have HGD:=OH hg;refine rL;clear hw hv hc hg hkl;refine rO
     .obtain⟨g,e0,hg1,hg2,hg3⟩:=cM (f:=SP) (λ_=>rfl) (ah HO.out HC5.out (HF.out.off (λ_=>id) (t:=113))) hlt
      subst e0;have hmm:=(HM.out l[k] qS).chg HC5.out (HF.out.off (λ_=>id)) (HF.out.off (λ_=>id));have hlb:(j.todo++td).length<=900000000:=by rw[PI,ht];have h2:=HKL.out;simp only[Xa6];omega
      generalize l[k]=m at *;obtain⟨kd,ss,md,ck,tm,pk,bt,rp,wp,pr,ak,ty⟩:=m;obtain⟨md0,⟨Ar,nr,cr,hr⟩,⟨Aw,nw,cw,hwh⟩,⟨ps,hps,hpl⟩,⟨qs,has,hal⟩⟩:=hmm;obtain⟨Ap,cp,hpv⟩:=aj hps;obtain⟨Aa,ca,hav⟩:=aj has;dsimp only at hr hwh hpv hav hps has md0;subst hr hwh hpv hav;have hmm:lL wr u.heap.size ⟨kd,ss,md,ck,tm,pk,bt,.slice Ar nr cr,.slice Aw nw cw,.slice Ap ps.length cp,.slice Aa qs.length ca,ty⟩:=⟨md0,⟨Ar,nr,cr,rfl⟩,⟨Aw,nw,cw,rfl⟩,⟨ps,hps,hpl⟩,⟨qs,has,hal⟩⟩
      obtain⟨e0,e1,e2,e3,e4,e5,e6,e7,e8,e9,e10,e11⟩:=Xb3 (hg3 0 dM) (Xb3 (hg3 1 dM) (Xb3 (hg3 2 dM) (Xb3 (hg3 3 dM) (Xb3 (hg3 4 dM) (Xb3 (hg3 5 dM) (Xb3 (hg3 6 dM) (Xb3 (hg3 7 dM) (Xb3 (hg3 8 dM) (Xb3 (hg3 9 dM) (Xb3 (hg3 10 dM) (hg3 11 dM)))))))))));dsimp only[SP,kO,Xa4,List.getElem?_cons_succ,Xa9]at e0 e1 e2 e3 e4 e5 e6 e7 e8 e9 e10 e11;have hbx:ag af wr (wr.alloc (.cells #[JI kd,JT ss,JT md,JU ck,JT tm,JT pk,JT bt,.slice Ar nr cr,.slice Aw nw cw,.slice Ap ps.length cp,.slice Aa qs.length ca,JW ty] 113)):=bu;have htl2:=Nk (j:= {j with looks:=true,tb:=x.tb,todo:=j.todo++td,v:=vk}) (HW.out.below hbx.none) rfl hlb (hmm.chg hbx cy cy);have HTL:=OH htl2;have HBX:=OH hbx;clear htl2 hg3 hmm hps has hpl hal hlb hbx;refine ay;refine HTL.out.mono ?_;rintro r w5 ⟨l2,v5,rfl,hg5,hl5,hw5,hv5,hc5⟩;refine dA;case rel=>exact TJ.step (l2:=l2) rfl hlt HGD.out HKL.out HV.out HC5.out hg5 hl5 hw5 ((HBX.out.mono λ_ _ q=>q.elim).trans hc5) (λg hg=>(hv5 g hg).imp id λq=>Xa8 HBX.out.size q) eT
      case measure=>exact di
     .have hw:=HW.out
      have hjw:=hw.now {j with looks:=true,tb:=x.tb,todo:=j.todo++td,v:=vk} rfl;obtain⟨A6,c6,hv6⟩:=hjw.v.slice;rw[List.length_map]at hv6;dsimp only at hv6;subst hv6;have hW6:wr.heap[x.W]?=OC (mV K x j.at') 164:=hw.wj (j:= {j with looks:=true,tb:=x.tb,todo:=j.todo++td,v:=.slice A6 (j.todo++td).length c6}) rfl;have hJ6:wr.heap[j.at']?=OC (ki {j with looks:=true,tb:=x.tb,todo:=j.todo++td,v:=.slice A6 (j.todo++td).length c6}) 219:=hjw.jb;have hfin:∀ (c:Int) (w':World),ag (λi=>i=x.W) wr w'->w'.heap[x.W]?=OC (mV K {x with c1:=c} j.at') 164->wD w N M K x j BP LP ws wt (.returned (.tuple #[])) w':=λc w' hc hb=>by
       have h5:=hw.cntJ (j:= {j with looks:=true,tb:=x.tb,todo:=j.todo++td,v:=.slice A6 (j.todo++td).length c6}) rfl (x.c0,c,x.c2,x.c3,x.c4) hc hb;have hcx:ag x.own w wr->True:=λ_=>trivial
       have hpn:=(HP2.out.chg HC5.out (HF.out.off λ_=>id) (HF.out.off λ_=>id) (HF.out.off λ_=>id)).chg hc (aJ hW6 dM) (aJ hW6 dM) (aJ hW6 dM);refine⟨rfl,{ri x {j with looks:=true,tb:=x.tb} (j.todo++td) (.slice A6 (j.todo++td).length c6)with c1:=c},⟨rfl,rfl,rfl,rfl,rfl,rfl,rfl,rfl,rfl,rfl,rfl,rfl⟩,h5.mono,λi q=>?_,(HGF.out.call HC5.out λi _ q=> .inl (hox i q)).trans (hc.mono λi _ e=> .inl (.inl e)),.inr ⟨_,_,hpn,HPW.out,_,rfl,rfl,rfl,rfl,rfl,λth hth=>?_,?_,λ_ q2=>by rw[htl]at q2;cases q2⟩⟩
       .rcases SJ.own (x:= {x with now:=some {j with looks:=true,tb:=x.tb}}) (j:= {j with looks:=true,tb:=x.tb}) rfl HV.out i q with r|r
        .exact .inl (hox i r)
        .exact .inr (Xa8 HGF.out.size r)
       .have hth:th∈j.todo++td:=hth
        rw[ht,Xa2]at hth;exact HGD.out th hth
       .show(j.todo++td).length<=8000000
        rw[ht,Xa2];have:=HKL.out;omega
      have HN:=OH hfin;obtain⟨td2,htd⟩:∃t,j.todo++td=t:=⟨_,rfl⟩
      simp only[htd]at hJ6 hW6;clear hfin hw hjw;obtain⟨cW,fW,zW⟩:=ab hW6;obtain⟨cJ,fJ,zJ⟩:=ab hJ6;by_cases h0:td2.length=0
      .have e0:((td2.length:Int)==0)=true:=by simpa using h0
       refine dg;exact HN.out (wrap64 (x.c1+1)) _ bu bZ
      .have e0:((td2.length:Int)==0)=false:=by simpa using h0
       refine dg;exact HN.out x.c1 _ dp hW6
  .have e1:(err !=0)=true:=by simpa using he
   refine dg;have hb:((wc.setCell ⟨x.W,11,none⟩ (JI (wrap64 (x.c0+1)))).setCell ⟨x.W,6,none⟩ (.pointer none)).heap[x.W]?=OC (ou K {x with now:=none,c0:=wrap64 (x.c0+1),c1:=x.c1,c2:=x.c2,c3:=x.c3,c4:=x.c4}) 164:=bZ;have hc:ag (λi=>i=x.W) wc ((wc.setCell ⟨x.W,11,none⟩ (JI (wrap64 (x.c0+1)))).setCell ⟨x.W,6,none⟩ (.pointer none)):=bu;obtain⟨f1,f2⟩:=HC.out.fin (wrap64 (x.c0+1),x.c1,x.c2,x.c3,x.c4) hc hb;refine⟨rfl,{x with now:=none,c0:=wrap64 (x.c0+1)},⟨rfl,rfl,rfl,rfl,rfl,rfl,rfl,rfl,rfl,rfl,rfl,rfl⟩,f1.mono,λi q=> .inl (f2 i q),(HGX.out.mono λ_ _ q=>q.elim:ag (λi=>x.own i\/i=LP) w wc).trans (hc.mono λi _ e=> .inl (.inl e)),.inl ⟨rfl,HPC.out.chg hc uI uI uI,λ⟨q1,q2⟩=>?_⟩⟩;obtain⟨p,_,_,q3⟩:=H2.out q2;exact he (q3 q1).1
end
abbrev ptL(x:Int×Int):List Value:=[JU x.1,JI x.2]
def PtOK(p:Int×Int):Prop:=0<=p.1/\p.1<2 ^ 64/\ -100000<=p.2/\p.2<=100000
def BodE(w:World)(e:Ending)(w':World):Prop:=∃kd cnt A cap b,∃ps:List (Int×Int),e=aA (.tuple #[JW kd,JI cnt,.slice A ps.length cap,.bool b])/\0<=kd/\kd<=255/\w'.ownsRow w.heap.size 185 2 (.slice A ps.length cap) ps.length (ps.flatMap ptL)/\(∀p∈ps,PtOK p)/\ps.length<=2000/\aC w w'
theorem Oa{s:Nat}{e:TypeId}{cs:List Value}(hg:w.heap[g]?=OC cs.toArray e)(hB:B<=g)(hn:cs.length=n*s)(hm:n<=maxLen):w.ownsRow B e s (.slice (aT g) n n) n cs:=
 ⟨hn,.inr ⟨g,n,_,rfl,hB,hg,Xb1 _,hm,Em,by rw[←hn];simp⟩⟩
theorem Hr(w:World)(x:Int)(h0:0<=x)(h1:x<=4294967295):az 94 #[.agg (kO {gE 4 with media:=x})] w (BodE w):=by
 refine Lb;refine X3;have hX1:w1.heap[w.heap.size]?=OC (kO {gE 4 with media:=x}) 113:=(hb1.block _ sM).trans bZ;have hX:(w1.alloc (.cells #[JU 0,JI 4] 185)).heap[w.heap.size]?=OC (kO {gE 4 with media:=x}) 113:=ai hX1;have hl:(w1.alloc (.cells #[JU 0,JI 4] 185)).heap[w1.heap.size]?=OC #[JU 0,JI 4] 185:=bZ;have hG:ag af w (w1.alloc (.cells #[JU 0,JI 4] 185)):=hG1.alloc _;have hO:=Oa (s:=2) (n:=1) (B:=w.heap.size) hl hG1.size rfl lM;have HO:=OH hO;refine X4;refine VH;go_wp2_with (at_builtin;refine wpList_append_own _ rfl (.tmp 123) (.tmp 127) 186 rfl w.heap.size 185 i0 _ 2 16 underlying186 hi hz0 hz1 hz2 rfl dM _ _ _ rfl hO2 ⟨w2.heap.size,0,none⟩ 1 1 [JU x,JI 4] rfl rfl (fy rfl) zt79 lM oM xM ?_;intro v3 w3 hown3 hgrow3 _)
 obtain⟨A,cap,rfl⟩:=aj hown3;refine bodyPost_ret (v:=.tuple #[JW 206,JI 1,.slice A 2 cap,.bool true]) (by simp[results,results94,go_sem]) rfl ?_;exact⟨206,1,A,cap,true,[(0,4),(x,4)],rfl,dM,dM,hown3,(by intro p hp;refine qF;rcases hp with rfl|rfl<;>refine⟨?_,?_,?_,?_⟩<;>dsimp only<;>omega),sM,bq (hG2.alloc _).none xM hO2 hgrow3⟩
theorem Ov{ps:List (Int×Int)}(h:w.ownsRow B 209 2 (.slice A ps.length cap) ps.length (bp .u16 ps))(h0:0<ps.length):∃g cur,A=some ⟨g,0,none⟩/\w.heap[g]?=OC cur 209/\∀i (hi:i<ps.length),cur[i*2]?=some (JS ps[i].1)/\cur[i*2+1]?=some (JS ps[i].2):=by
 rcases h.2 with⟨h1,h2⟩|⟨g,c,cur,h1,hb,hg,hc,hm,hs,ht⟩
 .have:=h.1
  rw[h2]at this;simp at this;omega
 .refine mh
  refine nI;refine⟨g,cur,rfl,hg,λi hi=>?_⟩;have hl:∀j,j<ps.length*2->cur[j]?=(bp .u16 ps)[j]?:=λj hj=>by rw[←ht,List.getElem?_take_of_lt (by rw[←h.1,ht]at *;have:=h.1;omega)];simp
  have e:∀ (x:Int×Int),([JS x.1,JS x.2]:List Value).length=2:=λ_=>rfl
  have a0:=bY (f:=λp:Int×Int=> [JS p.1,JS p.2]) e ps i 0 hi oM;have a1:=bY (f:=λp:Int×Int=> [JS p.1,JS p.2]) e ps i 1 hi oM;constructor
  .rw[hl _ oM]
   exact a0
  .rw[hl _ oM]
   exact a1
def B3J(w:World)(m:Nat)(x:Int)(A:Option Addr)(cap:Nat)(v i:Value)(wr:World):Prop:=∃ (k:Nat) (A5:Option Addr) (cap5:Nat) (qs:List (Int×Int)),i=JI k/\k<=m/\v=.slice A5 (2+2*k) cap5/\qs.length=2+2*k/\wr.ownsRow w.heap.size 185 2 (.slice A5 (2+2*k) cap5) (2+2*k) (qs.flatMap ptL)/\(∀p∈qs,PtOK p)/\wr.heap[w.heap.size]?=OC (kO {gE 3 with media:=x,pairs:=.slice A m cap}) 113/\ag af w wr
theorem TU(w:World)(x:Int)(h0:0<=x)(h1:x<=4294967295){m:Nat}{ps:List (Int×Int)}(hm:ps.length=m)(hp:w.ownsRow B 209 2 (.slice A m cap) m (bp .u16 ps))(hr:∀p∈ps,(0<=p.1/\p.1<=65535)/\0<=p.2/\p.2<=65535)(hl:m<=400)(hps:0<m):az 94 #[.agg (kO {gE 3 with media:=x,pairs:=.slice A m cap})] w (BodE w):=by
 refine Lb;obtain⟨g,cur,rfl,hgw,hclw⟩:=Ov (ps:=ps) (by rw[hm];exact hp) oM;refine nH;have HCW:=OH hclw;refine ml;clear hp hr hclw hps hm;refine X3;have hX1:w1.heap[w.heap.size]?=OC (kO {gE 3 with media:=x,pairs:=.slice (aT g) m cap}) 113:=(hb1.block _ sM).trans bZ;have hX:(w1.alloc (.cells #[JU 0,JI 4] 185)).heap[w.heap.size]?=OC (kO {gE 3 with media:=x,pairs:=.slice (aT g) m cap}) 113:=ai hX1;have hl1:(w1.alloc (.cells #[JU 0,JI 4] 185)).heap[w1.heap.size]?=OC #[JU 0,JI 4] 185:=bZ;have hG:ag af w (w1.alloc (.cells #[JU 0,JI 4] 185)):=hG1.alloc _;have hO:=Oa (s:=2) (n:=1) (B:=w.heap.size) hl1 hG1.size rfl lM;have HO:=OH hO;clear hb1 hX1 hG1 hO hl1;refine X4;have hX2:=ai (o:=.cells #[JU x,JI 4] 185) ((hb2.block _ zX).trans hX);refine VH;go_upto_region 18 with(at_builtin;refine wpList_append_own _ rfl (.tmp 91) (.tmp 95) 186 rfl w.heap.size 185 i0 _ 2 16 underlying186 hi hz0 hz1 hz2 rfl dM _ _ _ rfl hO2 ⟨w2.heap.size,0,none⟩ 1 1 [JU x,JI 4] rfl rfl (fy rfl) zt79 lM oM xM ?_;intro v3 w3 hown3 hgrow3 _)
 obtain⟨A3,cap3,rfl⟩:=aj hown3;have hX3:=aV hO2 hgrow3 hX2 dM;have hG3:ag af w w3:=.of (bq (hG2.alloc _).none xM hO2 hgrow3);have HO3:=OH hown3;clear hown3 hgrow3 hX2 hO2 hG2 hb2 HO cX fX zX hX hG hz;obtain⟨cX,fX,zX⟩:=ab hX3;have hqz: [JU 0,JI 4,JU x,JI 4]=[((0:Int),(4:Int)),(x,4)].flatMap ptL:=rfl;refine ay;go_loopw [6,10,100] (λv _ i wr=>B3J w m x (aT g) cap v i wr) (λ_ _ i _=>m- (intOf i).toNat);case atStart=>exact⟨0,A3,cap3,[(0,4),(x,4)],rfl,oM,rfl,rfl,HO3.out,(by intro p hp;refine qF;rcases hp with rfl|rfl<;>refine⟨?_,?_,?_,?_⟩<;>dsimp only<;>omega),hX3,hG3⟩
 case round=>
  clear cX fX zX hX3 hG3 HO3;obtain⟨k,A5,cap5,qs,rfl,hk,rfl,hql,hown,hqo,hX,hG⟩:=hrel;refine my;have HQ:=OH hqo;have HQL:=OH hql;have hGs:=hG.size;clear hown hqo hql;refine nQ;by_cases hlt:k<m
  .have hcl:=HCW.out
   have hkl:k<ps.length:=by rw[HM.out];exact hlt
   obtain⟨e0,e1⟩:=hcl k hkl;have hrk:=HR.out ps[k] (List.getElem_mem hkl);generalize ps[k]=pk at *;obtain⟨a1,a2⟩:=pk;obtain⟨⟨r1,r2⟩,r3,r4⟩:=hrk;dsimp only at r1 r2 r3 r4 e0 e1;have hgr:=ae hG hgw id;obtain⟨cg,fg,zg⟩:=ab hgr;have c0:wr.cell? ⟨g,k*2,none⟩=some (JS a1):=by rw[cg];exact e0
   have c1:wr.cell? ⟨g,k*2+1,none⟩=some (JS a2):=by rw[cg];exact e1
   have w1':a1 % 18446744073709551616=a1:=oM;have w2':a2 % 18446744073709551616=a2:=oM;have hXb:=ai (o:=.cells #[JU a1,JI 2,JU a2,JI 2] 185) (ai (o:=.cells #[JS a1,JS a2] 209) hX);have hOb:=dz (o:=.cells #[JU a1,JI 2,JU a2,JI 2] 185) (dz (o:=.cells #[JS a1,JS a2] 209) HO.out);clear hcl cg e0 e1;go_wp2_with (at_builtin;refine wpList_append_own _ rfl (.tmp 104) (.tmp 113) 186 rfl w.heap.size 185 i0 _ 2 16 underlying186 hi hz0 hz1 hz2 rfl dM _ _ _ rfl hOb ⟨wr.heap.size+1,0,none⟩ 2 2 [JU a1,JI 2,JU a2,JI 2] rfl rfl (by have:=fy (w:=wr.alloc (.cells #[JS a1,JS a2] 209)) (l:=[JU a1,JI 2,JU a2,JI 2]) (t:=185) rfl;simpa using this) (by intro u hu;simp only[Xa3,Xa0,or_false]at hu;rcases hu with rfl|rfl|rfl|rfl<;>rfl) lM oM xM ?_;intro v6 w6 hown6 hgrow6 _)
   obtain⟨A6,cap6,rfl⟩:=aj hown6;have hX6:=aV hOb hgrow6 hXb dM;have hG6:ag af w w6:=.of (bq ((hG.alloc _).alloc _).none xM hOb hgrow6);have HO6:=OH hown6;clear hown6 hgrow6 hXb hOb cX fX zX hX hG;go_roundw;case rel=>exact⟨_,_,_,⟨k+1,A6,cap6,qs++ [(a1,2),(a2,2)],eT,oM,rfl,by have:=HQL.out;rw[PI];simp;omega,by rw[List.flatMap_append];exact HO6.out,(by
    intro p hp;refine EI
    .exact HQ.out p q
    .simp only[Xa3,Xa0,or_false]at q
     rcases q with rfl|rfl<;>refine⟨?_,?_,?_,?_⟩<;>dsimp only<;>omega),hX6,hG6⟩,rfl,rfl,rfl⟩
   case measure=>exact di
  .go_upto_region 23 with fail
   refine qm;refine bodyPost_ret (v:=.tuple #[JW 205,JI 1,.slice A5 (2+2*k) cap5,.bool (decide (0<m))]) (by simp[results,results94,go_sem]) rfl ?_;have hql:=HQL.out;exact⟨205,1,A5,cap5,_,qs,by rw[hql],dM,dM,by rw[hql];exact aX HO.out jI,HQ.out,oM,(ag.next hG jI).none⟩
theorem CQ{ps:List (Int×Int)}(h:w.ownsRow B 185 2 (.slice A n cap) n (ps.flatMap ptL)):ps.length=n/\lK w A ps:=vV h
def RPE(w:World)(e:Ending)(w':World):Prop:=∃A cap zs err,e=aA (.tuple #[.slice A zs.length cap,JI err])/\w'.ownsRow w.heap.size 5 1 (.slice A zs.length cap) zs.length (zs.map (Xb5 .u8))/\aG zs/\zs.length<=30000/\aC w w'
theorem wU{m:Ms}(hL:w.heap[L]?=OC (kO m) 113)(hbd:∀W,aC w W->az 94 #[.agg (kO m)] W (BodE W))(hsh:∃A1 n1 c1 A2 n2 c2 A3 n3 c3 A4 n4 c4,m.reports=.slice A1 n1 c1/\m.who=.slice A2 n2 c2/\m.pairs=.slice A3 n3 c3/\m.asks=.slice A4 n4 c4):az 47 #[.slice (aT L) 1 1] w (RPE w):=by
 obtain⟨A1,n1,c1,A2,n2,c2,Ap,n3,c3,A4,n4,c4,s1,s2,s3,s4⟩:=hsh;obtain⟨mk,ms,md,mcl,mt,mp,mb,mr,mw,mpr,mas,mty⟩:=m;dsimp only at s1 s2 s3 s4;subst s1 s2 s3 s4;have HBD:=OH hbd;clear hbd;refine ES;have hr0:nC w L (kO ⟨mk,ms,md,mcl,mt,mp,mb,.slice A1 n1 c1,.slice A2 n2 c2,.slice Ap n3 c3,.slice A4 n4 c4,mty⟩) 113 w (.slice none 0 0) []:=⟨Xb4 _ _ _ _,λz hz=>absurd hz sM,hL,Below.refl _ _⟩
 have HR0:=OH hr0;clear hr0;go_enter func47,ntmps47;refine ay;go_loopw [4,6,7,8,9,10,11,14] (λv _ _ _ _ _ _ i wr=>∃ (k:Nat) (A:Option Addr) (cap:Nat) (zr:List Int),k<=1/\v=.slice A zr.length cap/\i=JI k/\nC w L (kO ⟨mk,ms,md,mcl,mt,mp,mb,.slice A1 n1 c1,.slice A2 n2 c2,.slice Ap n3 c3,.slice A4 n4 c4,mty⟩) 113 wr (.slice A zr.length cap) zr/\zr.length<=20000*k/\(k=0->A=none/\cap=0/\zr=[])) (λ_ _ _ _ _ _ _ i _=>1- (intOf i).toNat);case atStart=>exact⟨0,none,0,[],oM,rfl,rfl,HR0.out,sM,λ_=>⟨rfl,rfl,rfl⟩⟩
 case round=>
  clear cL fL zL hL;obtain⟨k,A,cap,zr,hk,rfl,rfl,hrow,hzl,hnil⟩:=hrel;have HR:=OH hrow;have hL:=hrow.blk;clear hrow;refine ES;have hk2:k=0\/k=1:=oM;rcases hk2 with rfl|rfl
  .obtain⟨rfl,rfl,rfl⟩:=hnil rfl
   clear hnil;refine ay;have hX:aC wr (wr.alloc (.cells (kO ⟨mk,ms,md,mcl,mt,mp,mb,.slice A1 n1 c1,.slice A2 n2 c2,.slice Ap n3 c3,.slice A4 n4 c4,mty⟩) 113)):=ag.none bu;have HR1:=OH (HR.out.call hX);refine(HBD.out _ HR1.out.low).mono ?_;rintro r w2 ⟨kd,cnt,A5,cap5,bb,ps,rfl,hk0,hk1,ho,hpo,hpl,hb2⟩;have HR2:=OH (HR1.out.call hb2);have HO:=OH ho;have HPO:=OH hpo;have hkd:kd % 256=kd:=oM;clear ho hpo hb2 hX cL fL zL hL HR;cases bb with
   |false=>
    refine df;exact⟨none,0,[],1,rfl,Xb4 _ _ _ _,λz hz=>absurd hz sM,sM,HR2.out.low⟩
   |true=>
    refine ay;have HPP:=OH (show ∀p∈ps,0<=p.1/\p.1<2 ^ 64/\ -100000<=p.2/\p.2<=100000 from λp hp=>HPO.out p hp);refine(GN w2 A5 ps.length cap5 ps rfl oM (CQ HO.out).2 HPP.out).mono ?_;rintro r w3 ⟨v3,rfl,ho3,hb3⟩;obtain⟨A3,cap3,rfl⟩:=aj ho3;have HR3:=OH (HR2.out.call hb3);have hl3:=oU ps;have hby3:=fh ps;have HO3:=OH ho3;have hs3:=HR2.out.low.size;generalize dR ps=z3 at *;have hl3':z3.length<=16000:=oM;have HBY:=OH hby3;have hr3:nC w3 L (kO ⟨mk,ms,md,mcl,mt,mp,mb,.slice A1 n1 c1,.slice A2 n2 c2,.slice Ap n3 c3,.slice A4 n4 c4,mty⟩) 113 w3 (.slice none 0 0) []:=⟨Xb4 _ _ _ _,λz hz=>absurd hz sM,HR3.out.blk,Below.refl _ _⟩
    have H3:=OH hr3;have hbn:aG [bits .or .u8 128 (cnt % 256),kd,(z3.length:Int) / 4 / 256,(z3.length:Int) / 4 % 256]:=λz hz=>by
     simp only[Xa3,Xa0,or_false]at hz;rcases hz with rfl|rfl|rfl|rfl
     .exact tZ _ _ _
     all_goals omega
    have HBN:=OH hbn;clear ho3 hb3 hby3 hl3 hr3 hbn;go_wp2_with (first
     |(at_builtin;refine io (H3.out.alloc _) dM rfl (.tmp 29) (.tmp 43) rfl rfl rfl (news:=[bits .or .u8 128 (cnt % 256),kd,(z3.length:Int) / 4 / 256,(z3.length:Int) / 4 % 256]) GA rfl HBN.out sM ?_;intro A6 cap6 w6 z6 hz6 hr6;have hl6:z6.length<=4:=(by rw[hz6];simp);have HR6:=OH hr6;clear hz6 hr6)
     |(at_builtin;refine io HR6.out dM rfl (.tmp 45) (.tmp 46) rfl rfl rfl (eZ (aX HO3.out HR6.out.low)) rfl HBY.out oM ?_;intro A7 cap7 w7 z7 hz7 hr7;have hl7:z7.length<=20000:=(by rw[hz7,PI];omega);have HR7:=OH hr7;clear hz7 hr7)
     |fail)
    have hr8:nC w L (kO ⟨mk,ms,md,mcl,mt,mp,mb,.slice A1 n1 c1,.slice A2 n2 c2,.slice Ap n3 c3,.slice A4 n4 c4,mty⟩) 113 w7 (.slice A7 z7.length cap7) z7:=⟨aW HR7.out.own (by have:=HR3.out.low.size;omega),HR7.out.by_,HR7.out.blk,aE HR3.out.low HR7.out.low⟩
    go_roundw;case rel=>exact⟨1,A7,cap7,z7,oM,rfl,rfl,hr8,oM,λq=>oM⟩
    case measure=>simp[intOf]
  .clear hnil
   obtain⟨b5,f5⟩:∃b,decide (1500<zr.length)=b:=⟨_,rfl⟩
   have g5:decide ((1500:Int)<(zr.length:Nat))=b5:=by rw[←f5,decide_eq_decide];omega
   cases b5;all_goals
    go_wp2_with fail;go_ret2;first
     |exact⟨A,cap,zr,0,rfl,HR.out.own,HR.out.by_,oM,HR.out.low⟩
     |exact⟨none,0,[],13,rfl,Xb4 _ _ _ _,λz hz=>absurd hz sM,sM,HR.out.low⟩
structure Ou where
 k:Int
 n:Int
 tr:Int
 s:Int
 a:Option Addr
 c:Nat
 zs:List Int
 ar:Int
 ep:Int
 sl:Int
 tn:Int
abbrev qL(o:Ou):Array Value:=ouC o.k o.n o.tr o.s (.slice o.a o.zs.length o.c) o.ar o.ep o.sl o.tn
abbrev oh:Ou:=⟨0,0,0,0,none,0,[],0,0,0,0⟩
def qb(w:World)(o:Ou):Prop:=BR w 0 (.slice o.a o.zs.length o.c) o.zs/\aG o.zs/\o.zs.length<=40000
def lf(w:World)(N:Nat)(M:Nat->Prop)(K:Kw)(x:Wk)(j:Jb)(th:Th)(D S R Mm n:Nat)(s:Int)(dx:oz)(e:Ending)(w':World):Prop:=
 ∃ (x':Wk) (o:Ou) (b:Bool) (dx':oz) (j':Jb),e=aA (.tuple #[.agg (qL o),.bool b])/\x.eqv x'/\(x'.now=some j'/\j'.at'=j.at'/\j'.n=j.n/\j'.looks=j.looks/\j'.tb=j.tb/\(j'.todo=j.todo\/j'.todo=j.todo++ [.ask th.d])) /\
  aL w' N M K x'/\(∀i,x'.own i->x.own i\/w.heap.size<=i)/\dC w' (N+2) D S R Mm n s dx'/\qb w' o/\ag (λi=>x.own i\/iB D S R Mm i) w w' /\
  (∀d,th=.send d->d.muted=false->yA dx j.med j.rt.frm j.rt.layer d.frm d.layer->b=true/\o.k=0/\o.n=d.who/\o.ar=j.n/\j'.todo=j.todo)
@[go_sem] theorem as300_300(v:Value)(w:World):(Xb2 (.iface 300 v) 224 300 true).run prog w=.ok (.tuple #[v,.bool true]) w:=kM
@[go_sem] theorem as308_300(v:Value)(w:World):(Xb2 (.iface 308 v) 224 300 true).run prog w=.ok (.tuple #[.agg (eW l9).toArray,.bool false]) w:=kM
@[go_sem] theorem as308_308(v:Value)(w:World):(Xb2 (.iface 308 v) 224 308 true).run prog w=.ok (.tuple #[v,.bool true]) w:=kM
@[go_sem] theorem as305_300(v:Value)(w:World):(Xb2 (.iface 305 v) 224 300 true).run prog w=.ok (.tuple #[.agg (eW l9).toArray,.bool false]) w:=kM
@[go_sem] theorem as305_308(v:Value)(w:World):(Xb2 (.iface 305 v) 224 308 true).run prog w=.ok (.tuple #[.agg (eW l9++ [Xb5 .u16 0]).toArray,.bool false]) w:=kM
@[go_sem] theorem as305_305(v:Value)(w:World):(Xb2 (.iface 305 v) 224 305 true).run prog w=.ok (.tuple #[v,.bool true]) w:=kM
section
variable {w w' u wr:World}{N:Nat}{M:Nat->Prop}{K:Kw}{x x':Wk}{j:Jb}
theorem of1_t(w:World)(d:Dn):az 341 #[.agg (eW d).toArray] w λe w'=>e=aA (tT d)/\aC w w':=by go_enter func341,ntmps341;exact L6
theorem of2_t(w:World)(d:Dn):az 342 #[.agg (eW d).toArray] w λe w'=>e=aA (tT d)/\aC w w':=by go_enter func342,ntmps342;exact L6
theorem of3_t(w:World)(d:Dn)(q:Int):az 343 #[.agg #[JT d.ssrc,JI d.slot,JT d.turn,JI d.who,JI d.track,JI d.shard,JI d.frm,JI d.layer,JI d.tid,.bool d.muted,JS q]] w λe w'=>e=aA (tT d)/\aC w w':=by go_enter func343,ntmps343;exact L6
theorem wM(hn:x.now=some j):ri x j j.todo j.v=x:=by cases x;cases hn;rfl
theorem aL.askd{l:List (Int×Int)}(h:aL w N M K x)(hc:ag (λi=>i=x.am) w w')(hm:bH w' prog 52 (Xb5 .u32) (OI .u32) x.am (amL l)):aL w' N M K {x with asked:=l}:=by
 have hS:∀i,i=x.am->x.own i:=λi e=> .inr (.inr (.inr (.inr (.inl e))))
 refine fK;exact⟨ae hc h.wb (λe=>h.am.ne h.wb e.symm),⟨a,cur,hq.kept hc (λe=>h.am.ne hq.q e.symm) (λe=>h.am.ne hq.r e.symm)⟩,h.pk' hS hc,h.tb' hS hc h.tb,h.tb' hS hc h.nx,h.jb' hS hc (λj hj=>⟨λe=>h.am.ne (h.now j hj).jb e.symm,λg hg=>(λ⟨_,_,_,k⟩=>λe=>h.am.ne k e.symm) ((h.now j hj).v.block hg)⟩),h.cm.chg hc h.ne,h.cb,hm,h.ne,h.sh,h.mo' hc λi q=> .inl q⟩
theorem qb.chg{S:Nat->Prop}{o:Ou}(h:qb w o)(hc:ag S w w')(h5:jF S w):qb w' o:=⟨h.1.chg hc h5,h.2⟩
theorem kX{dx':oz}{o:Ou}{b:Bool}{td:List Th}{v:Value}{aq:List (Int×Int)}(h0:aL w N M K x)(hn:x.now=some j)(hO:u.heap[O]?=OC c 68)(hOl:w.heap.size<=O)(hw:aL u N M K {ri x j td v with asked:=aq})(ht:td=j.todo\/td=j.todo++ [.ask th.d])(hv:∀g,v.ownBlock=some g->j.v.ownBlock=some g\/w.heap.size<=g)(hd:dC u (N+2) D S R Mm n s dx')(ho:qb u o)(hc:ag (λi=>x.own i\/iB D S R Mm i) w u)(hf:ag (λi=>i=O) u w')(hex:∀d,th=.send d->d.muted=false->yA dx j.med j.rt.frm j.rt.layer d.frm d.layer->b=true/\o.k=0/\o.n=d.who/\o.ar=j.n/\td=j.todo):lf w N M K x j th D S R Mm n s dx (.returned (.tuple #[.agg (qL o),.bool b])) w':=
 ⟨{ri x j td v with asked:=aq},o,b,dx',_,rfl,⟨rfl,rfl,rfl,rfl,rfl,rfl,rfl,rfl,rfl,rfl,rfl,rfl⟩,⟨rfl,rfl,rfl,rfl,rfl,ht⟩,hw.else hO (λq=>by have:=(h0.mo _ q).1;omega) hf,λi q=>SJ.own hn hv i q,hd.chg hf (λk e=>e ▸ eC hd hO) (ci hO dM),ho.chg hf (ci hO dM),hc.call hf (λi hi e=>absurd hOl oM),hex⟩
def PshC(w:World)(N:Nat)(M:Nat->Prop)(K:Kw)(x:Wk)(j:Jb)(d:Dn)(ak:Bool)(wx:World):Prop:=∃ (td:List Th) (v:Value),(td=j.todo\/(ak=true/\td=j.todo++ [.ask d]))/\aL wx N M K (ri x j td v)/\(∀g,v.ownBlock=some g->j.v.ownBlock=some g\/w.heap.size<=g)/\ag x.own w wx
theorem Rs(h:aL w N M K x)(hn:x.now=some j)(hN:N<=99998)(hok:th.ok)(htl:j.todo.length<=900000000)(hA:At w K.A LA 124 352 l live)(hl:l.length<=64)(hi:o9 l th.d.slot th.d.turn=some i)(hx:∀hi:i<l.length,l[i].x=OV D)(hd:dC w N D S R Mm n s dx)(hdo:∀k,x.own k->¬iB D S R Mm k)(hdm:∀k,M k->¬iB D S R Mm k) :
  az 101 #[OV x.W,ov th] w (lf w N M K x j th D S R Mm n s dx):=by
 refine bI;refine ku;have HDO:=OH hdo;have HDM:=OH hdm;have HTL:=OH htl;refine rN;have hW:=h.wj hn;have hgt:=λW (hb:aC w W)=>Dv W K.A LA l live th.d.slot th.d.turn (aT D) i (hA.below hb) hl hi hx
 have HGT:=OH hgt;clear h hd hdo hdm htl hA hi hx hgt hok;refine ME;have HG0:=OH hG0;rcases th with d|⟨d,q⟩|d;all_goals
  have hgt:=HGT.out;dsimp only[Th.d]at hgt;have HGT2:=OH hgt;clear hgt HGT;simp only[ov];go_enter func101,ntmps101;go_wp2_with fail;generalize w.alloc _=u0 at *;first|with_reducible refine(of1_t _ _).mono ?_|with_reducible refine(of2_t _ _).mono ?_|with_reducible refine(of3_t _ _ _).mono ?_
  rintro r w2 ⟨rfl,hb2⟩;have hG2:ag af u0 (w2.alloc (.cells (eW d).toArray 198)):=ag.alloc (.of hb2) _;have hV:(w2.alloc (.cells (eW d).toArray 198)).heap[w2.heap.size]?=OC (eW d).toArray 198:=bZ;have hO2:=ae hG2 hO0 id;have hGw:=HG0.out.trans hG2;have hW2:=ae hGw hW id;go_upto_region 2 with fail;clear hb2 hG2 hO0 hG0 HG0;generalize w2.alloc _=u2 at *;generalize w2.heap.size=V at *;refine rl 12 (λw'=>Bk w' x.W (mV K x j.at') 164/\Bk w' V (eW d).toArray 198) (λw0_ hc0=>?_);have hV:=ae hc0 hV id;have hW2:=ae hc0 hW2 id;have hO2:=ae hc0 hO2 id;have hGw:=ag.trans hGw hc0;refine⟨⟨bk,bk⟩,λhH=>?_⟩;refine tk 0 ?_;refine tk 1 ?_;refine tk 2 ?_;refine tk 3 ?_;refine tk 4 ?_;refine tk 5 ?_;refine tk 6 ?_;refine on 7 λK hK=>?_
  go_simp;refine(HGT2.out _ hGw.none).mono ?_;rintro r w1_ ⟨rfl,hbw1_⟩;have hc1:ag af w0_ w1_:=.of hbw1_;have hV:=ae hc1 hV id;have hW2:=ae hc1 hW2 id;have hO2:=ae hc1 hO2 id;have hGw:=ag.trans hGw hc1;refine hK.out _ _ ⟨bk,bk⟩ (λhH=>?_);clear hK K;try simp only[pu]
  refine tk 8 ?_;refine tk 9 ?_;refine tk 10 ?_;refine tk 11 ?_;refine QO ?_;have HX:=OH (H.out.below hGw.none);have HDX:=OH (HD.out.below hGw.none);have HGW:=OH hGw;have HO3:=OH hO2;clear hH hGw hc0 hc1 HGT2;generalize w1_=u3 at *
 .have hJ2:=(HX.out.now j hn).jb
  refine qn;have hb4:ag af u3 (u3.alloc (.cells (eW d).toArray 300)):=bu;refine Yu;refine rl 40 (λw'=>Bk w' x.W (mV K x j.at') 164/\Bk w' j.at' (ki j) 219/\Bk w' V (eW d).toArray 198) (λw0_ hc0=>?_);refine YD;refine Xk;refine tk 21 ?_;refine tk 22 ?_;refine tk 23 ?_;refine tk 24 ?_;refine tk 25 ?_;refine tk 26 ?_;refine tk 27 ?_;refine tk 28 ?_;refine tk 29 ?_;refine tk 30 ?_;refine tk 31 ?_;refine tk 32 ?_;refine on 33 λK hK=>?_
  go_simp;refine(TI (wt:=d.tid) d.muted (HDX.out.below hGz.none) hN ((HX.out.now j hn).m.below hGz.none)).mono ?_;rintro r w1_ ⟨A,cap,zs,bb,ak,dx5,rfl,hbr,hby,hzl,hd5,hex,hc5⟩;have hdw:=HDX.out.below hGz.none;have hV:=ae hc5 hV (eC hdw hV);have hW2:=ae hc5 hW2 (eC hdw hW2);have hJ2:=ae hc5 hJ2 (eC hdw hJ2);have hO2:=ae hc5 hO2 (eC hdw hO2);refine mz;refine tk 34 ?_;refine tk 35 ?_;refine tk 36 ?_;refine tk 37 ?_;refine tk 38 ?_;refine tk 39 ?_;refine QO ?_;have hx5:=(HX.out.below hGz.none).kept hc5 (λk q=>HDO.out k q) (sZ hdw) (λk q _=>HDM.out k q) (sZ hdw) (sZ hdw) (xZ hdw);have HX5:=OH hx5;have HD5:=OH hd5;have HEX:=OH hex;have HZ:=OH (show BR w1_ 0 (.slice A zs.length cap) zs/\aG zs/\zs.length<=40000 from⟨hbr,hby,hzl⟩);have hc6:ag (λk=>x.own k\/iB D S R Mm k) w w1_:=((HGW.out.mono λ_ _ q=>q.elim:ag _ w u3).trans (hGz.mono λ_ _ q=>q.elim)).trans (hc5.mono λ_ _ q=> .inr q);have HC6:=OH hc6;clear hbr hby hzl hd5 hex hx5 hc5 hc6 hdw hGz hb4 hH hc0 HX HDX HGW;generalize w1_=w5 at *;clear hJ2;go_upto_if 88 with fail;go_cut [] from 89 to 106 (λwx=>PshC w5 N M K x j d ak wx);case first=>
   cases ak with
   |false=>
    refine dr;exact⟨j.todo,j.v,.inl rfl,by rw[wM hn];exact HX5.out,λg q=> .inl q,ag.refl _ _⟩
   |true=>
    have hW9:=HX5.out.wj hn;have hJ9:=(HX5.out.now j hn).jb;have hq9:=(HX5.out.now j hn).v;have hZ:=hV;have ha:=ag.refl af w5;have HLN:=HTL;have HW:=HX5;refine yY;refine Zf
    skip
    refine mz;refine on 15 λK hK=>?_
    refine eS rfl (.tmp 99) (.tmp 103) 217 rfl 0 224 i0 .nilIface 16 underlying217 hi hz0 hz1 hz2 rfl _ _ rM (hq9.drew.alloc _) ⟨w5.drew.heap.size,0,none⟩ 1 (ov (.ask d)) rM ((ab (ao w5.drew (.cells #[ov (.ask d)] 224) _ rfl)).1 0) rfl Id Ck kn ?_;intro v5 w5_ hq5 hg5 ho5;refine zo;have hG5:ag (λi=>(j.v).ownBlock=some i) w5 w5_:=ag.grown (ag.alloc (ag.drew (ag.refl _ w5)) _) hg5 (λk hk _=>hk);refine zn;refine qE;refine zj;refine eY;obtain⟨T1,T2,T3⟩:=HW.out.todo (j:=j) hn QV (.ask d) trivial (wa:=w5.drew.alloc (.cells #[ov (.ask d)] 224)) (ha.drew.alloc _) hq5 hg5 ho5;clear n1 n2 n3 hi hz0 hz1 hz2 hq9 hW9 hJ9 hZ hG5 hq5 hg5 hH;generalize w5_.setCell _ _=u9 at *;refine dr;exact⟨_,_,.inr ⟨rfl,rfl⟩,T1,λg hg=>(ho5 g hg).imp id λq=>Xa8 (ha.drew.alloc _).size q,T3.mono λi _=>Jb.sub hn i⟩
  case rest=>
   obtain⟨td,v,htd,hwc,hvo,hcc⟩:=hcut;have hVc:=HX5.out.keep hcc hV;have hOc:=HX5.out.keep hcc hO2;have HDC:=OH (HD5.out.chg hcc (λk q=>HDO.out k q) (HX5.out.far5 λ_=>id));have HZC:=OH (show BR wc 0 (.slice A zs.length cap) zs/\aG zs/\zs.length<=40000 from⟨HZ.out.1.chg hcc (HX5.out.far5 λ_=>id),HZ.out.2⟩);have HCC:=OH (HC6.out.trans (hcc.mono λ_ _ q=> .inl q));have HWC:=OH hwc;have HVO:=OH hvo;have HTD:=OH htd;clear hcc hwc hvo htd hV hW2 hO2 HX5 HD5 HZ;obtain⟨cV,fV,zV⟩:=ab hVc;have hls:w.heap.size<=w5.heap.size:=HC6.out.size;cases bb with
   |true=>
    refine ay;refine(Cr (j:= {j with todo:=td,v:=v}) HWC.out rfl d 0 d.who d.ssrc A zs.length cap).mono ?_;rintro r w7 ⟨rfl,hb7⟩;have h7:ag af wc w7:=.of hb7;refine LU;refine wY underlying68 ?_ (h1:=aK (qL ⟨0,d.who,d.track,d.ssrc,A,cap,zs,j.n,gw j.tb,d.slot,d.turn⟩).toList hO7 rfl);exact kX (o:=⟨0,d.who,d.track,d.ssrc,A,cap,zs,j.n,gw j.tb,d.slot,d.turn⟩) (aq:=x.asked) H.out hn hO7 fo ((HWC.out).below hb7) (HTD.out.imp id λq=>q.2) (λg hg=>(HVO.out g hg).imp id (Xa8 hls)) ((HDC.out).below hb7) (qb.chg (w:=wc) HZC.out h7 iF) ((HCC.out).trans (h7.mono λ_ _ q=>q.elim)) (ei w7 w.heap.size 0 (qL ⟨0,d.who,d.track,d.ssrc,A,cap,zs,j.n,gw j.tb,d.slot,d.turn⟩).toList) (λd' e hm hp=>by
     cases e;refine⟨rfl,rfl,rfl,rfl,HTD.out.elim id λq=>?_⟩;have:=(HEX.out hm hp).2;rw[this]at q;cases q.1)
   |false=>
    refine Xm;exact kX (o:=oh) (aq:=x.asked) H.out hn hOc fo (HWC.out) (HTD.out.imp id λq=>q.2) (λg hg=>(HVO.out g hg).imp id (Xa8 hls)) (HDC.out) wI (HCC.out) (ei wc w.heap.size 0 (qL oh).toList) (λd' e hm hp=>by cases e;cases(HEX.out hm hp).1)
 .have hb4:ag af u3 (u3.alloc (.cells #[JT d.ssrc,JI d.slot,JT d.turn,JI d.who,JI d.track,JI d.shard,JI d.frm,JI d.layer,JI d.tid,.bool d.muted,JS q] 308)):=bu
  have hag:=P5 (HDX.out.below hb4.none) HOK.out;have HAG:=OH hag;have HB4:=OH hb4;clear hb4 hag;refine qu;refine ay;refine HAG.out.mono ?_;rintro r w5 ⟨A,cap,zs,bb,rfl,hbr,hby,hzl,hb5⟩;have hc5:=HB4.out.next hb5;have hVc:=ae hc5 hV id;have hOc:=ae hc5 hO2 id;have HWC:=OH (HX.out.below hc5.none);have HDC:=OH ((HDX.out.below hc5.none).mono (Xb0 N 2));have HZC:=OH (show BR w5 0 (.slice A zs.length cap) zs/\aG zs/\zs.length<=40000 from⟨hbr,hby,hzl⟩);have HCC:=OH ((HGW.out.trans hc5).mono λ_ _ q=>q.elim:ag (λk=>x.own k\/iB D S R Mm k) w w5);have hwe:=wM hn;clear hbr hby hzl hb5 hc5 cV fV zV hV hO2 HAG;obtain⟨cV,fV,zV⟩:=ab hVc;cases bb with
  |true=>
   refine ay;refine(Cr HWC.out hn d 1 d.who d.ssrc A zs.length cap).mono ?_;rintro r w7 ⟨rfl,hb7⟩;have h7:ag af w5 w7:=.of hb7;refine LU;refine wY underlying68 ?_ (h1:=aK (qL ⟨1,d.who,d.track,d.ssrc,A,cap,zs,j.n,gw j.tb,d.slot,d.turn⟩).toList hO7 rfl);exact kX (o:=⟨1,d.who,d.track,d.ssrc,A,cap,zs,j.n,gw j.tb,d.slot,d.turn⟩) (aq:=x.asked) H.out hn hO7 fo ((hwe.symm ▸ HWC.out).below hb7) (.inl rfl) (λg hg=> .inl hg) ((HDC.out).below hb7) (qb.chg (w:=w5) HZC.out h7 iF) ((HCC.out).trans (h7.mono λ_ _ q=>q.elim)) (ei w7 w.heap.size 0 (qL ⟨1,d.who,d.track,d.ssrc,A,cap,zs,j.n,gw j.tb,d.slot,d.turn⟩).toList) (λd' e=>qR)
  |false=>refine Xm;exact kX (o:=oh) (aq:=x.asked) H.out hn hOc fo (hwe.symm ▸ HWC.out) (.inl rfl) (λg hg=> .inl hg) (HDC.out) wI (HCC.out) (ei w5 w.heap.size 0 (qL oh).toList) (λd' e=>qR)
 .have hJ2:=(HX.out.now j hn).jb
  go_upto_region 21 with fail;have hb4:ag af u3 (u3.alloc (.cells (eW d).toArray 305)):=bu;refine Yu;refine rl 16 (λw'=>Bk w' x.W (mV K x j.at') 164/\Bk w' j.at' (ki j) 219/\Bk w' V (eW d).toArray 198) (λw0_ hc0=>?_);refine YD;refine gN;refine E0;refine(Ir ((HX.out.now j hn).t.below hGz.none) d.track d.layer).mono ?_;rintro r w1_ ⟨ss,is,rfl,s0,s1,hbw1_⟩;refine Af;have hV:=ae hc1 hV id;have hW2:=ae hc1 hW2 id;have hJ2:=ae hc1 hJ2 id;have hO2:=ae hc1 hO2 id;have hGz:=ag.trans hGz hc1;refine mz;refine AC;refine tk 15 ?_;refine QO ?_;have HX5:=OH (HX.out.below hGz.none);have HD5:=OH ((HDX.out.below hGz.none).mono (Xb0 N 2));have HC5:=OH ((HGW.out.trans hGz).mono λ_ _ q=>q.elim:ag (λk=>x.own k\/iB D S R Mm k) w w1_);have hwe:=wM hn;clear hGz hb4 hc0 hc1 hH HX HDX HGW hJ2;generalize w1_=w5 at *;obtain⟨a,ha⟩:∃a,(nB x.asked ss).getD 0=a:=⟨_,rfl⟩
  have hlk:=HX5.out.am.run_look lY underlying161 (jR w5) (x:=ss) (ln s0 s1) false (v:=JI a) zt110 rfl;refine qu;refine EW;obtain⟨b1,f1⟩:∃b,decide (0<a)=b:=⟨_,rfl⟩
  by_cases hq:is=true/\b1=false
  .obtain⟨rfl,rfl⟩:=hq
   obtain⟨u6,hrun,hMu,hcu,hzu⟩:=HX5.out.am.run_put lY underlying161 (x:=ss) (ln s0 s1) (JI (wrap64 (a+1)));rw[show jv (amL x.asked) ss (JI (wrap64 (a+1)))=_ from put_G (λt=>Xb5 .i64 t) x.asked ss (wrap64 (a+1))]at hMu;have HU:=OH (HX5.out.askd hcu hMu);have hV6:=ae hcu hV (HX5.out.am.ne hV).symm;have hO6:=ae hcu hO2 (HX5.out.am.ne hO2).symm;have hc6:ag (λk=>x.own k\/iB D S R Mm k) w u6:=HC5.out.trans (hcu.mono λi _ e=> .inl (.inr (.inr (.inr (.inr (.inl e))))));have hd6:=HD5.out.chg hcu (λk e=>HDO.out k (.inr (.inr (.inr (.inr (.inl e)))))) (λk cur e q=>HX5.out.am.ne q e.symm);have HC6:=OH hc6;have HD6:=OH hd6;have hW6:=ae hcu hW2 (HX5.out.am.ne hW2).symm;go_upto_region 25 with fail;clear hrun hMu hcu hzu cV fV zV cW fW zW hV hW2 hO2 hc6 hd6 HC5 HD5 HX5;obtain⟨cV,fV,zV⟩:=ab hV6;have hL:(u6.alloc (.cells (kO {gE 4 with media:=ss}) 113)).heap[u6.heap.size]?=OC (kO {gE 4 with media:=ss}) 113:=bZ;have hb7:ag af u6 (u6.alloc (.cells (kO {gE 4 with media:=ss}) 113)):=bu;have hpt:=wU hL (λW _=>Hr W ss s0 s1) ⟨none,0,0,none,0,0,none,0,0,none,0,0,rfl,rfl,rfl,rfl⟩;have HPT:=OH hpt;have HB7:=OH hb7;clear hL hpt hb7;refine ay;refine HPT.out.mono ?_;rintro r w8 ⟨A,cap,zs,err,rfl,hbo,hby,hzl,hb8⟩;have hc8:=HB7.out.next hb8;have hVc:=ae hc8 hV6 id;have hOc:=ae hc8 hO6 id;have HWC:=OH (HU.out.below hc8.none);have HDC:=OH (HD6.out.below hc8.none);have HZC:=OH (show BR w8 0 (.slice A zs.length cap) zs/\aG zs/\zs.length<=40000 from⟨(mR hbo).mono kn,hby,oM⟩);have HCC:=OH (HC6.out.trans (hc8.mono λ_ _ q=>q.elim));have hwe:({ri x j j.todo j.v with asked:=pI x.asked ss (wrap64 (a+1))}:Wk)= {x with asked:=pI x.asked ss (wrap64 (a+1))}:=by rw[wM hn]
   clear hbo hby hzl hb8 hc8 cV fV zV hV6 hO6 hW6 HPT;obtain⟨cV,fV,zV⟩:=ab hVc;refine ay;refine(Cr HWC.out hn d 2 0 ss A zs.length cap).mono ?_;rintro r w7 ⟨rfl,hb7⟩;have h7:ag af w8 w7:=.of hb7;refine LU;refine wY underlying68 ?_ (h1:=aK (qL ⟨2,0,d.track,ss,A,cap,zs,j.n,gw j.tb,d.slot,d.turn⟩).toList hO7 rfl);exact kX (o:=⟨2,0,d.track,ss,A,cap,zs,j.n,gw j.tb,d.slot,d.turn⟩) (aq:=pI x.asked ss (wrap64 (a+1))) H.out hn hO7 fo ((hwe.symm ▸ HWC.out).below hb7) (.inl rfl) (λg hg=> .inl hg) ((HDC.out).below hb7) (qb.chg (w:=w8) HZC.out h7 iF) ((HCC.out).trans (h7.mono λ_ _ q=>q.elim)) (ei w7 w.heap.size 0 (qL ⟨2,0,d.track,ss,A,cap,zs,j.n,gw j.tb,d.slot,d.turn⟩).toList) (λd' e=>qR)
  .have h3:is=false\/is=true/\b1=true:=by
    cases is
    .exact jm
    .cases b1
     .exact absurd ⟨rfl,rfl⟩ hq
     .exact .inr ⟨rfl,rfl⟩
   clear hq;rcases h3 with rfl|⟨rfl,rfl⟩;all_goals
    obtain⟨cO,fO,zO⟩:=ab hO2;go_wp2_with fail;refine wY underlying68 ?_ (h1:=aK (qL oh).toList hO2 rfl);exact kX (o:=oh) (aq:=x.asked) H.out hn hO2 fo (hwe.symm ▸ HX5.out) (.inl rfl) (λg hg=> .inl hg) (HD5.out) wI (HC5.out) (ei w5 w.heap.size 0 (qL oh).toList) (λd' e=>qR)
end
abbrev wk0(K:Kw)(x:Wk):Array Value:=#[OV K.A,OV K.P,OV K.B,JI x.sh,OV x.Q,nA x.tb,.pointer none,nA x.nx,JI x.ph,.map (some x.cm),.map (some x.am),JI x.c0,JI x.c1,JI x.c2,JI x.c3,JI x.c4]
abbrev noO:Ending:=aA (.tuple #[.agg (qL oh),.bool false])
section
variable {w w' u wr:World}{N:Nat}{M:Nat->Prop}{K:Kw}{x x':Wk}{j:Jb}
theorem aL.wn(h:aL w N M K x)(hn:x.now=none):w.heap[x.W]?=OC (wk0 K x) 164:=by have:=h.wb;simp only[ou,Po,hn,Option.map_none]at this;exact this
theorem aL.que{ps:List Ca}{a:Nat}{cur:Array Value}(h:aL w N M K x)(hc:ag (λj=>j=x.Q\/j=x.R) w w')(hq:eD w' x.Q x.R 246 157 2 x.L a (ps.map cwC) cur)(hp:∀p∈ps,p∈x.pk):aL w' N M K {x with pk:=ps}:=by
 refine WP;obtain⟨a0,c0,q0⟩:=h.q;have hne:∀ {i:Nat} {c:Array Value} {t:TypeId},w.heap[i]?=OC c t->t≠246->t≠157->¬(i=x.Q\/i=x.R):=λq t1 t2 e=>by
  rcases e with e|e
  .subst e
   exact au q0.q t1.symm q
  .subst e
   exact au q0.r t2.symm q
 have hmn:∀ {i:Nat} {L:List (Int×Value)},bH w prog 52 (Xb5 .u32) (OI .u32) i L->¬(i=x.Q\/i=x.R):=λm e=>by
  rcases e with e|e
  .exact m.ne q0.q e
  .exact m.ne q0.r e
 exact⟨ae hc h.wb (hne h.wb dM dM),⟨a,cur,hq⟩,λp q=>h.pk' hS hc p (hp p q),h.tb' hS hc h.tb,h.tb' hS hc h.nx,h.jb' hS hc (λj hj=>⟨hne (h.now j hj).jb dM dM,λg hg=>(λ⟨_,_,_,k⟩=>hne k dM dM) ((h.now j hj).v.block hg)⟩),h.cm.chg hc (hmn h.cm),h.cb,h.am.chg hc (hmn h.am),h.ne,h.sh,h.mo' hc λi q=> .inl q⟩
theorem pk0_ok(w:World):yC w rk:=⟨⟨⟨dM,dM,dM,dM,dM,dM,dM,dM⟩,⟨⟨λ_=>⟨rfl,rfl⟩,λ_ q=>gZ⟩,sM,λ_ q=>gZ⟩,⟨⟨λ_=>⟨rfl,rfl⟩,λ_ q=>gZ⟩,rfl,λ_ q=>gZ⟩,sM,eq _ _,pB⟩,λq=>by simp at q,λq=>by simp at q⟩
abbrev jb0(g:Nat)(p:Ca):Jb:=⟨g,p.n,p.a,p.c,p.zs,false,none,rk,NX,[],.slice none 0 0⟩
theorem aL.job0(h:aL w N M K x)(hn:x.now=none)(hp:BR w 0 (.slice p.a p.zs.length p.c) p.zs/\aG p.zs/\p.zs.length<=1000000)(hg:w.heap.size<=g)(hc:ag (λi=>i=x.W) w w')(hb:w'.heap[x.W]?=OC (mV K x g) 164)(hj:w'.heap[g]?=OC (ki (jb0 g p)) 219) :
  aL w' N M K {x with now:=some (jb0 g p)}/\∀i,({x with now:=some (jb0 g p)}:Wk).own i->x.own i\/w.heap.size<=i:=by
 refine Fk;have ho:∀i,({x with now:=some (jb0 g p)}:Wk).own i->x.own i\/w.heap.size<=i:=λi q=>by
  refine Nc
  .refine Al
   rcases q with q|q
   .exact .inr (q ▸ hg)
   .cases q
 refine fK;refine⟨⟨hb,QW,h.pk' hS hc,h.tb' hS hc h.tb,h.tb' hS hc h.nx,λy hy=>?_,h.cm.chg hc (λe=>h.cm.ne h.wb e),h.cb,h.am.chg hc (λe=>h.am.ne h.wb e),h.ne,h.sh,h.mo' hc ho⟩,ho⟩;refine Al;exact⟨hj,hp.1.chg hc (h.far5 hS),hp.2.1,hp.2.2,λy hy=>(by cases hy),pk0_ok _,.inl ⟨rfl,rfl⟩,sM,sM⟩
theorem Nq(h:aL w N M K x)(hn:x.now=none)(hp:x.pk=[]):az 51 #[OV x.W] w λe w'=>e=noO/\aC w w':=by
 have hW:=h.wn hn;refine fK;rw[hp]at hq;have hpp:=λW (hb:aC w W)=>Bp (hq.kept (S:=af) (.of hb) id id)
 have HP:=OH hpp;refine Vb;refine rT;have hO2:=ae (.of hb2:ag af _ w2) hO0 id;have hG2:=hG0.next hb2;refine qp;have hO3:(w2.alloc (.cells #[JI 0,.slice none 0 0] 157)).heap[w.heap.size]?=_:=ai hO2;refine mA;have hG3:=hG2.alloc (.cells #[JI 0,.slice none 0 0] 157);generalize w2.alloc _=u3 at *;refine Ya;exact⟨rfl,(hG3.call (ei _ w.heap.size 0 (qL oh).toList) λi hi e=>oM).none⟩
theorem Np{ps:List Ca}(h:aL w N M K x)(hn:x.now=none)(hp:x.pk=p::ps):az 51 #[OV x.W] w λe w'=>e=noO/\∃g,aL w' N M K {x with pk:=ps,now:=some (jb0 g p)}/\(∀i,({x with pk:=ps,now:=some (jb0 g p)}:Wk).own i->x.own i\/w.heap.size<=i)/\ag x.own w w':=by
 refine bI;have hW:=h.wn hn;refine fK;rw[hp]at hq;have hpp:=λW (hb:aC w W)=>Bl (v0:=p.n) (v1:=p.a) (vl1:=p.zs.length) (vc1:=p.c) (ys:=ps.map cwC) (hq.kept (S:=af) (.of hb) id id)
 have HP:=OH hpp;refine nF;refine Vb;rintro r w2 ⟨rfl,⟨a2,cur2,hq2⟩,hc2⟩;have HX:=OH ((H.out.below hG0.none).que hc2 hq2 λq hq=>by rw[hp];exact Xa5 _ hq);refine WP;have hO2:=(H.out.below hG0.none).keep (hc2.mono λi _ q=>hS i q) hO0;have HG:=OH ((hG0.mono λ_ _ q=>q.elim:ag x.own w _).trans (hc2.mono λi _ q=>hS i q));refine mA;have ha:ag af w2 (w2.alloc (.cells #[JI p.n,.slice p.a p.zs.length p.c] 157)):=bu;have hB3:(w2.alloc (.cells #[JI p.n,.slice p.a p.zs.length p.c] 157)).heap[w2.heap.size]?=OC #[JI p.n,.slice p.a p.zs.length p.c] 157:=bZ;have hO3:=ae ha hO2 id;have HA:=OH ha;have HY:=OH (HX.out.below ha.none);generalize w2.alloc _=u3 at *;have hW3:u3.heap[x.W]?=OC (wk0 K x) 164:=HY.out.wn hn;refine qw;obtain⟨cB,fB,zB⟩:=ab hB3;go_upto_region 15 with fail;have hWl:=aB hW3;generalize hu4:(u3.setCell _ _).alloc _=u4;have hj4:u4.heap[u3.heap.size]?=OC (ki (jb0 u3.heap.size p)) 219:=by rw[←hu4];exact bZ (h:=ao _ _ _ sM)
 have hw4:u4.heap[x.W]?=OC (mV K {x with pk:=ps} u3.heap.size) 164:=by rw[←hu4];exact bZ
 have hc4:ag (λi=>i=x.W) u3 u4:=by rw[←hu4];exact bu
 have hO4:=jH hc4 hW3 hO3;obtain⟨f1,f2⟩:=HY.out.job0 (p:=p) hn (by have h9:=(H.out.pk' (S:=x.own) (λ_=>id) (HG.out.trans (HA.out.mono λ_ _ q=>q.elim))) p (by rw[hp];exact List.mem_cons_self);exact h9) fo hc4 hw4 hj4;have HF:=OH f1;have HF2:=OH f2;have HC4:=OH (((HG.out.trans (HA.out.mono λ_ _ q=>q.elim)).trans (hc4.mono λi _ e=> .inl e)));have hz3:w.heap.size<=u3.heap.size:=Xa8 HG.out.size HA.out.size;obtain⟨cO,fO,zO⟩:=ab hO4
 skip
 refine Vu;have hf:=ei u4 w.heap.size 0 (qL oh).toList;exact⟨rfl,_,HF.out.else hO4 (λq=>by have:=(H.out.mo _ q).1;omega) hf,λi q=>(HF2.out i q).imp id (Xa8 hz3),HC4.out.call hf λi hi e=>oM⟩
end
section
variable {w w' u wr:World}{N:Nat}{M:Nat->Prop}{K:Kw}{x x':Wk}{j:Jb}
theorem wD.wrap(h0:aL w N M K x)(h:wD u N M K x j BP LP ws wt e wr)(hb:ag af w u)(hO:wr.heap[O]?=OC c 68)(hOl:w.heap.size<=O)(hf:ag (λi=>i=O) wr w'):wD w N M K x j BP LP ws wt e w':=by
 obtain⟨a,y,b,c1,d,e1,f⟩:=h;refine⟨a,y,b,c1.else hO (λq=>by have:=(h0.mo _ q).1;omega) hf,λi q=>(d i q).imp id (Xa8 hb.size),((hb.mono λ_ _ q=>q.elim:ag (λi=>x.own i\/i=LP) w u).trans e1).call hf λi hi q=>oM,?_⟩;rcases f with⟨f1,f2,f3⟩|⟨p,s,f1,f2⟩
 .exact .inl ⟨f1,f2.chg hf uH uH uH,f3⟩
 .exact .inr ⟨p,s,f1.chg hf uH uH uH,f2⟩
theorem lf.wrap(h0:aL u N M K x)(hs:w.heap.size<=u.heap.size)(h:lf u N M K x j th D S R Mm n s dx e wr)(hO:wr.heap[O]?=OC c 68)(hOl:u.heap.size<=O)(hf:ag (λi=>i=O) wr w'):lf u N M K x j th D S R Mm n s dx e w':=ZF
theorem Nn(h:aL w N M K x)(hn:x.now=some j)(hN:N<=100000)(hl:j.looks=false)(ht:j.todo=[])(hp:br w BP K.P LP ws wt)(hM:¬M LP)(hs:x.sh<ws.length)(hsl:ws[x.sh].looks=false) :
  az 51 #[OV x.W] w λe w'=>e=noO/\wD w N M K x j BP LP ws wt (.returned (.tuple #[])) w':=by
 refine bI;have hW:=h.wj hn;have hJ:=(h.now j hn).jb;simp only[ki,hl]at hJ;have hlk:=λW (hb:ag af w W)=>Ro (h.below hb.none) hn hN hl ht (hp.below hb.none) hM hs hsl
 have HL:=OH hlk;refine nL;refine ME;refine uM;refine Fe;refine ay;refine(HL.out _ hG0).mono ?_;rintro r w3 hlook;have hr:=hlook.1;subst hr;have hc3:ag (λi=>x.own i\/i=LP) (w.alloc (.cells #[JI 0,JI 0,JI 0,JT 0,.slice none 0 0,JI 0,JU 0,JI 0,JT 0] 68)) w3:=by obtain⟨_,_,_,_,_,e1,_⟩:=hlook;exact e1
 have hO3:=ae hc3 hO0 λq=>q.elim (λq=>(H.out.below hG0.none).off (λ_=>id) (t:=68) dM _ _ q hO0) λq=>au (HP.out.below hG0.none).l (show(317:TypeId)≠68 by decide) (q ▸ hO0)
 have HK:=OH hlook;have HG:=OH hG0;refine qp;refine Ya;exact⟨rfl,HK.out.wrap H.out HG.out hO3 fo (ei _ w.heap.size 0 (qL oh).toList)⟩
theorem Nl(h:aL w N M K x)(hn:x.now=some j)(hl:j.looks=true)(ht:j.todo=[])(hp:br w BP K.P LP ws wt)(hM:¬M LP)(hs:x.sh<ws.length)(hsl:ws[x.sh].looks=true) :
  az 51 #[OV x.W] w λe w'=>e=noO/\aL w' N M K {x with now:=none,c3:=wrap64 (x.c3+1)}/\(∀i,({x with now:=none,c3:=wrap64 (x.c3+1)}:Wk).own i->x.own i)/\br w' BP K.P LP (ws.set x.sh ⟨ws[x.sh].at',ws[x.sh].sees,false⟩) wt/\ag (λi=>x.own i\/i=LP) w w':=by
 refine rS;have hW:=h.wj hn;have hjb:=h.now j hn;obtain⟨A,cap,hv⟩:=hjb.v.slice;have hJ:=hjb.jb;rw[ht]at hv;simp only[ki,hl,hv,List.map_nil,Xa6]at hJ;clear h hjb hv hp;refine ME;refine uM;refine Fe;refine jO;refine sj;have hs1:ag (λi=>i=x.W) w u:=lT
 have hW2:u.heap[x.W]?=OC (mV K {x with c3:=wrap64 (x.c3+1)} j.at') 164:=jn
 have hO2:u.heap[w.heap.size]?=OC #[JI 0,JI 0,JI 0,JT 0,.slice none 0 0,JI 0,JU 0,JI 0,JT 0] 68:=by rw[←hu];exact bZ (h:=ao _ _ _ sM)
 have HPU:=OH (HP.out.chg hs1 od od od);have HS1:=OH hs1;have hW2':=hW2;clear hu hs1 cW fW zW cJ fJ zJ hJ hO0 hG0;have hGd:=ag.refl af u;refine rl 9 (λw'=>Bk w' x.W (mV K {x with c3:=wrap64 (x.c3+1)} j.at') 164) (λw0_ hc0=>?_);have hW2:=ae hc0 hW2 id;have hO2:=ae hc0 hO2 id;refine AE;refine oL;refine(Rx (HPU.out.below hGd.none) x.sh x.sh rfl hs hsl).mono ?_;rintro r w9 ⟨rfl,hP9,hc9⟩;refine oK;have HX:=OH hc9;have hW3:=jH hc9 (HPU.out.below hGd.none).l hW2;have hO3:=jH hc9 (HPU.out.below hGd.none).l hO2;have HG:=OH (((HS1.out.mono λi _ e=> .inl (.inl e):ag (λi=>x.own i\/i=LP) w u).trans (hGd.mono λ_ _ q=>q.elim)).trans (hc9.mono λi _ e=> .inr e));have HPN:=OH hP9;have hX9:aL w9 N M K {x with c3:=wrap64 (x.c3+1)}:=((H.out.cntJ hn (x.c0,x.c1,x.c2,wrap64 (x.c3+1),x.c4) HS1.out hW2').below hGd.none).else (HPU.out.below hGd.none).l hM hc9;have HX9:=OH hX9;clear hX9 hc9 hP9 hGd hc0 hH hW2 hO2;refine qw;obtain⟨cO,fO,zO⟩:=ab hO3;go_upto_region 15 with fail;generalize hv:World.setCell _ _ _=v;have hc4:ag (λi=>i=x.W) w9 v:=by rw[←hv];exact bu
 have hW4:v.heap[x.W]?=OC (ou K {x with now:=none,c0:=x.c0,c1:=x.c1,c2:=x.c2,c3:=wrap64 (x.c3+1),c4:=x.c4}) 164:=by rw[←hv];exact bZ
 have hO4:=jH hc4 hW3 hO3;obtain⟨f1,f2⟩:=HX9.out.fin (x.c0,x.c1,x.c2,wrap64 (x.c3+1),x.c4) hc4 hW4;have HF1:=OH f1;have HF2:=OH f2;have HC4:=OH hc4;have HPV:=OH (HPN.out.chg hc4 (aJ hW3 dM) (aJ hW3 dM) (aJ hW3 dM));clear hv f1 f2 cW fW zW cO fO zO hW4 hc4 hW3 hO3;obtain⟨cO,fO,zO⟩:=ab hO4
 skip
 refine Vu;have hf:=ei v w.heap.size 0 (qL oh).toList;exact⟨rfl,HF1.out.else hO4 (λq=>by have:=(H.out.mo _ q).1;omega) hf,HF2.out,HPV.out.chg hf (aJ hO4 dM) (aJ hO4 dM) (aJ hO4 dM),(HG.out.trans (HC4.out.mono λi _ e=> .inl (.inl e))).call hf λi hi e=>oM⟩
end
section
variable {w w' u wr:World}{N:Nat}{M:Nat->Prop}{K:Kw}{x x':Wk}{j:Jb}
theorem lf.base(h:lf u N M K x j th D S R Mm n s dx e wr)(hc:ag x.own w u):lf w N M K x j th D S R Mm n s dx e wr:=by obtain⟨y,o,b,dy,jy,a1,a2,a3,a4,a5,a6,a7,a8,a9⟩:=h;exact⟨y,o,b,dy,jy,a1,a2,a3,a4,λi q=>(a5 i q).imp id (Xa8 hc.size),a6,a7,(hc.mono λ_ _ q=> .inl q:ag (λi=>x.own i\/iB D S R Mm i) w u).trans a8,a9⟩
theorem lf.fin(h:lf w N M K x j th D S R Mm n s dx e wr)(h0:aL w N M K x')(hO:wr.heap[O]?=OC c 68)(hOl:w.heap.size<=O)(hf:ag (λi=>i=O) wr w'):lf w N M K x j th D S R Mm n s dx e w':=ZF
def PopC(u:World)(j:Jb)(rest:List Th)(rl g:Nat)(wx:World):Prop:=∃ (A1:Option Addr) (c1:Nat),wx.heap[j.at']?=OC (ki {j with looks:=true,todo:=rest,v:=.slice A1 rl c1}) 219/\cE wx 0 224 (.slice A1 rl c1) (rest.map ov)/\(Xb6 A1 rl c1).ownBlock=some g/\ag (λi=>i=j.at') u wx
theorem popc{rl off:Nat}{x:Value}(hq:cE w 0 224 (.slice (some ⟨g,off,none⟩) (rl+1) cap) (x::rest.map ov))(hrl:(rest.map ov).length=rl)(hJ:w.heap[j.at']?=OC #[JI j.n,.slice j.a j.zs.length j.c,.bool true,nA j.tb,.bool j.med.mark,JW j.med.ty,JS j.med.seq,JT j.med.time,JT j.med.ssrc,.slice j.med.a1 j.med.cs.length j.med.c1,.slice j.med.a2 j.med.xs.length j.med.c2,.slice j.med.a3 j.med.zs.length j.med.c3,JI j.med.pad,JT j.rt.ssrc,JI j.rt.track,JI j.rt.frm,JI j.rt.layer,JI j.rt.shard,.slice (some ⟨g,off,none⟩) (rl+1) cap] 219)(o c:Nat)(hc:(cap=1/\o=off/\c=0)\/(cap≠1/\o=off+1/\c=cap-1)) :
  PopC w j rest rl g (w.setCell ⟨j.at',18,none⟩ (.slice (some ⟨g,o,none⟩) rl c)).drew:=by
 have hq2:cE w 0 224 (.slice (some ⟨g,o,none⟩) rl c) (rest.map ov):=by
  have h9:=kH hq o (hc.imp (λq=>⟨q.1,q.2.1⟩) λq=>⟨q.1,q.2.1⟩);rw[hrl]at h9;rcases hc with⟨q1,_,q2⟩|⟨_,_,q2⟩
  .subst q1 q2
   exact h9
  .subst q2
   exact h9
 refine⟨some ⟨g,o,none⟩,c,bZ,((mF hJ dM hq2).drew),rfl,bu⟩
theorem Nm(h:aL w N M K x)(hn:x.now=some j)(hN:N<=99998)(hk:j.looks=true)(ht:j.todo=th::rest)(htl:j.todo.length<=900000000)(hA:At w K.A LA 124 352 l live)(hl:l.length<=64)(hi:o9 l th.d.slot th.d.turn=some i)(hx:∀hi:i<l.length,l[i].x=OV D)(hd:dC w N D S R Mm n s dx)(hdo:∀k,x.own k->¬iB D S R Mm k)(hdm:∀k,M k->¬iB D S R Mm k) :
  az 51 #[OV x.W] w λe w'=>∃v,(∀i,(ri x j rest v).own i->x.own i)/\lf w N M K (ri x j rest v) {j with todo:=rest,v:=v} th D S R Mm n s dx e w':=by
 refine bI;have HA:=OH hA;refine ku;have hW:=h.wj hn;have hjb:=h.now j hn;have hq:=hjb.v;have hth:th.ok:=by have:=hjb.q th KC;cases th<;>exact this
 obtain⟨A,cap,hv⟩:=hq.slice;rw[ht,Xa7,Xa1]at hv;rw[hv,ht,Xa7]at hq;obtain⟨g,off,rfl,_,hgl,hcl,hfz⟩:=mX hq (j:=0) sM;obtain⟨_,hcp,_⟩:=sV hq;have hJ:=hjb.jb;simp only[ki,hk,hv]at hJ;obtain⟨rl,hrl⟩:∃n,(rest.map ov).length=n:=⟨_,rfl⟩
 rw[hrl]at hJ hcp hq hv;have e0:decide ((0:Int)<((rl+1:Nat):Int))=true:=sM;rw[Xa4,Xa9]at hcl;rw[Xa9]at hfz;refine nF;refine nD;have HRL:=OH hrl;clear h hA hd hjb hq hv hrl;refine ME;refine uM;obtain⟨tv,htv⟩:∃v,ov th=v:=⟨_,rfl⟩
 rw[htv]at hcl;have HTV:=OH htv;clear htv;refine Fe;refine yX;have hgt:=hG0;have hO2:=hO0;generalize hu0:w.alloc _=u0 at *;have hW2:=ae hgt hW id;have hJ2:=ae hgt hJ id;have HG0:=OH hgt;clear hu0 hO0 hG0 cW fW zW cJ fJ zJ hW hJ hcl hfz hgt;generalize Xb6 (some ⟨g,off,none⟩) (rl+1) cap=sv;go_cut [] from 83 to 96 (λwx=>PopC u0 j rest rl g wx);case first=>
  have hqu:=HQ.out.below HG0.out.none;have HQU:=OH hqu;clear hqu;have h11:(1:Int)<=(rl:Int)+1:=oM;rcases Decidable.em (cap=1)with hc1|hc1;all_goals
   refine rg 14 (λw'=>Bk w' x.W (mV K x j.at') 164/\Bk w' j.at' #[JI j.n,.slice j.a j.zs.length j.c,.bool true,nA j.tb,.bool j.med.mark,JW j.med.ty,JS j.med.seq,JT j.med.time,JT j.med.ssrc,.slice j.med.a1 j.med.cs.length j.med.c1,.slice j.med.a2 j.med.xs.length j.med.c2,.slice j.med.a3 j.med.zs.length j.med.c3,JI j.med.pad,JT j.rt.ssrc,JI j.rt.track,JI j.rt.frm,JI j.rt.layer,JI j.rt.shard,.slice (some ⟨g,off,none⟩) (rl+1) cap] 219) ⟨bk,bk⟩ (λhH=>?_);refine tk 0 ?_;refine tk 1 ?_;refine tk 2 ?_;refine tk 3 ?_;refine tk 4 ?_;refine tk 5 ?_;refine tk 6 ?_;refine tk 7 ?_;refine tk 8 ?_;refine tk 9 ?_;refine tk 10 ?_;refine tk 11 ?_;refine tk 12 ?_;refine tk 13 ?_;refine la (λK hK=>?_);go_simp;refine hK.out _ _ ?_;clear hK K;go_wp2_with fail;go_meet;first|exact popc HQU.out HRL.out hJ2 off 0 (.inl ⟨hc1,rfl,rfl⟩)|exact popc HQU.out HRL.out hJ2 (off+1) (cap-1) (.inr ⟨hc1,rfl,rfl⟩)
 case rest=>
  obtain⟨A1,c1,hJ3,hq3,hb3,hc3⟩:=hcut;have hj3:ag j.own u0 wc:=hc3.mono λi _ e=> .inl e
  have HU0:=OH (H.out.below HG0.out.none);have hJU:=HU0.out.now j hn;have hjb:yE wc M {j with looks:=true,todo:=rest,v:=.slice A1 rl c1}:=⟨hJ3,hJU.z.chg hj3 (HU0.out.far5 nZ),hJU.b,hJU.l,HU0.out.tb' nZ hj3 hJU.t,hJU.m.chg hj3 (HU0.out.off nZ) (HU0.out.off nZ) (HU0.out.far5 nZ),hq3,λy hy=>hJU.q y (by rw[ht];exact Xa5 _ hy),by have:=hJU.tl;rw[ht,Xa1]at this;dsimp only;omega⟩
  have hvo:∀g',(Xb6 A1 rl c1).ownBlock=some g'->j.v.ownBlock=some g':=λg' e=>by rw[hb3]at e;rw[HV.out,←e];rfl
  obtain⟨f1,f2⟩:=HU0.out.job (j':= {j with looks:=true,todo:=rest,v:=.slice A1 rl c1}) hn rfl hj3 hjb λg' e=> .inl (hvo g' e)
  have hje:({j with looks:=true,todo:=rest,v:=.slice A1 rl c1}:Jb)= {j with todo:=rest,v:=.slice A1 rl c1}:=by rw[←hk]
  rw[hje]at f1 f2;have HF:=OH f1;have hown:∀i,(ri x j rest (.slice A1 rl c1)).own i->x.own i:=λi q=>by
   rcases SJ.own (B:=i+1) hn (λg' e=> .inl (hvo g' e)) i q with r|r
   .exact r
   .omega
  have hA5:=(HA.out.below HG0.out.none).chg hc3 (λe=>au hJ2 (show(219:TypeId)≠124 by decide) (e ▸ (HA.out.below HG0.out.none).p)) (λe=>au hJ2 (show(219:TypeId)≠352 by decide) (e ▸ (HA.out.below HG0.out.none).l));have hD5:=(HD.out.below HG0.out.none).chg hc3 (λk e=>hdo k (Jb.sub hn k (.inl e))) (ci hJ2 dM);have hds:=Rs (x:=ri x j rest (.slice A1 rl c1)) (j:= {j with todo:=rest,v:=.slice A1 rl c1}) HF.out rfl hN hth (by rw[ht,Xa1]at htl;dsimp only;omega) hA5 hl hi hx hD5 (λk q=>hdo k (hown k q)) hdm;have HDS:=OH hds;have hO3:=jH hc3 hJ2 hO2;have hGc:ag (ri x j rest (.slice A1 rl c1)).own w wc:=(HG0.out.mono λ_ _ q=>q.elim:ag _ w u0).trans (hc3.mono λi _ e=>Jb.sub2 i (.inl e));have HGC:=OH hGc;have hOl:w.heap.size<=w.heap.size:=Xb1 _;have HD9:=OH hD5;clear hds hD5 hA5 f1 f2 hje hvo hjb hJU hj3 hc3 hq3 hJ3 hb3 hW2 hJ2 hO2 hGc;rw[HTV.out.symm];refine ay;refine HDS.out.mono ?_;rintro r w5 hd5;obtain⟨y,o,b,dy,jy,hr,q1,q2,q3,q4,q5,q6,q7,q8⟩:=hd5;subst hr;have hO5:=ae q7 hO3 λq=>q.elim (λq=>HF.out.off (λ_=>id) (t:=68) dM _ _ q hO3) λq=>eC HD9.out hO3 dM q
  have HK:=OH (show lf wc N M K (ri x j rest (.slice A1 rl c1)) {j with todo:=rest,v:=.slice A1 rl c1} th D S R Mm n s dx (.returned (.tuple #[.agg (qL o),.bool b])) w5 from⟨y,o,b,dy,jy,rfl,q1,q2,q3,q4,q5,q6,q7,q8⟩);clear q1 q2 q3 q4 q5 q6 q7 q8 hO3 HDS;obtain⟨cO,fO,zO⟩:=ab hO5;refine ay;refine wY underlying68 ?_ (h1:=aK (qL o).toList hO5 rfl);exact⟨_,hown,(HK.out.base HGC.out).fin H.out hO5 fo (ei w5 w.heap.size 0 (qL o).toList)⟩
end
end Go.Proofs.YtnpancjkjheffaaGreat
