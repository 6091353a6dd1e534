/- Part 22 of the proof of TopSafe. No condition. -/
import Derived.Test.YtnpancjkjheffaaGreatP19
namespace Go.Proofs.YtnpancjkjheffaaGreat
set_option linter.unusedVariables false
set_option linter.unusedSimpArgs false
set_option maxRecDepth 100000
set_option maxHeartbeats 8000000
open Go.RowKit
open Go.Proofs.Tryz
open _root_.List renaming getElem_mem->PI,getElem?_eq_getElem->Xa0,length_append->Xa1,length_nil->Xa2,length_cons->Xa3,length_map->Xa4,mem_of_find?_eq_some->Xa5,mem_of_getElem?->Xa6,mem_singleton->Xa7,mem_append->Xa8,length->Xa9
open _root_.Nat renaming le_succ->Xb0,lt_or_ge->Xb1
open _root_.Option renaming isSome_iff_exists->Xb2,toList->Xb3,some->Xb4
open Calls renaming mono->Xb5
variable {b:Bool}{p:Ca}{c s s':Cs}{X:Cx}{id:Int}{rs:List (Int×Int×Int)}{inq':List Ca}{L L1:List Dd.En}{zs:List Int}{rest:List Pd}{l:List Wk}{N' cap i:Nat}{ND:Nat->Prop}{A:Option Addr}{o:Ou}{q:Rq}{T:Tb}{x x' y:Wk}{w:World}{z:Ws}
structure nY(X:Cx)(k:Int)(z:Ws):Prop where
 c:fH X k z.c
 w:∀x∈z.wk,ji z.c x
 ak:∀a∈z.c.acks,0<=a.1/\a.1.toNat<X.n
 sh:∀ (i:Nat) (h:i<z.wk.length),z.wk[i].sh=i
 wl:z.wk.length=X.n
section
variable {X:Cx}{k:Int}{z:Ws}{c':Cs}{ev':List Ev}{dn':List Dx}
theorem fH.cong{ws':List Pw}{tabs':Nat->List Tb}{acks':List (Int×Int)}{last':List Int}(h:fH X k c):fH X k {c with inq:=inq',ws:=ws',tabs:=tabs',acks:=acks',last:=last'}:=⟨h.de,h.sl,h.se,h.ep,h.t,h.ll,h.sn,h.pn,h.pd,h.sh⟩
theorem fH.sweep(h:fH X k c)(hl:∃x,ji c x):fH X k (QL c):=by
 have hlen:(eb (c.l,c.live) (dw c.wt (jL c.ws))).1.length=c.l.length:=pV _ _;have htn:∀ (rs:List (Int×Int)) (s:List Sl×Int),(∀x∈s.1,0<=x.turn/\x.turn<=k)->∀x∈ (eb s rs).1,0<=x.turn/\x.turn<=k:=λrs=>by
  induction rs with
  |nil=>
   exact λs hs=>hs
  |cons r rs ih=>
   refine λs hs=>ih (gR s r) λx hx=>?_
   unfold gR at hx;split at hx
   .next i hi=>
    refine Am;dsimp only;refine lQ;obtain⟨_,hil,_,ht⟩:=kY hi;split
    .have:=hs _ (PI hil)
     rw[ht]at this;exact this
    .exact hs _ (PI um)
   .exact hs x hx
 obtain⟨x,hx⟩:=hl;obtain⟨p,p1,p2,p3,p4⟩:=hx.ws;obtain⟨o1,o2⟩:=OL c.ws p (Xa6 p1);exact⟨h.de,h.sl.sweep _,⟨h.se.ks,h.se.k1,h.se.k2,h.se.s1,h.se.s2,htn _ (c.l,c.live) h.se.tn,h.se.ev⟩,h.ep,h.t.sweep λT hT=>by
  have:=hx.tb.le h.ep.1;have e:gw c.t=T.ep:=by rw[hT];rfl
  omega,by dsimp only;rw[hlen];exact h.ll,h.sn,h.pn,h.pd,h.sh⟩
theorem nY.set(h:nY X k z)(hi:i<z.wk.length)(hc:fH X k c')(hw:ji c' x')(hs:x'.sh=z.wk[i].sh)(h1:c'.t=z.c.t/\c'.se=z.c.se/\c'.wt=z.c.wt)(h2:∀j,j≠z.wk[i].sh->c'.ws[j]?=z.c.ws[j]?/\c'.tabs j=z.c.tabs j)(ha:∀a∈c'.acks,0<=a.1/\a.1.toNat<X.n):nY X k ⟨c',z.wk.set i x',dn',ev'⟩:=by
 refine⟨hc,λy hy=>?_,ha,λj hj=>?_,by simpa using h.wl⟩
 .obtain⟨j,hj,rfl⟩:=List.getElem_of_mem hy
  dsimp only;refine lQ;have hj':j<z.wk.length:=by simpa using hj
  split
  .exact hw
  .next e=>obtain⟨a,b⟩:=h2 z.wk[j].sh (by rw[h.sh,h.sh];omega);exact(h.w _ (PI hj')).other h1.1 h1.2.1 h1.2.2 a b
 .dsimp only
  refine lQ;have hj':j<z.wk.length:=by simpa using hj
  split
  .next e=>subst e;rw[hs];exact h.sh i hi
  .exact h.sh j hj'
theorem nY.obey(h:nY X k z)(hi:i<z.wk.length)(hr:j0 X z.c z.wk[i] c' x'):nY X k ⟨c',z.wk.set i x',dn',ev'⟩/\x'.L=z.wk[i].L/\c'.d=z.c.d:=by
 have hs:=h.sh i hi;have hw:=h.wl;obtain⟨a,b,l,e,f,g,p⟩:=(h.w _ lm).obey (X:=X) oM hr;have hc:fH X k c'/\c'.d=z.c.d:=by cases hr;exact uP;exact Aq;exact Aq;exact Aq;exact uP
 exact⟨h.set hi hc.1 a b e f (p h.ak),l,hc.2⟩
theorem nY.work(h:nY X k z)(hi:i<z.wk.length)(hr:iR z z.wk[i] c' dn' x' o b):nY X k ⟨c',z.wk.set i x',dn',ev'⟩/\x'.L=z.wk[i].L/\c'.d=z.c.d:=by
 obtain⟨a,b',l,e,f,g,p⟩:=(h.w _ lm).work hr;have hc:fH X k c'/\c'.d=z.c.d:=by cases hr;exact uP;exact uP;exact uP;exact Aq;exact uP;exact Aq
 exact⟨h.set hi hc.1 a b' e f (by rw[p];exact h.ak),l,hc.2⟩
theorem nY.mono{k':Int}(h:nY X k z)(hk:k<=k'):nY X k' z:=⟨h.c.mono hk,h.w,h.ak,h.sh,h.wl⟩
theorem nY.any(h:nY X k z)(hX:ox X):∃x,ji z.c x:=⟨_,h.w _ (PI (show 0<z.wk.length by have:=h.wl;have:=hX.n;omega))⟩
theorem nY.sweep(h:nY X k z)(hX:ox X):nY X k {z with c:=QL z.c}:=⟨h.c.sweep (h.any hX),λx hx=>(h.w x hx).sweep,h.ak,h.sh,h.wl⟩
theorem nY.ask(h:nY X k z):nY X k ⟨{z.c with inq:=inq'},z.wk,dn',ev'⟩:=⟨h.c.cong (ws':=z.c.ws),λx hx=>(h.w x hx).other rfl rfl rfl rfl rfl,h.ak,h.sh,h.wl⟩
theorem Qd(s:List (Int×Int)×List Int):∀a∈ (bB s).1,a∈s.1:=by
 unfold bB;split
 .exact λa q=>q
 .next x r e=>exact λa q=>e ▸ List.mem_cons_of_mem _ q
theorem nY.coll{dn:List Pd}(h:nY X k z)(hp:dn++rest=z.c.ps)(he:jG z.c.L (dn.map Pd.id) L1):nY X k ⟨{z.c with acks:=(bB (z.c.acks,z.c.last)).1,last:=(bB (z.c.acks,z.c.last)).2,ps:=rest,L:=L1},z.wk,dn',ev'⟩:=
 ⟨h.c.coll hp he,λx hx=>(h.w x hx).other rfl rfl rfl rfl rfl,λa ha=>h.ak a (Qd _ a ha),h.sh,h.wl⟩
theorem nY.acc{dn:List yK}(h:nY X k z)(hX:ox X)(hk:0<=k)(hb:∀p∈z.c.inq,aG p.zs)(ha:kh X z.c ND dn rs c'):nY X (k+1) ⟨c',z.wk,dn',ev'⟩/\(c'.d=z.c.d\/∃D∈dn,D.e=0):=by obtain⟨a,b,c,d,e,f⟩:=h.c.acc hX hk hb ha;exact⟨⟨a,λx hx=>(h.w x hx).ad h.c.ep.1 b (by rw[c]) (e _),by dsimp only;rw[d];exact h.ak,h.sh,h.wl⟩,f⟩
theorem ji.pk(h:ji c x)(h1:x'.sh=x.sh)(h2:x'.tb=x.tb)(h3:x'.now=x.now)(h4:x'.nx=x.nx)(h5:x'.ph=x.ph)(h6:x'.c4=x.c4):ji c x':=
 ⟨by rw[h1,h2,h3];exact h.ws,by rw[h2];exact h.tb,by rw[h3];exact h.jb,by rw[h5];exact h.ph,by rw[h5,h4,h2,h1];exact h.nx,by rw[h1,h2];exact h.q,by rw[h1];exact h.qs,by rw[h6];exact h.st⟩
theorem nY.tick(h:nY X k z)(ht:ud z.wk.length z.wk l):nY X k {z with wk:=l}:=by
 obtain⟨t1,t2⟩:=ht;refine⟨h.c,λx hx=>?_,h.ak,λi hi=>?_,by dsimp only;rw[t1];exact h.wl⟩
 .refine WR
  exact(h.w _ (PI hi')).pk rfl rfl rfl rfl rfl rfl
 .have hi':i<z.wk.length:=by dsimp only at hi;omega
  obtain⟨am,e⟩:=(t2 i hi' hi).1 hi';dsimp only;rw[e];exact h.sh i hi'
end
structure d6(X:Cx)(ing sl k N m:Nat)(z:Ws):Prop where
 v:nY X k z
 L:∀x∈z.wk,x.L=ing
 l:z.c.l.length=sl
 N:N<=2*k
 m:m+z.c.ps.length<=3*k
 e:z.ev.length+(dF z.c.ps).length<=6*k
def Did(v:Ev):Prop:=v.k=1/\v.e=0
def yJ(kd:Int)(z z':Ws):Prop:=∃more,z'.ev=z.ev++more/\((∃v∈more,Did v)->kd=11)/\((∀v∈more,¬Did v)->z'.c.d=z.c.d)
section
variable {X:Cx}{ing sl k N m:Nat}{z z':Ws}{kd:Int}{c':Cs}{dn':List Dx}{x':Wk}{es:List Ev}
theorem yJ.none(hd:z'.c.d=z.c.d)(he:z'.ev=z.ev++es)(hk:∀v∈es,v.k≠1):yJ kd z z':=
 ⟨es,he,λ⟨v,hv,q,_⟩=>absurd q (hk v hv),λ_=>hd⟩
theorem yJ.same(hd:z'.c.d=z.c.d)(he:z'.ev=z.ev):yJ kd z z':=.none (es:=[]) hd (by simp[he]) sM
theorem yJ.next{z'':Ws}(h:yJ kd z z')(hd:z''.c.d=z'.c.d)(he:z''.ev=z'.ev):yJ kd z z'':=by obtain⟨more,a,b,c⟩:=h;exact⟨more,he.trans a,b,λq=>hd.trans (c q)⟩
theorem d6.mono{k' N' m':Nat}(h:d6 X ing sl k N m z)(hk:k<=k'):d6 X ing sl k' N m z:=
 ⟨h.v.mono oM,h.L,h.l,Hx,by have:=h.m;omega,by have:=h.e;omega⟩
theorem d6.ask(h:d6 X ing sl k N m z)(he:es.length<=2)(hn:∀v∈es,v.k≠1):d6 X ing sl (k+1) N m ⟨{z.c with inq:=inq'},z.wk,z.dn,z.ev++es⟩/\yJ kd z ⟨{z.c with inq:=inq'},z.wk,z.dn,z.ev++es⟩:=
 ⟨⟨(h.v.mono oM).ask,h.L,h.l,Hx,Ko,by have:=h.e;simp only[Xa1];omega⟩,.none rfl rfl hn⟩
theorem d6.set(h:d6 X ing sl k N m z)(hi:i<z.wk.length)(hv:nY X k ⟨c',z.wk.set i x',dn',z.ev++es⟩)(hL:x'.L=z.wk[i].L)(hd:c'.d=z.c.d)(hl:c'.l=z.c.l)(hp:c'.ps=z.c.ps)(hN:N'<=N+2)(he:es.length<=2)(hn:∀v∈es,v.k≠1) :
  d6 X ing sl (k+1) N' m ⟨c',z.wk.set i x',dn',z.ev++es⟩/\yJ kd z ⟨c',z.wk.set i x',dn',z.ev++es⟩:=
 ⟨⟨hv.mono oM,λx hx=>by
  refine Am;dsimp only;refine lQ;split
  .rw[hL]
   exact h.L _ lm
  .exact h.L _ (PI _),hl ▸ h.l,Hx,by have:=h.m;rw[show(Ws.mk c' (z.wk.set i x') dn' (z.ev++es)).c.ps=z.c.ps from hp];omega,by have:=h.e;rw[show(Ws.mk c' (z.wk.set i x') dn' (z.ev++es)).c.ps=z.c.ps from hp];simp only[Xa1];omega⟩,.none hd rfl hn⟩
theorem d6.pk{pk':List Ca}(h:d6 X ing sl k N m z)(hi:i<z.wk.length)(he:es.length<=2)(hn:∀v∈es,v.k≠1):d6 X ing sl (k+1) N m ⟨z.c,z.wk.set i {z.wk[i]with pk:=pk'},z.dn,z.ev++es⟩/\yJ kd z ⟨z.c,z.wk.set i {z.wk[i]with pk:=pk'},z.dn,z.ev++es⟩:=
 h.set hi (h.v.set hi h.v.c ((h.v.w _ (PI hi)).pk rfl rfl rfl rfl rfl rfl) rfl ⟨rfl,rfl,rfl⟩ (λ_ _=>⟨rfl,rfl⟩) h.v.ak) rfl rfl rfl rfl oM he hn
theorem j0.keep(h:j0 X c x c' x'):c'.l=c.l/\c'.ps=c.ps:=by cases h<;>exact⟨rfl,rfl⟩
theorem iR.keep(h:iR z x c' dn' x' o b):c'.l=z.c.l/\c'.ps=z.c.ps:=by cases h<;>exact⟨rfl,rfl⟩
theorem d6.obey(h:d6 X ing sl k N m z)(hi:i<z.wk.length)(hr:j0 X z.c z.wk[i] c' x'):d6 X ing sl (k+1) N m ⟨c',z.wk.set i x',z.dn,z.ev⟩/\yJ kd z ⟨c',z.wk.set i x',z.dn,z.ev⟩:=by
 obtain⟨a,b,d⟩:=h.v.obey (dn':=z.dn) (ev':=z.ev++ []) hi hr;have:=h.set (kd:=kd) (N':=N) hi a b d hr.keep.1 hr.keep.2 oM sM sM
 rwa [List.append_nil]at this
theorem d6.work(q:Int)(h:d6 X ing sl k N m z)(hi:i<z.wk.length)(hr:iR z z.wk[i] c' dn' x' o b):d6 X ing sl (k+1) (N+2) m ⟨c',z.wk.set i x',dn',z.ev++og q z.wk[i] x' o b⟩/\yJ kd z ⟨c',z.wk.set i x',dn',z.ev++og q z.wk[i] x' o b⟩:=by
 obtain⟨a,b',d⟩:=h.v.work (ev':=z.ev++og q z.wk[i] x' o b) hi hr;refine h.set hi a b' d hr.keep.1 hr.keep.2 oM ?_ λv hv=>?_
 .simp only[og,Xa1]
  split<;>split<;>simp
 .simp only[og,Xa8]at hv
  rcases hv with hv|hv
  .split at hv
   .rw[Xa7.1 hv]
    exact(by decide:(6:Int)≠1)
   .simp at hv
  .split at hv
   .rw[Xa7.1 hv]
    exact(by decide:(7:Int)≠1)
   .simp at hv
theorem J1.ps{ep:Int}(h:J1 X s q ND ep s'):s'.ps=s.ps:=by
 rcases h.2 with⟨_,_,rfl⟩|⟨_,_,_,_,_,_,_,_,_,h⟩
 .rfl
 .rw[h.2.2.2.2.2]
theorem kh.sizes{dn:List yK}(h:kh X s ND dn rs s')(hb:∀p∈s.inq,aG p.zs):s'.l.length=s.l.length/\s'.ps.length<=s.ps.length+1/\dn.length+rs.length+(dF s'.ps).length<=(dF s.ps).length+3:=by
 have hf:=h.few hb;refine⟨?_,?_,?_⟩
 .rcases h.slots with e|⟨i,D,hi,_,e⟩<;>rw[e]
  simp
 .cases h with
  |nil=>
   omega
  |bad=>
   exact Xb0 _
  |seen _ _ _ hps=>have:=congrArg Xa9 hps;simp only[Xa4]at this;dsimp only;omega
  |full=>
   exact Xb0 _
  |no=>
   exact Xb0 _
  |yes _ _ _ _ hd=>have:=hd.ps;dsimp only at this ⊢;rw[this];omega
  |wait _ _ _ _ hd=>have:=hd.ps;dsimp only at this ⊢;rw[this,Xa1];simp
 .cases h with
  |nil=>
   simp
  |bad=>
   dsimp only;exact Fy
  |seen _ _ _ hps hr=>
   dsimp only;simp only[Xa2];omega
  |full=>
   dsimp only;exact Fy
  |no=>
   dsimp only;exact Fy
  |yes _ _ _ _ hd=>have:=hd.ps;dsimp only at this ⊢;rw[this];simp only[Xa3,Xa2];omega
  |wait _ _ _ _ hd _ _ hpd=>have:=hd.ps;dsimp only at this ⊢;rw[this,pH,Xa1,hpd.2.2];simp only[Xa3,Xa2,Xa4];omega
theorem d6.acc{dn:List yK}(h:d6 X ing sl k N m z)(hX:ox X)(hb:∀p∈z.c.inq,aG p.zs)(ha:kh X z.c ND dn rs c') :
  d6 X ing sl (k+1) N (m+2) ⟨c',z.wk,dn',z.ev++dn.map ol++rs.map jK⟩/\yJ 11 z ⟨c',z.wk,dn',z.ev++dn.map ol++rs.map jK⟩:=by
 obtain⟨a,b⟩:=h.v.acc (dn':=dn') (ev':=z.ev++dn.map ol++rs.map jK) hX oM hb ha;obtain⟨s1,s2,s3⟩:=ha.sizes hb;refine⟨⟨a,h.L,s1.trans h.l,Hx,Ko,Uz⟩,dn.map ol++rs.map jK,sM,λ_=>rfl,λq=>?_⟩;rcases b with b|⟨D,hD,e⟩
 .exact b
 .exact absurd ⟨rfl,e⟩ (q (ol D) (List.mem_append_left _ (List.mem_map_of_mem hD)))
theorem d6.coll{dn:List Pd}(h:d6 X ing sl k N m z)(hp:dn++rest=z.c.ps)(he:jG z.c.L (dn.map Pd.id) L1) :
  d6 X ing sl (k+1) N (m+dn.length) {z with c:= {z.c with acks:=(bB (z.c.acks,z.c.last)).1,last:=(bB (z.c.acks,z.c.last)).2,ps:=rest,L:=L1},ev:=z.ev++(dF dn).map jK}/\yJ kd z {z with c:= {z.c with acks:=(bB (z.c.acks,z.c.last)).1,last:=(bB (z.c.acks,z.c.last)).2,ps:=rest,L:=L1},ev:=z.ev++(dF dn).map jK}:=by
 have h1:dn.length+rest.length=z.c.ps.length:=by rw[←hp];simp
 have h2:(dF dn).length+(dF rest).length=(dF z.c.ps).length:=by rw[←hp];simp[dF]
 refine⟨⟨(h.v.coll hp he).mono oM,h.L,h.l,Hx,Ko,Uz⟩,.none rfl rfl λv hv=>?_⟩;obtain⟨x,hx,rfl⟩:=List.mem_map.1 hv;exact(by decide:(2:Int)≠1)
theorem d6.sweep(h:d6 X ing sl k N m z)(hX:ox X):d6 X ing sl (k+1) N m {z with c:=QL z.c}/\yJ kd z {z with c:=QL z.c}:=
 ⟨⟨(h.v.sweep hX).mono oM,h.L,(pV _ _).trans h.l,Hx,by have:=h.m;show m+z.c.ps.length<=_;omega,by have:=h.e;show z.ev.length+(dF z.c.ps).length<=_;omega⟩,.same rfl rfl⟩
theorem d6.tick(h:d6 X ing sl k N m z)(ht:ud z.wk.length z.wk l):d6 X ing sl k N m {z with wk:=l}:=
 ⟨h.v.tick ht,λx hx=>by obtain⟨t1,t2⟩:=ht;refine WR;exact id (h.L z.wk[i] (PI hi')),h.l,h.N,h.m,h.e⟩
end
theorem p9.none{w':World}{b:Nat}{s:qP}(h:p9 w b s)(hc:ag af w w'):p9 w' b s:=
 ⟨h.id,h.ss,⟨h.q.1.below rfl hc.none,h.q.2⟩,h.p.below hc.none,⟨h.sq.1.below rfl hc.none,h.sq.2⟩,h.r.1.none hc,h.r.2⟩
def kZ(w:World)(Y:Yx)(X:Cx)(ing sl k:Nat)(z:Ws):Prop:=∃M N m,bn w Y X M N m z/\d6 X ing sl k N m z
def J2(Y:Yx)(X:Cx)(ing sl k:Nat)(kd:Int)(z:Ws)(e:Ending)(w':World):Prop:=e=aA (.tuple #[])/\∃z',kZ w' Y X ing sl (k+1) z'/\yJ kd z z'
section
variable {w w' u:World}{Y:Yx}{X:Cx}{ing sl k:Nat}{kd:Int}{z:Ws}{s:qP}{M:Nat->Prop}{N m:Nat}
theorem kZ.none(h:kZ w Y X ing sl k z)(hc:ag af w w'):kZ w' Y X ing sl k z:=by refine iG;exact⟨M,N,m,a.none hc,b⟩
theorem Pu{s:Cs}(h:bh w X M m s):s.inq.length<=X.li:=by refine fK;have:=hq.le;exact ia
theorem Qs{kk:Int}(h:nY X kk z)(q:(mU z.c.t zs).2=true):0<=(mU z.c.t zs).1/\(mU z.c.t zs).1<z.wk.length:=by
 have hs:=h.c.sh;rw[h.wl];cases ht:z.c.t with
 |none=>
  rw[ht]at q;unfold mU at q;split at q
  .simp at q
  .split at q<;>simp[gd,dQ]at q
 |some T=>
  rw[ht]at q;obtain⟨h1,h2⟩:=hs T ht;unfold mU at q ⊢;split at q
  .simp at q
  .rename_i hlen
   rw[if_neg hlen];split at q
   .rename_i hf
    rw[if_pos hf];dsimp only at q ⊢;obtain⟨d,hd⟩:=Xb2.1 q;rw[hd];exact h2 d (by unfold gd at hd;exact Xa5 hd)
   .rename_i hf
    rw[if_neg hf];dsimp only at q ⊢;obtain⟨d,hd⟩:=Xb2.1 q;rw[hd];exact h1 d (by unfold dQ at hd;exact Xa5 hd)
theorem PD(h:kZ w Y X ing sl k z)(hk:k<=400)(hs:LZ w Y.b A cap zs)(hb:aG zs)(hl:zs.length<=100000):az 12 #[OV Y.W,.slice A zs.length cap] w (J2 Y X ing sl k kd z):=by
 refine iG;refine(NA a hs oM hb (Pu a.ct) yU).mono ?_;rintro r w' ⟨rfl,a',c,(⟨_,p,_,_,h,_⟩|⟨_,h⟩)⟩
 .obtain⟨t1,t2⟩:=b.ask (kd:=kd) (es:=[uA 0 0 a' c zs]) sM sM
  exact KT
 .obtain⟨t1,t2⟩:=b.ask (kd:=kd) (inq':=z.c.inq) (es:=[uA 0 0 a' c zs,uA 5 z.ev.length .none 0 []]) sM sM
  exact VX
theorem Jj(h:kZ w Y X ing sl k z)(hk:k<=400)(hX:ox X)(hs:LZ w Y.b A cap zs)(hb:aG zs)(hl:zs.length<=100000):az 15 #[OV Y.W,.slice A zs.length cap] w (J2 Y X ing sl k kd z):=by
 refine iG;refine(Gq a hs oM hb (λq=>Qs b.v q) yU).mono ?_;rintro r w' ⟨rfl,a',c,(⟨_,h⟩|⟨_,i,hi,_,(⟨_,p,_,_,h⟩|⟨_,h⟩)⟩)⟩
 .obtain⟨t1,t2⟩:=b.ask (kd:=kd) (inq':=z.c.inq) (es:=[rf 4 0 0 a' c zs]) sM sM
  exact KT
 .obtain⟨t1,t2⟩:=b.pk (kd:=kd) (es:=[rf 3 0 i a' c zs]) hi sM sM
  exact KT
 .obtain⟨t1,t2⟩:=b.ask (kd:=kd) (inq':=z.c.inq) (es:=[rf 3 0 i a' c zs,rf 5 z.ev.length i .none 0 []]) sM sM
  exact VX
theorem Jg(q:Int)(h:kZ w Y X ing sl k z)(hk:k<=400):az 17 #[OV Y.W,JI q] w (J2 Y X ing sl k kd z):=by
 refine iG;refine(Gk q a (by have:=b.N;omega) (λi hi=>(b.v.w _ lm).job b.v.c) (by have:=b.v.c.ll;omega) yU).mono ?_;rintro r w' ⟨rfl,(⟨_,h⟩|⟨i,hi,o,b',c',dn',x',_,hr,h⟩)⟩;exact VP
 .obtain⟨t1,t2⟩:=b.work (kd:=kd) q hi hr
  exact⟨rfl,_,⟨M,_,m,h,t1⟩,t2⟩
theorem Ji(q:Int)(h:kZ w Y X ing sl k z)(hk:k<=400):az 27 #[OV Y.W,JI q] w (J2 Y X ing sl k kd z):=by
 refine iG;refine(Gm q a (λi hi=>(b.v.w _ lm).ph) (λi hi h2 hp=>?_)).mono ?_
 .have hw:=b.v.w _ lm
  obtain⟨p,p1,p2,_⟩:=hw.ws;rw[b.v.sh i hi,Xa0 h2]at p1;rw[Xb4.inj p1,p2];exact(hw.nx hp).2.1
 rintro r w' ⟨rfl,(⟨_,h⟩|⟨i,hi,c',x',_,hr,h⟩)⟩;exact VP
 .obtain⟨t1,t2⟩:=b.obey (kd:=kd) hi hr
  exact⟨rfl,_,⟨M,_,m,h,t1⟩,t2⟩
theorem PE(h:kZ w Y X ing sl k z)(hk:k<=400)(hX:ox X):az 28 #[OV Y.W] w (J2 Y X ing sl k 11 z):=by
 refine iG;have hby:∀p∈z.c.inq,aG p.zs:=λp hp=>(a.ct.ca p hp).2.1
 refine(vF a (b.v.c.ok hX oM) b.v.c.sn (by have:=b.m;omega) (λp rest id q L1 hq hp=>b.v.c.hyp hX oM oM zt77) yU).mono ?_;rintro r w' ⟨rfl,M',s',nd,dn,rs,w1,_,hr,h⟩;obtain⟨t1,t2⟩:=b.acc (dn':=z.dn++Xb3 nd) hX hby hr;exact⟨rfl,_,⟨M',N,_,h,t1⟩,t2⟩
theorem Jk(h:kZ w Y X ing sl k z)(hk:k<=400)(hX:ox X):az 29 #[OV Y.W] w (J2 Y X ing sl k kd z):=by refine iG;have hln:=(b.v.c.len hX).1;have hwin:=hX.win;refine(sH a b.v.ak (by have:=b.m;omega) oM yU).mono ?_;rintro r w' ⟨rfl,dn,rest,L1,hp,_,_,he,h⟩;obtain⟨t1,t2⟩:=b.coll (kd:=kd) hp he;exact⟨rfl,_,⟨M,N,_,h,t1⟩,t2⟩
theorem Dq(h:kZ w Y X ing sl k z)(hk:k<=400)(hX:ox X):az 30 #[OV Y.W] w (J2 Y X ing sl k kd z):=by refine iG;obtain⟨_,l1,l2,_⟩:=b.v.c.len hX;have hll:=b.v.c.ll;refine(AO a oM oM oM).mono ?_;rintro r w' ⟨rfl,h,_⟩;obtain⟨t1,t2⟩:=b.sweep (kd:=kd) hX;exact⟨rfl,_,⟨M,N,_,h,t1⟩,t2⟩
theorem Jh(h:kZ w Y X ing sl k z):az 31 #[OV Y.W] w λe w'=>e=aA (.tuple #[])/\∃z',kZ w' Y X ing sl k z'/\z'.c=z.c/\z'.ev=z.ev:=by refine iG;refine(Co a).mono ?_;rintro r w' ⟨rfl,l,ht,h⟩;exact⟨rfl,_,⟨M,N,m,h,b.tick ht⟩,rfl,rfl⟩
end
abbrev RL(s:qP):List Value:=[JI s.kind,JI s.shard,JU s.id,JI s.q.kind,JI s.q.who,JI s.q.room,JI s.q.rights,JI s.q.track,.slice s.qa s.q.ss.length s.qc,JI s.q.layer,JI s.q.tid,.bool s.p.mark,JW s.p.ty,JS s.p.seq,JT s.p.time,JT s.p.ssrc,.slice s.p.a1 s.p.cs.length s.p.c1,.slice s.p.a2 s.p.xs.length s.p.c2,.slice s.p.a3 s.p.zs.length s.p.c3,JI s.p.pad,JT s.ssrc,.slice s.sa s.sq.length s.sc,.slice s.ra s.rz.length s.rc]
theorem kinds(s:qP):((s.kind==0)=true)\/((s.kind==0)=false/\(s.kind==1)=true)\/((s.kind==0)=false/\(s.kind==1)=false/\decide (2<=s.kind)=true/\decide (s.kind<=4)=true)\/((s.kind==0)=false/\(s.kind==1)=false/\decide (2<=s.kind)=true/\decide (s.kind<=4)=false/\decide (5<=s.kind)=true/\decide (s.kind<=8)=true)\/((s.kind==0)=false/\(s.kind==1)=false/\decide (2<=s.kind)=true/\decide (s.kind<=4)=false/\decide (5<=s.kind)=true/\decide (s.kind<=8)=false/\(s.kind==9)=true)\/((s.kind==0)=false/\(s.kind==1)=false/\decide (2<=s.kind)=true/\decide (s.kind<=4)=false/\decide (5<=s.kind)=true/\decide (s.kind<=8)=false/\(s.kind==9)=false/\(s.kind==10)=true)\/((s.kind==0)=false/\(s.kind==1)=false/\decide (2<=s.kind)=true/\decide (s.kind<=4)=false/\decide (5<=s.kind)=true/\decide (s.kind<=8)=false/\(s.kind==9)=false/\(s.kind==10)=false/\(s.kind==11)=true)\/((s.kind==0)=false/\(s.kind==1)=false/\decide (2<=s.kind)=true/\decide (s.kind<=4)=false/\decide (5<=s.kind)=true/\decide (s.kind<=8)=false/\(s.kind==9)=false/\(s.kind==10)=false/\(s.kind==11)=false/\(s.kind==12)=true)\/((s.kind==0)=false/\(s.kind==1)=false/\decide (2<=s.kind)=true/\decide (s.kind<=4)=false/\decide (5<=s.kind)=true/\decide (s.kind<=8)=false/\(s.kind==9)=false/\(s.kind==10)=false/\(s.kind==11)=false/\(s.kind==12)=false/\(s.kind==13)=true)\/((s.kind==0)=false/\(s.kind==1)=false/\decide (2<=s.kind)=true/\decide (s.kind<=4)=false/\decide (5<=s.kind)=true/\decide (s.kind<=8)=false/\(s.kind==9)=false/\(s.kind==10)=false/\(s.kind==11)=false/\(s.kind==12)=false/\(s.kind==13)=false)\/((s.kind==0)=false/\(s.kind==1)=false/\decide (2<=s.kind)=false/\decide (5<=s.kind)=false/\(s.kind==9)=false/\(s.kind==10)=false/\(s.kind==11)=false/\(s.kind==12)=false/\(s.kind==13)=false):=by
 have h:s.kind=0\/s.kind=1\/(2<=s.kind/\s.kind<=4)\/(5<=s.kind/\s.kind<=8)\/s.kind=9\/s.kind=10\/s.kind=11\/s.kind=12\/s.kind=13\/14<=s.kind\/s.kind<0:=oM;rcases h with h|h|h|h|h|h|h|h|h|h|h
 .exact .inl gV
 .exact .inr (.inl (⟨gV,gV⟩))
 .exact .inr (.inr (.inl (⟨xM,xM,xM,xM⟩)))
 .exact .inr (.inr (.inr (.inl (⟨xM,xM,xM,xM,xM,xM⟩))))
 .exact .inr (.inr (.inr (.inr (.inl (⟨gV,gV,xM,xM,xM,xM,gV⟩)))))
 .exact .inr (.inr (.inr (.inr (.inr (.inl (⟨gV,gV,xM,xM,xM,xM,gV,gV⟩))))))
 .exact .inr (.inr (.inr (.inr (.inr (.inr (.inl (⟨gV,gV,xM,xM,xM,xM,gV,gV,gV⟩)))))))
 .exact .inr (.inr (.inr (.inr (.inr (.inr (.inr (.inl (⟨gV,gV,xM,xM,xM,xM,gV,gV,gV,gV⟩))))))))
 .exact .inr (.inr (.inr (.inr (.inr (.inr (.inr (.inr (.inl (⟨gV,gV,xM,xM,xM,xM,gV,gV,gV,gV,gV⟩)))))))))
 .exact .inr (.inr (.inr (.inr (.inr (.inr (.inr (.inr (.inr (.inl (⟨xM,xM,xM,xM,xM,xM,xM,xM,xM,xM,xM⟩))))))))))
 .exact .inr (.inr (.inr (.inr (.inr (.inr (.inr (.inr (.inr (.inr (⟨xM,xM,xM,xM,xM,xM,xM,xM,xM⟩))))))))))
section
variable {w w' u:World}{Y:Yx}{X:Cx}{ing sl k:Nat}{z:Ws}{s:qP}
theorem Du(h:kZ w Y X ing sl k z)(hk:k<=400)(hX:ox X)(hs:p9 w Y.b s)(q:((s.kind==0)=true)\/((s.kind==0)=false/\(s.kind==1)=true)\/((s.kind==0)=false/\(s.kind==1)=false/\decide (2<=s.kind)=true/\decide (s.kind<=4)=true)):az 10 #[OV Y.W,.agg (Ci s)] w (J2 Y X ing sl k s.kind z):=by
 refine Ra;rcases q with q|q|q
 .have f0:=q
  exact Z5
 .obtain⟨f0,f1⟩:=q
  exact Z5
 .obtain⟨f0,f1,f2,f3⟩:=q
  refine WO;refine Xb5 (HP.out _ hG) ?_;refine Y4;refine Xb5 (Jj (kd:=s.kind) (HI.out.none HG2.out) hk hX HZ.out.1 HZ.out.2.1 HZ.out.2.2) ?_;exact In
theorem Dt(h:kZ w Y X ing sl k z)(hk:k<=400)(hX:ox X)(hs:p9 w Y.b s)(q:((s.kind==0)=false/\(s.kind==1)=false/\decide (2<=s.kind)=true/\decide (s.kind<=4)=false/\decide (5<=s.kind)=true/\decide (s.kind<=8)=true)\/((s.kind==0)=false/\(s.kind==1)=false/\decide (2<=s.kind)=true/\decide (s.kind<=4)=false/\decide (5<=s.kind)=true/\decide (s.kind<=8)=false/\(s.kind==9)=true)\/((s.kind==0)=false/\(s.kind==1)=false/\decide (2<=s.kind)=true/\decide (s.kind<=4)=false/\decide (5<=s.kind)=true/\decide (s.kind<=8)=false/\(s.kind==9)=false/\(s.kind==10)=true)):az 10 #[OV Y.W,.agg (Ci s)] w (J2 Y X ing sl k s.kind z):=by
 refine Ra;rcases q with q|q|q
 .obtain⟨f0,f1,f2,f3,f4,f5⟩:=q
  refine ay;refine Xb5 (Jg (kd:=s.kind) s.shard (HI.out.none hG) hk) ?_;exact In
 .obtain⟨f0,f1,f2,f3,f4,f5,f6⟩:=q
  exact Xe
 .obtain⟨f0,f1,f2,f3,f4,f5,f6,f7⟩:=q
  exact Xe
theorem Dr(h:kZ w Y X ing sl k z)(hk:k<=400)(hX:ox X)(hs:p9 w Y.b s)(q:((s.kind==0)=false/\(s.kind==1)=false/\decide (2<=s.kind)=true/\decide (s.kind<=4)=false/\decide (5<=s.kind)=true/\decide (s.kind<=8)=false/\(s.kind==9)=false/\(s.kind==10)=false/\(s.kind==11)=true)\/((s.kind==0)=false/\(s.kind==1)=false/\decide (2<=s.kind)=true/\decide (s.kind<=4)=false/\decide (5<=s.kind)=true/\decide (s.kind<=8)=false/\(s.kind==9)=false/\(s.kind==10)=false/\(s.kind==11)=false/\(s.kind==12)=true)\/((s.kind==0)=false/\(s.kind==1)=false/\decide (2<=s.kind)=true/\decide (s.kind<=4)=false/\decide (5<=s.kind)=true/\decide (s.kind<=8)=false/\(s.kind==9)=false/\(s.kind==10)=false/\(s.kind==11)=false/\(s.kind==12)=false/\(s.kind==13)=true)):az 10 #[OV Y.W,.agg (Ci s)] w (J2 Y X ing sl k s.kind z):=by
 refine Ra;rcases q with q|q|q
 .obtain⟨f0,f1,f2,f3,f4,f5,f6,f7,f8⟩:=q
  have HE11:=OH (show s.kind=11 by simpa using f8);refine ay;refine Xb5 (PE (HI.out.none hG) hk hX) ?_;rintro r w3 ⟨rfl,z',hi,hp⟩;have HE:=OH (And.intro hi hp);refine kv;refine sE;exact⟨rfl,z',HE.out.1,HE11.out.symm ▸ HE.out.2⟩
 .obtain⟨f0,f1,f2,f3,f4,f5,f6,f7,f8,f9⟩:=q
  refine ay;refine Xb5 (Jk (kd:=s.kind) (HI.out.none hG) hk hX) ?_;exact In
 .obtain⟨f0,f1,f2,f3,f4,f5,f6,f7,f8,f9,f10⟩:=q
  refine ay;refine Xb5 (Dq (kd:=s.kind) (HI.out.none hG) hk hX) ?_;exact In
theorem PF(h:kZ w Y X ing sl k z)(hk:k<=400)(hX:ox X)(hs:p9 w Y.b s)(q:((s.kind==0)=false/\(s.kind==1)=false/\decide (2<=s.kind)=true/\decide (s.kind<=4)=false/\decide (5<=s.kind)=true/\decide (s.kind<=8)=false/\(s.kind==9)=false/\(s.kind==10)=false/\(s.kind==11)=false/\(s.kind==12)=false/\(s.kind==13)=false)\/((s.kind==0)=false/\(s.kind==1)=false/\decide (2<=s.kind)=false/\decide (5<=s.kind)=false/\(s.kind==9)=false/\(s.kind==10)=false/\(s.kind==11)=false/\(s.kind==12)=false/\(s.kind==13)=false)):az 10 #[OV Y.W,.agg (Ci s)] w (J2 Y X ing sl k s.kind z):=by
 refine Ra;rcases q with q|q
 .obtain⟨f0,f1,f2,f3,f4,f5,f6,f7,f8,f9,f10⟩:=q
  exact Z6
 .obtain⟨f0,f1,f2,f3,f4,f5,f6,f7,f8⟩:=q
  exact Z6
theorem goes_t(h:kZ w Y X ing sl k z)(hk:k<=400)(hX:ox X)(hs:p9 w Y.b s):az 10 #[OV Y.W,.agg (Ci s)] w (J2 Y X ing sl k s.kind z):=by
 rcases kinds s with q|q|q|q|q|q|q|q|q|q|q
 .exact Du h hk hX hs (.inl q)
 .exact Du h hk hX hs (.inr (.inl q))
 .exact Du h hk hX hs (.inr (.inr (q)))
 .exact Dt h hk hX hs (.inl q)
 .exact Dt h hk hX hs (.inr (.inl q))
 .exact Dt h hk hX hs (.inr (.inr (q)))
 .exact Dr h hk hX hs (.inl q)
 .exact Dr h hk hX hs (.inr (.inl q))
 .exact Dr h hk hX hs (.inr (.inr (q)))
 .exact PF h hk hX hs (.inl q)
 .exact PF h hk hX hs (.inr (q))
end
theorem kh.run{dn:List yK}{rest:List Ca}(h:kh X s ND dn rs s')(hi:s.inq=p::rest)(hp:ez p.zs=(id,q,0))(hL:Dd.dB s.L id=none)(hl:s.L.length<X.win)(hd:(dN X.G.cf s.d q).2=0)(ht:∀i,i<X.n->(s.tabs i).length<X.room)(hs:q.kind=5->∃j,∃h:j<s.l.length,s.l[j].used=false) :
  ∃D s1 ep,J1 X {s with inq:=rest,L:=s.L++ [Dd.new id] } q ND ep s1/\dn=[D]/\((ep=0/\(∃x,rs=[x])/\∃L2,L2.map Dd.En.id=s.L.map Dd.En.id++ [id]/\s'= {s1 with L:=L2})\/(ep≠0/\rs=[]/\∃pd:Pd,pd.epoch=ep/\(∃x,pd.calls=[x])/\s'= {s1 with ps:=s1.ps++ [pd] })):=by
 have hst:Dd.wQ s.L X.win id=(s.L++ [Dd.new id],0):=by unfold Dd.wQ;rw[hL,if_neg sM,if_neg oM]
 have hv:∀a b,Dd.PL s.L id≠(a,b,true):=λa b e=>by unfold Dd.PL at e;rw[hL]at e;simp at e
 cases h with
 |nil h=>
  rw[hi]at h;cases h
 |bad h hp' he=>
  refine vj;exact(he rfl).elim
 |seen h hp' hf hps hr=>
  refine vj;exact(hv _ _ hf).elim
 |full h hp' hf hs' hc=>
  refine vj;rw[hst]at hs';cases hs';exact(hc rfl).elim
 |no h hp' hf hs' hn ha hD=>
  refine vj;obtain⟨_,q|q|⟨q1,q2⟩,_⟩:=hn
  .exact(q ht).elim
  .exact(q hd).elim
  .obtain⟨j,hj,e⟩:=hs q1
   rw[q2 j hj]at e;cases e
 |yes h hp' hf hs' hd ha hD=>
  refine vj;rw[hst]at hs';cases hs';refine⟨_,_,_,hd,rfl,.inl ⟨rfl,⟨_,rfl⟩,_,?_,rfl⟩⟩;unfold Dd.endF;split
  .simp[Dd.new]
  .split<;>simp[Dd.GF,Dd.new]
 |wait h hp' hf hs' hd he hD hpd=>refine vj;rw[hst]at hs';cases hs';exact⟨_,_,_,hd,rfl,.inr ⟨he,rfl,_,hpd.2.1,⟨_,hpd.2.2⟩,rfl⟩⟩
theorem jG.ids{is:List Int}(h:jG L is L1):L1.map Dd.En.id=L.map Dd.En.id:=by
 induction h with
 |none=>
  rfl
 |snoc id s hs h ih=>
  unfold Dd.endF;split
  .exact ih
  .split
   .exact ih
   .rw[Dd.GF,ih]
def GU(c:Cs)(x:Wk):Cs×Wk:=
 if x.ph=0 then match c.tabs x.sh with
  | []=>(c,x)
  |t::ts=>({c with tabs:=λi=>if i=x.sh then ts else c.tabs i},{x with nx:=some t,ph:=1})
 else if x.ph=1 then({c with ws:=c.ws.set x.sh ⟨gw x.nx,(c.ws.getD x.sh ⟨0,0,false⟩).sees,(c.ws.getD x.sh ⟨0,0,false⟩).looks⟩},{x with tb:=x.nx,came:=[],ph:=2})
 else({c with acks:=c.acks++ [((x.sh:Int),gw x.tb)] },{x with ph:=0})
theorem j0.det{c':Cs}(h:j0 X c x c' x')(hc:x.came=[])(ha:c.acks.length<X.n*X.room):GU c x=(c',x'):=by
 unfold GU;cases h with
 |nil h1 h2=>
  rw[if_pos h1,h2]
 |take h1 h2=>
  rw[if_pos h1,h2]
 |go h h1 h2=>
  rw[if_neg oM,if_pos h1];rw[hc]at h2;have e:=List.eq_nil_iff_forall_not_mem.2 λp hp=>List.not_mem_nil (h2 p hp)
  rw[e];simp[List.getD_eq_getElem?_getD,Xa0 h]
 |ack h1 h2=>
  rw[if_neg oM,if_neg oM]
 |full h1 h2=>omega
def GT(z:Ws)(i:Nat):Ws:=match z.wk[i]? with
 |none=>z
 |some x=> {z with c:=(GU z.c x).1,wk:=z.wk.set i (GU z.c x).2}
def Sk(z:Ws):Nat->Ws
 |0=>z
 |k+1=>GT (Sk z k) (k % 2)
structure Qt(z:Ws):Prop where
 w:∀x∈z.wk,x.came=[]/\x.pk=[]/\x.now=none
 l:z.wk.length=2
theorem OP(c:Cs)(x:Wk):((GU c x).2.pk=x.pk/\(GU c x).2.now=x.now/\(x.came=[]->(GU c x).2.came=[]))/\(GU c x).1.acks.length<=c.acks.length+1/\(GU c x).1.ps=c.ps/\(GU c x).1.L=c.L:=by
 unfold GU;split
 .split
  .exact⟨⟨rfl,rfl,id⟩,Xb0 _,rfl,rfl⟩
  .exact⟨⟨rfl,rfl,id⟩,Xb0 _,rfl,rfl⟩
 .split
  .exact⟨⟨rfl,rfl,λ_=>rfl⟩,Xb0 _,rfl,rfl⟩
  .exact⟨⟨rfl,rfl,id⟩,sM,rfl,rfl⟩
theorem Qt.ob(h:Qt z)(i:Nat):Qt (GT z i)/\(GT z i).c.acks.length<=z.c.acks.length+1:=by
 unfold GT;split
 .exact⟨h,Xb0 _⟩
 .rename_i x hx
  obtain⟨⟨k1,k2,k3⟩,k4,_⟩:=OP z.c x;obtain⟨a,b,c⟩:=h.w x (Xa6 hx);refine⟨⟨λy hy=>?_,by simpa using h.l⟩,k4⟩;rcases List.mem_or_eq_of_mem_set hy with q|rfl
  .exact h.w y q
  .exact⟨k3 a,k1.trans b,k2.trans c⟩
theorem Qt.sk(h:Qt z):∀k,Qt (Sk z k)/\(Sk z k).c.acks.length<=z.c.acks.length+k
 |0=>⟨h,Nat.le_refl _⟩
 |k+1=>by obtain⟨a,b⟩:=h.sk k;obtain⟨c,d⟩:=a.ob (k % 2);exact⟨c,by show(GT (Sk z k) (k % 2)).c.acks.length<=_;omega⟩
theorem GC(hw:z.wk=[x,y])(hx:x.sh=0/\x.ph=0)(hy:y.sh=1/\y.ph=0)(ht:z.c.tabs 0=[]/\z.c.tabs 1=[]):∀k,Sk z k=z
 |0=>
  rfl
 |k+1=>by
  show GT (Sk z k) (k % 2)=z;rw[GC hw hx hy ht k];obtain⟨c,wk,dn,ev⟩:=z;dsimp only at hw ht;subst hw;rcases Nat.mod_two_eq_zero_or_one k with e|e<;>rw[e]
  .simp[GT,GU,hx.1,hx.2,ht.1]
  .simp[GT,GU,hy.1,hy.2,ht.2]
theorem sk6{p0 p1:Pw}(hw:z.wk=[x,y])(hx:x.sh=0/\x.ph=0)(hy:y.sh=1/\y.ph=0)(ht:z.c.tabs 0=[T]/\z.c.tabs 1=[T])(hs:z.c.ws=[p0,p1]) :
  ∃tabs',(tabs' 0=[]/\tabs' 1=[])/\Sk z 6= {z with c:= {z.c with tabs:=tabs',ws:=[⟨T.ep,p0.sees,p0.looks⟩,⟨T.ep,p1.sees,p1.looks⟩],acks:=z.c.acks++ [(0,T.ep)] ++ [(1,T.ep)] },wk:=[{x with nx:=some T,tb:=some T,came:=[],ph:=0},{y with nx:=some T,tb:=some T,came:=[],ph:=0}] }:=by
 obtain⟨c,wk,dn,ev⟩:=z;obtain⟨_,_,_,_,_,_,_,_,_,ws,_,tabs,_,_⟩:=c;obtain⟨_,_,_,_,_,_,_,_,_,_,_,_,_,_⟩:=x;obtain⟨_,_,_,_,_,_,_,_,_,_,_,_,_,_⟩:=y;dsimp only at hw hx hy ht hs;obtain⟨rfl,rfl⟩:=hx;obtain⟨rfl,rfl⟩:=hy;subst hw;subst hs;refine⟨λi=>if i=1 then [] else if i=0 then [] else tabs i,⟨rfl,rfl⟩,?_⟩;simp[Sk,GT,GU,ht];rfl
def tU(z:Ws):Ws:= {z with c:= {z.c with acks:=(bB (z.c.acks,z.c.last)).1,last:=(bB (z.c.acks,z.c.last)).2,ps:=z.c.ps.dropWhile λp=>decide (p.epoch<=kQ (bB (z.c.acks,z.c.last)).2)},ev:=z.ev++(dF (z.c.ps.takeWhile λp=>decide (p.epoch<=kQ (bB (z.c.acks,z.c.last)).2))).map jK}
abbrev uo(z:Ws)(L:List Dd.En):Ws:= {z with c:= {z.c with L:=L}}
theorem TK{α:Type}{f:α->Bool}{a b l:List α}(h:a++b=l)(h1:∀x∈a,f x=true)(h2:∀x,b.head?=some x->f x=false):l.takeWhile f=a/\l.dropWhile f=b:=by
 subst h;induction a with
 |nil=>cases b with
  |nil=>
   exact gO
  |cons x b=>
   simp[h2 x rfl]
 |cons x a ih=>
  obtain⟨i1,i2⟩:=ih λy hy=>h1 y (by simp[hy])
  simp[h1 x sM,i1,i2]
theorem Qt.col(h:Qt z):Qt (tU z):=⟨h.w,h.l⟩
section
variable {w w':World}{Y:Yx}{X:Cx}{M:Nat->Prop}{N m k:Nat}{z:Ws}
theorem ob_t(h2:X.n=2/\X.room=3)(h:bn w Y X M N m z)(ht:d6 X 6 6 k N m z)(hq:Qt z)(hi:i<2)(ha:z.c.acks.length<6) :
  az 27 #[OV Y.W,JI (i:Nat)] w λe w'=>e=aA (.tuple #[])/\bn w' Y X M N m (GT z i)/\d6 X 6 6 (k+1) N m (GT z i):=by
 refine(Gm i h (λi hi=>(ht.v.w _ lm).ph) (λi hi h2 hp=>?_)).mono ?_
 .have hw:=ht.v.w _ lm
  obtain⟨p,p1,p2,_⟩:=hw.ws;rw[ht.v.sh i hi,Xa0 h2]at p1;rw[Xb4.inj p1,p2];exact(hw.nx hp).2.1
 rintro r w' ⟨rfl,(⟨hn,_⟩|⟨j,hj,c',x',e,hr,h'⟩)⟩
 .exact(hn (by rw[hq.l];omega)).elim
 .have:i=j:=oM
  subst this;have hd:=hr.det (hq.w _ Hy).1 (by rw[h2.1,h2.2];exact ha);have he:GT z i= {z with c:=c',wk:=z.wk.set i x'}:=by unfold GT;rw[Xa0 hj];dsimp only;rw[hd]
  rw[he];exact⟨rfl,h',(ht.obey (kd:=0) hj hr).1⟩
theorem co_t(hX:ox X)(hk:k<=390)(h:bn w Y X M N m z)(ht:d6 X 6 6 k N m z) :
  az 29 #[OV Y.W] w λe w'=>e=aA (.tuple #[])/\∃m2 L1,L1.map Dd.En.id=z.c.L.map Dd.En.id/\bn w' Y X M N m2 (uo (tU z) L1)/\d6 X 6 6 (k+1) N m2 (uo (tU z) L1):=by
 have hln:=(ht.v.c.len hX).1;have hwin:=hX.win;refine(sH h ht.v.ak (by have:=ht.m;omega) oM Et).mono ?_;rintro r w' ⟨rfl,dn,rest,L1,hp,h1,h2,he,h'⟩;obtain⟨e1,e2⟩:=TK (f:=λp:Pd=>decide (p.epoch<=kQ (bB (z.c.acks,z.c.last)).2)) hp (λx hx=>by simpa using h1 x hx) (λx hx=>by simpa using h2 x hx);have hs:uo (tU z) L1= {z with c:= {z.c with acks:=(bB (z.c.acks,z.c.last)).1,last:=(bB (z.c.acks,z.c.last)).2,ps:=rest,L:=L1},ev:=z.ev++(dF dn).map jK}:=by unfold uo tU;rw[e1,e2]
 refine⟨rfl,m+dn.length,L1,he.ids,?_⟩;rw[hs];exact⟨h',(ht.coll (kd:=0) hp he).1⟩
def ck(z:Ws):Nat->Ws
 |0=>z
 |k+1=>tU (ck z k)
theorem Qt.ck(h:Qt z):∀k,Qt (ck z k)
 |0=>h
 |k+1=>(h.ck k).col
abbrev swz(z:Ws):Ws:= {z with c:=QL z.c}
theorem Od{Mid R:Ws->Prop}{k0:Nat}(hX:ox X)(h2:X.n=2/\X.room=3)(hk:k0<=300)(hm:∀z,Mid z->Qt z/\z.c.acks=[])(hR:∀z L',Mid z->L'.map Dd.En.id=(Sk z 6).c.L.map Dd.En.id->R (swz (uo (ck (Sk z 6) 2) L')))(ha:az 28 #[OV Y.W] w λe w'=>e=aA (.tuple #[])/\∃M' m' z',(Mid z'/\d6 X 6 6 k0 N m' z')/\bn w' Y X M' N m' z') :
  az 43 #[OV Y.W] w λe w'=>e=aA (.tuple #[])/\∃M' m' z',(R z'/\d6 X 6 6 (k0+9) N m' z')/\bn w' Y X M' N m' z':=by
 refine RZ (n:=2) (J:=λa i m z=>∃z1,Mid z1/\z=Sk z1 (2*a+i)/\d6 X 6 6 (k0+(2*a+i)) N m z)
  (K:=λ_ i m z=>∃z1 L',Mid z1/\L'.map Dd.En.id=(Sk z1 6).c.L.map Dd.En.id/\z=uo (ck (Sk z1 6) i) L'/\d6 X 6 6 (k0+6+i) N m z) (R:=λm z=>R z/\d6 X 6 6 (k0+9) N m z) ?_ h2.1 oM ?_
 .refine ha.mono ?_
  rintro r w' ⟨rfl,M',m',z',⟨h1,h3⟩,h4⟩;exact⟨rfl,M',m',z',⟨z',h1,rfl,h3⟩,h4⟩
 .refine⟨?_,?_,?_,?_,?_,?_⟩
  .rintro a i m z M w ha3 hi ⟨z1,h1,rfl,h3⟩ h
   obtain⟨q1,q2⟩:=(hm z1 h1).1.sk (2*a+i);rw[(hm z1 h1).2]at q2;have hi2:(2*a+i) % 2=i:=oM;refine(ob_t h2 h h3 q1 hi (by simp at q2;omega)).mono ?_;rintro r w' ⟨rfl,h5,h6⟩;exact⟨rfl,_,⟨z1,h1,by show _=GT (Sk z1 (2*a+i)) ((2*a+i) % 2);rw[hi2],h6⟩,h5⟩
  .rintro a m z ⟨z1,h1,rfl,h3⟩
   exact⟨z1,h1,rfl,h3⟩
  .rintro m z ⟨z1,h1,rfl,h3⟩
   exact⟨z1,_,h1,rfl,rfl,h3⟩
  .rintro i m z M w hi ⟨z1,L',h1,hL,rfl,h3⟩ h
   refine(co_t hX oM h h3).mono ?_;rintro r w' ⟨rfl,m2,L1,e1,h5,h6⟩;exact⟨rfl,m2,_,⟨z1,L1,h1,e1.trans hL,rfl,h6⟩,h5⟩
  .rintro m z ⟨z1,L',h1,hL,rfl,h3⟩ x hx
   exact((((hm z1 h1).1.sk 6).1.ck 2).w x hx).2
  .rintro m z M w ⟨z1,L',h1,hL,rfl,h3⟩ h
   obtain⟨_,l1,l2,_⟩:=h3.v.c.len hX;have hll:=h3.v.c.ll;refine(AO h oM oM oM).mono ?_;rintro r w' ⟨rfl,h5,_⟩;exact⟨rfl,_,⟨hR z1 L' h1 hL,(h3.sweep (kd:=0) hX).1⟩,h5⟩
def Ua(X:Cx)(z:Ws)(q:Rq)(rest:List Ca)(id:Int)(z':Ws):Prop:=∃ND D s1 ep,∃nd:Option Dx,J1 X {z.c with inq:=rest,L:=z.c.L++ [Dd.new id] } q ND ep s1/\(∀d,nd=some d->d.x=JB) /\
 ((ep=0/\∃x L2,L2.map Dd.En.id=z.c.L.map Dd.En.id++ [id]/\z'=⟨{s1 with L:=L2},z.wk,z.dn++nd.toList,z.ev++ [ol D] ++ [jK x]⟩)\/(ep≠0/\∃pd:Pd,∃x,pd.epoch=ep/\pd.calls=[x]/\z'=⟨{s1 with ps:=s1.ps++ [pd] },z.wk,z.dn++nd.toList,z.ev++ [ol D]⟩))
theorem Qz{rest:List Ca}(hX:ox X)(hk:k<=390)(h:bn w Y X M N m z)(ht:d6 X 6 6 k N m z)(hi:z.c.inq=p::rest)(hp:ez p.zs=(id,q,0))(hL:Dd.dB z.c.L id=none)(hl:z.c.L.length<X.win)(hd:(dN X.G.cf z.c.d q).2=0)(htb:∀i,i<X.n->(z.c.tabs i).length<X.room)(hs:q.kind=5->∃j,∃h:j<z.c.l.length,z.c.l[j].used=false) :
  az 28 #[OV Y.W] w λe w'=>e=aA (.tuple #[])/\∃M' m' z',(Ua X z q rest id z'/\d6 X 6 6 (k+1) N m' z')/\bn w' Y X M' N m' z':=by
 have hby:∀p∈z.c.inq,aG p.zs:=λp hp=>(h.ct.ca p hp).2.1
 refine(vF h (ht.v.c.ok hX oM) ht.v.c.sn (by have:=ht.m;omega) (λp rest id q L1 hq hp=>ht.v.c.hyp hX oM oM zt77) Et).mono ?_;rintro r w' ⟨rfl,M',s',nd,dn,rs,w1,⟨_,hnd⟩,hr,h'⟩;have t1:=(ht.acc (dn':=z.dn++Xb3 nd) hX hby hr).1;obtain⟨D,s1,ep,hdo,rfl,(⟨e0,⟨x,rfl⟩,L2,hL2,rfl⟩|⟨e0,rfl,pd,hp1,⟨x,hp2⟩,rfl⟩)⟩:=hr.run hi hp hL hl hd htb hs
 .exact⟨rfl,M',_,_,⟨⟨_,D,s1,ep,nd,hdo,hnd,.inl ⟨e0,x,L2,hL2,rfl⟩⟩,t1⟩,h'⟩
 .refine⟨rfl,M',m+2,_,⟨⟨_,D,s1,ep,nd,hdo,hnd,.inr ⟨e0,pd,x,hp1,hp2,rfl⟩⟩,?_⟩,?_⟩
  .simpa using t1
  .simpa using h'
end
abbrev Qh:Cf:=⟨6,4,4,6⟩
abbrev RV:Rq:=⟨0,1,1,3,0,[],0,0⟩
abbrev QM:Rq:=⟨2,1,0,0,3,[9],0,0⟩
abbrev NY:Rq:=⟨5,1,0,0,3,[],0,0⟩
def dA0:De:=⟨[],[],[]⟩
def dA1:De:=(dN Qh dA0 RV).1
def dA2:De:=(dN Qh dA1 QM).1
def dA3:De:=(dN Qh dA2 NY).1
theorem P7:(dN Qh dA0 RV).2=0/\(dN Qh dA1 QM).2=0/\(dN Qh dA2 NY).2=0:=dM
theorem pars:ez (dR (dO 0 RV))=(0,RV,0)/\ez (dR (dO 1 QM))=(1,QM,0)/\ez (dR (dO 2 NY))=(2,NY,0):=⟨kM,kM,kM⟩
theorem PC:il dA1 dA2=[]/\il dA2 dA3=[]:=⟨rfl,rfl⟩
def AwK(t:Option Tb)(i:Nat)(x:Wk):Prop:=x.sh=i/\x.pk=[]/\x.now=none/\x.tb=t/\x.ph=0/\x.came=[]
structure nt(q:List Ca)(ids:List Int)(P:De->List Sl->Int->List Se->Int->Option Tb->Prop)(e:Int)(tq:List Tb)(ep:List Int)(ks:List Int)(z:Ws):Prop where
 q:z.c.inq=q
 L:z.c.L.map Dd.En.id=ids
 P:P z.c.d z.c.l z.c.live z.c.se z.c.ever z.c.t
 ps:z.c.ps.map (λp=>(p.epoch,p.calls.length))=ep.map λe=>(e,1)
 wt:z.c.wt=[]
 tb:z.c.tabs 0=tq/\z.c.tabs 1=tq
 ak:z.c.acks=[]
 la:z.c.last=[e,e]
 ws:∃a b,z.c.ws=[⟨e,a,false⟩,⟨e,b,false⟩]
 wk:∃x y t,z.wk=[x,y]/\AwK t 0 x/\AwK t 1 y/\(tq=[]->t=z.c.t)
 ev:z.ev.map Ev.k=ks
 dn:∀d∈z.dn,d.x=JB
section
variable {q:List Ca}{ids:List Int}{P:De->List Sl->Int->List Se->Int->Option Tb->Prop}{e:Int}{tq:List Tb}{ep:List Int}{ks:List Int}{z:Ws}{L':List Dd.En}{T:Tb}
theorem nt.qt(h:nt q ids P e tq ep ks z):Qt z/\z.c.acks=[]:=by
 obtain⟨x,y,t,hw,hx,hy,_⟩:=h.wk;refine⟨⟨λv hv=>?_,by rw[hw];rfl⟩,h.ak⟩;refine Vj
 .exact⟨hx.2.2.2.2.2,hx.2.1,hx.2.2.1⟩
 .exact⟨hy.2.2.2.2.2,hy.2.1,hy.2.2.1⟩
theorem Gz(h:c.wt=[]):QL c=c:=by obtain⟨_,_,_,_,_,_,_,_,_,_,wt,_,_,_⟩:=c;dsimp only at h;subst h;rfl
theorem nt.idle(h:nt q ids P e [] [] ks z)(hL:L'.map Dd.En.id=(Sk z 6).c.L.map Dd.En.id):nt q ids P e [] [] ks (swz (uo (ck (Sk z 6) 2) L')):=by
 obtain⟨x,y,t,hw,hx,hy,ht⟩:=h.wk;rw[GC hw ⟨hx.1,hx.2.2.2.2.1⟩ ⟨hy.1,hy.2.2.2.2.1⟩ h.tb]at hL ⊢;have hps:z.c.ps=[]:=by simpa using h.ps
 have hc:∀z:Ws,z.c.acks=[]->z.c.ps=[]->tU z=z:=λz h1 h2=>by obtain⟨⟨_,_,_,_,_,_,ps,_,_,_,_,_,acks,_⟩,_,_,_⟩:=z;dsimp only at h1 h2;subst h1;subst h2;simp[tU,bB,dF]
 have h2:ck z 2=z:=by show tU (tU z)=z;rw[hc z h.ak hps,hc z h.ak hps]
 rw[h2];unfold swz uo;rw[Gz (c:= {z.c with L:=L'}) h.wt];exact⟨h.q,hL.trans h.L,h.P,h.ps,h.wt,h.tb,h.ak,h.la,h.ws,⟨x,y,t,hw,hx,hy,ht⟩,h.ev,h.dn⟩
theorem nt.table(h:nt q ids P e [T] [T.ep] ks z)(ht:z.c.t=some T)(he:e<T.ep)(hL:L'.map Dd.En.id=(Sk z 6).c.L.map Dd.En.id):nt q ids P T.ep [] [] (ks++ [2]) (swz (uo (ck (Sk z 6) 2) L')):=by
 obtain⟨x,y,t,hw,hx,hy,_⟩:=h.wk;obtain⟨a,b,hws⟩:=h.ws;obtain⟨tabs',ht',e6⟩:=sk6 hw ⟨hx.1,hx.2.2.2.2.1⟩ ⟨hy.1,hy.2.2.2.2.1⟩ h.tb hws;rw[e6]at hL ⊢;obtain⟨pd,hpd,hp1,hp2⟩:∃pd,z.c.ps=[pd]/\pd.epoch=T.ep/\pd.calls.length=1:=by
  have hp:=h.ps;generalize z.c.ps=ps at hp ⊢;rcases ps with _|⟨p,_|⟨p',ps⟩⟩
  .cases hp
  .simp only[List.map_cons,List.map_nil,List.cons.injEq,Prod.mk.injEq,and_true]at hp
   exact⟨p,rfl,hp.1,hp.2⟩
  .simp at hp
 obtain⟨cl,hcl⟩:∃cl,pd.calls=[cl]:=by
  rcases hq:pd.calls with _|⟨c,_|⟨c',cs⟩⟩
  .rw[hq]at hp2
   simp at hp2
  .exact⟨c,rfl⟩
  .rw[hq]at hp2
   simp at hp2
 have m1:kQ [T.ep,e]=e:=by simp[kQ];omega
 have m2:kQ [T.ep,T.ep]=T.ep:=by simp[kQ]
 obtain⟨c,wk,dn,ev⟩:=z;obtain⟨inq,L,d,t0,ever,se,ps,l,live,ws,wt,tabs,acks,last⟩:=c;obtain⟨f1,f2,f3,f4,f5,f6,f7,f8,f9,f10,f11,f12⟩:=h;dsimp only at f1 f2 f3 f4 f5 f6 f7 f8 f11 f12 hw hws hpd ht hL;subst hw hws hpd f7 f8 ht f5;have c1:¬pd.epoch<=kQ [T.ep,e]:=by rw[m1,hp1];omega
 have c2:pd.epoch<=kQ [T.ep,T.ep]:=by rw[m2,hp1];exact Int.le_refl _
 have hk2:ck {c:= {inq:=inq,L:=L,d:=d,t:=some T,ever:=ever,se:=se,ps:=[pd],l:=l,live:=live,ws:=[⟨T.ep,a,false⟩,⟨T.ep,b,false⟩],wt:=[],tabs:=tabs',acks:=[] ++ [(0,T.ep)] ++ [(1,T.ep)],last:=[e,e] },wk:=[{x with nx:=some T,tb:=some T,came:=[],ph:=0},{y with nx:=some T,tb:=some T,came:=[],ph:=0}],dn:=dn,ev:=ev} 2 =
   {c:= {inq:=inq,L:=L,d:=d,t:=some T,ever:=ever,se:=se,ps:=[],l:=l,live:=live,ws:=[⟨T.ep,a,false⟩,⟨T.ep,b,false⟩],wt:=[],tabs:=tabs',acks:=[],last:=[T.ep,T.ep] },wk:=[{x with nx:=some T,tb:=some T,came:=[],ph:=0},{y with nx:=some T,tb:=some T,came:=[],ph:=0}],dn:=dn,ev:=ev++(dF [pd]).map jK}:=by
  simp[ck,tU,bB,c1,c2,dF]
 rw[hk2];unfold swz uo;rw[Gz rfl];refine⟨f1,hL.trans f2,f3,rfl,rfl,ht',rfl,rfl,⟨a,b,rfl⟩,⟨_,_,some T,rfl,⟨hx.1,hx.2.1,hx.2.2.1,rfl,rfl,rfl⟩,⟨hy.1,hy.2.1,hy.2.2.1,rfl,rfl,rfl⟩,λ_=>rfl⟩,?_,f12⟩;simp[dF,hcl,f11,jK]
end
abbrev lA:List Sl:=List.replicate 6 (RO (.pointer none))
def P0(d:De)(l:List Sl)(lv:Int)(se:List Se)(ever:Int)(t:Option Tb):Prop:=d=dA0/\l=lA/\lv=0/\se=[]/\ever=0/\t=none
def P1(d:De)(l:List Sl)(lv:Int)(se:List Se)(ever:Int)(t:Option Tb):Prop:=d=dA1/\l=lA/\lv=0/\se=[]/\ever=0/\t=none
def P2(d:De)(l:List Sl)(lv:Int)(se:List Se)(ever:Int)(t:Option Tb):Prop:=d=dA2/\l=lA/\lv=0/\se=[]/\ever=0/\∃T,t=some T/\T.ep=1
abbrev dnQ(i tn:Int):Dn:=⟨2147483648,i,tn,1,3,1,(dA3.tracks.map Tr.frm).getD 0 0,0,0,false⟩
abbrev rtA:Rt:=⟨9,3,(dA3.tracks.map Tr.frm).getD 0 0,0,1⟩
def P3(d:De)(l:List Sl)(lv:Int)(se:List Se)(ever:Int)(t:Option Tb):Prop:=d=dA3/\lv=1/\∃T i tn,t=some T/\T.ep=2/\T.rs=[rtA]/\T.ds=[dnQ i tn]
structure XA(X:Cx):Prop where
 n:X.n=2
 room:X.room=3
 win:X.win=21
 cf:X.G.cf=Qh
section
variable {X:Cx}{z z':Ws}{q q':List Ca}{ks:List Int}
theorem acc1(hX:XA X)(h:nt q' [] P0 0 [] [] ks z)(ha:Ua X z RV q 0 z'):nt q [0] P1 0 [] [] (ks++ [1,2]) z':=by
 obtain⟨ND,D,s1,ep,nd,hd,hnd,hz⟩:=ha;obtain⟨p1,p2,p3,p4,p5,p6⟩:=h.P;obtain⟨_,(⟨_,e0,e1⟩|⟨e0,_⟩)⟩:=hd
 .rcases hz with⟨_,x,L2,hL,rfl⟩|⟨q,_⟩
  .subst e1
   refine⟨rfl,by dsimp only;rw[hL,h.L];rfl,⟨Kv,p2,p3,p4,p5,p6⟩,h.ps,h.wt,h.tb,h.ak,h.la,h.ws,h.wk,by simp[h.ev,jK],λd hd=>?_⟩;exact Mk
  .exact(q e0).elim
 .exact(e0 rfl).elim
theorem acc2(hX:XA X)(h:nt q' [0] P1 0 [] [] ks z)(ha:Ua X z QM q 1 z'):∃T,(z'.c.t=some T/\T.ep=1)/\nt q [0,1] P2 0 [T] [T.ep] (ks++ [1]) z':=by
 obtain⟨ND,D,s1,ep,nd,hd,hnd,hz⟩:=ha;obtain⟨p1,p2,p3,p4,p5,p6⟩:=h.P;refine VB;rcases hz with⟨q,_⟩|⟨_,pd,x,hp1,hp2,rfl⟩
 .rw[q,p6]at e1
  cases e1
 rw[p6]at ht1 e1;obtain⟨x0,y0,t0,hw,hx0,hy0,_⟩:=h.wk;rcases hx with⟨_,rfl,rfl,rfl,rfl⟩|⟨k,_⟩
 .dsimp only at hg
  rw[hX.cf,p1,h.wt]at hg;have hg2:(se2,wt2)=(z.c.se,[]):=by rw[←hg];rw[show il dA1 (dN Qh dA1 QM).1=[] from PC.1];rfl
  cases hg2;refine⟨T,⟨rfl,ht1⟩,rfl,by simp[h.L,Dd.new],⟨Kv,p2,p3,p4,p5,T,rfl,ht1⟩,?_,rfl,by dsimp only;rw[h.tb.1,h.tb.2];exact⟨rfl,rfl⟩,h.ak,h.la,h.ws,⟨x0,y0,t0,hw,hx0,hy0,λq=>gZ⟩,by simp[h.ev],λd hd=>?_⟩
  .exact UK
  .exact Mk
 .cases k
theorem acc3(hX:XA X)(h:nt q' [0,1] P2 1 [] [] ks z)(ha:Ua X z NY q 2 z'):∃T,(z'.c.t=some T/\T.ep=2)/\nt q [0,1,2] P3 1 [T] [T.ep] (ks++ [1]) z':=by
 obtain⟨ND,D,s1,ep,nd,hd,hnd,hz⟩:=ha;obtain⟨p1,p2,p3,p4,p5,T1,p6,p7⟩:=h.P;refine VB;have he2:gw z.c.t=1:=by rw[p6];exact p7
 dsimp only at ht1 e1 hg ht2 ht3;rw[he2]at ht1 e1;rcases hz with⟨q,_⟩|⟨_,pd,x,hp1,hp2,rfl⟩
 .omega
 obtain⟨x0,y0,t0,hw,hx0,hy0,_⟩:=h.wk;rcases hx with⟨k,_⟩|⟨_,i,DD,hi,hu,hD,rfl,rfl,rfl,rfl⟩
 .exact(k rfl).elim
 .rw[hX.cf,p1,h.wt,p4,p5]at hg
  dsimp only at hg;have hg2:(se2,wt2)=([⟨(1,3),i,z.c.l[i].turn+1,2147483648⟩],[]):=by rw[←hg];rw[show il dA2 (dN Qh dA2 NY).1=[] from PC.2];rfl
  cases hg2;rw[hX.cf,hX.n,p1]at ht2 ht3;refine⟨T,⟨rfl,ht1⟩,rfl,by simp[h.L,Dd.new],⟨Kv,by dsimp only;rw[p3];rfl,T,i,z.c.l[i].turn+1,rfl,ht1,ht2,ht3⟩,?_,rfl,by dsimp only;rw[h.tb.1,h.tb.2];exact⟨rfl,rfl⟩,h.ak,h.la,h.ws,⟨x0,y0,t0,hw,hx0,hy0,λq=>gZ⟩,by simp[h.ev],λd hd=>?_⟩
  .exact UK
  .exact Mk
end
structure ClmJ(W:Nat)(c:Nat)(Q:Nat->World->Prop):Prop where
 no:∀k w,k<c->Q k w->az 42 #[OV W] w λe w'=>e=aA (.bool false)/\Q k w'
 go:∀k w,k<c->Q k w->az 43 #[OV W] w λe w'=>e=aA (.tuple #[])/\Q (k+1) w'
 yes:∀w,Q c w->az 42 #[OV W] w λe w'=>e=aA (.bool true)/\Q c w'
section
variable {w w' u:World}{Y:Yx}{G:Kx}{ve:Value}{Q:Nat->World->Prop}
theorem Ql(hW:w.heap[Y.W]?=OC (IG G Y ve) 87)(hi:G.intake=5)(hm:Y.cmds=3)(h0:Q 0 w.drew)(hj:ClmJ Y.W 3 Q) :
  az 14 #[OV Y.W] w λe w'=>e=aA (.bool true)/\Q 3 w':=by
 have HJ:=OH hj;have H0:=OH h0;rw[show IG G Y ve=#[JI G.n,JI 5,JI G.window,JI G.keep,JI G.cf.people,JI G.cf.tracks,JI G.cf.subs,JI G.cf.slots,JI Y.ing,JI 3,JI Y.slots,OV G.A,OV G.P,OV G.B,OV Y.C,Y.vw,Y.vu,ve] from by rw[←hi,←hm]]at hW;refine eP;go_enter func14,ntmps14;refine ay;go_step3;refine ay;go_region;refine ay;go_step3;refine ay;go_loopw [22] (λi wr=>∃k:Nat,k<=3/\i=JI k/\Q k wr) (λi _=>100- (intOf i).toNat);case atStart=>exact⟨0,oM,rfl,H0.out⟩
 case round=>
  obtain⟨k,hk,rfl,hq⟩:=hrel;have f3:decide ((k:Int)<96)=true:=by simp only[decide_eq_true_eq];omega
  by_cases hlt:k<3
  .have HNO:=OH (HJ.out.no k wr hlt hq)
   refine ay;refine HNO.out.mono ?_;rintro r w1 ⟨rfl,hq1⟩;have HGO:=OH (HJ.out.go k w1 hlt hq1);refine ay;refine HGO.out.mono ?_;rintro r w2 ⟨rfl,hq2⟩;have HQ2:=OH hq2;refine dA;case rel=>exact⟨k+1,oM,eT,HQ2.out⟩
   case measure=>exact di
  .have hkl:k=3:=oM
   subst hkl;have HYE:=OH (HJ.out.yes wr hq);refine ay;refine HYE.out.mono ?_;rintro r w1 ⟨rfl,hq1⟩;have HY2:=OH (HJ.out.yes w1 hq1);refine Ac;refine HY2.out.mono ?_;rintro r w2 ⟨rfl,hq2⟩;have HQ2:=OH hq2;refine Ac;go_ret;exact⟨rfl,HQ2.out⟩
end
def AwQ(ps:List Ca):Nat->Ws->Prop
 |0=>nt ps [] P0 0 [] [] [0,0,0]
 |1=>nt (ps.drop 1) [0] P1 0 [] [] [0,0,0,1,2]
 |2=>nt (ps.drop 2) [0,1] P2 1 [] [] [0,0,0,1,2,1,2]
 |_=>nt (ps.drop 3) [0,1,2] P3 2 [] [] [0,0,0,1,2,1,2,1,2]
def AwW(Y:Yx)(X:Cx)(ps:List Ca)(k:Nat)(w:World):Prop:=∃M m z,bn w Y X M 0 m z/\d6 X 6 6 (3+10*k) 0 m z/\AwQ ps k z
section
variable {w w':World}{Y:Yx}{X:Cx}{M:Nat->Prop}{N m k:Nat}{z:Ws}{p0 p1 p2:Ca}{ps:List Ca}
theorem AwW.none(h:AwW Y X ps k w)(hc:ag af w w'):AwW Y X ps k w':=by obtain⟨M,m,z,a,b⟩:=h;exact⟨M,m,z,a.none hc,b⟩
theorem yr{ids:List Int}(h:L.map Dd.En.id=ids)(hn:id ∉ ids):Dd.dB L id=.none:=Dd.tK.2 (h ▸ hn)
theorem aw_len{ids:List Int}(h:L.map Dd.En.id=ids):L.length=ids.length:=by rw[←h,Xa4]
theorem yq{q:List Ca}{ids ks ep:List Int}{P:De->List Sl->Int->List Se->Int->Option Tb->Prop}{e:Int}(hX:XA X)(h:nt q ids P e [] ep ks z):∀i,i<X.n->(z.c.tabs i).length<X.room:=λi hi=>by
 rw[hX.n]at hi;rw[hX.room];rcases Xb1 i 1 with q|q
 .rw[show i=0 by omega,h.tb.1]
  simp
 .rw[show i=1 by omega,h.tb.2]
  simp
theorem aw_go(hX:ox X)(hA:XA X)(e0:p0.zs=dR (dO 0 RV))(e1:p1.zs=dR (dO 1 QM))(e2:p2.zs=dR (dO 2 NY))(hk:k<3)(h:AwW Y X [p0,p1,p2] k w) :
  az 43 #[OV Y.W] w λe w'=>e=aA (.tuple #[])/\AwW Y X [p0,p1,p2] (k+1) w':=by
 obtain⟨M,m,z,hs,ht,hz⟩:=h;have h2:X.n=2/\X.room=3:=⟨hA.n,hA.room⟩
 have hwin:=hA.win;rcases k with _|_|_|k
 .have hz:nt [p0,p1,p2] [] P0 0 [] [] [0,0,0] z:=hz
  have ha:=Qz hX oM hs ht hz.q (by rw[e0];exact pars.1) (yr hz.L sM) Kp (by rw[hA.cf,hz.P.1];exact P7.1) (yq hA hz) (λq=>gZ);refine(Od (N:=0) (k0:=3+10*0+1) (Mid:=nt [p1,p2] [0] P1 0 [] [] [0,0,0,1,2]) (R:=nt [p1,p2] [0] P1 0 [] [] [0,0,0,1,2]) hX h2 oM (λz h=>h.qt) (λz L' h hL=>h.idle hL) (ha.mono ?_)).mono ?_
  .refine Mo
   exact⟨rfl,M',m',z',⟨acc1 hA hz q1,q2⟩,q3⟩
  exact Mj
 .have hz:nt [p1,p2] [0] P1 0 [] [] [0,0,0,1,2] z:=hz
  have ha:=Qz hX oM hs ht hz.q (by rw[e1];exact pars.2.1) (yr hz.L sM) Kp (by rw[hA.cf,hz.P.1];exact P7.2.1) (yq hA hz) (λq=>gZ);refine(Od (N:=0) (k0:=3+10*1+1) (Mid:=λz=>∃T,(z.c.t=some T/\T.ep=1)/\nt [p2] [0,1] P2 0 [T] [T.ep] [0,0,0,1,2,1] z) (R:=nt [p2] [0,1] P2 1 [] [] [0,0,0,1,2,1,2]) hX h2 oM (λz ⟨_,_,h⟩=>h.qt) (λz L' ⟨T,⟨t1,t2⟩,h⟩ hL=>?_) (ha.mono ?_)).mono ?_
  .have:=h.table t1 oM hL
   rw[t2]at this;exact this
  .refine Mo
   exact⟨rfl,M',m',z',⟨acc2 hA hz q1,q2⟩,q3⟩
  exact Mj
 .have hz:nt [p2] [0,1] P2 1 [] [] [0,0,0,1,2,1,2] z:=hz
  have ha:=Qz hX oM hs ht hz.q (by rw[e2];exact pars.2.2) (yr hz.L sM) Kp (by rw[hA.cf,hz.P.1];exact P7.2.2) (yq hA hz) (λ_=>⟨0,by rw[hz.P.2.1];simp,by simp only[hz.P.2.1];rfl⟩);refine(Od (N:=0) (k0:=3+10*2+1) (Mid:=λz=>∃T,(z.c.t=some T/\T.ep=2)/\nt [] [0,1,2] P3 1 [T] [T.ep] [0,0,0,1,2,1,2,1] z) (R:=nt [] [0,1,2] P3 2 [] [] [0,0,0,1,2,1,2,1,2]) hX h2 oM (λz ⟨_,_,h⟩=>h.qt) (λz L' ⟨T,⟨t1,t2⟩,h⟩ hL=>?_) (ha.mono ?_)).mono ?_
  .have:=h.table t1 oM hL
   rw[t2]at this;exact this
  .refine Mo
   exact⟨rfl,M',m',z',⟨acc3 hA hz q1,q2⟩,q3⟩
  exact Mj
 .omega
theorem aw_clm(hX:ox X)(hA:XA X)(e0:p0.zs=dR (dO 0 RV))(e1:p1.zs=dR (dO 1 QM))(e2:p2.zs=dR (dO 2 NY)):ClmJ Y.W 3 (AwW Y X [p0,p1,p2]):=by
 refine⟨λk w hk h=>?_,λk w hk h=>aw_go hX hA e0 e1 e2 hk h,λw h=>?_⟩
 .have h0:=h
  obtain⟨M,m,z,hs,ht,hz⟩:=h;refine(TO hs ?_).mono ?_
  .rcases k with _|_|_|k
   .rw[nt.q hz]
    simp
   .rw[nt.q hz]
    simp
   .rw[nt.q hz]
    simp
   .omega
  .exact UG
 .have h0:=h
  obtain⟨M,m,z,hs,ht,hz⟩:=h;have hz:nt [] [0,1,2] P3 2 [] [] [0,0,0,1,2,1,2,1,2] z:=hz;obtain⟨x,y,t,hw,hx,hy,_⟩:=hz.wk;refine(Qk hs ⟨hz.q,by simpa using hz.ps,hz.ak,hz.wt,λv hv=>?_,λi hi=>?_⟩).mono ?_
  .refine Vj
   .exact⟨hx.2.1,hx.2.2.1,hx.2.2.2.2.1⟩
   .exact⟨hy.2.1,hy.2.2.1,hy.2.2.2.2.1⟩
  .rw[hw]at hi
   simp only[Xa3,Xa2]at hi;rcases Xb1 i 1 with q|q
   .rw[show i=0 by omega,hz.tb.1]
   .rw[show i=1 by omega,hz.tb.2]
  .exact UG
end
abbrev yV:List Int:=dR (Tp 128 0 {rk with ssrc:=9,zs:=[16,0] })++ [16,0]
theorem mg:(lJ yV/\xQ yV=false)/\yV.drop 12=[16,0]/\wy ((yV.drop 8).take 4)=9/\yV.length=14:=by refine⟨⟨⟨kM,dM,dM,dM⟩,kM⟩,kM,kM,kM⟩
theorem bel_A(h:T.rs=[rtA]):mU (some T) yV=(1,true):=by unfold mU;rw[if_neg (by rw[mg.2.2.2];omega),mg.1.2];have hs:IB yV=9:=kM;simp[dQ,hs,h]
theorem OF{d:Dn}{l:List Dn}{tr:Int}(h:po [d] tr l)(hd:d.track=tr):l=[d]:=by
 obtain⟨h1,h2,h3⟩:=h;have hm:=h2 d sM hd;have he:∀x∈l,x=d:=λx hx=>by simpa using (h1 x hx).1
 rcases l with _|⟨a,_|⟨b,l⟩⟩
 .simp at hm
 .rw[he a sM]
 .rw[he a sM,he b sM]at h3
  simp at h3
def Wy(T:Tb)(i tn:Int):Nat->Wk->Prop
 |0,y=>y.now=none/\(∃p,y.pk=[p]/\p.n=9/\p.zs=yV)/\y.tb=some T/\y.came=[]
 |1,y=>(∃j,y.now=some j/\j.looks=false/\j.zs=yV/\j.n=9/\j.todo=[])/\y.tb=some T/\y.came=[]
 |2,y=>∃j,y.now=some j/\j.looks=true/\j.n=9/\j.todo=[.send (dnQ i tn)]/\j.rt=rtA/\wC j.med/\j.med.zs=[16,0]
 |3,y=>∃j,y.now=some j/\j.looks=true/\j.todo=[]
 |_,y=>y.now=none
def Wv:Nat->List Ev->Prop
 |0,l=>l=[]
 |1,l=>l=[]
 |2,l=>∃v,l=[v]/\v.k=6
 |_,l=>∃v u,l=[v,u]/\v.k=6/\u.k=7/\u.n=9/\u.o.n=1
structure Wz(ks:List Int)(T:Tb)(i tn:Int)(k:Nat)(z:Ws):Prop where
 tt:T.rs=[rtA]/\T.ds=[dnQ i tn]
 c:z.c.d.subs.length=1/\z.c.live=1
 dn:k<3->∀d∈z.dn,d.x=JB
 wk:∃x y,z.wk=[x,y]/\y.sh=1/\Wy T i tn k y
 ev:∃e9 v l,z.ev=e9++ [v] ++l/\e9.map Ev.k=ks/\v.k=3/\v.sh=1/\Wv k l
section
variable {ks:List Int}{T:Tb}{i tn:Int}{k:Nat}{z:Ws}{c':Cs}{dn':List Dx}{x':Wk}{o:Ou}{b:Bool}
theorem Wz.step(h:Wz ks T i tn k z)(hk:k<4)(hi:1<z.wk.length)(hr:iR z z.wk[1] c' dn' x' o b):Wz ks T i tn (k+1) {z with c:=c',wk:=z.wk.set 1 x',dn:=dn',ev:=z.ev++og 1 z.wk[1] x' o b}:=by
 obtain⟨hT,hc,hdn,⟨x,y,hw,hsh,hy⟩,e9,v,l,he,h9,h3,hs1,hv⟩:=h;obtain⟨c,wk,dn,ev⟩:=z;dsimp only at hw he hc hdn;subst hw he;replace hr:iR ⟨c,[x,y],dn,e9++ [v] ++l⟩ y c' dn' x' o b:=hr;have hev:og 1 ([x,y][1]) x' o b=og 1 y x' o b:=rfl;rcases k with _|_|_|_|k
 .obtain⟨h1,⟨p,h2,h4,h5⟩,h6,h7⟩:=hy
  cases hr with
  |idle q1 q2=>
   rw[h2]at q2;cases q2
  |next q1 q2=>
   rw[h2]at q2;cases q2;refine⟨hT,hc,λ_=>hdn oM,⟨x,_,rfl,hsh,⟨_,rfl,rfl,h5,h4,rfl⟩,h6,h7⟩,e9,v,l,?_,h9,h3,hs1,hv⟩;simp[og,Wk.look,h1]
  |bad q1=>
   refine iZ
  |dK q1=>
   refine iZ
  |does q1=>
   refine iZ
  |done q1=>refine iZ
 .obtain⟨⟨j,h1,h2,h4,h5,h6⟩,h7,h8⟩:=hy
  cases hr with
  |idle q1 q2=>
   refine iZ
  |next q1 q2=>
   refine iZ
  |bad q1 q2 q3 q4 q5=>
   refine iZ;exact(q5 (h4 ▸ mg.1)).elim
  |dK q1 q2 q3 q4 q5 q6 q7 q8 q9 q10 q11 q12=>
   refine iZ;obtain⟨p,hp,hs⟩:=q12 (h4 ▸ mg.1.1) (h4 ▸ mg.1.2);obtain⟨p1,p2,p3,p4,p5,p6,p7⟩:=hp;rw[h4,mg.2.1]at p6;rw[h4,mg.2.2.1]at p7;have hr1:dQ y.tb p.ssrc=some rtA:=by rw[h7,p7];simp[dQ,hT.1]
   unfold ue at hs;dsimp only at hs;rw[hr1,h8,if_pos ⟨rfl,by rw[hsh];rfl⟩,if_neg (by simp[nB,It,Rv.eG])]at hs;obtain⟨l1,vv,hd,hxe⟩:=hs;rw[h7]at hd;have hl:l1=[dnQ i tn]:=OF (hT.2 ▸ hd) rfl;subst hl;obtain⟨jj,e1,e2,e3,e4,e5,e6⟩:∃jj:Jb,x'.now=some jj/\jj.looks=true/\jj.n=j.n/\jj.todo=j.todo++ [.send (dnQ i tn)]/\jj.rt=rtA/\jj.med=p:=⟨{j with looks:=true,tb:=y.tb,med:=p,rt:=rtA,todo:=j.todo++ [.send (dnQ i tn)],v:=vv},by rw[hxe];rfl,rfl,rfl,rfl,rfl,rfl⟩
   refine⟨hT,hc,λ_=>hdn oM,⟨x,x',rfl,by rw[hxe];exact hsh,jj,e1,e2,e3.trans h5,by rw[e4,h6];rfl,e5,by rw[e6];exact⟨p1,p2,p3,p4,p5,by rw[p6];decide⟩,by rw[e6];exact p6⟩,e9,v,[lkE 1 x'],?_,h9,h3,hs1,_,rfl,rfl⟩;rw[hev,show l=[] from hv];have hlk:x'.look.2=true:=by rw[hxe];rfl
   have hly:y.look.2=false:=by simp[Wk.look,h1,h2]
   simp[og,hlk,hly]
  |does q1 q2=>
   exact vi
  |done q1 q2=>exact vi
 .obtain⟨j,h1,h2,h4,h5,h6,h7,h8⟩:=hy
  cases hr with
  |idle q1 q2=>
   refine iZ
  |next q1 q2=>
   refine iZ
  |bad q1 q2=>
   exact vi
  |dK q1 q2=>
   exact vi
  |done q1 q2 q3=>
   refine iZ;rw[h5]at q3;cases q3
  |does q1 q2 q3 hkk hii q4 q5 q6 q7 q8 q9 q10 q11 q12 q13=>refine iZ;rw[h5]at q3;cases q3;have hx0:=hdn oM _ (PI hkk);obtain⟨r1,r2,r3,r4,r5⟩:=q13 _ rfl rfl ⟨by rw[hx0],by rw[h6],by rw[h6],h7,h8⟩;subst r1;obtain⟨w,rfl,hw6⟩:=hv;refine⟨hT,hc,λq=>oM,⟨x,x',rfl,q6.2.1.trans hsh,_,q7,q10.trans h2,r5⟩,e9,v,[w,outE 1 o],?_,h9,h3,hs1,w,_,rfl,hw6,rfl,r4.trans h4,r3⟩;rw[hev];simp[og,Wk.look,h1,h2,q7,q10]
 .obtain⟨j,h1,h2,h4⟩:=hy
  cases hr with
  |idle q1 q2=>
   refine iZ
  |next q1 q2=>
   refine iZ
  |bad q1 q2=>
   exact vi
  |dK q1 q2=>
   exact vi
  |does q1 q2 q3=>
   refine iZ;rw[h4]at q3;cases q3
  |done q1 q2 q3 q4=>refine⟨hT,hc,λq=>oM,⟨x,_,rfl,hsh,rfl⟩,e9,v,l,?_,h9,h3,hs1,hv⟩;rw[hev];simp[og,Wk.look]
 .omega
end
section
variable {w w':World}{Y:Yx}{X:Cx}{M:Nat->Prop}{N m k:Nat}{z:Ws}{ks ids:List Int}{e:Int}
def T8(Y:Yx)(X:Cx)(k:Nat)(ks:List Int)(kk:Nat)(w:World):Prop:=∃M N m z T i tn,bn w Y X M N m z/\d6 X 6 6 (k+kk) N m z/\Wz ks T i tn kk z
theorem TM(hk:k<=300)(h:bn w Y X M N m z)(ht:d6 X 6 6 k N m z)(ha:nt [] ids P3 e [] [] ks z)(h9:ks.length=9)(hs:LZ w Y.b A cap yV) :
  az 15 #[OV Y.W,.slice A yV.length cap] w λe w'=>e=aA (.tuple #[])/\T8 Y X (k+1) ks 0 w':=by
 obtain⟨p1,p2,T,i,tn,p3,p4,p5,p6⟩:=ha.P;have hb:mU z.c.t yV=(1,true):=by rw[p3];exact bel_A p5
 refine(Gq h hs (by rw[mg.2.2.2];omega) ?_ (λq=>Qs ht.v q) Et).mono ?_
 .intro z hz
  rcases Xa8.1 hz with q|q
  .exact fh _ z q
  .simp at q
   omega
 rw[hb];obtain⟨x,y,t,hw,hx,hy,hq⟩:=ha.wk;have hl9:z.ev.length=9:=by have:=congrArg Xa9 ha.ev;simpa[h9]using this
 rintro r w' ⟨rfl,a',c,(⟨q,_⟩|⟨_,j,hj,hj1,(⟨_,p,q1,q2,h'⟩|⟨q,_⟩)⟩)⟩
 .cases q
 .have:j=1:=oM
  subst this;refine⟨rfl,M,N,m,_,T,i,tn,h',(ht.pk (kd:=0) (es:=[rf 3 0 1 a' c yV]) hj sM sM).1,⟨p5,p6⟩,⟨by dsimp only;rw[p1];rfl,p2⟩,λ_=>ha.dn,?_,z.ev,rf 3 0 1 a' c yV,[],?_,ha.ev,rfl,rfl,rfl⟩
  .obtain⟨c0,wk,dn,ev⟩:=z
   dsimp only at hw hq hl9 q1;subst hw;exact⟨x,{y with pk:=y.pk++ [p] },rfl,hy.1,hy.2.2.1,⟨p,by dsimp only;rw[hy.2.1];rfl,by rw[q1,hl9];rfl,q2⟩,by dsimp only;rw[hy.2.2.2.1,hq rfl];exact p3,hy.2.2.2.2.2⟩
  .simp
 .have:j=1:=oM
  subst this;have hL:=ht.L _ Hy;have hpk:z.wk[1].pk=[]:=by simp only[hw];exact hy.2.1
  rw[hpk,hL]at q;cases q
theorem Rm{kk:Nat}(hk:k<=300)(hkk:kk<4)(h:T8 Y X k ks kk w):az 17 #[OV Y.W,JI 1] w λe w'=>e=aA (.tuple #[])/\T8 Y X k ks (kk+1) w':=by
 obtain⟨M,N,m,z,T,i,tn,h,ht,hz⟩:=h;have hl:z.wk.length=2:=by obtain⟨x,y,hw,_⟩:=hz.wk;rw[hw];rfl
 refine(Gk 1 h (by have:=ht.N;omega) (λi hi=>(ht.v.w _ lm).job ht.v.c) (by have:=ht.v.c.ll;omega) Et).mono ?_;rintro r w' ⟨rfl,(⟨q,_⟩|⟨j,hj,o,b',c',dn',x',e,hr,h'⟩)⟩
 .rw[hl]at q
  omega
 .have:j=1:=oM
  subst this;exact⟨rfl,M,_,m,_,T,i,tn,h',(ht.work (kd:=0) 1 hj hr).1,hz.step hkk hj hr⟩
end
end Go.Proofs.YtnpancjkjheffaaGreat
