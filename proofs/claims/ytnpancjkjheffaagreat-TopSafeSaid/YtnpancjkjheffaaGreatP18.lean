/- Part 20 of the proof of TopSafe. No condition. -/
import Derived.Test.YtnpancjkjheffaaGreatP17
namespace Go.Proofs.YtnpancjkjheffaaGreat
set_option linter.unusedVariables false
set_option linter.unusedSimpArgs false
set_option maxRecDepth 100000
set_option maxHeartbeats 8000000
open Go.RowKit
open Go.Proofs.Tryz
open _root_.List renaming getElem_mem->PI,getD_eq_getElem?_getD->Xa0,flatMap_cons->Xa1,getElem?_eq_getElem->Xa2,mem_iff_getElem->Xa3,getElem_of_mem->Xa4,append_nil->Xa5,set_getElem_self->Xa6,getElem_set_self->Xa7,range->Xa8,getElem_set->Xa9,length_set->Xb0,map->Xb1
open Calls renaming mono->Xb2
open Below renaming refl->Xb3
open World renaming setCell->Xb4
open Value renaming int->Xb5,slice->Xb6
variable {caps:Array Value}{c':Cs}{s:Int}{zs:List Int}{ts:List TypeId}{B b c cap i k m n:Nat}{vals:Nat->Value}{A a:Option Addr}{o:Ou}{x x':Wk}{w:World}
section
variable {w w' u:World}{M M':Nat->Prop}{Y:Yx}{X:Cx}{N N' m m':Nat}{z:Ws}
theorem bn.wrkc{F:Nat->Prop}(h:bn w Y X M N m z)(hi:i<z.wk.length)(hN:N<=N')(hw:aL w' N' M ⟨X.G.A,X.G.P,X.G.B⟩ x')(hsh:x'.sh=z.wk[i].sh)(hW:x'.W=z.wk[i].W)(ho:∀j,x'.own j->z.wk[i].own j\/w.heap.size<=j)(hc:ag (λj=>z.wk[i].own j\/F j) w w')(hF:eF sP (λ_=>True) w F)(hFb:∀j,F j->Y.b<=j)(ct:bh w' X M m c')(hl:Hu c'.l z.c.l):bn w' Y X M N' m {z with c:=c',wk:=z.wk.set i x'}:=by
 refine LY;have ha:∀ {ts:List TypeId} {ms:Nat->Prop},([164,246,157,219,224].all λt=>ts.all λu=>u !=t)=true->ts ⊆ sP->(∀j,ms j->¬z.wk[i].own j)->eF ts ms w (λj=>z.wk[i].own j\/F j):=λht hu hms=>(hx.own_apt ht (λq=>hms _ q (.inr (.inr (.inr (.inl rfl))))) (λq=>hms _ q (.inr (.inr (.inr (.inr (.inl rfl))))))).or (hF.mono hu λ_ _=>trivial)
 refine Xl;refine⟨ct,h.ev.chg (ms:=λ_=>False) hc (ha rM oB λ_ q=>q.elim),h.yc,?_,hall hw λk hk e=>?_,Kg,λk hk=>?_,?_,hall ?_ λk hk _=>h.wm _ ny,λd hd=>?_,h.dd,λd hd=>?_,h.slk hl,h.yb,hall (P:=λx=>∀j,x.own j->Y.b<=j) (λj q=>(ho j q).elim (h.lw _ hm j) λq=>KI) (λk hk _=>h.lw _ ny),h.ld,jl h.be hc (λj _ q=>q.elim (h.lw _ hm j) (hFb j)),pS h.kp hc ((ha (ts:=[42]) (ms:=λ_=>False) rM oB λ_ q=>q.elim).off)⟩
 .have:=ah h.wv hc ((ha (ts:=[89]) (ms:=λ_=>False) rM oB λ_ q=>q.elim).off)
  exact Nd
 .have hy:=h.wk _ ny
  have h0:=ha (ts:=Ct.filter λt=>![164,246,157,219,224].contains t) (ms:=λ_=>False) rM oB λ_ q=>q.elim
  exact(hy.kept hc (λj hj q=>q.elim (hap k i hk hi e j hj) λq=>(by
   rcases hF j (hlt k hk j hj) q with⟨c,t,k1,k2⟩|⟨_,k2⟩
   .rcases hy.own_type hj k1 with e|e|e|e|e<;>subst e<;>simp[sP]at k2
   .exact k2 trivial)) h0.off (λj hj hl q=>q.elim (hMo j hj) λq=>(by
   rcases hF j hl q with⟨c,t,k1,k2⟩|⟨_,k2⟩
   .exact(h.ct.mm j hj).2 _ _ k1
   .exact k2 trivial)) h0.off h0.off h0.off).monoN hN
 exact Yt
 .exact Nj
 .exact⟨λq=>(ho _ q).elim m1 λq=>oM,λq=>(ho _ q).elim m2 λq=>oM⟩
 .obtain⟨_,_,_,k4⟩:=h.dm d hd
  exact((h.dn d hd).apt (ms:=λj=>j=d.Mm) hc (ha rM oB λj e=>by subst e;exact k4 _ hm) rfl).mono hN
 .exact Wo
end
abbrev ctP:List TypeId:=[153,167,173,170,52,263,265,3,235,143,5,238,47,124,352,136,229,132,232,139,137,279]
section
variable {w w' u:World}{M M':Nat->Prop}{X:Cx}{m:Nat}{s:Cs}{S:Nat->Prop}
theorem bh.pin{ws':List Pw}{wt':List Wt}(h:bh w X M m s)(hc:ag S w w')(hS:eF ctP (Hj X M) w S)(hp:br w' X.b X.G.P X.LP ws' wt')(hl:ws'.length=s.ws.length):bh w' X M m {s with ws:=ws',wt:=wt'}:=by
 have hA:∀ {us:List TypeId} {ms:Nat->Prop},us ⊆ ctP->(∀j,ms j->Hj X M j)->eF us ms w S:=λhu hm=>hS.mono hu hm
 have hf:∀j,(λ_:Nat=>False) j->Hj X M j:=λ_ q=>q.elim
 exact⟨h.pc hc (hA sM hf),h.pq hc (hA sM hf),h.pca hc (hA sM hf),h.psn hc (hA sM λj e=> .inr (.inr e)),h.pse hc (hA sM λj e=> .inr (.inl e)),h.pa hc (hA sM hf),hp,h.pb hc (hA sM hf) (hS.not h.b.la),h.pt hc (hA sM λj e=> .inl e),h.ptt hc (hA sM λj e=> .inl e),h.pmm hc (hA sM λj e=> .inl e),h.nm,h.pst hc hl,h.lo⟩
end
abbrev ctB:List TypeId:=[153,167,173,170,52,263,265,3,235,143,5,238,47,124,352,128,317,346,279]
section
variable {w w' u:World}{M M':Nat->Prop}{X:Cx}{m:Nat}{s:Cs}{S:Nat->Prop}
theorem bh.brd{tabs':Nat->List Tb}{acks':List (Int×Int)}{last':List Int}(h:bh w X M m s)(hc:ag S w w')(hS:eF ctB (Hj X M) w S)(hb:aH w' X.b X.G.B X.QA X.RA X.LA X.n X.q X.r X.room (Iw tabs') acks' last')(hsub:∀i t,t∈tabs' i->t∈s.tabs i):bh w' X M m {s with tabs:=tabs',acks:=acks',last:=last'}:=by
 have hA:∀ {us:List TypeId} {ms:Nat->Prop},us ⊆ ctB->(∀j,ms j->Hj X M j)->eF us ms w S:=λhu hm=>hS.mono hu hm
 have hf:∀j,(λ_:Nat=>False) j->Hj X M j:=λ_ q=>q.elim
 exact⟨h.pc hc (hA sM hf),h.pq hc (hA sM hf),h.pca hc (hA sM hf),h.psn hc (hA sM λj e=> .inr (.inr e)),h.pse hc (hA sM λj e=> .inr (.inl e)),h.pa hc (hA sM hf),h.pp hc (hA sM hf),hb,h.pt hc (hA sM λj e=> .inl e),λi hi t ht=>h.ptt hc (hA sM λj e=> .inl e) i hi t (hsub i t ht),h.pmm hc (hA sM λj e=> .inl e),h.nm,h.pst hc rfl,h.lo⟩
end
inductive j0(X:Cx)(c:Cs)(x:Wk):Cs->Wk->Prop
 |nil:x.ph=0->c.tabs x.sh=[]->j0 X c x c x
 |take {t:Tb} {ts:List Tb}:x.ph=0->c.tabs x.sh=t::ts->j0 X c x {c with tabs:=λi=>if i=x.sh then ts else c.tabs i} {x with nx:=some t,ph:=1}
 |go {L:List (Int×Rv.Tr)} (h:x.sh<c.ws.length):x.ph=1->(∀p∈L,p∈x.came)->j0 X c x {c with ws:=c.ws.set x.sh ⟨gw x.nx,c.ws[x.sh].sees,c.ws[x.sh].looks⟩} {x with tb:=x.nx,came:=L,ph:=2}
 |ack:x.ph=2->c.acks.length<X.n*X.room->j0 X c x {c with acks:=c.acks++ [((x.sh:Int),gw x.tb)] } {x with ph:=0}
 |full:x.ph=2->c.acks.length=X.n*X.room->j0 X c x c {x with ph:=2}
section
variable {w w' u:World}{M M':Nat->Prop}{Y:Yx}{X:Cx}{N m:Nat}{z:Ws}
theorem bn.wap(h:bn w Y X M N m z)(hi:i<z.wk.length)(ht:([164,246,157,219,224].all λt=>ts.all λu=>u !=t)=true):eF ts (Hj X M) w z.wk[i].own:=by
 refine LY;refine hx.own_apt ht (λq=>?_) (λq=>?_)
 .rcases q with q|q|q
  .exact(hx.mo _ q).2 (.inr (.inr (.inr (.inl rfl))))
  .exact m1 (q ▸ .inr (.inr (.inr (.inl rfl))))
  .exact m2 (q ▸ .inr (.inr (.inr (.inl rfl))))
 .rcases q with q|q|q
  .exact(hx.mo _ q).2 (.inr (.inr (.inr (.inr (.inl rfl)))))
  .exact m1 (q ▸ .inr (.inr (.inr (.inr (.inl rfl)))))
  .exact m2 (q ▸ .inr (.inr (.inr (.inr (.inl rfl)))))
theorem RF(f:Nat->List Tb)(k:Nat)(ts:List Tb):jw (Iw f) k (ts.map λt=>nA (some t))=Iw (λi=>if i=k then ts else f i):=by
 funext i
 by_cases e:i=k<;>simp[jw,Iw,e]
theorem obey_t(h:bn w Y X M N m z)(hi:i<z.wk.length)(hph:z.wk[i].ph=0\/z.wk[i].ph=1\/z.wk[i].ph=2)(hep:∀h2:i<z.c.ws.length,z.wk[i].ph=1->z.c.ws[i].at'<=gw z.wk[i].nx) :
  az 63 #[OV (z.wk[i].W)] w λe w'=>e=aA (.tuple #[])/\∃c' x',j0 X z.c z.wk[i] c' x'/\bn w' Y X M N m {z with c:=c',wk:=z.wk.set i x'}:=by
 have hx:=h.wk _ lm;have hsh:=h.wi i hi;have hin:i<X.n:=by have:=h.wl;omega
 have hn:z.wk[i].sh<X.n:=oM;have hws:z.c.ws.length=X.n:=h.ct.st.2.2.2.2.2;have hMc:∀j,M j->∀c t,w.heap[j]?≠OC c t:=λj hj=>(h.ct.mm j hj).2
 have hsame:∀ {W:World},aC w W->bn W Y X M N m {z with c:=z.c,wk:=z.wk.set i z.wk[i] }:=λhb=>by rw[Xa6];exact h.none (.of hb)
 have hqr:eF sP (λ_=>True) w (λj=>j=X.q z.wk[i].sh\/j=X.r z.wk[i].sh):=by obtain⟨a,cur,hq⟩:=h.ct.b.tq _ hn;exact Fs
 have hqr2:eF ctB (Hj X M) w (λj=>j=X.q z.wk[i].sh\/j=X.r z.wk[i].sh):=by obtain⟨a,cur,hq⟩:=h.ct.b.tq _ hn;exact Fs
 have hqb:∀j,(j=X.q z.wk[i].sh\/j=X.r z.wk[i].sh)->Y.b<=j:=λj e=>by have:=h.ct.b.b.2.2.2.2 _ hn;have:=h.yb;rcases e with e|e<;>subst e<;>omega
 have hak:eF sP (λ_=>True) w (λj=>j=X.QA\/j=X.RA):=by obtain⟨a,cur,hq⟩:=h.ct.b.ak;exact Fs
 have hak2:eF ctB (Hj X M) w (λj=>j=X.QA\/j=X.RA):=by obtain⟨a,cur,hq⟩:=h.ct.b.ak;exact Fs
 rcases hph with hp|hp|hp
 .rcases ht:z.c.tabs z.wk[i].sh with _|⟨t,ts⟩
  .refine(Ny hx hp h.ct.b hn (by show Xb1 _ _=_;rw[ht];rfl)).mono ?_
   rintro e w' ⟨rfl,hb⟩;exact⟨rfl,_,_,.nil hp ht,hsame hb⟩
  .refine(Nx (t:=some t) (xs:=ts.map λt=>nA (some t)) hx hp h.ct.b hn (by show Xb1 _ _=_;rw[ht];rfl) (h.ct.tt _ hn t KC) hMc).mono ?_
   rintro e w' ⟨rfl,hx',hB',hc⟩;rw[RF]at hB';refine⟨rfl,_,_,.take hp ht,h.wrkc hi fo hx' rfl rfl (λj q=> .inl q) hc hqr hqb (h.ct.brd hc ((h.wap hi rM).or hqr2) hB' λk t' hk=>?_) oD⟩;split at hk
   .next e=>rw[e,ht];exact List.mem_cons_of_mem _ hk
   .exact hk
 .have hl:z.wk[i].sh<z.c.ws.length:=oM
  have hLP:¬M X.LP:=λq=>hMc _ q _ _ h.ct.p.l
  refine(Nw hx hp h.ct.p hLP hl zt149).mono ?_;rintro e w' ⟨rfl,L,hL,hx',hP',hc⟩;refine WQ;exact⟨rfl,_,_,.go hl hp hL,h.wrkc hi fo hx' rfl rfl (λj q=> .inl q) hc (hlp rM) (λj e=>by subst e;rw[h.yb];exact h.ct.p.bL) (h.ct.pin hc ((h.wap hi rM).or (hlp rM)) hP' sM) oD⟩
 .refine(Nv hx hp h.ct.b hn hMc).mono ?_
  rintro e w' ⟨rfl,acks',p,ha,hx',hB',hc⟩;have hS:=h.wrkc hi fo hx' rfl rfl (λj q=> .inl q) hc hak (λj e=>by have:=h.ct.b.b;have:=h.yb;rcases e with e|e<;>subst e<;>omega) (h.ct.brd hc ((h.wap hi rM).or hak2) hB' λ_ _ q=>q) oD;rcases ha with⟨h1,rfl,rfl⟩|⟨h1,rfl,rfl⟩
  .exact⟨rfl,_,_,.ack hp h1,hS⟩
  .exact⟨rfl,_,_,.full hp h1,hS⟩
end
section
variable {w w' u:World}{M M':Nat->Prop}{Y:Yx}{X:Cx}{N N' m m':Nat}{z:Ws}{S:Nat->Prop}
theorem dC.dis{D St R Mm:Nat}{x:oz}{ms:Nat->Prop}(h:dC w N D St R Mm n s x)(hS:eF [379,243,430] ms w S)(hm:ms Mm):∀j,S j->¬iB D St R Mm j:=λj q hD=>by exact ZA
theorem bn.apd(h:bn w Y X M N m z){d:Dx}(hx:x∈z.wk)(hd:d∈z.dn):∀j,x.own j->¬iB d.D d.S d.R d.Mm j:=
 (h.dn d hd).dis (ms:=λj=>j=d.Mm) ((h.wk x hx).own_apt rM (λq=>(h.dm d hd).2.2.2 x hx (q ▸ .inr (.inr (.inr (.inl rfl))))) (λq=>(h.dm d hd).2.2.2 x hx (q ▸ .inr (.inr (.inr (.inr (.inl rfl))))))) rfl
theorem bn.dap{d:Dx}(h:bn w Y X M N m z)(hd:d∈z.dn)(ht:([379,243,430].all λt=>ts.all λu=>u !=t)=true):eF ts (Hj X M) w (iB d.D d.S d.R d.Mm):=
 (h.dn d hd).own_apt ht λq=>q.elim (h.dm d hd).1 λq=>q.elim (h.dm d hd).2.1 (h.dm d hd).2.2.1
theorem bn.wrkd{y:oz}(h:bn w Y X M N m z)(hi:i<z.wk.length)(hk:k<z.dn.length)(hN:N<=N')(hw:aL w' N' M ⟨X.G.A,X.G.P,X.G.B⟩ x')(hsh:x'.sh=z.wk[i].sh)(hW:x'.W=z.wk[i].W)(ho:∀j,x'.own j->z.wk[i].own j\/w.heap.size<=j)(hd:dC w' N' z.dn[k].D z.dn[k].S z.dn[k].R z.dn[k].Mm z.dn[k].n z.dn[k].s y)(hc:ag (λj=>z.wk[i].own j\/iB z.dn[k].D z.dn[k].S z.dn[k].R z.dn[k].Mm j) w w'):bn w' Y X M N' m {z with wk:=z.wk.set i x',dn:=z.dn.set k {z.dn[k]with x:=y}}:=by
 have hm:=PI hi;have hmd:=PI hk;have hx:=h.wk _ hm;obtain⟨m1,m2⟩:=h.wm _ hm;have ha:∀ {ts:List TypeId},([164,246,157,219,224].all λt=>ts.all λu=>u !=t)=true->([379,243,430].all λt=>ts.all λu=>u !=t)=true->eF ts (Hj X M) w (λj=>z.wk[i].own j\/iB z.dn[k].D z.dn[k].S z.dn[k].R z.dn[k].Mm j):=λh1 h2=>(h.wap hi h1).or (h.dap hmd h2)
 refine zq31;have hdl:∀ {P:Dx->Prop},P {z.dn[k]with x:=y}->(∀ (l:Nat) (hl:l<z.dn.length),l≠k->P z.dn[l])->∀d∈z.dn.set k {z.dn[k]with x:=y},P d:=λh1 h2 d hd=>by
  obtain⟨l,hl,rfl⟩:=Xa4 hd;refine lQ;split
  .exact h1
  .next e=>exact h2 l El (λq=>e q.symm)
 have hdd:∀ (a b:Nat) (ha:a<z.dn.length) (hb:b<z.dn.length),a≠b->∀j,iB z.dn[a].D z.dn[a].S z.dn[a].R z.dn[a].Mm j->¬iB z.dn[b].D z.dn[b].S z.dn[b].R z.dn[b].Mm j:=λa b ha hb e=>Oi (R:=λd e=>∀j,iB d.D d.S d.R d.Mm j->¬iB e.D e.S e.R e.Mm j) (λa b q j hb ha=>q j ha hb) h.dd ha hb e
 have hGM:=h.ct.se.lt;have hDM:=h.ct.seen.map.lt;refine⟨h.ct.apt hc (ha rM rM),h.ev.chg (ms:=Hj X M) hc (ha rM rM),h.yc,?_,hall hw λl hl e=>?_,Kg,λl hl=>?_,?_,hall ?_ λk hk _=>h.wm _ ny,hdl hd λl hl e=>?_,?_,hdl ?_ λl hl e=>?_,λl hl q=>?_,h.yb,hall (P:=λx=>∀j,x.own j->Y.b<=j) (λj q=>(ho j q).elim (h.lw _ hm j) λq=>KI) (λk hk _=>h.lw _ ny),hdl (P:=λd=>∀j,iB d.D d.S d.R d.Mm j->Y.b<=j) (λj q=>h.ld _ hmd j q) (λl hl _=>h.ld _ yT),jl h.be hc (λj _ q=>q.elim (h.lw _ hm j) (h.ld _ hmd j)),pS h.kp hc ((ha (ts:=[42]) rM rM).off)⟩
 .have:=ah h.wv hc ((ha (ts:=[89]) rM rM).off)
  exact Nd
 .have hy:=h.wk _ yT
  have h0:=ha (ts:=[279,52,287,5]) rM rM;refine(hy.kept hc (λj hj q=>q.elim (hap l i hl hi e j hj) (h.apd yT hmd j hj)) h0.off (λj hj hl=>h0.obj hl (h.ct.mm j hj).2 (.inl hj)) h0.off h0.off h0.off).monoN hN
 .refine lQ
  have hk':l<z.wk.length:=by simpa using hl
  split
  .next e=>subst e;rw[hsh];exact h.wi i hi
  .exact h.wi l hk'
 .exact Nj
 .exact⟨λq=>(ho _ q).elim m1 λq=>oM,λq=>(ho _ q).elim m2 λq=>oM⟩
 .have hdl:=PI hl
  refine((h.dn _ hdl).chg hc (λj q=>q.elim (h.apd hm hdl j) λq=>hdd k l hk hl (Ne.symm e) j q) ?_).mono hN;exact(ha (ts:=[5]) rM rM).off
 .refine List.pairwise_iff_getElem.2 λa b ha hb hab j hj hj2=>?_
  have ha':a<z.dn.length:=by simpa using ha
  have hb':b<z.dn.length:=by simpa using hb
  refine hdd a b ha' hb' oM j ?_ ?_
  .rw[Xa9]at hj
   split at hj
   .next e=>subst e;exact hj
   .exact hj
  .rw[Xa9]at hj2
   split at hj2
   .next e=>subst e;exact hj2
   .exact hj2
 .obtain⟨k1,k2,k3,k4⟩:=h.dm _ hmd
  refine M2
  .have:=(h.dn _ hmd).k.lt.2.2
   exact qv
 .obtain⟨k1,k2,k3,k4⟩:=h.dm _ yT
  refine M2
  .have:=(h.dn _ yT).k.lt.2.2
   omega
 .obtain⟨d,hd,e⟩:=h.sl l hl q
  obtain⟨a,ha,rfl⟩:=Xa4 hd;by_cases e2:k=a
  .subst e2
   exact⟨_,Xa3.2 ⟨k,by simpa using ha,Xa7 _⟩,e⟩
  .exact⟨_,Xa3.2 ⟨a,by simpa using ha,List.getElem_set_ne e2 _⟩,e⟩
end
inductive iR(z:Ws)(x:Wk):Cs->List Dx->Wk->Ou->Bool->Prop
 |idle:x.now=none->x.pk=[]->iR z x z.c z.dn x oh false
 |next {p:Ca} {ps:List Ca} {g:Nat}:x.now=none->x.pk=p::ps->iR z x z.c z.dn {x with pk:=ps,now:=some (jb0 g p)} oh false
 |bad {j:Jb} {x':Wk}:x.now=some j->j.looks=false->x.eqv x'->x'.now=none->¬(lJ j.zs/\xQ j.zs=false)->iR z x z.c z.dn x' oh false
 |dK {j j':Jb} {x':Wk} {a s:Int}:x.now=some j->j.looks=false->x.eqv x'->z.c.ws[x.sh]?=some ⟨a,s,false⟩->x'.now=some j'->j'.at'=j.at'->j'.n=j.n->j'.looks=true->j'.tb=x.tb->(∀th∈j'.todo,yF j' th)->j'.todo.length<=8000000 ->
   (lJ j.zs->xQ j.zs=false->∃p,PlP j.zs p/\ue {x with now:=some {j with looks:=true,tb:=x.tb}} {j with looks:=true,tb:=x.tb} p x')->iR z x {z.c with ws:=z.c.ws.set x.sh ⟨a,a,true⟩} z.dn x' oh false
 |does {j j':Jb} {th:Th} {rest:List Th} {v:Value} {k i:Nat} {y:oz} {x':Wk} {o:Ou} {b:Bool}:x.now=some j->j.looks=true->j.todo=th::rest->(hk:k<z.dn.length)->(hi:i<z.c.l.length)->o9 z.c.l th.d.slot th.d.turn=some i->z.c.l[i].x=OV (z.dn[k].D) ->
   (ri x j rest v).eqv x'->x'.now=some j'->j'.at'=j.at'->j'.n=j.n->j'.looks=j.looks->j'.tb=j.tb->(j'.todo=rest\/j'.todo=rest++ [.ask th.d]) ->
   (∀d,th=.send d->d.muted=false->yA z.dn[k].x j.med j.rt.frm j.rt.layer d.frm d.layer->b=true/\o.k=0/\o.n=d.who/\o.ar=j.n/\j'.todo=rest)->iR z x z.c (z.dn.set k {z.dn[k]with x:=y}) x' o b
 |done {j:Jb} {a s:Int}:x.now=some j->j.looks=true->j.todo=[]->z.c.ws[x.sh]?=some ⟨a,s,true⟩->iR z x {z.c with ws:=z.c.ws.set x.sh ⟨a,s,false⟩} z.dn {x with now:=none,c3:=wrap64 (x.c3+1)} oh false
def QI(c:Cs)(x:Wk):Prop:=∀j,x.now=some j->(∃a s,c.ws[x.sh]?=some ⟨a,s,j.looks⟩)/\(j.looks=false->j.todo=[])/\j.todo.length<=900000000/\∀th∈j.todo,∃i,o9 c.l th.d.slot th.d.turn=some i
section
variable {w w' u:World}{M M':Nat->Prop}{Y:Yx}{X:Cx}{N N' m m':Nat}{z:Ws}{S:Nat->Prop}
theorem sX(w:World):qb w oh:=⟨eq _ _,pB,sM⟩
theorem step_t(h:bn w Y X M N m z)(hi:i<z.wk.length)(hN:N<=99998)(hj:QI z.c z.wk[i])(hl:z.c.l.length<=64) :
  az 51 #[OV (z.wk[i].W)] w λe w'=>∃o b c' dn' x',e=aA (.tuple #[.agg (qL o),.bool b])/\qb w' o/\iR z z.wk[i] c' dn' x' o b/\bn w' Y X M (N+2) m {z with c:=c',wk:=z.wk.set i x',dn:=dn'}:=by
 have hm:=PI hi;have hx:=h.wk _ hm;have hLP:¬M X.LP:=λq=>(h.ct.mm _ q).2 _ _ h.ct.p.l
 refine WQ;have hlb:∀j,j=X.LP->Y.b<=j:=λj e=>by subst e;rw[h.yb];exact h.ct.p.bL
 have hget:∀ {a s:Int} {b:Bool},z.c.ws[z.wk[i].sh]?=some ⟨a,s,b⟩->∃h2:z.wk[i].sh<z.c.ws.length,z.c.ws[z.wk[i].sh]=⟨a,s,b⟩:=λq=>by obtain⟨h2,e⟩:=List.getElem?_eq_some_iff.1 q;exact⟨h2,e⟩
 rcases hn:z.wk[i].now with _|j
 .rcases hp:z.wk[i].pk with _|⟨p,ps⟩
  .refine(Nq hx hn hp).mono ?_
   rintro e w' ⟨rfl,hb⟩;refine⟨oh,false,_,_,_,rfl,sX _,.idle hn hp,?_⟩;exact h.wrk hi oM ((hx.below hb).monoN oM) rfl rfl (λj q=> .inl q) ((ag.of hb:ag af w w').mono λ_ _ q=>q.elim)
  .refine(Np hx hn hp).mono ?_
   rintro e w' ⟨rfl,g,hx',ho,hc⟩;exact⟨oh,false,_,_,_,rfl,sX _,.next hn hp,h.wrk hi oM (hx'.monoN oM) rfl rfl ho hc⟩
 .obtain⟨⟨a,s,hws⟩,ht0,htl,hat⟩:=hj j hn
  obtain⟨hs,hse⟩:=hget hws;rcases hlk:j.looks with _|_
  .rw[hlk]at hse
   refine(Nn hx hn oM hlk (ht0 hlk) h.ct.p hLP hs (by rw[hse])).mono ?_;rintro e w' ⟨rfl,_,x',q1,q2,q3,q4,q5⟩;have hsh:x'.sh=z.wk[i].sh:=q1.2.1;have hW:x'.W=z.wk[i].W:=q1.1;rcases q5 with⟨r1,r2,r3⟩|⟨a',s',r1,r2,j',r3,r4,r5,r6,r7,r8,r9,r10⟩
   .have hS:=h.wrkc hi oM (q2.monoN (show N+1<=N+2 by omega)) hsh hW q3 q4 (hlp rM) hlb (h.ct.pin q4 ((h.wap hi rM).or (hlp rM)) r2 rfl) oD
    exact⟨oh,false,_,_,_,rfl,sX _,.bad hn hlk q1 r1 r3,hS⟩
   .have hS:=h.wrkc hi oM (q2.monoN (show N+1<=N+2 by omega)) hsh hW q3 q4 (hlp rM) hlb (h.ct.pin q4 ((h.wap hi rM).or (hlp rM)) r1 sM) oD
    exact⟨oh,false,_,_,_,rfl,sX _,.dK hn hlk q1 r2 r3 r4 r5 r6 r7 r8 r9 r10,hS⟩
  .rw[hlk]at hse
   rcases htd:j.todo with _|⟨th,rest⟩
   .refine(Nl hx hn hlk htd h.ct.p hLP hs (by rw[hse])).mono ?_
    rintro e w' ⟨rfl,q1,q2,q3,q4⟩;rw[hse]at q3;have hS:=h.wrkc hi oM (q1.monoN (show N<=N+2 by omega)) rfl rfl (λj q=> .inl (q2 j q)) q4 (hlp rM) hlb (h.ct.pin q4 ((h.wap hi rM).or (hlp rM)) q3 sM) oD;exact⟨oh,false,_,_,_,rfl,sX _,.done hn hlk htd (by rw[hws,hlk]),hS⟩
   .obtain⟨n,hat⟩:=hat th (by rw[htd];exact List.mem_cons_self)
    obtain⟨_,hnl,hu,_⟩:=kY hat;obtain⟨d,hd,he⟩:=h.sl n hnl hu;obtain⟨k,hk,rfl⟩:=Xa4 hd;have hMd:∀a,M a->¬iB z.dn[k].D z.dn[k].S z.dn[k].R z.dn[k].Mm a:=(h.dn _ hd).dis (S:=M) (ms:=λj=>j=z.dn[k].Mm) (λj _ q=> .inr ⟨(h.ct.mm j q).2,λe=>(h.dm _ hd).1 (e ▸ q)⟩) rfl;refine(Nm hx hn hN hlk htd htl h.ct.a hl hat (λ_=>he) (h.dn _ hd) (h.apd hm hd) hMd).mono ?_;rintro e w' ⟨v,hv,x',o,b,y,j',rfl,q1,⟨q2,q3,q4,q5,q6,q7⟩,q8,q9,q10,q11,q12,q13⟩;have hS:=h.wrkd hi hk oM (q8.monoN (show N<=N+2 by omega)) q1.2.1 q1.1 (λj q=>(q9 j q).imp (hv j) id) q10 (q12.mono λj _ q=>q.imp (hv j) id);exact⟨o,b,_,_,_,rfl,q11,.does hn hlk htd hk hnl hat he q1 q2 q3 q4 q5 q6 q7 q13,hS⟩
end
section
variable {w w' u:World}{M M':Nat->Prop}{Y:Yx}{X:Cx}{N m:Nat}{z:Ws}
theorem bn.has(h:bn w Y X M N m z)(k:Int):∃A cap,Y.vw=.slice A z.wk.length cap/\az 49 #[OV Y.W,JI k] w λe w'=>e=aA (.bool (decide (0<=k)&&decide (k<z.wk.length)))/\w'=w:=by refine K0;refine⟨A,cap,hv,shas_t (G:=X.G) (Y:=Y) (ve:=ve) (A:=A) (cap:=cap) ?_⟩;rw[←hv];exact hW
theorem bn.wcell(h:bn w Y X M N m z)(hi:i<z.wk.length)(hv:Y.vw=.slice A z.wk.length cap):∃g,A=some ⟨g,0,.none⟩/\g<w.heap.size/\w.cell? ⟨g,i,.none⟩=some (OV (z.wk[i].W)):=by have hwv:=h.wv;rw[hv]at hwv;obtain⟨g,e,_,hg2,hg3,_⟩:=iL hwv (i:=i) (j:=0) hi dM;exact⟨g,e,hg2,by simpa[Xa2 hi]using hg3⟩
theorem Gm(k:Int)(h:bn w Y X M N m z)(hph:∀ (i:Nat) (hi:i<z.wk.length),z.wk[i].ph=0\/z.wk[i].ph=1\/z.wk[i].ph=2)(hep:∀ (i:Nat) (hi:i<z.wk.length) (h2:i<z.c.ws.length),z.wk[i].ph=1->z.c.ws[i].at'<=gw z.wk[i].nx) :
  az 27 #[OV Y.W,JI k] w λe w'=>e=aA (.tuple #[])/\((¬(0<=k/\k<z.wk.length)/\bn w' Y X M N m z)\/∃i,∃hi:i<z.wk.length,∃c' x',k=i/\j0 X z.c z.wk[i] c' x'/\bn w' Y X M N m {z with c:=c',wk:=z.wk.set i x'}):=by
 refine Wg
 .refine YX
  have hob:=obey_t h hi (hph i hi) (hep i hi);have HT:=OH hob;go_enter func27,ntmps27;refine Ff;refine ay;refine HT.out.mono ?_;rintro r w3 ⟨rfl,c',x',hr,hs⟩;refine jM;refine ml;refine dg;exact⟨rfl,.inr ⟨i,hi,c',x',rfl,HR.out,HS.out⟩⟩
 .refine Xg
  go_enter func27,ntmps27;refine Ff;refine dg;exact⟨rfl,.inl ⟨HI.out,HS.out⟩⟩
end
abbrev lkE(k:Int)(x:Wk):Ev:=⟨6,(x.now.map (·.n)).getD (-1),k,0,0,rq0,none,0,x.look.1,oh,none,0,[]⟩
abbrev outE(k:Int)(o:Ou):Ev:=⟨7,o.ar,k,0,0,rq0,none,0,o.ep,o,none,0,[]⟩
abbrev og(k:Int)(x x':Wk)(o:Ou)(b:Bool):List Ev:=(if x'.look.2&&!x.look.2 then [lkE k x'] else [])++(if b then [outE k o] else [])
section
variable {w w' u:World}{M M':Nat->Prop}{Y:Yx}{X:Cx}{N m:Nat}{z:Ws}
theorem qb.ev(h:qb w o)(k:Int):pm w (outE k o):=⟨Ic,⟨h.1,h.2.1,by have:=h.2.2;show o.zs.length<=1000000;omega⟩,eq _ _,pB,sM⟩
theorem lkE_ok(k:Int)(x:Wk):pm w (lkE k x):=⟨Ic,wI,eq _ _,pB,sM⟩
theorem iR.W{dn':List Dx}{b:Bool}(h:iR z x c' dn' x' o b):x'.W=x.W:=by
 cases h with
 |idle=>
  rfl
 |next=>
  rfl
 |bad _ _ he=>
  exact he.1
 |dK _ _ he=>
  exact he.1
 |does _ _ _ _ _ _ _ he=>
  exact he.1
 |done=>rfl
def WorkE(Y:Yx)(X:Cx)(M:Nat->Prop)(N m:Nat)(z:Ws)(k:Int)(e:Ending)(w':World):Prop:=e=aA (.tuple #[])/\((¬(0<=k/\k<z.wk.length)/\bn w' Y X M N m z)\/∃i,∃hi:i<z.wk.length,∃o b c' dn' x',k=i/\iR z z.wk[i] c' dn' x' o b/\bn w' Y X M (N+2) m {z with c:=c',wk:=z.wk.set i x',dn:=dn',ev:=z.ev++og k z.wk[i] x' o b})
def WkC(w:World)(Y:Yx)(X:Cx)(M:Nat->Prop)(N m:Nat)(z:Ws)(O:Nat)(o:Ou):Prop:=w.heap[O]?=OC (qL o) 68/\qb w o/\bn w Y X M (N+2) m z
theorem Gk(k:Int)(h:bn w Y X M N m z)(hN:N<=99998)(hj:∀ (i:Nat) (hi:i<z.wk.length),QI z.c z.wk[i])(hl:z.c.l.length<=64)(he:z.ev.length<=900000) :
  az 17 #[OV Y.W,JI k] w (WorkE Y X M N m z k):=by
 refine Wg
 .refine YX
  have hlk:=AP (h.wk _ lm);have HLK:=OH hlk;have hst:=step_t h hi hN (hj i hi) hl;refine qg;refine bI;obtain⟨b0,f0⟩:∃b,z.wk[i].look.2=b:=⟨_,rfl⟩
  rw[f0]at HLK;have F0:=OH f0;go_enter func17,ntmps17;refine Ff;refine ay;refine HLK.out.mono ?_;refine qH;refine EK;rintro r w3 ⟨o,b,c',dn',x',rfl,ho,hr,hs⟩;refine ml;refine jM;refine i9;refine sj;have hO:u.heap[w3.heap.size]?=OC (qL o) 68:=jn
  have hcu:ag af w3 u:=lT
  have hs3:=HS.out.none hcu;have hmem:x'∈z.wk.set i x':=Xa3.2 ⟨i,nv,Xa7 _⟩;have hlk2:=AP (hs3.wk x' hmem);have har:=Cw (hs3.wk x' hmem);rw[HR.out.W]at hlk2 har;obtain⟨b1,f1⟩:∃b,x'.look.2=b:=⟨_,rfl⟩
  rw[f1]at hlk2;have HLK:=OH hlk2;have HAR:=OH har;have HO2:=OH (ho.chg hcu iF);have HS3:=OH hs3;have F1:=OH f1;generalize w3.heap.size=O at *;refine ay;refine HLK.out.mono ?_;refine qH;cases b0<;>cases b1;case' false.true=>
   have HP:=OH (eL HS3.out.ev (lkE_ok i x') gY);refine ay;refine HAR.out.mono ?_;refine qH;refine qy;rintro r w4 ⟨rfl,he4,hc4⟩;have hcut:WkC w4 Y X M N m {z with c:=c',wk:=z.wk.set i x',dn:=dn',ev:=z.ev++ [lkE i x'] } O o:=⟨bJ hc4 hO rM,HO2.out.chg hc4 eR,HS3.out.evt hc4 he4⟩
   refine mA
  case' false.false=>refine mA;have hcut:WkC u Y X M N m {z with c:=c',wk:=z.wk.set i x',dn:=dn',ev:=z.ev++ [] } O o:=⟨hO,HO2.out,by rw[Xa5];exact HS3.out⟩
  case' true.false=>refine mA;have hcut:WkC u Y X M N m {z with c:=c',wk:=z.wk.set i x',dn:=dn',ev:=z.ev++ [] } O o:=⟨hO,HO2.out,by rw[Xa5];exact HS3.out⟩
  case' true.true=>refine mA;have hcut:WkC u Y X M N m {z with c:=c',wk:=z.wk.set i x',dn:=dn',ev:=z.ev++ [] } O o:=⟨hO,HO2.out,by rw[Xa5];exact HS3.out⟩
  all_goals
   obtain⟨hO,ho,hs⟩:=hcut;have HS5:=OH hs;have hlen:∀l:List Ev,l.length<=1->(z.ev++l).length<=1000000:=λl hl=>by rw[List.length_append];omega
   have HP:=OH (eL hs.ev (ho.ev i) (hlen _ sM));obtain⟨cO,fO,zO⟩:=ab hO;cases b
   .go_wp2_with fail
    (try simp only[Exit.inBlock,Exit.then]);refine bodyPost_end (results_none rfl _ _ _) rfl ?_;exact⟨rfl,.inr ⟨i,hi,o,false,c',dn',x',rfl,HR.out,by simpa[og,F0.out,F1.out]using HS5.out⟩⟩
   .go_wp2_with fail
    refine HP.out.mono ?_;rintro r w4 ⟨rfl,he4,hc4⟩;have HS6:=OH (HS5.out.evt hc4 he4);go_wp2_with fail;go_end0;exact⟨rfl,.inr ⟨i,hi,o,true,c',dn',x',rfl,HR.out,by simpa[og,F0.out,F1.out]using HS6.out⟩⟩
 .refine Xg
  go_enter func17,ntmps17;refine Ff;refine kv;refine sE;exact⟨rfl,.inl ⟨HI.out,HS.out⟩⟩
end
abbrev IB(zs:List Int):Int:=wy ((zs.drop 8).take 4)
def mU(t:Option Tb)(zs:List Int):Int×Bool:=
 if zs.length<12 then(0,false) else if xQ zs=true then(((gd t (IB zs)).getD l9).shard,(gd t (IB zs)).isSome) else(((dQ t (IB zs)).getD NX).shard,(dQ t (IB zs)).isSome)
theorem I9{g off:Nat}{k:IntKind}(h:bd w (some ⟨g,off,none⟩) k zs)(n:Nat):bd w (some ⟨g,off+n,none⟩) k (zs.drop n):=λi hi=>by rw[List.length_drop]at hi;obtain⟨b,o,h1,h2,h3⟩:=h (n+i) oM;simp only[Option.some.injEq,Addr.mk.injEq]at h1;obtain⟨rfl,rfl,-⟩:=h1;refine⟨_,_,rfl,h2,?_⟩;rw[Nat.add_assoc,h3,Xa0,Xa0,List.getElem?_drop]
theorem is_i(h:bd w A .u8 zs)(hb:aG zs):az 88 #[.slice A zs.length cap] w λe w'=>e=aA (.bool (xQ zs))/\w'=w:=by
 by_cases h2:2<=zs.length
 .obtain⟨g,off,rfl,-,c0⟩:=h 0 oM
  obtain⟨g',off',e,-,c1⟩:=h 1 oM;exact zq62
 .exact Zp
section
variable {w w' u:World}{M M':Nat->Prop}{Y:Yx}{X:Cx}{N m:Nat}{z:Ws}
theorem JP(h:bn w Y X M N m z)(hs:LZ w Y.b A cap zs)(hzl:zs.length<=1000000)(hb:aG zs) :
  az 44 #[OV Y.W,.slice A zs.length cap] w λe w'=>e=aA (.tuple #[JI (mU z.c.t zs).1,.bool (mU z.c.t zs).2])/\aC w w':=by
 refine kz;refine bI;have hct:=λW (hc:ag af w W)=>JD ((h.none hc).ct)
 rw[←h.yc]at hct;have HCT:=OH hct;refine eP;by_cases h12:zs.length<12
 .have f12:decide ((zs.length:Int)<12)=true:=decide_eq_true oM
  have hbe:mU z.c.t zs=(0,false):=if_pos h12;have HBE:=OH hbe;go_enter func44,ntmps44;refine df;exact⟨by rw[HBE.out];rfl,Xb3 _ _⟩
 .have f12:decide ((zs.length:Int)<12)=false:=decide_eq_false oM
  obtain⟨g,off,rfl,-,hc0⟩:=hs.i 0 oM;have hcap:=hs.c;have hc8:¬cap=8:=oM;have h8:¬((zs.length:Int)<8):=oM;have hon:∀W,ag af w W->az 86 #[.slice (some ⟨g,off+8,.none⟩) (zs.length-8) (cap-8)] W _:=λW hc=>jx (w:=W) (zs:=zs.drop 8) _ _ _ sM oM (I9 (hs.none hc).i 8) (λq=>gZ)
  have his:=λW (hc:ag af w W)=>is_i (w:=W) (cap:=cap) (hs.none hc).i hb
  obtain⟨hx0,hx1⟩:=Ea (hb.drop 8) 4 xM;have hnf:bO (zs.drop 8,0) 4=(IB zs,(zs.drop 8).drop 4,0):=by unfold bO;rw[if_neg sM,if_neg xM]
  have hbe:mU z.c.t zs=if xQ zs=true then(((gd z.c.t (IB zs)).getD l9).shard,(gd z.c.t (IB zs)).isSome) else(((dQ z.c.t (IB zs)).getD NX).shard,(dQ z.c.t (IB zs)).isSome):=if_neg h12
  have e256:(256:Int) ^ 4=4294967296:=dM;rw[e256]at hx1;have hx9:0<=IB zs/\IB zs<4294967296:=⟨hx0,hx1⟩
  generalize IB zs=x at *;obtain⟨hx0,hx1⟩:=hx9;obtain⟨told,htl⟩:∃b,xQ zs=b:=⟨_,rfl⟩
  rw[htl]at his hbe;have HBE:=OH hbe;have HIS:=OH his;have HON:=OH hon;have HBD:=OH (hb.drop 8);have HNF:=OH hnf;go_enter func44,ntmps44;refine ay;refine(HON.out _ dp).mono ?_;refine E5;have hG1:ag af w w1:=.of hb1;have hnm:=eu hcut HBD.out 4 dM dM 4 rfl HNF.out;have HNM:=OH hnm;have HG1:=OH hG1;refine ay;refine HNM.out.mono ?_;rintro r w2 ⟨rfl,hcut,hc2⟩;have HG3:=OH (HG1.out.call hc2 λi hi e=>oM);have hW:=ae HG3.out hW id;refine eP;refine ay;refine(HIS.out _ HG3.out).mono ?_;refine uT;have hw5:=hw4.symm;subst hw5;cases told with
  |true=>
   have htd:=λW (hc:ag af w W)=>Gw ((H.out.none hc).ct.t) x hx0 oM
   refine YR;generalize hbs:(gd z.c.t x).isSome=bs;generalize hd:(gd z.c.t x).getD l9=d;refine U1;refine nJ;refine sj;have hT:u.heap[w4.heap.size]?=OC (eW d).toArray 198:=jn
   exact Zg
  |false=>
   have htd:=λW (hc:ag af w W)=>sJ ((H.out.none hc).ct.t) x hx0 oM
   refine YR;generalize hbs:(dQ z.c.t x).isSome=bs;generalize hd:(dQ z.c.t x).getD NX=d;refine U1;refine jo;refine sj;have hT:u.heap[w4.heap.size]?=OC (kE d).toArray 203:=jn
   exact Zg
end
def pe(a b:Ev):Prop:=∃qa qc oa oc ba bc,b= {a with qa:=qa,qc:=qc,o:= {a.o with a:=oa,c:=oc},ba:=ba,bc:=bc}
theorem pe.refl(a:Ev):pe a a:=⟨a.qa,a.qc,a.o.a,a.o.c,a.ba,a.bc,rfl⟩
theorem pe.trans{a b c:Ev}(h:pe a b)(k:pe b c):pe a c:=by obtain⟨_,_,_,_,_,_,rfl⟩:=h;obtain⟨a1,a2,a3,a4,a5,a6,rfl⟩:=k;exact⟨a1,a2,a3,a4,a5,a6,rfl⟩
theorem wg{α:Type}(f:α->List Value)(s:Nat)(hf:∀a,(f a).length=s)(j:Nat)(hj:j<s)(u:Value)(y:α):∀ (es:List α) (k:Nat) (hk:k<es.length),f y=(f es[k]).set j u->(es.flatMap f).set (k*s+j) u=(es.set k y).flatMap f
 | [],k,hk,_=>by simp at hk
 |a::es,0,_,he=>by
  rw[Nat.zero_mul,Nat.zero_add,Xa1,List.set_append_left _ _ (by rw[hf];exact hj),List.set_cons_zero,Xa1,he];rfl
 |a::es,k+1,hk,he=>by
  rw[Xa1,List.set_append_right _ _ (by rw[hf,Nat.add_mul];omega),hf,List.set_cons_succ,Xa1,←wg f s hf j hj u y es k rG (by simpa using he)]
  congr 2
  rw[Nat.add_mul];omega
structure iS(w wr:World)(A:Option Addr)(cap:Nat)(l es:List Ev):Prop where
 n:es.length=l.length
 s:∀ (j:Nat) (h:j<l.length) (h2:j<es.length),pe l[j] es[j]
 ok:∀v∈es,pm wr v
 r:wr.ownsRow w.heap.size 70 24 (.slice A es.length cap) es.length (es.flatMap yI)
 c:ag af w wr
section
variable {w w' wr w3:World}{M:Nat->Prop}{Y:Yx}{X:Cx}{N m:Nat}{z:Ws}{A:Option Addr}{cap g k j:Nat}{l es:List Ev}
theorem iS.put(h:iS w wr A cap l es)(hk:k<es.length)(hg:A=some ⟨g,0,none⟩)(hb:aC wr w3)(y:Ev)(hs:pe es[k] y)(hy:pm w3 y)(u:Value)(hj:j<24)(he:yI y=(yI es[k]).set j u):iS w (w3.setCell ⟨g,k*24+j,none⟩ u) A cap l (es.set k y):=by
 subst hg;have h3:=aX h.r hb;obtain⟨h1,_⟩:=h3.stored (k*24+j) u;have hset:ag (λi=>i=g) w3 (w3.setCell ⟨g,k*24+j,none⟩ u):=ag.set (S:=λi=>i=g) dp ⟨g,k*24+j,none⟩ (.inl rfl) u;obtain⟨c,hgb⟩:=bG h3 (show(Xb6 (aT g) es.length cap).ownBlock=some g from rfl);have hge:=eV h3 g rfl;refine⟨by rw[Xb0];exact h.n,λi h1 h2=>?_,λv hv=>?_,?_,(h.c.next hb).call hset λi hi e=>by subst e;omega⟩
 .refine lQ
  split
  .next e=>subst e;exact(h.s k h1 hk).trans hs
  .exact h.s i h1 Ek
 .refine pm.chg (S:=λi=>i=g) (w:=w3) ?_ hset (aJ hgb dM) (aJ hgb dM)
  rcases List.mem_or_eq_of_mem_set hv with q|q
  .exact(h.ok v q).chg (S:=af) (.of hb) cy cy
  .subst q
   exact hy
 .rw[Xb0,←wg yI 24 ya j hj u y es k hk he]
  exact h1
theorem iS.cell(h:iS w wr A cap l es)(hk:k<es.length):∃g,A=some ⟨g,0,none⟩/\(∀j,wr.frozen? ⟨g,j,none⟩=false)/\∀j (hj:j<24),wr.cell? ⟨g,k*24+j,none⟩=(yI es[k])[j]?:=by obtain⟨g,e,_,_,h3⟩:=cM ya h.r hk;subst e;exact⟨g,rfl,λj=>h.r.frozenAt j,h3⟩
theorem iS.next(h:iS w wr A cap l es)(hb:aC wr w3):iS w w3 A cap l es:=⟨h.n,h.s,λv hv=>(h.ok v hv).chg (S:=af) (.of hb) cy cy,aX h.r hb,h.c.next hb⟩
theorem iS.put23(h:iS w wr (aT g) cap l es)(hk:k<es.length)(hb:aC wr w3)(hy:BR w3 0 (.slice a es[k].bz.length c) es[k].bz):∃es',iS w (w3.setCell ⟨g,k*24+23,none⟩ (.slice a es[k].bz.length c)) (aT g) cap l es':=by refine KU;exact⟨_,h.put hk rfl hb {es[k]with ba:=a,bc:=c} ⟨_,_,_,_,_,_,rfl⟩ ⟨hx.1,hx.2.1,hy,hx.2.2.2⟩ _ dM rfl⟩
theorem iS.put18(h:iS w wr (aT g) cap l es)(hk:k<es.length)(hb:aC wr w3)(hy:BR w3 0 (.slice a es[k].o.zs.length c) es[k].o.zs):∃es',iS w (w3.setCell ⟨g,k*24+18,none⟩ (.slice a es[k].o.zs.length c)) (aT g) cap l es':=by refine KU;exact⟨_,h.put hk rfl hb {es[k]with o:= {es[k].o with a:=a,c:=c}} ⟨_,_,_,_,_,_,rfl⟩ ⟨hx.1,⟨hy,hx.2.1.2⟩,hx.2.2⟩ _ dM rfl⟩
theorem iS.put10(h:iS w wr (aT g) cap l es)(hk:k<es.length)(hb:aC wr w3)(hy:w3.ownsRow 0 52 1 (.slice a es[k].q.ss.length c) es[k].q.ss.length (iJ es[k].q.ss)):∃es',iS w (w3.setCell ⟨g,k*24+10,none⟩ (.slice a es[k].q.ss.length c)) (aT g) cap l es':=by refine KU;exact⟨_,h.put hk rfl hb {es[k]with qa:=a,qc:=c} ⟨_,_,_,_,_,_,rfl⟩ ⟨⟨hy,hx.1.2⟩,hx.2⟩ _ dM rfl⟩
theorem BY(hn:n=zs.length)(h:BR w 0 (.slice a n c) zs)(hl:zs.length<=1000000):az 25 #[.slice a n c] w λe w'=>∃a' c',e=aA (.slice a' zs.length c')/\BR w' 0 (.slice a' zs.length c') zs/\aC w w':=by subst hn;refine(lI w a zs.length c (zs.map (Xb5 .u8)) sM hl nz (fk (iD h) (kf h))).mono ?_;exact V1
theorem Iq(hn:n=zs.length)(h:w.ownsRow 0 52 1 (.slice a n c) n (iJ zs))(hl:zs.length<=1000000):az 26 #[.slice a n c] w λe w'=>∃a' c',e=aA (.slice a' zs.length c')/\w'.ownsRow 0 52 1 (.slice a' zs.length c') zs.length (iJ zs)/\aC w w':=by subst hn;refine(rE w a zs.length c (iJ zs) sM hl nz (eZ h)).mono ?_;refine Mp;exact⟨A2,c2,rfl,aW hv2 kn,hb2⟩
theorem pD(h:bn w Y X M N m z)(hl:z.ev.length<=1000000) :
  az 9 #[OV Y.W] w λe w'=>∃A cap es,e=aA (.slice A z.ev.length cap)/\iS w w' A cap z.ev es:=by
 obtain⟨ve,hW,hrow,hok⟩:=h.ev;obtain⟨A,cap,rfl⟩:=aj hrow;have hcl:=Qg w A z.ev.length cap (z.ev.flatMap yI) hrow.1 hl (λu hu=>by obtain⟨v,_,q⟩:=List.mem_flatMap.1 hu;exact He v u q) (eZ hrow)
 have HC:=OH hcl;have HOK:=OH hok.1;refine eP;go_enter func9,ntmps9;refine ED;rintro r w2 ⟨v,rfl,ho,hb⟩;obtain⟨A2,cap2,rfl⟩:=aj ho;have hE:iS w w2 A2 cap2 z.ev z.ev:=⟨rfl,λ_ _ _=>pe.refl _,λv hv=>(HOK.out v hv).chg (S:=af) (.of hb) cy cy,ho,.of hb⟩
 have HE:=OH hE;refine ay;go_loopw [4,14] (λ_ i wr=>∃k:Nat,k<=z.ev.length/\i=JI k/\∃es,iS w wr A2 cap2 z.ev es) (λ_ i _=>z.ev.length- (intOf i).toNat);case atStart=>exact⟨0,oM,rfl,_,HE.out⟩
 case round=>
  obtain⟨k,hk,rfl,es,hes⟩:=hrel;have hn:=hes.n;by_cases hlt:k<z.ev.length
  .have hlk:k<es.length:=oM
   obtain⟨g,hA,-,-⟩:=hes.cell hlk;subst hA;have HES:=OH hes;refine Zz;have e0:=h24 23 dM;have hc1:=BY rfl hx.2.2.1 hx.2.2.2.2;refine M7;obtain⟨es1,hes1⟩:=HES.out.put23 hlk hb hbr;refine MG;cases hg';have e0:=h24 23 dM;refine L8;refine jo;refine US;have e0:=h24 18 dM;have hc1:=BY rfl hx.2.1.1 hx.2.1.2.2;refine M7;obtain⟨es1,hes1⟩:=HES.out.put18 hlk hb hbr;refine MG;cases hg';have e0:=h24 18 dM;refine L8;refine qn;refine US;have e0:=h24 10 dM;have hc1:=Iq rfl hx.1.1 (by have:=hx.1.2;omega);refine M7;obtain⟨es1,hes1⟩:=HES.out.put10 hlk hb hbr;refine MG;cases hg';have e0:=h24 10 dM;dsimp only[yI,Hf,List.getElem?_cons_zero,List.getElem?_cons_succ,Array.toList]at e0;go_upto_region 10 with fail;generalize Xb4 w3 _ _=wr at *;have HES:=HE1;generalize es1=es at *;refine dA;case rel=>exact⟨k+1,oM,eT,_,HES.out⟩
   case measure=>exact di
  .have hkl:k=z.ev.length:=oM
   have HES:=OH hes;refine mq;exact⟨A2,cap2,es,rfl,HES.out⟩
end
abbrev rf(k n s:Int)(a:Option Addr)(c:Nat)(zs:List Int):Ev:=⟨k,n,s,0,0,rq0,none,0,0,oh,a,c,zs⟩
def ComE(Y:Yx)(X:Cx)(M:Nat->Prop)(N m:Nat)(z:Ws)(zs:List Int)(bf:Int×Bool)(e:Ending)(w':World):Prop:=e=aA (.tuple #[])/\∃a c,
 (bf.2=false/\bn w' Y X M N m {z with ev:=z.ev++ [rf 4 0 0 a c zs] }) \/
 (bf.2=true/\∃i,∃hi:i<z.wk.length,bf.1=i /\
  ((z.wk[i].pk.length<z.wk[i].L/\∃p:Ca,p.n=z.ev.length/\p.zs=zs/\bn w' Y X M N m {z with wk:=z.wk.set i {z.wk[i]with pk:=z.wk[i].pk++ [p] },ev:=z.ev++ [rf 3 0 i a c zs] }) \/
  (z.wk[i].pk.length=z.wk[i].L/\bn w' Y X M N m {z with ev:=(z.ev++ [rf 3 0 i a c zs])++ [rf 5 z.ev.length i none 0 []] })))
section
variable {w w' u:World}{M M':Nat->Prop}{Y:Yx}{X:Cx}{N m:Nat}{z:Ws}
theorem yf{k n:Int}(h:BR w 0 (.slice a zs.length c) zs)(hb:aG zs)(hl:zs.length<=1000000):pm w (rf k n s a c zs):=⟨Ic,wI,h,hb,hl⟩
theorem Bv(h:LZ w b a c zs)(hl:zs.length<=1000000):az 25 #[.slice a zs.length c] w λe w'=>∃a' c',e=aA (.slice a' zs.length c')/\BR w' 0 (.slice a' zs.length c') zs/\aC w w':=by refine(lI w a zs.length c (zs.map (Xb5 .u8)) sM hl nz h.src).mono ?_;exact V1
theorem Gq(h:bn w Y X M N m z)(hs:LZ w Y.b A cap zs)(hzl:zs.length<=1000000)(hb:aG zs)(hsh:(mU z.c.t zs).2=true->0<=(mU z.c.t zs).1/\(mU z.c.t zs).1<z.wk.length)(he:z.ev.length<=900000) :
  az 15 #[OV Y.W,.slice A zs.length cap] w (ComE Y X M N m z zs (mU z.c.t zs)):=by
 refine kz;have hbl:=JP h hs hzl hb;have HBL:=OH hbl;refine bI;refine jM;obtain⟨bf,hbf⟩:∃b,mU z.c.t zs=b:=⟨_,rfl⟩
 rw[hbf]at HBL hsh ⊢;obtain⟨b1,b2⟩:=bf;dsimp only at HBL hsh ⊢;cases b2 with
 |false=>
  refine XS;have hcl:=Bv (HS.out.none hc1) hzl;have HCL:=OH hcl;refine Wr;have HP:=OH (eL H2.out.ev (yf (k:=4) (n:=0) (s:=0) hbr hb hzl) oM);refine U8;refine kv;refine sE;exact⟨rfl,a,c,.inl ⟨rfl,H3.out⟩⟩
 |true=>
  obtain⟨s0,s1⟩:=hsh rfl;obtain⟨i,rfl⟩:∃i:Nat,b1=i:=⟨b1.toNat,oM⟩
  have hi:i<z.wk.length:=oM;refine XS;have hs1:=HS.out.none hc1;have hcl:=Bv hs1 hzl;have HCL:=OH hcl;have HS1:=OH hs1;refine Wr;have HS2:=OH (HS1.out.none (.of hb2));have HP:=OH (eL H2.out.ev (yf (k:=3) (n:=0) (s:=i) hbr hb hzl) oM);refine U8;have HS3:=OH (HS2.out.chg hc3 eR (Hb sM sM));obtain⟨ve3,hW3,_,_⟩:=H3.out.ev;refine qw;obtain⟨A3,cap3,hv,_⟩:=H3.out.has 0;obtain⟨g,rfl,hg2,g0⟩:=H3.out.wcell hi hv;have hle:z.wk[i].pk.length<=z.wk[i].L:=by obtain⟨_,_,hq⟩:=(H3.out.wk _ lm).q;simpa using hq.le
  obtain⟨bb,fb⟩:∃b,decide (z.wk[i].pk.length<z.wk[i].L)=b:=⟨_,rfl⟩
  have har:=Ip (H3.out.wk _ lm) HS3.out.src hb hzl z.ev.length;rw[fb]at har;have HAR:=OH har;have HLE:=OH hle;have HFB:=OH fb;refine ay;refine HAR.out.mono ?_;rintro r w4 ⟨rfl,A',c',hw4,hc4⟩;have H4:=OH (H3.out.wrk (i:=i) hi fo hw4 rfl rfl (λj q=> .inl q) (hc4.mono λj _ q=>q.elim (λe=> .inr (.inl e)) λe=> .inr (.inr (.inl e))));have hfb:=HFB.out;have hle:=HLE.out;cases bb with
  |true=>
   have hlt:z.wk[i].pk.length<z.wk[i].L:=of_decide_eq_true hfb;rw[if_pos hlt]at H4;have HLT:=OH hlt;refine dg;exact⟨rfl,a,c,.inr ⟨rfl,i,hi,rfl,.inl ⟨HLT.out,_,rfl,rfl,H4.out⟩⟩⟩
  |false=>
   have hnl:¬z.wk[i].pk.length<z.wk[i].L:=of_decide_eq_false hfb;rw[if_neg hnl]at H4;have hq:z.wk[i].pk.length=z.wk[i].L:=oM;have H5:Hid (bn w4 Y X M N m {z with ev:=z.ev++ [rf 3 0 i a c zs] }):=by have:=H4.out;rw[show({z.wk[i]with pk:=z.wk[i].pk}:Wk)=z.wk[i] from rfl,Xa6]at this;exact OH this
   have HP:=OH (eL H5.out.ev (yf (k:=5) (n:=z.ev.length) (s:=i) (zs:=[]) (eq _ _) pB sM) xM);refine nF;refine qy;rintro r w5 ⟨rfl,he5,hc5⟩;have H6:=OH (H5.out.evt hc5 he5);refine dg;exact⟨rfl,a,c,.inr ⟨rfl,i,hi,rfl,.inr ⟨HQ.out,H6.out⟩⟩⟩
end
abbrev Cg(a b p t:Nat)(ac:Nat)(lv:Int)(re:Nat):Array Value:=#[JI a,JI b,JI p,JI t,JI ac,JI lv,JI re,JI 0]
@[go_sem] theorem fld99(a b c d e:Int)(w:World):(Instr.field 99 (.agg #[JI a,JI b,JI c,JI d,JI e]) 4).run prog w=.ok (JI e) w:=kM
structure SzP(z:Ws)(k p t:Nat):Prop where
 p:∀m,(∀x∈z.wk,x.pk.length<=m)->p<=m
 t:∀m,(∀i,i<z.wk.length->(z.c.tabs i).length<=m)->t<=m
def SzE(w:World)(z:Ws)(e:Ending)(w':World):Prop:=∃p t,e=aA (.agg (Cg z.c.inq.length z.c.ps.length p t z.c.acks.length z.c.live z.c.wt.length))/\SzP z z.wk.length p t/\ag af w w'
theorem SzP.step{z:Ws}{p t:Nat}(h:SzP z k p t)(hk:k<z.wk.length):SzP z (k+1) (max p z.wk[k].pk.length) (max t (z.c.tabs k).length):=
 ⟨λm hm=>Nat.max_le.2 ⟨h.p m hm,hm _ ny⟩,λm hm=>Nat.max_le.2 ⟨h.t m hm,hm k hk⟩⟩
section
variable {w w' u:World}{M M':Nat->Prop}{Y:Yx}{X:Cx}{N m:Nat}{z:Ws}
theorem Ns(h:bn w Y X M N m z)(h4:∀x∈z.wk,x.c4=0):az 11 #[OV Y.W] w (SzE w z):=by
 refine kz;have hac:=λW (hc:ag af w W)=>(Qy (h.none hc).ct.b).mono (λe w' (q:e=aA (JI z.c.acks.length)/\w'=W)=>(⟨q.1,q.2 ▸ Xb3 _ _⟩:e=aA (JI z.c.acks.length)/\aC W w'))
 have hlv:=λW (hc:ag af w W)=>(live_d W X.G.A X.LA2 z.c.l z.c.live (h.none hc).ct.a).mono (λe w' (q:e=aA (JI z.c.live)/\W=w')=>(⟨q.1,q.2 ▸ Xb3 _ _⟩:e=aA (JI z.c.live)/\aC W w'))
 have hwt:=λW (hc:ag af w W)=>(vE (h.none hc).ct.p).mono (λe w' (q:e=aA (JI z.c.wt.length)/\w'=W)=>(⟨q.1,q.2 ▸ Xb3 _ _⟩:e=aA (JI z.c.wt.length)/\aC W w'))
 have HW:=OH (ae (ag.refl af w) hW id);refine bI;have H4:=OH h4;refine FD;have HAC:=OH hac;have HLV:=OH hlv;have HWT:=OH hwt;refine eP;go_enter func11,ntmps11;refine iI;have hR:(w.alloc (.cells #[JI 0,JI 0,JI 0,JI 0,JI 0,JI 0,JI 0,JI 0] 63)).heap[w.heap.size]?=OC #[JI 0,JI 0,JI 0,JI 0,JI 0,JI 0,JI 0,JI 0] 63:=bZ;have hG:ag af w (w.alloc (.cells #[JI 0,JI 0,JI 0,JI 0,JI 0,JI 0,JI 0,JI 0] 63)):=bu;have hW1:=ae hG hW id;have hRl:w.heap.size<(w.alloc (.cells #[JI 0,JI 0,JI 0,JI 0,JI 0,JI 0,JI 0,JI 0] 63)).heap.size:=aB hR;refine qp;generalize hre:w.heap.size=R at *;have HRE:=OH hre;go_cut [3] from 9 to 24 (λs3 wx=>∃Z,s3=OV Z/\u.heap.size<=Z/\wx.heap[Z]?=OC (Cg 0 0 0 0 z.c.acks.length z.c.live z.c.wt.length) 63/\wx.heap[R]?=OC #[JI 0,JI 0,JI 0,JI 0,JI 0,JI 0,JI 0,JI 0] 63/\ag af w wx);case first=>
  have hG2:=ag.refl af u;refine rl 17 (λw'=>Bk w' Y.W (IG X.G Y ve) 87/\Bk w' R #[JI 0,JI 0,JI 0,JI 0,JI 0,JI 0,JI 0,JI 0] 63) (λw0_ hc0=>?_);have hW1:=ae hc0 hW1 id;have hR:=ae hc0 hR id;refine oH;have hG2:=ag.trans hG2 hc0;refine vy;refine vm;refine tk 5 ?_;refine mj;refine nK;refine nS;refine bo 4 16 (h1:=λK hK=>?_) (h2:=oa (λV w2_ hV hc2 hlV=>?_))
  .skip
   go_simp;refine(HAC.out _ hG).mono ?_;rintro r' w1_ ⟨rfl,hbq⟩;refine qA;have hW1:=ae hc1 hW1 id;have hR:=ae hc1 hR id;refine qj;have hG2:=ag.trans hG2 hc1;refine iT;refine bo 9 16 (h1:=λK hK=>?_) (h2:=oa (λV w4_ hV hc4 hlV=>?_))
   .skip
    go_simp;refine(HLV.out _ hG).mono ?_;rintro r' w3_ ⟨rfl,hbq⟩;have hc3:ag af w1_ w3_:=.of hbq;have hW1:=ae hc3 hW1 id;have hR:=ae hc3 hR id;have hG:=ag.trans hG hc3;have hG2:=ag.trans hG2 hc3;refine iT;refine bo 14 16 (h1:=λK hK=>?_) (h2:=oa (λV w6_ hV hc6 hlV=>?_))
    .skip
     go_simp;refine(HWT.out _ hG).mono ?_;rintro r' w5_ ⟨rfl,hbq⟩;have hc5:ag af w3_ w5_:=.of hbq;have hW1:=ae hc5 hW1 id;have hR:=ae hc5 hR id;have hG:=ag.trans hG hc5;have hG2:=ag.trans hG2 hc5;refine iT;refine tk 15 ?_;refine on 16 ?_;refine oa (λV w7_ hV hc7 hlV=>?_);refine EV;have hW1:=ae hc7 hW1 id;have hR:=ae hc7 hR id;have hG:=ag.trans hG hc7;have hG2:=ag.trans hG2 hc7;refine rR;refine FX;have hc17:=ax (S:=λj=>j=V) (.inl rfl) (Cg 0 0 0 0 z.c.acks.length z.c.live z.c.wt.length).toList w7_ 0 dp;refine dr;exact FU
    .skip
     refine EV;have hW1:=ae hc6 hW1 id;have hR:=ae hc6 hR id;have hG:=ag.trans hG hc6;have hG2:=ag.trans hG2 hc6;refine rR;refine sb;refine(HWT.out _ hG).mono ?_;rintro r' w8_ ⟨rfl,hbq⟩;have hc8:ag af w6_ w8_:=.of hbq;have hW1:=ae hc8 hW1 id;have hR:=ae hc8 hR id;have hG:=ag.trans hG hc8;have hG2:=ag.trans hG2 hc8;have hV:=ae hc8 hV id;refine iT;refine tk 15 ?_;refine FX;have hc17:=ax (S:=λj=>j=V) (.inl rfl) (Cg 0 0 0 0 z.c.acks.length z.c.live z.c.wt.length).toList w8_ 0 dp;refine dr;exact FU
   .skip
    refine EV;have hW1:=ae hc4 hW1 id;have hR:=ae hc4 hR id;have hG:=ag.trans hG hc4;have hG2:=ag.trans hG2 hc4;refine rR;refine kB;refine(HLV.out _ hG).mono ?_;rintro r' w9_ ⟨rfl,hbq⟩;have hc9:ag af w4_ w9_:=.of hbq;have hW1:=ae hc9 hW1 id;have hR:=ae hc9 hR id;have hG:=ag.trans hG hc9;have hG2:=ag.trans hG2 hc9;have hV:=ae hc9 hV id;refine iT;refine sb;refine(HWT.out _ hG).mono ?_;rintro r' w10_ ⟨rfl,hbq⟩;have hc10:ag af w9_ w10_:=.of hbq;have hW1:=ae hc10 hW1 id;have hR:=ae hc10 hR id;have hG:=ag.trans hG hc10;have hG2:=ag.trans hG2 hc10;have hV:=ae hc10 hV id;refine iT;refine tk 15 ?_;refine FX;have hc17:=ax (S:=λj=>j=V) (.inl rfl) (Cg 0 0 0 0 z.c.acks.length z.c.live z.c.wt.length).toList w10_ 0 dp;refine dr;exact FU
  .skip
   refine EV;have hW1:=ae hc2 hW1 id;have hR:=ae hc2 hR id;have hG:=ag.trans hG hc2;have hG2:=ag.trans hG2 hc2;refine rR;refine EG;refine(HAC.out _ hG).mono ?_;rintro r' w11_ ⟨rfl,hbq⟩;have hc11:ag af w2_ w11_:=.of hbq;have hW1:=ae hc11 hW1 id;have hR:=ae hc11 hR id;have hG:=ag.trans hG hc11;have hG2:=ag.trans hG2 hc11;have hV:=ae hc11 hV id;refine iT;refine kB;refine(HLV.out _ hG).mono ?_;rintro r' w12_ ⟨rfl,hbq⟩;have hc12:ag af w11_ w12_:=.of hbq;have hW1:=ae hc12 hW1 id;have hR:=ae hc12 hR id;have hG:=ag.trans hG hc12;have hG2:=ag.trans hG2 hc12;have hV:=ae hc12 hV id;refine iT;refine sb;refine(HWT.out _ hG).mono ?_;rintro r' w13_ ⟨rfl,hbq⟩;have hc13:ag af w12_ w13_:=.of hbq;have hW1:=ae hc13 hW1 id;have hR:=ae hc13 hR id;have hG:=ag.trans hG hc13;have hG2:=ag.trans hG2 hc13;have hV:=ae hc13 hV id;refine iT;refine tk 15 ?_;refine FX;have hc17:=ax (S:=λj=>j=V) (.inl rfl) (Cg 0 0 0 0 z.c.acks.length z.c.live z.c.wt.length).toList w13_ 0 dp;refine dr;exact FU
 case rest=>
  obtain⟨Z,rfl,hZl,hZ,hR,hG⟩:=hcut;have hZR:Z≠R:=λe=>by omega
  have hW1:=ae hG HW.out id;have hcw:=BQ (H.out.none hG).ct;rw[←H.out.yc]at hcw;have HC:=OH hcw;have HG:=OH hG;generalize hlve:z.c.live=lv at *;have LVE:=OH hlve;refine zH;refine ED;rintro r w3 ⟨rfl,hb3⟩;have hc3:ag af wc w3:=.of hb3;have hW3:=ae hc3 hW1 id;have hZ3:=ae hc3 hZ id;have hR3:=ae hc3 hR id;have HG3:=OH (HG.out.trans hc3);obtain⟨cZ,fZ,zZ⟩:=ab hZ3;refine gq;generalize hu:Xb4 _ _ _=v;have hs:ag (λj=>j=Z) w3 v:=lT
  have hZ4:v.heap[Z]?=OC (Cg z.c.inq.length z.c.ps.length 0 0 z.c.acks.length lv z.c.wt.length) 63:=jn
  have hW4:=jH hs hZ3 hW3;have hR4:=ae hs hR3 (Ne.symm hZR);have HG4:=OH (HG3.out.call hs λj hj e=>J8);obtain⟨A,cap,hv⟩:=aj H.out.wv;obtain⟨cW,fW,zW⟩:=ab hW4;refine ay;go_loopw [4,5,40] (λ_ _ i wr=>∃k:Nat,k<=z.wk.length/\i=JI k/\∃p t,SzP z k p t/\wr.heap[Z]?=OC (Cg z.c.inq.length z.c.ps.length p t z.c.acks.length lv z.c.wt.length) 63/\wr.heap[R]?=OC #[JI 0,JI 0,JI 0,JI 0,JI 0,JI 0,JI 0,JI 0] 63/\ag af w wr) (λ_ _ i _=>z.wk.length- (intOf i).toNat);case atStart=>exact⟨0,oM,rfl,0,0,⟨λ_ _=>Nat.zero_le _,λ_ _=>Nat.zero_le _⟩,hZ4,hR4,HG4.out⟩
  case round=>
   obtain⟨k,hk,rfl,p,t,hp,hZ5,hR5,hG5⟩:=hrel;refine nL;have HG5:=OH hG5;by_cases hlt:k<z.wk.length
   .obtain⟨g,hA,hg2,g0⟩:=(H.out.none hG5).wcell hlt hv
    subst hA;have hww:=λW (hc:ag af w W)=>(Cn ((H.out.none hc).wk _ qS)).mono (λe w' (q:e=aA (JI z.wk[k].pk.length)/\w'=W)=>(⟨q.1,q.2 ▸ Xb3 _ _⟩:e=aA (JI z.wk[k].pk.length)/\aC W w'))
    have hqu:=λW (hc:ag af w W)=>(Bh (H.out.none hc).ct.b k k rfl (by have:=H.out.wl;omega)).mono (λe w' (q:e=aA (JI (Iw z.c.tabs k).length)/\w'=W)=>(⟨q.1,q.2 ▸ Xb3 _ _⟩:e=aA (JI (Iw z.c.tabs k).length)/\aC W w'))
    have hco:=λW (hc:ag af w W)=>Nz ((H.out.none hc).wk _ qS)
    have HWW:=OH hww;simp only[H4.out _ (PI hlt)]at hco;simp only[show(Iw z.c.tabs k).length=(z.c.tabs k).length from List.length_map _]at hqu;have HCO:=OH hco;have HQU:=OH hqu;go_upto_region 8 with fail;have hG:=hG5;refine rl 6 (λw'=>Bk w' Z (Cg z.c.inq.length z.c.ps.length p t z.c.acks.length lv z.c.wt.length) 63) (λw0_ hc0=>?_);have hZ5:=ae hc0 hZ5 id;have hR5:=ae hc0 hR5 id;have hG:=ag.trans hG hc0;refine⟨bk,λhH=>?_⟩;refine tk 0 ?_;refine tk 1 ?_;refine tk 2 ?_;refine on 3 λK hK=>?_
    go_simp;refine(HWW.out _ hG).mono ?_;rintro r' w1_ ⟨rfl,hbq⟩;have hc1:ag af w0_ w1_:=.of hbq;have hZ5:=ae hc1 hZ5 id;have hR5:=ae hc1 hR5 id;have hG:=ag.trans hG hc1;refine hK.out _ _ bk (λhH=>?_);refine bV;refine tk 4 ?_;refine tk 5 ?_;refine je;generalize hu:Xb4 w1_ _ _=v1;have hs1:ag (λj=>j=Z) w1_ v1:=lT
    have hZ6:v1.heap[Z]?=OC (Cg z.c.inq.length z.c.ps.length (max p z.wk[k].pk.length) t z.c.acks.length lv z.c.wt.length) 63:=by rw[←hu,show max (p:Int) (z.wk[k].pk.length:Int)=((max p z.wk[k].pk.length:Nat):Int) by omega];exact bZ
    have hR6:=ae hs1 hR5 (Ne.symm hZR);have hG6:ag af w v1:=hG.call hs1 λj hj e=>by have:=HRE.out;omega
    have HPP:Hid (∀t',SzP z (k+1) p t'\/True):=λ_=> .inr trivial
    generalize hpe:max p z.wk[k].pk.length=p' at *;have HPE:=OH hpe;go_upto_region 9 with fail;have hG:=hG6;have hW6:=ae hG6 HW.out id;refine rl 10 (λw'=>Bk w' Y.W (IG X.G Y ve) 87/\Bk w' Z (Cg z.c.inq.length z.c.ps.length p' t z.c.acks.length lv z.c.wt.length) 63) (λw0_ hc0=>?_);have hW6:=ae hc0 hW6 id;have hZ6:=ae hc0 hZ6 id;have hR6:=ae hc0 hR6 id;have hG:=ag.trans hG hc0;refine⟨⟨bk,bk⟩,λhH=>?_⟩;refine qU;refine on 7 λK hK=>?_
    go_simp;refine(HQU.out _ hG).mono ?_;rintro r' w1_ ⟨rfl,hbq⟩;have hc1:ag af w0_ w1_:=.of hbq;have hW6:=ae hc1 hW6 id;have hZ6:=ae hc1 hZ6 id;have hR6:=ae hc1 hR6 id;have hG:=ag.trans hG hc1;refine iT;refine tk 8 ?_;refine tk 9 ?_;refine je;generalize hu:Xb4 w1_ _ _=v2;have hs1:ag (λj=>j=Z) w1_ v2:=lT
    have hZ7:v2.heap[Z]?=OC (Cg z.c.inq.length z.c.ps.length p' (max t (z.c.tabs k).length) z.c.acks.length lv z.c.wt.length) 63:=by rw[←hu,show max (t:Int) ((z.c.tabs k).length:Int)=((max t (z.c.tabs k).length:Nat):Int) by omega];exact bZ
    have hR7:=ae hs1 hR6 (Ne.symm hZR);have hG7:ag af w v2:=hG.call hs1 λj hj e=>by have:=HRE.out;omega
    generalize hte:max t (z.c.tabs k).length=t' at *;have HTE:=OH hte;go_upto_region 10 with fail;have hG:=hG7;refine rl 7 (λw'=>Bk w' Z (Cg z.c.inq.length z.c.ps.length p' t' z.c.acks.length lv z.c.wt.length) 63) (λw0_ hc0=>?_);have hZ7:=ae hc0 hZ7 id;have hR7:=ae hc0 hR7 id;have hG:=ag.trans hG hc0;refine⟨bk,λhH=>?_⟩;refine tk 0 ?_;refine tk 1 ?_;refine tk 2 ?_;refine on 3 λK hK=>?_
    go_simp;refine(HCO.out _ hG).mono ?_;rintro r' w1_ ⟨rfl,hbq⟩;have hc1:ag af w0_ w1_:=.of hbq;have hZ7:=ae hc1 hZ7 id;have hR7:=ae hc1 hR7 id;have hG:=ag.trans hG hc1;refine hK.out _ _ bk (λhH=>?_);refine bV;refine tk 4 ?_;refine tk 5 ?_;refine tk 6 ?_;refine je;generalize hu:Xb4 w1_ _ _=v3;have hs1:ag (λj=>j=Z) w1_ v3:=lT
    have hZ8:v3.heap[Z]?=OC (Cg z.c.inq.length z.c.ps.length p' t' z.c.acks.length lv z.c.wt.length) 63:=jn
    have hR8:=ae hs1 hR7 (Ne.symm hZR);have hG8:ag af w v3:=hG.call hs1 λj hj e=>by have:=HRE.out;omega
    have HG8:=OH hG8;refine dA;case rel=>exact⟨k+1,oM,eT,p',t',HPE.out ▸ HTE.out ▸ HP.out.step hlt,hZ8,hR8,HG8.out⟩
    case measure=>exact di
   .have hkl:k=z.wk.length:=oM
    subst hkl;obtain⟨cZ,fZ,zZ⟩:=ab hZ5;obtain⟨cR,fR,zR⟩:=ab hR5;refine ay;generalize hu:Xb4 _ _ _=v9;have hs9:ag (λj=>j=R) wr v9:=by
     have cs:∀ {a:World} (o:Nat) (v:Value),ag (λj=>j=R) wr a->ag (λj=>j=R) wr (a.setCell ⟨R,o,.none⟩ v):=λo v h=>ag.set (S:=λj=>j=R) h ⟨R,o,.none⟩ (.inl rfl) v
     rw[←hu];exact cs _ _ (cs _ _ (cs _ _ (cs _ _ (cs _ _ (cs _ _ (cs _ _ (cs _ _ dp)))))))
    have hf:v9.heap[R]?=OC (Cg z.c.inq.length z.c.ps.length p t z.c.acks.length lv z.c.wt.length) 63:=jn
    have hG9:ag af w v9:=HG5.out.call hs9 λj hj e=>by have:=HRE.out;omega
    have HG9:=OH hG9;refine ju rfl rfl underlying63 rfl rfl ⟨_,_,hf,kM,?_⟩;exact⟨p,t,by rw[LVE.out],HP.out,HG9.out⟩
end
section
variable {w:World}
theorem SL(eg:∀args w,(callFunc m args).run prog w=.ok (.enter m args) w)(hn:n<=1000)(hcell:∀W,ag af w W->∀k,k<n->∃g,A=some ⟨g,0,none⟩/\W.cell? ⟨g,k,none⟩=some (vals k))(hf:∀W k,ag af w W->k<n->az m (#[vals k] ++caps) W λe w'=>e=aA (.bool false)/\aC W w'):az 121 #[.slice A n cap,.func (.func m) #[] caps] w λe w'=>e=aA (JI (-1))/\aC w w':=by
 refine kt;have HC:=OH hcell;go_enter func121,ntmps121;exact zq95
theorem has82(eg:∀args w,(callFunc m args).run prog w=.ok (.enter m args) w)(hn:n<=1000)(hcell:∀W,ag af w W->∀k,k<n->∃g,A=some ⟨g,0,none⟩/\W.cell? ⟨g,k,none⟩=some (vals k))(hf:∀W k,ag af w W->k<n->az m (#[vals k] ++caps) W λe w'=>e=aA (.bool false)/\aC W w'):az 82 #[.slice A n cap,.func (.func m) #[] caps] w λe w'=>e=aA (.bool false)/\aC w w':=by
 have hi:=SL eg (cap:=cap) hn hcell hf;have HI:=OH hi;go_enter func82,ntmps82;exact UP
theorem SK(eg:∀args w,(callFunc m args).run prog w=.ok (.enter m args) w)(hn:n<=1000)(hcell:∀W,ag af w W->∀k,k<n->∃g,A=some ⟨g,0,none⟩/\W.cell? ⟨g,k,none⟩=some (vals k))(hf:∀W k,ag af w W->k<n->az m (#[vals k] ++caps) W λe w'=>e=aA (.bool false)/\aC W w'):az 122 #[.slice A n cap,.func (.func m) #[] caps] w λe w'=>e=aA (JI (-1))/\aC w w':=by
 refine kt;have HC:=OH hcell;go_enter func122,ntmps122;exact zq95
theorem has83(eg:∀args w,(callFunc m args).run prog w=.ok (.enter m args) w)(hn:n<=1000)(hcell:∀W,ag af w W->∀k,k<n->∃g,A=some ⟨g,0,none⟩/\W.cell? ⟨g,k,none⟩=some (vals k))(hf:∀W k,ag af w W->k<n->az m (#[vals k] ++caps) W λe w'=>e=aA (.bool false)/\aC W w'):az 83 #[.slice A n cap,.func (.func m) #[] caps] w λe w'=>e=aA (.bool false)/\aC w w':=by
 have hi:=SK eg (cap:=cap) hn hcell hf;have HI:=OH hi;go_enter func83,ntmps83;exact UP
end
structure CalmZ(z:Ws):Prop where
 q:z.c.inq=[]
 p:z.c.ps=[]
 a:z.c.acks=[]
 t:z.c.wt=[]
 w:∀x∈z.wk,x.pk=[]/\x.now=none/\x.ph=0
 b:∀i,i<z.wk.length->z.c.tabs i=[]
theorem eg78:∀args w,(callFunc 78 args).run prog w=.ok (.enter 78 args) w:=λargs w=>rfl
theorem eg80:∀args w,(callFunc 80 args).run prog w=.ok (.enter 80 args) w:=λargs w=>rfl
theorem info3c:(prog.info? 3).map (λi=>(i.zero,i.size,i.bytes))=some (some (JI 0),1,8):=kM
section
variable {w w' u:World}{M M':Nat->Prop}{Y:Yx}{X:Cx}{N m:Nat}{z:Ws}
theorem busy_t{K:Kw}(h:aL w N M K x)(hi:x.pk=[]/\x.now=none/\x.ph=0):az 78 #[OV x.W] w λe w'=>e=aA (.bool false)/\aC w w':=by
 have hw:=Rp h;have e:(!(decide (0<x.pk.length)||x.now.isSome)&&decide (x.ph=0))=true:=by rw[hi.1,hi.2.1,hi.2.2];rfl
 rw[e]at hw;have HW:=OH hw;go_enter func78,ntmps78;refine ay;refine Xb2 HW.out ?_;refine Ag;refine bj;exact⟨rfl,Xb3 _ _⟩
theorem tabs_t(h:bn w Y X M N m z)(hB:w.heap[B]?=OC #[OV Y.W] 34)(hk:k<z.wk.length)(ht:z.c.tabs k=[]):az 80 #[JI k,OV B] w λe w'=>e=aA (.bool false)/\aC w w':=by
 refine kz;have hq:=Bh h.ct.b k k rfl (by have:=h.wl;omega);have e:(Iw z.c.tabs k).length=0:=by show(Xb1 _ _).length=0;rw[ht];rfl
 rw[e]at hq;refine nF;refine eP;obtain⟨cB,fB,zB⟩:=ab hB;go_enter func80,ntmps80;refine ay;refine Xb2 HQ.out ?_;refine Ag;refine bj;exact⟨rfl,Xb3 _ _⟩
theorem NR(h:bn w Y X M N m z):az 84 #[OV Y.W] w λe w'=>∃A cap,e=aA (.slice A z.wk.length cap)/\w'.ownsRow w.heap.size 3 1 (.slice A z.wk.length cap) z.wk.length ((Xa8 z.wk.length).map λi=>Xb5 .i64 (i:Nat))/\aC w w':=by
 refine K0;obtain⟨i0,hi0,hz0,hz1,hz2⟩:=aI info3c;refine FD;generalize z.wk.length=n at *;refine eP;go_enter func84,ntmps84;refine ay;go_loopw [3,4,10] (λv _ i wr=>∃k:Nat,k<=n/\i=JI k/\wr.ownsRow w.heap.size 3 1 v k ((Xa8 k).map λi=>Xb5 .i64 (i:Nat))/\aC w wr) (λ_ _ i _=>n- (intOf i).toNat);case atStart=>exact LK
 case round=>
  obtain⟨k,hk,rfl,ho,hb⟩:=hrel;obtain⟨A1,c1,rfl⟩:=aj ho;have HO:=OH ho;have hbs:=hb.size;by_cases hlt:k<n
  .go_wp2_with (at_builtin;refine wpList_append_own _ rfl (.tmp 13) (.tmp 15) 85 rfl w.heap.size 3 i0 _ 1 8 underlying85 hi0 hz0 hz1 hz2 rfl dM _ _ _ rfl (HO.out.alloc _) ⟨wr.heap.size,0,none⟩ 1 1 [JI k] rfl rfl mf oe lM oM xM ?_;intro v1 w3 hown1 hgrow1 _)
   go_roundw;case rel=>exact⟨k+1,oM,eT,by rw[List.range_succ,List.map_append];exact hown1,bq (Below.alloc hb hbs _) xM (HO.out.alloc _) hgrow1⟩
   case measure=>exact di
  .have hkl:k=n:=oM
   refine mq;exact⟨A1,c1,rfl,HO.out,hb⟩
theorem TO(h:bn w Y X M N m z)(hq:z.c.inq≠ []):az 42 #[OV Y.W] w λe w'=>e=aA (.bool false)/\aC w w':=by
 refine kz;have hid:=λW (hc:ag af w W)=>BT ((h.none hc).ct)
 have e:((z.c.inq.length==0)&& (z.c.ps.length==0))=false:=by
  cases hz:z.c.inq with
  |nil=>
   exact absurd hz hq
  |cons=>rfl
 rw[←h.yc]at hid;rw[e]at hid;have HI:=OH hid;refine eP;go_enter func42,ntmps42;refine ay;refine Xb2 (HI.out _ bu) ?_;refine Ag;refine bj;exact EU
theorem Qk(h:bn w Y X M N m z)(hq:CalmZ z):az 42 #[OV Y.W] w λe w'=>e=aA (.bool true)/\aC w w':=by
 refine kz;obtain⟨A,cap,hv,_⟩:=h.has 0;refine FD;have hid:=λW (hc:ag af w W)=>BT ((h.none hc).ct)
 have e1:((z.c.inq.length==0)&& (z.c.ps.length==0))=true:=by rw[hq.q,hq.p];rfl
 rw[←h.yc,e1]at hid;have hac:=λW (hc:ag af w W)=>Qy (h.none hc).ct.b
 rw[hq.a]at hac;have hwt:=λW (hc:ag af w W)=>vE (h.none hc).ct.p
 rw[hq.t]at hwt;have h82:=λW (hc:ag af w W)=>has82 (w:=W) (m:=78) (caps:=#[]) eg78 (vals:=λk=> .pointer (some ⟨(z.wk.getD k ⟨0,0,0,0,0,[],.none,.none,.none,0,0,0,[],[],0,0,0,0,0⟩).W,0,.none⟩)) (A:=A) (cap:=cap) (n:=z.wk.length) oM (λV hV k hk=>by
  obtain⟨g,e,_,q⟩:=(h.none (hc.trans hV)).wcell hk hv;refine⟨g,e,?_⟩;rw[q,Xa0,Xa2 hk];rfl) (λV k hV hk=>by
  have q:=busy_t ((h.none (hc.trans hV)).wk _ ny) (hq.w _ ny);rw[Xa0,Xa2 hk];exact q)
 have h84:=λW (hc:ag af w W)=>NR (h.none hc)
 have h83:=λW (hc:ag af w W) (B:Nat) (hB:W.heap[B]?=OC #[OV Y.W] 34) (b:Nat) (A2:Option Addr) (cap2:Nat) (ho:W.ownsRow b 3 1 (.slice A2 z.wk.length cap2) z.wk.length ((Xa8 z.wk.length).map λi=>Xb5 .i64 (i:Nat)))=>has83 (w:=W) (m:=80) (caps:=#[OV B]) eg80 (vals:=λk=>JI (k:Nat)) (A:=A2) (cap:=cap2) (n:=z.wk.length) oM (λV hV k hk=>by obtain⟨g,e,_,_,q⟩:=kF (ah ho hV cy) hk;exact⟨g,e,q⟩) (λV k hV hk=>tabs_t (h.none (hc.trans hV)) (ae hV hB id) hk (hq.b k hk))
 have HI:=OH hid;have HA:=OH hac;have HT:=OH hwt;have H82:=OH h82;have H83:=OH h83;have H84:=OH h84;refine eP;go_enter func42,ntmps42;refine iI;have hB0:(w.alloc (.cells #[OV Y.W] 34)).heap[w.heap.size]?=OC #[OV Y.W] 34:=bZ;have hG:ag af w (w.alloc (.cells #[OV Y.W] 34)):=bu;have hW1:=ae hG hW id;refine qp;generalize w.heap.size=B at *;refine zH;obtain⟨cB,fB,zB⟩:=ab hB0;refine ay;refine Xb2 (HI.out _ hG) ?_;refine jp;subst hb;refine ay;refine Xb2 (HA.out _ hG) ?_;refine Ag;refine ay;refine Xb2 (HT.out _ hG) ?_;refine Ag;refine ay;refine Xb2 (H82.out _ hG) ?_;refine Ab;have hc2:ag af u w2:=.of hb2;have hW2:=ae hc2 hW1 id;have hB2:=ae hc2 hB0 id;have hG2:=hG.trans hc2;refine EW;obtain⟨cB,fB,zB⟩:=ab hB2;refine ay;refine Xb2 (H84.out _ hG2) ?_;rintro e w3 ⟨A2,cap2,rfl,ho,hb3⟩;have hc3:ag af w2 w3:=.of hb3;have hB3:=ae hc3 hB2 id;have hG3:=hG2.trans hc3;have h83:=H83.out _ hG3 B hB3 _ A2 cap2 ho;have HH:=OH h83;have HG3:=OH hG3;obtain⟨cB,fB,zB⟩:=ab hB3;refine E7;rintro e w4 ⟨rfl,hb4⟩;refine bj;exact⟨rfl,(HG3.out.next hb4).none⟩
end
structure RndJ(Y:Yx)(X:Cx)(N n:Nat)(J K:Nat->Nat->Nat->Ws->Prop)(R:Nat->Ws->Prop):Prop where
 ob:∀a i m z M w,a<3->i<n->J a i m z->bn w Y X M N m z->az 27 #[OV Y.W,JI (i:Nat)] w λe w'=>e=aA (.tuple #[])/\∃z',J a (i+1) m z'/\bn w' Y X M N m z'
 on:∀a m z,J a n m z->J (a+1) 0 m z
 jk:∀m z,J 3 0 m z->K 0 0 m z
 co:∀i m z M w,i<n->K 0 i m z->bn w Y X M N m z->az 29 #[OV Y.W] w λe w'=>e=aA (.tuple #[])/\∃m2 z',K 0 (i+1) m2 z'/\bn w' Y X M N m2 z'
 kw:∀m z,K 0 n m z->∀x∈z.wk,x.pk=[]/\x.now=none
 sw:∀m z M w,K 0 n m z->bn w Y X M N m z->az 30 #[OV Y.W] w λe w'=>e=aA (.tuple #[])/\∃z',R m z'/\bn w' Y X M N m z'
section
variable {w w' u:World}{M M':Nat->Prop}{Y:Yx}{X:Cx}{N m n:Nat}{z:Ws}{J K:Nat->Nat->Nat->Ws->Prop}{R:Nat->Ws->Prop}
theorem RZ(ha:az 28 #[OV Y.W] w λe w'=>e=aA (.tuple #[])/\∃M' m' z',J 0 0 m' z'/\bn w' Y X M' N m' z')(hn:X.n=n)(hn4:1<=n/\n<=4)(hr:RndJ Y X N n J K R) :
  az 43 #[OV Y.W] w λe w'=>e=aA (.tuple #[])/\∃M' m' z',R m' z'/\bn w' Y X M' N m' z':=by
 have HA:=OH ha;refine ml;have HN:=OH hn;go_enter func43,ntmps43;refine ay;refine HA.out.mono ?_;rintro r w1 ⟨rfl,M1,m1,z1,hj1,hs1⟩;obtain⟨A,cap,hv⟩:=aj hs1.wv;rw[hs1.wl,HN.out]at hv;have HS1:=OH hs1;have HJ1:=OH hj1;refine ay;go_loopw [8] (λi wr=>∃a:Nat,a<=3/\i=JI a/\∃z',J a 0 m1 z'/\bn wr Y X M1 N m1 z') (λi _=>3- (intOf i).toNat);case atStart=>exact⟨0,oM,rfl,z1,HJ1.out,HS1.out⟩
 case round=>
  obtain⟨a,ha3,rfl,z2,hj2,hs2⟩:=hrel;have HS2:=OH hs2;have HJ2:=OH hj2;obtain⟨ve,hW,_,_⟩:=hs2.ev;refine eP;by_cases hlt:a<3
  .have f3:decide ((a:Int)<3)=true:=by simp only[decide_eq_true_eq];omega
   refine ay;go_loopw [2,15] (λ_ i wr=>∃k:Nat,k<=n/\i=JI k/\∃z',J a k m1 z'/\bn wr Y X M1 N m1 z') (λ_ i _=>n- (intOf i).toNat);case atStart=>exact⟨0,oM,rfl,z2,HJ2.out,HS2.out⟩
   case round=>
    obtain⟨k,hk,rfl,z3,hj3,hs3⟩:=hrel;have HS3:=OH hs3;have HJ3:=OH hj3;by_cases hlk:k<n
    .have hob:=HR.out.ob a k m1 z3 M1 wr hlt hlk HJ3.out HS3.out
     have HOB:=OH hob;refine ay;refine HOB.out.mono ?_;rintro r w5 ⟨rfl,z5,hj5,hs5⟩;have HS5:=OH hs5;have HJ5:=OH hj5;refine dA;case rel=>exact⟨k+1,oM,eT,z5,HJ5.out,HS5.out⟩
     case measure=>exact di
    .have hkl:n=k:=oM
     subst hkl;refine dA;case rel=>exact⟨a+1,oM,eT,z3,HR.out.on a m1 z3 HJ3.out,HS3.out⟩
     case measure=>exact di
  .have hal:a=3:=oM
   subst hal;refine ay;go_loopw [28] (λi wr=>∃k:Nat,k<=n/\i=JI k/\∃m' z',K 0 k m' z'/\bn wr Y X M1 N m' z') (λi _=>n- (intOf i).toNat);case atStart=>exact⟨0,oM,rfl,m1,z2,HR.out.jk m1 z2 HJ2.out,HS2.out⟩
   case round=>
    obtain⟨k,hk,rfl,m3,z3,hj3,hs3⟩:=hrel;have HS3:=OH hs3;have HJ3:=OH hj3;by_cases hlk:k<n
    .have hob:=HR.out.co k m3 z3 M1 wr hlk HJ3.out HS3.out
     have HOB:=OH hob;refine ay;refine HOB.out.mono ?_;rintro r w5 ⟨rfl,m5,z5,hj5,hs5⟩;have HS5:=OH hs5;have HJ5:=OH hj5;refine dA;case rel=>refine⟨_,_,_,_,_,⟨k+1,oM,?_,m5,z5,HJ5.out,HS5.out⟩,rfl⟩;go_num
     case measure=>exact di
    .have hkl:n=k:=oM
     subst hkl;obtain⟨ve,hW,_,_⟩:=hs3.ev;refine eP;refine ay;go_loopw [3,4,5,38] (λ_ _ _ i wr=>∃j:Nat,j<=n/\i=JI j/\bn wr Y X M1 N m3 z3) (λ_ _ _ i _=>n- (intOf i).toNat);case atStart=>exact⟨0,oM,rfl,HS3.out⟩
     case round=>
      obtain⟨j,hj,rfl,hs4⟩:=hrel;have HS4:=OH hs4;by_cases hlj:j<n
      .have hjw:j<z3.wk.length:=by rw[hs4.wl,HN.out];exact hlj
       obtain⟨g,hA,hg2,g0⟩:=hs4.wcell hjw (by rw[hv,hs4.wl,HN.out]);subst hA;obtain⟨b1,b2⟩:=HR.out.kw m3 z3 HJ3.out _ (PI hjw);have B1:=OH b1;have B2:=OH b2;refine ay;go_loopw [5] (λv wq=>v=JI 0/\bn wq Y X M1 N m3 z3) (λ_ _=>0);case atStart=>exact⟨rfl,HS4.out⟩
       case round=>
        obtain⟨rfl,hs5⟩:=hrel;have HS5:=OH hs5;have hbz:=Gr (hs5.wk _ (PI hjw));rw[B1.out,B2.out]at hbz;have HBZ:=OH hbz;refine ay;refine Xb2 HBZ.out ?_;rintro r w5 ⟨rfl,hw5⟩;have hw6:=hw5.symm;subst hw6;refine dA;case rel=>refine⟨_,_,_,_,_,_,_,_,_,_,_,_,_,_,_,_,_,_,_,_,⟨j+1,oM,?_,HS5.out⟩,rfl⟩;go_num
        case measure=>exact di
      .have hjl:n=j:=oM
       subst hjl;have hob:=HR.out.sw m3 z3 M1 _ HJ3.out hs4;have HOB:=OH hob;refine ay;refine Xb2 HOB.out ?_;rintro r w5 ⟨rfl,z5,hj5,hs5⟩;have HE:=OH (And.intro hj5 hs5);refine dg;exact⟨rfl,M1,m3,z5,HE.out.1,HE.out.2⟩
end
structure qP where
 kind:Int
 shard:Int
 id:Int
 q:Rq
 qa:Option Addr
 qc:Nat
 p:Pk
 ssrc:Int
 sa:Option Addr
 sc:Nat
 sq:List Int
 ra:Option Addr
 rc:Nat
 rz:List Int
abbrev Ci(s:qP):Array Value:=#[JI s.kind,JI s.shard,JU s.id,JI s.q.kind,JI s.q.who,JI s.q.room,JI s.q.rights,JI s.q.track,.slice s.qa s.q.ss.length s.qc,JI s.q.layer,JI s.q.tid,.bool s.p.mark,JW s.p.ty,JS s.p.seq,JT s.p.time,JT s.p.ssrc,.slice s.p.a1 s.p.cs.length s.p.c1,.slice s.p.a2 s.p.xs.length s.p.c2,.slice s.p.a3 s.p.zs.length s.p.c3,JI s.p.pad,JT s.ssrc,.slice s.sa s.sq.length s.sc,.slice s.ra s.rz.length s.rc]
structure p9(w:World)(b:Nat)(s:qP):Prop where
 id:0<=s.id/\s.id<2 ^ 64
 ss:0<=s.ssrc/\s.ssrc<=4294967295
 q:rh w s.qa s.qc s.q
 p:PkS w s.p
 sq:bd w s.sa .u16 s.sq/\(s.sa=none->s.sc=0)/\s.sq.length<=s.sc/\s.sq.length<=20/\∀z∈s.sq,0<=z/\z<65536
 r:LZ w b s.ra s.rc s.rz/\aG s.rz/\s.rz.length<=100
def TolE(w:World)(b:Nat)(F:List Int->Prop)(e:Ending)(w':World):Prop:=∃A c zs,e=aA (.slice A zs.length c)/\LZ w' b A c zs/\aG zs/\zs.length<=100000/\F zs/\ag af w w'
theorem C5(h:w.ownsRow B 5 1 (.slice A zs.length cap) zs.length (zs.map (Xb5 .u8))):LZ w b A cap zs:=by
 have hb:=mR h;refine⟨iD hb,kf hb,?_,λg off hA hz=>?_⟩
 .obtain⟨_,_,e,q,_⟩:=hb
  simp only[Xb6.injEq]at e;omega
 .obtain⟨c,q⟩:=bG h (show(Xb6 A zs.length cap).ownBlock=some g by rw[hA];rfl)
  exact .inr ⟨c,q⟩
section
variable {w w' u:World}{b:Nat}{s:qP}
theorem Qm(h:p9 w b s):az 13 #[.agg (Ci s)] w (TolE w b λzs=>Jq s.q=true->zs=dR (dO s.id s.q)):=by
 have hq:=λW (hc:ag af w W)=>Og (w:=W) s.id s.q h.id ⟨h.q.1.below rfl hc.none,h.q.2⟩
 have hr:=λW (hc:ag af w W)=>h.r.1.none hc
 have hpl:(dR (dO s.id s.q)).length<=100000/\aG (dR (dO s.id s.q)):=by
  have h1:=oU (dO s.id s.q);have h2:=h.q.2.2.2.1;have h3:(dO s.id s.q).length=9+s.q.ss.length:=by simp[dO];omega
  exact⟨oM,fh _⟩
 refine nF;have HR:=OH (And.intro hr h.r.2);refine qh;obtain⟨kind,shard,cid,q,qa,qc,p,ssrc,sa,sc,sq,ra,rc,rz⟩:=s;dsimp only at HQ HR HPL;go_enter func13,ntmps13;refine kx;refine sj;have hS:u.heap[w.heap.size]?=OC (Ci ⟨kind,shard,cid,q,qa,qc,p,ssrc,sa,sc,sq,ra,rc,rz⟩) 61:=jn
 have hG:ag af w u:=lT
 generalize w.heap.size=Z at *;obtain⟨cS,fS,zS⟩:=ab hS;refine ay;refine(HQ.out _ hG).mono ?_;rintro r w2 ⟨⟨v,err,rfl,h1,h2⟩,hb⟩;have hc2:ag af u w2:=.of hb;have hG2:=hG.trans hc2;have hS2:=ae hc2 hS id;refine An;have HG2:=OH hG2;obtain⟨cS,fS,zS⟩:=ab hS2;by_cases he:err=0
 .have e0:(err !=0)=false:=by simpa using he
  obtain⟨hf,ho⟩:=H1.out he;obtain⟨A,c,rfl⟩:=aj ho;have HO:=OH ho;refine bj;exact⟨A,c,_,rfl,C5 HO.out,HPL.out.2,HPL.out.1,λ_=>rfl,HG2.out⟩
 .have e0:(err !=0)=true:=by simpa using he
  have HNF:=OH (λq=>he (H2.out q));refine bj;exact⟨ra,rc,rz,rfl,HR.out.1 _ HG2.out,HR.out.2.1,Kk,λq=>absurd q HNF.out,HG2.out⟩
end
end Go.Proofs.YtnpancjkjheffaaGreat
