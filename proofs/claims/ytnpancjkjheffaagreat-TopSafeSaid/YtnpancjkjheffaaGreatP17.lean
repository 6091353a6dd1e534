/- Part 19 of the proof of TopSafe. No condition. -/
import Derived.Test.YtnpancjkjheffaaGreatP16
namespace Go.Proofs.YtnpancjkjheffaaGreat
set_option linter.unusedVariables false
set_option linter.unusedSimpArgs false
set_option maxRecDepth 100000
set_option maxHeartbeats 8000000
open Go.RowKit
open Go.Proofs.Tryz
open _root_.List renaming all_eq_true->PI,mem_append->Xa0,length_append->Xa1,map_append->Xa2,mem_singleton->Xa3,pairwise_iff_getElem->Xa4,getElem?_cons_zero->Xa5,getElem?_cons_succ->Xa6,length_singleton->Xa7,pairwise_append->Xa8,getElem_set_ne->Xa9,append_assoc->Xb0,not_mem_nil->Xb1,length_map->Xb2,mem_cons->Xb3
open _root_.Nat renaming le_trans->Xb4,lt_of_lt_of_le->Xb5
open World renaming ownsRow_nil->Xb6,setCell->Xb7
open _root_.And renaming intro->Xb8
open Value renaming int->Xb9,slice->Xc0
variable {c' s s':Cs}{ep k:Int}{K:Kw}{rs:List (Int×Int×Int)}{ts:List (TypeId×Nat×Nat)}{zs:List Int}{ms ns:List Nat}{B D Mm N R b cap i m' n:Nat}{M M' ND S:Nat->Prop}{A:Option Addr}{q:Rq}{x:Wk}{w w':World}
theorem j9(s:List Int×Int)(hb:aG s.1)(k:Nat):aG (bO s k).2.1/\0<=(bO s k).1/\(bO s k).1<256 ^ k:=mZ (zs:=s.1) (e:=s.2) hb rfl
theorem GW(s:List Int×Int)(hb:aG s.1):∀n,aG (dL n s).2.1/\∀z∈ (dL n s).1,0<=z/\z<4294967296
 |0=>⟨hb,by simp[dL]⟩
 |n+1=>by
  obtain⟨h1,h2⟩:=GW s hb n;obtain⟨h3,h4,h5⟩:=j9 (dL n s).2 h1 4;refine⟨h3,λz hz=>?_⟩;rcases Xa0.1 hz with q|q
  .exact h2 z q
  .refine iH
   exact⟨h4,by have:(256:Int) ^ 4=4294967296:=dM;omega⟩
theorem mH{id e:Int}(hb:aG zs)(h:ez zs=(id,q,e)):(0<=id/\id<2 ^ 64)/\((0<=q.who/\q.who<=65535)/\0<=q.track/\q.track<=65535)/\q.ss.length<=255/\(∀z∈q.ss,0<=z/\z<4294967296)/\0<=q.kind/\q.kind<=9:=by
 unfold ez at h;dsimp only at h;have h0:=j9 (zs,0) hb 8;generalize bO (zs,0) 8=a0 at *;have h1:=j9 a0.2 h0.1 1;generalize bO a0.2 1=a1 at *;have h2:=j9 a1.2 h1.1 2;generalize bO a1.2 2=a2 at *;have h3:=j9 a2.2 h2.1 1;generalize bO a2.2 1=a3 at *;have h4:=j9 a3.2 h3.1 1;generalize bO a3.2 1=a4 at *;have h5:=j9 a4.2 h4.1 2;generalize bO a4.2 2=a5 at *;have h6:=j9 a5.2 h5.1 1;generalize bO a5.2 1=a6 at *;have h7:=j9 a6.2 h6.1 1;generalize bO a6.2 1=a7 at *;have h8:=j9 a7.2 h7.1 1;generalize bO a7.2 1=a8 at *;have h9:=GW a8.2 h8.1 a8.1.toNat;have h10:=pR a8.2 a8.1.toNat;generalize dL a8.1.toNat a8.2=l at *;have e8:(256:Int) ^ 8=2 ^ 64:=dM;have e2:(256:Int) ^ 2=65536:=dM;have e1:(256:Int) ^ 1=256:=dM;rw[e8]at h0;rw[e2]at h2 h5;rw[e1]at h1 h8;by_cases c:(if l.2.2=0 then if 9<a1.1 then(11:Int) else if 0<l.2.1.length then 12 else 0 else l.2.2)=0
 .rw[if_pos c]at h
  obtain⟨rfl,rfl,rfl⟩:=h;have c9:a1.1<=9:=by
   by_cases c1:l.2.2=0
   .rw[if_pos c1]at c
    by_cases c2:9<a1.1
    .rw[if_pos c2]at c
     omega
    .omega
   .rw[if_neg c1]at c
    exact absurd c c1
  exact⟨h0.2,⟨⟨h2.2.1,gY⟩,h5.2.1,gY⟩,by dsimp only;rw[h10];omega,h9.2,h1.2.1,c9⟩
 .rw[if_neg c]at h
  obtain⟨rfl,rfl,rfl⟩:=h;exact⟨dM,dM,dM,sM,dM,dM⟩
structure yK where
 n:Int
 id:Int
 q:Rq
 e:Int
 A:Option Addr
 cap:Nat
abbrev neC(x:yK):List Value:=[JI x.n,JU x.id,JI x.q.kind,JI x.q.who,JI x.q.room,JI x.q.rights,JI x.q.track,.slice x.A x.q.ss.length x.cap,JI x.q.layer,JI x.q.tid,JI x.e]
theorem SO(x:yK):(neC x).length=11:=rfl
inductive kh(X:Cx)(s:Cs)(ND:Nat->Prop):List yK->List (Int×Int×Int)->Cs->Prop
 |nil (h:s.inq=[]):kh X s ND [] [] s
 |bad {p:Ca} {rest:List Ca} {id:Int} {q:Rq} {e:Int} (h:s.inq=p::rest) (hp:ez p.zs=(id,q,e)) (he:e≠0):kh X s ND [] [(p.n,0,e)] {s with inq:=rest}
 |seen {p:Ca} {rest:List Ca} {id:Int} {q:Rq} {a:ByteArray} {dn:Bool} {ps':List Pd} {rs:List (Int×Int×Int)} (h:s.inq=p::rest) (hp:ez p.zs=(id,q,0)) (hf:Dd.PL s.L id=(a,dn,true)) (hps:ps'.map (λp:Pd=>(p.at',p.id,p.epoch))=s.ps.map (λp=>(p.at',p.id,p.epoch))) (hr:rs.length<=1/\(dF ps').length+rs.length<=(dF s.ps).length+1):kh X s ND [] rs {s with inq:=rest,ps:=ps'}
 |full {p:Ca} {rest:List Ca} {id:Int} {q:Rq} {a:ByteArray} {dn:Bool} {L1:List Dd.En} {c:Int} (h:s.inq=p::rest) (hp:ez p.zs=(id,q,0)) (hf:Dd.PL s.L id=(a,dn,false)) (hs:Dd.wQ s.L X.win id=(L1,c)) (hc:c≠0):kh X s ND [] [(p.n,id,20)] {s with inq:=rest,L:=L1}
 |no {p:Ca} {rest:List Ca} {id:Int} {q:Rq} {a:ByteArray} {dn:Bool} {L1:List Dd.En} {err:Int} {ans:ByteArray} {D:yK} (h:s.inq=p::rest) (hp:ez p.zs=(id,q,0)) (hf:Dd.PL s.L id=(a,dn,false)) (hs:Dd.wQ s.L X.win id=(L1,0)) (hn:DoN X {s with inq:=rest,L:=L1} q err) (ha:ans.size=9) (hD:D.n=p.n/\D.id=id/\D.q=q/\D.e=err):kh X s ND [D] [(p.n,id,err)] {s with inq:=rest,L:=(Dd.endF L1 id ans).1}
 |yes {p:Ca} {rest:List Ca} {id:Int} {q:Rq} {a:ByteArray} {dn:Bool} {L1:List Dd.En} {ans:ByteArray} {D:yK} {s1:Cs} (h:s.inq=p::rest) (hp:ez p.zs=(id,q,0)) (hf:Dd.PL s.L id=(a,dn,false)) (hs:Dd.wQ s.L X.win id=(L1,0)) (hd:J1 X {s with inq:=rest,L:=L1} q ND 0 s1) (ha:ans.size=9) (hD:D.n=p.n/\D.id=id/\D.q=q/\D.e=0):kh X s ND [D] [(p.n,id,0)] {s1 with L:=(Dd.endF L1 id ans).1}
 |wait {p:Ca} {rest:List Ca} {id:Int} {q:Rq} {a:ByteArray} {dn:Bool} {L1:List Dd.En} {ep:Int} {D:yK} {s1:Cs} {pd:Pd} (h:s.inq=p::rest) (hp:ez p.zs=(id,q,0)) (hf:Dd.PL s.L id=(a,dn,false)) (hs:Dd.wQ s.L X.win id=(L1,0)) (hd:J1 X {s with inq:=rest,L:=L1} q ND ep s1) (he:ep≠0) (hD:D.n=p.n/\D.id=id/\D.q=q/\D.e=0) (hpd:pd.id=id/\pd.epoch=ep/\pd.calls=[p.n]):kh X s ND [D] [] {s1 with ps:=s1.ps++ [pd] }
abbrev yz(b:Nat):List (TypeId×Nat×Nat):=[(153,b,0),(124,b,0),(352,b,0),(128,b,0),(346,b,0),(232,b,0),(139,b,0),(235,b,0),(143,b,0),(238,b,0),(47,b,0),(263,b,0),(265,b,0),(3,b,0)]
def AccE(w:World)(X:Cx)(M:Nat->Prop)(m:Nat)(s:Cs)(e:Ending)(w':World):Prop:=∃vd vr dn rs M' s',e=aA (.tuple #[vd,vr])/\w'.ownsRow w.heap.size 179 11 vd dn.length (dn.flatMap neC)/\(∀x∈dn,w'.ownsRow w.heap.size 52 1 (.slice x.A x.q.ss.length x.cap) x.q.ss.length (iJ x.q.ss))/\w'.ownsRow w.heap.size 255 3 vr rs.length (rs.flatMap Cj) /\
 (∀j,M j->M' j)/\(∀j,M' j->M j\/w.heap.size<=j)/\bh w' X M' (m+2) s'/\ag (Fr (yz X.b) [X.G.M,X.DM] w) w w'/\kh X s (ui w w' M' X.G.keep.toNat) dn rs s'
section
variable {w w' u:World}{X:Cx}{M:Nat->Prop}{m:Nat}{s:Cs}
theorem ui.base{kp:Nat}(h:ui u w' M' kp D)(hs:w.heap.size<=u.heap.size):ui w w' M' kp D:=by obtain⟨S,R,Mm,sx,a,b⟩:=h;exact⟨S,R,Mm,sx,a,λj q=>⟨Xb4 hs (b j q).1,(b j q).2⟩⟩
theorem bh.pop{rest:List Ca}{a:Nat}{cur:Array Value}(h:bh w X M m s)(hq:eD w' X.G.Q X.R 235 143 2 X.li a (rest.map cwC) cur)(hr:∀p∈rest,p∈s.inq)(hc:ag (Fr [(235,X.b,0),(143,X.b,0)] [] w) w w'):bh w' X M m {s with inq:=rest}:=
 ⟨h.pc (ms:=λ_=>False) hc gm,⟨a,cur,hq⟩,λx q=>h.pca (ms:=λ_=>False) hc gm x (hr x q),h.psn hc gm,h.pse hc gm,h.pa (ms:=λ_=>False) hc gm,h.pp (ms:=λ_=>False) hc gm,h.pb (ms:=λ_=>False) hc gm yR,h.pt hc gm,h.ptt hc gm,h.pmm hc gm,h.nm,h.pst hc rfl,h.lo⟩
theorem bh.see{L':List Dd.En}(h:bh w X M m s)(hT:Dd.ed w' X.G.D X.DM X.B X.win m' L')(hc:ag (Fr [(238,X.B,0),(47,X.B,0)] [X.DM] w) w w'):bh w' X M m' {s with L:=L'}:=
 ⟨h.pc (ms:=λ_=>False) hc gm,h.pq (ms:=λ_=>False) hc gm,h.pca (ms:=λ_=>False) hc gm,hT,h.pse hc (eF.fr rM (by simp[h.nm.2.2.symm])),h.pa (ms:=λ_=>False) hc gm,h.pp (ms:=λ_=>False) hc gm,h.pb (ms:=λ_=>False) hc gm (λq=>by
  rcases q with⟨_,q⟩|⟨p,hp,hl,_,cur,q⟩
  .exact q _ _ h.b.la
  .have:=h.st.2.2.2.1
   refine qF;rcases hp with rfl|rfl<;> · dsimp only at hl;omega),h.pt hc Ib,h.ptt hc Ib,h.pmm hc Ib,h.nm,h.pst hc rfl,h.lo⟩
theorem bh.mono2(h:bh w X M m s):bh w X M (m+2) s:=⟨h.c,h.q,h.ca,h.seen.mono (Nat.le_add_right m 2),h.se,h.a,h.p,h.b,h.t,h.tt,h.mm,h.nm,h.st,h.lo⟩
theorem NV(hb:X.b<X.B)(hc:ag (Fr [(238,X.B,0),(47,X.B,0)] [X.DM] w) w w'):ag (Fr (yz X.b) [X.G.M,X.DM] w) w w':=hc.mono λj _ q=>q.imp (λq=>⟨by simp at q;simp[q.1],q.2⟩) λ⟨p,hp,hle,_,cur,k⟩=>by refine qF;rcases hp with rfl|rfl<;>exact⟨(_,X.b,0),sM,Ki,.inl rfl,cur,k⟩
end
section
variable {w w' u:World}{X:Cx}{M:Nat->Prop}{m:Nat}{s:Cs}
theorem uc(hc:ag (Fr ts ms w) w w')(ht:(ts.all λp=>(yz 0).any λq=>q.1==p.1)=true)(hm:∀j∈ms,j=X.G.M\/j=X.DM)(hb:∀p∈ts,X.b<=p.2.1:=by simp):ag (Fr (yz X.b) [X.G.M,X.DM] w) w w':=hc.mono λj _ q=>q.imp (λq=>⟨by rcases hm j q.1 with e|e<;>simp[e],q.2⟩) λ⟨p,hp,hle,_,cur,k⟩=>by
 obtain⟨r,hr,e⟩:=List.any_eq_true.1 (PI.1 ht p hp);have e2:r.1=p.1:=by simpa using e
 have e3:(r.1,X.b,0)∈yz X.b:=by simp only[Xb3,Xb1,or_false]at hr;rcases hr with rfl|rfl|rfl|rfl|rfl|rfl|rfl|rfl|rfl|rfl|rfl|rfl|rfl|rfl<;>simp
 exact⟨_,e3,Xb4 (hb p hp) hle,.inl rfl,cur,e2 ▸ k⟩
theorem QB(hc:ag (Fr ts [] w) w w')(ht:(ts.all λp=>(yz 0).any λq=>q.1==p.1)=true:=by rfl)(hb:∀p∈ts,X.b<=p.2.1:=by simp):ag (Fr (yz X.b) [X.G.M,X.DM] w) w w':=uc hc ht sM hb
theorem do_fr(hc:ag (Fr (doT X.b) [X.G.M] w) w w'):ag (Fr (yz X.b) [X.G.M,X.DM] w) w w':=uc hc rM sM
theorem Tf:(prog.info? 263).map (λi=>(i.zero,i.size,i.bytes))=some (some (.pointer none),1,8):=kM
theorem dD.snoc{V w1:World}{vw v':Value}{ps:List Pd}{pd:Pd}(h:dD V B vw ps)(hp:B<=pd.at'/\V.heap[pd.at']?=OC #[JU pd.id,JU pd.epoch,pd.v] 265/\V.ownsRow B 3 1 pd.v pd.calls.length (pd.calls.map (Xb9 .i64))/\pd.calls.length<=1000/\0<pd.calls.length/\0<=pd.id/\pd.id<2 ^ 64)(hn:∀p∈ps,p.at'≠pd.at')(hv:∀p∈ps,∀g,p.v.ownBlock=some g->pd.v.ownBlock≠some g)(hq:cE w1 B 263 v' (ps.map (λp=>Value.pointer (some ⟨p.at',0,none⟩))++ [OV pd.at']))(hg:V.grownBy w1 vw.ownBlock):dD w1 B v' (ps++ [pd]):=by
 have hG:ag (λi=>vw.ownBlock=some i) V w1:=ag.grown (ag.refl _ V) hg (λk hk _=>hk);refine⟨by simpa using hq,λp q=>?_,?_,?_⟩
 .have hpp:B<=p.at'/\V.heap[p.at']?=OC #[JU p.id,JU p.epoch,p.v] 265/\V.ownsRow B 3 1 p.v p.calls.length (p.calls.map (Xb9 .i64))/\p.calls.length<=1000/\0<p.calls.length/\0<=p.id/\p.id<2 ^ 64:=by
   rcases Xa0.1 q with q|q
   .exact h.p p q
   .refine iH
    exact hp
  obtain⟨a,b,c,d⟩:=hpp;exact⟨a,ae hG b (h.q.ne b dM),ah c hG (λj cur hj hb=>h.q.ne hb dM hj),d⟩
 .rw[Xa2,List.nodup_append]
  refine⟨h.n,sM,λa ha b hb=>?_⟩;obtain⟨p,hp1,rfl⟩:=List.mem_map.1 ha;simp only[List.map_cons,List.map_nil,Xa3]at hb;rw[hb];exact hn p hp1
 .rw[Xa8]
  refine⟨h.s,sM,λa ha b hb=>?_⟩;rw[Xa3.1 hb];exact hv a ha
theorem ui.keep{a c:World}{kp:Nat}(h:ui a u M' kp D)(hs:w.heap.size<=a.heap.size)(hc:ag (Fr ts [] u) u c)(ht:(ts.all λp=>p.1 !=379&&p.1 !=243&&p.1 !=430&&p.1 !=5)=true):ui w c M' kp D:=by obtain⟨S,R,Mm,sx,a,b⟩:=h;exact⟨S,R,Mm,sx,a.fr hc ht sM,λj q=>⟨Xb4 hs (b j q).1,(b j q).2⟩⟩
theorem J1.mono{ND':Nat->Prop}(h:J1 X s q ND ep s')(hn:∀D,ND D->ND' D):J1 X s q ND' ep s':=⟨h.1,h.2.imp id λ⟨a,b,l1,v1,e1,s1,s2,w2,T,d,k⟩=>⟨a,b,l1,v1,e1,s1,s2,w2,T,d.mono hn,k⟩⟩
theorem Ec(h:w.ownsRow B 5 1 (.slice A n cap) n (zs.map (Xb9 .u8))):A=none->cap=0:=λq=>by exact XT
theorem bh.mono1(h:bh w X M m s)(hm:m<=m'):bh w X M m' s:=⟨h.c,h.q,h.ca,h.seen.mono hm,h.se,h.a,h.p,h.b,h.t,h.tt,h.mm,h.nm,h.st,h.lo⟩
theorem bh.wait{ps':List Pd}(h:bh w X M m s)(hC:∃vp vt vs A cap BD,w'.heap[X.C]?=OC (iP X.G vp vt vs (s.t.map λt=>⟨t.at',0,none⟩) s.ever (.slice A ps'.length cap)) 153/\bK w' BD vp vt vs s.d/\dD w' X.B (.slice A ps'.length cap) ps')(hc:ag (Fr [(153,X.b,0),(263,X.b,0),(265,X.b,0),(3,X.b,0)] [] w) w w'):bh w' X M m {s with ps:=ps'}:=
 ⟨hC,h.pq (ms:=λ_=>False) hc gm,h.pca (ms:=λ_=>False) hc gm,h.psn hc gm,h.pse hc gm,h.pa (ms:=λ_=>False) hc gm,h.pp (ms:=λ_=>False) hc gm,h.pb (ms:=λ_=>False) hc gm yR,h.pt hc gm,h.ptt hc gm,h.pmm hc gm,h.nm,h.pst hc rfl,h.lo⟩
theorem rq_own(h:w.ownsRow B 52 1 (.slice A q.ss.length cap) q.ss.length (iJ q.ss))(hl:q.ss.length<=255)(hz:∀z∈q.ss,0<=z/\z<4294967296):rh w A cap q:=by
 refine⟨kU h,?_,?_,oM,hz⟩
 .intro q
  exact XT
 .rcases bW h with⟨h1,h2,_⟩|⟨g,c,h1,_,_,h4,_⟩
  .refine mh
   omega
  .refine mh
   omega
theorem OG{g:Nat}{x:yK}(hg:w.heap[g]?=OC (neC x).toArray 179)(hB:B<=g):w.ownsRow B 179 11 (.slice (aT g) 1 1) [x].length ([x].flatMap neC):=
 ⟨rfl,.inr ⟨g,1,_,rfl,hB,hg,sM,lM,rfl,rfl⟩⟩
theorem JH(h:bh w X M m s)(ok:QK X s)(sn:uE X s.L)(hm:m<=990000)(hdo:∀p rest id q L1,s.inq=p::rest->ez p.zs=(id,q,0)->Hw X {s with inq:=rest,L:=L1} q) :
  az 64 #[OV X.C] w (AccE w X M m s):=by
 refine sr;obtain⟨qa,qcur,hq⟩:=h.q;have hlo:=h.lo;refine bI;have OK:=OH ok;have SN:=OH sn;have HDO:=OH hdo;have hca:=h.ca;obtain⟨cC,fC,zC⟩:=ab c1;cases hi:s.inq with
 |nil=>
  rw[hi]at hq;have hpp:=Bq hq;have HP:=OH hpp;go_enter func64,ntmps64;refine qy;refine rT;refine df;have hg:ag af w (w2.alloc (.cells #[JI 0,.slice none 0 0] 143)):=ag.alloc (.of hb2) _;exact⟨.slice none 0 0,.slice none 0 0,[],[],M,s,rfl,Xb6 _ _ _ _,sM,Xb6 _ _ _ _,λ_=>id,λ_=> .inl,(H.out.below hg.none).mono2,aY hg,.nil hi⟩
 |cons p rest=>
  rw[hi]at hq hca;have hpp:=Bm (v0:=p.n) (v1:=p.a) (vl1:=p.zs.length) (vc1:=p.c) (ys:=rest.map cwC) hq;have HP:=OH hpp;have hpz:=hca p List.mem_cons_self;have hfq:∀w',ag (λj=>j=X.G.Q\/j=X.R) w w'->ag (Fr [(235,X.b,0),(143,X.b,0)] [] w) w w':=λw' hc=>xX hc hq.q hq.r sM sM hlo.2.1.1 hlo.2.1.2
  have HFQ:=OH hfq;have HPZ:=OH hpz;go_enter func64,ntmps64;refine qy;rintro r w2 ⟨rfl,⟨a2,cur2,hq2⟩,hc2⟩;have hf2:=HFQ.out _ hc2;have H2:=OH (H.out.pop hq2 (λx q=>by rw[hi];exact List.mem_cons_of_mem _ q) hf2);have hz2:=ah HPZ.out.1 hf2 eR;have HF2:=OH hf2;have hC2:=bJ hf2 c1 rM;have hV:(w2.alloc (.cells #[JI p.n,.slice p.a p.zs.length p.c] 143)).heap[w2.heap.size]?=OC #[JI p.n,.slice p.a p.zs.length p.c] 143:=bZ;have hg:ag af w2 (w2.alloc (.cells #[JI p.n,.slice p.a p.zs.length p.c] 143)):=bu;refine i9;have hC3:=ae hg hC2 id;have hps:=λW (hb:aC w2 W)=>SA (w:=W) (A:=p.a) (cap:=p.c) rfl HPZ.out.2.2 HPZ.out.2.1 (kU (aX hz2 hb)) (Ec hz2)
  refine qf;have HG:=OH hg;have HB:=OH hg.none;generalize w2.alloc _=u2 at *;generalize w2.heap.size=V at *;refine qu;obtain⟨cC,fC,zC⟩:=ab hC3;refine ay;refine(HPS.out _ HB.out).mono ?_;rintro r w3 ⟨rid,q,e,A',cap',rfl,hpf,hss,hb3⟩;obtain⟨bid,brg,bss,bsz,bkd⟩:=mH HPZ.out.2.1 hpf;have hc3:ag af u2 w3:=.of hb3;have hV3:=ae hc3 hV id;have hC4:=ae hc3 hC3 id;have hR:(w3.alloc (.cells (fq q A' cap') 50)).heap[w3.heap.size]?=OC (fq q A' cap') 50:=bZ;have hc4:ag af w3 (w3.alloc (.cells (fq q A' cap') 50)):=bu;refine mA;have hV4:=ae hc4 hV3 id;have hC5:=ae hc4 hC4 id;have hG4:=(HG.out.trans hc3).trans hc4;have H4:=H2.out.apt hG4 gx;have hF4:=aF HF2.out (aY hG4);have hz4:=aW (ah hss hc4 cy) (Xb4 HF2.out.size HG.out.size);have hss0:=Xb4 HF2.out.size (Xb4 HG.out.size (Xb4 hc3.size hc4.size));generalize w3.alloc _=u4 at *;generalize w3.heap.size=R at *;have HQ:=OH H4;have HF:=OH hF4;have HZ:=OH hz4;by_cases he:e=0
  .subst he
   obtain⟨a,dn,is,hf⟩:∃a dn is,Dd.PL s.L rid=(a,dn,is):=⟨_,_,_,rfl⟩
   have has:=SN.out.an rid;rw[hf]at has;have hfd:=Dd.find_t _ _ _ _ _ _ _ rid HQ.out.seen bid.1 oM a dn is hf;have HFD:=OH hfd;obtain⟨cV,fV,zV⟩:=ab hV4;obtain⟨cC,fC,zC⟩:=ab hC5;refine ay;refine HFD.out.mono ?_;rintro r w5 ⟨rfl,hb5⟩;have hc5:ag af u4 w5:=.of hb5;have H5:=OH (HQ.out.apt hc5 gx);have hV5:=ae hc5 hV4 id;have hR5:=ae hc5 hR id;have hC6:=ae hc5 hC5 id;have HF5:=OH (aF HF.out (aY hc5));have HZ5:=OH (ah HZ.out hc5 cy);have HF0:=OH hf;obtain⟨cV,fV,zV⟩:=ab hV5;obtain⟨cC,fC,zC⟩:=ab hC6;cases is with
   |true=>
    obtain⟨vp5,vt5,vs5,A5,cap5,BD5,c51,c52,c53⟩:=H5.out.c;obtain⟨cC,fC,zC⟩:=ab c51;have hag:=TY p.n rid c51 c53 H5.out.seen bid (by have:=OK.out.ps;dsimp only;omega) HF0.out oM;have HAG:=OH hag;refine ay;refine HAG.out.mono ?_;rintro r w6 ⟨v6,ps',rs,rfl,hrl,hpp,hwt,hro,hc6⟩;refine df;have hpl:ps'.length=s.ps.length:=by simpa using congrArg List.length hpp
    have hcf:ag (Fr [(153,X.b,0),(263,X.b,0),(265,X.b,0),(3,X.b,0)] [] w5) w5 w6:=hc6.mono λj _ q=>q.imp id λ⟨a,ha,hle,hz,cur,k⟩=>by simp only[Xb3,Xb1,or_false]at ha;rcases ha with rfl|rfl<;>exact⟨(_,X.b,0),sM,by have:=hlo.1;dsimp only at *;omega,.inl rfl,cur,k⟩
    have HW:=H5.out.wait (ps':=ps') ⟨vp5,vt5,vs5,A5,cap5,BD5,by rw[hpl];exact bJ hc6 c51 rM,c52.chg hc6 eR eR eR eR,by rw[hpl];exact hwt⟩ hcf;have hzz:=Xb4 hss0 hc5.size;exact⟨_,_,[],rs,M,_,rfl,Xb6 _ _ _ _,sM,aW hro hzz,λ_=>id,λ_=> .inl,HW.mono2,aF (uc HF5.out rM sM) (QB hcf),.seen hi hpf HF0.out hpp hrl⟩
   |false=>
    obtain⟨L1,c,hs⟩:∃L1 c,Dd.wQ s.L X.win rid=(L1,c):=⟨_,_,rfl⟩
    have hst:=Dd.start_t _ _ _ _ _ _ _ rid H5.out.seen SN.out.ok bid.1 oM oM SN.out.win.1 SN.out.win.2 L1 c hs;refine qg;refine EK;rintro r w6 ⟨rfl,hT6,hmv⟩;have hc6:=BM H5.out.seen hmv;have H6:=OH (H5.out.see hT6 hc6);have hV6:=bJ hc6 hV5 rM;have hR6:=bJ hc6 hR5 rM;have hC7:=bJ hc6 hC6 rM;have HF6:=OH (aF (uc HF5.out rM sM) (NV hlo.1.2 hc6));have HZ6:=OH (ah HZ5.out hc6 eR);have hss6:=Xb4 hss0 (Xb4 hc5.size hc6.size);refine jM;obtain⟨cV,fV,zV⟩:=ab hV6;obtain⟨cR,fR,zR⟩:=ab hR6;obtain⟨cC,fC,zC⟩:=ab hC7;by_cases hc:c=0
    .subst hc
     have hok:QK X {s with inq:=rest,L:=L1}:=⟨OK.out.fit,OK.out.sw,OK.out.l64,OK.out.tn,OK.out.lv,OK.out.ev,OK.out.ep,OK.out.ps,OK.out.kp⟩
     have hdo:=do2_t H6.out hok (rq_own HZ6.out bss bsz) (HDO.out p rest rid q L1 hi hpf);have HD2:=OH hdo;refine ay;refine HD2.out.mono ?_;rintro r w7 ⟨ep,err,M',s',rfl,hM1,hM2,h7,hc7,hcase⟩;have hV7:=bJ hc7 hV6 rM;have hR7:=bJ hc7 hR6 rM;have H7:=OH h7;have HF7:=OH (aF HF6.out (do_fr hc7));have HZ7:=OH (ah HZ6.out hc7 eR);have hss7:=Xb4 hss6 hc7.size;have hM3:∀j,M' j->M j\/w.heap.size<=j:=λj q=>(hM2 j q).imp id λq=>Xb4 hss6 q
     have herr:0<=err/\err<2 ^ 63:=by
      rcases hcase with⟨_,_,k⟩|⟨k,_⟩
      .exact k.2.2
      .subst k
       omega
     have HCS:=OH hcase;have HM3:=OH hM3;have HM1:=OH hM1;obtain⟨cV,fV,zV⟩:=ab hV7;obtain⟨cR,fR,zR⟩:=ab hR7;obtain⟨D,hD⟩:∃D:yK,D=⟨p.n,rid,q,err,A',cap'⟩:=⟨_,rfl⟩
     go_upto_region 16 with fail;have hDc:(w7.alloc (.cells #[JI p.n,JU rid,JI q.kind,JI q.who,JI q.room,JI q.rights,JI q.track,.slice A' q.ss.length cap',JI q.layer,JI q.tid,JI err] 179)).heap[w7.heap.size]?=OC (neC D).toArray 179:=by subst hD;exact bZ
     have hc8:ag af w7 (w7.alloc (.cells #[JI p.n,JU rid,JI q.kind,JI q.who,JI q.room,JI q.rights,JI q.track,.slice A' q.ss.length cap',JI q.layer,JI q.tid,JI err] 179)):=bu;have hV8:=ae hc8 hV7 id;have H8:=OH (H7.out.apt hc8 gx);have HF8:=OH (aF HF7.out (aY hc8));have HZ8:=OH (ah HZ7.out hc8 cy);have HDN:=OH (OG (B:=w.heap.size) hDc hss7);have HC8:=OH hc8;generalize w7.alloc _=u8 at *;generalize hDz:w7.heap.size=DB at *;obtain⟨cV,fV,zV⟩:=ab hV8;by_cases hep:ep=0
     .subst hep
      go_upto_region 17 with fail;have hzr:(u8.alloc (.cells #[JI p.n] 3)).ownsRow 0 3 1 (.slice (aT u8.heap.size) [p.n].length 1) [p.n].length ([p.n].map (Xb9 .i64)):=⟨rfl,.inr ⟨_,1,_,rfl,Nat.zero_le _,bZ,sM,lM,rfl,rfl⟩⟩
      have hc9:ag af u8 (u8.alloc (.cells #[JI p.n] 3)):=bu;have h9:=H8.out.apt hc9 gx;obtain⟨vp9,vt9,vs9,A9,cap9,BD9,c91,c92,c93⟩:=h9.c;have han:=wu c91 h9.seen oM rid err bid herr hzr sM;have HAN:=OH han;have H9:=OH h9;refine ay;refine HAN.out.mono ?_;rintro r w10 ⟨v10,ans,rfl,has10,hro,hT,hc10⟩;have HF10:=aF (aF HF8.out (aY hc9)) (NV hlo.1.2 hc10);have HZ10:=ah (ah HZ8.out hc9 cy) hc10 eR;have HN10:=ah (ah HDN.out hc9 cy) hc10 eR;have hro':w10.ownsRow w.heap.size 255 3 v10 [(p.n,rid,err)].length ([(p.n,rid,err)].flatMap Cj):=aW hro (by have:=HC8.out.size;have:=hc9.size;omega);have H10:=H9.out.see hT hc10;have K:=OH (Xb8 HF10 (Xb8 HZ10 (Xb8 HN10 (Xb8 hro' H10))));refine df;obtain⟨HF10,HZ10,HN10,hro',H10⟩:=K.out;rcases HCS.out with⟨_,rfl,hn⟩|⟨rfl,hd⟩
      .exact⟨_,_,[D],[(p.n,rid,err)],M',_,rfl,HN10,(λx q=>Uf),hro',HM1.out,HM3.out,H10,HF10,.no hi hpf HF0.out HS.out hn has10 KH⟩
      .rcases hd with⟨hd1,⟨hd2,hd3,rfl⟩|⟨hd2,hd3,_⟩⟩
       .exact⟨_,_,[D],[(p.n,rid,0)],M',_,rfl,HN10,(λx q=>Uf),hro',HM1.out,HM3.out,H10,HF10,.yes hi hpf HF0.out HS.out ⟨hd1,.inl ⟨hd2,rfl,rfl⟩⟩ has10 KH⟩
       .have:=OK.out.ep
        dsimp only at hd3;omega
     .rcases HCS.out with⟨q,_⟩|⟨rfl,hd⟩
      .exact absurd q hep
      have f1:(ep==0)=false:=by simpa using hep
      have HE:=OH hep;have HDP:=OH hd;obtain⟨vp8,vt8,vs8,A8,cap8,BD8,c81,c82,c83⟩:=H8.out.c;obtain⟨i0,hi0,hz0,hz1,hz2⟩:=aI Tf;have hq8:=c83.q;have hpl:s'.ps.length<=900:=by have:=OK.out.ps;rcases HDP.out with⟨_,⟨_,_,rfl⟩|⟨_,_,l1,live1,ever1,se1,se2,wt2,T,_,_,_,_,_,rfl⟩⟩<;>exact this
      have hB8:X.B<=u8.heap.size:=H8.out.st.2.2.2.2.1;obtain⟨cC,fC,zC⟩:=ab c81;have hx12:(((u8.drew.alloc (.cells #[JI p.n] 3)).alloc (.cells #[JU rid,JU ep,.slice (aT u8.heap.size) 1 1] 265)).alloc (.cells #[OV (u8.heap.size+1)] 263)).heap[u8.heap.size+1+1]?=OC #[OV (u8.heap.size+1)] 263:=bZ;refine ay;refine rg 16 (λw'=>Bk w' V #[JI p.n,.slice p.a p.zs.length p.c] 143/\Bk w' X.C (iP X.G vp8 vt8 vs8 (s'.t.map λt=>⟨t.at',0,none⟩) s'.ever (.slice A8 s'.ps.length cap8)) 153) ⟨bk,bk⟩ (λhH=>?_);refine iU;refine kB
      skip
      refine iT;refine E0
      skip
      refine iT;refine on 12 λK hK=>?_
      go_simp
      skip
      refine iT;refine on 13 λK hK=>?_
      refine eS rfl (.tmp 95) (.tmp 103) 151 rfl X.B 263 i0 (.pointer none) 8 underlying151 hi0 hz0 hz1 hz2 rfl _ _ rM (((hq8.drew.alloc (.cells #[JI p.n] 3)).alloc (.cells #[JU rid,JU ep,.slice (aT u8.heap.size) 1 1] 265)).alloc (.cells #[OV (u8.heap.size+1)] 263)) ⟨u8.heap.size+1+1,0,none⟩ 1 (OV (u8.heap.size+1)) rM ((ab hx12).1 0) rfl Id Ck (by simp only[aD,bE];omega) ?_;intro v11 w11 hq11 hg11 ho11;obtain⟨A11,c11,hv11⟩:=hq11.slice;rw[Xa1,Xb2,Xa7]at hv11;subst hv11;have hG11:=ag.grown (S:=λi=>(Xc0 A8 s'.ps.length cap8).ownBlock=some i) (ag.alloc (ag.alloc (ag.alloc (ag.drew (ag.refl _ u8)) (.cells #[JI p.n] 3)) (.cells #[JU rid,JU ep,.slice (aT u8.heap.size) 1 1] 265)) (.cells #[OV (u8.heap.size+1)] 263)) hg11 (λk hk _=>hk);refine hK.out _ _ ⟨bk (ae hG11 hV8 (hq8.ne hV8 dM)),bk (ae hG11 c81 (hq8.ne c81 dM))⟩ (λhH=>?_);refine bV;refine tk 14 ?_;refine tk 15 ?_;refine je;have hcu:ag af u8 ((((u8.alloc (.cells #[JI p.n] 3)).alloc (.cells #[JU rid,JU ep,.slice (aT u8.heap.size) 1 1] 265)).alloc (.cells #[OV (u8.heap.size+1)] 263)).drew):=bu;have hpd:((((u8.alloc (.cells #[JI p.n] 3)).alloc (.cells #[JU rid,JU ep,.slice (aT u8.heap.size) 1 1] 265)).alloc (.cells #[OV (u8.heap.size+1)] 263)).drew).heap[u8.heap.size+1]?=OC #[JU rid,JU ep,.slice (aT u8.heap.size) 1 1] 265:=bZ;have hpc:((((u8.alloc (.cells #[JI p.n] 3)).alloc (.cells #[JU rid,JU ep,.slice (aT u8.heap.size) 1 1] 265)).alloc (.cells #[OV (u8.heap.size+1)] 263)).drew).heap[u8.heap.size]?=OC #[JI p.n] 3:=bZ;generalize ((((u8.alloc (.cells #[JI p.n] 3)).alloc (.cells #[JU rid,JU ep,.slice (aT u8.heap.size) 1 1] 265)).alloc (.cells #[OV (u8.heap.size+1)] 263)).drew)=w3x at *;obtain⟨pd,hpe⟩:∃pd:Pd,pd=⟨u8.heap.size+1,rid,ep,.slice (aT u8.heap.size) 1 1,[p.n]⟩:=⟨_,rfl⟩
      have hsn:=(c83.chg hcu cy cy cy).snoc (pd:=pd) (by
       subst hpe;exact⟨gY,hpd,⟨rfl,.inr ⟨_,1,_,rfl,hB8,hpc,sM,lM,rfl,rfl⟩⟩,sM,sM,bid⟩) (λx hx q=>by
       have:=aB (c83.p x hx).2.1;rw[q,hpe]at this;dsimp only at this;omega) (λx hx g hg q=>by
       subst hpe;obtain⟨cur,hq⟩:=bG (c83.p x hx).2.2.1 hg;have:=aB hq;simp only[Value.ownBlock,Option.some.injEq]at q;omega) (by subst hpe;exact hq11) hg11
      have hC11:=ae hG11 c81 (hq8.ne c81 dM);generalize hu12:Xb7 w11 _ _=u12;have hs12:ag (λj=>j=X.C) w11 u12:=by rw[←hu12];exact ag.set (S:=λj=>j=X.C) dp ⟨X.C,23,none⟩ (.inl rfl) _
      have hC12:u12.heap[X.C]?=OC (iP X.G vp8 vt8 vs8 (s'.t.map λt=>⟨t.at',0,none⟩) s'.ever (.slice A11 (s'.ps.length+1) c11)) 153:=by obtain⟨cC,fC,zC⟩:=ab hC11;rw[←hu12];exact bZ
      have hcf:ag (Fr [(153,X.b,0),(263,X.b,0),(265,X.b,0),(3,X.b,0)] [] u8) u8 u12:=aF (hG11.mono λj _ q=>by obtain⟨_,_,cur,hb⟩:=hq8.block q;exact eN (B:=X.b) hb sM (by have:=hlo.1;omega)) (tF hs12 hC11 sM hlo.1.1)
      have hw12:=hsn.chg hs12 (λj cur q hb=>KG) (λj cur q hb=>KG) (λj cur q hb=>KG);have H12:=H8.out.wait (ps':=s'.ps++ [pd]) ⟨vp8,vt8,vs8,A11,c11,BD8,by rw[Xa1];exact hC12,c82.chg hcf eR eR eR eR,by rw[Xa1];exact hw12⟩ hcf;have HF12:=aF HF8.out (QB hcf);have HZ12:=ah HZ8.out hcf eR;have HN12:=ah HDN.out hcf eR;have HD12:=HDP.out.mono λx q=>q.keep hss6 (aF (aY HC8.out) hcf) rM
      have K:=OH (Xb8 HF12 (Xb8 HZ12 (Xb8 HN12 (Xb8 HD12 H12))));refine df;obtain⟨HF12,HZ12,HN12,HD12,H12⟩:=K.out;exact⟨_,_,[D],[],M',{s' with ps:=s'.ps++ [pd] },rfl,HN12,(λx q=>by rw[Xa3.1 q,hD];exact HZ12),Xb6 _ _ _ _,HM1.out,HM3.out,H12.mono1 oM,HF12,.wait hi hpf HF0.out HS.out HD12 HE.out KH (by subst hpe;exact⟨rfl,rfl,rfl⟩)⟩
    .have f1:(c !=0)=true:=by simpa using hc
     refine nE;refine Yi
     skip
     refine sA;refine je;refine df;have hb:ag af w6 (w6.drew.alloc (.cells (Cj (p.n,rid,20)).toArray 255)):=bu;exact⟨_,_,[],[(p.n,rid,20)],M,_,rfl,Xb6 _ _ _ _,sM,aW (rn (x:=(p.n,rid,20)) eM fo) hss6,λ_=>id,λ_=> .inl,(H6.out.apt hb gx).mono1 oM,aF HF6.out (aY hb),.full hi hpf HF0.out HS.out HC.out⟩
  .have f1:(e !=0)=true:=by simpa using he
   have HE:=OH he;obtain⟨cV,fV,zV⟩:=ab hV4;refine Yi
   skip
   refine sA;refine je;refine df;have hb:ag af u4 (u4.drew.alloc (.cells (Cj (p.n,0,e)).toArray 255)):=bu;exact⟨_,_,[],[(p.n,0,e)],M,_,rfl,Xb6 _ _ _ _,sM,aW (rn (x:=(p.n,0,e)) eM fo) hss0,λ_=>id,λ_=> .inl,(HQ.out.apt hb gx).mono2,uc (aF HF.out (aY hb)) rM sM,.bad hi hpf HE.out⟩
end
section
variable {w w' u:World}{X:Cx}{M:Nat->Prop}{m:Nat}{s:Cs}
theorem JD(h:bh w X M m s):az 89 #[OV X.C] w λe w'=>e=aA (nA s.t)/\w=w':=by refine sr;refine(P8 c1).mono ?_;rintro e w' ⟨rfl,rfl⟩;exact⟨by cases s.t<;>rfl,rfl⟩
theorem BQ(h:bh w X M m s):az 35 #[OV X.C] w λe w'=>e=aA (.tuple #[JI s.inq.length,JI s.ps.length])/\aC w w':=by refine sr;refine fK;refine(DV c1 hq).mono ?_;exact Vo
theorem BT(h:bh w X M m s):az 81 #[OV X.C] w λe w'=>e=aA (.bool ((s.inq.length==0)&& (s.ps.length==0)))/\w=w':=by refine sr;refine fK;refine(idle_t c1 hq).mono ?_;exact Vo
theorem JF(h:bh w X M m s)(h1:s.d.people.length<=1000)(h2:s.d.tracks.length<=1000)(h3:s.d.subs.length<=1000)(h4:∀t∈s.d.tracks,t.ssrcs.length<=1000) :
  az 23 #[OV X.C] w λe w'=>∃vp' vt' vs',e=aA (.agg (gi X.G.cf vp' vt' vs'))/\bK w' w.heap.size vp' vt' vs' s.d/\aC w w':=by
 refine sr;exact RM c1 c2 h1 h2 h3 h4
theorem Qj(h:bh w X M m s)(hs:dV w A zs.length cap (zs.map (Xb9 .u8)))(hzl:zs.length<=1000000)(hb:aG zs)(hl:s.inq.length<=X.li) :
  az 40 #[OV X.C,JI k,.slice A zs.length cap] w λe w'=>ag (Fr [(235,X.b,0),(143,X.b,0)] [] w) w w' /\
   ((s.inq.length<X.li/\e=aA (.bool true)/\∃c:Ca,c.n=k/\c.zs=zs/\bh w' X M m {s with inq:=s.inq++ [c] })\/(s.inq.length=X.li/\e=aA (.bool false)/\bh w' X M m s)):=by
 refine KO;refine fK;refine(TN (k:=k) c1 hq hs hzl h.lo.2.1).mono ?_;rintro e w' ⟨h1,h2,hc⟩;rw[Xb2]at h1 h2;refine⟨hc,?_⟩;by_cases hlt:s.inq.length<X.li
 .obtain⟨rfl,A',c',cur',hq',ho⟩:=h1 hlt
  refine .inl ⟨hlt,rfl,⟨k,A',c',zs⟩,rfl,rfl,?_⟩;exact⟨h.pc (ms:=λ_=>False) hc gm,⟨a,cur',by rw[Xa2];exact hq'⟩,λx q=>by
   rcases Xa0.1 q with q|q
   .exact h.pca (ms:=λ_=>False) hc gm x q
   .refine iH
    exact⟨aW ho kn,hb,hzl⟩,h.psn hc gm,h.pse hc gm,h.pa (ms:=λ_=>False) hc gm,h.pp (ms:=λ_=>False) hc gm,h.pb (ms:=λ_=>False) hc gm yR,h.pt hc gm,h.ptt hc gm,h.pmm hc gm,h.nm,h.pst hc rfl,h.lo⟩
 .have he:s.inq.length=X.li:=oM
  obtain⟨rfl,hb'⟩:=h2 he;exact .inr ⟨he,rfl,h.below hb'⟩
abbrev swT(b:Nat):List (TypeId×Nat×Nat):=[(128,b,0),(346,b,0),(124,b,0),(352,b,0)]
theorem JE(h:bh w X M m s)(h64:s.wt.length<=64)(hl:s.l.length<=64)(hv:0<=s.live/\s.live<=64) :
  az 67 #[OV X.C] w λe w'=>(∃c,e=aA (JI c))/\bh w' X M m {s with wt:=s.wt.filter (λx=>!decide (x.epoch<=jL s.ws)),l:=(eb (s.l,s.live) (dw s.wt (jL s.ws))).1,live:=(eb (s.l,s.live) (dw s.wt (jL s.ws))).2}/\ag (Fr (swT X.b) [] w) w w':=by
 refine KO;have hst:=h.st;refine(P9 c1 h.p oM h64 h.a hl hv h.lo.2.2.1).mono ?_;rintro e w' ⟨he,hp,ha,hc⟩;exact⟨he,⟨h.pc (ms:=λ_=>False) hc gm,h.pq (ms:=λ_=>False) hc gm,h.pca (ms:=λ_=>False) hc gm,h.psn hc gm,h.pse hc gm,ha,hp,h.pb (ms:=λ_=>False) hc gm yR,h.pt hc gm,h.ptt hc gm,h.pmm hc gm,h.nm,h.pst hc rfl,h.lo⟩,hc⟩
abbrev coT(b:Nat):List (TypeId×Nat×Nat):=[(229,b,0),(132,b,0),(47,b,0),(238,b,0),(153,b,0)]
def Coll2E(w:World)(X:Cx)(M:Nat->Prop)(m:Nat)(s:Cs)(e:Ending)(w':World):Prop:=∃v dn rest L1,e=aA v/\dn++rest=s.ps/\(∀p∈dn,p.epoch<=kQ (bB (s.acks,s.last)).2)/\(∀p:Pd,rest.head?=some p->¬p.epoch<=kQ (bB (s.acks,s.last)).2)/\jG s.L (dn.map Pd.id) L1 /\
 w'.ownsRow w.heap.size 255 3 v (dF dn).length ((dF dn).flatMap Cj)/\bh w' X M (m+dn.length) {s with acks:=(bB (s.acks,s.last)).1,last:=(bB (s.acks,s.last)).2,ps:=rest,L:=L1}/\ag (Fr (coT X.b) [X.DM] w) w w'
theorem BW(h:bh w X M m s)(ha:∀x∈s.acks,0<=x.1/\x.1.toNat<X.n)(hk:m+s.ps.length<=900000)(hpl:s.ps.length<=1000) :
  az 66 #[OV X.C] w (Coll2E w X M m s):=by
 refine KO;refine(DZ c1 c3 h.b ha h.seen hk hpl h.st.2.2.2.1).mono ?_;rintro e w' ⟨v,dn,rest,A,cap,L1,rfl,r,hh,ho⟩;have hc:ag (Fr (coT X.b) [X.DM] w) w w':=r.g.mono λj _ q=>q.imp id λ⟨p,hp,hle,_,cur,k⟩=>by refine qF;have hlo:=h.lo;have hbb:=h.b.b;rcases hp with rfl|rfl|rfl|rfl|rfl|rfl<;>exact⟨(_,X.b,0),sM,Ki,.inl rfl,cur,k⟩
 exact⟨v,dn,rest,L1,rfl,r.l,r.d,hh,r.e,ho,⟨⟨vp,vt,vs,A,cap,BD,r.c,c2.chg hc eR eR eR eR,r.ws⟩,h.pq (ms:=λ_=>False) hc gm,h.pca (ms:=λ_=>False) hc gm,r.t,h.pse hc (eF.fr rM (by simp[h.nm.2.2.symm])),h.pa (ms:=λ_=>False) hc gm,h.pp (ms:=λ_=>False) hc gm,r.b,h.pt hc Ib,h.ptt hc Ib,h.pmm hc Ib,h.nm,h.pst hc rfl,h.lo⟩,hc⟩
end
structure Ev where
 k:Int
 n:Int
 sh:Int
 id:Int
 e:Int
 q:Rq
 qa:Option Addr
 qc:Nat
 ep:Int
 o:Ou
 ba:Option Addr
 bc:Nat
 bz:List Int
abbrev Hf(v:Ev):Array Value:=#[JI v.k,JI v.n,JI v.sh,JU v.id,JI v.e,JI v.q.kind,JI v.q.who,JI v.q.room,JI v.q.rights,JI v.q.track,.slice v.qa v.q.ss.length v.qc,JI v.q.layer,JI v.q.tid,JU v.ep,JI v.o.k,JI v.o.n,JI v.o.tr,JT v.o.s,.slice v.o.a v.o.zs.length v.o.c,JI v.o.ar,JU v.o.ep,JI v.o.sl,JT v.o.tn,.slice v.ba v.bz.length v.bc]
abbrev yI(v:Ev):List Value:=(Hf v).toList
theorem ya(v:Ev):(yI v).length=24:=rfl
def pm(w:World)(v:Ev):Prop:=(w.ownsRow 0 52 1 (.slice v.qa v.q.ss.length v.qc) v.q.ss.length (iJ v.q.ss)/\v.q.ss.length<=255)/\(BR w 0 (.slice v.o.a v.o.zs.length v.o.c) v.o.zs/\aG v.o.zs/\v.o.zs.length<=1000000)/\BR w 0 (.slice v.ba v.bz.length v.bc) v.bz/\aG v.bz/\v.bz.length<=1000000
structure Yx where
 W:Nat
 C:Nat
 ing:Int
 cmds:Int
 slots:Int
 vw:Value
 vu:Value
 b:Nat
 w0:World
 kp:Nat->Array Value->Prop
abbrev IG(G:Kx)(Y:Yx)(ve:Value):Array Value:=#[JI G.n,JI G.intake,JI G.window,JI G.keep,JI G.cf.people,JI G.cf.tracks,JI G.cf.subs,JI G.cf.slots,JI Y.ing,JI Y.cmds,JI Y.slots,OV G.A,OV G.P,OV G.B,OV Y.C,Y.vw,Y.vu,ve]
theorem z70:((.agg #[JI 0,JI 0,JI 0,JU 0,JI 0,JI 0,JI 0,JI 0,JI 0,JI 0,.slice none 0 0,JI 0,JI 0,JU 0,JI 0,JI 0,JI 0,JT 0,.slice none 0 0,JI 0,JU 0,JI 0,JT 0,.slice none 0 0]):Value).cells.size=24:=kM
theorem He(v:Ev):∀u∈yI v,u.oneCell'=true:=by simp[Value.oneCell']
section
variable {w w' u:World}{G:Kx}{Y:Yx}{ve:Value}{B:Nat}
theorem pm.chg{v:Ev}(h:pm w v)(hc:ag S w w')(h1:gk S 52 w)(h2:gk S 5 w):pm w' v:=
 ⟨⟨ah h.1.1 hc h1,h.1.2⟩,⟨h.2.1.1.chg hc h2,h.2.1.2⟩,h.2.2.1.chg hc h2,h.2.2.2⟩
theorem ld_row{ops:Array Oper}{S:World->Prop}{op:Oper}{a:Act}{E:Nat}{cs:Array Value}{ty t:TypeId}{d:TypeDesc}(x:Operand)(hS:∀w,S w->w.heap[E]?=OC cs t)(hgd:op.guard=none:=by rfl)(ho:op.op=.load ty x:=by rfl)(hx:a.eval x=OV E:=by rfl)(hd:(match d with|.struct _|.array _ _=>true|_=>false)=true:=by rfl)(hu:prog.underlying ty=some d)(hi:(prog.info? ty).map (·.size)=some cs.size:=by kernel_rfl):YieldsIf prog ops S op (.agg cs) a:=
 .inl ⟨by simp[Region.wanted,hgd],λw hw'=>by unfold execOp;simp only[ho,hx,Instr.loadAt,Instr.sureAddr,Sem.run_bind,Sem.run_pure,Result.andThen_ok,run_loadVar_row w E t ty cs (0,0) d (hS w hw') hu (by revert hd;cases d<;>intro hd<;>first|rfl|cases hd) hi]⟩
theorem shas_t(hW:w.heap[Y.W]?=OC (IG G {Y with vw:=.slice A n cap} ve) 87):az 49 #[OV Y.W,JI k] w λe w'=>e=aA (.bool (decide (0<=k)&&decide (k<n)))/\w'=w:=by
 refine eP;by_cases h0:0<=k
 .have f0:decide (k ≥ 0)=true:=by simpa using h0
  have f1:decide (0<=k)=true:=by simpa using h0
  exact VR
 .have f0:decide (k ≥ 0)=false:=by simpa using h0
  have f1:decide (0<=k)=false:=by simpa using h0
  exact VR
theorem Jf{evs:List Ev}{v:Ev}(hW:w.heap[Y.W]?=OC (IG G Y ve) 87)(he:w.ownsRow B 70 24 ve evs.length (evs.flatMap yI))(hl:evs.length<=1000000)(hB:B<=w.heap.size)(hBW:B<=Y.W) :
  az 39 #[OV Y.W,.agg (Hf v)] w λe w'=>∃ve',e=aA (JI evs.length)/\w'.heap[Y.W]?=OC (IG G Y ve') 87/\w'.ownsRow B 70 24 ve' (evs++ [v]).length ((evs++ [v]).flatMap yI)/\ag (Fr [(87,B,0),(70,B,0)] [] w) w w':=by
 obtain⟨i0,hi0,hz0,hz1,hz2⟩:=aI Pq;refine eP;obtain⟨A0,c0,hv0⟩:=aj he;subst hv0;have HE:=OH he;go_enter func39,ntmps39;refine ay;refine kx;have hE:(w.alloc (.cells (Hf v) 70)).heap[w.heap.size]?=OC (Hf v) 70:=bZ;have hc1:ag af w (w.alloc (.cells (Hf v) 70)):=bu;have hW1:=ae hc1 hW id;have hnE:(Xc0 A0 evs.length c0).ownBlock≠some w.heap.size:=λq=>by obtain⟨cur,k⟩:=bG HE.out q;have:=aB k;omega
 have hnW:(Xc0 A0 evs.length c0).ownBlock≠some Y.W:=λq=>by obtain⟨cur,k⟩:=bG HE.out q;exact au k dM hW
 have HE1:=OH (dz (o:=.cells (Hf v) 70) HE.out);have hz1':=hc1.size;generalize w.alloc _=u1 at *;generalize w.heap.size=E at *;refine rg 10 (λw'=>Bk w' Y.W (IG G Y (.slice A0 evs.length c0)) 87/\Bk w' E (Hf v) 70) ⟨bk,bk⟩ (λhH=>?_);refine Ce;refine tk 5 (hy:=ld_row (cs:=Hf v) (.tmp 3) (λ_ h=>h.2.1) (hu:=underlying70)) ?_;refine on 6 λK hK=>?_
 go_simp
 skip
 refine iT;refine on 7 λK hK=>?_
 refine step_append_lies _ rM _ _ _ rM B 70 i0 _ 24 240 underlying44 hi0 hz0 hz1 hz2 z70 oM _ _ _ rM (dz (o:=.cells (Hf v) 70) HE1.out.drew) ⟨u1.heap.size,0,none⟩ 1 1 (yI v) rM rM (World.news_of_block (cs:=Hf v) (t:=70) (fr:=(0,0)) bZ) (He v) oM lM oM (by simp only[aD,bE];omega) _ rfl ?_;intro gg cap2 w3 hown3 hgrow hat hlt3;have hG3:=ag.grown (S:=λi=>(Xc0 A0 evs.length c0).ownBlock=some i) (ag.alloc (ag.drew (ag.refl _ u1)) (.cells (Hf v) 70)) hgrow (λk hk _=>hk);refine hK.out _ _ ⟨bk (ae hG3 hW1 hnW),bk (ae hG3 hE hnE)⟩ (λhH=>?_);refine bV;refine tk 8 ?_;refine gN;refine je;have hW3:=ae hG3 hW1 hnW;generalize hu3:Xb7 w3 _ _=u3;have hs3:ag (λj=>j=Y.W) w3 u3:=by rw[←hu3];exact ag.set (S:=λj=>j=Y.W) dp ⟨Y.W,17,none⟩ (.inl rfl) _
 have hW4:u3.heap[Y.W]?=OC (IG G Y (.slice (aT gg) (evs.length+1) cap2)) 87:=by refine qw;rw[←hu3];exact bZ
 have hown4:=ah hown3 hs3 (λj cur q hb=>by subst q;rw[hW3]at hb;simp at hb);have hcf:ag (Fr [(87,B,0),(70,B,0)] [] w) w u3:=aF (aY hc1) (aF (hG3.mono λj _ q=>by obtain⟨cur,hq⟩:=bG HE1.out q;exact eN hq sM (eV HE1.out _ q)) (tF hs3 hW3 sM hBW))
 have hown5:u3.ownsRow B 70 24 (.slice (aT gg) (evs.length+1) cap2) (evs++ [v]).length ((evs++ [v]).flatMap yI):=by have hev:evs.flatMap yI++yI v=(evs++ [v]).flatMap yI:=sM;rw[←hev,Xa1,Xa7];exact hown4
 have HO:=OH hown5;obtain⟨cW,fW,zW⟩:=ab hW4;refine bj;exact⟨_,eT,hW4,HO.out,hcf⟩
end
def lc(w:World)(G:Kx)(Y:Yx)(evs:List Ev):Prop:=∃ve,w.heap[Y.W]?=OC (IG G Y ve) 87/\w.ownsRow Y.b 70 24 ve evs.length (evs.flatMap yI)/\(∀v∈evs,pm w v)/\Y.b<=Y.W
abbrev evT(b:Nat):List (TypeId×Nat×Nat):=[(87,b,0),(70,b,0)]
abbrev rq0:Rq:=⟨0,0,0,0,0,[],0,0⟩
abbrev jK(x:Int×Int×Int):Ev:=⟨2,x.1,0,x.2.1,x.2.2,rq0,none,0,0,oh,none,0,[]⟩
section
variable {w w' u:World}{G:Kx}{Y:Yx}{evs:List Ev}{v:Ev}
theorem lc.chg{ms:Nat->Prop}(h:lc w G Y evs)(hc:ag S w w')(hS:eF [87,70,52,5] ms w S):lc w' G Y evs:=by obtain⟨ve,h1,h2,h3⟩:=h;exact⟨ve,ae hc h1 (hS.not h1),ah h2 hc hS.off,λv hv=>(h3.1 v hv).chg hc hS.off hS.off,h3.2⟩
theorem lc.none(h:lc w G Y evs)(hc:ag af w w'):lc w' G Y evs:=h.chg (ms:=λ_=>False) hc gx
theorem eL(h:lc w G Y evs)(hv:pm w v)(hl:evs.length<=1000000) :
  az 39 #[OV Y.W,.agg (Hf v)] w λe w'=>e=aA (JI evs.length)/\lc w' G Y (evs++ [v])/\ag (Fr (evT Y.b) [] w) w w':=by
 obtain⟨ve,h1,h2,h3⟩:=h;refine(Jf (v:=v) h1 h2 hl (by have:=h3.2;have:=aB h1;omega) h3.2).mono ?_;rintro e w' ⟨ve',rfl,k1,k2,hc⟩;refine⟨rfl,⟨ve',k1,k2,λx hx=>?_,h3.2⟩,hc⟩;refine EH
 .exact(h3.1 x q).chg hc eR eR
 .refine iH
  exact hv.chg hc eR eR
theorem R8(x:Int×Int×Int):pm w (jK x):=⟨Ic,wI,eq _ _,pB,sM⟩
theorem vO{rv:Value}(h:lc w G Y evs)(hr:w.ownsRow B 255 3 rv rs.length (rs.flatMap Cj))(hl:evs.length+rs.length<=1000000) :
  az 65 #[OV Y.W,rv] w λe w'=>e=aA (.tuple #[])/\lc w' G Y (evs++rs.map jK)/\ag (Fr (evT Y.b) [] w) w w':=by
 obtain⟨A,cap,rfl⟩:=aj hr;refine ml;have HE:=OH h;go_enter func65,ntmps65;refine ay;go_loopw [5,8] (λ_ i wr=>∃k:Nat,k<=rs.length/\i=JI k/\lc wr G Y (evs++(rs.take k).map jK)/\ag (Fr (evT Y.b) [] w) w wr) (λ_ i _=>rs.length- (intOf i).toNat);case atStart=>exact⟨0,oM,rfl,by simpa using HE.out,ag.refl _ _⟩
 case round=>
  refine UT;by_cases hlt:k<rs.length
  .obtain⟨g,rfl,hg1,hg2,hg3⟩:=cM Sh (ah HR.out hck eR) hlt
   have g0:wr.cell? ⟨g,k*3,.none⟩=_:=hg3 0 dM;have g1:wr.cell? ⟨g,k*3+1,.none⟩=_:=hg3 1 dM;have g2:wr.cell? ⟨g,k*3+2,.none⟩=_:=hg3 2 dM;have hst:rs.take (k+1)=rs.take k++ [rs[k]]:=LF
   have hlk:(evs++(rs.take k).map jK).length<=1000000:=xM;have hse:evs++(rs.take (k+1)).map jK=(evs++(rs.take k).map jK)++ [jK rs[k]]:=by rw[hst,Xa2,←Xb0];rfl
   have HSE:=OH hse;generalize evs++(rs.take k).map jK=ek at *;generalize rs[k]=x at *;obtain⟨x1,x2,x3⟩:=x;dsimp only[Cj,Xa5,Xa6]at g0 g1 g2;go_upto_region 3 with fail;have hV:(wr.alloc (.cells #[JI x1,JU x2,JI x3] 255)).heap[wr.heap.size]?=OC #[JI x1,JU x2,JI x3] 255:=bZ;have hcV:ag af wr (wr.alloc (.cells #[JI x1,JU x2,JI x3] 255)):=bu;have HP:=OH (eL (HEK.out.none hcV) (R8 (x1,x2,x3)) hlk);refine Yj;have HE6:=OH (HSE.out ▸ he6);exact Ym
  .have hkl:k=rs.length:=oM
   subst hkl;refine dg;exact⟨rfl,by simpa using HEK.out,HCK.out⟩
end
abbrev Ct:List TypeId:=[164,246,157,219,224,279,52,287,5]
abbrev dnTs:List TypeId:=[379,243,430,5]
section
variable {w w' u:World}{S:Nat->Prop}{ms:Nat->Prop}
theorem aL.apt(h:aL w N M K x)(hmm:∀j,M j->j<w.heap.size/\∀c t,w.heap[j]?≠OC c t)(hc:ag S w w')(hS:eF Ct ms w S)(hM:∀j,M j->ms j)(h1:ms x.cm)(h2:ms x.am):aL w' N M K x:=by
 refine h.kept hc (λj hj=>?_) hS.off (λj hj hl=>hS.obj hl (hmm j hj).2 (hM j hj)) hS.off hS.off hS.off;refine fK;rcases hj with rfl|rfl|rfl|rfl|rfl|⟨y,hy,rfl|hv⟩
 .exact hS.not h.wb
 .exact hS.not hq.q
 .exact hS.not hq.r
 .exact hS.mp h.cm h1
 .exact hS.mp h.am h2
 .exact hS.not (h.now y hy).jb
 .obtain⟨_,_,cur,hb⟩:=(h.now y hy).v.block hv
  exact hS.not hb
theorem dC.apt{St:Nat}{s:Int}{x:oz}(h:dC w N D St R Mm n s x)(hc:ag S w w')(hS:eF dnTs ms w S)(hm:ms Mm):dC w' N D St R Mm n s x:=by refine h.chg hc (λj q hD=>?_) hS.off;exact ZA
theorem aL.own_apt{ts:List TypeId}(h:aL w N M K x)(ht:([164,246,157,219,224].all λt=>ts.all λu=>u !=t)=true)(h1:¬ms x.cm)(h2:¬ms x.am):eF ts ms w x.own:=λj hl hj=>by
 refine fK;have ht':∀t,t∈ [164,246,157,219,224]->(ts.all λu=>u !=t)=true:=λt k=>PI.1 ht t k
 rcases hj with rfl|rfl|rfl|rfl|rfl|⟨y,hy,rfl|hv⟩
 .exact .inl ⟨_,_,h.wb,ht' _ sM⟩
 .exact .inl ⟨_,_,hq.q,ht' _ sM⟩
 .exact .inl ⟨_,_,hq.r,ht' _ sM⟩
 .exact .inr ⟨λ_ _ q=>h.cm.ne q rfl,h1⟩
 .exact .inr ⟨λ_ _ q=>h.am.ne q rfl,h2⟩
 .exact .inl ⟨_,_,(h.now y hy).jb,ht' _ sM⟩
 .obtain⟨_,_,cur,hb⟩:=(h.now y hy).v.block hv
  exact .inl ⟨_,_,hb,ht' _ sM⟩
theorem dC.own_apt{St:Nat}{s:Int}{x:oz}{ts:List TypeId}(h:dC w N D St R Mm n s x)(ht:([379,243,430].all λt=>ts.all λu=>u !=t)=true)(hm:¬ms Mm):eF ts ms w (iB D St R Mm):=λj hl hj=>by
 obtain⟨B,E,t,m,K,rg,k,_,_⟩:=h.k;have ht':∀t,t∈ [379,243,430]->(ts.all λu=>u !=t)=true:=λt k=>PI.1 ht t k
 rcases hj with rfl|rfl|rfl|rfl
 .exact .inl ⟨_,_,h.d,ht' _ sM⟩
 .exact .inl ⟨_,_,k.s,ht' _ sM⟩
 .exact .inl ⟨_,_,k.r,ht' _ sM⟩
 .exact .inr ⟨λ_ _ e=>k.map.not_cells e rfl,hm⟩
end
section
variable {w w' u:World}{M M':Nat->Prop}
theorem gj.mM{t:Option Tb}(h:gj w M t)(hM:∀j,M j->M' j):gj w M' t:=λx hx=>⟨(h x hx).1.mono λj _ q=>hM j q,(h x hx).2⟩
theorem aL.mM(h:aL w N M K x)(hM:∀j,M j->M' j)(hN:∀j,M' j->j<w.heap.size/\¬x.own j):aL w N M' K x:=
 ⟨h.wb,h.q,h.pk,h.tb.mM hM,h.nx.mM hM,λj hj=>(λ(q:yE w M j)=>⟨q.jb,q.z,q.b,q.l,q.t.mM hM,q.m,q.v,q.q,q.tl⟩) (h.now j hj),h.cm,h.cb,h.am,h.ne,h.sh,hN⟩
structure Dx where
 D:Nat
 S:Nat
 R:Nat
 Mm:Nat
 n:Nat
 s:Int
 x:oz
structure Ws where
 c:Cs
 wk:List Wk
 dn:List Dx
 ev:List Ev
structure bn(w:World)(Y:Yx)(X:Cx)(M:Nat->Prop)(N m:Nat)(z:Ws):Prop where
 ct:bh w X M m z.c
 ev:lc w X.G Y z.ev
 yc:Y.C=X.C
 wv:w.ownsRow 0 89 1 Y.vw z.wk.length (z.wk.map λx=>OV x.W)
 wk:∀x∈z.wk,aL w N M ⟨X.G.A,X.G.P,X.G.B⟩ x
 wl:z.wk.length=X.n
 wi:∀ (i:Nat) (h:i<z.wk.length),z.wk[i].sh=i
 wo:z.wk.Pairwise λx y=>∀j,x.own j->¬y.own j
 wm:∀x∈z.wk,¬x.own X.G.M/\¬x.own X.DM
 dn:∀d∈z.dn,dC w N d.D d.S d.R d.Mm d.n d.s d.x
 dd:z.dn.Pairwise λd e=>∀j,iB d.D d.S d.R d.Mm j->¬iB e.D e.S e.R e.Mm j
 dm:∀d∈z.dn,¬M d.Mm/\d.Mm≠X.G.M/\d.Mm≠X.DM/\∀x∈z.wk,¬x.own d.Mm
 sl:∀ (i:Nat) (h:i<z.c.l.length),z.c.l[i].used=true->∃d∈z.dn,z.c.l[i].x=OV d.D
 yb:Y.b=X.b
 lw:∀x∈z.wk,∀j,x.own j->Y.b<=j
 ld:∀d∈z.dn,∀j,iB d.D d.S d.R d.Mm j->Y.b<=j
 be:Below Y.b Y.w0 w/\Y.b<=Y.w0.heap.size
 kp:∀j c,Y.kp j c->w.heap[j]?=OC c 42
theorem pS{P:Nat->Array Value->Prop}(h:∀j c,P j c->w.heap[j]?=OC c 42)(hc:ag S w w')(ho:gk S 42 w):∀j c,P j c->w'.heap[j]?=OC c 42:=λj c q=>ae hc (h j c q) λs=>ho j c s (h j c q)
theorem jl{w0:World}(h:Below B w0 w/\B<=w0.heap.size)(hc:ag S w w')(hS:∀j,j<w.heap.size->S j->B<=j):Below B w0 w'/\B<=w0.heap.size:=
 ⟨⟨hc.os.trans h.1.os,hc.tape.trans h.1.tape,hc.output.trans h.1.output,Xb4 h.1.size hc.size,λk hk=>(hc.block k (by have:=h.1.size;omega) λq=>by have:=hS k (by have:=h.1.size;omega) q;omega).trans (h.1.block k hk)⟩,h.2⟩
theorem Hb(ht:∀p∈ts,B<=p.2.1)(hn:∀j∈ns,B<=j):∀j,j<w.heap.size->Fr ts ns w j->B<=j:=λj _ q=>by
 rcases q with⟨q,_⟩|⟨p,hp,h1,_⟩
 .exact hn j q
 .exact Xb4 (ht p hp) h1
abbrev sP:List TypeId:=Ct++dnTs++ [87,70,89,42]
variable {Y:Yx}{X:Cx}{N m m':Nat}{z:Ws}
theorem bn.ctl(h:bn w Y X M N m z)(hc:ag (Fr ts ns w) w w')(ht:(ts.all λp=>sP.all λu=>u !=p.1)=true)(hn:∀j∈ns,j=X.G.M\/j=X.DM)(hM:∀j,M j->M' j)(hM2:∀j,M' j->M j\/w.heap.size<=j)(hM3:∀j,M' j->j<w'.heap.size)(ct:bh w' X M' m' c')(sl:∀ (i:Nat) (h:i<c'.l.length),c'.l[i].used=true->∃d∈z.dn,c'.l[i].x=OV d.D)(hts:∀p∈ts,X.b<=p.2.1:=by simp):bn w' Y X M' N m' {z with c:=c'}:=by
 refine ZR;have hlt:∀x∈z.wk,∀j,x.own j->j<w.heap.size:=λx hx j hj=>(h.wk x hx).own_lt hj
 refine⟨ct,h.ev.chg (ms:=λ_=>False) hc (hA oB ⟨id,id⟩),h.yc,ah h.wv hc ((hA (us:=[89]) (ms:=λ_=>False) oB ⟨id,id⟩).off),λx hx=>?_,h.wl,h.wi,h.wo,h.wm,λd hd=>?_,h.dd,λd hd=>?_,sl,h.yb,h.lw,h.ld,jl h.be hc Ub,pS h.kp hc ((hA (us:=[42]) (ms:=λ_=>False) oB ⟨id,id⟩).off)⟩
 .obtain⟨k1,k2⟩:=h.wm x hx
  refine((h.wk x hx).apt (ms:=λj=>M j\/x.own j) h.ct.mm hc (hA oB Un) (λ_=> .inl) (.inr (.inr (.inr (.inr (.inl rfl))))) (.inr (.inr (.inr (.inr (.inr (.inl rfl))))))).mM hM λj hj=>⟨hM3 j hj,λq=>?_⟩
  rcases hM2 j hj with e|e
  .exact((h.wk x hx).mo j e).2 q
  .have:=hlt x hx j q
   omega
 .obtain⟨_,k2,k3,_⟩:=h.dm d hd
  exact(h.dn d hd).apt (ms:=λj=>j=d.Mm) hc (hA oB ⟨λq=>k2 q.symm,λq=>k3 q.symm⟩) rfl
 .obtain⟨k1,k2⟩:=h.dm d hd
  refine⟨λq=>?_,k2⟩;rcases hM2 _ q with e|e
  .exact k1 e
  .have:=(h.dn d hd).k.lt.2.2
   omega
end
def Hu(l' l:List Sl):Prop:=∀ (i:Nat) (h:i<l'.length),l'[i].used=true->∃h2:i<l.length,l[i].used=true/\l'[i].x=l[i].x
theorem Hu.refl(l:List Sl):Hu l l:=λi h q=>⟨h,q,rfl⟩
theorem Hu.trans{a b c:List Sl}(h:Hu a b)(k:Hu b c):Hu a c:=λi hi q=>by obtain⟨h2,q2,e2⟩:=h i hi q;obtain⟨h3,q3,e3⟩:=k i h2 q2;exact⟨h3,q3,e2.trans e3⟩
theorem Jo(s:List Sl×Int)(r:Int×Int):Hu (gR s r).1 s.1:=by
 unfold gR;split
 .next i hi=>
  intro j hj q;have hj2:j<s.1.length:=by simpa using hj
  refine⟨hj2,?_⟩;by_cases e:i=j
  .subst e
   simp at q
  .simp only[Xa9 e]at q ⊢
   exact⟨q,trivial⟩
 .exact Hu.refl _
theorem Jn(s:List Sl×Int)(rs:List (Int×Int)):Hu (eb s rs).1 s.1:=by
 unfold eb;induction rs generalizing s with
 |nil=>
  exact Hu.refl _
 |cons r rs ih=>exact(ih (gR s r)).trans (Jo s r)
section
variable {w w' u:World}{M:Nat->Prop}{Y:Yx}{X:Cx}{N m:Nat}{z:Ws}
theorem bn.slk(h:bn w Y X M N m z){l':List Sl}(hl:Hu l' z.c.l):∀ (i:Nat) (h:i<l'.length),l'[i].used=true->∃d∈z.dn,l'[i].x=OV d.D:=λi hi q=>by obtain⟨h2,q2,e2⟩:=hl i hi q;rw[e2];exact h.sl i h2 q2
theorem bn.evt{evs:List Ev}(h:bn w Y X M N m z)(hc:ag (Fr (evT Y.b) [] w) w w')(ev:lc w' X.G Y evs):bn w' Y X M N m {z with ev:=evs}:=
 ⟨h.ct.apt hc gm,ev,h.yc,ah h.wv hc eR,λx hx=>(h.wk x hx).apt (ms:=λ_=>True) h.ct.mm hc gm (λ_ _=>trivial) trivial trivial,h.wl,h.wi,h.wo,h.wm,λd hd=>(h.dn d hd).apt (ms:=λ_=>True) hc gm trivial,h.dd,h.dm,h.sl,h.yb,h.lw,h.ld,jl h.be hc (Hb sM sM),pS h.kp hc eR⟩
theorem bn.ctl0(h:bn w Y X M N m z)(hc:ag (Fr ts ns w) w w')(ct:bh w' X M m' c')(ht:(ts.all λp=>sP.all λu=>u !=p.1)=true)(hn:∀j∈ns,j=X.G.M\/j=X.DM)(sl:Hu c'.l z.c.l)(hts:∀p∈ts,X.b<=p.2.1:=by simp):bn w' Y X M N m' {z with c:=c'}:=
 h.ctl hc ht hn (λ_=>id) (λ_=> .inl) (λj hj=>Xb5 (h.ct.mm j hj).1 hc.size) ct (h.slk sl) hts
abbrev QL(s:Cs):Cs:= {s with wt:=s.wt.filter (λx=>!decide (x.epoch<=jL s.ws)),l:=(eb (s.l,s.live) (dw s.wt (jL s.ws))).1,live:=(eb (s.l,s.live) (dw s.wt (jL s.ws))).2}
theorem AO(h:bn w Y X M N m z)(h64:z.c.wt.length<=64)(hl:z.c.l.length<=64)(hv:0<=z.c.live/\z.c.live<=64) :
  az 30 #[OV Y.W] w λe w'=>e=aA (.tuple #[])/\bn w' Y X M N m {z with c:=QL z.c}/\ag (Fr (swT X.b) [] w) w w':=by
 refine kz;have hsw:=JE h.ct h64 hl hv;rw[←h.yc]at hsw;have HS:=OH hsw;refine bI;refine eP;go_enter func30,ntmps30;refine ay;refine HS.out.mono ?_;rintro r w2 ⟨⟨c,rfl⟩,hct,hc⟩;refine dg;exact⟨rfl,H.out.ctl0 hc hct rM sM (Jn _ _),hc⟩
end
section
variable {w w' u:World}{M:Nat->Prop}{Y:Yx}{X:Cx}{N m:Nat}{z:Ws}
theorem sH(h:bn w Y X M N m z)(ha:∀x∈z.c.acks,0<=x.1/\x.1.toNat<X.n)(hk:m+z.c.ps.length<=900000)(hpl:z.c.ps.length<=1000)(hl:z.ev.length+(dF z.c.ps).length<=1000000) :
  az 29 #[OV Y.W] w λe w'=>e=aA (.tuple #[])/\∃dn rest L1,dn++rest=z.c.ps/\(∀p∈dn,p.epoch<=kQ (bB (z.c.acks,z.c.last)).2)/\(∀p:Pd,rest.head?=some p->¬p.epoch<=kQ (bB (z.c.acks,z.c.last)).2)/\jG z.c.L (dn.map Pd.id) L1 /\
   bn w' Y X M N (m+dn.length) {z with c:= {z.c with acks:=(bB (z.c.acks,z.c.last)).1,last:=(bB (z.c.acks,z.c.last)).2,ps:=rest,L:=L1},ev:=z.ev++(dF dn).map jK}:=by
 refine kz;have hco:=BW h.ct ha hk hpl;rw[←h.yc]at hco;have HS:=OH hco;refine bI;refine eP;go_enter func29,ntmps29;refine ay;refine HS.out.mono ?_;rintro r w2 ⟨v,dn,rest,L1,rfl,e1,e2,e3,e4,ho,hct,hc⟩;have h2:=H.out.ctl0 hc hct rM sM oD;have hrl:(dF dn).length<=(dF z.c.ps).length:=by rw[←e1];simp[dF]
 have hre:=vO h2.ev ho gY;have HR:=OH hre;have H2:=OH h2;have E:=OH (Xb8 e1 (Xb8 e2 (Xb8 e3 e4)));refine ay;refine HR.out.mono ?_;rintro r w3 ⟨rfl,he,hc3⟩;have H3:=OH (H2.out.evt hc3 he);refine dg;exact⟨rfl,dn,rest,E.out.1,E.out.2.1,E.out.2.2.1,L1,E.out.2.2.2,H3.out⟩
end
structure LZ(w:World)(b:Nat)(A:Option Addr)(cap:Nat)(zs:List Int):Prop where
 i:bd w A .u8 zs
 n:A=none->cap=0
 c:zs.length<=cap
 k:∀g off,A=some ⟨g,off,none⟩->zs≠ []->g<b\/∃cur,w.heap[g]?=OC cur 5
theorem LZ.src(h:LZ w b A cap zs):dV w A zs.length cap (zs.map (Xb9 .u8)):=fk h.i h.n
theorem LZ.chg(h:LZ w b A cap zs)(hc:ag S w w')(h5:jF S w)(hb:∀j,j<w.heap.size->S j->b<=j):LZ w' b A cap zs:=by
 have key:∀i,i<zs.length->∀g off,A=some ⟨g,off,none⟩->g<w.heap.size->w'.heap[g]?=w.heap[g]?:=λi hi g off hA hg=>hc.block g hg λq=>by
  rcases h.k g off hA (by rintro rfl;simp at hi)with q2|⟨cur,q2⟩
  .have:=hb g hg q
   omega
  .exact h5 g cur q q2
 refine⟨λi hi=>?_,h.n,h.c,λg off hA hz=>?_⟩
 .obtain⟨g,o,h1,h2,h3⟩:=h.i i hi
  exact⟨g,o,h1,Xb5 h2 hc.size,(World.cell?_of_block (key i hi g o h1 h2)).trans h3⟩
 .have h0:=List.length_pos_iff.2 hz
  obtain⟨g',o,h1,h2,h3⟩:=h.i 0 h0;rw[h1]at hA;cases hA;exact(h.k _ _ h1 hz).imp id λ⟨cur,q⟩=>⟨cur,(key 0 h0 _ _ h1 h2).trans q⟩
theorem LZ.none(h:LZ w b A cap zs)(hc:ag af w w'):LZ w' b A cap zs:=h.chg hc iF λ_ _ q=>q.elim
abbrev uA(k n:Int)(a:Option Addr)(c:Nat)(zs:List Int):Ev:=⟨k,n,0,0,0,rq0,none,0,0,oh,a,c,zs⟩
section
variable {w w' u:World}{M:Nat->Prop}{Y:Yx}{X:Cx}{N m:Nat}{z:Ws}
theorem bn.none(h:bn w Y X M N m z)(hc:ag af w w'):bn w' Y X M N m z:=h.evt (aY hc) (h.ev.none hc)
def J0(w w':World):Prop:=∀ (j:Nat) (c:Array Value) (t:TypeId),(t=50\/t=52)->w.heap[j]?=OC c t->w'.heap[j]?=OC c t
theorem J0.fr(hc:ag (Fr ts ms w) w w')(h:(ts.all λp=>p.1 !=50&&p.1 !=52)=true:=by rfl):J0 w w':=λj c t ht hj=>bJ hc hj (PI.2 λp hp=>by
 have:=PI.1 h p hp;simp only[Bool.and_eq_true]at this;rcases ht with rfl|rfl
 .exact this.1
 .exact this.2)
theorem J0.trans(h:J0 w w')(k:J0 w' u):J0 w u:=λj c t ht hj=>k j c t ht (h j c t ht hj)
theorem J0.none(hc:ag af w w'):J0 w w':=λj c t _ hj=>ae hc hj id
def AskE(w:World)(Y:Yx)(X:Cx)(M:Nat->Prop)(N m:Nat)(z:Ws)(zs:List Int)(e:Ending)(w':World):Prop:=e=aA (.tuple #[])/\∃a c,
 ((z.c.inq.length<X.li/\∃p:Ca,p.n=z.ev.length/\p.zs=zs/\bn w' Y X M N m {z with c:= {z.c with inq:=z.c.inq++ [p] },ev:=z.ev++ [uA 0 0 a c zs] }/\J0 w w') \/
  (z.c.inq.length=X.li/\bn w' Y X M N m {z with ev:=z.ev++ [uA 0 0 a c zs] ++ [uA 5 z.ev.length .none 0 []] }))
theorem NA(h:bn w Y X M N m z)(hs:LZ w Y.b A cap zs)(hzl:zs.length<=1000000)(hb:aG zs)(hl:z.c.inq.length<=X.li)(he:z.ev.length<=900000) :
  az 12 #[OV Y.W,.slice A zs.length cap] w (AskE w Y X M N m z zs):=by
 refine kz;refine bI;refine eP;go_enter func12,ntmps12;refine ay;have hcl:=lI w A zs.length cap (zs.map (Xb9 .u8)) sM hzl nz hs.src;refine hcl.mono ?_;refine Mp;have hc2:ag af w w2:=.of hb2;have h2:=H.out.none hc2;have hs2:=hs.none hc2;have hev:pm w2 (uA 0 0 A2 c2 zs):=⟨Ic,wI,mR (aW hv2 kn),hb,hzl⟩
 have HP:=OH (eL h2.ev hev oM);have H2:=OH h2;refine qy;rintro r w3 ⟨rfl,he3,hc3⟩;have h3:=H2.out.evt hc3 he3;have hs3:=hs2.chg hc3 eR (Hb sM sM);obtain⟨ve3,hW3,_,_⟩:=h3.ev;have hca:=Qj (k:=z.ev.length) h3.ct hs3.src hzl hb hl;rw[←h3.yc]at hca;have HCA:=OH hca;have H3:=OH h3;have HK3:=OH ((J0.none hc2).trans (J0.fr hc3));refine qw;refine ay;refine HCA.out.mono ?_;rintro r w4 ⟨hc4,⟨hlt,rfl,p,hp1,hp2,hct⟩|⟨heq,rfl,hct⟩⟩
 .have h4:=H3.out.ctl0 hc4 hct rM sM oD
  have HK4:=OH (HK3.out.trans (J0.fr hc4));have H4:=OH h4;refine dg;exact⟨rfl,A2,c2,.inl ⟨hlt,p,hp1,hp2,H4.out,HK4.out⟩⟩
 .have h4:=H3.out.ctl0 hc4 hct rM sM oD
  have HP4:=OH (eL (v:=uA 5 z.ev.length .none 0 []) h4.ev ⟨Ic,wI,eq _ _,pB,sM⟩ xM);have H4:=OH h4;refine ay;refine HP4.out.mono ?_;rintro r w5 ⟨rfl,he5,hc5⟩;have H5:=OH (H4.out.evt hc5 he5);refine dg;exact⟨rfl,A2,c2,.inr ⟨heq,H5.out⟩⟩
end
section
variable {w w' u:World}{M M':Nat->Prop}{Y:Yx}{X:Cx}{N m m':Nat}{z:Ws}
theorem bn.ctl2{nd:Option Dx}(h:bn w Y X M N m z)(hc:ag (Fr ts ns w) w w')(ht:(ts.all λp=>sP.all λu=>u !=p.1)=true)(hn:∀j∈ns,j=X.G.M\/j=X.DM)(hM:∀j,M j->M' j)(hM2:∀j,M' j->M j\/w.heap.size<=j)(ct:bh w' X M' m' c')(hnd:∀d,nd=some d->dC w' N d.D d.S d.R d.Mm d.n d.s d.x/\∀j,iB d.D d.S d.R d.Mm j->w.heap.size<=j/\¬M' j)(sl:∀ (i:Nat) (h:i<c'.l.length),c'.l[i].used=true->∃d∈z.dn++nd.toList,c'.l[i].x=OV d.D)(hts:∀p∈ts,X.b<=p.2.1:=by simp):bn w' Y X M' N m' {z with c:=c',dn:=z.dn++nd.toList}:=by
 have h0:∀d∈nd.toList,dC w' N d.D d.S d.R d.Mm d.n d.s d.x/\∀j,iB d.D d.S d.R d.Mm j->w.heap.size<=j/\¬M' j:=λd hd=>hnd d (by simpa using hd)
 have hdlt:∀d∈z.dn,∀j,iB d.D d.S d.R d.Mm j->j<w.heap.size:=λd hd j hj=>by
  have hk:=(h.dn d hd)
  obtain⟨l1,l2,l3⟩:=hk.k.lt;rcases hj with e|e|e|e
  .exact e ▸ aB hk.d
  .exact e ▸ l1
  .exact e ▸ l2
  .exact e ▸ l3
 have hdn':∀d∈z.dn,dC w' N d.D d.S d.R d.Mm d.n d.s d.x:=λd hd=>by
  obtain⟨_,k2,k3,_⟩:=h.dm d hd;refine(h.dn d hd).apt (ms:=λj=>j=d.Mm) hc (eF.fr (PI.2 λp hp=>PI.2 λu hu'=>PI.1 (PI.1 ht p hp) u (by simp only[sP];exact List.mem_append_left _ (List.mem_append_right _ hu'))) λj hj=>?_) rfl;rcases hn j hj with e|e<;>subst e
  .exact λq=>k2 q.symm
  .exact λq=>k3 q.symm
 refine ZR;refine⟨ct,h.ev.chg (ms:=λ_=>False) hc (hA oB ⟨id,id⟩),h.yc,ah h.wv hc ((hA (us:=[89]) (ms:=λ_=>False) oB ⟨id,id⟩).off),λx hx=>?_,h.wl,h.wi,h.wo,h.wm,λd hd=>?_,?_,λd hd=>?_,sl,h.yb,h.lw,λd hd j hj=>(Xa0.1 hd).elim (λq=>h.ld d q j hj) (λq=>by have:=((h0 d q).2 j hj).1;have:=h.be.1.size;have:=h.be.2;omega),jl h.be hc Ub,pS h.kp hc ((hA (us:=[42]) (ms:=λ_=>False) oB ⟨id,id⟩).off)⟩
 .obtain⟨k1,k2⟩:=h.wm x hx
  refine((h.wk x hx).apt (ms:=λj=>M j\/x.own j) h.ct.mm hc (hA oB Un) (λ_=> .inl) (.inr (.inr (.inr (.inr (.inl rfl))))) (.inr (.inr (.inr (.inr (.inr (.inl rfl))))))).mM hM λj hj=>⟨(ct.mm j hj).1,λq=>?_⟩
  rcases hM2 j hj with e|e
  .exact((h.wk x hx).mo j e).2 q
  .have:=(h.wk x hx).own_lt q
   omega
 .rcases Xa0.1 hd with q|q
  .exact hdn' d q
  .exact(h0 d q).1
 .refine Xa8.2 ⟨h.dd,by cases nd<;>simp,λa ha b hb j hj hj2=>?_⟩
  have:=hdlt a ha j hj;have:=((h0 b hb).2 j hj2).1;omega
 .rcases Xa0.1 hd with q|q
  .obtain⟨k1,k2⟩:=h.dm d q
   refine⟨λq'=>?_,k2⟩;rcases hM2 _ q' with e|e
   .exact k1 e
   .have:=hdlt d q _ (.inr (.inr (.inr rfl)))
    omega
  .obtain⟨k1,k2⟩:=(h0 d q).2 _ (.inr (.inr (.inr rfl)))
   have a1:=h.ct.se.lt;have a2:=h.ct.seen.map.lt;exact⟨k2,oM,oM,λx hx e=>by have:=(h.wk x hx).own_lt e;omega⟩
end
section
variable {w w' u:World}{M M':Nat->Prop}{Y:Yx}{X:Cx}{N m m':Nat}{z:Ws}
theorem J1.slots(h:J1 X s q ND ep s'):s'.l=s.l\/∃i D,∃hi:i<s.l.length,ND D/\s'.l=s.l.set i ⟨OV D,s.l[i].turn+1,true⟩:=by
 rcases h with⟨_,⟨_,_,rfl⟩|⟨_,_,l1,v1,e1,s1,s2,w2,T,d,_,_,_,_,rfl⟩⟩
 .exact jm
 .rcases d with⟨_,rfl,_⟩|⟨_,i,D,hi,_,hD,rfl,_⟩
  .exact jm
  .exact .inr ⟨i,D,hi,hD,rfl⟩
theorem kh.slots{dn:List yK}(h:kh X s ND dn rs s'):s'.l=s.l\/∃i D,∃hi:i<s.l.length,ND D/\s'.l=s.l.set i ⟨OV D,s.l[i].turn+1,true⟩:=by
 cases h with
 |nil h=>
  exact jm
 |bad h hp he=>
  exact jm
 |seen h hp hf hps hr=>
  exact jm
 |full h hp hf hs hc=>
  exact jm
 |no h hp hf hs hn ha hD=>
  exact jm
 |yes h hp hf hs hd ha hD=>
  exact hd.slots
 |wait h hp hf hs hd he hD hpd=>exact hd.slots
theorem bn.acc{dn:List yK}(h:bn w Y X M N m z)(hM:∀j,M j->M' j)(hM2:∀j,M' j->M j\/w.heap.size<=j)(ct:bh w' X M' m' s')(hc:ag (Fr (yz X.b) [X.G.M,X.DM] w) w w')(ha:kh X z.c (ui w w' M' X.G.keep.toNat) dn rs s'):∃nd:Option Dx,(∀d,nd=some d->d.x=JB)/\bn w' Y X M' N m' {z with c:=s',dn:=z.dn++nd.toList}:=by
 rcases ha.slots with e|⟨i,D,hi,⟨S,R,Mm,sx,hd,hf⟩,e⟩
 .refine⟨.none,(λd q=>gZ),h.ctl2 hc rM sM hM hM2 ct sM λi hi q=>?_⟩
  simp only[e]at hi q ⊢;obtain⟨d,hd,k⟩:=h.sl i hi q;exact⟨d,by simpa using hd,k⟩
 .refine⟨some ⟨D,S,R,Mm,X.G.keep.toNat,sx,JB⟩,(λd q=>by cases q;rfl),h.ctl2 hc rM sM hM hM2 ct (λd hd'=>?_) λj hj q=>?_⟩
  .simp only[Option.some.injEq]at hd'
   subst hd';exact⟨hd.mono kn,hf⟩
  .simp only[e]at hj q ⊢
   by_cases hij:i=j
   .subst hij
    exact⟨⟨D,S,R,Mm,X.G.keep.toNat,sx,JB⟩,sM,sM⟩
   .simp only[Xa9 hij]at q ⊢
    obtain⟨d,hd,k⟩:=h.sl j um q;exact⟨d,by simp[hd],k⟩
abbrev ol(x:yK):Ev:=⟨1,x.n,0,x.id,x.e,x.q,x.A,x.cap,0,oh,.none,0,[]⟩
theorem TD{x:yK}(h:w.ownsRow B 52 1 (.slice x.A x.q.ss.length x.cap) x.q.ss.length (iJ x.q.ss))(hl:x.q.ss.length<=255):pm w (ol x):=⟨⟨aW h kn,hl⟩,wI,eq _ _,pB,sM⟩
theorem kh.few{dn:List yK}(h:kh X s ND dn rs s')(hb:∀p∈s.inq,aG p.zs):dn.length<=1/\rs.length<=1/\∀x∈dn,x.q.ss.length<=255:=by
 cases h with
 |nil h=>
  simp
 |bad h hp he=>
  simp
 |seen h hp hf hps hr=>
  simpa using hr.1
 |full h hp hf hs hc=>
  simp
 |no h hp hf hs hn ha hD=>
  exact My
 |yes h hp hf hs hd ha hD=>
  exact My
 |wait h hp hf hs hd he hD hpd=>exact My
end
def AccW(w:World)(Y:Yx)(X:Cx)(M:Nat->Prop)(N m:Nat)(z:Ws)(e:Ending)(w':World):Prop:=e=aA (.tuple #[])/\∃M' s' nd dn rs w1,((∀j,M j->M' j)/\∀d,nd=some d->d.x=JB)/\kh X z.c (ui w w1 M' X.G.keep.toNat) dn rs s' /\
 bn w' Y X M' N (m+2) {z with c:=s',dn:=z.dn++Option.toList nd,ev:=z.ev++dn.map ol++rs.map jK}
section
variable {w w' u:World}{M M':Nat->Prop}{Y:Yx}{X:Cx}{N m m':Nat}{z:Ws}
theorem vF(h:bn w Y X M N m z)(ok:QK X z.c)(sn:uE X z.c.L)(hm:m<=990000)(hdo:∀p rest id q L1,z.c.inq=p::rest->ez p.zs=(id,q,0)->Hw X {z.c with inq:=rest,L:=L1} q)(hl:z.ev.length<=900000) :
  az 28 #[OV Y.W] w (AccW w Y X M N m z):=by
 refine kz;have hac:=JH h.ct ok sn hm hdo;rw[←h.yc]at hac;have HAC:=OH hac;refine bI;refine eP;go_enter func28,ntmps28;refine ay;refine HAC.out.mono ?_;rintro r w2 ⟨vd,vr,dn,rs,M',s',rfl,hd1,hd2,hr1,hM1,hM2,hct,hcc,hac⟩;obtain⟨f1,f2,f3⟩:=hac.few λp hp=>(H.out.ct.ca p hp).2.1
 obtain⟨nd,hnd,hs2⟩:=H.out.acc hM1 hM2 hct hcc hac;obtain⟨A,cap,rfl⟩:=aj hd1;obtain⟨A3,cap3,rfl⟩:=aj hr1;have HD1:=OH hd1;have HD2:=OH hd2;have HD3:=OH f3;have HR1:=OH hr1;have HS2:=OH hs2;have HK:=OH (Xb8 (Xb8 hM1 hnd) hac);refine ay;go_loopw [5,18] (λ_ i wr=>∃k:Nat,k<=dn.length/\i=JI k/\bn wr Y X M' N (m+2) {z with c:=s',dn:=z.dn++nd.toList,ev:=z.ev++(dn.take k).map ol}/\ag (Fr (evT Y.b) [] w2) w2 wr) (λ_ i _=>dn.length- (intOf i).toNat);case atStart=>exact⟨0,oM,rfl,by simpa using HS2.out,ag.refl _ _⟩
 case round=>
  refine UT;by_cases hlt:k<dn.length
  .have hox:=ah (HD2.out dn[k] qS) hck eR
   have hlx:=HD3.out dn[k] qS;obtain⟨g,rfl,hg1,hg2,hg3⟩:=cM SO (ah HD1.out hck eR) hlt;have g0:wr.cell? ⟨g,k*11,none⟩=_:=hg3 0 dM;have g1:wr.cell? ⟨g,k*11+1,none⟩=_:=hg3 1 dM;have g2:wr.cell? ⟨g,k*11+2,none⟩=_:=hg3 2 dM;have g3:wr.cell? ⟨g,k*11+3,none⟩=_:=hg3 3 dM;have g4:wr.cell? ⟨g,k*11+4,none⟩=_:=hg3 4 dM;have g5:wr.cell? ⟨g,k*11+5,none⟩=_:=hg3 5 dM;have g6:wr.cell? ⟨g,k*11+6,none⟩=_:=hg3 6 dM;have g7:wr.cell? ⟨g,k*11+7,none⟩=_:=hg3 7 dM;have g8:wr.cell? ⟨g,k*11+8,none⟩=_:=hg3 8 dM;have g9:wr.cell? ⟨g,k*11+9,none⟩=_:=hg3 9 dM;have g10:wr.cell? ⟨g,k*11+10,none⟩=_:=hg3 10 dM;have hst:dn.take (k+1)=dn.take k++ [dn[k]]:=LF
   have hlk:(z.ev++(dn.take k).map ol).length<=1000000:=xM;have hse:z.ev++(dn.take (k+1)).map ol=(z.ev++(dn.take k).map ol)++ [ol dn[k]]:=by rw[hst,Xa2,←Xb0];rfl
   have HSE:=OH hse;generalize z.ev++(dn.take k).map ol=ek at *;generalize dn[k]=x at *;have HOX:=OH hox;dsimp only[neC,Xa5,Xa6]at g0 g1 g2 g3 g4 g5 g6 g7 g8 g9 g10;go_upto_region 5 with fail;have hV:(wr.alloc (.cells #[JI x.n,JU x.id,JI x.q.kind,JI x.q.who,JI x.q.room,JI x.q.rights,JI x.q.track,.slice x.A x.q.ss.length x.cap,JI x.q.layer,JI x.q.tid,JI x.e] 179)).heap[wr.heap.size]?=OC #[JI x.n,JU x.id,JI x.q.kind,JI x.q.who,JI x.q.room,JI x.q.rights,JI x.q.track,.slice x.A x.q.ss.length x.cap,JI x.q.layer,JI x.q.tid,JI x.e] 179:=bZ;have hcV:ag af wr (wr.alloc (.cells #[JI x.n,JU x.id,JI x.q.kind,JI x.q.who,JI x.q.room,JI x.q.rights,JI x.q.track,.slice x.A x.q.ss.length x.cap,JI x.q.layer,JI x.q.tid,JI x.e] 179)):=bu;have hs3:=HEK.out.none hcV;have HP:=OH (eL hs3.ev (TD (ah HOX.out hcV cy) hlx) hlk);have HS3:=OH hs3;refine Yj;have HE6:=OH (HSE.out ▸ (HS3.out.evt hc6 he6));exact Ym
  .have hkl:k=dn.length:=oM
   subst hkl;rw[List.take_length]at HEK;have hre:=vO HEK.out.ev (ah HR1.out hck eR) xM;have HRE:=OH hre;refine ay;refine HRE.out.mono ?_;rintro r w7 ⟨rfl,he7,hc7⟩;have HS7:=OH (HEK.out.evt hc7 he7);refine dg;exact⟨rfl,M',s',nd,dn,rs,w2,HK.out.1,HK.out.2,HS7.out⟩
end
section
variable {w w' u:World}{M M':Nat->Prop}{Y:Yx}{X:Cx}{N N' m m':Nat}{z:Ws}
theorem aL.monoN(h:aL w N M K x)(hN:N<=N'):aL w N' M K x:= {h with cb:=λp hp=>oQ (h.cb p hp) oM}
theorem Oi{α:Type}{R:α->α->Prop}(hs:∀a b,R a b->R b a){l:List α}(h:l.Pairwise R){j:Nat}(hi:i<l.length)(hj:j<l.length)(hij:i≠j):R l[i] l[j]:=by
 rcases Nat.lt_or_gt_of_ne hij with q|q
 .exact Xa4.1 h i j hi hj q
 .exact hs _ _ (Xa4.1 h j i hj hi q)
theorem bn.wrk{x':Wk}(h:bn w Y X M N m z)(hi:i<z.wk.length)(hN:N<=N')(hw:aL w' N' M ⟨X.G.A,X.G.P,X.G.B⟩ x')(hsh:x'.sh=z.wk[i].sh)(hW:x'.W=z.wk[i].W)(ho:∀j,x'.own j->z.wk[i].own j\/w.heap.size<=j)(hc:ag z.wk[i].own w w'):bn w' Y X M N' m {z with wk:=z.wk.set i x'}:=by
 refine LY;have ha:∀ {ts:List TypeId} {ms:Nat->Prop},([164,246,157,219,224].all λt=>ts.all λu=>u !=t)=true->(∀j,ms j->¬z.wk[i].own j)->eF ts ms w z.wk[i].own:=λht hms=>hx.own_apt ht (λq=>hms _ q (.inr (.inr (.inr (.inl rfl))))) (λq=>hms _ q (.inr (.inr (.inr (.inr (.inl rfl))))))
 refine Xl;refine⟨h.ct.apt hc (ha rM λj hj=>?_),h.ev.chg (ms:=λ_=>False) hc (ha rM λ_ q=>q.elim),h.yc,?_,hall hw λk hk e=>?_,Kg,λk hk=>?_,?_,hall ?_ λk hk _=>h.wm _ ny,λd hd=>?_,h.dd,λd hd=>?_,h.sl,h.yb,hall (P:=λx=>∀j,x.own j->Y.b<=j) (λj q=>(ho j q).elim (h.lw _ hm j) λq=>KI) (λk hk _=>h.lw _ ny),h.ld,jl h.be hc (λj _ q=>h.lw _ hm j q),pS h.kp hc ((ha (ts:=[42]) (ms:=λ_=>False) rM λ_ q=>q.elim).off)⟩
 .rcases hj with q|rfl|rfl
  .exact hMo j q
  .exact m1
  .exact m2
 .have:=ah h.wv hc ((ha (ts:=[89]) (ms:=λ_=>False) rM λ_ q=>q.elim).off)
  exact Nd
 .have hy:=h.wk _ ny
  have h0:=ha (ts:=Ct.filter λt=>![164,246,157,219,224].contains t) (ms:=λ_=>False) rM λ_ q=>q.elim
  exact(hy.kept hc (λj hj q=>hap k i hk hi e j hj q) h0.off (λj hj _=>hMo j hj) h0.off h0.off h0.off).monoN hN
 exact Yt
 .exact Nj
 .exact⟨λq=>(ho _ q).elim m1 λq=>oM,λq=>(ho _ q).elim m2 λq=>oM⟩
 .obtain⟨_,_,_,k4⟩:=h.dm d hd
  exact((h.dn d hd).apt (ms:=λj=>j=d.Mm) hc (ha rM λj e=>by subst e;exact k4 _ hm) rfl).mono hN
 .exact Wo
end
def ud(k:Nat)(a b:List Wk):Prop:=b.length=a.length/\∀ (j:Nat) (h:j<a.length) (h2:j<b.length),(j<k->∃am,b[j]= {a[j]with am:=am,asked:=[] })/\(k<=j->b[j]=a[j])
theorem ud.step{k:Nat}{a b:List Wk}(h:ud k a b)(hk:k<b.length){am:Nat}:ud (k+1) a (b.set k {b[k]with am:=am,asked:=[] }):=by
 obtain⟨h1,h2⟩:=h;refine⟨ul,λj hj hj2=>?_⟩;have hjb:j<b.length:=oM;refine lQ;split
 .next e=>subst e;refine⟨λ_=>⟨am,?_⟩,λq=>oM⟩;rw[(h2 k hj hk).2 (Nat.le_refl _)]
 .next e=>exact⟨λq=>(h2 j hj hjb).1 oM,λq=>(h2 j hj hjb).2 oM⟩
section
variable {w w' u:World}{M M':Nat->Prop}{Y:Yx}{X:Cx}{N m:Nat}{z:Ws}
theorem Co(h:bn w Y X M N m z):az 31 #[OV Y.W] w λe w'=>e=aA (.tuple #[])/\∃l,ud z.wk.length z.wk l/\bn w' Y X M N m {z with wk:=l}:=by
 refine K0;refine FD;refine bI;refine eP;go_enter func31,ntmps31;refine ay;go_loopw [3,11] (λ_ i wr=>∃k:Nat,k<=z.wk.length/\i=JI k/\∃l,ud k z.wk l/\bn wr Y X M N m {z with wk:=l}) (λ_ i _=>z.wk.length- (intOf i).toNat);case atStart=>exact⟨0,oM,rfl,z.wk,⟨rfl,λj _ _=>⟨λq=>oM,λ_=>rfl⟩⟩,H.out⟩
 case round=>
  obtain⟨k,hk,rfl,l,hR,hS⟩:=hrel;have HS:=OH hS;have HR:=OH hR;by_cases hlt:k<z.wk.length
  .have hkl:k<l.length:=by have:=hR.1;omega
   have hwv:=hS.wv;rw[hv]at hwv;have hwv2:wr.ownsRow 0 89 1 (.slice A z.wk.length cap) z.wk.length (l.map λx=>OV x.W):=hR.1 ▸ hwv;obtain⟨g,rfl,_,hg2,hg3,_⟩:=iL hwv2 (i:=k) (j:=0) hlt dM;have g0:wr.cell? ⟨g,k,none⟩=some (OV (l[k].W)):=by simpa[List.getElem?_eq_getElem hkl]using hg3
   have hti:=Rl (hS.wk _ (List.getElem_mem hkl));have HT:=OH hti;refine ay;refine HT.out.mono ?_;rintro r w2 ⟨rfl,am,ham,hw2,hc2⟩;have HS2:=OH (HS.out.wrk (i:=k) (x':= {l[k]with am:=am,asked:=[] }) hkl fo hw2 rfl rfl (λj q=>by
    rcases q with q|q|q|q|q|q
    .exact .inl (.inl q)
    .exact .inl (.inr (.inl q))
    .exact .inl (.inr (.inr (.inl q)))
    .exact .inl (.inr (.inr (.inr (.inl q))))
    .exact .inr (by subst q;exact ham)
    .exact .inl (.inr (.inr (.inr (.inr (.inr q)))))) (hc2.mono λj _ q=> .inl q))
   have HR2:=OH (HR.out.step hkl (am:=am));refine dA;case rel=>exact⟨k+1,oM,eT,_,HR2.out,HS2.out⟩
   case measure=>exact di
  .have hkl:k=z.wk.length:=oM
   subst hkl;refine dg;exact⟨rfl,l,HR.out,HS.out⟩
end
section
variable {w w' u:World}{M M':Nat->Prop}{Y:Yx}{X:Cx}{N m:Nat}{z:Ws}
theorem Nr(h:bn w Y X M N m z)(h1:z.c.d.people.length<=1000)(h2:z.c.d.tracks.length<=1000)(h3:z.c.d.subs.length<=1000)(h4:∀t∈z.c.d.tracks,t.ssrcs.length<=1000) :
  az 8 #[OV Y.W] w λe w'=>∃vp vt vs B,e=aA (.agg (gi X.G.cf vp vt vs))/\bK w' B vp vt vs z.c.d/\ag af w w':=by
 refine kz;refine bI;have hst:=λW (hc:ag af w W)=>JF (h.ct.apt hc gx) h1 h2 h3 h4
 rw[←h.yc]at hst;have HS:=OH hst;refine eP;go_enter func8,ntmps8;refine ay;have hc1:ag af w (w.alloc (.cells #[JI 0,JI 0,JI 0,JI 0,.slice none 0 0,.slice none 0 0,.slice none 0 0] 42)):=bu;refine(HS.out _ hc1).mono ?_;rintro r w2 ⟨vp,vt,vs,rfl,hd,hb⟩;have hZ1:(w.alloc (.cells #[JI 0,JI 0,JI 0,JI 0,.slice none 0 0,.slice none 0 0,.slice none 0 0] 42)).heap[w.heap.size]?=OC #[JI 0,JI 0,JI 0,JI 0,.slice none 0 0,.slice none 0 0,.slice none 0 0] 42:=bZ;have hZ:=ae (S:=af) (.of hb) hZ1 id;have hc2:ag af w w2:=hc1.trans (.of hb);have hd0:=hd;obtain⟨p1,⟨ks,k1,k2⟩,p3⟩:=hd0;obtain⟨A1,n1,rfl⟩:=aj p1;obtain⟨A2,n2,rfl⟩:=aj k1;obtain⟨A3,n3,rfl⟩:=aj p3;refine ku;have hsz:=hc1.size;generalize w.alloc _=w1 at *;generalize hz:w.heap.size=Z at *;refine zE;refine ay;generalize hu:Xb7 _ _ _=u;have hs:ag (λj=>j=Z) w2 u:=by
  have cs:∀ {a:World} (o:Nat) (v:Value),ag (λj=>j=Z) w2 a->ag (λj=>j=Z) w2 (a.setCell ⟨Z,o,.none⟩ v):=λo v h=>ag.set (S:=λj=>j=Z) h ⟨Z,o,.none⟩ (.inl rfl) v
  rw[←hu];exact cs _ _ (cs _ _ (cs _ _ (cs _ _ (cs _ _ (cs _ _ (cs _ _ dp))))))
 have hf:u.heap[Z]?=OC (gi X.G.cf (.slice A1 z.c.d.people.length n1) (.slice A2 ks.length n2) (.slice A3 z.c.d.subs.length n3)) 42:=jn
 have hcu:ag af w u:=hc2.call hs λj hj e=>by subst e;omega
 have hdu:=HD.out.chg hs (λj cur q hb=>QT) (λj cur q hb=>QT) (λj cur q hb=>QT) (λj cur q hb=>QT);refine LI;exact⟨_,_,_,_,rfl,hdu,hcu⟩
end
end Go.Proofs.YtnpancjkjheffaaGreat
