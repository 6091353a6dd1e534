/- Part 4 of the proof of TopSafe. No condition. -/
import Derived.Test.YtnpancjkjheffaaGreatP01
namespace Go.Proofs.YtnpancjkjheffaaGreat
set_option linter.unusedVariables false
set_option linter.unusedSimpArgs false
set_option maxRecDepth 100000
set_option maxHeartbeats 8000000
open Go.RowKit
open Go.Proofs.Tryz
open _root_.List renaming getElem?_toArray->PI,mem_map_of_mem->Xa0,getElem?_eq_some_iff->Xa1,getElem?_map->Xa2,getElem_map->Xa3,getElem?_modify->Xa4,getElem?_eq_getElem->Xa5,insertIdx_length_self->Xa6,getElem?_append_left->Xa7,getElem?_take_of_lt->Xa8,getElem_inj->Xa9,mem_map->Xb0,map_append->Xb1,getElem_of_mem->Xb2,getElem_take->Xb3,getElem_drop->Xb4,length_take->Xb5,length_drop->Xb6,mem_cons->Xb7,getElem?_eq_none->Xb8,eraseIdx_sublist->Xb9,getElem?_append->Xc0,getElem_modify->Xc1,filter_eq_self->Xc2,mem_singleton->Xc3,nodup_append->Xc4,getElem_mem->Xc5,nodup_cons->Xc6,mem_filter->Xc7,mem_append->Xc8,length_map->Xc9,map_cons->Xd0,length->Xd1
open _root_.Array renaming getElem?_eq_getElem->Xd2,toList_push->Xd3,getElem?_eq_some_iff->Xd4,getElem?_append_left->Xd5,getElem?_toList->Xd6,append_assoc->Xd7,getElem?_setIfInBounds->Xd8,getElem_toList->Xd9,toList_filter->Xe0,toList_inj->Xe1
open _root_.Option renaming isSome_iff_exists->Xe2,map_some->Xe3,some->Xe4
open Builtin renaming copy_->Xe5,zeroCells->Xe6,firstCells->Xe7,delete_->Xe8,len_->Xe9
open _root_.Nat renaming min->Xf0,zero_add->Xf1,mul_le_mul_right->Xf2,min_eq_left->Xf3,lt_or_ge->Xf4,le_refl->Xf5
open Instr renaming lookup->Xf6,entryStore->Xf7,mapUpdate->Xf8,mapEntry->Xf9,findKey->Xg0,range->Xg1,next->Xg2
open Addr renaming add_lit->Xg3
open Result renaming andThen->Xg4
open Lit renaming int->Xg5
open Go.ChangeMaps renaming map_eraseIdx->Xg6
open World renaming shape?->Xg7
open Program renaming keyLits->Xg8
variable {es:Array MapEntry}{c cr:Array Value}{is:Bool}{D:DataW Value}{y:Int}{f:Int->Option Value}{q:IntKind}{b cap clock g j k n:Nat}{fz:Nat×Nat}{o:Obj}{P:Program}{e t:TypeId}{v z:Value}{w:World}
theorem xG(x:Pe):∀u∈gp x,u.oneCell'=true:=by intro u hu;simp at hu;rcases hu with rfl|rfl|rfl<;>rfl
theorem xD(l:List Pe):∀u∈l.flatMap gp,u.oneCell'=true:=by refine Lc;exact xG x u hx
section
variable {w:World}{B n i V:Nat}{v:Value}{l:List Pe}{x:Pe}
theorem Dh(h:w.ownsRow B 167 3 v l.length (l.flatMap gp))(hB:B<=w.heap.size)(hl:l.length<=1000)(hV:w.heap[V]?=OC (gp x).toArray 167) :
  az 240 #[v,JI l.length,.slice (aT V) 1 1] w λe w'=>∃v',e=aA v'/\w'.ownsRow B 167 3 v' (l.length+1) ((l++ [x]).flatMap gp)/\ag (λj=>v.ownBlock=some j) w w':=by
 obtain⟨i0,hi,hz0,hz1,hz2⟩:=aI rB;have HO:=OH h;have HV:=OH hV;have hfl:(l++ [x]).flatMap gp=l.flatMap gp++gp x:=sM;refine LQ
 .refine Ln
  refine zq88;exact Mw
 .by_cases hc:cap=l.length
  .subst hc
   refine zq88;exact MJ
  .refine zq88
   exact MH
theorem IF(w:World):(Go.sizeOf 167).run prog w=.ok 3 w:=kM
theorem xT(hg:w.heap[g]?=OC cr 167)(hsz:cr.size=cap*3)(hrow:∀k (hk:k<l.length) j,j<3->cr[k*3+j]?=(gp l[k])[j]?)(hcap:l.length+1<=cap)(hm:cap<=maxLen)(hl:l.length<=1000)(hV:w.heap[V]?=OC (gp x).toArray 167)(hVg:V≠g)(hi:i<l.length) :
  az 240 #[.slice (aT g) l.length cap,JI i,.slice (aT V) 1 1] w λe w'=>e=aA (.slice (aT g) (l.length+1) cap)/\(∃cr',w'.heap[g]?=OC cr' 167/\cr'.size=cap*3/\∀k (hk:k<(l.insertIdx i x).length) j,j<3->cr'[k*3+j]?=(gp (l.insertIdx i x)[k])[j]?)/\ag (λj=>j=g) w w':=by
 unfold maxLen at hm;refine vB;have hov:∀lb cb,(callFunc 275 #[.slice (aT V) 1 1,.slice (some ⟨g,(i+1)*3,none⟩) lb cb]).run prog w=.ok (.value (.bool false)) w:=λlb cb=>by
  rw[run_callFunc_extern func275 kM kM kM (e:=Extern.SlicesOverlaps.overlaps #[38,38] #[4]) kM,
   Lib.run_overlaps_apart w 38 4 167 underlying38 3 IF ⟨V,0,none⟩ ⟨g,(i+1)*3,none⟩ 1 1 lb cb hVg 167 167 3 (cap*3) (by simp[Xg7,hV]) (by simp[Xg7,hg,hsz]) oM (f1 _) (f1 _)]
  rfl
 have hinfo:(prog.info? 167).map (·.size)=some 3:=by obtain⟨i0,hi0,h0,h1,h2⟩:=aI rB;rw[hi0];simp[h1]
 refine Wa;refine zq83;have hcp1:∀ty dc sc,(Xe5 #[38,38] ty #[.slice (some ⟨g,(i+1)*3,none⟩) (l.length-i) dc,.slice (some ⟨g,i*3,none⟩) (l.length+1-i) sc]).run prog w.drew=.ok (goInt (Xf0 (l.length+1-i) (l.length-i))) (w.drew.setCells g ((i+1)*3) ((l.drop i).flatMap gp)):=λty dc sc=>
  cF w.drew _ _ ty 167 g ((i+1)*3) _ dc ⟨g,i*3,none⟩ _ sc _ 3 underlying38 hinfo zt73
   (λj v hj=>by
    have hj2:j<(l.length-i)*3:=uU
    have e1:j=j / 3*3+j % 3:=oM;have e2:j / 3<(l.drop i).length:=by rw[Xb6];omega
    rw[Xg3];refine vf;rw[e1,bY dS _ _ _ e2 oM,Xb4,show i*3+(j / 3*3+j % 3)=(i+j / 3)*3+j % 3 by omega];exact hrow (i+j / 3) KE _ oM)
   (λj hj=>by rw[hdl]at hj;exact Xe2.2 ⟨_,(c0 _).trans (Xd2 uL)⟩) (λj _=>f0 _) (xD _)
 obtain⟨W1,hW1⟩:∃W1,W1=w.drew.setCells g ((i+1)*3) ((l.drop i).flatMap gp):=⟨_,rfl⟩
 have hg1:W1.heap[g]?=OC (aS cr ((i+1)*3) ((l.drop i).flatMap gp)) 167:=KZ
 refine Mx;have hV1:W1.heap[V]?=OC (gp x).toArray 167:=ae hch1 hV hVg;have hcp2:∀ty dc,(Xe5 #[38,38] ty #[.slice (some ⟨g,i*3,none⟩) (l.length+1-i) dc,.slice (aT V) 1 1]).run prog W1=.ok (goInt (Xf0 1 (l.length+1-i))) (W1.setCells g (i*3) (gp x)):=λty dc=>
  cF W1 _ _ ty 167 g (i*3) _ dc ⟨V,0,none⟩ 1 1 _ 3 underlying38 hinfo Uq
   (λj v hj=>by rw[Xg3,Xf1];exact((ab hV1).1 j).trans (by rw[PI];exact hj))
   (λj hj=>by rw[dS]at hj;exact Xe2.2 ⟨_,((ab hg1).1 _).trans (Xd2 Kz)⟩) (λj _=>(ab hg1).2.1 _) (xG x)
 rw[←hW1]at hcp1;have hg2:=du (gp x) (i*3) _ _ hg1;have hch2:=hch1.trans (bA (gp x) (i*3) W1);have HR:=OH (pU dS (x:=x) hin uL (λk hk j _ hj=>hrow k hk j hj));refine MC;go_enter func240,ntmps240;go_wp2_with (simp only[hov])
 go_region;go_wp2_with (at_builtin;refine wpList_copy_runI _ rfl _ _ 38 38 rfl _ _ rfl rfl (hcp2 _ _) ?_)
 go_ret;exact Mt
theorem BE(hg:w.heap[g]?=OC cr 167)(hsz:cr.size=l.length*3)(hrow:∀k (hk:k<l.length) j,j<3->cr[k*3+j]?=(gp l[k])[j]?)(hl:l.length<=1000)(hV:w.heap[V]?=OC (gp x).toArray 167)(hi:i<l.length) :
  az 240 #[.slice (aT g) l.length l.length,JI i,.slice (aT V) 1 1] w λe w'=>∃v',e=aA v'/\w'.ownsRow w.heap.size 167 3 v' (l.length+1) ((l.insertIdx i x).flatMap gp)/\aC w w':=by
 obtain⟨i0,hi0,hz0,hzs,hzb⟩:=aI rB;refine vB;have hinfo:(prog.info? 167).map (·.size)=some 3:=by rw[hi0];simp[hzs]
 refine Wa;have htl:((l.take i).flatMap gp).length=i*3:=by rw[bX dS,Xb5,Xf3 oM]
 have hlen:∀j v,(l.flatMap gp)[j]?=some v->w.cell? ⟨g,j,none⟩=some v:=λj v hj=>by
  have hj2:j<l.length*3:=by rw[←bX dS l];exact FT
  have e1:j=j / 3*3+j % 3:=oM;refine vf;rw[e1,bY dS l _ _ oM oM];exact hrow _ oM _ oM
 have hold:(Xe7 i0.size i (.slice (aT g) i l.length)).run prog w.drew=.ok ((l.take i).flatMap gp).toArray w.drew:=by
  rw[hzs];exact run_firstCells_some (w:=w.drew) 3 i ⟨g,0,none⟩ i l.length ((l.take i).flatMap gp) htl (λj v hj=>by refine Lx;have:j<((l.take i).flatMap gp).length:=(Xa1.1 hj).1;refine FV;rw[Xa7 this])
 refine MT;have hrz0:=λty=>Lib.run_append_grow_zeros (P:=prog) w 38 3 ty 167 i0 _ .i64 .i64 underlying38 underlying3 hi0 hz0 (aT g) i l.length _ hold (l.length+1-i) oM oM oM oM (by rw[hzb];omega) hfit
 refine MQ;obtain⟨G,hG⟩:∃G,G=grownCap w (l.length+1) l.length 167:=⟨_,rfl⟩
 refine Lz;have hG63:G<=maxLen:=by rw[hG];exact grownCap_le_maxLen w (l.length+1) l.length 167 lM
 rw[←hG]at hrz0;obtain⟨ROW,hROW⟩:∃ROW:Array Value,ROW=((l.take i).flatMap gp).toArray++Xe6 (.agg #[JI 0,JI 0,JI 0]:Value).cells (l.length+1-i)++Xe6 (.agg #[JI 0,JI 0,JI 0]:Value).cells (G- (l.length+1)):=⟨_,rfl⟩
 rw[←hROW]at hrz0;have hRs:ROW.size=G*3:=MY
 have hRr:∀k (hk:k<l.length) j,k<i->j<3->ROW[k*3+j]?=(gp l[k])[j]?:=λk hk j hki hj=>by
  have h1:k*3+j<((l.take i).flatMap gp).length:=by rw[htl];omega
  rw[hROW,Xd7,Xd5 ul,PI,bY dS _ k j xM hj,Xb3]
 clear hROW hold hG;obtain⟨W1,hW1⟩:∃W1,W1=w.drew.alloc (.cells ROW 167):=⟨_,rfl⟩
 refine MK;have hN1:W1.heap[w.heap.size]?=OC ROW 167:=K5
 have hV1:=aZ hB1 z1 hV;have hcp1:∀ty dc,(Xe5 #[38,38] ty #[.slice (some ⟨w.heap.size,i*3,none⟩) (l.length+1-i) dc,.slice (aT V) 1 1]).run prog W1=.ok (goInt (Xf0 1 (l.length+1-i))) (W1.setCells w.heap.size (i*3) (gp x)):=λty dc=>
  cF W1 _ _ ty 167 w.heap.size (i*3) _ dc ⟨V,0,none⟩ 1 1 _ 3 underlying38 hinfo Uq
   (λj v hj=>by rw[Xg3,Xf1];exact((ab hV1).1 j).trans (by rw[PI];exact hj))
   (λj hj=>by rw[dS]at hj;exact Xe2.2 ⟨_,((ab hN1).1 _).trans (Xd2 uK)⟩) (λj _=>(ab hN1).2.1 _) (xG x)
 obtain⟨W2,hW2⟩:∃W2,W2=W1.setCells w.heap.size (i*3) (gp x):=⟨_,rfl⟩
 rw[←hW2]at hcp1;have hN2:W2.heap[w.heap.size]?=OC (aS ROW (i*3) (gp x)) 167:=K7
 have hB2:aC w W2:=by rw[hW2];exact hB1.trans ((bA (gp x) (i*3) W1).below (λj e=>Cl) hB1.size)
 have hcp2:∀ty dc sc,(Xe5 #[38,38] ty #[.slice (some ⟨w.heap.size,(i+1)*3,none⟩) (l.length-i) dc,.slice (some ⟨g,i*3,none⟩) (l.length-i) sc]).run prog W2.drew=.ok (goInt (Xf0 (l.length-i) (l.length-i))) (W2.drew.setCells w.heap.size ((i+1)*3) ((l.drop i).flatMap gp)):=λty dc sc=>
  cF W2.drew _ _ ty 167 w.heap.size ((i+1)*3) _ dc ⟨g,i*3,none⟩ _ sc _ 3 underlying38 hinfo zt12
   (λj v hj=>by
    rw[Xg3];have hj2:j<(l.length-i)*3:=uU
    refine(hB2.cell (p:=⟨g,i*3+j,none⟩) z0).trans (hlen _ v (Eq.trans ?_ hj));refine LX;omega)
   (λj hj=>by rw[hdl]at hj;exact Xe2.2 ⟨_,((ab hN2).1 _).trans (Xd2 Ky)⟩) (λj _=>(ab hN2).2.1 _) (xD _)
 obtain⟨W3,hW3⟩:∃W3,W3=W2.drew.setCells w.heap.size ((i+1)*3) ((l.drop i).flatMap gp):=⟨_,rfl⟩
 rw[←hW3]at hcp2;have hN3:W3.heap[w.heap.size]?=OC (aS (aS ROW (i*3) (gp x)) ((i+1)*3) ((l.drop i).flatMap gp)) 167:=K8
 have hB3:aC w W3:=by rw[hW3];exact(bF hB2 1).trans ((bA ((l.drop i).flatMap gp) ((i+1)*3) W2.drew).below (λj e=>Cl) hB2.size)
 have hown:=eh dS (ys:=l.insertIdx i x) (cap:=G) hN3 fo Ku hG63 zt92 (tz dS (x:=x) oM uK hRr);refine zq38;go_enter func240,ntmps240;go_wp2_with (first|(at_builtin;refine Lib.wpList_append_run _ rfl _ _ _ _ rfl _ _ rfl rfl _ _ (hrz0 _) ?_)|(at_builtin;refine wpList_copy_runI _ rfl _ _ 38 38 rfl _ _ rfl rfl (hcp1 _ _) ?_))
 exact Lw
theorem lE(h:w.ownsRow B 167 3 (.slice (aT g) k cap) k (l.flatMap gp)):k=l.length/\k<=cap/\B<=g/\cap<=maxLen/\∃cr,w.heap[g]?=OC cr 167/\cr.size=cap*3/\∀i (hi:i<l.length) j,j<3->cr[i*3+j]?=(gp l[i])[j]?:=by
 have hn:k=l.length:=by have:=h.1;rw[bX dS]at this;omega
 refine FN
 .refine Li
  have hlt:i*3+j<l.length*3:=by have:(i+1)*3<=l.length*3:=Xf2 _ hi;omega
  rw[←bY dS l i j hi hj,←h7,Xa8 hlt,Xd6]
theorem ins_pe(h:w.ownsRow B 167 3 v l.length (l.flatMap gp))(hB:B<=w.heap.size)(hl:l.length<=1000)(hi:i<=l.length)(hV:w.heap[V]?=OC (gp x).toArray 167)(hVn:v.ownBlock≠some V) :
  az 240 #[v,JI i,.slice (aT V) 1 1] w λe w'=>∃v',e=aA v'/\w'.ownsRow B 167 3 v' (l.length+1) ((l.insertIdx i x).flatMap gp)/\ag (λj=>v.ownBlock=some j) w w':=by
 by_cases he:i=l.length
 .subst he
  rw[Xa6];exact Dh h hB hl hV
 .refine Lk
  .obtain⟨_,hcap,hBg,hm,cr,hg,hsz,hrow⟩:=lE h
   by_cases hc:cap=l.length
   .subst hc
    refine(BE hg hsz hrow hl hV oM).mono ?_;exact L7
   .refine(xT hg hsz hrow oM hm hl hV (λe=>hVn (by rw[e];rfl)) oM).mono ?_
    refine Mq;have:=eh dS (ys:=l.insertIdx i x) k1 hBg Kt hm k2 k3
    rwa [gF _ _ _ hi]at this
end
theorem xF(x:Su):∀u∈el x,u.oneCell'=true:=by intro u hu;simp at hu;rcases hu with rfl|rfl|rfl|rfl|rfl<;>rfl
theorem oW(l:List Su):∀u∈l.flatMap el,u.oneCell'=true:=by refine Lc;exact xF x u hx
section
variable {w:World}{B n i V:Nat}{v:Value}{l:List Su}{x:Su}
theorem Dg(h:w.ownsRow B 170 5 v l.length (l.flatMap el))(hB:B<=w.heap.size)(hl:l.length<=1000)(hV:w.heap[V]?=OC (el x).toArray 170) :
  az 255 #[v,JI l.length,.slice (aT V) 1 1] w λe w'=>∃v',e=aA v'/\w'.ownsRow B 170 5 v' (l.length+1) ((l++ [x]).flatMap el)/\ag (λj=>v.ownBlock=some j) w w':=by
 refine La;have HO:=OH h;have HV:=OH hV;have hfl:(l++ [x]).flatMap el=l.flatMap el++el x:=sM;refine LQ
 .refine Ln
  refine zq79;exact Mw
 .by_cases hc:cap=l.length
  .subst hc
   refine zq79;exact MJ
  .refine zq79
   exact MH
theorem IE(w:World):(Go.sizeOf 170).run prog w=.ok 5 w:=kM
theorem xS(hg:w.heap[g]?=OC cr 170)(hsz:cr.size=cap*5)(hrow:∀k (hk:k<l.length) j,j<5->cr[k*5+j]?=(el l[k])[j]?)(hcap:l.length+1<=cap)(hm:cap<=maxLen)(hl:l.length<=1000)(hV:w.heap[V]?=OC (el x).toArray 170)(hVg:V≠g)(hi:i<l.length) :
  az 255 #[.slice (aT g) l.length cap,JI i,.slice (aT V) 1 1] w λe w'=>e=aA (.slice (aT g) (l.length+1) cap)/\(∃cr',w'.heap[g]?=OC cr' 170/\cr'.size=cap*5/\∀k (hk:k<(l.insertIdx i x).length) j,j<5->cr'[k*5+j]?=(el (l.insertIdx i x)[k])[j]?)/\ag (λj=>j=g) w w':=by
 unfold maxLen at hm;refine vB;have hov:∀lb cb,(callFunc 289 #[.slice (aT V) 1 1,.slice (some ⟨g,(i+1)*5,none⟩) lb cb]).run prog w=.ok (.value (.bool false)) w:=λlb cb=>by
  rw[run_callFunc_extern func289 kM kM kM (e:=Extern.SlicesOverlaps.overlaps #[40,40] #[4]) kM,
   Lib.run_overlaps_apart w 40 4 170 underlying40 5 IE ⟨V,0,none⟩ ⟨g,(i+1)*5,none⟩ 1 1 lb cb hVg 170 170 5 (cap*5) (by simp[Xg7,hV]) (by simp[Xg7,hg,hsz]) oM (f1 _) (f1 _)]
  rfl
 have hinfo:(prog.info? 170).map (·.size)=some 5:=by obtain⟨i0,hi0,h0,h1,h2⟩:=aI xU;rw[hi0];simp[h1]
 refine Wd;refine zq83;have hcp1:∀ty dc sc,(Xe5 #[40,40] ty #[.slice (some ⟨g,(i+1)*5,none⟩) (l.length-i) dc,.slice (some ⟨g,i*5,none⟩) (l.length+1-i) sc]).run prog w.drew=.ok (goInt (Xf0 (l.length+1-i) (l.length-i))) (w.drew.setCells g ((i+1)*5) ((l.drop i).flatMap el)):=λty dc sc=>
  cF w.drew _ _ ty 170 g ((i+1)*5) _ dc ⟨g,i*5,none⟩ _ sc _ 5 underlying40 hinfo zt73
   (λj v hj=>by
    have hj2:j<(l.length-i)*5:=uU
    have e1:j=j / 5*5+j % 5:=oM;have e2:j / 5<(l.drop i).length:=by rw[Xb6];omega
    rw[Xg3];refine vf;rw[e1,bY ce _ _ _ e2 oM,Xb4,show i*5+(j / 5*5+j % 5)=(i+j / 5)*5+j % 5 by omega];exact hrow (i+j / 5) KE _ oM)
   (λj hj=>by rw[hdl]at hj;exact Xe2.2 ⟨_,(c0 _).trans (Xd2 uL)⟩) (λj _=>f0 _) (oW _)
 obtain⟨W1,hW1⟩:∃W1,W1=w.drew.setCells g ((i+1)*5) ((l.drop i).flatMap el):=⟨_,rfl⟩
 have hg1:W1.heap[g]?=OC (aS cr ((i+1)*5) ((l.drop i).flatMap el)) 170:=KZ
 refine Mx;have hV1:W1.heap[V]?=OC (el x).toArray 170:=ae hch1 hV hVg;have hcp2:∀ty dc,(Xe5 #[40,40] ty #[.slice (some ⟨g,i*5,none⟩) (l.length+1-i) dc,.slice (aT V) 1 1]).run prog W1=.ok (goInt (Xf0 1 (l.length+1-i))) (W1.setCells g (i*5) (el x)):=λty dc=>
  cF W1 _ _ ty 170 g (i*5) _ dc ⟨V,0,none⟩ 1 1 _ 5 underlying40 hinfo Ur
   (λj v hj=>by rw[Xg3,Xf1];exact((ab hV1).1 j).trans (by rw[PI];exact hj))
   (λj hj=>by rw[ce]at hj;exact Xe2.2 ⟨_,((ab hg1).1 _).trans (Xd2 Kz)⟩) (λj _=>(ab hg1).2.1 _) (xF x)
 rw[←hW1]at hcp1;have hg2:=du (el x) (i*5) _ _ hg1;have hch2:=hch1.trans (bA (el x) (i*5) W1);have HR:=OH (pU ce (x:=x) hin uL (λk hk j _ hj=>hrow k hk j hj));refine MC;go_enter func255,ntmps255;go_wp2_with (simp only[hov])
 go_region;go_wp2_with (at_builtin;refine wpList_copy_runI _ rfl _ _ 40 40 rfl _ _ rfl rfl (hcp2 _ _) ?_)
 go_ret;exact Mt
theorem BC(hg:w.heap[g]?=OC cr 170)(hsz:cr.size=l.length*5)(hrow:∀k (hk:k<l.length) j,j<5->cr[k*5+j]?=(el l[k])[j]?)(hl:l.length<=1000)(hV:w.heap[V]?=OC (el x).toArray 170)(hi:i<l.length) :
  az 255 #[.slice (aT g) l.length l.length,JI i,.slice (aT V) 1 1] w λe w'=>∃v',e=aA v'/\w'.ownsRow w.heap.size 170 5 v' (l.length+1) ((l.insertIdx i x).flatMap el)/\aC w w':=by
 obtain⟨i0,hi0,hz0,hzs,hzb⟩:=aI xU;refine vB;have hinfo:(prog.info? 170).map (·.size)=some 5:=by rw[hi0];simp[hzs]
 refine Wd;have htl:((l.take i).flatMap el).length=i*5:=by rw[bX ce,Xb5,Xf3 oM]
 have hlen:∀j v,(l.flatMap el)[j]?=some v->w.cell? ⟨g,j,none⟩=some v:=λj v hj=>by
  have hj2:j<l.length*5:=by rw[←bX ce l];exact FT
  have e1:j=j / 5*5+j % 5:=oM;refine vf;rw[e1,bY ce l _ _ oM oM];exact hrow _ oM _ oM
 have hold:(Xe7 i0.size i (.slice (aT g) i l.length)).run prog w.drew=.ok ((l.take i).flatMap el).toArray w.drew:=by
  rw[hzs];exact run_firstCells_some (w:=w.drew) 5 i ⟨g,0,none⟩ i l.length ((l.take i).flatMap el) htl (λj v hj=>by refine Lx;have:j<((l.take i).flatMap el).length:=(Xa1.1 hj).1;refine FV;rw[Xa7 this])
 refine MT;have hrz0:=λty=>Lib.run_append_grow_zeros (P:=prog) w 40 3 ty 170 i0 _ .i64 .i64 underlying40 underlying3 hi0 hz0 (aT g) i l.length _ hold (l.length+1-i) oM oM oM oM (by rw[hzb];omega) hfit
 refine MQ;obtain⟨G,hG⟩:∃G,G=grownCap w (l.length+1) l.length 170:=⟨_,rfl⟩
 refine Lz;have hG63:G<=maxLen:=by rw[hG];exact grownCap_le_maxLen w (l.length+1) l.length 170 lM
 rw[←hG]at hrz0;obtain⟨ROW,hROW⟩:∃ROW:Array Value,ROW=((l.take i).flatMap el).toArray++Xe6 (.agg #[JI 0,JI 0,JI 0,JI 0,.bool false]:Value).cells (l.length+1-i)++Xe6 (.agg #[JI 0,JI 0,JI 0,JI 0,.bool false]:Value).cells (G- (l.length+1)):=⟨_,rfl⟩
 rw[←hROW]at hrz0;have hRs:ROW.size=G*5:=MY
 have hRr:∀k (hk:k<l.length) j,k<i->j<5->ROW[k*5+j]?=(el l[k])[j]?:=λk hk j hki hj=>by
  have h1:k*5+j<((l.take i).flatMap el).length:=by rw[htl];omega
  rw[hROW,Xd7,Xd5 ul,PI,bY ce _ k j xM hj,Xb3]
 clear hROW hold hG;obtain⟨W1,hW1⟩:∃W1,W1=w.drew.alloc (.cells ROW 170):=⟨_,rfl⟩
 refine MK;have hN1:W1.heap[w.heap.size]?=OC ROW 170:=K5
 have hV1:=aZ hB1 z1 hV;have hcp1:∀ty dc,(Xe5 #[40,40] ty #[.slice (some ⟨w.heap.size,i*5,none⟩) (l.length+1-i) dc,.slice (aT V) 1 1]).run prog W1=.ok (goInt (Xf0 1 (l.length+1-i))) (W1.setCells w.heap.size (i*5) (el x)):=λty dc=>
  cF W1 _ _ ty 170 w.heap.size (i*5) _ dc ⟨V,0,none⟩ 1 1 _ 5 underlying40 hinfo Ur
   (λj v hj=>by rw[Xg3,Xf1];exact((ab hV1).1 j).trans (by rw[PI];exact hj))
   (λj hj=>by rw[ce]at hj;exact Xe2.2 ⟨_,((ab hN1).1 _).trans (Xd2 uK)⟩) (λj _=>(ab hN1).2.1 _) (xF x)
 obtain⟨W2,hW2⟩:∃W2,W2=W1.setCells w.heap.size (i*5) (el x):=⟨_,rfl⟩
 rw[←hW2]at hcp1;have hN2:W2.heap[w.heap.size]?=OC (aS ROW (i*5) (el x)) 170:=K7
 have hB2:aC w W2:=by rw[hW2];exact hB1.trans ((bA (el x) (i*5) W1).below (λj e=>Cl) hB1.size)
 have hcp2:∀ty dc sc,(Xe5 #[40,40] ty #[.slice (some ⟨w.heap.size,(i+1)*5,none⟩) (l.length-i) dc,.slice (some ⟨g,i*5,none⟩) (l.length-i) sc]).run prog W2.drew=.ok (goInt (Xf0 (l.length-i) (l.length-i))) (W2.drew.setCells w.heap.size ((i+1)*5) ((l.drop i).flatMap el)):=λty dc sc=>
  cF W2.drew _ _ ty 170 w.heap.size ((i+1)*5) _ dc ⟨g,i*5,none⟩ _ sc _ 5 underlying40 hinfo zt12
   (λj v hj=>by
    rw[Xg3];have hj2:j<(l.length-i)*5:=uU
    refine(hB2.cell (p:=⟨g,i*5+j,none⟩) z0).trans (hlen _ v (Eq.trans ?_ hj));refine LX;omega)
   (λj hj=>by rw[hdl]at hj;exact Xe2.2 ⟨_,((ab hN2).1 _).trans (Xd2 Ky)⟩) (λj _=>(ab hN2).2.1 _) (oW _)
 obtain⟨W3,hW3⟩:∃W3,W3=W2.drew.setCells w.heap.size ((i+1)*5) ((l.drop i).flatMap el):=⟨_,rfl⟩
 rw[←hW3]at hcp2;have hN3:W3.heap[w.heap.size]?=OC (aS (aS ROW (i*5) (el x)) ((i+1)*5) ((l.drop i).flatMap el)) 170:=K8
 have hB3:aC w W3:=by rw[hW3];exact(bF hB2 1).trans ((bA ((l.drop i).flatMap el) ((i+1)*5) W2.drew).below (λj e=>Cl) hB2.size)
 have hown:=eh ce (ys:=l.insertIdx i x) (cap:=G) hN3 fo Ku hG63 zt92 (tz ce (x:=x) oM uK hRr);refine zq38;go_enter func255,ntmps255;go_wp2_with (first|(at_builtin;refine Lib.wpList_append_run _ rfl _ _ _ _ rfl _ _ rfl rfl _ _ (hrz0 _) ?_)|(at_builtin;refine wpList_copy_runI _ rfl _ _ 40 40 rfl _ _ rfl rfl (hcp1 _ _) ?_))
 exact Lw
theorem it(h:w.ownsRow B 170 5 (.slice (aT g) k cap) k (l.flatMap el)):k=l.length/\k<=cap/\B<=g/\cap<=maxLen/\∃cr,w.heap[g]?=OC cr 170/\cr.size=cap*5/\∀i (hi:i<l.length) j,j<5->cr[i*5+j]?=(el l[i])[j]?:=by
 have hn:k=l.length:=by have:=h.1;rw[bX ce]at this;omega
 refine FN
 .refine Li
  have hlt:i*5+j<l.length*5:=by have:(i+1)*5<=l.length*5:=Xf2 _ hi;omega
  rw[←bY ce l i j hi hj,←h7,Xa8 hlt,Xd6]
theorem ins_su(h:w.ownsRow B 170 5 v l.length (l.flatMap el))(hB:B<=w.heap.size)(hl:l.length<=1000)(hi:i<=l.length)(hV:w.heap[V]?=OC (el x).toArray 170)(hVn:v.ownBlock≠some V) :
  az 255 #[v,JI i,.slice (aT V) 1 1] w λe w'=>∃v',e=aA v'/\w'.ownsRow B 170 5 v' (l.length+1) ((l.insertIdx i x).flatMap el)/\ag (λj=>v.ownBlock=some j) w w':=by
 by_cases he:i=l.length
 .subst he
  rw[Xa6];exact Dg h hB hl hV
 .refine Lk
  .obtain⟨_,hcap,hBg,hm,cr,hg,hsz,hrow⟩:=it h
   by_cases hc:cap=l.length
   .subst hc
    refine(BC hg hsz hrow hl hV oM).mono ?_;exact L7
   .refine(xS hg hsz hrow oM hm hl hV (λe=>hVn (by rw[e];rfl)) oM).mono ?_
    refine Mq;have:=eh ce (ys:=l.insertIdx i x) k1 hBg Kt hm k2 k3
    rwa [gF _ _ _ hi]at this
end
theorem xE(x:Tk):∀u∈eU x,u.oneCell'=true:=by intro u hu;simp at hu;rcases hu with rfl|rfl|rfl|rfl<;>rfl
theorem xC(l:List Tk):∀u∈l.flatMap eU,u.oneCell'=true:=by refine Lc;exact xE x u hx
section
variable {w:World}{B n i V:Nat}{v:Value}{l:List Tk}{x:Tk}
theorem Df(h:w.ownsRow B 173 4 v l.length (l.flatMap eU))(hB:B<=w.heap.size)(hl:l.length<=1000)(hV:w.heap[V]?=OC (eU x).toArray 173) :
  az 249 #[v,JI l.length,.slice (aT V) 1 1] w λe w'=>∃v',e=aA v'/\w'.ownsRow B 173 4 v' (l.length+1) ((l++ [x]).flatMap eU)/\ag (λj=>v.ownBlock=some j) w w':=by
 obtain⟨i0,hi,hz0,hz1,hz2⟩:=aI rA;have HO:=OH h;have HV:=OH hV;have hfl:(l++ [x]).flatMap eU=l.flatMap eU++eU x:=sM;refine LQ
 .refine Ln
  refine zq81;exact Mw
 .by_cases hc:cap=l.length
  .subst hc
   refine zq81;exact MJ
  .refine zq81
   exact MH
theorem ID(w:World):(Go.sizeOf 173).run prog w=.ok 4 w:=kM
theorem xR(hg:w.heap[g]?=OC cr 173)(hsz:cr.size=cap*4)(hrow:∀k (hk:k<l.length) j,j<4->cr[k*4+j]?=(eU l[k])[j]?)(hcap:l.length+1<=cap)(hm:cap<=maxLen)(hl:l.length<=1000)(hV:w.heap[V]?=OC (eU x).toArray 173)(hVg:V≠g)(hi:i<l.length) :
  az 249 #[.slice (aT g) l.length cap,JI i,.slice (aT V) 1 1] w λe w'=>e=aA (.slice (aT g) (l.length+1) cap)/\(∃cr',w'.heap[g]?=OC cr' 173/\cr'.size=cap*4/\∀k (hk:k<(l.insertIdx i x).length) j,j<4->cr'[k*4+j]?=(eU (l.insertIdx i x)[k])[j]?)/\ag (λj=>j=g) w w':=by
 unfold maxLen at hm;refine vB;have hov:∀lb cb,(callFunc 287 #[.slice (aT V) 1 1,.slice (some ⟨g,(i+1)*4,none⟩) lb cb]).run prog w=.ok (.value (.bool false)) w:=λlb cb=>by
  rw[run_callFunc_extern func287 kM kM kM (e:=Extern.SlicesOverlaps.overlaps #[39,39] #[4]) kM,
   Lib.run_overlaps_apart w 39 4 173 underlying39 4 ID ⟨V,0,none⟩ ⟨g,(i+1)*4,none⟩ 1 1 lb cb hVg 173 173 4 (cap*4) (by simp[Xg7,hV]) (by simp[Xg7,hg,hsz]) oM (f1 _) (f1 _)]
  rfl
 have hinfo:(prog.info? 173).map (·.size)=some 4:=by obtain⟨i0,hi0,h0,h1,h2⟩:=aI rA;rw[hi0];simp[h1]
 refine Wb;refine zq83;have hcp1:∀ty dc sc,(Xe5 #[39,39] ty #[.slice (some ⟨g,(i+1)*4,none⟩) (l.length-i) dc,.slice (some ⟨g,i*4,none⟩) (l.length+1-i) sc]).run prog w.drew=.ok (goInt (Xf0 (l.length+1-i) (l.length-i))) (w.drew.setCells g ((i+1)*4) ((l.drop i).flatMap eU)):=λty dc sc=>
  cF w.drew _ _ ty 173 g ((i+1)*4) _ dc ⟨g,i*4,none⟩ _ sc _ 4 underlying39 hinfo zt73
   (λj v hj=>by
    have hj2:j<(l.length-i)*4:=uU
    have e1:j=j / 4*4+j % 4:=oM;have e2:j / 4<(l.drop i).length:=by rw[Xb6];omega
    rw[Xg3];refine vf;rw[e1,bY dt _ _ _ e2 oM,Xb4,show i*4+(j / 4*4+j % 4)=(i+j / 4)*4+j % 4 by omega];exact hrow (i+j / 4) KE _ oM)
   (λj hj=>by rw[hdl]at hj;exact Xe2.2 ⟨_,(c0 _).trans (Xd2 uL)⟩) (λj _=>f0 _) (xC _)
 obtain⟨W1,hW1⟩:∃W1,W1=w.drew.setCells g ((i+1)*4) ((l.drop i).flatMap eU):=⟨_,rfl⟩
 have hg1:W1.heap[g]?=OC (aS cr ((i+1)*4) ((l.drop i).flatMap eU)) 173:=KZ
 refine Mx;have hV1:W1.heap[V]?=OC (eU x).toArray 173:=ae hch1 hV hVg;have hcp2:∀ty dc,(Xe5 #[39,39] ty #[.slice (some ⟨g,i*4,none⟩) (l.length+1-i) dc,.slice (aT V) 1 1]).run prog W1=.ok (goInt (Xf0 1 (l.length+1-i))) (W1.setCells g (i*4) (eU x)):=λty dc=>
  cF W1 _ _ ty 173 g (i*4) _ dc ⟨V,0,none⟩ 1 1 _ 4 underlying39 hinfo Us
   (λj v hj=>by rw[Xg3,Xf1];exact((ab hV1).1 j).trans (by rw[PI];exact hj))
   (λj hj=>by rw[dt]at hj;exact Xe2.2 ⟨_,((ab hg1).1 _).trans (Xd2 Kz)⟩) (λj _=>(ab hg1).2.1 _) (xE x)
 rw[←hW1]at hcp1;have hg2:=du (eU x) (i*4) _ _ hg1;have hch2:=hch1.trans (bA (eU x) (i*4) W1);have HR:=OH (pU dt (x:=x) hin uL (λk hk j _ hj=>hrow k hk j hj));refine MC;go_enter func249,ntmps249;go_wp2_with (simp only[hov])
 go_region;go_wp2_with (at_builtin;refine wpList_copy_runI _ rfl _ _ 39 39 rfl _ _ rfl rfl (hcp2 _ _) ?_)
 go_ret;exact Mt
theorem BA(hg:w.heap[g]?=OC cr 173)(hsz:cr.size=l.length*4)(hrow:∀k (hk:k<l.length) j,j<4->cr[k*4+j]?=(eU l[k])[j]?)(hl:l.length<=1000)(hV:w.heap[V]?=OC (eU x).toArray 173)(hi:i<l.length) :
  az 249 #[.slice (aT g) l.length l.length,JI i,.slice (aT V) 1 1] w λe w'=>∃v',e=aA v'/\w'.ownsRow w.heap.size 173 4 v' (l.length+1) ((l.insertIdx i x).flatMap eU)/\aC w w':=by
 obtain⟨i0,hi0,hz0,hzs,hzb⟩:=aI rA;refine vB;have hinfo:(prog.info? 173).map (·.size)=some 4:=by rw[hi0];simp[hzs]
 refine Wb;have htl:((l.take i).flatMap eU).length=i*4:=by rw[bX dt,Xb5,Xf3 oM]
 have hlen:∀j v,(l.flatMap eU)[j]?=some v->w.cell? ⟨g,j,none⟩=some v:=λj v hj=>by
  have hj2:j<l.length*4:=by rw[←bX dt l];exact FT
  have e1:j=j / 4*4+j % 4:=oM;refine vf;rw[e1,bY dt l _ _ oM oM];exact hrow _ oM _ oM
 have hold:(Xe7 i0.size i (.slice (aT g) i l.length)).run prog w.drew=.ok ((l.take i).flatMap eU).toArray w.drew:=by
  rw[hzs];exact run_firstCells_some (w:=w.drew) 4 i ⟨g,0,none⟩ i l.length ((l.take i).flatMap eU) htl (λj v hj=>by refine Lx;have:j<((l.take i).flatMap eU).length:=(Xa1.1 hj).1;refine FV;rw[Xa7 this])
 refine MT;have hrz0:=λty=>Lib.run_append_grow_zeros (P:=prog) w 39 3 ty 173 i0 _ .i64 .i64 underlying39 underlying3 hi0 hz0 (aT g) i l.length _ hold (l.length+1-i) oM oM oM oM (by rw[hzb];omega) hfit
 refine MQ;obtain⟨G,hG⟩:∃G,G=grownCap w (l.length+1) l.length 173:=⟨_,rfl⟩
 refine Lz;have hG63:G<=maxLen:=by rw[hG];exact grownCap_le_maxLen w (l.length+1) l.length 173 lM
 rw[←hG]at hrz0;obtain⟨ROW,hROW⟩:∃ROW:Array Value,ROW=((l.take i).flatMap eU).toArray++Xe6 (.agg #[JI 0,JI 0,JI 0,.slice none 0 0]:Value).cells (l.length+1-i)++Xe6 (.agg #[JI 0,JI 0,JI 0,.slice none 0 0]:Value).cells (G- (l.length+1)):=⟨_,rfl⟩
 rw[←hROW]at hrz0;have hRs:ROW.size=G*4:=MY
 have hRr:∀k (hk:k<l.length) j,k<i->j<4->ROW[k*4+j]?=(eU l[k])[j]?:=λk hk j hki hj=>by
  have h1:k*4+j<((l.take i).flatMap eU).length:=by rw[htl];omega
  rw[hROW,Xd7,Xd5 ul,PI,bY dt _ k j xM hj,Xb3]
 clear hROW hold hG;obtain⟨W1,hW1⟩:∃W1,W1=w.drew.alloc (.cells ROW 173):=⟨_,rfl⟩
 refine MK;have hN1:W1.heap[w.heap.size]?=OC ROW 173:=K5
 have hV1:=aZ hB1 z1 hV;have hcp1:∀ty dc,(Xe5 #[39,39] ty #[.slice (some ⟨w.heap.size,i*4,none⟩) (l.length+1-i) dc,.slice (aT V) 1 1]).run prog W1=.ok (goInt (Xf0 1 (l.length+1-i))) (W1.setCells w.heap.size (i*4) (eU x)):=λty dc=>
  cF W1 _ _ ty 173 w.heap.size (i*4) _ dc ⟨V,0,none⟩ 1 1 _ 4 underlying39 hinfo Us
   (λj v hj=>by rw[Xg3,Xf1];exact((ab hV1).1 j).trans (by rw[PI];exact hj))
   (λj hj=>by rw[dt]at hj;exact Xe2.2 ⟨_,((ab hN1).1 _).trans (Xd2 uK)⟩) (λj _=>(ab hN1).2.1 _) (xE x)
 obtain⟨W2,hW2⟩:∃W2,W2=W1.setCells w.heap.size (i*4) (eU x):=⟨_,rfl⟩
 rw[←hW2]at hcp1;have hN2:W2.heap[w.heap.size]?=OC (aS ROW (i*4) (eU x)) 173:=K7
 have hB2:aC w W2:=by rw[hW2];exact hB1.trans ((bA (eU x) (i*4) W1).below (λj e=>Cl) hB1.size)
 have hcp2:∀ty dc sc,(Xe5 #[39,39] ty #[.slice (some ⟨w.heap.size,(i+1)*4,none⟩) (l.length-i) dc,.slice (some ⟨g,i*4,none⟩) (l.length-i) sc]).run prog W2.drew=.ok (goInt (Xf0 (l.length-i) (l.length-i))) (W2.drew.setCells w.heap.size ((i+1)*4) ((l.drop i).flatMap eU)):=λty dc sc=>
  cF W2.drew _ _ ty 173 w.heap.size ((i+1)*4) _ dc ⟨g,i*4,none⟩ _ sc _ 4 underlying39 hinfo zt12
   (λj v hj=>by
    rw[Xg3];have hj2:j<(l.length-i)*4:=uU
    refine(hB2.cell (p:=⟨g,i*4+j,none⟩) z0).trans (hlen _ v (Eq.trans ?_ hj));refine LX;omega)
   (λj hj=>by rw[hdl]at hj;exact Xe2.2 ⟨_,((ab hN2).1 _).trans (Xd2 Ky)⟩) (λj _=>(ab hN2).2.1 _) (xC _)
 obtain⟨W3,hW3⟩:∃W3,W3=W2.drew.setCells w.heap.size ((i+1)*4) ((l.drop i).flatMap eU):=⟨_,rfl⟩
 rw[←hW3]at hcp2;have hN3:W3.heap[w.heap.size]?=OC (aS (aS ROW (i*4) (eU x)) ((i+1)*4) ((l.drop i).flatMap eU)) 173:=K8
 have hB3:aC w W3:=by rw[hW3];exact(bF hB2 1).trans ((bA ((l.drop i).flatMap eU) ((i+1)*4) W2.drew).below (λj e=>Cl) hB2.size)
 have hown:=eh dt (ys:=l.insertIdx i x) (cap:=G) hN3 fo Ku hG63 zt92 (tz dt (x:=x) oM uK hRr);refine zq38;go_enter func249,ntmps249;go_wp2_with (first|(at_builtin;refine Lib.wpList_append_run _ rfl _ _ _ _ rfl _ _ rfl rfl _ _ (hrz0 _) ?_)|(at_builtin;refine wpList_copy_runI _ rfl _ _ 39 39 rfl _ _ rfl rfl (hcp1 _ _) ?_))
 exact Lw
theorem gH(h:w.ownsRow B 173 4 (.slice (aT g) k cap) k (l.flatMap eU)):k=l.length/\k<=cap/\B<=g/\cap<=maxLen/\∃cr,w.heap[g]?=OC cr 173/\cr.size=cap*4/\∀i (hi:i<l.length) j,j<4->cr[i*4+j]?=(eU l[i])[j]?:=by
 have hn:k=l.length:=by have:=h.1;rw[bX dt]at this;omega
 refine FN
 .refine Li
  have hlt:i*4+j<l.length*4:=by have:(i+1)*4<=l.length*4:=Xf2 _ hi;omega
  rw[←bY dt l i j hi hj,←h7,Xa8 hlt,Xd6]
theorem ins_tk(h:w.ownsRow B 173 4 v l.length (l.flatMap eU))(hB:B<=w.heap.size)(hl:l.length<=1000)(hi:i<=l.length)(hV:w.heap[V]?=OC (eU x).toArray 173)(hVn:v.ownBlock≠some V) :
  az 249 #[v,JI i,.slice (aT V) 1 1] w λe w'=>∃v',e=aA v'/\w'.ownsRow B 173 4 v' (l.length+1) ((l.insertIdx i x).flatMap eU)/\ag (λj=>v.ownBlock=some j) w w':=by
 by_cases he:i=l.length
 .subst he
  rw[Xa6];exact Df h hB hl hV
 .refine Lk
  .obtain⟨_,hcap,hBg,hm,cr,hg,hsz,hrow⟩:=gH h
   by_cases hc:cap=l.length
   .subst hc
    refine(BA hg hsz hrow hl hV oM).mono ?_;exact L7
   .refine(xR hg hsz hrow oM hm hl hV (λe=>hVn (by rw[e];rfl)) oM).mono ?_
    refine Mq;have:=eh dt (ys:=l.insertIdx i x) k1 hBg Kt hm k2 k3
    rwa [gF _ _ _ hi]at this
end
section
open Go.RowKit Go.Maps
def fE(v:Value):Option (DataW Value×List MemPlace):=some (.held v,[])
structure aP(w:World)(P:Program)(k:TypeId)(q:IntKind)(b n:Nat)(f:Int->Option Value):Prop where
 own:∃D:DataW Value,w.ownsMap P k fE b n D/\∀x,(Xg5 q x).wf=true->(f x=none->has D (.int q x)=false)/\(∀v,f x=some v->has D (.int q x)=true/\∀z,D.atKey (.int q x) z=.held v)
section
variable {w w':World}{P:Program}{k e t:TypeId}{q:IntKind}{b n:Nat}{f:Int->Option Value}
theorem GZ{x:Int}:WideAt.IsKeyLit (Xg5 q x):=trivial
theorem aP.made(w:World)(P:Program)(k:TypeId)(q:IntKind):aP (w.alloc (.map #[] 0)) P k q w.heap.size 0 (λ_=>none):=
 ⟨_,World.ownsMap_made w P k fE,λx _=>⟨λ_=>rfl,λv h=>rF⟩⟩
theorem aP.congr{g:Int->Option Value}(h:aP w P k q b n f)(hg:∀x,f x=g x):aP w P k q b n g:=by obtain rfl:f=g:=funext hg;exact h
theorem aP.mono(h:aP w P k q b n f){m:Nat}(hm:n<=m):aP w P k q b m f:=by obtain⟨D,h1,h2⟩:=h.own;exact⟨D,h1.mono hm,h2⟩
theorem aP.lt(h:aP w P k q b n f):b<w.heap.size:=by obtain⟨D,h1,_⟩:=h.own;exact h1.lt
theorem aP.same(h:aP w P k q b n f)(hb:w'.heap[b]?=w.heap[b]?):aP w' P k q b n f:=by obtain⟨D,⟨es,clock,h1,h2⟩,h3⟩:=h.own;exact⟨D,⟨es,clock,hb.trans h1,h2⟩,h3⟩
theorem aP.below(h:aP w P k q b n f)(hb:aC w w'):aP w' P k q b n f:=h.same (hb.block b h.lt)
theorem aP.alloc(h:aP w P k q b n f)(o:Obj):aP (w.alloc o) P k q b n f:=h.same (dZ w o b h.lt)
theorem aP.drewN(h:aP w P k q b n f)(m:Nat):aP (w.drewN m) P k q b n f:=h.same rfl
theorem aP.drew(h:aP w P k q b n f):aP w.drew P k q b n f:=h.same rfl
theorem aP.set(h:aP w P k q b n f){a:Addr}(ha:b≠a.block)(u:Value):aP (w.setCell a u) P k q b n f:=h.same (eA w a u b ha)
theorem aP.not_cells(h:aP w P k q b n f)(hg:w.heap[g]?=some (.cells c t fz)):b≠g:=by rintro rfl;obtain⟨D,⟨es,clock,h1,_⟩,_⟩:=h.own;rw[hg]at h1;cases h1
theorem aP.grown(h:aP w P k q b n f){row:Option Nat}(hg:w.grownBy w' row)(hne:some b≠row):aP w' P k q b n f:=h.same (hg.block b h.lt hne)
theorem tD{z:DataW Value×List MemPlace}(h:fE v=some z):z=(.held v,[]):=by cases h;rfl
theorem aP.put(h:aP w P k q b n f){x:Int}(hx:(Xg5 q x).wf=true)(h1:w.ownsMap P k fE b n D)(h2:∀x,(Xg5 q x).wf=true->(f x=none->has D (.int q x)=false)/\(∀v,f x=some v->has D (.int q x)=true/\∀z,D.atKey (.int q x) z=.held v))(hw:w'.ownsMap P k fE b (n+1) (D.put (.int q x) (.held v))):aP w' P k q b (n+1) (λy=>if y=x then some v else f y):=by
 refine⟨_,hw,λy hy=>?_⟩;by_cases e:y=x
 .subst e
  rw[if_pos rfl];refine⟨(λh=>rF),λu hu=>?_⟩;cases hu;exact⟨has_put_same h1.isMap GZ _,λz=>atKey_put_same h1.isMap GZ _ _⟩
 .refine UM
  rw[has_put_other hne];refine⟨(h2 y hy).1,λu hu=>⟨((h2 y hy).2 u hu).1,λz=>?_⟩⟩;rw[atKey_put_other hne];exact((h2 y hy).2 u hu).2 z
theorem aP.del(h:aP w P k q b n f){x:Int}(hx:(Xg5 q x).wf=true)(h2:∀x,(Xg5 q x).wf=true->(f x=none->has D (.int q x)=false)/\(∀v,f x=some v->has D (.int q x)=true/\∀z,D.atKey (.int q x) z=.held v))(hw:w'.ownsMap P k fE b n (D.del (.int q x))):aP w' P k q b n (λy=>if y=x then none else f y):=by
 refine⟨_,hw,λy hy=>?_⟩;by_cases e:y=x
 .subst e
  rw[if_pos rfl];exact⟨λ_=>has_del_same,λu hu=>by cases hu⟩
 .refine UM
  rw[has_del_other hne];refine⟨(h2 y hy).1,λu hu=>⟨((h2 y hy).2 u hu).1,λz=>?_⟩⟩;rw[atKey_del_other hne];exact((h2 y hy).2 u hu).2 z
end
section
variable {P:Program}(w:World){ops:Array Oper}{rest:List Oper}{o:Oper}{a:Act}{Q:Exit->Act->World->Prop}
theorem qW(hg:o.guard=none)(m x:Operand)(t:TypeId)(hop:o.op=Op.lookup t m x true)(k e:TypeId)(q:IntKind)(hk:P.underlying k=some (.int q))(ht:P.underlying t=some (.map k e))(hz:(zeroValue e).run P w=.ok z w)(b n:Nat)(f:Int->Option Value)(hm:a.eval m=.map (some b))(hown:aP w P k q b n f)(y:Int)(hx:a.eval x=.int q y)(hy:(Xg5 q y).wf=true)(hK:wpList P ops Q rest (a.put o.dst (.tuple #[(f y).getD z,.bool (f y).isSome])) w) :
  wpList P ops Q (o::rest) a w:=by
 obtain⟨D,h1,h2⟩:=hown.own;refine wpList_lookup_own_ok w hg m x t hop k e (int_keyed hk) ht fE hz (.held z) [] rfl b n D hm h1 _ (.int q y) hx (keyOf_int_mk hk hy) (λv ps hv=>?_);have hv':=tD hv;cases hf:f y with
 |none=>
  have hh:=(h2 y hy).1 hf;rw[atKey_of_not_has hh]at hv';refine vn;rw[hh,←hv'.1];rw[hf]at hK;exact hK
 |some u=>obtain⟨hh,hat⟩:=(h2 y hy).2 u hf;rw[hat]at hv';refine vn;rw[hh,←hv'.1];rw[hf]at hK;exact hK
theorem aP.look{w:World}{k:TypeId}(h:aP w P k q b n f)(hk:P.underlying k=some (.int q))(ht:P.underlying t=some (.map k e))(hz:(zeroValue e).run P w=.ok z w)(hy:(Xg5 q y).wf=true)(h1:(f y).getD z=v)(h2:(f y).isSome=is) :
  (Xf6 t (.map (some b)) (.int q y) true).run P w=.ok (.tuple #[v,.bool is]) w:=by
 obtain⟨D,g1,g2⟩:=h.own;obtain⟨v',ps,hrun,hv⟩:=g1.look_ok (int_keyed hk) ht hz (zd:=.held z) (zp:=[]) rfl (keyOf_int_mk hk hy);have hv':=tD hv;rw[hrun];subst h1 h2;cases hf:f y with
 |none=>
  have hh:=(g2 y hy).1 hf;rw[atKey_of_not_has hh]at hv';refine vn;rw[←hv'.1,hh];rfl
 |some u=>obtain⟨hh,hat⟩:=(g2 y hy).2 u hf;rw[hat]at hv';refine vn;rw[←hv'.1,hh];rfl
theorem aP.get{w:World}{k:TypeId}(h:aP w P k q b n f)(hk:P.underlying k=some (.int q))(ht:P.underlying t=some (.map k e))(hz:(zeroValue e).run P w=.ok z w)(hy:(Xg5 q y).wf=true) :
  (Xf6 t (.map (some b)) (.int q y) false).run P w=.ok ((f y).getD z) w:=by
 obtain⟨D,h1,h2⟩:=h.own;obtain⟨v,ps,hrun,hv⟩:=h1.lookup (int_keyed hk) ht hz (zd:=.held z) (zp:=[]) rfl (keyOf_int_mk hk hy);have hv':=tD hv;rw[hrun];cases hf:f y with
 |none=>
  rw[atKey_of_not_has ((h2 y hy).1 hf)]at hv';refine vn;rw[←hv'.1];rfl
 |some u=>rw[((h2 y hy).2 u hf).2]at hv';refine vn;rw[←hv'.1];rfl
theorem sG(hg:o.guard=none)(m x:Operand)(t:TypeId)(hop:o.op=Op.lookup t m x false)(k e:TypeId)(q:IntKind)(hk:P.underlying k=some (.int q))(ht:P.underlying t=some (.map k e))(hz:(zeroValue e).run P w=.ok z w)(b n:Nat)(f:Int->Option Value)(hm:a.eval m=.map (some b))(hown:aP w P k q b n f)(y:Int)(hx:a.eval x=.int q y)(hy:(Xg5 q y).wf=true)(hK:wpList P ops Q rest (a.put o.dst ((f y).getD z)) w) :
  wpList P ops Q (o::rest) a w:=by
 refine wpList_plain hg λK' hK'=>?_
 unfold Oper.wp;simp[execOp,hop,hm,hx,hown.get hk ht hz hy,Xg4];exact hK' _ _ (by simpa using hK)
theorem fe(hg:o.guard=none)(m x v:Operand)(t:TypeId)(hop:o.op=Op.mapUpdate t m x v)(k e:TypeId)(q:IntKind)(hk:P.underlying k=some (.int q))(ht:P.underlying t=some (.map k e))(b n:Nat)(f:Int->Option Value)(hm:a.eval m=.map (some b))(hown:aP w P k q b n f)(hn:n<maxLen)(y:Int)(val:Value)(hx:a.eval x=.int q y)(hv:a.eval v=val)(hy:(Xg5 q y).wf=true)(hK:∀w',aP w' P k q b (n+1) (λz=>if z=y then some val else f z)->w.grownBy w' (some b)->wpList P ops Q rest (a.put o.dst undef) w') :
  wpList P ops Q (o::rest) a w:=by
 obtain⟨D,h1,h2⟩:=hown.own;exact wpList_mapUpdate_own w hg m x v t hop k e (int_keyed hk) ht fE b n D hm h1 hn _ val (.int q y) hx hv (keyOf_int_mk hk hy) (.held val) [] rfl (λw' q1 q2=>hK w' (hown.put hy h1 h2 q1) q2)
theorem jr(hg:o.guard=none)(m x:Operand)(t k:TypeId)(hop:o.op=Op.call {callee:=Callee.builtin Builtin.delete,args:=#[m,x],argTypes:=#[t,k] })(e:TypeId)(q:IntKind)(hk:P.underlying k=some (.int q))(ht:P.underlying t=some (.map k e))(b n:Nat)(f:Int->Option Value)(hm:a.eval m=.map (some b))(hown:aP w P k q b n f)(y:Int)(hx:a.eval x=.int q y)(hy:(Xg5 q y).wf=true)(hK:∀w',aP w' P k q b n (λz=>if z=y then none else f z)->w.grownBy w' (some b)->wpList P ops Q rest (a.put o.dst (.tuple #[])) w') :
  wpList P ops Q (o::rest) a w:=by
 obtain⟨D,h1,h2⟩:=hown.own;exact wpList_delete_own w hg m x t k hop e (int_keyed hk) ht fE b n D hm h1 _ (.int q y) hx (keyOf_int_mk hk hy) (λw' q1 q2=>hK w' (hown.del hy h2 q1) q2.grown)
theorem ex(hg:o.guard=none)(m x:Operand)(t:TypeId)(hop:o.op=Op.lookup t m x true)(k e:TypeId)(q:IntKind)(hk:P.underlying k=some (.int q))(ht:P.underlying t=some (.map k e))(hz:(zeroValue e).run P w=.ok z w)(b n:Nat)(f:Int->Option Value)(hm:a.eval m=.map (some b))(hown:aP w P k q b n f)(y:Int)(hx:a.eval x=.int q y)(hy:(Xg5 q y).wf=true)(val:Value)(is:Bool)(h1:(f y).getD z=val)(h2:(f y).isSome=is)(hK:wpList P ops Q rest (a.put o.dst (.tuple #[val,.bool is])) w) :
  wpList P ops Q (o::rest) a w:=by
 subst h1 h2;exact qW w hg m x t hop k e q hk ht hz b n f hm hown y hx hy hK
theorem iV(hg:o.guard=none)(m x:Operand)(t:TypeId)(hop:o.op=Op.lookup t m x false)(k e:TypeId)(q:IntKind)(hk:P.underlying k=some (.int q))(ht:P.underlying t=some (.map k e))(hz:(zeroValue e).run P w=.ok z w)(b n:Nat)(f:Int->Option Value)(hm:a.eval m=.map (some b))(hown:aP w P k q b n f)(y:Int)(hx:a.eval x=.int q y)(hy:(Xg5 q y).wf=true)(val:Value)(h1:(f y).getD z=val)(hK:wpList P ops Q rest (a.put o.dst val) w) :
  wpList P ops Q (o::rest) a w:=by
 subst h1;exact sG w hg m x t hop k e q hk ht hz b n f hm hown y hx hy hK
end
end
section
open Go.Maps
open Go.ChangeMaps (setBlock)
structure iA{α:Type}(P:Program)(k:TypeId)(enc:α->Value)(ok:α->Prop):Prop where
 K:Keyed P k
 inj:∀a b,enc a=enc b->a=b
 key:∀a,ok a->∃l,keyOf P k (enc a)=some l
section
variable {α:Type}{P:Program}{k e t:TypeId}{enc:α->Value}{ok:α->Prop}{w w':World}{b:Nat}{L:List (α×Value)}
structure bH(w:World)(P:Program)(k:TypeId)(enc:α->Value)(ok:α->Prop)(b:Nat)(L:List (α×Value)):Prop where
 e:∃es clock,w.heap[b]?=some (.map es clock)/\es.toList.map (λe=>(e.key,e.val))=L.map (λp=>(enc p.1,p.2))/\(es.toList.map (·.born)).Nodup/\∀e∈es.toList,e.born<clock
 ok:∀p∈L,ok p.1
 nd:(L.map (·.1)).Nodup
theorem bH.made(w:World)(P:Program)(k:TypeId)(enc:α->Value)(ok:α->Prop):bH (w.alloc (.map #[] 0)) P k enc ok w.heap.size []:=
 ⟨⟨#[],0,ao _ _ _ rfl,rfl,sM,sM⟩,sM,sM⟩
theorem bH.same(h:bH w P k enc ok b L)(hb:w'.heap[b]?=w.heap[b]?):bH w' P k enc ok b L:=by obtain⟨es,c,h1,h2⟩:=h.e;exact⟨⟨es,c,hb.trans h1,h2⟩,h.ok,h.nd⟩
theorem bH.lt(h:bH w P k enc ok b L):b<w.heap.size:=by
 obtain⟨es,c,h1,_⟩:=h.e;rcases Xf4 b w.heap.size with q|q
 .exact q
 .rw[Array.getElem?_eq_none q]at h1
  cases h1
theorem bH.below(h:bH w P k enc ok b L)(hb:aC w w'):bH w' P k enc ok b L:=h.same (hb.block b h.lt)
theorem bH.chg{S:Nat->Prop}(h:bH w P k enc ok b L)(hc:ag S w w')(hn:¬S b):bH w' P k enc ok b L:=h.same (hc.block b h.lt hn)
theorem bH.ne(h:bH w P k enc ok b L)(hg:w.heap[g]?=some (.cells c t fz)):b≠g:=by rintro rfl;obtain⟨es,clock,h1,_⟩:=h.e;rw[hg]at h1;cases h1
theorem dH:ag (λj=>j=b) w (setBlock w b o):=
 ⟨rfl,rfl,rfl,wG,λj _ hn=>by simp only[setBlock];rw[Xd8];split;exact absurd oM hn;rfl⟩
theorem dj(h:b<w.heap.size):(setBlock w b o).heap[b]?=some o:=by simp[setBlock,Xd8,h]
theorem bH.run_len(h:bH w P k enc ok b L)(ht:P.underlying t=some (.map k e))(tt:TypeId):(Xe9 #[t] tt #[.map (some b)]).run P w=.ok (JI L.length) w:=by
 obtain⟨es,clock,g1,g2,g3,g4⟩:=h.e;have hl:es.size=L.length:=by have:=congrArg Xd1 g2;exact ia
 simp[Xe9,run_underlying ht,MapKept.run_getObj_map g1,Xg4,hl,goInt]
variable [DecidableEq α]
def dK(L:List (α×Value))(x:α):Option Value:=(L.find? (λp=>decide (p.1=x))).map (·.2)
def jv(L:List (α×Value))(x:α)(v:Value):List (α×Value):=if(dK L x).isSome then L.map (λp=>if p.1=x then(x,v) else p) else L++ [(x,v)]
def uz(L:List (α×Value))(x:α):List (α×Value):=L.filter (λp=>decide (p.1≠x))
theorem ix{x:α}:dK L x=none↔∀p∈L,p.1≠x:=by simp[dK]
theorem iM{p:α×Value}(hn:(L.map (·.1)).Nodup)(hp:p∈L):dK L p.1=some p.2:=by
 induction L with
 |nil=>
  cases hp
 |cons q L ih=>
  rw[Xd0,Xc6]at hn;unfold dK;rw[List.find?_cons];rcases Xb7.1 hp with rfl|hp
  .simp
  .have:q.1≠p.1:=λe=>hn.1 (e ▸ Xa0 hp)
   simp only[this,decide_false];exact ih hn.2 hp
theorem OZ{x:α}(h:dK L x=some v):(x,v)∈L:=by
 unfold dK at h;cases hf:L.find? (λp=>decide (p.1=x))with
 |none=>
  rw[hf]at h;cases h
 |some p=>
  rw[hf]at h;cases h;have h1:=List.mem_of_find?_eq_some hf;have h2:=List.find?_some hf;have:p.1=x:=by simpa using h2
  exact this ▸ h1
theorem gr{x:α}(h:dK L x=none):jv L x v=L++ [(x,v)]:=by simp[jv,h]
theorem Tt(E:iA P k enc ok)(hL:es.toList.map (λe=>(e.key,e.val))=L.map (λp=>(enc p.1,p.2)))(hok:∀p∈L,ok p.1)(w:World){x:α}(hx:ok x) :
  ((Xg0 k (enc x) es.toList).run P w=.ok none w/\dK L x=none)\/∃ (j:Nat) (e:MapEntry),(Xg0 k (enc x) es.toList).run P w=.ok (some (j,e.val)) w/\es.toList[j]?=some e/\e.key=enc x/\(x,e.val)∈L/\(L[j]?).map (·.1)=some x:=by
 obtain⟨l,hl⟩:=E.key x hx;have key:∀e∈es.toList,∃p∈L,e.key=enc p.1/\e.val=p.2:=λe he=>by have:(e.key,e.val)∈L.map (λp=>(enc p.1,p.2)):=hL ▸ Xa0 (f:=λe=>(e.key,e.val)) he;exact Xz
 rcases E.K.find w hl es.toList (λe he=>by obtain⟨p,hp,h1,_⟩:=key e he;rw[h1];exact E.key _ (hok p hp))with⟨h1,h2⟩|⟨j,e,h1,h2,h3⟩
 .refine .inl ⟨h1,ix.2 λp hp hq=>?_⟩
  have:(enc p.1,p.2)∈es.toList.map (λe=>(e.key,e.val)):=hL ▸ Xa0 (f:=λp=>(enc p.1,p.2)) hp;obtain⟨e,he,hq2⟩:=Xb0.1 this;simp only[Prod.mk.injEq]at hq2;exact h2 e he (by rw[hq2.1,hq])
 .have hj:(L.map (λp=>(enc p.1,p.2)))[j]?=some (e.key,e.val):=by rw[←hL,Xa2,h2];rfl
  rw[Xa2]at hj;cases hp:L[j]? with
  |none=>
   rw[hp]at hj;cases hj
  |some p=>rw[hp]at hj;simp only[Xe3,Xe4.injEq,Prod.mk.injEq]at hj;have hpx:p.1=x:=E.inj _ _ (hj.1.trans h3);refine .inr ⟨j,e,h1,h2,h3,?_,by rw[hp,Xe3,hpx]⟩;rw[←hj.2,←hpx];exact List.mem_of_getElem? hp
theorem bH.run_look(h:bH w P k enc ok b L)(E:iA P k enc ok)(ht:P.underlying t=some (.map k e))(hz:(zeroValue e).run P w=.ok z w){x:α}(hx:ok x)(c:Bool)(h1:(dK L x).getD z=v)(h2:(dK L x).isSome=is) :
  (Xf6 t (.map (some b)) (enc x) c).run P w=.ok (if c then .tuple #[v,.bool is] else v) w:=by
 refine FI;subst h1 h2;refine FJ
 .rw[r2]
  simp[Xf6,run_underlying ht,MapKept.run_getObj_map g1,E.K.check w _ hl,r1,hz,Xg4]
 .have r4':=iM h.nd r4
  dsimp only at r4';rw[r4'];simp[Xf6,run_underlying ht,MapKept.run_getObj_map g1,E.K.check w _ hl,r1,Xg4]
theorem jz(es:Array MapEntry)(j:Nat)(f:MapEntry->MapEntry):(es.modify j f).toList=es.toList.modify j f:=sM
theorem Oj{x:α}(hn:(L.map (·.1)).Nodup)(hj:(L[j]?).map (·.1)=some x):L.map (λp=>if p.1=x then(x,v) else p)=L.modify j (λ_=>(x,v)):=by
 have hjl:j<L.length:=by
  rcases Xf4 j L.length with q|q
  .exact q
  .rw[Xb8 q]at hj
   cases hj
 rw[Xa5 hjl,Xe3,Xe4.injEq]at hj;apply List.ext_getElem
 .simp
 .intro i h1 h2
  have hi:i<L.length:=by simpa using h1
  rw[Xa3,Xc1];by_cases q:j=i
  .subst q
   rw[if_pos hj,if_pos rfl]
  .rw[if_neg q,if_neg]
   intro hh;have:=(Xa9 (xs:=L.map (·.1)) (h₀:=by simpa using hi) (h₁:=by simpa using hjl) hn).1 (by rw[Xa3,Xa3,hh,hj]);omega
theorem CY{x:α}{en:MapEntry}(hlt:b<w.heap.size)(g2:es.toList.map (λe=>(e.key,e.val))=L.map (λp=>(enc p.1,p.2)))(g3:(es.toList.map (·.born)).Nodup)(g4:∀e∈es.toList,e.born<clock)(hok:∀p∈L,ok p.1)(nd:(L.map (·.1)).Nodup)(hx:ok x)(r2:es.toList[j]?=some en)(r4:∃u,(x,u)∈L)(r5:(L[j]?).map (·.1)=some x)(f:MapEntry->MapEntry)(f1:∀e,(f e).born=e.born)(f2:(f en).key=enc x)(f3:(f en).val=v):bH (setBlock w b (.map (es.modify j f) clock)) P k enc ok b (jv L x v):=by
 obtain⟨u,r4⟩:=r4;have hput:jv L x v=L.modify j (λ_=>(x,v)):=by
  have:(dK L x).isSome=true:=by rw[iM nd r4];rfl
  rw[jv,if_pos this,Oj nd r5]
 refine⟨⟨_,_,dj hlt,?_,?_,?_⟩,?_,?_⟩
 .rw[hput,jz]
  refine za;have:=congrArg (λl=>l[i]?) g2;simp only[Xa2]at this;rw[Xa2,Xa2,Xa4,Xa4];by_cases q:j=i
  .subst q
   rw[r2]at this ⊢;cases hp:L[j]? with
   |none=>
    rw[hp]at this;cases this
   |some p=>simp[f2,f3]
  .simp only[if_neg q]
   cases hp:es.toList[i]?<;>cases hq:L[i]?<;>rw[hp,hq]at this<;>simp at this ⊢;exact this
 .rw[jz]
  have:(es.toList.modify j f).map (·.born)=es.toList.map (·.born):=by
   refine za;simp only[Xa2,Xa4];by_cases q:j=i
   .subst q
    rw[r2];simp[f1]
   .simp[q]
  rw[this];exact g3
 .intro y hy
  rw[jz]at hy;obtain⟨i,hi,rfl⟩:=Xb2 hy;rw[Xc1];have hi':i<es.toList.length:=by simpa using hi
  have:=g4 es.toList[i] (Xc5 hi');split
  .rw[f1]
   exact this
  .exact this
 .rw[jv,if_pos (by rw[iM nd r4];rfl)]
  intro p hp;obtain⟨q,hq,rfl⟩:=Xb0.1 hp;split
  .exact hx
  .exact hok q hq
 .rw[jv,if_pos (by rw[iM nd r4];rfl),List.map_map]
  have:(L.map ((λp=>p.1) ∘ λp=>if p.1=x then(x,v) else p))=L.map (·.1):=by
   apply List.map_congr_left;intro p _;simp only[Function.comp];split
   .rename_i q;exact q.symm
   .rfl
  rw[this];exact nd
theorem xi{x:α}(hlt:b<w.heap.size)(g2:es.toList.map (λe=>(e.key,e.val))=L.map (λp=>(enc p.1,p.2)))(g3:(es.toList.map (·.born)).Nodup)(g4:∀e∈es.toList,e.born<clock)(hok:∀p∈L,ok p.1)(nd:(L.map (·.1)).Nodup)(hx:ok x)(r2:dK L x=none):bH (setBlock w b (.map (es.push ⟨enc x,v,clock⟩) (clock+1))) P k enc ok b (jv L x v):=by
 refine⟨⟨_,_,dj hlt,?_,?_,?_⟩,?_,?_⟩
 .rw[gr r2,Xd3,Xb1,Xb1,g2]
  rfl
 .rw[Xd3,Xb1,List.map_singleton,Xc4]
  exact⟨g3,sM,λa ha c hc e=>by obtain⟨y,hy,rfl⟩:=Xb0.1 ha;simp at hc;have:=g4 y hy;omega⟩
 .intro y hy
  rw[Xd3,Xc8,Xc3]at hy;rcases hy with hy|rfl
  .have:=g4 y hy
   omega
  .exact Nat.lt_succ_self _
 .rw[gr r2]
  intro p hp;rcases Xc8.1 hp with hp|hp
  .exact hok p hp
  .rw[Xc3.1 hp]
   exact hx
 .rw[gr r2,Xb1,Xc4]
  exact⟨nd,sM,λa ha c hc e=>by obtain⟨y,hy,rfl⟩:=Xb0.1 ha;simp at hc;exact ix.1 r2 y hy (e.trans hc)⟩
theorem bH.run_put(h:bH w P k enc ok b L)(E:iA P k enc ok)(ht:P.underlying t=some (.map k e)){x:α}(hx:ok x)(v:Value) :
  ∃w',(Xf8 t (.map (some b)) (enc x) v).run P w=.ok () w'/\bH w' P k enc ok b (jv L x v)/\ag (λj=>j=b) w w'/\w'.heap.size=w.heap.size:=by
 refine FI;refine FJ
 .refine⟨setBlock w b (.map (es.push ⟨enc x,v,clock⟩) (clock+1)),?_,xi h.lt g2 g3 g4 h.ok h.nd hx r2,dH,wG⟩
  simp[Xf8,run_underlying ht,MapKept.run_getObj_map g1,E.K.check w _ hl,r1,MapKept.run_setObj_map _ g1,Xg4,setBlock]
 .have hj:es[j]?=some en:=by simpa using r2
  refine⟨setBlock w b (.map (es.modify j λe=> {e with key:=enc x,val:=v}) clock),?_,CY h.lt g2 g3 g4 h.ok h.nd hx r2 ⟨_,r4⟩ r5 _ (λ_=>rfl) rfl rfl,dH,wG⟩;simp[Xf8,run_underlying ht,MapKept.run_getObj_map g1,E.K.check w _ hl,r1,hj,r3,E.K.stays w hl,MapKept.run_setObj_map _ g1,Xg4,setBlock]
theorem bH.run_del(h:bH w P k enc ok b L)(E:iA P k enc ok)(ht:P.underlying t=some (.map k e)){x:α}(hx:ok x)(tt:TypeId) :
  ∃w',(Xe8 #[t,k] tt #[.map (some b),enc x]).run P w=.ok (.tuple #[]) w'/\bH w' P k enc ok b (uz L x)/\ag (λj=>j=b) w w'/\w'.heap.size=w.heap.size/\∀es clock,w.heap[b]?=some (.map es clock)->∃es',w'.heap[b]?=some (.map es' clock)/\es'.toList.Sublist es.toList:=by
 refine FI;refine FJ
 .have hd:uz L x=L:=by rw[uz,Xc2];intro p hp;simpa using ix.1 r2 p hp
  refine⟨setBlock w b (.map es clock),?_,⟨⟨_,_,dj h.lt,by rw[hd];exact g2,g3,g4⟩,by rw[hd];exact h.ok,by rw[hd];exact h.nd⟩,dH,wG,λes2 c2 h2=>by rw[g1]at h2;cases h2;exact⟨_,dj h.lt,List.Sublist.refl _⟩⟩;exact Ys
 .have hjl:j<L.length:=by
   rcases Xf4 j L.length with q|q
   .exact q
   .rw[Xb8 q]at r5
    cases r5
  rw[Xa5 hjl,Xe3,Xe4.injEq]at r5;have hjs:j<es.size:=by have:=(Xa1.1 r2).1;exact ia
  have hd:uz L x=L.eraseIdx j:=by
   have hnd:=h.nd;clear g2 r2 h r1 hjs;unfold uz;induction L generalizing j with
   |nil=>
    simp at hjl
   |cons p L ih=>
    rw[Xd0,Xc6]at hnd;cases j with
    |zero=>
     simp only[List.getElem_cons_zero]at r5;rw[List.eraseIdx_cons_zero,List.filter_cons_of_neg (by simp[r5]),Xc2];intro q hq;have:q.1≠x:=λe=>hnd.1 (by rw[r5,←e];exact Xa0 hq)
     exact ia
    |succ j=>
     simp only[List.getElem_cons_succ]at r5;have hj':j<L.length:=by simpa using hjl
     have:p.1≠x:=λe=>hnd.1 (by rw[e,←r5];exact Xa0 (Xc5 hj'))
     rw[List.eraseIdx_cons_succ,List.filter_cons_of_pos (by simpa using this)];have r4':(x,en.val)∈L:=by
      rcases Xb7.1 r4 with q|q
      .exact absurd (congrArg Prod.fst q).symm this
      .exact q
     rw[ih j r4' hj' r5 hnd.2]
  have hes:(es.eraseIdxIfInBounds j).toList=es.toList.eraseIdx j:=by rw[Array.eraseIdxIfInBounds,dif_pos hjs,Array.toList_eraseIdx]
  refine⟨setBlock w b (.map (es.eraseIdxIfInBounds j) clock),?_,⟨⟨_,_,dj h.lt,?_,?_,?_⟩,?_,?_⟩,dH,wG,λes2 c2 h2=>by rw[g1]at h2;cases h2;exact⟨_,dj h.lt,by rw[hes];exact Xb9 _ _⟩⟩
  .exact Ys
  .rw[hes,hd,Xg6,g2,Xg6]
  .rw[hes,Xg6]
   exact g3.sublist (Xb9 _ _)
  .intro y hy
   rw[hes]at hy;exact g4 y (List.mem_of_mem_eraseIdx hy)
  .intro p hp
   exact h.ok p (Xc7.1 hp).1
  .exact h.nd.sublist ((List.filter_sublist).map _)
theorem bH.run_entry(h:bH w P k enc ok b L)(E:iA P k enc ok)(ht:P.underlying t=some (.map k e))(hz:∀w,(zeroValue e).run P w=.ok z w){x:α}(hx:ok x){u:Value}(hu:(dK L x).getD z=u) :
  ∃ (st:Int) (w':World),(Xf9 t (.map (some b)) (enc x)).run P w=.ok (.tuple #[u,JI st]) w'/\ag (λj=>j=b) w w'/\w'.heap.size=w.heap.size/\bH w' P k enc ok b (jv L x u) /\
   ∀v (w2:World),w2.heap[b]?=w'.heap[b]?->∃w3,(Xf7 t (.map (some b)) (JI st) v).run P w2=.ok () w3/\bH w3 P k enc ok b (jv L x v)/\ag (λj=>j=b) w2 w3/\w3.heap.size=w2.heap.size:=by
 refine FI;have store:∀ (w2:World) (es1:Array MapEntry) (clock1 j:Nat) (en:MapEntry) (v:Value),w2.heap[b]?=some (.map es1 clock1)->(es1.toList.map (·.born)).Nodup->es1.toList[j]?=some en->(Xf7 t (.map (some b)) (JI (en.born:Int)) v).run P w2=.ok () (setBlock w2 b (.map (es1.modify j λe=> {e with val:=v}) clock1)):=by
  intro w2 es1 clock1 j en v q1 q2 q3;have hf:es1.findIdx? (λe=>(e.born:Int)==(en.born:Int))=some j:=by
   rw[Array.findIdx?_eq_some_iff_getElem];obtain⟨hj,he⟩:=Xa1.1 q3;refine⟨um,by rw[←Xd9,he];simp,λi hi=>?_⟩;rw[←Xd9];have hne:es1.toList[i].born≠es1.toList[j].born:=λe=>by have:=(Xa9 (xs:=es1.toList.map (·.born)) (i:=i) (j:=j) (h₀:=by rw[Xc9];omega) (h₁:=by rw[Xc9];omega) q2).1 Up;omega
   rw[he]at hne;have:¬((es1.toList[i].born:Int)=(en.born:Int)):=λq=>hne oM
   exact ia
  simp[Xf7,MapKept.run_getObj_map q1,asInt,asIntOf,hf,MapKept.run_setObj_map _ q1,Xg4,setBlock]
 refine FJ
 .rw[r2]at hu
  have hu:z=u:=hu;subst hu;have hM:=xi (P:=P) (k:=k) (v:=z) h.lt g2 g3 g4 h.ok h.nd hx r2;refine⟨clock,setBlock w b (.map (es.push ⟨enc x,z,clock⟩) (clock+1)),?_,dH,wG,hM,λv w2 hw2=>?_⟩
  .simp[Xf9,run_underlying ht,MapKept.run_getObj_map g1,E.K.check w _ hl,r1,hz,MapKept.run_setObj_map _ g1,Xg4,setBlock,goInt]
  .rw[dj h.lt]at hw2
   have q2:((es.push ⟨enc x,z,clock⟩).toList.map (·.born)).Nodup:=by obtain⟨es',c',p1,p2,p3,p4⟩:=hM.e;rw[dj h.lt]at p1;cases p1;exact p3
   have q3:(es.push ⟨enc x,z,clock⟩).toList[es.size]?=some ⟨enc x,z,clock⟩:=sM;have hs:=store w2 _ _ es.size ⟨enc x,z,clock⟩ v hw2 q2 q3;have hlt2:b<w2.heap.size:=WA
   have hpush:(es.push ⟨enc x,z,clock⟩).modify es.size (λe=> {e with val:=v})=es.push ⟨enc x,v,clock⟩:=by
    apply Xe1.1;rw[jz];refine za;rw[Xa4,Xd3,Xd3];by_cases q:es.size=i
    .subst q
     simp
    .rw[Xc0,Xc0]
     by_cases q2:i<es.toList.length
     .rw[if_pos q2,if_pos q2]
      simp only[if_neg q];simp
     .rw[if_neg q2,if_neg q2]
      simp only[if_neg q];have hl:es.toList.length=es.size:=sM;obtain⟨m,hm⟩:∃m,i-es.toList.length=m+1:=⟨i-es.toList.length-1,oM⟩
      rw[hm];simp
   rw[hpush]at hs;exact⟨_,hs,xi hlt2 g2 g3 g4 h.ok h.nd hx r2,dH,wG⟩
 .have hj:es[j]?=some en:=by simpa using r2
  rw[iM h.nd r4]at hu;have hu:en.val=u:=hu;subst hu;have hM:bH (setBlock w b (.map (es.modify j λe=> {e with key:=enc x}) clock)) P k enc ok b (jv L x en.val):=CY h.lt g2 g3 g4 h.ok h.nd hx r2 ⟨_,r4⟩ r5 (λe=> {e with key:=enc x}) (λ_=>rfl) rfl rfl;refine⟨en.born,_,?_,dH,wG,hM,λv w2 hw2=>?_⟩
  .simp[Xf9,run_underlying ht,MapKept.run_getObj_map g1,E.K.check w _ hl,r1,hj,r3,E.K.stays w hl,MapKept.run_setObj_map _ g1,Xg4,setBlock,goInt]
  .rw[dj h.lt]at hw2
   have hsame:es.modify j (λe=> {e with key:=enc x})=es:=by
    apply Xe1.1;rw[jz];refine za;rw[Xa4];by_cases q:j=i
    .subst q
     rw[r2];simp[←r3]
    .simp[q]
   rw[hsame]at hw2;have hs:=store w2 es clock j en v hw2 g3 r2;have hlt2:b<w2.heap.size:=WA
   exact⟨_,hs,CY hlt2 g2 g3 g4 h.ok h.nd hx r2 ⟨_,r4⟩ r5 (λe=> {e with val:=v}) (λ_=>rfl) r3 rfl,dH,wG⟩
end
end
section
open Go.Maps
open Go.ChangeMaps (setBlock)
def ik(w:World)(r:Nat):Nat:=match w.heap[r]? with
 |some (.mapIter (some b) _ seen _)=>(match w.heap[b]? with|some (.map es _)=>(leftOf es seen).size|_=>0)
 |_=>0
section
variable {α:Type}{P:Program}{k e t:TypeId}{enc:α->Value}{ok:α->Prop}{w w':World}{b r:Nat}{L:List (α×Value)}{S:List α}
structure fm(w:World)(P:Program)(k:TypeId)(enc:α->Value)(ok:α->Prop)(b r:Nat)(L:List (α×Value))(S:List α):Prop where
 m:bH w P k enc ok b L
 i:∃es clock since seen c0,w.heap[b]?=some (.map es clock)/\w.heap[r]?=some (.mapIter (some b) since seen c0)/\(∀x∈es.toList,x.born<since)/\since<=c0/\since<=clock/\∀x∈es.toList,seen.contains x.born=true↔∃s∈S,enc s=x.key
theorem fm.made(h:bH w P k enc ok b L)(ht:P.underlying t=some (.map k e)):∃o,(Xg1 t (.map (some b))).run P w=.ok (OV w.heap.size) (w.alloc o)/\fm (w.alloc o) P k enc ok b w.heap.size L []:=by
 obtain⟨es,clock,g1,g2,g3,g4⟩:=h.e;refine⟨.mapIter (some b) clock #[] clock,?_,?_,es,clock,clock,#[],clock,ai g1,ao _ _ _ rfl,g4,Xf5 _,Xf5 _,λx _=>sM⟩
 .simp[Xg1,run_underlying ht,MapKept.run_getObj_map g1,Xg4]
 .exact h.same (dZ w _ b h.lt)
theorem fm.chg{T:Nat->Prop}(h:fm w P k enc ok b r L S)(hc:ag T w w')(h1:¬T b)(h2:¬T r):fm w' P k enc ok b r L S:=by refine Fo;exact⟨h.m.chg hc h1,es,clock,since,seen,c0,ae hc g1 h1,ae hc g2 h2,g3⟩
theorem fm.ne(h:fm w P k enc ok b r L S)(hg:w.heap[g]?=some (.cells c t fz)):b≠g/\r≠g:=by
 refine Fo;refine⟨λq=>?_,λq=>?_⟩
 .subst q
  rw[hg]at g1;cases g1
 .subst q
  rw[hg]at g2;cases g2
theorem fm.lt(h:fm w P k enc ok b r L S):b<w.heap.size/\r<w.heap.size/\b≠r:=by refine Fo;refine⟨(Xd4.1 g1).1,(Xd4.1 g2).1,λq=>?_⟩;subst q;rw[g1]at g2;cases g2
theorem lG(hr:w'.heap[r]?=w.heap[r]?)(h:fm w P k enc ok b r L S)(hb:w'.heap[b]?=w.heap[b]?):ik w' r=ik w r:=by refine Fo;unfold ik;rw[hr,g2];simp only[hb]
theorem SQ(hL:es.toList.map (λe=>(e.key,e.val))=L.map (λp=>(enc p.1,p.2))){x:MapEntry}(hx:x∈es.toList):∃p∈L,x.key=enc p.1/\x.val=p.2:=by have:(x.key,x.val)∈L.map (λp=>(enc p.1,p.2)):=hL ▸ Xa0 (f:=λe=>(e.key,e.val)) hx;exact Xz
theorem TT{l:List MapEntry}(hn:(l.map (·.born)).Nodup){x e:MapEntry}(hx:x∈l)(he:e∈l)(h:x.born=e.born):x=e:=by refine Ay;obtain⟨j,hj,rfl⟩:=Xb2 he;have:=(Xa9 (xs:=l.map (·.born)) (i:=i) (j:=j) (h₀:=by simpa using hi) (h₁:=by simpa using hj) hn).1 (by rw[Xa3,Xa3,h]);subst this;rfl
theorem key_eq(hL:es.toList.map (λe=>(e.key,e.val))=L.map (λp=>(enc p.1,p.2)))(hn:(L.map (·.1)).Nodup)(inj:∀a b,enc a=enc b->a=b){x e:MapEntry}(hx:x∈es.toList)(he:e∈es.toList)(h:x.key=e.key):x=e:=by
 refine Ay;obtain⟨j,hj,rfl⟩:=Xb2 he;have hl:es.toList.length=L.length:=by simpa using congrArg Xd1 hL
 have key:∀i (hi:i<es.toList.length),es.toList[i].key=enc (L[i]'oM).1:=λi hi=>by have:=congrArg (λl=>l[i]?) hL;simp only[Xa2,Xa5 hi,Xa5 (show i<L.length by omega),Xe3,Xe4.injEq,Prod.mk.injEq]at this;exact this.1
 rw[key i hi,key j hj]at h;have:=(Xa9 (xs:=L.map (·.1)) (i:=i) (j:=j) (h₀:=by simp;omega) (h₁:=by simp;omega) hn).1 (by rw[Xa3,Xa3];exact inj _ _ h);subst this;rfl
theorem fm.next(h:fm w P k enc ok b r L S)(inj:∀a b,enc a=enc b->a=b)(ty:TypeId) :
  ((∀p∈L,p.1∈S)/\(Xg2 (OV r) false ty).run P w=.ok (.tuple #[.bool false]) w) \/
  ∃p∈L,p.1 ∉ S/\∃w',(Xg2 (OV r) false ty).run P w=.ok (.tuple #[.bool true,enc p.1,p.2]) w'/\fm w' P k enc ok b r L (p.1::S)/\ag (λj=>j=r) w w'/\w'.heap.size=w.heap.size/\ik w' r<ik w r /\
   (Instr.entry (OV r)).run P w'=.ok (.tuple #[enc p.1,p.2]) w':=by
 obtain⟨es,clock,since,seen,c0,g1,g2,g3,g4,g45,g5⟩:=h.i;obtain⟨es',clock',k1,k2,k3,k4⟩:=h.m.e;rw[g1]at k1;cases k1;rcases run_next_at (P:=P) w ty r b since c0 seen es clock g2 g1 g3 g4 with⟨h0,hrun⟩|⟨en,hen,w1,hw1,hrun⟩
 .refine .inl ⟨λp hp=>?_,hrun⟩
  have:(enc p.1,p.2)∈es.toList.map (λe=>(e.key,e.val)):=k2 ▸ Xa0 (f:=λp=>(enc p.1,p.2)) hp;obtain⟨x,hx,hq⟩:=Xb0.1 this;simp only[Prod.mk.injEq]at hq;have hs:seen.contains x.born=true:=by
   have hl:leftOf es seen=#[]:=Array.eq_empty_of_size_eq_zero h0;cases hc:seen.contains x.born with
   |true=>
    rfl
   |false=>
    have:x∈leftOf es seen:=by unfold leftOf;rw[Array.mem_filter];exact⟨by simpa using hx,by rw[hc];rfl⟩
    rw[hl]at this;simp at this
  obtain⟨s,hs1,hs2⟩:=(g5 x hx).1 hs;exact inj s p.1 (hs2.trans hq.1) ▸ hs1
 .have hen':en∈es.toList/\seen.contains en.born=false:=by unfold leftOf at hen;simp only[Xe0,Xc7,Bool.not_eq_true']at hen;exact hen
  obtain⟨p,hp,hkey,hval⟩:=SQ k2 hen'.1;have hb1:w1.heap=w.heap:=by rcases hw1 with rfl|rfl<;>rfl
  have hrlt:r<w1.heap.size:=by rw[hb1];exact(Xd4.1 g2).1
  have hbr:=h.lt.2.2;refine .inr ⟨p,hp,λhin=>?_,setBlock w1 r (.mapIter (some b) since (seen.push en.born) clock),by rw[←hkey,←hval];exact hrun,?_,?_,by simp[setBlock,hb1],?_,?_⟩
  .have:=(g5 en hen'.1).2 ⟨p.1,hin,hkey.symm⟩
   rw[hen'.2]at this;cases this
  .refine M6
   refine⟨h.m.same (hbs.trans g1.symm),es,clock,since,seen.push en.born,clock,hbs,dj hrlt,g3,g45,g45,λx hx=>?_⟩;constructor
   .intro q
    by_cases q2:seen.contains x.born=true
    .obtain⟨s,hs1,hs2⟩:=(g5 x hx).1 q2
     exact⟨s,by simp[hs1],hs2⟩
    .refine⟨p.1,sM,?_⟩
     have hb:x.born=en.born:=by
      simp at q q2;rcases q with q|q
      .exact absurd q q2
      .exact q
     rw[←hkey,TT k3 hx hen'.1 hb]
   .rintro⟨s,hs1,hs2⟩
    rcases Xb7.1 hs1 with rfl|hs1
    .have:=key_eq k2 h.m.nd inj hen'.1 hx (hkey.trans hs2)
     subst this;simp
    .have:=(g5 x hx).2 ⟨s,hs1,hs2⟩
     simp at this ⊢;exact .inl this
  .have hc:=dH (w:=w1) (b:=r) (o:=.mapIter (some b) since (seen.push en.born) clock)
   rcases hw1 with rfl|rfl
   .exact hc
   .exact⟨hc.os,hc.tape,hc.output,hc.size,hc.block⟩
  .refine M6
   unfold ik;rw[dj hrlt,g2];simp only[hbs,g1];exact left_shrinks es seen en hen
  .refine M6
   rw[←hkey,←hval];exact run_entry_at _ r b since seen es clock en (dj hrlt) hbs hen'.1 k3
theorem fm.run_del[DecidableEq α](h:fm w P k enc ok b r L S)(E:iA P k enc ok)(ht:P.underlying t=some (.map k e)){x:α}(hx:ok x)(tt:TypeId) :
  ∃w',(Xe8 #[t,k] tt #[.map (some b),enc x]).run P w=.ok (.tuple #[]) w'/\fm w' P k enc ok b r (uz L x) S/\ag (λj=>j=b) w w'/\w'.heap.size=w.heap.size/\ik w' r<=ik w r:=by
 obtain⟨es,clock,since,seen,c0,g1,g2,g3,g4,g5,g6⟩:=h.i;obtain⟨w',hrun,hm,hc,hz,hs⟩:=h.m.run_del E ht hx tt;obtain⟨es',q1,q2⟩:=hs es clock g1;have q3:w'.heap[r]?=some (.mapIter (some b) since seen c0):=ae hc g2 (λe=>h.lt.2.2 e.symm);refine⟨w',hrun,⟨hm,es',clock,since,seen,c0,q1,q3,λx hx=>g3 x (q2.subset hx),g4,g5,λx hx=>g6 x (q2.subset hx)⟩,hc,hz,?_⟩;unfold ik;rw[q3,g2];simp only[q1,g1];unfold leftOf;have:=(q2.filter (λe=>!seen.contains e.born)).length_le;have e1:∀X:Array MapEntry,(X.filter (λe=>!seen.contains e.born)).size=(X.toList.filter (λe=>!seen.contains e.born)).length:=λX=>by rw[←Xe0];rfl
 rw[e1,e1];exact this
end
end
section
open Go.Maps
theorem By:prog.types.size=528:=kM
section
variable {k t0 t1:TypeId}{q0 q1:IntKind}{n0 n1 s0 s1 g0 g1:String}{e0 e1:Bool}{b0 b1:Nat}
theorem key2(hk : prog.underlying k = some (.struct #[⟨n0, t0, 0, e0, s0, g0, b0⟩, ⟨n1, t1, 1, e1, s1, g1, b1⟩]))(h0 : prog.underlying t0 = some (.int q0))(h1 : prog.underlying t1 = some (.int q1))(hn : (n0 != "_" && n1 != "_") = true)(hc:prog.cellsOf k=2)(hc0:prog.cellsOf t0=1)(hc1:prog.cellsOf t1=1)(ht:prog.keyType k=true)(a b:Int)(ha:(Xg5 q0 a).wf=true)(hb:(Xg5 q1 b).wf=true):∃l,keyOf prog k (.agg #[.int q0 a,.int q1 b])=some l:=by
 have hf:(Value.agg #[.int q0 a,.int q1 b]).formed prog k=true:=by unfold Value.formed;simp[hk,hc]
 have hl:∀m,prog.keyLits (m+2) k [.int q0 a,.int q1 b]=some [.int q0 a,.int q1 b]:=by
  intro m;rw[Bool.and_eq_true]at hn;have l0:prog.keyLits (m+1) t0 [.int q0 a]=some [.int q0 a]:=by unfold Xg8;simp[h0,ha]
  have l1:prog.keyLits (m+1) t1 [.int q1 b]=some [.int q1 b]:=by unfold Xg8;simp[h1,hb]
  unfold Xg8;simp only[hk,List.length_cons,List.length_nil,hc];rw[if_pos ⟨trivial,Em⟩];simp[hc0,hc1,l0,l1]
 refine⟨.string (keyBytes [.int q0 a,.int q1 b]),?_⟩;unfold keyOf;rw[hk,By];simp only[ht,hf,Bool.and_self,if_true,Value.cells];rw[hl 527];rfl
theorem enc2(hk : prog.underlying k = some (.struct #[⟨n0, t0, 0, e0, s0, g0, b0⟩, ⟨n1, t1, 1, e1, s1, g1, b1⟩]))(h0 : prog.underlying t0 = some (.int q0))(h1 : prog.underlying t1 = some (.int q1))(hn : (n0 != "_" && n1 != "_") = true)(hc:prog.cellsOf k=2)(hc0:prog.cellsOf t0=1)(hc1:prog.cellsOf t1=1)(ht:prog.keyType k=true)(hlt:k<prog.types.size)(hl:laidOutB prog=true):iA prog k (λx:Int×Int=> .agg #[.int q0 x.1,.int q1 x.2]) (λx=>(Xg5 q0 x.1).wf=true/\(Xg5 q1 x.2).wf=true)where
 K:=Keyed.of_law (deep_law_gate hl EC hlt ht (by rw[hk]))
 inj:=λa b h=>by simp only[Value.agg.injEq]at h;have h1:=congrArg (λc=>c[0]?) h;have h2:=congrArg (λc=>c[1]?) h;simp at h1 h2;exact Prod.ext h1 h2
 key:=λa h=>key2 hk h0 h1 hn hc hc0 hc1 ht a.1 a.2 h.1 h.2
end
theorem encI{k:TypeId}(hk:prog.underlying k=some (.int q)):iA prog k (Value.int q) (λx:Int=>(Xg5 q x).wf=true)where
 K:=int_keyed hk
 inj:=λa b h=>by cases h;rfl
 key:=λa h=>⟨_,keyOf_int_mk hk h⟩
theorem laid:laidOutB prog=true:=kM
abbrev E2(q0 q1:IntKind):Int×Int->Value:=λx=> .agg #[.int q0 x.1,.int q1 x.2]
abbrev O2(q0 q1:IntKind):Int×Int->Prop:=λx=>(Xg5 q0 x.1).wf=true/\(Xg5 q1 x.2).wf=true
abbrev OI(q:IntKind):Int->Prop:=λx=>(Xg5 q x).wf=true
theorem G0:iA prog 333 (E2 .i64 .i64) (O2 .i64 .i64):=enc2 underlying333 underlying3 underlying3 dM kM kM kM kM EC laid
theorem pT:iA prog 455 (E2 .i64 .i64) (O2 .i64 .i64):=enc2 underlying455 underlying3 underlying3 dM kM kM kM kM EC laid
theorem Pm:iA prog 66 (E2 .i64 .u32) (O2 .i64 .u32):=enc2 underlying66 underlying3 underlying52 dM kM kM kM kM EC laid
theorem lY:iA prog 52 (Value.int .u32) (OI .u32):=encI underlying52
theorem fc:iA prog 3 (Value.int .i64) (OI .i64):=encI underlying3
end
end Go.Proofs.YtnpancjkjheffaaGreat
