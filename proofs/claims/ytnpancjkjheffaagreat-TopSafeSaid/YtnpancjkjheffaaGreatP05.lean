/- Part 7 of the proof of TopSafe. No condition. -/
import Derived.Test.YtnpancjkjheffaaGreatP04
namespace Go.Proofs.YtnpancjkjheffaaGreat
set_option linter.unusedVariables false
set_option linter.unusedSimpArgs false
set_option maxRecDepth 100000
set_option maxHeartbeats 8000000
open Go.RowKit
open Go.Proofs.Tryz
open _root_.List renaming getElem?_eq_getElem->PI,length_set->Xa0,getElem_mem->Xa1,getElem?_cons_zero->Xa2,getElem?_cons_succ->Xa3,length_map->Xa4,length_eraseIdx->Xa5,eraseIdx_eq_take_drop_succ->Xa6,eq_nil_of_length_eq_zero->Xa7,pairwise_iff_getElem->Xa8,insertIdx_succ_cons->Xa9,getElem_set_self->Xb0,getElem?_eq_none->Xb1,flatMap_append->Xb2,take_add_one->Xb3,take_length->Xb4,length_drop->Xb5,getElem_map->Xb6,set_set->Xb7,any_map->Xb8
open _root_.Array renaming getElem?_setIfInBounds_ne->Xb9,getElem?_eq_getElem->Xc0
open Calls renaming mono->Xc1
variable {c:Cf}{ls zs:List Int}{l:List Su}{ks:List Tk}{xs:List Value}{B X Z cap cap2 m1 m2 m3 n s:Nat}{S:Nat->Prop}{A A1 A2 A3:Option Addr}{k:Tk}{t:Tr}{e:TypeId}{v:Value}{u w w':World}
structure Rq where
 kind:Int
 who:Int
 room:Int
 rights:Int
 track:Int
 ss:List Int
 layer:Int
 tid:Int
abbrev fq(q:Rq)(A:Option Addr)(c:Nat):Array Value:=#[.int .i64 q.kind,.int .i64 q.who,.int .i64 q.room,.int .i64 q.rights,.int .i64 q.track,.slice A q.ss.length c,.int .i64 q.layer,.int .i64 q.tid]
def rh(w:World)(A:Option Addr)(cap:Nat)(q:Rq):Prop:=bd w A .u32 q.ss/\(A=none->cap=0)/\q.ss.length<=cap/\q.ss.length<=1000/\∀z∈q.ss,0<=z/\z<4294967296
theorem bd.kept{k:IntKind}(h:bd w A k zs)(hc:ag S w w')(hS:∀a,A=some a->a.block<w.heap.size->¬S a.block):bd w' A k zs:=by intro i hi;obtain⟨b,o,h1,h2,h3⟩:=h i hi;exact⟨b,o,h1,Nat.lt_of_lt_of_le h2 hc.size,by rw[←h3];unfold World.cell?;rw[hc.block b h2 (hS _ h1 h2)]⟩
theorem rh.below{q:Rq}(h:rh w A cap q)(hb:aC w w'):rh w' A cap q:=⟨h.1.below rfl hb,h.2⟩
theorem eg242:∀args w,(callFunc 242 args).run prog w=.ok (.enter 242 args) w:=λargs w=>rfl
theorem f242_t{q:Rq}(x:Pe)(hZ:u.heap[Z]?=OC (fq q A cap) 50):az 242 #[.agg (gp x).toArray,OV Z] u λe u'=>e=aA (.bool (x.who==q.who))/\aC u u':=by refine sd;go_enter func242,ntmps242;exact zh
theorem eg243:∀args w,(callFunc 243 args).run prog w=.ok (.enter 243 args) w:=λargs w=>rfl
theorem f243_t{q:Rq}(x:Su)(hZ:u.heap[Z]?=OC (fq q A cap) 50):az 243 #[.agg (el x).toArray,OV Z] u λe u'=>e=aA (.bool (x.who==q.who))/\aC u u':=by refine sd;go_enter func243,ntmps243;exact zh
theorem eg245:∀args w,(callFunc 245 args).run prog w=.ok (.enter 245 args) w:=λargs w=>rfl
theorem f245_t{q:Rq}(x:Tk)(hZ:u.heap[Z]?=OC (fq q A cap) 50):az 245 #[.agg (eU x).toArray,OV Z] u λe u'=>e=aA (.bool (x.owner==q.who))/\aC u u':=by refine sd;go_enter func245,ntmps245;exact zh
theorem eg251:∀args w,(callFunc 251 args).run prog w=.ok (.enter 251 args) w:=λargs w=>rfl
theorem f251_t{q:Rq}(x:Tk)(hZ:u.heap[Z]?=OC (fq q A cap) 50):az 251 #[.agg (eU x).toArray,OV Z] u λe u'=>e=aA (.bool (x.id==q.track))/\aC u u':=by refine sd;go_enter func251,ntmps251;exact zh
def xP(d:De)(who:Int):De:=gU ⟨d.people.filter (λx=>!(x.who==who)),d.tracks,d.subs.filter (λx=>!(x.who==who))⟩ (λ_ o=>o==who)
theorem SV{d:De}{q:Rq}(h:DX w B X c d)(hB:B<=w.heap.size)(hBX:B<=X)(h1:d.people.length<=1000)(h2:d.tracks.length<=1000)(h3:d.subs.length<=1000)(hs:p8 (d.tracks.map Tr.id)) :
  az 190 #[OV X,.agg (fq q A cap)] w λe w'=>e=aA (JI 0)/\DX w' B X c (xP d q.who)/\Below B w w':=by
 refine MF;have hZ:=ao w (.cells (fq q A cap) 50) _ rfl;have hd1:=TH (w:=w.alloc (.cells (fq q A cap) 50)) (p:=λx=>x.who==q.who) (m:=242) (caps:=#[OV w.heap.size]) eg242 (dz hp) oM (λx _ u hu=>f242_t x (fa hu hZ dM));have HD1:=OH hd1;clear hd1 hZ;refine XY;have HUP:=OH hs;clear hs;refine sf;go_enter func190,ntmps190;refine ay;refine Xc1 HD1.out ?_;rintro e w1 ⟨v1,rfl,hown1,hc1⟩;obtain⟨A4,n4,rfl⟩:=aj hown1;have hX1:=fa hc1 (ai hX) dM;have hZ1:=fa hc1 zt86 dM;have hXn:X≠w.heap.size:=oM;have hc1:=tV im hc1;have HO1:=OH hown1;clear hown1;obtain⟨W2,hW2⟩:∃W2,W2=w1.setCell ⟨X,4,none⟩ (.slice A4 (d.people.filter λx=>!(x.who==q.who)).length n4):=⟨_,rfl⟩
 have hs2:ag (λj=>j=X) w1 W2:=by rw[hW2];exact ag.set (S:=λj=>j=X) dp ⟨X,4,none⟩ (.inl rfl) _
 have hX2:W2.heap[X]?=OC (gi c (.slice A4 (d.people.filter λx=>!(x.who==q.who)).length n4) (.slice A2 ks.length n2) (.slice A3 d.subs.length n3)) 42:=by rw[hW2];exact bZ
 have hZ2:W2.heap[w.heap.size]?=OC (fq q A cap) 50:=by rw[hW2];exact bZ
 have ho2:∀ {e:TypeId},e≠42->gk (λj=>j=X) e w1:=λhe=>aJ hX1 (Ne.symm he)
 have P2:=OH (ah HO1.out hs2 (ho2 dM));clear HO1;have T2:=OH (ah (ah HT.out hc1 kj) hs2 (ho2 dM));clear HT;have S2:=OH (ah (ah HS.out hc1 kj) hs2 (ho2 dM));clear HS HP;have K2:=OH ((HK.out.kept hc1 kj).kept hs2 (ho2 dM));clear HK;have C2:ag (λj=>j=X\/B<=j) w W2:=(hc1.mono λj _ q=> .inr q.1).trans (hs2.mono λj _ q=> .inl q);have hsz2:w.heap.size<=W2.heap.size:=C2.size;have HC2:=OH C2;clear C2;obtain⟨c1,f1,z1⟩:=ab hX1;clear hc1 hs2 hX1 hZ1 ho2 c0 f0 z0;have hd2:=ye (w:=W2) (p:=λx=>x.who==q.who) (m:=243) (caps:=#[OV w.heap.size]) eg243 S2.out oM (λx _ u hu=>f243_t x (fa hu hZ2 dM));have HD2:=OH hd2;clear hd2;refine jO;rw[←hW2];clear hW2 c1 f1 z1 hX;obtain⟨c1,f1,z1⟩:=ab hX2;refine ay;refine Xc1 HD2.out ?_;rintro e w3 ⟨v3,rfl,hown3,hc3⟩;obtain⟨A5,n5,rfl⟩:=aj hown3;have hX3:=fa hc3 hX2 dM;have hZ3:=fa hc3 hZ2 dM;have HO3:=OH hown3;clear hown3;obtain⟨W4,hW4⟩:∃W4,W4=w3.setCell ⟨X,6,none⟩ (.slice A5 (d.subs.filter λx=>!(x.who==q.who)).length n5):=⟨_,rfl⟩
 have hs4:ag (λj=>j=X) w3 W4:=by rw[hW4];exact ag.set (S:=λj=>j=X) dp ⟨X,6,none⟩ (.inl rfl) _
 have hX4:W4.heap[X]?=OC (gi c (.slice A4 (d.people.filter λx=>!(x.who==q.who)).length n4) (.slice A2 ks.length n2) (.slice A5 (d.subs.filter λx=>!(x.who==q.who)).length n5)) 42:=by rw[hW4];exact bZ
 have hZ4:W4.heap[w.heap.size]?=OC (fq q A cap) 50:=by rw[hW4];exact bZ
 have ho4:∀ {e:TypeId},e≠42->gk (λj=>j=X) e w3:=λhe=>aJ hX3 (Ne.symm he)
 have hD4:DX W4 B X c ⟨d.people.filter (λx=>!(x.who==q.who)),d.tracks,d.subs.filter (λx=>!(x.who==q.who))⟩:=
  ⟨_,_,_,hX4,ah (ah P2.out hc3 kj) hs4 (ho4 dM),⟨ks,ah (ah T2.out hc3 kj) hs4 (ho4 dM),(K2.out.kept hc3 kj).kept hs4 (ho4 dM)⟩,ah HO3.out hs4 (ho4 dM)⟩
 have C4:ag (λj=>j=X\/B<=j) w W4:=(HC2.out.call hc3 (λj _ q=> .inr q.1)).trans (hs4.mono λj _ q=> .inl q);have hsz4:w.heap.size<=W4.heap.size:=C4.size;have HC4:=OH C4;clear C4;have hsl:=List.length_filter_le (λx:Su=>!(x.who==q.who)) d.subs;have hdr:=PV (m:=245) (caps:=#[OV w.heap.size]) (λ_ o=>o==q.who) eg245 hD4 oM h2 (by show(d.subs.filter _).length<=1000;omega) HUP.out (λk u hu=>f245_t k (fa hu hZ4 dM));have HDR:=OH hdr;clear hdr hsl;obtain⟨c3,f3,z3⟩:=ab hX3;clear hD4 hs4 hc3 hX3 hZ3 ho4;refine iI;rw[←hW4];clear hW4 c1 f1 z1 c3 f3 z3;refine ay;refine Xc1 HDR.out ?_;rintro e w5 ⟨rfl,hD5,hc5⟩;refine bj;exact⟨rfl,hD5,(HC4.out.call hc5 (λj _ q=>q)).below (λj q=>q.elim (λq=>oM) id) hB⟩
theorem tp{l:List Int}{t:Int}(h:p8 l)(ht:t∈l):∃hi:fi t l<l.length,l[fi t l]=t:=by
 have h1:=Py h t;rw[decide_eq_true ht]at h1;unfold tC at h1;rw[show gX (λi=>fl i t) l=fi t l from rfl]at h1;by_cases hk:fi t l<l.length
 .rw[PI hk]at h1
  exact⟨hk,iQ.1 ul⟩
 .rw[Xb1 oM]at h1
  cases h1
theorem own_t{n1 n2 n3:Nat}(q:Rq)(hX:w.heap[X]?=OC (gi c (.slice A1 m1 n1) (.slice A2 ks.length n2) (.slice A3 m3 n3)) 42)(hk:w.ownsRow B 173 4 (.slice A2 ks.length n2) ks.length (ks.flatMap eU))(hl:ks.length<=1000)(hs:p8 (ks.map Tk.id)) :
  az 250 #[OV X,.agg (fq q A cap)] w λe w'=>(∃v err,e=aA (.tuple #[v,JI err])/\((q.track ∉ ks.map Tk.id/\err=21)\/(∃i,∃hi:i<ks.length,ks[i].id=q.track/\((ks[i].owner≠q.who/\err=24)\/(ks[i].owner=q.who/\err=0/\∃g,A2=some ⟨g,0,none⟩/\v=.pointer (some ⟨g,i*4,none⟩))))))/\aC w w':=by
 have ht:=λW (hb:aC w W)=>wO (w:=W) A1 A2 A3 m1 ks.length m3 n1 n2 n3 q.track (aX hk hb) hl hs c.people c.tracks c.subs c.slots
 have hlow:=λh=>tp (t:=q.track) hs h
 have HLW:=OH hlow;refine jM;refine sf;have hXn:X≠w.heap.size:=oM;cases hin:decide (q.track∈ks.map Tk.id)with
 |false=>
  rw[hin]at ht;have HT:=OH ht;have HIN:=OH hin;go_enter func250,ntmps250;refine ay;refine rg 10 (λw'=>Bk w' X (gi c (.slice A1 m1 n1) (.slice A2 ks.length n2) (.slice A3 m3 n3)) 42/\Bk w' w.heap.size (fq q A cap) 50/\ag af w w') ⟨bk,bk,bu⟩ (λhHeld0=>?_);refine Zc;refine df;exact⟨⟨_,_,rfl,.inl ⟨by simpa using HIN.out,rfl⟩⟩,hc5.none⟩
 |true=>
  rw[hin]at ht;have HT:=OH ht;obtain⟨hi,he⟩:=HLW.out (by simpa using hin);generalize fi q.track (ks.map Tk.id)=i at hi he HT;rw[Xa4]at hi;rw[Xb6]at he;rcases bW hk with⟨_,h0,_⟩|⟨g,cap2,hA,hBg,hgl,hcap,hmx⟩
  .omega
  refine FC;obtain⟨-,-,-,-,cr,hg,hsz,hrow⟩:=gH hk;have hd:=hrow i hi 1 dM;simp only[Xa2,Xa3]at hd;obtain⟨o,ho⟩:∃o,o=ks[i].owner:=⟨_,rfl⟩
  rw[←ho]at hd;have HO:=OH ho;have HE:=OH he;obtain⟨c3,f3,z3⟩:=ab hg;have e3:=(c3 (i*4+1)).trans hd;by_cases hw:o=q.who
  .have d1:(o==q.who)=true:=by simpa using hw
   refine zq59;exact⟨⟨_,_,rfl,.inr ⟨i,hi,HE.out,.inr ⟨by rw[←HO.out,HW.out],rfl,g,rfl,rfl⟩⟩⟩,(HC5.out.drewN _).none⟩
  .have d1:(o==q.who)=false:=by simpa using hw
   refine zq59;exact⟨⟨_,_,rfl,.inr ⟨i,hi,HE.out,.inl ⟨by rw[←HO.out];exact HW.out,rfl⟩⟩⟩,(HC5.out.drewN _).none⟩
def PA(l:List Su)(who:Int):Int:=((l.filter λx=>x.who==who).length:Nat)
theorem has_t{n1 n2 n3:Nat}(who:Int)(hX:w.heap[X]?=OC (gi c (.slice A1 m1 n1) (.slice A2 m2 n2) (.slice A3 l.length n3)) 42)(h:w.ownsRow B 170 5 (.slice A3 l.length n3) l.length (l.flatMap el))(hl:l.length<=1000) :
  az 254 #[OV X,JI who] w λe w'=>e=aA (JI (PA l who))/\aC w w':=by
 refine sf;go_enter func254,ntmps254;refine ay;go_loopw [5,7,13] (λn _ i wr=>∃ (k:Nat) (j:Nat),k<=l.length/\j<=k/\i=JI k/\n=JI j/\j=((l.take k).filter λx=>x.who==who).length/\aC w wr) (λ_ _ i _=>l.length- (intOf i).toNat);case atStart=>exact⟨0,0,oM,oM,rfl,rfl,rfl,gM⟩
 case round=>
  obtain⟨k,j,hk,hj,rfl,rfl,hjn,hb⟩:=hrel;have HJ:=OH hjn;have hsz9:=hb.size;refine rO
  .have ht:(l.take (k+1)).filter (λx=>x.who==who)=(l.take k).filter (λx=>x.who==who)++(if l[k].who==who then [l[k]] else []):=by rw[Xb3,PI hlt,List.filter_append];cases hh:l[k].who==who<;>simp[hh]
   have HT:=OH ht;have hw:=aX h (hb.mono fo);rcases bW hw with⟨_,h0,_⟩|⟨g,cap2,hA,hBg,hgl,hcap,hmx⟩
   .omega
   refine FC;obtain⟨-,-,-,-,cr,hg,hsz,hrow⟩:=it hw;have d0:=hrow k hlt 0 dM;have d1:=hrow k hlt 1 dM;have d2:=hrow k hlt 2 dM;have d3:=hrow k hlt 3 dM;have d4:=hrow k hlt 4 dM;refine Me;obtain⟨c3,f3,z3⟩:=ab hg;have e0:=(c3 (k*5)).trans d0;have e1:=(c3 (k*5+1)).trans d1;have e2:=(c3 (k*5+2)).trans d2;have e3:=(c3 (k*5+3)).trans d3;have e4:=(c3 (k*5+4)).trans d4;cases hp:l[k].who==who with
   |true=>
    rw[hp,if_pos rfl]at HT;refine dA;case rel=>exact⟨k+1,j+1,oM,oM,eT,eT,by rw[HT.out,List.length_append,←HJ.out];rfl,gM⟩
    case measure=>
     exact di
   |false=>
    rw[hp,if_neg dM,List.append_nil]at HT;refine dA;case rel=>exact⟨k+1,j,oM,oM,eT,eT,by rw[HT.out];exact HJ.out,gM⟩
    case measure=>exact di
  .have hkl:k=l.length:=oM
   subst hkl;rw[Xb4]at HJ;refine bj;exact⟨by rw[PA,←HJ.out];rfl,hb⟩
theorem Qv{α:Type}{p:α->Bool}{l:List α}{k:Nat}(hk:k<l.length)(h:(l.take k).any p=false)(hp:p l[k]=false):(l.take (k+1)).any p=false:=by rw[Xb3,PI hk,List.any_append,h];simp[hp]
theorem eg286:∀args w,(callFunc 286 args).run prog w=.ok (.enter 286 args) w:=λargs w=>rfl
theorem eg284:∀args w,(callFunc 284 args).run prog w=.ok (.enter 284 args) w:=λargs w=>rfl
theorem f286_t(x:Int)(hZ:w.heap[Z]?=OC #[.slice A ls.length cap] 48)(h:bd w A .u32 ls)(hl:ls.length<=1000) :
  az 286 #[JT x,OV Z] w λe w'=>e=aA (.bool (decide (x∈ls)))/\w'=w:=by
 have hh:=has_u x A cap ls w oM h;generalize decide (x∈ls)=bb at hh ⊢;have HH:=OH hh;refine sd;go_enter func286,ntmps286;refine E7;exact uW
theorem idxf_u(hZ:w.heap[Z]?=OC #[.slice A ls.length cap] 48)(h:bd w A .u32 ls)(hl:ls.length<=1000)(h2:bd w A2 .u32 zs)(hl2:zs.length<=1000) :
  az 308 #[.slice A2 zs.length cap2,.func (.func 286) #[] #[OV Z]] w λe w'=>∃k:Int,-1<=k/\k<=1000000/\e=aA (JI k)/\decide (0<=k)=zs.any (λx=>decide (x∈ls))/\w'=w:=by
 have eg:=eg286;have hf:=λx=>f286_t x hZ h hl
 refine kt;go_enter func308,ntmps308;refine ay;go_loop [5,8] (λ_ i=>∃k:Nat,k<=zs.length/\i=JI k/\(zs.take k).any (λx=>decide (x∈ls))=false) (λ_ i=>zs.length- (intOf i).toNat);case atStart=>exact⟨0,oM,rfl,sM⟩
 case round=>
  obtain⟨k,hk,rfl,hx⟩:=hrel;refine nG;by_cases hlt:k<zs.length
  .obtain⟨b,o,hA,hb,hc⟩:=h2 k hlt
   refine Ve;have H:=OH h2;have hfz:=HF.out zs[k];cases hz:decide (zs[k] ∈ls)with
   |true=>
    refine VZ;refine jN;exact⟨k,oM,oM,rfl,by rw[List.any_eq_true.2 ⟨zs[k],Xa1 hlt,HZ.out⟩];simp,rfl⟩
   |false=>
    refine VZ;refine jf;go_round;case rel=>exact⟨k+1,oM,eT,Qv hlt HX.out HZ.out⟩
    case measure=>exact di
  .have hkl:k=zs.length:=oM
   subst hkl;rw[Xb4]at HX;refine bj;exact⟨-1,oM,oM,rfl,by rw[HX.out];rfl,rfl⟩
theorem anyf_u(hZ:w.heap[Z]?=OC #[.slice A ls.length cap] 48)(h:bd w A .u32 ls)(hl:ls.length<=1000)(h2:bd w A2 .u32 zs)(hl2:zs.length<=1000) :
  az 285 #[.slice A2 zs.length cap2,.func (.func 286) #[] #[OV Z]] w λe w'=>e=aA (.bool (zs.any λx=>decide (x∈ls)))/\w'=w:=by
 have hi:=idxf_u (cap2:=cap2) hZ h hl h2 hl2;have HI:=OH hi;go_enter func285,ntmps285;exact Yw
theorem f284_t(hkt:gy w B k t)(hZ:w.heap[Z]?=OC #[.slice A ls.length cap] 48)(h:bd w A .u32 ls)(hl:ls.length<=1000)(hl2:t.ssrcs.length<=1000) :
  az 284 #[.agg (eU k).toArray,OV Z] w λe w'=>e=aA (.bool (t.ssrcs.any λx=>decide (x∈ls)))/\aC w w':=by
 have hn:=rj hkt;have ha:=λW (hb:aC w W)=>anyf_u (w:=W) (cap:=cap) (cap2:=k.c) ((hb.block Z (aB hZ)).trans hZ) (h.below rfl hb) hl ((kU hkt.2.2.2).below rfl hb) hl2
 rw[hn]at ha;generalize (t.ssrcs.any λx=>decide (x∈ls))=bb at ha ⊢;have HA:=OH ha;go_enter func284,ntmps284;refine ay;refine(HA.out _ gM).mono ?_;refine jN;exact ql
def lr(ts:List Tr)(ls:List Int):Bool:=ts.any λt=>t.ssrcs.any λx=>decide (x∈ls)
theorem Ow{ys:List Value}(h:w.ownsRow B e s v n xs)(k:w.ownsRow B e s v n ys):xs=ys:=by
 rcases h.2 with⟨h1,h2⟩|⟨g,cap,cur,h1,_,h3,_,_,_,h7⟩
 .rcases k.2 with⟨_,k2⟩|⟨g',_,_,k1,_⟩
  .have h0:=h.1
   have k0:=k.1;rw[h2,Nat.zero_mul]at h0 k0;rw[Xa7 h0,Xa7 k0]
  .rw[h1]at k1
   cases k1
 .rcases k.2 with⟨k1,_⟩|⟨g',cap',cur',k1,_,k3,_,_,_,k7⟩
  .rw[h1]at k1
   cases k1
  .refine Xa
   rw[h3]at k3;simp only[Option.some.injEq,Obj.cells.injEq]at k3;rw[←h7,←k7,k3.1]
theorem NH{t':Tr}(h:gy w B k t)(h':gy w B k t'):t.ssrcs=t'.ssrcs:=by have:=Ow h.2.2.2 h'.2.2.2;exact(List.map_inj_right (λa b q=>by simpa using q)).1 this
open Classical in
theorem Gx{n1 n2 n3:Nat}{ts:List Tr}(c:Cf)(hk:w.ownsRow B 173 4 (.slice A2 ks.length n2) ks.length (ks.flatMap eU))(hks:eX w B ks ts)(hl:ks.length<=1000)(hss:∀t∈ts,t.ssrcs.length<=1000)(h:bd w A .u32 ls)(hll:ls.length<=1000) :
  az 248 #[.agg (gi c (.slice A1 m1 n1) (.slice A2 ks.length n2) (.slice A3 m3 n3)),.slice A ls.length cap] w λe w'=>e=aA (.bool (lr ts ls))/\aC w w':=by
 obtain⟨p,hp⟩:∃p:Tk->Bool,∀j (h1:j<ks.length) (h2:j<ts.length),p ks[j]=ts[j].ssrcs.any λx=>decide (x∈ls):=by refine⟨λk=>decide (∃t,gy w B k t/\(t.ssrcs.any λx=>decide (x∈ls))=true),λj h1 h2=>?_⟩;rw[Bool.eq_iff_iff,decide_eq_true_iff];exact⟨λ⟨t,h3,h4⟩=>by rw[NH (hks.2 j h1 h2) h3];exact h4,λh4=>⟨ts[j],hks.2 j h1 h2,h4⟩⟩
 have hany:ks.any p=lr ts ls:=by
  have:ks.map p=ts.map λt=>t.ssrcs.any λx=>decide (x∈ls):=List.ext_getElem (by simp[hks.1]) λj a b=>by simpa using hp j (by simpa using a) (by simpa using b)
  unfold lr;have h1:(ks.map p).any id=ks.any p:=by rw[Xb8];rfl
  rw[←h1,this,Xb8];rfl
 have ha:=λW (Z:Nat) (hb:aC w W) (hZ:W.heap[Z]?=OC #[.slice A ls.length cap] 48)=>TX (w:=W) (m:=284) (caps:=#[OV Z]) (p:=p) eg284 (aX hk hb) oM (λj hj u hu=>by
  have hj2:j<ts.length:=by rw[←hks.1];exact hj
  rw[hp j hj hj2];exact f284_t (((hks.2 j hj hj2).kept (.of hb) cy).kept (.of hu) cy) ((hu.block Z (aB hZ)).trans hZ) ((h.below rfl hb).below rfl hu) hll (hss _ (Xa1 hj2)))
 rw[hany]at ha;generalize lr ts ls=bb at ha ⊢;have HA:=OH ha;have h283:∀W (Z:Nat) (hb:aC w W) (hZ:W.heap[Z]?=OC #[.slice A ls.length cap] 48),az 283 #[.slice A2 ks.length n2,.func (.func 284) #[] #[OV Z]] W λe w'=>e=aA (.bool bb)/\aC W w':=by intro W Z hb hZ;have hi:=HA.out W Z hb hZ;have HI:=OH hi;go_enter func283,ntmps283;refine Fm;rintro e w1 ⟨k,k1,k2,hk,rfl,hb⟩;have HK:=OH hk;refine bj;exact⟨by rw[←HK.out];rfl,hb⟩
 have H3:=OH h283;go_enter func248,ntmps248;refine ay;refine(H3.out _ _ gM eM).mono ?_;refine rZ;refine bj;exact⟨rfl,aE (w:=w) gM hb1⟩
def mN(c:Cf)(d:De)(q:Rq):De×Int:=
 if ja q.who 1 999=false then(d,1) else if ja q.room 1 9=false then(d,1) else if ja q.rights 0 3=false then(d,1)
 else if decide (q.who∈d.people.map Pe.who)=true then(d,22) else if decide (c.people<=d.people.length)=true then(d,20)
 else(⟨d.people.insertIdx (fi q.who (d.people.map Pe.who)) ⟨q.who,q.room,q.rights⟩,d.tracks,d.subs⟩,0)
theorem yj(h:w.ownsRow B e s v n xs)(hc:ag (λj=>v.ownBlock=some j) w w'):ag (oy e B w) w w':=hc.mono λj _ q=>⟨eV h j q,bG h q⟩
theorem GR(h:w.ownsRow B e s v n xs):v.ownBlock≠some w.heap.size:=λq=>by have:=(h.lt _ q).2;omega
theorem xK(t:Int)(l:List Int):fi t l<=l.length:=(nf _ l).1
theorem join_t{d:De}{q:Rq}(h:DX w B X c d)(hB:B<=w.heap.size)(hBX:B<=X)(h1:d.people.length<=999)(hs:p8 (d.people.map Pe.who)) :
  az 189 #[OV X,.agg (fq q A cap)] w λe w'=>e=aA (JI (mN c d q).2)/\DX w' B X c (mN c d q).1/\Below B w w':=by
 refine Rc;have hps:=λW (hb:aC w W)=>oV (w:=W) A1 A2 A3 d.people.length ks.length d.subs.length n1 n2 n3 q.who (aX HP.out hb) oM hs c.people c.tracks c.subs c.slots
 have i1:=λW=>rb q.who 1 999 W
 have i2:=λW=>rb q.room 1 9 W
 have i3:=λW=>rb q.rights 0 3 W
 obtain⟨J,hJ⟩:∃J,J=mN c d q:=⟨_,rfl⟩
 rw[←hJ];unfold mN at hJ;have hlo:=xK q.who (d.people.map Pe.who);rw[Xa4]at hlo;have HLO:=OH hlo;clear hlo hs;cases g1:ja q.who 1 999 with
 |false=>
  rw[g1]at i1;rw[g1,if_pos rfl]at hJ;clear g1;refine Ll;refine zq6;go_ret;exact AJ
 |true=>
  rw[g1,if_neg dM]at hJ;rw[g1]at i1;clear g1;cases g2:ja q.room 1 9 with
  |false=>
   rw[g2]at i2;rw[g2,if_pos rfl]at hJ;clear g2;refine Ll;refine zq6;refine uO;refine jN;exact AJ
  |true=>
   rw[g2,if_neg dM]at hJ;rw[g2]at i2;clear g2;cases g3:ja q.rights 0 3 with
   |false=>
    rw[g3]at i3;rw[g3,if_pos rfl]at hJ;clear g3;refine Ll;refine FM;go_ret;exact AJ
   |true=>
    rw[g3,if_neg dM]at hJ;rw[g3]at i3;clear g3;cases g4:decide (q.who∈d.people.map Pe.who)with
    |true=>
     rw[g4]at hps;rw[g4,if_pos rfl]at hJ;clear g4;refine FM;go_ret;exact AJ
    |false=>
     rw[g4,if_neg dM]at hJ;rw[g4]at hps;clear g4;cases g5:decide (c.people<=d.people.length)with
     |true=>
      rw[g5,if_pos rfl]at hJ;refine FM;exact W0
     |false=>rw[g5,if_neg dM]at hJ;refine FM;refine qm;refine rg 17 (λw'=>Bk w' X (gi c (.slice A1 d.people.length n1) (.slice A2 ks.length n2) (.slice A3 d.subs.length n3)) 42/\Bk w' w.heap.size (fq q A cap) 50/\ag (oy 167 B w5) w5 w') ⟨bk,bk,bu⟩ (λhHeld0=>?_);refine iU;refine Lt;refine hK.out _ _ ⟨bk,bk,bu⟩ (λhHeld1=>?_);refine nR;refine sb;have hc9:ag af w5 ((w5.drewN (nq+1)).alloc (.cells #[JI q.who,JI q.room,JI q.rights] 167)):=bu;have hP5:=ah HP.out HC5.out cy;have hP9:=ah hP5 hc9 cy;have hlo9:=HLO.out;refine Xc1 (ins_pe (V:=w5.heap.size) (x:=⟨q.who,q.room,q.rights⟩) hP9 (by simp only[aD,lu];have:=HC5.out.size;omega) oM hlo9 eM (GR hP5)) ?_;rintro e w6 ⟨v6,rfl,hown6,hb5⟩;have hb5:=yj hP9 hb5;refine Ly;have HO6:=OH hown6;clear hown6 hP9 hlo9;refine Xx;refine tk 15 ?_;refine tk 16 ?_;refine eY;have hw:=hHeld2;go_split_ands;have hcA:ag (oy 167 B w5) w5 w6:=aM;have hX6:w6.heap[X]?=OC (gi c (.slice A1 d.people.length n1) (.slice A2 ks.length n2) (.slice A3 d.subs.length n3)) 42:=aM;have hs7:ag (λj=>j=X) w6 (w6.setCell ⟨X,4,none⟩ (.slice A7 (d.people.length+1) n7)):=ag.set (S:=λj=>j=X) dp ⟨X,4,none⟩ (.inl rfl) _;refine FQ;refine lS;have h5:=HC5.out;have hkk:=HKL.out;have hl7:(d.people.insertIdx (fi q.who (d.people.map Pe.who)) (⟨q.who,q.room,q.rights⟩:Pe)).length=d.people.length+1:=gF _ _ _ HLO.out;have h7:=HO6.out;rw[←hl7]at h7;refine⟨rfl,⟨_,_,_,Ey,ah h7 hs7 (ho7 dM),⟨ks,ah (ah (ah HT.out h5 cy) hcA kj) hs7 (ho7 dM),((HK.out.kept h5 cy).kept hcA kj).kept hs7 (ho7 dM)⟩,ah (ah (ah HS.out h5 cy) hcA kj) hs7 (ho7 dM)⟩,?_⟩;exact(((h5.mono (T:=λj=>j=X\/B<=j) λ_ _ q=>q.elim).call hcA λj _ q=> .inr q.1).trans (hs7.mono λj _ q=> .inl q)).below (λj q=>q.elim (λq=>oM) id) hB
def mW(d:De)(who:Int):Int:=match d.people[fi who (d.people.map Pe.who)]? with|some x=>x.rights|none=>0
def ig(c:Cf)(d:De)(q:Rq):De×Int:=
 if(bits .and .i64 (mW d q.who) 1==0)=true then(d,24) else if ja q.track 1 999=false then(d,1) else if tj q.ss=false then(d,1)
 else if decide (q.track∈d.tracks.map Tr.id)=true then(d,22) else if lr d.tracks q.ss=true then(d,22) else if decide (c.tracks<=d.tracks.length)=true then(d,20)
 else(⟨d.people,d.tracks.insertIdx (fi q.track (d.tracks.map Tr.id)) ⟨q.track,q.who,0,q.ss⟩,d.subs⟩,0)
theorem qI(h:gy w B k t):∀ {ks:List Tk} {ts:List Tr} (i:Nat),eX w B ks ts->eX w B (ks.insertIdx i k) (ts.insertIdx i t)
 | [],[],0,hs=>iq.2 ⟨h,hs⟩
 | [],[],i+1,hs=>hs
 | [],_::_,_,hs=>by have:=hs.1;simp at this
 |_::_,[],_,hs=>by have:=hs.1;simp at this
 |k'::ks,t'::ts,0,hs=>iq.2 ⟨h,hs⟩
 |k'::ks,t'::ts,i+1,hs=>by obtain⟨h1,h2⟩:=iq.1 hs;rw[Xa9,Xa9];exact iq.2 ⟨h1,qI h i h2⟩
theorem IQ{d:De}{q:Rq}(h:DX w B X c d)(hB:B<=w.heap.size)(hBX:B<=X)(h1:d.people.length<=999)(h2:d.tracks.length<=999)(h4:∀t∈d.tracks,t.ssrcs.length<=1000)(hs:p8 (d.people.map Pe.who))(hs2:p8 (d.tracks.map Tr.id))(hw:q.who∈d.people.map Pe.who)(hq:rh w A cap q) :
  az 191 #[OV X,.agg (fq q A cap)] w λe w'=>e=aA (JI (ig c d q).2)/\DX w' B X c (ig c d q).1/\Below B w w':=by
 refine zq39;have i2:=λW=>rb q.track 1 999 W
 refine Zd;have i4:=λW (hb:ag af w W)=>Gx (A1:=some ⟨gP,0,none⟩) (A3:=A3) (m1:=d.people.length) (m3:=d.subs.length) (n1:=n1) (n3:=n3) (cap:=cap) (w:=W) c (ah HT.out hb cy) (HK.out.kept hb cy) EB h4 (hq.1.below rfl hb.none) hq.2.2.2.1
 have hsrc:dV w A q.ss.length cap (iJ q.ss):=fk hq.1 hq.2.1;have HSRC:=OH hsrc;clear hsrc;have hql:=hq.2.2.2.1;obtain⟨J,hJ⟩:∃J,J=ig c d q:=⟨_,rfl⟩
 rw[←hJ];refine Vx;unfold ig at hJ;rw[hrf,←HKL.out]at hJ;obtain⟨ti,hti⟩:∃ti,ti=fi q.track (d.tracks.map Tr.id):=⟨_,rfl⟩
 have hlo:=xK q.track (d.tracks.map Tr.id);rw[Xa4,←hti]at hlo;rw[←hti]at hts hJ;have HLO:=OH hlo;clear hlo hs hs2 hw hq hrf hpe hpi0 hrt hti hrow hrm hd1 h4;cases g1:(bits .and .i64 rt 1==0)with
 |true=>
  rw[g1,if_pos rfl]at hJ;refine zq9;go_ret;exact LG
 |false=>
  rw[g1,if_neg dM]at hJ;cases g2:ja q.track 1 999 with
  |true=>
   rw[g2,if_neg dM]at hJ;rw[g2]at i2;clear g2;cases g3:tj q.ss with
   |true=>
    rw[g3,if_neg dM]at hJ;rw[g3]at i3;clear g3;cases g4:decide (q.track∈d.tracks.map Tr.id)with
    |true=>
     rw[g4,if_pos rfl]at hJ;rw[g4]at hts;clear g4;refine zq9;refine uO;refine jf;refine(I3.out _ HC5.out).mono ?_;refine jf;exact W0
    |false=>
     rw[g4,if_neg dM]at hJ;rw[g4]at hts;clear g4;cases g5:lr d.tracks q.ss with
     |true=>
      rw[g5,if_pos rfl]at hJ;rw[g5]at i4;clear g5;refine zq14;go_ret;rw[HJ.out];have hcf:ag af w w7:=HC7.out;exact Q8
     |false=>
      rw[g5,if_neg dM]at hJ;rw[g5]at i4;clear g5;cases g6:decide (c.tracks<=ks.length)with
      |true=>
       rw[g6,if_pos rfl]at hJ;refine zq14;go_quiet (fail);refine lS;have hcf:ag af w (w7.drewN nq):=HC7.out.drewN _;exact Q8
      |false=>
       rw[g6,if_neg dM]at hJ;refine zq14;refine qm;refine rg 18 (λw'=>Bk w' X (gi c (.slice (aT gP) d.people.length n1) (.slice A2 ks.length n2) (.slice A3 d.subs.length n3)) 42/\Bk w' w.heap.size (fq q A cap) 50/\ag (oy 173 B w7) w7 w') ⟨bk,bk,bu⟩ (λhHeld0=>?_);refine rP;refine on 12 λK hK=>?_
       go_simp;have hql1:(iJ q.ss).length=q.ss.length*1:=by simp[iJ]
       have hc8:ag af w7 (w7.drewN (nq+1)):=bu;have hsr:dV (w7.drewN (nq+1)) A q.ss.length cap (iJ q.ss):=HSRC.out.below ((HC7.out.trans hc8).none);refine(rE _ _ _ _ _ hql1 oM (wN _) hsr).mono ?_;rintro e w8 ⟨v8,rfl,hown8,hb8⟩;obtain⟨A8,n8,rfl⟩:=aj hown8;have hb9:ag (oy 173 B w7) w7 w8:=(hc8.mono (T:=oy 173 B w7) λ_ _ q=>q.elim).next hb8;have hc9:ag af w7 w8:=hc8.next hb8;have HC9:=OH hc9;clear hc9 hc8 hsr hql1;have HO8:=OH hown8;clear hown8;refine hK.out _ _ ⟨aO ((hb8.block _ (aB eM)).trans bZ),aO ((hb8.block _ (aB eM)).trans bZ),hb9⟩ (λhHeld1=>?_);refine nR;refine tk 13 ?_;refine on 14 λK hK=>?_
       have hz8:=hHeld1;go_split_ands;go_simp;refine hK.out _ _ ⟨bk,bk,bu⟩ (λhHeld2=>?_);refine rQ;refine on 15 λK hK=>?_
       go_simp;have hc9:ag af w7 (w8.alloc (.cells #[JI q.track,JI q.who,JI 0,.slice A8 q.ss.length n8] 173)):=(by have h9:=HC9.out;exact bu)
       have hT7:=ah HT.out HC7.out cy;have hT9:=ah hT7 hc9 cy;have hvn9:(Value.slice A2 ks.length n2).ownBlock≠some w8.heap.size:=λhh=>by have:=(hT7.lt _ hh).2;have:=HC9.out.size;omega
       have hlo9:=HLO.out;have hkl9:=HKL.out;refine Xc1 (ins_tk (V:=w8.heap.size) (i:=ti) (x:=⟨q.track,q.who,0,A8,q.ss.length,n8⟩) hT9 (by have:=hc9.size;have:=HC7.out.size;omega) oM oM eM hvn9) ?_;rintro e w6 ⟨v6,rfl,hown6,hb5⟩;have hb5:=yj hT9 hb5;refine Ly;have HB5:=OH hb5;have HO6:=OH hown6;clear hown6 hT9 hT7 hlo9 hkl9 hvn9;refine hK.out _ _ zt66 (λhHeld3=>?_);refine Ft;refine zj;refine eY;have hw:=hHeld3;go_split_ands;have hX6:w6.heap[X]?=OC (gi c (.slice (aT gP) d.people.length n1) (.slice A2 ks.length n2) (.slice A3 d.subs.length n3)) 42:=aM;have hcB:ag (oy 173 B w7) w7 w6:=aM;have hs7:ag (λj=>j=X) w6 (w6.setCell ⟨X,5,none⟩ (.slice A7 (ks.length+1) n7)):=ag.set (S:=λj=>j=X) dp ⟨X,5,none⟩ (.inl rfl) _;refine FQ;refine lS;have h7:=HC7.out;have h9:=HC9.out;have hkk:=HKL.out;have hlo:=HLO.out;have hl7:(ks.insertIdx ti (⟨q.track,q.who,0,A8,q.ss.length,n8⟩:Tk)).length=ks.length+1:=gF _ _ _ oM;have h6:=HO6.out;rw[←hl7]at h6;have h5:ag (oy 173 B (w8.alloc (.cells #[JI q.track,JI q.who,JI 0,.slice A8 q.ss.length n8] 173))) (w8.alloc (.cells #[JI q.track,JI q.who,JI 0,.slice A8 q.ss.length n8] 173)) w6:=HB5.out;have hto:∀ {e:TypeId} {s n:Nat} {v:Value} {xs:List Value},e≠173->e≠42->w.ownsRow B e s v n xs->(w6.setCell ⟨X,5,none⟩ (.slice A7 (ks.length+1) n7)).ownsRow B e s v n xs:=λh1 h2 h=>ah (ah (ah h h7 cy) hcB (sY (Ne.symm h1))) hs7 (ho7 h2)
       refine⟨rfl,⟨_,_,_,Ey,hto dM dM HP.out,⟨_,ah h6 hs7 (ho7 dM),qI ⟨rfl,rfl,rfl,?_⟩ _ (((HK.out.kept h7 cy).kept hcB kj).kept hs7 (ho7 dM))⟩,hto dM dM HS.out⟩,?_⟩
       .exact ah (ah (dz (aW HO8.out (by have:=h7.size;simp;omega))) h5 kj) hs7 (ho7 dM)
       .exact(((h7.mono (T:=λj=>j=X\/B<=j) λ_ _ q=>q.elim).call hcB λj _ q=> .inr q.1).trans (hs7.mono λj _ q=> .inl q)).below (λj q=>q.elim (λq=>oM) id) hB
   |false=>
    rw[g3,if_pos rfl]at hJ;rw[g3]at i3;clear g3;refine zq9;refine uO;refine jf;refine(I3.out _ HC5.out).mono ?_;refine jN;exact LG
  |false=>rw[g2,if_pos rfl]at hJ;rw[g2]at i2;clear g2;refine zq9;refine uO;refine jN;exact LG
theorem SR{l:List (Int×Int)}{t:Int×Int}(h:B9 l)(ht:t∈l):∃hi:kR t l<l.length,l[kR t l]=t:=by
 have h1:=hit_k h t;rw[decide_eq_true ht]at h1;unfold tC at h1;rw[show gX (mL t) l=kR t l from rfl]at h1;by_cases hk:kR t l<l.length
 .rw[PI hk]at h1
  exact⟨hk,o4.1 ul⟩
 .rw[Xb1 oM]at h1
  cases h1
def ii(d:De)(q:Rq)(m:Bool):De×Int:=
 if decide ((q.who,q.track)∈bD d.subs)=false then(d,21) else match d.subs[kR (q.who,q.track) (bD d.subs)]? with
 |none=>(d,21)
 |some x=>if(x.muted==m)=true then(d,23) else(⟨d.people,d.tracks,d.subs.set (kR (q.who,q.track) (bD d.subs)) ⟨x.who,x.track,x.layer,x.tid,m⟩⟩,0)
theorem GV{d:De}{q:Rq}(m:Bool)(h:DX w B X c d)(hB:B<=w.heap.size)(hBX:B<=X)(h1:d.subs.length<=999)(hs:B9 (bD d.subs)) :
  az 257 #[OV X,.agg (fq q A cap),.bool m] w λe w'=>e=aA (JI (ii d q m).2)/\DX w' B X c (ii d q m).1/\Below B w w':=by
 refine M5;obtain⟨J,hJ⟩:∃J,J=ii d q m:=⟨_,rfl⟩
 rw[←hJ];unfold ii at hJ;cases g1:decide ((q.who,q.track)∈bD d.subs)with
 |false=>
  refine Ml;clear hJ;go_enter func257,ntmps257;refine zq15;exact AJ
 |true=>
  refine zq17;obtain⟨mv,hmv⟩:∃mv,mv=x.muted:=⟨_,rfl⟩
  dsimp only at hJ;rw[←hmv]at hJ hd;have HSS:=OH hss;clear hss;cases g2:(mv==m)with
  |true=>
   rw[g2,if_pos rfl]at hJ;refine Y2;refine bj;exact AJ
  |false=>
   rw[g2,if_neg dM]at hJ;refine Y2;have hs7:ag (λj=>j=gS) w5 (w5.setCell ⟨gS,k*5+4,none⟩ (.bool m)):=ag.set (S:=λj=>j=gS) dp ⟨gS,k*5+4,none⟩ (.inl rfl) _;have ho7:∀ {e:TypeId},e≠170->gk (λj=>j=gS) e w5:=λhe=>aJ hgn (Ne.symm he)
   have hgX:X≠gS:=λq=>au hX5 (show(42:TypeId)≠170 by decide) (by rw[q];exact hgn)
   have HS7:=OH hs7;clear hs7;refine lS;have h5:=HC5.out;have hs7:=HS7.out;have hst:=((ah HS.out h5 cy).stored (k*5+4) (.bool m)).1;rw[iO ce d.subs k 4 hki dM (.bool m) ⟨x.who,x.track,x.layer,x.tid,m⟩ (by rw[←HX0.out];rfl)]at hst;have hl7:(d.subs.set k (⟨x.who,x.track,x.layer,x.tid,m⟩:Su)).length=d.subs.length:=Xa0;rw[←hl7]at hst;refine⟨rfl,⟨_,_,_,Ey,ah (ah HP.out h5 cy) hs7 (ho7 dM),⟨ks,ah (ah HT.out h5 cy) hs7 (ho7 dM),(HK.out.kept h5 cy).kept hs7 (ho7 dM)⟩,hst⟩,?_⟩;exact((h5.mono (T:=λj=>j=gS) λ_ _ q=>q.elim).trans hs7).below (λj q=>oM) hB
theorem DX.below{d:De}(h:DX w B X c d)(hb:aC w w'):DX w' B X c d:=by obtain⟨vp,vt,vs,hX,hD⟩:=h;exact⟨vp,vt,vs,(hb.block X (aB hX)).trans hX,hD.below hb⟩
theorem mute_t{d:De}{q:Rq}(h:DX w B X c d)(hB:B<=w.heap.size)(hBX:B<=X)(h1:d.subs.length<=999)(hs:B9 (bD d.subs)) :
  az 196 #[OV X,.agg (fq q A cap)] w λe w'=>e=aA (JI (ii d q true).2)/\DX w' B X c (ii d q true).1/\Below B w w':=by
 have hm:=λW (hb:aC w W)=>GV (w:=W) (q:=q) (A:=A) (cap:=cap) true (h.below hb) (Nat.le_trans hB hb.size) hBX h1 hs
 refine nH;go_enter func196,ntmps196;exact YK
theorem NE{d:De}{q:Rq}(h:DX w B X c d)(hB:B<=w.heap.size)(hBX:B<=X)(h1:d.subs.length<=999)(hs:B9 (bD d.subs)) :
  az 197 #[OV X,.agg (fq q A cap)] w λe w'=>e=aA (JI (ii d q false).2)/\DX w' B X c (ii d q false).1/\Below B w w':=by
 have hm:=λW (hb:aC w W)=>GV (w:=W) (q:=q) (A:=A) (cap:=cap) false (h.below hb) (Nat.le_trans hB hb.size) hBX h1 hs
 refine nH;go_enter func197,ntmps197;exact YK
def ie(d:De)(q:Rq):De×Int:=
 if decide ((q.who,q.track)∈bD d.subs)=false then(d,21) else match d.subs[kR (q.who,q.track) (bD d.subs)]? with
 |none=>(d,21)
 |some x=>if(ja q.layer 0 2&&ja q.tid 0 3)=false then(d,1) else(⟨d.people,d.tracks,d.subs.set (kR (q.who,q.track) (bD d.subs)) ⟨x.who,x.track,q.layer,q.tid,x.muted⟩⟩,0)
theorem IJ{d:De}{q:Rq}(h:DX w B X c d)(hB:B<=w.heap.size)(hBX:B<=X)(h1:d.subs.length<=999)(hs:B9 (bD d.subs)) :
  az 198 #[OV X,.agg (fq q A cap)] w λe w'=>e=aA (JI (ie d q).2)/\DX w' B X c (ie d q).1/\Below B w w':=by
 refine M5;refine WS;obtain⟨J,hJ⟩:∃J,J=ie d q:=⟨_,rfl⟩
 rw[←hJ];unfold ie at hJ;cases g1:decide ((q.who,q.track)∈bD d.subs)with
 |false=>
  refine Ml;clear hJ hly;go_enter func198,ntmps198;refine zq15;exact AJ
 |true=>
  refine zq17;dsimp only at hJ;have HSS:=OH hss;clear hss;cases g2:(ja q.layer 0 2&&ja q.tid 0 3)with
  |false=>
   rw[g2,if_pos rfl]at hJ;refine ZZ;refine lS;have hcf:ag af w w6:=HC6.out;exact⟨rfl,⟨_,_,_,hX6,ah HP.out hcf cy,zt81,ah HS.out hcf cy⟩,hcf.none.mono hB⟩
  |true=>
   rw[g2,if_neg dM]at hJ;refine ZZ;have hgn:w6.heap[gS]?=OC cr 170:=(HC6.out.block _ hgl id).trans hg;obtain⟨c6,f6,z6⟩:=ab hgn;have hgX:X≠gS:=λq=>au hX6 (show(42:TypeId)≠170 by decide) (by rw[q];exact hgn)
   have hgZ:w.heap.size≠gS:=λq=>au hZ6 (show(50:TypeId)≠170 by decide) (by rw[q];exact hgn)
   refine ay;refine rg 9 (λw'=>Bk w' X (gi c (.slice A1 d.people.length n1) (.slice A2 ks.length n2) (.slice (aT gS) d.subs.length n3)) 42/\Bk w' w.heap.size (fq q A cap) 50/\Bk w' gS cr 170/\ag af w6 w') ⟨bk,bk,bk,bu⟩ (λhHeld0=>?_);refine iU;refine la (λK hK=>?_);refine sD;go_simp;refine oK;obtain⟨W8,hW8⟩:∃W8,W8=(w6.setCell ⟨gS,k*5+2,none⟩ (JI q.layer)).drew:=⟨_,rfl⟩
   have hs8:ag (λj=>j=gS) w6 W8:=by rw[hW8];exact(ag.set (S:=λj=>j=gS) dp ⟨gS,k*5+2,none⟩ (.inl rfl) _).drew
   obtain⟨cr2,hcr⟩:∃cr2,cr2=cr.setIfInBounds (k*5+2) (JI q.layer):=⟨_,rfl⟩
   have hg8:W8.heap[gS]?=OC cr2 170:=by rw[hW8,hcr];exact av _ _ hgn
   have hu3:cr2[k*5+3]?=cr[k*5+3]?:=by rw[hcr,Xb9 oM]
   rw[hd3]at hu3;have hst8:=(((ah HS.out HC6.out cy).stored (k*5+2) (JI q.layer)).1).drew;rw[←hW8]at hst8;have HST8:=OH hst8;clear hst8;have hX8:=(hs8.block _ z3 hgX).trans hX6;have hZ8:=(hs8.block _ z4 hgZ).trans hZ6;have HC8:=OH ((HC6.out.mono (T:=λj=>j=gS) λ_ _ q=>q.elim).trans hs8);rw[←hW8];clear hs8 hW8 hcr c1 f1 z1 c2 f2 z2 c3 f3 z3 c4 f4 z4 c6 f6 z6 hgn hX6 hZ6 hX5 hZ5;obtain⟨c1,f1,z1⟩:=ab hX8;obtain⟨c2,f2,z2⟩:=ab hZ8;obtain⟨c6,f6,z6⟩:=ab hg8;refine ay;refine rg 9 (λw'=>Bk w' X (gi c (.slice A1 d.people.length n1) (.slice A2 ks.length n2) (.slice (aT gS) d.subs.length n3)) 42/\Bk w' w.heap.size (fq q A cap) 50/\Bk w' gS cr2 170/\ag af W8 w') ⟨bk,bk,bk,bu⟩ (λhHeld0=>?_);refine iU;refine la (λK hK=>?_);refine sD;go_simp;refine oK;have hs9:ag (λj=>j=gS) W8 ((W8.setCell ⟨gS,k*5+3,none⟩ (JI q.tid)).drew):=(ag.set (S:=λj=>j=gS) dp ⟨gS,k*5+3,none⟩ (.inl rfl) _).drew;have HS9:=OH hs9;clear hs9;refine lS;have hs9:=HS9.out;have h8:=HC8.out;have hst:=((HST8.out.stored (k*5+3) (JI q.tid)).1).drew;rw[iO ce d.subs k 2 hki dM (JI q.layer) ⟨x.who,x.track,q.layer,x.tid,x.muted⟩ (by rw[←HX0.out];rfl),iO ce _ k 3 (by rw[Xa0];exact hki) dM (JI q.tid) ⟨x.who,x.track,q.layer,q.tid,x.muted⟩ (by rw[Xb0];rfl),Xb7]at hst;have hl7:(d.subs.set k (⟨x.who,x.track,q.layer,q.tid,x.muted⟩:Su)).length=d.subs.length:=Xa0;rw[←hl7]at hst;have hto:∀ {e:TypeId} {s n:Nat} {v:Value} {xs:List Value},e≠170->w.ownsRow B e s v n xs->((W8.setCell ⟨gS,k*5+3,none⟩ (JI q.tid)).drew).ownsRow B e s v n xs:=λh1 h=>ah (ah h h8 (aJ hg (Ne.symm h1))) hs9 (aJ hg8 (Ne.symm h1))
   refine⟨rfl,⟨_,_,_,by rw[hl7];exact(hs9.block _ z1 hgX).trans hX8,hto dM HP.out,⟨ks,hto dM HT.out,(HK.out.kept h8 (aJ hg dM)).kept hs9 (aJ hg8 dM)⟩,hst⟩,?_⟩;exact(h8.trans hs9).below (λj q=>oM) hB
def sW(d:De)(q:Rq):Int:=if decide (q.track∈d.tracks.map Tr.id)=false then 21 else match d.tracks[fi q.track (d.tracks.map Tr.id)]? with|some t=>if t.owner=q.who then 0 else 24|none=>21
def j6(d:De)(q:Rq):De×Int:=if(sW d q==0)=true then(gU d (λi _=>i==q.track),0) else(d,sW d q)
theorem up_inj{l:List Int}(h:p8 l){i j:Nat}(hi:i<l.length)(hj:j<l.length)(he:l[i]=l[j]):i=j:=by
 rcases Nat.lt_trichotomy i j with q|q|q
 .have:=Xa8.1 h i j hi hj q
  omega
 .exact q
 .have:=Xa8.1 h j i hj hi q
  omega
theorem own_e{d:De}{q:Rq}{err:Int}{p:Nat->Prop}(hks:eX w B ks d.tracks)(hs:p8 (d.tracks.map Tr.id))(h:(q.track ∉ ks.map Tk.id/\err=21)\/(∃i,∃hi:i<ks.length,ks[i].id=q.track/\((ks[i].owner≠q.who/\err=24)\/(ks[i].owner=q.who/\err=0/\p i)))) :
  err=sW d q/\(err=0->∃ (hi:fi q.track (d.tracks.map Tr.id)<d.tracks.length),d.tracks[fi q.track (d.tracks.map Tr.id)].id=q.track/\p (fi q.track (d.tracks.map Tr.id))):=by
 have hid:=js hks;rcases h with⟨h1,rfl⟩|⟨i,hi,h1,h2⟩
 .rw[hid]at h1
  refine⟨?_,λq=>gZ⟩;rw[sW,decide_eq_false h1,if_pos rfl]
 .have hi2:i<d.tracks.length:=by rw[←hks.1];exact hi
  have ht:=hks.2 i hi hi2;have hm:q.track∈d.tracks.map Tr.id:=by rw[←h1,ht.1];exact List.mem_map_of_mem (Xa1 hi2)
  obtain⟨hl,hle⟩:=tp hs hm;have hl2:fi q.track (d.tracks.map Tr.id)<d.tracks.length:=by simpa using hl
  have hii:fi q.track (d.tracks.map Tr.id)=i:=up_inj hs hl (by simpa using hi2) (by rw[hle,Xb6,←ht.1,h1]);have hE:sW d q=if d.tracks[i].owner=q.who then 0 else 24:=by rw[sW,decide_eq_true hm,if_neg dM,hii,PI hi2]
  rw[hE,←ht.2.1];rcases h2 with⟨h3,rfl⟩|⟨h3,rfl,h4⟩
  .exact⟨by rw[if_neg h3],λq=>gZ⟩
  .refine⟨by rw[if_pos h3],λ_=>⟨hl2,?_,by rw[hii];exact h4⟩⟩
   have:d.tracks[fi q.track (d.tracks.map Tr.id)]'hl2=d.tracks[i]:=by congr
   rw[this,←ht.1,h1]
theorem Rw{d:De}{q:Rq}(h:DX w B X c d)(hB:B<=w.heap.size)(hBX:B<=X)(h2:d.tracks.length<=999)(h3:d.subs.length<=999)(hs:p8 (d.tracks.map Tr.id)) :
  az 192 #[OV X,.agg (fq q A cap)] w λe w'=>e=aA (JI (j6 d q).2)/\DX w' B X c (j6 d q).1/\Below B w w':=by
 refine bI;refine ZI;have hz:=ao w (.cells (fq q A cap) 50) _ rfl;have hdr:=λW (hc:ag af (w.alloc (.cells (fq q A cap) 50)) W)=>PV (w:=W) (m:=251) (caps:=#[OV w.heap.size]) (λi _=>i==q.track) eg251 ((H.out.below (.alloc yN fo _)).below hc.none) (by have:=hc.size;rw[aD]at this;omega) oM oM hs (λk u hu=>f251_t k (fa hu ((hc.block _ (aB hz) id).trans hz) dM))
 have HDR:=OH hdr;clear hdr hz;have HUP:=OH hs;clear hs hX;go_enter func192,ntmps192;refine Yc;obtain⟨he,-⟩:=own_e HK.out HUP.out ho;have hc1:ag af (w.alloc (.cells (fq q A cap) 50)) w1:=.of hb1;have hZ1:=(hc1.block w.heap.size sM id).trans zt86;clear ho;by_cases h0:err=0
 .have hu:j6 d q=(gU d (λi _=>i==q.track),0):=by rw[j6,←he,h0];rfl
  have HU:=OH hu;clear hu;have d0:(err==0)=true:=by simpa using h0
  clear he;subst h0;have HD1:=OH (HDR.out w1 hc1);refine ay;refine Xc1 HD1.out ?_;rintro e w2 ⟨rfl,hD,hc2⟩;refine bj;rw[HU.out];exact⟨rfl,hD,(((hc0.trans hc1).mono (T:=λj=>j=X\/B<=j) λ_ _ q=>q.elim).call hc2 λj _ q=>q).below (λj q=>q.elim (λq=>oM) id) hB⟩
 .have d0:(err==0)=false:=by simpa using h0
  have hu:j6 d q=(d,err):=by rw[j6,←he,d0];rfl
  have HU:=OH hu;clear hu;clear he;refine bj;rw[HU.out];exact⟨rfl,H.out.below (hc0.trans hc1).none,(hc0.trans hc1).none.mono hB⟩
def oS(d:De)(q:Rq):De×Int:=if(sW d q==0)=false then(d,sW d q) else if tj q.ss=false then(d,1) else if lr d.tracks q.ss=true then(d,22)
 else(⟨d.people,d.tracks.modify (fi q.track (d.tracks.map Tr.id)) (λt=>⟨t.id,t.owner,t.frm+1,q.ss⟩),d.subs⟩,0)
theorem repl_t{d:De}{q:Rq}(h:DX w B X c d)(hB:B<=w.heap.size)(hBX:B<=X)(h2:d.tracks.length<=999)(h4:∀t∈d.tracks,t.ssrcs.length<=1000)(h5:∀t∈d.tracks,0<=t.frm/\t.frm<=1000000)(hs:p8 (d.tracks.map Tr.id))(hq:rh w A cap q) :
  az 193 #[OV X,.agg (fq q A cap)] w λe w'=>e=aA (JI (oS d q).2)/\DX w' B X c (oS d q).1/\Below B w w':=by
 refine bI;refine ZI;refine Zd;have i4:=λW (hb:ag af w W)=>Gx (A1:=A1) (A3:=A3) (m1:=d.people.length) (m3:=d.subs.length) (n1:=n1) (n3:=n3) (cap:=cap) (w:=W) c (ah HT.out hb cy) (HK.out.kept hb cy) EB h4 (hq.1.below rfl hb.none) hq.2.2.2.1
 have HSRC:=OH (fk hq.1 hq.2.1);have hql:=hq.2.2.2.1;have H5:=OH h5;have HUP:=OH hs;clear hs hq h4 h5;obtain⟨J,hJ⟩:∃J,J=oS d q:=⟨_,rfl⟩
 rw[←hJ];unfold oS at hJ;refine rV;have HX:=OH hX;clear hX;obtain⟨ti,hti0⟩:∃ti,ti=fi q.track (d.tracks.map Tr.id):=⟨_,rfl⟩
 have HTI:=OH hti0;clear hti0;go_enter func193,ntmps193;refine Yc;have hoe:=own_e (p:=λi=>∃g,A2=some ⟨g,0,none⟩/\v=.pointer (some ⟨g,i*4,none⟩)) HK.out HUP.out ho;rw[←HTI.out]at hoe;obtain⟨he,hok⟩:=hoe;have hc1:ag af w w1:=hc0.next hb1;have hZ1:=(hb1.block w.heap.size sM).trans zt86;have hX1:=(hc1.block _ hXl id).trans HX.out;have HC1:=OH hc1;obtain⟨c1,f1,z1⟩:=ab hX1;obtain⟨c2,f2,z2⟩:=ab hZ1;clear ho hb1 hc0 hc1;by_cases h0:err=0
 .obtain⟨hti,hte,g,hA2,rfl⟩:=hok h0
  subst h0 hA2;have hJ:=HJ.out;rw[←he,if_neg dM,←HTI.out]at hJ;clear he hok HJ;cases g3:tj q.ss with
  |false=>
   rw[g3]at i3;rw[g3,if_pos rfl]at hJ;have I3:=OH i3;clear i3 i4 g3;refine Vg;exact VU
  |true=>
   rw[g3]at i3;rw[g3,if_neg dM]at hJ;have I3:=OH i3;clear i3 g3;cases g4:lr d.tracks q.ss with
   |true=>
    rw[g4]at i4;rw[g4,if_pos rfl]at hJ;refine U4;refine lS;have hcf:=HC1.out.trans hc5;exact⟨rfl,H.out.below hcf.none,hcf.none.mono hB⟩
   |false=>
    rw[g4]at i4;rw[g4,if_neg dM]at hJ;refine U4;have hX5:=(hc5.block _ z1 id).trans hX1;have hZ5:=(hc5.block _ z2 id).trans hZ1;have HC5:=OH (HC1.out.trans hc5);clear c1 f1 z1 c2 f2 z2 hc5;refine Aj;have hql1:(iJ q.ss).length=q.ss.length*1:=by simp[iJ]
    refine ay;refine(rE _ _ _ _ _ hql1 oM (wN _) (HSRC.out.below HC5.out.none)).mono ?_;rintro e w8 ⟨v8,rfl,hown8,hb8⟩;obtain⟨A8,n8,rfl⟩:=aj hown8;have hc8:=HC5.out.next hb8;have ht8:=ah HT.out hc8 cy;have hti2:ti<ks.length:=by have:=HKL.out;omega
    obtain⟨-,hcap,-,-,cr,hg8,hsz,hrow⟩:=gH ht8;have hd2:=hrow ti hti2 2 dM;have hd3:=hrow ti hti2 3 dM;simp only[Xa2,Xa3]at hd2 hd3;obtain⟨f5,f6⟩:=H5.out d.tracks[ti] (Xa1 hti);have hkt:=HK.out.2 ti hti2 hti;rw[hkt.2.2.1]at hd2;obtain⟨fr,hfr⟩:∃fr,fr=d.tracks[ti].frm:=⟨_,rfl⟩
    rw[←hfr]at hd2 f5 f6;obtain⟨c9,f9,z9⟩:=ab hg8;have e2:=(c9 (ti*4+2)).trans hd2;have e3:=(c9 (ti*4+3)).trans hd3;have HO8:=OH hown8;have HT8:=OH ht8;have HFR:=OH hfr;have HC8:=OH hc8;clear hown8 ht8 hrow hfr hc8 hb8 hql1;refine qn;obtain⟨W9,hW9⟩:∃W9,W9=w8.setCell ⟨g,ti*4+3,none⟩ (.slice A8 q.ss.length n8):=⟨_,rfl⟩
    have hs9:ag (λj=>j=g) w8 W9:=by rw[hW9];exact ag.set (S:=λj=>j=g) dp ⟨g,ti*4+3,none⟩ (.inl rfl) _
    obtain⟨cr2,hcr⟩:∃cr2,cr2=cr.setIfInBounds (ti*4+3) (.slice A8 q.ss.length n8):=⟨_,rfl⟩
    have hg9:W9.heap[g]?=OC cr2 173:=by rw[hW9,hcr];exact av _ _ hg8
    have hu2:cr2[ti*4+2]?=cr[ti*4+2]?:=by rw[hcr,Xb9 oM]
    rw[hd2]at hu2;have hst9:=(HT8.out.stored (ti*4+3) (.slice A8 q.ss.length n8)).1;rw[←hW9]at hst9;have HST9:=OH hst9;clear hst9;have HC9:=OH ((HC8.out.mono (T:=λj=>j=g) λ_ _ q=>q.elim).trans hs9);have HO9:=OH (ah HO8.out hs9 (aJ hg8 dM));have HS9:=OH hs9;rw[←hW9];clear hs9 hW9 hcr c9 f9 z9 e2 e3 hd2 hd3 c1 f1 z1 c2 f2 z2;obtain⟨c9,f9,z9⟩:=ab hg9;have e2:=(c9 (ti*4+2)).trans hu2;have hwr:IntKind.i64.wrap (fr+1)=fr+1:=kA
    refine lS;have h8:=HC9.out;have hs10:ag (λj=>j=g) W9 (W9.setCell ⟨g,ti*4+2,none⟩ (JI (fr+1))):=ag.set (S:=λj=>j=g) dp ⟨g,ti*4+2,none⟩ (.inl rfl) _;have hst:=(HST9.out.stored (ti*4+2) (JI (fr+1))).1;rw[iO dt ks ti 3 hti2 dM (.slice A8 q.ss.length n8) ⟨ks[ti].id,ks[ti].owner,ks[ti].fr,A8,q.ss.length,n8⟩ rfl,iO dt _ ti 2 (by rw[Xa0];exact hti2) dM (JI (fr+1)) ⟨ks[ti].id,ks[ti].owner,fr+1,A8,q.ss.length,n8⟩ (by rw[Xb0];rfl),Xb7]at hst;have hl7:(ks.set ti (⟨ks[ti].id,ks[ti].owner,fr+1,A8,q.ss.length,n8⟩:Tk)).length=ks.length:=Xa0;rw[←hl7]at hst;have hg0:∃cur,w.heap[g]?=OC cur 173:=bG HT.out rfl;obtain⟨cur0,hg0⟩:=hg0;have hto:∀ {e:TypeId} {s n:Nat} {v:Value} {xs:List Value},e≠173->w.ownsRow B e s v n xs->(W9.setCell ⟨g,ti*4+2,none⟩ (JI (fr+1))).ownsRow B e s v n xs:=λh1 h=>ah (ah h h8 (aJ hg0 (Ne.symm h1))) hs10 (aJ hg9 (Ne.symm h1))
    have hgB:B<=g:=eV HT.out g rfl;have hgX:X≠g:=λq=>au HX.out (show(42:TypeId)≠173 by decide) (by rw[q];exact hg0)
    refine⟨rfl,⟨_,_,_,by rw[hl7];exact(hs10.block _ (Nat.lt_of_lt_of_le hXl h8.size) hgX).trans ((h8.block _ hXl hgX).trans HX.out),hto dM HP.out,⟨_,hst,?_⟩,hto dM HS.out⟩,?_⟩
    .have hkk:eX (W9.setCell ⟨g,ti*4+2,none⟩ (JI (fr+1))) B ks d.tracks:=(HK.out.kept h8 (aJ hg0 dM)).kept hs10 (aJ hg9 dM)
     refine⟨by rw[hl7,List.length_modify];exact HKL.out,λi a b=>?_⟩;rw[List.getElem_modify,List.getElem_set];have hi1:i<ks.length:=by rw[←hl7];exact a
     have hi2:i<d.tracks.length:=by rw[←HKL.out];exact hi1
     by_cases hi:ti=i
     .subst hi
      rw[if_pos rfl,if_pos rfl];have h1:=hkk.2 ti hi1 hi2;exact⟨h1.1,h1.2.1,by rw[HFR.out],ah (aW HO9.out (by have:=HC5.out.size;omega)) hs10 (aJ hg9 dM)⟩
     .rw[if_neg hi,if_neg hi]
      exact hkk.2 i hi1 hi2
    .exact(h8.trans hs10).below (λj q=>oM) hB
 .have d0:(err==0)=false:=by simpa using h0
  have hJ:=HJ.out;rw[←he,d0,if_pos rfl]at hJ;refine rV;clear he hok;exact VU
theorem eg201:∀args w,(callFunc 201 args).run prog w=.ok (.enter 201 args) w:=λargs w=>rfl
theorem f201_t{n1 n2 n3:Nat}(x:Su)(hZ:u.heap[Z]?=OC (gi c (.slice A1 m1 n1) (.slice A2 m2 n2) (.slice A3 l.length n3)) 42)(h:u.ownsRow B 170 5 (.slice A3 l.length n3) l.length (l.flatMap el))(hl:l.length<=999)(hs:B9 (bD l)) :
  az 201 #[.agg (el x).toArray,OV Z] u λe u'=>e=aA (.bool (decide ((x.who,x.track)∈bD l)))/\aC u u':=by
 have ht:=λW (hb:aC u W)=>NN (w:=W) A1 A2 A3 m1 m2 l.length n1 n2 n3 x.who x.track uJ oM hs c.people c.tracks c.subs c.slots
 generalize decide ((x.who,x.track)∈bD l)=bb at ht ⊢;have HT:=OH ht;obtain⟨c1,f1,z1⟩:=ab hZ;go_enter func201,ntmps201;refine ay;refine(HT.out _ gM).mono ?_;refine rZ;refine bj;exact⟨rfl,aE (w:=u) gM hb1⟩
theorem OB(h:w.ownsRow B e s v n xs)(hc:ag S w w')(hn:∀k,v.ownBlock=some k->¬S k):w'.ownsRow B e s v n xs:=by refine⟨h.1,h.2.imp id ?_⟩;rintro⟨g,cap,cur,h1,h2,h3,h4⟩;exact⟨g,cap,cur,h1,h2,ae hc h3 (hn g (by rw[h1];rfl)),h4⟩
theorem gone_t{B2:Nat}{vp vt vs vp2 vt2 vs2:Value}{d d2:De}(c c2:Cf)(h:bK w B vp vt vs d)(h2:bK w B2 vp2 vt2 vs2 d2)(hl:d.subs.length<=999)(hl2:d2.subs.length<=999)(hs:B9 (bD d2.subs)) :
  az 157 #[.agg (gi c vp vt vs),.agg (gi c2 vp2 vt2 vs2)] w λe w'=>∃v,e=aA v/\w'.ownsRow w.heap.size 170 5 v (d.subs.filter (λx=>!decide ((x.who,x.track)∈bD d2.subs))).length ((d.subs.filter (λx=>!decide ((x.who,x.track)∈bD d2.subs))).flatMap el)/\aC w w':=by
 obtain⟨hp,⟨ks,hk,-⟩,hS⟩:=h;obtain⟨hp2,⟨ks2,hk2,-⟩,hS2⟩:=h2;refine M8;obtain⟨A3,n3,rfl⟩:=aj hS;obtain⟨A4,n4,rfl⟩:=aj hp2;obtain⟨A5,n5,rfl⟩:=aj hk2;obtain⟨A6,n6,rfl⟩:=aj hS2;have q2:=λW (hb:aC w W)=>BS W _ _ _ _ (bX ce d.subs) oM (oW _) (eZ (aX hS hb))
 have Q2:=OH q2;have HS2:=OH hS2;have HU:=OH hs;go_enter func157,ntmps157;refine ay;refine(Q2.out _ gM).mono ?_;rintro e w1 ⟨v1,rfl,hown,hb1⟩;obtain⟨A7,n7,rfl⟩:=aj hown;have hZ1:=(hb1.block (w.heap.size+1) sM).trans (show _=some (Obj.cells (gi c2 (.slice A4 d2.people.length n4) (.slice A5 ks2.length n5) (.slice A6 d2.subs.length n6)) 42 (0,0)) by exact bZ);have hB1:aC w w1:=aE (w:=w) gM hb1;have hown:=aW (B':=w.heap.size) hown xM;have hd:=ye (w:=w1) (m:=201) (caps:=#[OV (w.heap.size+1)]) (p:=λx=>decide ((x.who,x.track)∈bD d2.subs)) eg201 hown oM (λx _ u hu=>f201_t x (fa hu hZ1 dM) (OB (aX HS2.out hB1) hu (λk hk q=>by have:=(HS2.out.lt k hk).2;have:=q.1;omega)) hl2 HU.out);refine ku;have HB:=OH hB1;refine ay;refine Xc1 HD.out ?_;rintro e w2 ⟨v2,rfl,hown2,hc2⟩;refine bj;exact⟨_,rfl,hown2,(HB.out.trans (hc2.below (λj q=>q.1) HB.out.size))⟩
def nU(l:List Pe)(who:Int):Int:=match l[fi who (l.map Pe.who)]? with|some x=>x.room|none=>0
theorem room_t{gP n1 n2 n3:Nat}{l:List Pe}(who:Int)(hX:w.heap[X]?=OC (gi c (.slice (aT gP) l.length n1) (.slice A2 m2 n2) (.slice A3 m3 n3)) 42)(h:w.ownsRow B 167 3 (.slice (aT gP) l.length n1) l.length (l.flatMap gp))(hl:l.length<=999)(hs:p8 (l.map Pe.who))(hw:who∈l.map Pe.who) :
  az 252 #[OV X,JI who] w λe w'=>e=aA (JI (nU l who))/\aC w w':=by
 obtain⟨hpi,hpe⟩:=tp hs hw;rw[Xa4]at hpi;have hps:=λW (hb:aC w W)=>oV (w:=W) (aT gP) A2 A3 l.length m2 m3 n1 n2 n3 who uJ oM hs c.people c.tracks c.subs c.slots
 have hR:nU l who=l[fi who (l.map Pe.who)].room:=by rw[nU,PI hpi]
 rw[hR];rw[decide_eq_true hw]at hps;generalize fi who (l.map Pe.who)=pi at hps hpi ⊢;obtain⟨-,-,-,-,cr,hg,hsz,hrow⟩:=lE h;have hd1:=hrow pi hpi 1 dM;simp only[Xa2,Xa3]at hd1;refine qf;obtain⟨c1,f1,z1⟩:=ab hX;go_enter func252,ntmps252;refine ay;refine(HPS.out _ yN).mono ?_;refine rZ;have hX1:=(hb1.block X z1).trans hX;have hg1:=(hb1.block gP (aB hg)).trans hg;obtain⟨c2,f2,z2⟩:=ab hX1;obtain⟨c3,f3,z3⟩:=ab hg1;refine bj;exact⟨rfl,hb1⟩
theorem PZ{g k:Nat}(h:w.ownsRow B 170 5 (.slice (aT g) l.length cap) l.length (l.flatMap el))(hk:k<l.length)(hl:l.length<=999) :
  az 256 #[.slice (aT g) l.length cap,JI k,JI (k+1)] w λe w'=>e=aA (.slice (aT g) (l.length-1) cap)/\w'.ownsRow B 170 5 (.slice (aT g) (l.length-1) cap) (l.length-1) ((l.eraseIdx k).flatMap el)/\ag (oy 170 B w) w w':=by
 obtain⟨-,hcap,hBg,hm,cr,hg,hsz,hrow⟩:=it h;have HR:=OH hrow;clear hrow h;obtain⟨c0,f0,z0⟩:=ab hg;have hne:((k:Int)==(k:Int)+1)=false:=xM;refine La;have hpre:w.drew.ownsRow B 170 5 (.slice (aT g) k cap) k ((l.take k).flatMap el):=by
  have:=eh (w:=w.drew) ce (B:=B) (ys:=l.take k) (cap:=cap) hg hBg xM hm hsz (λi hi j hj=>by rw[HR.out i (by simp at hi;omega) j hj];simp)
  rwa [show(l.take k).length=k by simp;omega]at this
 have hcells:∀j u,((l.drop (k+1)).flatMap el)[j]?=some u->w.drew.cell? ((⟨g,(k+1)*5,none⟩:Addr).add j)=some u:=λj u hu=>by
  have hj:j<(l.length- (k+1))*5:=by have:=(List.getElem?_eq_some_iff.1 hu).1;rwa [bX ce,Xb5]at this
  have h1:j / 5<l.length- (k+1):=oM;have h2:j % 5<5:=Nat.mod_lt _ dM;have h3:j=j / 5*5+j % 5:=oM;rw[h3,bY ce (l.drop (k+1)) _ _ xM h2]at hu;rw[Addr.add_lit,show w.drew.cell?=w.cell? from rfl,c0,show(k+1)*5+j=(k+1+j / 5)*5+j % 5 by omega,HR.out (k+1+j / 5) oM _ h2,←hu];simp
 have hnl:((l.drop (k+1)).flatMap el).length=(l.length- (k+1))*5:=by rw[bX ce,Xb5]
 have hsz9:((l.length- (k+1):Nat):Int)=(l.length:Int)- ((k:Int)+1):=oM;have hkc:k<=cap:=oM;have hk1:k+1<=l.length:=oM;have hk2:k+1<=cap:=oM;have hki0:(0:Int)<=(k:Int)+1:=oM;have hki1:(k:Int)+1<=(l.length:Int):=oM;have htn:((k:Int)+1).toNat=k+1:=oM;by_cases hce:cap=k+1
 .subst hce
  have hlk:l.length=k+1:=oM;have hki2:(k:Int)<=(k:Int)+1:=oM;obtain⟨W1,hrun,r1,r2⟩:=run_append_fits (P:=prog) w.drew B 40 40 170 i0 5 underlying40 hi hz1 g k (k+1) _ hpre ⟨g,0,none⟩ 0 0 [] rfl (λj u h=>rF) (λu h=>rF) oM;rw[Nat.add_zero]at hrun r1;have hflat:(l.take k).flatMap el++ []=(l.eraseIdx k).flatMap el:=by rw[Xa6,Xb2,List.drop_eq_nil_of_le oM];rfl
  rw[hflat]at r1;have hel:k=(l.eraseIdx k).length:=by rw[Xa5,if_pos hk];omega
  have r1':W1.ownsRow B 170 5 (.slice (aT g) (l.eraseIdx k).length (k+1)) (l.eraseIdx k).length ((l.eraseIdx k).flatMap el):=by rw[←hel];exact r1
  refine VW;obtain⟨zs,hzl,hclr⟩:=ey W1 40 170 0 _ 5 underlying40 wK rfl dM g (k*5) 1 1 oM (λj hj=>by rw[c1,Xc0 oM];rfl) (λj _=>f1 _);have hcn:¬k+1=k:=oM;have hk9:k+1-k=1:=oM;have HRUN:=OH hrun;clear hcells hpre hrun;refine Z9;rw[hlk,Nat.add_sub_cancel];have hcs:ag (λb=>b=g) W1 (W1.setCells g (k*5) zs):=bA zs _ _;refine Mi;have hrw:=eh (w:=W1.setCells g (k*5) zs) ce (B:=B) (ys:=l.eraseIdx k) (cap:=k+1) (du zs _ _ _ hg1) hBg EA hm Cm (λi hi j hj=>by rw[mE EA hj Kd];exact HROW.out i hi j hj)
  exact Zj
 .obtain⟨W1,hrun,r1,r2⟩:=run_append_fits (P:=prog) w.drew B 40 40 170 i0 5 underlying40 hi hz1 g k cap _ hpre ⟨g,(k+1)*5,none⟩ (l.length- (k+1)) (cap- (k+1)) _ hnl hcells (oW _) oM
  have hke:k+(l.length- (k+1))=l.length-1:=oM;rw[hke]at hrun r1;have hflat:(l.take k).flatMap el++(l.drop (k+1)).flatMap el=(l.eraseIdx k).flatMap el:=by rw[Xa6,Xb2]
  rw[hflat]at r1;have hel:l.length-1=(l.eraseIdx k).length:=by rw[Xa5,if_pos hk]
  have r1':=r1;rw[hel]at r1';refine VW;obtain⟨zs,hzl,hclr⟩:=ey W1 40 170 0 _ 5 underlying40 wK rfl dM g ((l.length-1)*5) 1 (cap- (l.length-1)) oM (λj hj=>by rw[c1,Xc0 oM];rfl) (λj _=>f1 _);have hll:l.length-1<=l.length:=oM;have hlc:l.length-1<=cap:=oM;have hl1:l.length- (l.length-1)=1:=oM;have hcn:¬cap=l.length-1:=oM;have HRUN:=OH hrun;clear hcells hpre hrun hke;refine Z9;have hcs:ag (λb=>b=g) W1 (W1.setCells g ((l.length-1)*5) zs):=bA zs _ _;refine Mi;have hrw:=eh (w:=W1.setCells g ((l.length-1)*5) zs) ce (B:=B) (ys:=l.eraseIdx k) (cap:=cap) (du zs _ _ _ hg1) hBg EA hm Cm (λi hi j hj=>by rw[mE EA hj Kd];exact HROW.out i hi j hj)
  exact Zj
def j4(d:De)(q:Rq):De×Int:=
 if decide ((q.who,q.track)∈bD d.subs)=false then(d,21) else match d.subs[kR (q.who,q.track) (bD d.subs)]? with
 |none=>(d,21)
 |some _=>(⟨d.people,d.tracks,d.subs.eraseIdx (kR (q.who,q.track) (bD d.subs))⟩,0)
theorem Ru{d:De}{q:Rq}(h:DX w B X c d)(hB:B<=w.heap.size)(hBX:B<=X)(h1:d.subs.length<=999)(hs:B9 (bD d.subs)) :
  az 195 #[OV X,.agg (fq q A cap)] w λe w'=>e=aA (JI (j4 d q).2)/\DX w' B X c (j4 d q).1/\Below B w w':=by
 refine M5;obtain⟨J,hJ⟩:∃J,J=j4 d q:=⟨_,rfl⟩
 rw[←hJ];unfold j4 at hJ;cases g1:decide ((q.who,q.track)∈bD d.subs)with
 |false=>
  refine Ml;clear hJ;go_enter func195,ntmps195;refine zq15;exact AJ
 |true=>
  refine zq17;dsimp only at hJ;have HSS:=OH hss;clear hss;refine rV;have hdl:=λW (hc:ag af w W)=>PZ (w:=W) (k:=k) (ah HS.out hc cy) hki h1
  have HDL:=OH hdl;clear hdl;have hwr:IntKind.i64.wrap ((k:Int)+1)=(k:Int)+1:=kA
  go_enter func195,ntmps195;refine zq8;refine ay;refine(HDL.out _ HC5.out).mono ?_;rintro e w6 ⟨rfl,hown,hc6⟩;have hX6:=fa hc6 hX5 dM;obtain⟨c3,f3,z3⟩:=ab hX6;refine my;clear hown;have HC6:=OH hc6;clear hc6;have hs7:ag (λj=>j=X) w6 (w6.setCell ⟨X,6,none⟩ (.slice (aT gS) (d.subs.length-1) n3)):=ag.set (S:=λj=>j=X) dp ⟨X,6,none⟩ (.inl rfl) _;have HS7:=OH hs7;clear hs7;refine lS;have h5:=HC5.out;have h6:=HC6.out;have hs7:=HS7.out;refine FQ;have hto:∀ {e:TypeId} {s n:Nat} {v:Value} {xs:List Value},e≠170->e≠42->w.ownsRow B e s v n xs->(w6.setCell ⟨X,6,none⟩ (.slice (aT gS) (d.subs.length-1) n3)).ownsRow B e s v n xs:=λh1 h2 h=>ah (ah (ah h h5 cy) h6 (sY (Ne.symm h1))) hs7 (ho7 h2)
  have hel:(d.subs.eraseIdx k).length=d.subs.length-1:=by rw[Xa5,if_pos hki]
  have ho:=HO.out;rw[←hel]at ho;refine⟨rfl,⟨_,_,_,by rw[hel];exact bZ,hto dM dM HP.out,⟨ks,hto dM dM HT.out,((HK.out.kept h5 cy).kept h6 kj).kept hs7 (ho7 dM)⟩,ah ho hs7 (ho7 dM)⟩,?_⟩;exact(((h5.mono (T:=λj=>j=X\/B<=j) λ_ _ q=>q.elim).call h6 λj _ q=> .inr q.1).trans (hs7.mono λj _ q=> .inl q)).below (λj q=>q.elim (λq=>oM) id) hB
end Go.Proofs.YtnpancjkjheffaaGreat
