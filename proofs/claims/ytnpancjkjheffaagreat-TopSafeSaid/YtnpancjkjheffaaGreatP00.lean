/- Part 2 of the proof of TopSafe. No condition. -/
import Derived.Test.YtnpancjkjheffaaGreatPS
namespace Go.Proofs.YtnpancjkjheffaaGreat
set_option linter.unusedVariables false
set_option linter.unusedSimpArgs false
set_option maxRecDepth 100000
set_option maxHeartbeats 8000000
open Go.RowKit
open Go.Proofs.Tryz
open _root_.List renaming toArray->PI,length_cons->Xa0,size_toArray->Xa1,getElem?_eq_getElem->Xa2,length_nil->Xa3,getElem?_eq_some_iff->Xa4,eq_nil_of_length_eq_zero->Xa5,range->Xa6,getD->Xa7,all_eq_true->Xa8,foldl_cons->Xa9
open Region renaming ready->Xb0,wanted->Xb1,binds->Xb2,noSelect->Xb3,free->Xb4
open _root_.Array renaming getElem?_eq_none->Xb5,replicate->Xb6,getElem?_eq_some_iff->Xb7,getElem?_toList->Xb8,getElem?_push->Xb9
open _root_.Nat renaming zero_add->Xc0,lt_or_ge->Xc1,le_trans->Xc2,lt_of_lt_of_le->Xc3,le_refl->Xc4
open DataW renaming trod->Xc5,trod_int->Xc6
open _root_.Option renaming some->Xc7
open Addr renaming add_lit->Xc8,add_zero'->Xc9,mk->Xd0
open Value renaming ownBlock->Xd1,int->Xd2
open Oper renaming wp->Xd3
open Go.Deep renaming open_slice->Xd4
open World renaming cells?_some->Xd5,setCell->Xd6,cell?->Xd7
open _root_.Bool renaming and_eq_true->Xd8
variable {a:Act}{listed:Array Bool}{ops:Array Oper}{c cs:Array Value}{Q:Exit->Act->World->Prop}{k:IntKind}{zs:List Int}{rest:List Oper}{l:List TypeId}{news:List Value}{B B' b cap f g i id j m n s:Nat}{spare:Nat->Bool}{S:Nat->Prop}{oi:Oper}{A:Option Addr}{o x:Option Obj}{P:Prop}{H:Type}{e t:TypeId}{v v0 v1 v2 v3:Value}{W' w w' w1:World}
theorem OH{p:Prop}(h:p):Hid p:=Lib.hid h
theorem oM(h:P:=by omega):P:=h
theorem dM(h:P:=by decide):P:=h
theorem sM(h:P:=by simp):P:=h
theorem rM(h:P:=by rfl):P:=h
theorem kM(h:P:=by kernel_rfl):P:=h
theorem aM(h:P:=by assumption):P:=h
theorem xM(h:P:=by simp;omega):P:=h
theorem gM(h:P:=by go_grown):P:=h
theorem lM(h:P:=by unfold maxLen;omega):P:=h
theorem eM(h:P:=by exact bZ):P:=h
theorem fM(h:P:=by first|omega|(simp;done)|(simp;omega)):P:=h
theorem nM(h:P:=by first|omega|(simp;omega)):P:=h
abbrev OC(c:Array Value)(t:TypeId):Option Obj:=some (.cells c t (0,0))
abbrev OV(b:Nat):Value:=.pointer (some ⟨b,0,none⟩)
abbrev aC(w w':World):Prop:=Below w.heap.size w w'
abbrev aT(b:Nat):Option Addr:=some ⟨b,0,none⟩
abbrev aA(v:Value):Ending:=.returned v
abbrev az:= @Calls prog
abbrev JI(x:Int):Value:=.int .i64 x
abbrev JU(x:Int):Value:=.int .u64 x
abbrev JT(x:Int):Value:=.int .u32 x
abbrev JS(x:Int):Value:=.int .u16 x
abbrev JW(x:Int):Value:=.int .u8 x
theorem lW(h:P:=by repeat(first|(with_reducible assumption)|(with_reducible exact ag.refl _ _)|(with_reducible apply ag.drewN)|(with_reducible apply ag.drew)|(with_reducible apply ag.alloc)|((with_reducible apply jh);(focus(first|omega|(simp;done)|(simp;omega)|(simp only[aD,bE,lu,ic];omega)|(simp[aD];omega))))|(with_reducible refine ag.next ?_ (by assumption)))):P:=h
theorem gD(h:x=some (.cells c t (0,0)):=by repeat(first|(with_reducible assumption)|(with_reducible apply av)|((with_reducible apply aN);(focus(first|omega|(simp;done)|(simp;omega))))|((with_reducible apply ao);(focus(first|omega|(simp;done)|(simp;omega))))|(with_reducible apply ai)|(with_reducible apply(bU _ _).trans)|(with_reducible apply(cK _ _ _).trans)))(e:some (.cells c t (0,0))=o:=by exact rfl):x=o:=h.trans e
theorem ur(h:P:=by repeat(first|(with_reducible assumption)|(with_reducible apply av)|((with_reducible apply aN);(focus(first|omega|(simp;done)|(simp;omega))))|((with_reducible apply ao);(focus(first|omega|(simp;done)|(simp;omega))))|(with_reducible apply ai)|(with_reducible apply(bU _ _).trans)|(with_reducible apply(cK _ _ _).trans))):P:=h
theorem qx3(h:x=some (.cells c t (0,0)):=by repeat(first|(with_reducible assumption)|(with_reducible apply av)|((with_reducible apply aN);(focus(first|omega|(simp;done)|(simp;omega))))|((with_reducible apply ao);(focus(first|omega|(simp;done)|(simp;omega))))|(with_reducible apply ai)|(with_reducible apply(bU _ _).trans)|(with_reducible apply(cK _ _ _).trans)|((with_reducible refine Pz (by assumption) ?_ ?_);(focus(first|omega|(simp;done)|(simp;omega))))))(e:some (.cells c t (0,0))=o:=by exact rfl):x=o:=h.trans e
theorem vQ(h:x=some (.cells c t (0,0)):=by repeat(first|(with_reducible assumption)|(with_reducible apply gu)|(with_reducible apply ke)|(with_reducible apply av)|((with_reducible apply aN);(focus(first|omega|(simp;done)|(simp;omega))))|((with_reducible apply ao);(focus(first|omega|(simp;done)|(simp;omega))))|(with_reducible apply ai)|(with_reducible apply(bU _ _).trans)|(with_reducible apply(cK _ _ _).trans)|(simp only[List.size_toArray,List.length_cons,List.length_nil];done)))(e:some (.cells c t (0,0))=o:=by exact rfl):x=o:=h.trans e
theorem Oh(h:P:=by repeat(first|(with_reducible assumption)|(with_reducible apply aP.alloc)|(with_reducible apply aP.drewN)|(with_reducible apply aP.drew)|((with_reducible apply IX);(focus(first|exact hMT|omega|(simp;done)|(simp;omega)))))):P:=h
theorem qx6(h:P:=by repeat(first|(with_reducible assumption)|(with_reducible apply cE.alloc)|(with_reducible apply cE.drewN)|(with_reducible apply cE.drew)|((with_reducible refine mF ?_ ?_ ?_);(focus(repeat(first|(with_reducible assumption)|(with_reducible apply gu)|(with_reducible apply ke)|(with_reducible apply av)|((with_reducible apply aN);(focus(first|omega|(simp;done)|(simp;omega))))|((with_reducible apply ao);(focus(first|omega|(simp;done)|(simp;omega))))|(with_reducible apply ai)|(with_reducible apply(bU _ _).trans)|(with_reducible apply(cK _ _ _).trans)|(simp only[List.size_toArray,List.length_cons,List.length_nil];done))));(focus decide)))):P:=h
theorem qx7(h:P:=by repeat(first|(with_reducible assumption)|(with_reducible apply gu)|(with_reducible apply ke)|(with_reducible apply av)|((with_reducible apply aN);(focus(first|omega|(simp;done)|(simp;omega))))|((with_reducible apply ao);(focus(first|omega|(simp;done)|(simp;omega))))|(with_reducible apply ai)|(with_reducible apply(bU _ _).trans)|(with_reducible apply(cK _ _ _).trans)|(simp only[List.size_toArray,List.length_cons,List.length_nil];done))):P:=h
theorem qx8(h:P:=by repeat(first|(with_reducible assumption)|(with_reducible exact aQ.refl _ _ _ _)|(with_reducible apply aQ.drewN)|((with_reducible apply na);(focus omega))|((with_reducible apply jU);(focus(first|omega|(simp;omega)))))):P:=h
theorem qx9(h:x=some (.cells c t (0,0)):=by repeat(first|(with_reducible assumption)|(with_reducible apply gu)|(with_reducible apply av)|((with_reducible apply aN);(focus(first|omega|(simp;done)|(simp;omega))))|((with_reducible apply ao);(focus(first|omega|(simp;done)|(simp;omega))))|(with_reducible apply ai)|(with_reducible apply(bU _ _).trans)|(with_reducible apply(cK _ _ _).trans)|(simp only[List.size_toArray,List.length_cons,List.length_nil];done)))(e:some (.cells c t (0,0))=o:=by exact rfl):x=o:=h.trans e
theorem Sn(h:P:=by repeat(first|(with_reducible assumption)|(with_reducible apply gu)|(with_reducible apply av)|((with_reducible apply aN);(focus(first|omega|(simp;done)|(simp;omega))))|((with_reducible apply ao);(focus(first|omega|(simp;done)|(simp;omega))))|(with_reducible apply ai)|(with_reducible apply(bU _ _).trans)|(with_reducible apply(cK _ _ _).trans)|(simp only[List.size_toArray,List.length_cons,List.length_nil];done))):P:=h
theorem qx11(h:P:=by repeat(first|(with_reducible exact da.refl _ _ _)|(with_reducible assumption)|((with_reducible apply Cy);(focus(first|(exact .inl rfl)|(exact .inr (.inl rfl))|(refine .inr (.inr ?_);first|omega|(simp;done)|(simp;omega)))))|(with_reducible apply da.alloc)|(with_reducible apply da.drewN)|(with_reducible apply da.drew))):P:=h
theorem qx12(h:P:=by repeat(first|(with_reducible assumption)|(with_reducible apply aP.alloc)|(with_reducible apply aP.drewN)|(with_reducible apply aP.drew))):P:=h
theorem Sm(h:P:=by repeat(first|(with_reducible assumption)|(with_reducible exact aQ.refl _ _ _ _)|(with_reducible apply aQ.drewN)|(with_reducible apply aQ.drew)|((with_reducible apply na);(focus(first|(exact .inl rfl)|(exact .inr rfl)));(focus(first|assumption|omega)))|((with_reducible apply jU);(focus(first|omega|(simp;omega)))))):P:=h
theorem Sj(h:P:=by repeat(first|(with_reducible assumption)|(exact hM.drew)|(with_reducible apply aP.alloc)|(with_reducible apply aP.drewN)|(with_reducible apply aP.drew)|((with_reducible refine aP.set ?_ ?_ _);rotate_left;(focus(first|exact hMS|exact hMR))))):P:=h
theorem Si(h:P:=by repeat(first|(with_reducible assumption)|(exact hMv.drew)|(with_reducible exact aQ.refl _ _ _ _)|(with_reducible apply aQ.drewN)|(with_reducible apply aQ.drew)|((with_reducible apply na);(focus(first|(exact .inl rfl)|(exact .inr rfl)));(focus(first|assumption|omega)))|((with_reducible apply jU);(focus(first|omega|(simp;omega)))))):P:=h
theorem dJ(h:x=some (.cells c t (0,0)):=by repeat(first|(with_reducible assumption)|(with_reducible apply mO)|(with_reducible apply nX)|(with_reducible apply av)|((with_reducible apply aN);(focus(first|omega|(simp;done)|(simp;omega))))|((with_reducible apply ao);(focus(first|omega|(simp;done)|(simp;omega))))|(with_reducible apply ai)|(with_reducible apply(bU _ _).trans)|(with_reducible apply(cK _ _ _).trans)|(simp only[List.size_toArray,List.length_cons,List.length_nil];done)))(e:some (.cells c t (0,0))=o:=by exact rfl):x=o:=h.trans e
theorem qY(h:P:=by repeat(first|(with_reducible assumption)|(with_reducible apply mO)|(with_reducible apply nX)|(with_reducible apply av)|((with_reducible apply aN);(focus(first|omega|(simp;done)|(simp;omega))))|((with_reducible apply ao);(focus(first|omega|(simp;done)|(simp;omega))))|(with_reducible apply ai)|(with_reducible apply(bU _ _).trans)|(with_reducible apply(cK _ _ _).trans)|(simp only[List.size_toArray,List.length_cons,List.length_nil];done))):P:=h
theorem lC{a b:Int}(h:a=b):Ending.returned (.int k a)=aA (.int k b):=by rw[h]
theorem Bf{a b:Bool}(h:a=b):Ending.returned (.bool a)=aA (.bool b):=by rw[h]
theorem pG{a b:Value}(h:a=b):Ending.returned a=aA b:=by rw[h]
theorem aE{W:World}(h:aC w W)(hb:aC W w1):aC w w1:=h.trans (hb.mono h.size)
theorem bF{a:World}(h:Below B a w)(n:Nat):Below B a (w.drewN n):=⟨h.os,h.tape,h.output,h.size,h.block⟩
theorem D9{W:World}(h:Below B w W)(hb:aC W w1)(hB:B<=W.heap.size):Below B w w1:=h.trans (hb.mono hB)
@[go_sem] theorem arr_get_2(x0 x1 x2:Value)(l:List Value):(PI (x0::x1::x2::l))[2]?=some x2:=rfl
@[go_sem] theorem arr_get_3(x0 x1 x2 x3:Value)(l:List Value):(PI (x0::x1::x2::x3::l))[3]?=some x3:=rfl
@[go_sem] theorem arr_get_4(x0 x1 x2 x3 x4:Value)(l:List Value):(PI (x0::x1::x2::x3::x4::l))[4]?=some x4:=rfl
@[go_sem] theorem arr_get_5(x0 x1 x2 x3 x4 x5:Value)(l:List Value):(PI (x0::x1::x2::x3::x4::x5::l))[5]?=some x5:=rfl
@[go_sem] theorem arr_get_6(x0 x1 x2 x3 x4 x5 x6:Value)(l:List Value):(PI (x0::x1::x2::x3::x4::x5::x6::l))[6]?=some x6:=rfl
@[go_sem] theorem arr_get_7(x0 x1 x2 x3 x4 x5 x6 x7:Value)(l:List Value):(PI (x0::x1::x2::x3::x4::x5::x6::x7::l))[7]?=some x7:=rfl
@[go_sem] theorem arr_get_8(x0 x1 x2 x3 x4 x5 x6 x7 x8:Value)(l:List Value):(PI (x0::x1::x2::x3::x4::x5::x6::x7::x8::l))[8]?=some x8:=rfl
@[go_sem] theorem arr_get_9(x0 x1 x2 x3 x4 x5 x6 x7 x8 x9:Value)(l:List Value):(PI (x0::x1::x2::x3::x4::x5::x6::x7::x8::x9::l))[9]?=some x9:=rfl
@[go_sem] theorem arr_get_10(x0 x1 x2 x3 x4 x5 x6 x7 x8 x9 x10:Value)(l:List Value):(PI (x0::x1::x2::x3::x4::x5::x6::x7::x8::x9::x10::l))[10]?=some x10:=rfl
@[go_sem] theorem arr_get_11(x0 x1 x2 x3 x4 x5 x6 x7 x8 x9 x10 x11:Value)(l:List Value):(PI (x0::x1::x2::x3::x4::x5::x6::x7::x8::x9::x10::x11::l))[11]?=some x11:=rfl
@[go_sem] theorem arr_get_12(x0 x1 x2 x3 x4 x5 x6 x7 x8 x9 x10 x11 x12:Value)(l:List Value):(PI (x0::x1::x2::x3::x4::x5::x6::x7::x8::x9::x10::x11::x12::l))[12]?=some x12:=rfl
@[go_sem] theorem arr_get_13(x0 x1 x2 x3 x4 x5 x6 x7 x8 x9 x10 x11 x12 x13:Value)(l:List Value):(PI (x0::x1::x2::x3::x4::x5::x6::x7::x8::x9::x10::x11::x12::x13::l))[13]?=some x13:=rfl
theorem ab(h:w.heap[g]?=OC cs t) :
  (∀j,w.cell? ⟨g,j,none⟩=cs[j]?)/\(∀j,w.frozen? ⟨g,j,none⟩=false)/\g<w.heap.size:=by
 refine⟨λj=>?_,λj=>?_,?_⟩
 .simp[Xd7,h]
 .simp[World.frozen?,h]
 .rcases Xc1 g w.heap.size with h1|h1
  .exact h1
  .rw[Xb5 h1]at h
   cases h
theorem BZ(h:w.heap[g]?=OC cs t)(j:Nat)(hv:cs[j]?=some v):w.cell? ⟨g,j,none⟩=some v:=
 ((ab h).1 j).trans hv
theorem aB(h:w.heap[g]?=OC cs t):g<w.heap.size:=(ab h).2.2
theorem aO(h:w.heap[g]?=OC cs t) :
  w.heap[g]?=OC cs t/\(∀j,w.cell? ⟨g,j,none⟩=cs[j]?)/\(∀j,w.frozen? ⟨g,j,none⟩=false)/\g<w.heap.size:=⟨h,ab h⟩
theorem ao(w:World)(o:Obj)(i:Nat)(h:i=w.heap.size):(w.alloc o).heap[i]?=some o:=by show(w.heap.push o)[i]?=_;rw[Xb9,if_pos h]
theorem dZ(w:World)(o:Obj)(i:Nat)(h:i<w.heap.size):(w.alloc o).heap[i]?=w.heap[i]?:=by show(w.heap.push o)[i]?=_;rw[Xb9,if_neg oM]
theorem bU(w:World)(i:Nat):w.drew.heap[i]?=w.heap[i]?:=rfl
theorem cK(w:World)(n i:Nat):(w.drewN n).heap[i]?=w.heap[i]?:=rfl
theorem eA(w:World)(p:Addr)(v:Value)(i:Nat)(h:i≠p.block):(w.setCell p v).heap[i]?=w.heap[i]?:=Below.heap_setCell w p v i h
theorem av(j:Nat)(v:Value)(h:w.heap[g]?=OC cs t) :
  (w.setCell ⟨g,j,none⟩ v).heap[g]?=OC (cs.setIfInBounds j v) t:=by
 simp[Xd6,Array.getElem?_modify,h]
theorem gu(h:w.heap[g]?=OC cs t)(hs:cs.size=2) :
  ((w.setCell ⟨g,0,none⟩ v0).setCell ⟨g,1,none⟩ v1).heap[g]?=OC #[v0,v1] t:=by
 have key:=(av 1 v1 (av 0 v0 h))
 refine FG;match l,hs with
 | [a0,a1],_=>exact key
theorem ke(h:w.heap[g]?=OC cs t)(hs:cs.size=3) :
  (((w.setCell ⟨g,0,none⟩ v0).setCell ⟨g,1,none⟩ v1).setCell ⟨g,2,none⟩ v2).heap[g]?=OC #[v0,v1,v2] t:=by
 have key:=(av 2 v2 KK)
 refine FG;match l,hs with
 | [a0,a1,a2],_=>exact key
theorem nX(h:w.heap[g]?=OC cs t)(hs:cs.size=4) :
  ((((w.setCell ⟨g,0,none⟩ v0).setCell ⟨g,1,none⟩ v1).setCell ⟨g,2,none⟩ v2).setCell ⟨g,3,none⟩ v3).heap[g]?=OC #[v0,v1,v2,v3] t:=by
 have key:=(av 3 v3 (av 2 v2 KK))
 refine FG;match l,hs with
 | [a0,a1,a2,a3],_=>exact key
theorem mO{v4 v5 v6 v7 v8 v9 v10:Value}(h:w.heap[g]?=OC cs t)(hs:cs.size=11) :
  (((((((((((w.setCell ⟨g,0,none⟩ v0).setCell ⟨g,1,none⟩ v1).setCell ⟨g,2,none⟩ v2).setCell ⟨g,3,none⟩ v3).setCell ⟨g,4,none⟩ v4).setCell ⟨g,5,none⟩ v5).setCell ⟨g,6,none⟩ v6).setCell ⟨g,7,none⟩ v7).setCell ⟨g,8,none⟩ v8).setCell ⟨g,9,none⟩ v9).setCell ⟨g,10,none⟩ v10).heap[g]?=OC #[v0,v1,v2,v3,v4,v5,v6,v7,v8,v9,v10] t:=by
 have key:=(av 10 v10 (av 9 v9 (av 8 v8 (av 7 v7 (av 6 v6 (av 5 v5 (av 4 v4 (av 3 v3 (av 2 v2 KK)))))))))
 refine FG;match l,hs with
 | [a0,a1,a2,a3,a4,a5,a6,a7,a8,a9,a10],_=>exact key
theorem aD(w:World)(o:Obj):(w.alloc o).heap.size=w.heap.size+1:=by show(w.heap.push o).size=_;simp
theorem ic(w:World)(p:Addr)(v:Value):(w.setCell p v).heap.size=w.heap.size:=by simp[Xd6]
theorem bE(w:World):w.drew.heap.size=w.heap.size:=rfl
theorem lu(w:World)(n:Nat):(w.drewN n).heap.size=w.heap.size:=rfl
theorem wX{P:Program}{fn:Func}{p u:Tmp}{ty:TypeId}{tmps:Array Value}{w:World}{g:Nat}{t:TypeId}{cs:Array Value}{d:TypeDesc}(h:fn.results=#[.cell p ty,.tmp u])(hp:tmps.getD p undef=OV g)(hg:w.heap[g]?=OC cs t)(hu:P.underlying ty=some d)(hd:(match d with|.struct _|.array _ _=>true|_=>false)=true)(hi:(P.info? ty).map (·.size)=some cs.size) :
  (results fn tmps).run P w=.ok (.tuple #[.agg cs,tmps.getD u undef]) w:=by
 rw[results_cell_tmp h,hp];simp[asAddr,run_loadVar_row w g t ty cs (0,0) d hg hu hd hi,Result.andThen]
theorem uq{P:Program}{fn:Func}{p u v:Tmp}{ty:TypeId}{tmps:Array Value}{w:World}{g:Nat}{t:TypeId}{cs:Array Value}{d:TypeDesc}(h:fn.results=#[.cell p ty,.tmp u,.tmp v])(hp:tmps.getD p undef=OV g)(hg:w.heap[g]?=OC cs t)(hu:P.underlying ty=some d)(hd:(match d with|.struct _|.array _ _=>true|_=>false)=true)(hi:(P.info? ty).map (·.size)=some cs.size) :
  (results fn tmps).run P w=.ok (.tuple #[.agg cs,tmps.getD u undef,tmps.getD v undef]) w:=by
 have hp':tmps[p]?.getD undef=OV g:=by simpa using hp
 simp[results,h,hp',asAddr,run_loadVar_row w g t ty cs (0,0) d hg hu hd hi]
theorem Of{P:Program}{fn:Func}{p:Tmp}{ty:TypeId}{tmps:Array Value}{w:World}{g:Nat}{t:TypeId}{cs:Array Value}{d:TypeDesc}(h:fn.results=#[.cell p ty])(hp:tmps.getD p undef=OV g)(hg:w.heap[g]?=OC cs t)(hu:P.underlying ty=some d)(hd:(match d with|.struct _|.array _ _=>true|_=>false)=true)(hi:(P.info? ty).map (·.size)=some cs.size) :
  (results fn tmps).run P w=.ok (.agg cs) w:=results_cell_row h tmps w g t cs (0,0) d hp hg hu hd hi
theorem CK{P:Program}{fn:Func}{p q:Tmp}{ty ty':TypeId}{tmps:Array Value}{w:World}{g g':Nat}{t t':TypeId}{cs cs':Array Value}{d d':TypeDesc}(h:fn.results=#[.cell p ty,.cell q ty'])(hp:tmps.getD p undef=OV g)(hg:w.heap[g]?=OC cs t)(hq:tmps.getD q undef=OV g')(hg':w.heap[g']?=OC cs' t')(hu:P.underlying ty=some d)(hd:(match d with|.struct _|.array _ _=>true|_=>false)=true)(hi:(P.info? ty).map (·.size)=some cs.size)(hu':P.underlying ty'=some d')(hd':(match d' with|.struct _|.array _ _=>true|_=>false)=true)(hi':(P.info? ty').map (·.size)=some cs'.size) :
  (results fn tmps).run P w=.ok (.tuple #[.agg cs,.agg cs']) w:=by
 exact Nh
theorem sU{P:Program}{fn:Func}{p q u:Tmp}{ty ty':TypeId}{tmps:Array Value}{w:World}{g g':Nat}{t t':TypeId}{cs cs':Array Value}{d d':TypeDesc}(h:fn.results=#[.cell p ty,.cell q ty',.tmp u])(hp:tmps.getD p undef=OV g)(hg:w.heap[g]?=OC cs t)(hq:tmps.getD q undef=OV g')(hg':w.heap[g']?=OC cs' t')(hu:P.underlying ty=some d)(hd:(match d with|.struct _|.array _ _=>true|_=>false)=true)(hi:(P.info? ty).map (·.size)=some cs.size)(hu':P.underlying ty'=some d')(hd':(match d' with|.struct _|.array _ _=>true|_=>false)=true)(hi':(P.info? ty').map (·.size)=some cs'.size) :
  (results fn tmps).run P w=.ok (.tuple #[.agg cs,.agg cs',tmps.getD u undef]) w:=by
 exact Nh
section
variable {P:Program}{fn:Func}{R:Ending->World->Prop}{a:Act}{w:World}{p q u v:Tmp}{ty ty':TypeId}{g g':Nat}{d d':TypeDesc}
theorem ju(h:fn.results=#[.cell p ty])(hp:a.tmps.getD p undef=OV g)(hu:P.underlying ty=some d)(hd:(match d with|.struct _|.array _ _=>true|_=>false)=true)(hz:a.defers=[])(key:∃cs t,w.heap[g]?=OC cs t/\(P.info? ty).map (·.size)=some cs.size/\R (.returned (.agg cs)) w):bodyPost P fn R .ret a w:=by
 obtain⟨cs,t,h1,h2,h3⟩:=key;exact bodyPost_ret (Of h hp h1 hu hd h2) hz h3
theorem bQ(h:fn.results=#[.cell p ty,.tmp u])(hp:a.tmps.getD p undef=OV g)(hu:P.underlying ty=some d)(hd:(match d with|.struct _|.array _ _=>true|_=>false)=true)(hz:a.defers=[])(key:∃cs t,w.heap[g]?=OC cs t/\(P.info? ty).map (·.size)=some cs.size/\R (.returned (.tuple #[.agg cs,a.tmps.getD u undef])) w):bodyPost P fn R .ret a w:=by
 obtain⟨cs,t,h1,h2,h3⟩:=key;exact bodyPost_ret (wX h hp h1 hu hd h2) hz h3
theorem j8(h:fn.results=#[.cell p ty,.tmp u,.tmp v])(hp:a.tmps.getD p undef=OV g)(hu:P.underlying ty=some d)(hd:(match d with|.struct _|.array _ _=>true|_=>false)=true)(hz:a.defers=[])(key:∃cs t,w.heap[g]?=OC cs t/\(P.info? ty).map (·.size)=some cs.size/\R (.returned (.tuple #[.agg cs,a.tmps.getD u undef,a.tmps.getD v undef])) w):bodyPost P fn R .ret a w:=by
 obtain⟨cs,t,h1,h2,h3⟩:=key;exact bodyPost_ret (uq h hp h1 hu hd h2) hz h3
theorem sS(h:fn.results=#[.cell p ty,.cell q ty'])(hp:a.tmps.getD p undef=OV g)(hq:a.tmps.getD q undef=OV g')(hu:P.underlying ty=some d)(hd:(match d with|.struct _|.array _ _=>true|_=>false)=true)(hu':P.underlying ty'=some d')(hd':(match d' with|.struct _|.array _ _=>true|_=>false)=true)(hz:a.defers=[])(key:∃cs t cs' t',w.heap[g]?=OC cs t/\(P.info? ty).map (·.size)=some cs.size/\w.heap[g']?=OC cs' t'/\(P.info? ty').map (·.size)=some cs'.size/\R (.returned (.tuple #[.agg cs,.agg cs'])) w):bodyPost P fn R .ret a w:=by
 obtain⟨cs,t,cs',t',h1,h2,h3,h4,h5⟩:=key;exact bodyPost_ret (CK h hp h1 hq h3 hu hd h2 hu' hd' h4) hz h5
theorem jt(h:fn.results=#[.cell p ty,.cell q ty',.tmp u])(hp:a.tmps.getD p undef=OV g)(hq:a.tmps.getD q undef=OV g')(hu:P.underlying ty=some d)(hd:(match d with|.struct _|.array _ _=>true|_=>false)=true)(hu':P.underlying ty'=some d')(hd':(match d' with|.struct _|.array _ _=>true|_=>false)=true)(hz:a.defers=[])(key:∃cs t cs' t',w.heap[g]?=OC cs t/\(P.info? ty).map (·.size)=some cs.size/\w.heap[g']?=OC cs' t'/\(P.info? ty').map (·.size)=some cs'.size/\R (.returned (.tuple #[.agg cs,.agg cs',a.tmps.getD u undef])) w):bodyPost P fn R .ret a w:=by
 obtain⟨cs,t,cs',t',h1,h2,h3,h4,h5⟩:=key;exact bodyPost_ret (sU h hp h1 hq h3 hu hd h2 hu' hd' h4) hz h5
end
theorem aZ{o:Obj}(hb:Below B w w')(hi:i<B)(h:w.heap[i]?=some o):w'.heap[i]?=some o:=(hb.block i hi).trans h
theorem O5(w:World)(o:Obj):w.heap.size<(w.alloc o).heap.size:=by rw[aD];omega
theorem ai{o o':Obj}(h:w.heap[i]?=some o'):(w.alloc o).heap[i]?=some o':=by
 rw[dZ]
 .exact h
 .rcases Xc1 i w.heap.size with h1|h1
  .exact h1
  .rw[Xb5 h1]at h
   cases h
theorem aN{p:Addr}{o:Obj}(hn:i≠p.block)(h:w.heap[i]?=some o):(w.setCell p v).heap[i]?=some o:=(eA w p v i hn).trans h
section
variable {w w' wa:World}{B:Nat}{e:TypeId}{s:Nat}{v v':Value}{n:Nat}{xs:List Value}{g:Nat}{c:Array Value}{t:TypeId}{f:Nat×Nat}
theorem eV(h:w.ownsRow B e s v n xs):∀k,v.ownBlock=some k->B<=k:=λk hk=>(h.lt k hk).1
theorem Ox(h:w.ownsRow B e s v n xs)(hb:w.heap[g]?=some (.cells c t f))(ht:t≠e):v.ownBlock≠some g:=by
 intro hv;rcases h.2 with⟨rfl,_⟩|⟨g',cap,cur,rfl,_,hh,_⟩
 .simp[Xd1]at hv
 .simp only[Xd1,Xc7.injEq]at hv
  subst hv;rw[hh]at hb;exact VO
theorem aV(h:w.ownsRow B e s v n xs)(hg:w.grownBy w' v.ownBlock)(hb:w.heap[g]?=some (.cells c t f))(ht:t≠e):w'.heap[g]?=some (.cells c t f):=
 (hg.block g (lt_of_block hb) (λe=>Ox h hb ht e.symm)).trans hb
theorem bq{w0:World}(hB:Below B w0 w)(hs:B<=w.heap.size)(h:w.ownsRow B e s v n xs)(hg:w.grownBy w' v.ownBlock):Below B w0 w':=
 hB.grown hg hs (eV h)
theorem aX(h:w.ownsRow B e s v n xs)(hb:aC w w'):w'.ownsRow B e s v n xs:=by
 refine h.kept (row:=none) ⟨hb.os,hb.tape,hb.output,hb.size,λk hk _=>hb.block k hk⟩ ?_;by_cases e:v.ownBlock=none
 .exact .inl e
 .exact .inr e
theorem aW(h:w.ownsRow B e s v n xs)(hb:B'<=B):w.ownsRow B' e s v n xs:=by refine⟨h.1,h.2.imp id ?_⟩;rintro⟨g,cap,cur,h1,h2,h3⟩;exact⟨g,cap,cur,h1,Xc2 hb h2,h3⟩
theorem OA{row:Option Nat}(h:w.ownsRow B e s v n xs)(hg:w.grownBy w' row)(hne:v.ownBlock=none\/v.ownBlock≠row):w'.ownsRow B e s v n xs:=h.kept hg hne
theorem aU(h:w.ownsRow B e s v n xs){a:Addr}{u:Value}(hb:w.heap[a.block]?=some (.cells c t f))(ht:t≠e):(w.setCell a u).ownsRow B e s v n xs:=
 ownsRow_setCell_other h (Ox h hb ht) u
theorem dz{o:Obj}(h:w.ownsRow B e s v n xs):(w.alloc o).ownsRow B e s v n xs:=h.alloc o
theorem bW(h:w.ownsRow B e s v n xs):(v=.slice none 0 0/\n=0/\xs=[])\/∃g cap,v=.slice (aT g) n cap/\B<=g/\g<w.heap.size/\n<=cap/\cap<=maxLen:=by
 rcases h.2 with⟨h1,h2⟩|⟨g,cap,cur,h1,h2,h3,h4,h5,_⟩
 .exact .inl ⟨h1,h2,Xa5 (by rw[h.1,h2];simp)⟩
 .exact .inr ⟨g,cap,h1,h2,lt_of_block h3,h4,h5⟩
theorem aj(h:w.ownsRow B e s v n xs):∃A cap,v=.slice A n cap:=by
 rcases bW h with⟨h1,h2,_⟩|⟨g,cap,h1,_⟩
 .exact⟨none,0,by rw[h1,h2]⟩
 .exact⟨_,_,h1⟩
theorem iL(h:w.ownsRow B e s (.slice A n cap) n xs)(hi:i<n)(hj:j<s) :
  ∃b,A=some ⟨b,0,none⟩/\B<=b/\b<w.heap.size/\w.cell? ⟨b,0+i*s+j,none⟩=xs[i*s+j]?/\(∀k,w.frozen? ⟨b,k,none⟩=false):=by
 rcases bW h with⟨h1,h2,_⟩|⟨g,cap',h1,hB,hlt,_⟩
 .omega
 .refine mh
  refine nI;refine⟨g,rfl,hB,hlt,?_,λk=>h.frozenAt k⟩;rw[Xc0];refine h.cellAt _ ?_;calc i*s+j<i*s+s:=oM
   _=(i+1)*s:=by rw[Nat.add_mul,Nat.one_mul]
   _<=n*s:=Nat.mul_le_mul_right _ hi
end
theorem fy{l:List Value}(hn:n=w.heap.size):∀j u,l[j]?=some u->(w.alloc (.cells l.toArray t)).cell? ((⟨n,0,none⟩:Addr).add j)=some u:=by subst hn;intro j u h;rw[Xc8,Xc0,cell_of_row _ w.heap.size j l.toArray t (0,0) (ao w _ _ rfl)];simpa using h
theorem IW{l:List Value}(h:l.all (λu=>u.oneCell')=true):∀u∈l,u.oneCell'=true:=by simpa using h
def bd(w:World)(A:Option Addr)(k:IntKind)(zs:List Int):Prop:=
 ∀i,i<zs.length->∃b o,A=some ⟨b,o,none⟩/\b<w.heap.size/\w.cell? ⟨b,o+i,none⟩=some (.int k (zs.getD i 0))
def pg(w:World)(A:Option Addr)(k:IntKind)(ps:List (Int×Int)):Prop:=
 ∀i,i<ps.length->∃b o,A=some ⟨b,o,none⟩/\b<w.heap.size/\w.cell? ⟨b,o+i*2,none⟩=some (.int k (ps.getD i (0,0)).1)/\w.cell? ⟨b,o+i*2+1,none⟩=some (.int k (ps.getD i (0,0)).2)
def bp(k:IntKind)(ps:List (Int×Int)):List Value:=ps.flatMap λp=> [.int k p.1,.int k p.2]
theorem pJ(k:IntKind)(ps:List (Int×Int)):(bp k ps).length=ps.length*2:=by
 induction ps with
 |nil=>
  rfl
 |cons p ps ih=>simp[bp]at *;omega
theorem pK(k:IntKind)(ps qs:List (Int×Int)):bp k (ps++qs)=bp k ps++bp k qs:=by simp[bp]
theorem nV(k:IntKind)(ps:List (Int×Int))(i:Nat)(hi:i<ps.length) :
  (bp k ps)[i*2]?=some (.int k (ps.getD i (0,0)).1)/\(bp k ps)[i*2+1]?=some (.int k (ps.getD i (0,0)).2):=by
 induction ps generalizing i with
 |nil=>
  simp at hi
 |cons p ps ih=>
  cases i with
  |zero=>
   simp[bp]
  |succ i=>have:=ih i nv;rw[show(i+1)*2=i*2+1+1 by omega];simpa[bp]using this
theorem uu(k:IntKind)(ps:List (Int×Int))(p m m':Int):(bp k (ps++ [(p,m)])).set (ps.length*2+1) (.int k m')=bp k (ps++ [(p,m')]):=by
 induction ps with
 |nil=>
  simp[bp]
 |cons q ps ih=>rw[show(q::ps).length*2+1=ps.length*2+1+1+1 by simp;omega];simpa[bp]using ih
theorem Oy{ps:List (Int×Int)}{p m:Int}(h:w.ownsRow B e 2 v (ps++ [(p,m)]).length (bp k (ps++ [(p,m)]))) :
  ∃g cap,v=.slice (aT g) (ps.length+1) cap/\B<=g/\g<w.heap.size/\w.cell? ⟨g,ps.length*2,none⟩=some (.int k p)/\w.cell? ⟨g,ps.length*2+1,none⟩=some (.int k m)/\(∀j,w.frozen? ⟨g,j,none⟩=false) /\
   ∀m',(w.setCell ⟨g,ps.length*2+1,none⟩ (.int k m')).ownsRow B e 2 (.slice (aT g) (ps.length+1) cap) (ps++ [(p,m')]).length (bp k (ps++ [(p,m')])):=by
 have hl:(ps++ [(p,m)]).length=ps.length+1:=sM;have hl2:∀m',(ps++ [(p,m')]).length=ps.length+1:=sM;obtain⟨q1,q2⟩:=nV k (ps++ [(p,m)]) ps.length sM;rw[hl]at h;rcases bW h with⟨_,h',_⟩|⟨g,cap,rfl,h2,h3,h4,h5⟩
 .omega
 .refine⟨g,cap,rfl,h2,h3,?_,?_,λj=>h.frozenAt j,λm'=>?_⟩
  .rw[h.cellAt _ oM,q1]
   simp
  .rw[h.cellAt _ oM,q2]
   simp
  .rw[hl2,←uu k ps p m m']
   exact(h.stored _ _).1
theorem kU(h:w.ownsRow B e 1 (.slice A n cap) n (zs.map (Xd2 k))):bd w A k zs:=by
 intro i hi;have hn:zs.length=n:=by have:=h.1;exact ia
 obtain⟨b,hA,_,hb,hc,_⟩:=iL h (i:=i) (j:=0) oM oM;refine⟨b,0,hA,hb,?_⟩;simp only[Nat.mul_one,Nat.add_zero]at hc;rw[hc];simp[Xa7,hi]
theorem IU{ps:List (Int×Int)}(h:w.ownsRow B e 2 (.slice A n cap) n (bp k ps)):pg w A k ps:=by
 intro i hi;have hn:ps.length=n:=by have:=h.1;rw[pJ]at this;omega
 obtain⟨b,hA,_,hb,hc,_⟩:=iL h (i:=i) (j:=0) oM oM;obtain⟨b',hA',_,_,hc',_⟩:=iL h (i:=i) (j:=1) oM oM;rw[hA]at hA';simp only[Xc7.injEq,Xd0.injEq]at hA';obtain⟨rfl,_⟩:=hA';obtain⟨h1,h2⟩:=nV k ps i hi;exact⟨b,0,hA,hb,by simpa[h1]using hc,by simpa[h2]using hc'⟩
theorem bd.below(h:bd w A k zs)(hB:B=w.heap.size)(hb:Below B w w'):bd w' A k zs:=by subst hB;intro i hi;obtain⟨b,o,hA,hlt,hc⟩:=h i hi;exact⟨b,o,hA,Xc3 hlt hb.size,(hb.cell (p:=⟨b,o+i,none⟩) hlt).trans hc⟩
theorem pg.below{ps:List (Int×Int)}(h:pg w A k ps)(hB:B=w.heap.size)(hb:Below B w w'):pg w' A k ps:=by subst hB;intro i hi;obtain⟨b,o,hA,hlt,hc,hd⟩:=h i hi;exact⟨b,o,hA,Xc3 hlt hb.size,(hb.cell (p:=⟨b,o+i*2,none⟩) hlt).trans hc,(hb.cell (p:=⟨b,o+i*2+1,none⟩) hlt).trans hd⟩
theorem ST(len:Nat)(f:Nat->Int):∃l:List Int,l.length=len/\∀i,i<len->l.getD i 0=f i:=
 ⟨(Xa6 len).map f,sM,λi hi=>by simp[Xa7,hi]⟩
structure Via(u v:World):Prop where
 h:aC u v
theorem Pz{u v:World}{o:Obj}(h:Via u v)(hi:i<u.heap.size)(hu:u.heap[i]?=some o):v.heap[i]?=some o:=(h.h.block i hi).trans hu
theorem mQ{u:World}(hb:Below n u w)(hz:g<n)(hc:∀j,u.cell? ⟨g,j,none⟩=cs[j]?):∀j,w.cell? ⟨g,j,none⟩=cs[j]?:=λj=>(hb.cell (p:=⟨g,j,none⟩) hz).trans (hc j)
def dV(w:World)(A:Option Addr)(m c:Nat)(news:List Value):Prop:=
 (A=none->m=0/\c=0)/\∀ad,A=some ad->∀j u,news[j]?=some u->w.cell? (ad.add j)=some u
theorem dh{P:Program}(w:World){o:Oper}(hgd:o.guard=none)(s x:Operand)(t:TypeId)(ho:o.op=.call {callee:=.builtin .append,args:=#[s,x],argTypes:=#[t,t] })(base:Nat)(e:TypeId)(i:TypeInfo)(z:Value)(size bytes:Nat)(ht:P.underlying t=some (.slice e))(hi:P.info? e=some i)(hz:i.zero=some z)(hsize:i.size=size)(hby:i.bytes=bytes)(hzs:z.cells.size=size)(hsz:0<size)(v:Value)(n:Nat)(xs:List Value)(hs:a.eval s=v)(hown:w.ownsRow base e size v n xs)(A:Option Addr)(m c:Nat)(news:List Value)(hx:a.eval x=.slice A m c)(hl:news.length=m*size)(hsrc:dV w A m c news)(h1:∀u∈news,u.oneCell'=true)(h63:n+m<=maxLen)(hbytes:(n+m)*bytes<=140737488355328)(hbase:base<=w.heap.size)(h:∀v' w',w'.ownsRow base e size v' (n+m) (xs++news)->w.grownBy w' v.ownBlock->wpList P ops Q rest (a.put o.dst v') w'):wpList P ops Q (o::rest) a w:=by
 cases A with
 |none=>
  obtain⟨rfl,rfl⟩:=hsrc.1 rfl;have hn:news=[]:=Xa5 El;subst hn;exact wpList_append_own_none hgd s x t ho base e i size ht hi v n xs hs hown hx (h v w (by simpa using hown) (World.grownBy.refl w _))
 |some ad=>exact wpList_append_own w hgd s x t ho base e i z size bytes ht hi hz hsize hby hzs hsz v n xs hs hown ad m c news hx hl (hsrc.2 ad rfl) h1 h63 hbytes hbase (λv' w' h2 h3 _=>h v' w' h2 h3)
theorem fk{c:Nat}(h:bd w A k zs)(hc:A=none->c=0):dV w A zs.length c (zs.map (Xd2 k)):=by
 constructor
 .rintro rfl
  refine⟨?_,hc rfl⟩;rcases Nat.eq_zero_or_pos zs.length with h0|h0
  .exact h0
  .obtain⟨b,o,hA,_⟩:=h 0 h0
   cases hA
 .rintro ad rfl j u hu
  have hi:j<zs.length:=by have:=(Xa4.1 hu).1;exact ia
  obtain⟨b,o,hA,_,h0⟩:=h j hi;simp only[Xc7.injEq]at hA;subst hA;rw[Xc8,h0];rw[List.getElem?_map,Xa2 hi]at hu;simp only[Option.map_some,Xc7.injEq]at hu;rw[←hu];simp[Xa7,hi]
theorem eZ{xs:List Value}(h:w.ownsRow B e s (.slice A n cap) n xs):dV w A n cap xs:=by
 rcases bW h with⟨h1,h2,h3⟩|⟨g,cap',h1,_⟩
 .refine mh
  refine nI;exact⟨λ_=>⟨h2,rfl⟩,λad h=>rF⟩
 .refine mh
  refine nI;refine⟨λh=>rF,λad hA j u hu=>?_⟩;simp only[Xc7.injEq]at hA;subst hA;rw[Xc8,Xc0];have hj:j<n*s:=by rw[←h.1];exact(Xa4.1 hu).1
  rw[h.cellAt j hj,hu]
theorem jB(k:IntKind)(zs:List Int):∀u∈zs.map (Xd2 k),u.oneCell'=true:=by intro u hu;obtain⟨z,_,rfl⟩:=List.mem_map.1 hu;rfl
def cE(w:World)(B:Nat)(e:TypeId)(v:Value)(xs:List Value):Prop:=
 (v=.slice none 0 0/\xs=[])\/∃g off cap cur,v=.slice (some ⟨g,off,none⟩) xs.length cap/\B<=g/\w.heap[g]?=OC cur e/\xs.length<=cap/\cap<=maxLen/\off+cap<=cur.size/\∀j,j<xs.length->cur[off+j]?=xs[j]?
section
variable {w w':World}{B:Nat}{e:TypeId}{v:Value}{xs:List Value}
theorem Bi(w:World)(B:Nat)(e:TypeId):cE w B e (.slice none 0 0) []:=.inl ⟨rfl,rfl⟩
theorem mG(h:w.ownsRow B e 1 v n xs):cE w B e v xs:=by
 have hl:xs.length=n:=by have:=h.1;omega
 subst hl;rcases h.2 with⟨h1,h2⟩|⟨g,cap,cur,h1,h2,h3,h4,h5,h6,h7⟩
 .exact .inl ⟨by rw[h1],Xa5 h2⟩
 .refine .inr ⟨g,0,cap,cur,h1,h2,h3,h4,h5,oM,λj hj=>?_⟩
  rw[←h7,List.getElem?_take_of_lt oM,Xb8,Xc0]
theorem cE.slice(h:cE w B e v xs):∃A cap,v=.slice A xs.length cap:=by
 rcases h with⟨h1,h2⟩|⟨g,off,cap,cur,h1,_⟩
 .subst h2
  exact⟨none,0,h1⟩
 .exact⟨_,_,h1⟩
theorem cE.kept(h:cE w B e v xs)(hb:∀g,v.ownBlock=some g->w'.heap[g]?=w.heap[g]?):cE w' B e v xs:=by
 rcases h with h|⟨g,off,cap,cur,h1,h2,h3,h4⟩
 .exact .inl h
 .exact .inr ⟨g,off,cap,cur,h1,h2,(hb g (by rw[h1];rfl)).trans h3,h4⟩
theorem cE.block(h:cE w B e v xs)(hg:v.ownBlock=some g):B<=g/\g<w.heap.size/\∃cur,w.heap[g]?=OC cur e:=by
 rcases h with⟨h,_⟩|⟨g',off,cap,cur,h1,h2,h3,_⟩
 .rw[h]at hg
  cases hg
 .rw[h1]at hg
  simp only[Xd1,Xc7.injEq]at hg;subst hg;exact⟨h2,aB h3,cur,h3⟩
theorem cE.ne(h:cE w B e v xs)(hb:w.heap[g]?=OC c t)(ht:t≠e):v.ownBlock≠some g:=by intro hv;obtain⟨_,_,cur,h⟩:=h.block hv;rw[h]at hb;exact VO
theorem cE.below(h:cE w B e v xs)(hb:aC w w'):cE w' B e v xs:=h.kept (λg hg=>hb.block g (h.block hg).2.1)
theorem cE.alloc(h:cE w B e v xs)(o:Obj):cE (w.alloc o) B e v xs:=h.kept (λg hg=>dZ w o g (h.block hg).2.1)
theorem cE.drewN(h:cE w B e v xs)(n:Nat):cE (w.drewN n) B e v xs:=h.kept (λg hg=>rfl)
theorem cE.drew(h:cE w B e v xs):cE w.drew B e v xs:=h.kept (λg hg=>rfl)
theorem mF{p:Addr}{u:Value}(hb:w.heap[p.block]?=OC c t)(ht:t≠e)(h:cE w B e v xs):cE (w.setCell p u) B e v xs:=
 h.kept (λg hg=>eA w p u g (λq=>by subst q;exact h.ne hb ht hg))
theorem cE.mono(h:cE w B e v xs)(hb:B'<=B):cE w B' e v xs:=by
 rcases h with h|⟨g,off,cap,cur,h1,h2,h3⟩
 .exact .inl h
 .exact .inr ⟨g,off,cap,cur,h1,Xc2 hb h2,h3⟩
theorem mX(h:cE w B e (.slice A n cap) xs)(hj:j<xs.length) :
  ∃g off,A=some ⟨g,off,none⟩/\B<=g/\g<w.heap.size/\w.cell? ⟨g,off+j,none⟩=xs[j]?/\w.frozen? ⟨g,off+j,none⟩=false:=by
 rcases h with⟨h1,h2⟩|⟨g,off,cap',cur,h1,h2,h3,h4,h5,h6,h7⟩
 .subst h2
  simp at hj
 .refine mh
  exact⟨g,off,h1.1,h2,aB h3,((ab h3).1 _).trans (h7 j hj),(ab h3).2.1 _⟩
theorem sV(h:cE w B e (.slice A n cap) xs):n=xs.length/\n<=cap/\cap<=maxLen:=by
 rcases h with⟨h1,h2⟩|⟨g,off,cap',cur,h1,h2,h3,h4,h5,_⟩
 .refine mh
  obtain⟨_,rfl,rfl⟩:=h1;subst h2;exact⟨rfl,oM,lM⟩
 .refine mh
  obtain⟨_,rfl,rfl⟩:=h1;exact⟨rfl,h4,h5⟩
theorem kH{off:Nat}{x:Value}(h:cE w B e (.slice (some ⟨g,off,none⟩) n cap) (x::xs))(off':Nat)(ho:cap=1/\off'=off\/cap≠1/\off'=off+1) :
  cE w B e (.slice (some ⟨g,off',none⟩) xs.length (cap-1)) xs:=by
 rcases h with⟨h1,_⟩|⟨g',o',cap',cur,h1,h2,h3,h4,h5,h6,h7⟩
 .cases h1
 .simp only[Value.slice.injEq,Xc7.injEq,Xd0.injEq]at h1
  obtain⟨⟨rfl,rfl,_⟩,rfl,rfl⟩:=h1;rw[Xa0]at h4;refine .inr ⟨g,off',cap-1,cur,rfl,h2,h3,oM,oM,oM,λj hj=>?_⟩;have:=h7 (j+1) xM;rw[List.getElem?_cons_succ]at this;rw[←this]
  congr 1
  rcases ho with⟨q1,_⟩|⟨_,rfl⟩
  .omega
  .omega
end
theorem iW{P:Program}(w:World){o:Oper}(hg:o.guard=none)(s x:Operand)(t:TypeId)(hop:o.op=Op.call {callee:=Callee.builtin Builtin.append,args:=#[s,x],argTypes:=#[t,t] })(B:Nat)(e:TypeId)(i:TypeInfo)(z:Value)(bytes:Nat)(h1:P.underlying t=some (.slice e))(h2:P.info? e=some i)(h3:i.zero=some z)(h4:i.size=1)(h5:i.bytes=bytes)(h6:z.cells.size=1)(v:Value)(xs:List Value)(hs:a.eval s=v)(hq:cE w B e v xs)(ad:Addr)(c:Nat)(u:Value)(hx:a.eval x=.slice (some ad) 1 c)(hc:w.cell? (ad.add 0)=some u)(h1c:u.oneCell'=true)(b1:xs.length+1<=maxLen)(b2:(xs.length+1)*bytes<=140737488355328)(hB:B<=w.heap.size)(hK:∀v' w',cE w' B e v' (xs++ [u])->w.grownBy w' v.ownBlock->wpList P ops Q rest (a.put o.dst v') w') :
  wpList P ops Q (o::rest) a w:=by
 refine Zu;have hq0:=hq;rcases hq with⟨rfl,rfl⟩|⟨g,off,cap,cur,rfl,hg1,hg2,hg3,hg4,hg5,hg6⟩
 .refine wpList_append_grows w hg s x t hop e i z 1 bytes h1 h2 h3 h4 h5 h6 oM none 0 0 [] hs (λ_=>⟨rfl,rfl⟩) rfl (λb h=>rF) ad 1 c [u] hx rfl hnews hone oM lM (by simpa using b2) (λv' w' q1 q2=>?_)
  exact hK v' w' (cE.mono (mG q1) hB) q2
 .refine wpList_append_arg w hg s x t hop e i z 1 bytes h1 h2 h3 h4 h5 h6 oM g off xs.length cap xs hs oM (λj y h=>?_) ad 1 c [u] hx rfl hnews hone (λhr j hj=>?_) b1 b2 (λhr=>?_) (λhr v' w' q1 q2=>?_)
  .have hj:j<xs.length:=(Xa4.1 h).1
   exact(((ab hg2).1 _).trans (hg6 j hj)).trans h
  .have hj0:j=0:=by simpa using hj
   subst hj0;refine⟨?_,(ab hg2).2.1 _⟩;rw[(ab hg2).1,Array.getElem?_eq_getElem oM];rfl
  .refine hK _ _ ?_ ?_
   .refine WN
    exact ZY
   .refine WN
    exact XW
  .exact hK v' w' (cE.mono (mG q1) hB) ⟨q2.os,q2.tape,q2.output,q2.size,λk hk _=>q2.block k hk sM⟩
structure ag(S:Nat->Prop)(w w':World):Prop where
 os:w'.os=w.os
 tape:w'.tape=w.tape
 output:w'.output=w.output
 size:w.heap.size<=w'.heap.size
 block:∀j,j<w.heap.size->¬S j->w'.heap[j]?=w.heap[j]?
abbrev af:Nat->Prop:=λ_=>False
section
variable {S T:Nat->Prop}{a w w' w1:World}
theorem ag.refl(S:Nat->Prop)(w:World):ag S w w:=⟨rfl,rfl,rfl,Xc4 _,λ_ _ _=>rfl⟩
theorem JG(h:Below B w w'):ag (λj=>B<=j) w w':=⟨h.os,h.tape,h.output,h.size,λj _ hn=>h.block j oM⟩
theorem ag.of(h:aC w w'):ag S w w':=⟨h.os,h.tape,h.output,h.size,λj hj _=>h.block j hj⟩
theorem ag.below(h:ag S w w')(hS:∀j,S j->B<=j)(hB:B<=w.heap.size):Below B w w':=⟨h.os,h.tape,h.output,h.size,λj hj=>h.block j oM (λq=>by have:=hS j q;omega)⟩
theorem ag.none(h:ag af w w'):aC w w':=h.below (λ_ q=>q.elim) fo
theorem ag.mono(h:ag S w w')(hS:∀j,j<w.heap.size->S j->T j):ag T w w':=⟨h.os,h.tape,h.output,h.size,λj hj hn=>h.block j hj (λq=>hn (hS j hj q))⟩
theorem ag.trans(h:ag S a w)(k:ag S w w'):ag S a w':=
 ⟨k.os.trans h.os,k.tape.trans h.tape,k.output.trans h.output,Xc2 h.size k.size,λj hj hn=>(k.block j J5 hn).trans (h.block j hj hn)⟩
theorem ag.call(h:ag S a w)(k:ag T w w')(hT:∀j,j<a.heap.size->T j->S j):ag S a w':=
 ⟨k.os.trans h.os,k.tape.trans h.tape,k.output.trans h.output,Xc2 h.size k.size,λj hj hn=>(k.block j J5 (λq=>hn (hT j hj q))).trans (h.block j hj hn)⟩
theorem ag.next(h:ag S a w)(hb:aC w w'):ag S a w':=h.trans (.of hb)
theorem ag.alloc(h:ag S a w)(o:Obj):ag S a (w.alloc o):=h.next wH
theorem ag.drewN(h:ag S a w)(n:Nat):ag S a (w.drewN n):=⟨h.os,h.tape,h.output,h.size,h.block⟩
theorem ag.drew(h:ag S a w):ag S a w.drew:=⟨h.os,h.tape,h.output,h.size,h.block⟩
theorem ag.set(h:ag S a w)(p:Addr)(hp:S p.block\/a.heap.size<=p.block)(v:Value):ag S a (w.setCell p v):=
 ⟨h.os,h.tape,h.output,QR,λj hj hn=>(eA w p v j (λq=>by rcases hp with r|r;exact hn (q ▸ r);omega)).trans (h.block j hj hn)⟩
theorem jh{p:Addr}(hp:S p.block\/a.heap.size<=p.block)(h:ag S a w):ag S a (w.setCell p v):=h.set p hp v
theorem ag.grown(h:ag S a w)(hg:w.grownBy w' v.ownBlock)(hv:∀k,v.ownBlock=some k->k<a.heap.size->S k):ag S a w':=
 ⟨hg.os.trans h.os,hg.tape.trans h.tape,hg.output.trans h.output,Xc2 h.size hg.size,λj hj hn=>
  (hg.block j J5 (λq=>hn (hv j q.symm hj))).trans (h.block j hj hn)⟩
theorem ae{o:Obj}(h:ag S w w')(hi:w.heap[i]?=some o)(hn:¬S i):w'.heap[i]?=some o:=
 (h.block i (by rcases Xc1 i w.heap.size with q|q;exact q;rw[Xb5 q]at hi;cases hi) hn).trans hi
end
section
variable {P:Program}{l:List Oper}{Q:Exit->Act->World->Prop}{md:Region.Mode}{S:World->Prop}{n g:Nat}
def cq(P:Program)(md:Region.Mode)(ops:Array Oper)(Q:Exit->Act->World->Prop)(S:World->Prop)(n g:Nat):Nat->Array Bool->Act->World->Prop
 |0,listed,a,w=>(∀k,k<n->listed.getD k true=true)/\wpAny P md ops Q g listed a w
 |f+1,listed,a,w=>Xb0 md ops listed≠ []/\∀i∈Xb0 md ops listed,i<n/\wpOp P ops Q i (λa' w'=>S w'/\cq P md ops Q S n g f (listed.setIfInBounds i true) a' w') a w
theorem lV:∀ (f:Nat) (listed:Array Bool) (a:Act) (w:World),cq P md ops Q S n g f listed a w->wpAny P md ops Q (f+g) listed a w
 |0,listed,a,w,h=>by rw[Xc0];exact h.2
 |f+1,listed,a,w,h=>by rw[show f+1+g=(f+g)+1 by omega];exact⟨λh0=>absurd h0 h.1,λi hi=>wpOp_mono (λa' w' h'=>lV f _ a' w' h'.2) (h.2 i hi).2⟩
def pE(md:Region.Mode)(ops:Array Oper)(n:Nat):Bool:=Region.sinkB md ops n&&Region.chainB md ops n&&decide (n<ops.size)
theorem xV(ht:pE md ops n=true)(inv:HeadInv md ops n listed)(hi:i∈Xb0 md ops listed)(hin:i<n)(hj:j∈Xb0 md ops listed):j<n:=by
 simp only[pE,Xd8,decide_eq_true_eq]at ht;rcases Xc1 j n with q|q
 .exact q
 .exact absurd hj (tail_waits ht.1.1 ht.1.2 ht.2 inv _ i rfl hin (mem_ready.1 hi).1 j q)
theorem Dl(ht:pE md ops n=true)(hi:ops[i]?=some oi)(hin:i<n)(hsel:∀ (j:Nat) (o:Oper) cs b,ops[j]?=some o->o.op≠ .select cs b)(hQ:∀c a w,Q (.panic c) (a.put oi.dst v) w->Q (.panic c) a w) :
  ∀ (f:Nat) (listed:Array Bool) (a:Act) (w:World),HeadInv md ops n listed ->
   (∀j oj,ops[j]?=some oj->j≠i->listed.getD j true=false->(∀e∈oj.after,Xb2 md e=true->e.on≠i)->oi.apart ops oj=true) ->
   i∈Xb0 md ops listed->YieldsIf P ops S oi v a->S w ->
   cq P md ops Q S n g f (listed.setIfInBounds i true) (a.put oi.dst v) w->cq P md ops Q S n g (f+1) listed a w:=by
 intro f;induction f with
 |zero=>
  intro listed a w inv _ hr hy hS H;refine XU
  .have h1:=(mem_ready.1 (ready_mono hj hji)).1
   rw[H.1 j (xV ht inv hr hin hj)]at h1;cases h1
 |succ f ih=>
  intro listed a w inv hfree hr hy hS H;refine XU
  .have h1:=(H.2 j (ready_mono hj hji)).2
   obtain⟨hjun,oj,hoj,hall⟩:=mem_ready.1 hj;have hnot:∀e∈oj.after,Xb2 md e=true->e.on≠i:=λe he hb heq=>by have h2:=hall e he hb;rw[heq,getD_both (mem_ready.1 hr).1]at h2;cases h2
   have h2:=wpOp_putIf hoj (hfree j oj hoj hji hjun hnot) (λcs b=>hsel i oi cs b hi) (λcs b=>hsel j oj cs b hoj) hQ hy h1;refine wpOp_mono (λa' w' h3=>⟨h3.2.1,ih (listed.setIfInBounds j true) a' w' (inv.set hj (xV ht inv hr hin hj)) (λk ok hk hki hun hno=>hfree k ok hk hki ?_ hno) (ready_mono hr (Ne.symm hji)) h3.1 h3.2.1 ?_⟩) h2
   .by_cases hjk:j=k
    .subst hjk
     exact hjun
    .rw[getD_set_ne true hjk]at hun
     exact hun
   .rw[Array.setIfInBounds_comm _ _ hji]
    exact h3.2.2
def BG(md:Region.Mode)(l:List Oper)(n:Nat)(listed:Array Bool):Bool:=
 decide (listed.size=l.length)&& (Xa6 l.length).all (λj=>!(listed.getD j false)||(match l[j]? with|some o=>o.after.all (λe=>!(Xb2 md e)||listed.getD e.on false)|none=>true))&& (Xa6 l.length).all (λt=>decide (t<n)||!(listed.getD t true))
theorem Do(h:BG md l n listed=true):HeadInv md l.toArray n listed:=by
 simp only[BG,Xd8,decide_eq_true_eq,Xa8,List.mem_range,Bool.or_eq_true,Bool.not_eq_true']at h;obtain⟨⟨h1,h2⟩,h3⟩:=h;refine⟨ul,λj oj hj hl e he hb=>?_,λt ht hs=>?_⟩
 .have hjl:j<l.length:=by have:=(Xb7.1 hj).1;simpa using this
  have hj':l[j]?=some oj:=by simpa using hj
  rcases h2 j hjl with q|q
  .rw[hl]at q
   cases q
  .rw[hj']at q
   have:=Array.all_eq_true'.1 q e he;rcases Bool.or_eq_true_iff.1 this with r|r
   .rw[hb]at r
    cases r
   .exact r
 .rcases h3 t (by simpa using hs) with q|q
  .omega
  .exact q
theorem NK(hi:l[i]?=some oi)(hk:(pE md l.toArray n&&BG md l n listed&&decide (i<n)&&Xb3 l.toArray&&Xb4 md l.toArray listed i&& (Xb0 md l.toArray listed).contains i)=true)(hQ:∀c a w,Q (.panic c) (a.put oi.dst v) w->Q (.panic c) a w)(hy:YieldsIf P l.toArray S oi v a)(hS:S w)(h:cq P md l.toArray Q S n g f (listed.setIfInBounds i true) (a.put oi.dst v) w):cq P md l.toArray Q S n g (f+1) listed a w:=by
 simp only[Xd8,decide_eq_true_eq]at hk;obtain⟨⟨⟨⟨⟨k1,k2⟩,k3⟩,k4⟩,k5⟩,k6⟩:=hk;have hi':l.toArray[i]?=some oi:=by simpa using hi
 exact Dl k1 hi' k3 (Region.noSelect_spec k4) hQ f listed a w (Do k2) (Region.free_spec hi' k5) (by simpa using k6) hy hS h
theorem one_h{o:Oper}(ho:l[i]?=some o)(hr:Xb0 md l.toArray listed=[i])(hin:i<n)(h:∀K':Act->World->Prop,Shut (∀a w,S w->(S w->cq P md l.toArray Q S n g f (listed.setIfInBounds i true) a w)->K' a w)->if Xb1 o (yielded l.toArray a.tmps)=true then Xd3 P o a w K' Q else K' (a.put o.dst undef) w) :
  cq P md l.toArray Q S n g (f+1) listed a w:=by
 refine⟨by rw[hr];simp,λj hj=>?_⟩;rw[hr,List.mem_singleton]at hj;subst hj;exact⟨hin,wpOp_step Eo (λK' hK=>h K' (λa w hS hW=>hK a w ⟨hS,hW hS⟩))⟩
theorem last_h{o:Oper}(ho:l[n]?=some o)(hk:((Xa6 n).all (λk=>listed.getD k true)&&decide (Xb0 md l.toArray listed=[n])&&decide (Xb0 md l.toArray (listed.setIfInBounds n true)=[]))=true)(h:∀K':Act->World->Prop,Shut (∀a w,Q .normal a w->K' a w)->if Xb1 o (yielded l.toArray a.tmps)=true then Xd3 P o a w K' Q else K' (a.put o.dst undef) w) :
  cq P md l.toArray Q S n 1 0 listed a w:=by
 refine Vs;obtain⟨⟨k1,k2⟩,k3⟩:=hk;refine WH;exact wpOp_step Eo (λK' hK=>h K' (λa w hW=>hK a w ⟨k3,hW⟩))
theorem ej(n:Nat)(hm:P.follows .mixedOrders=true)(hn:l.length=n+1)(hS:S w.drew)(h:S w.drew->cq P .any l.toArray Q S n 1 n (Xb6 l.length false) a w.drew):(Code.region id l.toArray true).wp P Q a w:=Wq
end
theorem hf(h:x=o:=by repeat(first|(with_reducible assumption)|(with_reducible apply av)|((with_reducible apply aN);(focus(first|omega|(simp;done)|(simp;omega))))|((with_reducible apply ao);(focus(first|omega|(simp;done)|(simp;omega))))|(with_reducible apply ai)|(with_reducible apply(bU _ _).trans)|(with_reducible apply(cK _ _ _).trans))):x=o:=h
theorem bZ(h:x=OC c t:=by repeat(first|(with_reducible assumption)|(with_reducible apply av)|((with_reducible apply aN);(focus(first|omega|(simp;done)|(simp;omega))))|((with_reducible apply ao);(focus(first|omega|(simp;done)|(simp;omega))))|(with_reducible apply ai)|(with_reducible apply(bU _ _).trans)|(with_reducible apply(cK _ _ _).trans)))(e:OC c t=o:=by exact rfl):x=o:=h.trans e
theorem bu{a:World}(h:ag S a w:=by repeat(first|(with_reducible assumption)|(with_reducible exact ag.refl _ _)|(with_reducible apply ag.drewN)|(with_reducible apply ag.drew)|(with_reducible apply ag.alloc)|((with_reducible apply jh);(focus(first|omega|(simp;done)|(simp;omega)|(simp only[aD,bE,lu,ic];omega)|(simp[aD];omega))))|(with_reducible refine ag.next ?_ (by assumption)))):ag S a w:=h
theorem pu:(∀ (a:Act) (k:Nat) (v:Value),a.put (some k) v= {a with tmps:=a.tmps.setIfInBounds k v})/\(∀ (a:Act) (v:Value),a.put none v=a)/\(∀ (l:List Value) (i:Nat) (v:Value),l.toArray.setIfInBounds i v=(l.set i v).toArray)/\(∀ (x:Value) (l:List Value) (v:Value),(x::l).set 0 v=v::l)/\∀ (x:Value) (l:List Value) (i:Nat) (v:Value),(x::l).set (i+1) v=x::l.set i v:=
 ⟨λ_ _ _=>rfl,λ_ _=>rfl,λ_ _ _=>sM,λ_ _ _=>rfl,λ_ _ _ _=>rfl⟩
abbrev Bk(w:World)(b:Nat)(c:Array Value)(t:TypeId):Prop:=w.heap[b]?=OC c t/\(∀j,w.cell? ⟨b,j,none⟩=c[j]?)/\(∀j,w.frozen? ⟨b,j,none⟩=false)/\b<w.heap.size
theorem bk(h:w.heap[b]?=OC c t:=by exact bZ):Bk w b c t:=aO h
theorem Bk.in(h:w.heap[b]?=OC c t)(hc:ag S w w')(hn:¬S b):Bk w' b c t:=aO (ae hc h hn)
section
variable {P:Program}{md:Region.Mode}{l:List Oper}{Q:Exit->Act->World->Prop}{S:World->Prop}{n g:Nat}
theorem rg(n:Nat)(S:World->Prop)(hS:S w.drew)(h:S w.drew->cq P .any l.toArray Q S n 1 n (Array.replicate l.length false) a w.drew)(hm:P.follows .mixedOrders=true:=by kernel_rfl)(hn:l.length=n+1:=by rfl):(Code.region id l.toArray true).wp P Q a w:=ej n hm hn hS h
theorem rl(n:Nat)(S:World->Prop)(h:∀w',ag af w w'->S w'/\(S w'->cq P .any l.toArray Q S n 1 n (Array.replicate l.length false) a w'))(hm:P.follows .mixedOrders=true:=by kernel_rfl)(hn:l.length=n+1:=by rfl):(Code.region id l.toArray true).wp P Q a w:=
 ej n hm hn (h _ (ag.drew dp)).1 (h _ (ag.drew dp)).2
theorem tk(i:Nat){a':Act}(h:cq P md l.toArray Q S n g f (listed.setIfInBounds i true) a' w)(hi:l[i]?=some oi:=by rfl)(hk:(pE md l.toArray n&&BG md l n listed&&decide (i<n)&&Region.noSelect l.toArray&&Region.free md l.toArray listed i&& (Region.ready md l.toArray listed).contains i)=true:=by kernel_rfl)(hQ:∀c a w,Q (.panic c) (a.put oi.dst v) w->Q (.panic c) a w:=by exact(λ_ _ _ h=>h))(hy:YieldsIf P l.toArray S oi v a:=by(refine Or.inl ⟨rM,?_⟩;intro wz hSw;(try dsimp only[Bk]at hSw);go_simp;(try with_reducible rfl)))(ha:a.put oi.dst v=a':=by(simp only[pu];exact rfl))(hS:S w:=by assumption) :
  cq P md l.toArray Q S n g (f+1) listed a w:=NK hi hk hQ hy hS (ha ▸ h)
theorem on(i:Nat){o:Oper}(h:∀K':Act->World->Prop,Shut (∀a w,S w->(S w->cq P md l.toArray Q S n g f (listed.setIfInBounds i true) a w)->K' a w)->if Region.wanted o (yielded l.toArray a.tmps)=true then Oper.wp P o a w K' Q else K' (a.put o.dst undef) w)(ho:l[i]?=some o:=by rfl)(hr:Region.ready md l.toArray listed=[i]:=by kernel_rfl)(hin:i<n:=by decide) :
  cq P md l.toArray Q S n g (f+1) listed a w:=one_h ho hr hin h
theorem bo(i j:Nat){oj:Oper}(hi:l[i]?=some oi:=by rfl)(hj:l[j]?=some oj:=by rfl)(hr:Region.ready md l.toArray listed=[i,j]:=by kernel_rfl)(hin:i<n:=by decide)(hjn:j<n:=by decide)(h1:∀K':Act->World->Prop,Shut (∀a w,S w->(S w->cq P md l.toArray Q S n g f (listed.setIfInBounds i true) a w)->K' a w)->if Region.wanted oi (yielded l.toArray a.tmps)=true then Oper.wp P oi a w K' Q else K' (a.put oi.dst undef) w)(h2:∀K':Act->World->Prop,Shut (∀a w,S w->(S w->cq P md l.toArray Q S n g f (listed.setIfInBounds j true) a w)->K' a w)->if Region.wanted oj (yielded l.toArray a.tmps)=true then Oper.wp P oj a w K' Q else K' (a.put oj.dst undef) w) :
  cq P md l.toArray Q S n g (f+1) listed a w:=by
 exact ZT
theorem oa{o:Oper}(h:∀ (V:Nat) (w':World),w'.heap[V]?=OC cs t->ag af w w'->w.heap.size<=V->S w'/\(S w'->cq P md l.toArray Q S n g f (listed.setIfInBounds i true) (a.put o.dst (OV V)) w'))(hx:∀K':Act->World->Prop,K' (a.put o.dst (OV w.heap.size)) (w.alloc (.cells cs t))->if Region.wanted o (yielded l.toArray a.tmps)=true then Oper.wp P o a w K' Q else K' (a.put o.dst undef) w:=by(intro K' h;go_simp;simp only[pu]at h;exact h)) :
  ∀K':Act->World->Prop,Shut (∀a w,S w->(S w->cq P md l.toArray Q S n g f (listed.setIfInBounds i true) a w)->K' a w)->if Region.wanted o (yielded l.toArray a.tmps)=true then Oper.wp P o a w K' Q else K' (a.put o.dst undef) w:=λK' hK=>
 have h':=h _ _ (ao w _ _ rfl) im fo
 hx K' (hK.out _ _ h'.1 h'.2)
theorem la{o:Oper}(h:∀K':Act->World->Prop,Shut (∀a w,Q .normal a w->K' a w)->if Region.wanted o (yielded l.toArray a.tmps)=true then Oper.wp P o a w K' Q else K' (a.put o.dst undef) w)(ho:l[n]?=some o:=by rfl)(hk:((List.range n).all (λk=>listed.getD k true)&&decide (Region.ready md l.toArray listed=[n])&&decide (Region.ready md l.toArray (listed.setIfInBounds n true)=[]))=true:=by kernel_rfl) :
  cq P md l.toArray Q S n 1 0 listed a w:=last_h ho hk h
end
section
variable {P:Program}{fn:Func}{R:Ending->World->Prop}{a:Act}{w:World}{p q u v:Tmp}{ty ty':TypeId}{d d':TypeDesc}{g g':Nat}{cs cs':Array Value}{t t':TypeId}
theorem rc(hu:P.underlying ty=some d)(h3:R (.returned (.agg cs)) w)(h:fn.results=#[.cell p ty]:=by rfl)(hp:a.tmps.getD p undef=OV g:=by rfl)(hd:(match d with|.struct _|.array _ _=>true|_=>false)=true:=by rfl)(hz:a.defers=[]:=by rfl)(h1:w.heap[g]?=OC cs t:=by exact hf)(h2:(P.info? ty).map (·.size)=some cs.size:=by kernel_rfl):bodyPost P fn R .ret a w:=ju h hp hu hd hz ⟨_,_,h1,h2,h3⟩
theorem wY(hu:P.underlying ty=some d)(h3:R (.returned (.tuple #[.agg cs,a.tmps.getD u undef])) w)(h:fn.results=#[.cell p ty,.tmp u]:=by rfl)(hp:a.tmps.getD p undef=OV g:=by rfl)(hd:(match d with|.struct _|.array _ _=>true|_=>false)=true:=by rfl)(hz:a.defers=[]:=by rfl)(h1:w.heap[g]?=OC cs t:=by exact hf)(h2:(P.info? ty).map (·.size)=some cs.size:=by kernel_rfl):bodyPost P fn R .ret a w:=bQ h hp hu hd hz ⟨_,_,h1,h2,h3⟩
theorem rct2(hu:P.underlying ty=some d)(h3:R (.returned (.tuple #[.agg cs,a.tmps.getD u undef,a.tmps.getD v undef])) w)(h:fn.results=#[.cell p ty,.tmp u,.tmp v]:=by rfl)(hp:a.tmps.getD p undef=OV g:=by rfl)(hd:(match d with|.struct _|.array _ _=>true|_=>false)=true:=by rfl)(hz:a.defers=[]:=by rfl)(h1:w.heap[g]?=OC cs t:=by exact hf)(h2:(P.info? ty).map (·.size)=some cs.size:=by kernel_rfl):bodyPost P fn R .ret a w:=j8 h hp hu hd hz ⟨_,_,h1,h2,h3⟩
end
theorem kb(hb:Below w.heap.size w w1)(hl:b<w.heap.size:=by assumption)(h:w.heap[b]?=some (.cells c t (0,0)):=by assumption):Bk w1 b c t:=aO ((hb.block _ hl).trans h)
section
open Go.ChangeShapes Go.WideShapes Go.ChangeAt Go.RowKit
theorem Oz:ownKnob prog.godebug=none:=kM
theorem Pi:laidOutB prog=true:=kM
def jA(P:Program):Nat->TypeId->Option (List TypeId)
 |0,_=>none
 |n+1,t=>match P.underlying t with
  |some (.struct fs)=>
   match fs.toList.foldl (λacc f=>match acc,jA P n f.type with
    |some l,some m=>if f.offset=l.length/\P.cellsOf f.type=m.length then some (l++m) else none
    |_,_=>none) (some [])with
   |some l=>if P.cellsOf t=l.length then some l else none
   |none=>none
  |some (.array _ _)=>none
  |some _=>if P.cellsOf t=1 then some [t] else none
  |none=>none
section
variable {H:Type}{enc:TypeId×Value->H}{P:Program}{w:World}{base:Nat}{spare:Nat->Bool}{fE:Bool}
def ot(enc:TypeId×Value->H)(P:Program)(w:World)(base:Nat)(spare:Nat->Bool)(fE:Bool)(cs:List Value)(l:List TypeId):Prop:=
 ∀ (i:Nat) (u:TypeId),l[i]?=some u->∃ (c:Value) (y:DataW H×List MemPlace) (m:Nat),cs[i]?=some c/\Xc5 enc P w base spare fE m u [c]=some y
theorem Bw(n:Nat)(cs:List Value)(ih:∀t L,jA P n t=some L->∀m cs x,Xc5 enc P w base spare fE m t cs=some x->cs.length=L.length/\ot enc P w base spare fE cs L) :
  ∀ (fs:List Field) (l L:List TypeId),ot enc P w base spare fE cs l ->
   (∀f∈fs,∃m x,Xc5 enc P w base spare fE m f.type ((cs.drop f.offset).take (P.cellsOf f.type))=some x) ->
   fs.foldl (λacc f=>match acc,jA P n f.type with
    |some l,some m=>if f.offset=l.length/\P.cellsOf f.type=m.length then some (l++m) else none
    |_,_=>none) (some l)=some L->ot enc P w base spare fE cs L:=by
 intro fs;induction fs with
 |nil=>
  intro l L hl _ h;simp only[List.foldl_nil,Xc7.injEq]at h;subst h;exact hl
 |cons f fs ihf=>
  intro l L hl hf h;rw[Xa9]at h;have hnone:∀gs:List Field,gs.foldl (λacc f=>match acc,jA P n f.type with
    |some l,some m=>if f.offset=l.length/\P.cellsOf f.type=m.length then some (l++m) else none
    |_,_=>none) none=none:=by
   intro gs;induction gs with
   |nil=>
    rfl
   |cons g gs ihg=>rw[Xa9];exact ihg
  cases hm:jA P n f.type with
  |none=>
   rw[hm]at h;simp only[]at h;rw[hnone]at h;cases h
  |some mm=>
   rw[hm]at h;simp only[]at h;by_cases hc:f.offset=l.length/\P.cellsOf f.type=mm.length
   .rw[if_pos hc]at h
    refine ihf (l++mm) L ?_ (λg hg=>hf g (by simp[hg])) h;obtain⟨m,x,hx⟩:=hf f sM;obtain⟨_,hat⟩:=ih _ _ hm m _ x hx;intro i u hu;by_cases hi:i<l.length
    .rw[List.getElem?_append_left hi]at hu
     exact hl i u hu
    .rw[List.getElem?_append_right oM]at hu
     obtain⟨c,y,k,h1,h2⟩:=hat _ u hu;refine⟨c,y,k,?_,h2⟩;rw[List.getElem?_take]at h1;split at h1
     .rw[List.getElem?_drop,hc.1]at h1
      rw[←h1]
      congr 1
      omega
     .cases h1
   .rw[if_neg hc,hnone]at h
    cases h
theorem Pf(n:Nat):∀t L,jA P n t=some L->∀m cs x,Xc5 enc P w base spare fE m t cs=some x->cs.length=L.length/\ot enc P w base spare fE cs L:=by
 induction n with
 |zero=>
  intro t L h;cases h
 |succ n ih=>
  intro t L h m cs x hx;unfold jA at h;split at h
  .rename_i fs ht
   obtain⟨xs,k,_,_,hlen,hxl,hf⟩:=DataW.trod_struct ht hx;split at h
   .rename_i l hl
    split at h
    .rename_i hcl
     cases h;refine⟨hlen.trans hcl,Bw n cs ih fs.toList [] _ ?_ ?_ hl⟩
     .intro i u hu
      simp at hu
     .intro f hfm
      obtain⟨i,hi,hfi⟩:=List.getElem_of_mem hfm;have hfi':fs[i]?=some f:=by rw[←Xb8,Xa2 hi,hfi]
      have hil:i<xs.length:=by have:=(Xb7.1 hfi').1;omega
      exact⟨k,xs[i],(hf i f hfi').trans (Xa2 hil)⟩
    .cases h
   .cases h
  .cases h
  .rename_i d hns hna ht
   split at h
   .rename_i hone
    cases h;have hlen:cs.length=1:=by
     cases m with
     |zero=>
      simp[Xc5]at hx
     |succ m=>
      unfold Xc5 at hx;rw[ht]at hx;split at hx<;>first|rfl|(exfalso;simp_all;done)|skip
      all_goals simp_all
    refine⟨by simpa using hlen,?_⟩;intro i u hu;match cs,hlen with
    | [c],_=>
     cases i with
     |zero=>
      simp at hu;subst hu;exact⟨c,x,m,rfl,hx⟩
     |succ i=>simp at hu
   .cases h
  .cases h
theorem cz{cs:List Value}(h:ot enc P w base spare fE cs l){u:TypeId}(hu:l[i]?=some u)(hk:P.underlying u=some (.int k)) :
  ∃n,cs[i]?=some (.int k n)/\(Lit.int k n).wf=true:=by
 obtain⟨c,y,m,h1,h2⟩:=h i u hu;obtain⟨n,hc,_,hw⟩:=Xc6 hk h2;cases hc;exact⟨n,h1,hw⟩
theorem IZ{cs:List Value}(h:ot enc P w base spare fE cs l){u:TypeId}(hu:l[i]?=some u)(hk:P.underlying u=some .bool) :
  ∃b,cs[i]?=some (.bool b):=by
 obtain⟨c,y,m,h1,h2⟩:=h i u hu;obtain⟨b,hc,_⟩:=DataW.trod_bool hk h2;cases hc;exact⟨b,h1⟩
theorem IC{a:Addr}(h:w.cell? a=some v):a=⟨a.block,a.off,none⟩/\a.block<w.heap.size:=by
 obtain⟨b,o,s⟩:=a;unfold Xd7 at h;split at h
 .rename_i c e f hb
  cases s with
  |none=>
   refine⟨rfl,?_⟩;rcases Xc1 b w.heap.size with h1|h1
   .exact h1
   .rw[Xb5 h1]at hb
    cases hb
  |some x=>simp at h
 .cases h
theorem iu{d:DataW H}{ps:List MemPlace}(ht:P.underlying t=some (.slice e))(hm:P.cellsOf e=m)(h0:0<m)(h:DataW.Trod enc P w base spare fE t v d ps)(hv:∃a len cap,v=.slice a len cap) :
  ∃ (A:Option Addr) (len cap:Nat),v=.slice A len cap/\len<=cap/\cap<=maxLen /\
   ∀i,i<len->∃ (b o:Nat) (cs:List Value),A=some ⟨b,o,none⟩/\b<w.heap.size/\cs.length=m/\(∀ (j:Nat) (u:Value),cs[j]?=some u->w.cell? ⟨b,o+i*m+j,none⟩=some u) /\
    ∃n x,Xc5 enc P w base spare fE n e cs=some x:=by
 obtain⟨a0,len0,cap0,rfl⟩:=hv;obtain⟨fuel,hf⟩:=h;have hf':Xc5 enc P w base spare fE fuel t [.slice a0 len0 cap0]=some (d,ps):=hf;rcases Xd4 ht hf' with⟨h1,_⟩|⟨a,len,cap,mm,n,D,Pl,h1,_,hl,hc,hmm,_,hx⟩
 .cases h1
  exact⟨none,0,0,rfl,Xc4 _,Nat.zero_le _,λi hi=>absurd hi (Nat.not_lt_zero _)⟩
 .cases h1
  refine⟨some a,_,_,rfl,hl,hc,λi hi=>?_⟩;have hml:len0<=mm:=by rw[hmm];split<;>omega
  have first:=hx 0 oM;obtain⟨Hk,hc0,_⟩:=first;obtain⟨_,hl0,hat0⟩:=Xd5 hc0;rw[hm]at hl0 hat0;have hz:=hat0 0 h0;rw[Nat.zero_mul,Xc9,Xc9]at hz;obtain⟨v0,hv0⟩:∃v0,Hk[0]?=some v0:=⟨Hk[0]'oM,Xa2 oM⟩
  rw[hv0]at hz;obtain⟨ea,hlt⟩:=IC hz;obtain⟨cs,hcs,ht'⟩:=hx i oM;obtain⟨_,hlen,hat⟩:=Xd5 hcs;rw[hm]at hlen hat;refine⟨a.block,a.off,cs,by rw[←ea],hlt,hlen,λj u hu=>?_,n,_,ht'⟩;have hj:j<cs.length:=(Xa4.1 hu).1;have:=hat j oM;rw[hu,ea,Xc8,Xc8]at this;exact this
end
theorem S4{enc:TypeId×Value->H}{P:Program}{base:Nat}{fE:Bool}{len:Nat}(he:P.underlying e=some (.int k))(h:∀i,i<len->∃ (b o:Nat) (cs:List Value),A=some ⟨b,o,none⟩/\b<w.heap.size/\cs.length=1/\(∀ (j:Nat) (u:Value),cs[j]?=some u->w.cell? ⟨b,o+i*1+j,none⟩=some u) /\
    ∃n x,Xc5 enc P w base spare fE n e cs=some x) :
  ∃z:Nat->Int,∀i,i<len->∃b o,A=some ⟨b,o,none⟩/\b<w.heap.size/\w.cell? ⟨b,o+i,none⟩=some (.int k (z i))/\(Lit.int k (z i)).wf=true:=by
 refine Go.Deep.choose_lt (p:=λi x=>∃b o,A=some ⟨b,o,none⟩/\b<w.heap.size/\w.cell? ⟨b,o+i,none⟩=some (.int k x)/\(Lit.int k x).wf=true) (λi hi=>?_);obtain⟨b,o,cs,hA,hb,_,hc,n,x,hx⟩:=h i hi;obtain⟨z,rfl,_,hw⟩:=Xc6 he hx;refine⟨z,b,o,hA,hb,?_,hw⟩;simpa using hc 0 _ rfl
section
variable {H:Type}{enc:TypeId×Value->H}
theorem nT{W:World}{sp:Nat->Bool}(hb:aC W W') :
  ∀ (ts:List TypeId) (vs:List Value) (ds:List (DataW H)) (ps:List MemPlace),
   (∀t∈ts,prog.readableRec t=true/\t<prog.types.size)->DataW.TrodAll enc prog W 0 (λ_=>true) true ts vs ds ps ->
   (∀p∈ps,p.block<W.heap.size)->(∀p∈ps,sp p.block=true)->DataW.TrodAll enc prog W' 0 sp true ts vs ds ps
 | [],[],[],_,_,h,_,_=>h
 |t::ts,v::vs,d::ds,ps,hr,h,hlt,hs=>by
  obtain⟨p,q,h1,h2,rfl⟩:=h;obtain⟨ha,hb'⟩:=hr t sM;refine⟨p,q,WideElems.Trod_stays Pi ha hb' h1 (λx hx=>hb.same (hlt x wF)) (λx hx=>hs x wF),?_,rfl⟩;exact nT hb ts vs ds q (λt ht=>hr t (by simp[ht])) h2 (λx hx=>hlt x wF) (λx hx=>hs x wF)
 | [],_::_,_,_,_,h,_,_=>h.elim
 | [],[],_::_,_,_,h,_,_=>h.elim
 |_::_,[],_,_,_,h,_,_=>h.elim
 |_::_,_::_,[],_,_,h,_,_=>h.elim
theorem Ph{f:Func}{s:ChangeSpec}{W:World}{args:Array Value}{ds gs:List (DataW H)}{before:List MemPlace}{tb:TypeId}(hr:(f.params.toList.all λt=>prog.readableRec t&&decide (t<prog.types.size))=true)(hrt:f.resultTypes=#[tb])(htb:prog.underlying tb=some .bool)(hvars:s.vars=[])(hW:DataW.Whole enc prog f.params.toList s.vars false W args.toList ds gs before)(hfn:s.fn H (ds++gs)= {results:=[.lit (.bool true)],args:=ds})(hb:aC W W') :
  s.post enc prog f false true false false W args (.bool true) W':=by
 have hr':∀t∈f.params.toList,prog.readableRec t=true/\t<prog.types.size:=by intro t ht;have:=Xa8.1 hr t ht;exact ia
 have hlt:∀p∈before,p.block<W.heap.size:=λp hp=>hW.lt p hp
 have hW':=hW;obtain⟨p,q,hA,hV,rfl,_,_⟩:=hW;rw[hvars]at hV;have hq:q=[]:=by
  cases gs with
  |nil=>
   exact hV
  |cons g gs=>exact hV.elim
 subst hq;refine⟨ds,gs,p++ [],[],p,[],hW',?_,?_,?_,hb.frame _,λh=>rF⟩
 .rw[hfn,hrt]
  exact⟨[],[],shut_bool htb true,rfl,rfl⟩
 .rw[hfn]
  exact nT hb _ _ _ _ hr' hA (λx hx=>hlt x wF) (λx hx=>by simpa using hlt x wF)
 .rw[hfn,hvars]
  rfl
end
end
section
open Go.ChangeShapes Go.WideShapes Go.ChangeAt Go.RowKit
theorem kL{enc:TypeId×Value->H}{P:Program}{base:Nat}{fE:Bool}{len:Nat}{d:DataW H}{ps:List MemPlace}(ht:P.underlying t=some (.slice e))(h:DataW.Trod enc P w base spare fE t (.slice A len cap) d ps):A=none->cap=0:=by
 rintro rfl;obtain⟨fuel,hf⟩:=h;have hf':Xc5 enc P w base spare fE fuel t [.slice none len cap]=some (d,ps):=hf;rcases Xd4 ht hf' with⟨h1,_⟩|⟨a,len,cap,mm,n,D,Pl,h1,_⟩
 .simp at h1
  exact h1.2
 .simp at h1
theorem iy{enc:TypeId×Value->H}{P:Program}{base:Nat}{fE:Bool}{cs:List Value}(h:ot enc P w base spare fE cs l){u:TypeId}(hu:l[i]?=some u)(hk:P.underlying u=some (.slice e)) :
  ∃ (A:Option Addr) (len cap:Nat) (d:DataW H) (ps:List MemPlace),cs[i]?=some (.slice A len cap)/\DataW.Trod enc P w base spare fE u (.slice A len cap) d ps:=by
 obtain⟨c,y,m,h1,h2⟩:=h i u hu;rcases Xd4 hk h2 with⟨h3,_⟩|⟨a,len,cap,mm,n,D,Pl,h3,_⟩
 .simp at h3
  subst h3;exact⟨none,0,0,y.1,y.2,h1,m,h2⟩
 .simp at h3
  subst h3;exact⟨some a,len,cap,y.1,y.2,h1,m,h2⟩
theorem kK{enc:TypeId×Value->H}{P:Program}{base:Nat}{fE:Bool}{len:Nat}(he:P.underlying e=some (.int k))(h:∀i,i<len->∃ (b o:Nat) (cs:List Value),A=some ⟨b,o,none⟩/\b<w.heap.size/\cs.length=1/\(∀ (j:Nat) (u:Value),cs[j]?=some u->w.cell? ⟨b,o+i*1+j,none⟩=some u) /\
    ∃n x,Xc5 enc P w base spare fE n e cs=some x) :
  ∃zs:List Int,zs.length=len/\bd w A k zs/\∀z∈zs,(Lit.int k z).wf=true:=by
 obtain⟨z,hz⟩:=S4 he h;obtain⟨l,hl,hg⟩:=ST len z;refine⟨l,hl,λi hi=>?_,λx hx=>?_⟩
 .obtain⟨b,o,hA,hb,hc,_⟩:=hz i oM
  exact⟨b,o,hA,hb,by rw[hg i oM];exact hc⟩
 .refine Ay
  obtain⟨_,_,_,_,_,hw⟩:=hz i oM;have:=hg i oM;rw[List.getD_eq_getElem?_getD,Xa2 hi]at this;simp only[Option.getD_some]at this;rw[this];exact hw
end
theorem aI{z:Value}(h:(prog.info? t).map (λi=>(i.zero,i.size,i.bytes))=some (some z,s,b)):∃i,prog.info? t=some i/\i.zero=some z/\i.size=s/\i.bytes=b:=by obtain⟨i,h1,h2⟩:=Option.map_eq_some_iff.1 h;simp only[Prod.mk.injEq]at h2;exact⟨i,h1,h2.1,h2.2.1,h2.2.2⟩
theorem dV.below{c:Nat}(h:dV w A m c news)(hb:aC w w'):dV w' A m c news:=
 ⟨h.1,λad hA j u hu=>(hb.cell (World.block_lt_of_cell? w (ad.add j) (h.2 ad hA j u hu))).trans (h.2 ad hA j u hu)⟩
theorem dV.alloc{c:Nat}(h:dV w A m c news)(o:Obj):dV (w.alloc o) A m c news:=h.below wH
theorem lX(w:World)(e:TypeId)(s:Nat):(w.alloc (.cells #[] e)).ownsRow w.heap.size e s (.slice (aT w.heap.size) 0 0) 0 []:=
 World.ownsRow_made w #[] 0 fo kn sM
theorem nl{st et:TypeId}(hu:prog.underlying st=some (.slice et)):∀ (w:World) (a:Option Addr) (n c n' c':Nat),(binOp .eql st (.slice a n c) (.slice none n' c')).run prog w=.ok (.bool a.isNone) w:=
 λw a n c n' c'=>Lib.run_eql_slice_nil w _ _ a n c n' c' hu
theorem info5:(prog.info? 5).map (λi=>(i.zero,i.size,i.bytes))=some (some (JW 0),1,1):=kM
theorem lI(w:World)(A:Option Addr)(n cap:Nat)(xs:List Value)(hl:xs.length=n*1)(hn:n<=1000000)(h1:∀u∈xs,u.oneCell'=true)(hsrc:dV w A n cap xs) :
  az 25 #[.slice A n cap] w λe w'=>∃v,e=aA v/\w'.ownsRow w.heap.size 5 1 v n xs/\aC w w':=by
 refine vl;have q:=nl underlying56;cases A with
 |none=>
  refine vC;go_enter func25,ntmps25;exact vx
 |some ad=>
  refine vq;go_enter func25,ntmps25;go_wp2_with (at_builtin;refine dh _ rfl (.tmp 5) (.tmp 6) 56 rfl w.heap.size 5 i0 (JW 0) 1 1 underlying56 hi hz0 hz1 hz2 rfl dM _ _ _ rfl (lX w 5 1) (some ad) n cap xs rfl HL.out (HS.out.alloc _) H1.out lM oM oC ?_;intro v1 w1 hown hgrow)
  have hB:aC w w1:=bq oA oC (lX w 5 1) hgrow;go_ret;exact qB
theorem Pr:(prog.info? 52).map (λi=>(i.zero,i.size,i.bytes))=some (some (JT 0),1,4):=kM
theorem rE(w:World)(A:Option Addr)(n cap:Nat)(xs:List Value)(hl:xs.length=n*1)(hn:n<=1000000)(h1:∀u∈xs,u.oneCell'=true)(hsrc:dV w A n cap xs) :
  az 26 #[.slice A n cap] w λe w'=>∃v,e=aA v/\w'.ownsRow w.heap.size 52 1 v n xs/\aC w w':=by
 refine K4;have q:=nl underlying48;cases A with
 |none=>
  refine vC;go_enter func26,ntmps26;exact vx
 |some ad=>
  refine vq;go_enter func26,ntmps26;go_wp2_with (at_builtin;refine dh _ rfl (.tmp 5) (.tmp 6) 48 rfl w.heap.size 52 i0 (JT 0) 1 4 underlying48 hi hz0 hz1 hz2 rfl dM _ _ _ rfl (lX w 52 1) (some ad) n cap xs rfl HL.out (HS.out.alloc _) H1.out lM oM oC ?_;intro v1 w1 hown hgrow)
  have hB:aC w w1:=bq oA oC (lX w 52 1) hgrow;go_ret;exact qB
theorem Pq:(prog.info? 70).map (λi=>(i.zero,i.size,i.bytes))=some (some (.agg #[JI 0,JI 0,JI 0,JU 0,JI 0,JI 0,JI 0,JI 0,JI 0,JI 0,.slice none 0 0,JI 0,JI 0,JU 0,JI 0,JI 0,JI 0,JT 0,.slice none 0 0,JI 0,JU 0,JI 0,JT 0,.slice none 0 0]),24,240):=kM
theorem Qg(w:World)(A:Option Addr)(n cap:Nat)(xs:List Value)(hl:xs.length=n*24)(hn:n<=1000000)(h1:∀u∈xs,u.oneCell'=true)(hsrc:dV w A n cap xs) :
  az 24 #[.slice A n cap] w λe w'=>∃v,e=aA v/\w'.ownsRow w.heap.size 70 24 v n xs/\aC w w':=by
 obtain⟨i0,hi,hz0,hz1,hz2⟩:=aI Pq;have q:=nl underlying44;cases A with
 |none=>
  refine vC;go_enter func24,ntmps24;exact vx
 |some ad=>
  refine vq;go_enter func24,ntmps24;go_wp2_with (at_builtin;refine dh _ rfl (.tmp 5) (.tmp 6) 44 rfl w.heap.size 70 i0 (.agg #[JI 0,JI 0,JI 0,JU 0,JI 0,JI 0,JI 0,JI 0,JI 0,JI 0,.slice none 0 0,JI 0,JI 0,JU 0,JI 0,JI 0,JI 0,JT 0,.slice none 0 0,JI 0,JU 0,JI 0,JT 0,.slice none 0 0]) 24 240 underlying44 hi hz0 hz1 hz2 rfl dM _ _ _ rfl (lX w 70 24) (some ad) n cap xs rfl HL.out (HS.out.alloc _) H1.out lM oM oC ?_;intro v1 w1 hown hgrow)
  have hB:aC w w1:=bq oA oC (lX w 70 24) hgrow;go_ret;exact qB
theorem rB:(prog.info? 167).map (λi=>(i.zero,i.size,i.bytes))=some (some (.agg #[JI 0,JI 0,JI 0]),3,24):=kM
theorem Qf(w:World)(A:Option Addr)(n cap:Nat)(xs:List Value)(hl:xs.length=n*3)(hn:n<=1000000)(h1:∀u∈xs,u.oneCell'=true)(hsrc:dV w A n cap xs) :
  az 60 #[.slice A n cap] w λe w'=>∃v,e=aA v/\w'.ownsRow w.heap.size 167 3 v n xs/\aC w w':=by
 obtain⟨i0,hi,hz0,hz1,hz2⟩:=aI rB;have q:=nl underlying38;cases A with
 |none=>
  refine vC;go_enter func60,ntmps60;exact vx
 |some ad=>
  refine vq;go_enter func60,ntmps60;go_wp2_with (at_builtin;refine dh _ rfl (.tmp 5) (.tmp 6) 38 rfl w.heap.size 167 i0 (.agg #[JI 0,JI 0,JI 0]) 3 24 underlying38 hi hz0 hz1 hz2 rfl dM _ _ _ rfl (lX w 167 3) (some ad) n cap xs rfl HL.out (HS.out.alloc _) H1.out lM oM oC ?_;intro v1 w1 hown hgrow)
  have hB:aC w w1:=bq oA oC (lX w 167 3) hgrow;go_ret;exact qB
theorem xU:(prog.info? 170).map (λi=>(i.zero,i.size,i.bytes))=some (some (.agg #[JI 0,JI 0,JI 0,JI 0,.bool false]),5,40):=kM
theorem BS(w:World)(A:Option Addr)(n cap:Nat)(xs:List Value)(hl:xs.length=n*5)(hn:n<=1000000)(h1:∀u∈xs,u.oneCell'=true)(hsrc:dV w A n cap xs) :
  az 61 #[.slice A n cap] w λe w'=>∃v,e=aA v/\w'.ownsRow w.heap.size 170 5 v n xs/\aC w w':=by
 refine La;have q:=nl underlying40;cases A with
 |none=>
  refine vC;go_enter func61,ntmps61;exact vx
 |some ad=>
  refine vq;go_enter func61,ntmps61;go_wp2_with (at_builtin;refine dh _ rfl (.tmp 5) (.tmp 6) 40 rfl w.heap.size 170 i0 (.agg #[JI 0,JI 0,JI 0,JI 0,.bool false]) 5 40 underlying40 hi hz0 hz1 hz2 rfl dM _ _ _ rfl (lX w 170 5) (some ad) n cap xs rfl HL.out (HS.out.alloc _) H1.out lM oM oC ?_;intro v1 w1 hown hgrow)
  have hB:aC w w1:=bq oA oC (lX w 170 5) hgrow;go_ret;exact qB
theorem rA:(prog.info? 173).map (λi=>(i.zero,i.size,i.bytes))=some (some (.agg #[JI 0,JI 0,JI 0,.slice none 0 0]),4,48):=kM
theorem Qe(w:World)(A:Option Addr)(n cap:Nat)(xs:List Value)(hl:xs.length=n*4)(hn:n<=1000000)(h1:∀u∈xs,u.oneCell'=true)(hsrc:dV w A n cap xs) :
  az 62 #[.slice A n cap] w λe w'=>∃v,e=aA v/\w'.ownsRow w.heap.size 173 4 v n xs/\aC w w':=by
 obtain⟨i0,hi,hz0,hz1,hz2⟩:=aI rA;have q:=nl underlying39;cases A with
 |none=>
  refine vC;go_enter func62,ntmps62;exact vx
 |some ad=>
  refine vq;go_enter func62,ntmps62;go_wp2_with (at_builtin;refine dh _ rfl (.tmp 5) (.tmp 6) 39 rfl w.heap.size 173 i0 (.agg #[JI 0,JI 0,JI 0,.slice none 0 0]) 4 48 underlying39 hi hz0 hz1 hz2 rfl dM _ _ _ rfl (lX w 173 4) (some ad) n cap xs rfl HL.out (HS.out.alloc _) H1.out lM oM oC ?_;intro v1 w1 hown hgrow)
  have hB:aC w w1:=bq oA oC (lX w 173 4) hgrow;go_ret;exact qB
end Go.Proofs.YtnpancjkjheffaaGreat
