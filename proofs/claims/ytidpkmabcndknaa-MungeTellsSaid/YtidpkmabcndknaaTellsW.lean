/- The law MungeTells, walked. -/
import Derived.Test.YtidpkmabcndknaaOfW
import Derived.Test.YtidpkmabcndknaaVia
import Derived.Deep.RegionHeld3
import Derived.Deep.DeepCutAuto
namespace Go.Proofs.Ytidpkmabcndknaa
set_option linter.unusedSimpArgs false
set_option linter.unusedVariables false
open Go.RowKit

theorem sendF_mok {s : St} {i : Nu} (h : s.out.Ok) : (sendF s i).2.1.Ok := by
  rcases send_ways s i with ⟨_, e⟩ | ⟨_, _, e⟩ | ⟨_, _, e⟩ <;> rw [e]
  · exact ok0
  · exact fromF_ok _ _
  · exact outF_ok h
theorem keep10 {u w : World} {n g0 g1 g2 g3 g4 g5 g6 g7 g8 g9 : Nat} {s0 : Array Value}  {s1 : Array Value}  {s2 : Array Value}  {s3 : Array Value}  {s4 : Array Value}  {s5 : Array Value}  {s6 : Array Value}  {s7 : Array Value}  {s8 : Array Value}  {s9 : Array Value} (z0 : g0 < n) (c0 : ∀ j, u.cell? ⟨g0, j, none⟩ = s0[j]?) (z1 : g1 < n) (c1 : ∀ j, u.cell? ⟨g1, j, none⟩ = s1[j]?) (z2 : g2 < n) (c2 : ∀ j, u.cell? ⟨g2, j, none⟩ = s2[j]?) (z3 : g3 < n) (c3 : ∀ j, u.cell? ⟨g3, j, none⟩ = s3[j]?) (z4 : g4 < n) (c4 : ∀ j, u.cell? ⟨g4, j, none⟩ = s4[j]?) (z5 : g5 < n) (c5 : ∀ j, u.cell? ⟨g5, j, none⟩ = s5[j]?) (z6 : g6 < n) (c6 : ∀ j, u.cell? ⟨g6, j, none⟩ = s6[j]?) (z7 : g7 < n) (c7 : ∀ j, u.cell? ⟨g7, j, none⟩ = s7[j]?) (z8 : g8 < n) (c8 : ∀ j, u.cell? ⟨g8, j, none⟩ = s8[j]?) (z9 : g9 < n) (c9 : ∀ j, u.cell? ⟨g9, j, none⟩ = s9[j]?) (hb : Below n u w) :
    (∀ j, w.cell? ⟨g0, j, none⟩ = s0[j]?) ∧ (∀ j, w.cell? ⟨g1, j, none⟩ = s1[j]?) ∧ (∀ j, w.cell? ⟨g2, j, none⟩ = s2[j]?) ∧ (∀ j, w.cell? ⟨g3, j, none⟩ = s3[j]?) ∧ (∀ j, w.cell? ⟨g4, j, none⟩ = s4[j]?) ∧ (∀ j, w.cell? ⟨g5, j, none⟩ = s5[j]?) ∧ (∀ j, w.cell? ⟨g6, j, none⟩ = s6[j]?) ∧ (∀ j, w.cell? ⟨g7, j, none⟩ = s7[j]?) ∧ (∀ j, w.cell? ⟨g8, j, none⟩ = s8[j]?) ∧ (∀ j, w.cell? ⟨g9, j, none⟩ = s9[j]?) ∧ Below n u w := ⟨cells_below hb z0 c0, cells_below hb z1 c1, cells_below hb z2 c2, cells_below hb z3 c3, cells_below hb z4 c4, cells_below hb z5 c5, cells_below hb z6 c6, cells_below hb z7 c7, cells_below hb z8 c8, cells_below hb z9 c9, hb⟩
/-- A region of the function, found in its body. -/
def findR (n : Nat) : Code → Option Code
  | .region k ops b => if k = n then some (.region k ops b) else none
  | .loop c => findR n c
  | .seq a b => match findR n a with
    | some c => some c
    | none => findR n b
  | .block _ c => findR n c
  | .scope c => findR n c
  | .cond _ a b => match findR n a with
    | some c => some c
    | none => findR n b
  | _ => none
noncomputable def regF (n : Nat) : Code := ((Try.f3.body.bind (findR n)).getD .skip)
set_option maxRecDepth 1000000 in
set_option maxHeartbeats 40000000 in
theorem tells_first7
    (s : St)
    (x : Nu)
    (tm kd : Int)
    (bg : Bool)
    (w : World)
    (m0 : 0 ≤ tm)
    (m1 : tm ≤ 4294967295)
    (x0 : 0 ≤ x.seq)
    (x1 : x.seq ≤ 65535)
    (qt0_ : 0 ≤ x.time)
    (qt1_ : x.time ≤ 4294967295)
    (qp0_ : 0 ≤ x.pic)
    (qp1_ : x.pic ≤ 65535)
    (ql0_ : 0 ≤ x.tl0)
    (ql1_ : x.tl0 ≤ 255)
    (o : Nu)
    (r r2 : St)
    (m : Nu)
    (is : Bool)
    (r3 : St)
    (H2 : Hid (r2.Ok (1099511627776 + 65536)))
    (H2M : Hid m.Ok)
    (H3 : Hid (r3.Ok (1099511627776 + 65536)))
    (HO : Hid (toldF s x tm = o))
    (HRr : Hid (switchF s x tm = r))
    (HR2 : Hid (sendF s x = (r2, m, is)))
    (HR3 : Hid (dropF s x bg = r3))
    (HRO : Hid r.off.Ok)
    (HRT : Hid r.out.Ok)
    (HOO : Hid o.Ok)
    (hti : IntKind.i64.wrap tm = tm)
    (qo0 : 0 ≤ s.off.seq)
    (qo1 : s.off.seq ≤ 65535)
    (qp0 : 0 ≤ s.off.pic)
    (qp1 : s.off.pic ≤ 65535)
    (HA : Hid s.off.Ok)
    (HB : Hid s.out.Ok)
    (HX : Hid x.Ok)
    (qQ__ : Exit → Act → World → Prop)
    (hh : s.high ≤ 1099511627776)
    (hl : -1099511627776 ≤ s.high)
    (w1a : World)
    (qhB_ : Below w.heap.size w w1a)
    (y1 : w.heap.size ≤ w1a.heap.size)
    (zz : w.heap.size + 1 < w1a.heap.size)
    (qh_ : s.high ≤ 1099511627776 ∧ -1099511627776 ≤ s.high)
    (u22 u23 u24 u25 u26 u27 u28 u29 u30 u31 u32 u33 u34 u35 u36 u37 u38 u39 u40 u41 u42 u43 u44 u45 u46 u47 u48 u49 u50 u51 u52 u53 u54 u55 u56 u57 u58 u59 u60 u61 u62 u63 u64 u65 u66 u67 u68 u69 u70 u71 u72 u73 u74 u75 u76 u77 u78 u79 u80 u81 u82 u83 u84 u85 u86 u87 u88 u89 u90 u91 u92 u93 u94 u95 u96 u97 u98 u99 u100 u101 u102 u103 u104 u105 u106 u107 u108 u109 u110 u111 u112 u113 u114 : Value)
    (g6 g7 : Nat)
    (u1 : World)
    (h2 : u1.heap[g6]? =
    some
      (Obj.cells
        #[Value.bool r.on, Value.int IntKind.i64 r.high, Value.int IntKind.i64 r.since, Value.int IntKind.u16 r.off.seq,
          Value.int IntKind.u32 r.off.time, Value.int IntKind.u16 r.off.pic, Value.int IntKind.u8 r.off.tl0,
          Value.int IntKind.u16 r.out.seq, Value.int IntKind.u32 r.out.time, Value.int IntKind.u16 r.out.pic,
          Value.int IntKind.u8 r.out.tl0]
        27))
    (h3 : u1.heap[g7]? =
    some
      (Obj.cells
        #[Value.int IntKind.u16 o.seq, Value.int IntKind.u32 o.time, Value.int IntKind.u16 o.pic,
          Value.int IntKind.u8 o.tl0]
        25))
    (h0 : u1.heap[w.heap.size]? =
    some
      (Obj.cells
        #[Value.bool s.on, Value.int IntKind.i64 s.high, Value.int IntKind.i64 s.since, Value.int IntKind.u16 s.off.seq,
          Value.int IntKind.u32 s.off.time, Value.int IntKind.u16 s.off.pic, Value.int IntKind.u8 s.off.tl0,
          Value.int IntKind.u16 s.out.seq, Value.int IntKind.u32 s.out.time, Value.int IntKind.u16 s.out.pic,
          Value.int IntKind.u8 s.out.tl0]
        27))
    (h1 : u1.heap[w.heap.size + 1]? =
    some
      (Obj.cells
        #[Value.int IntKind.i64 kd, Value.int IntKind.u16 x.seq, Value.int IntKind.u32 x.time,
          Value.int IntKind.u16 x.pic, Value.int IntKind.u8 x.tl0, Value.int IntKind.u32 tm, Value.bool bg]
        29))
    (hB : Below w.heap.size w u1)
    (yb : w.heap.size ≤ u1.heap.size)
    (yu : w1a.heap.size ≤ u1.heap.size)
    (c0 : ∀ (j : Nat),
    u1.cell? { block := w.heap.size, off := j } =
      #[Value.bool s.on, Value.int IntKind.i64 s.high, Value.int IntKind.i64 s.since, Value.int IntKind.u16 s.off.seq,
          Value.int IntKind.u32 s.off.time, Value.int IntKind.u16 s.off.pic, Value.int IntKind.u8 s.off.tl0,
          Value.int IntKind.u16 s.out.seq, Value.int IntKind.u32 s.out.time, Value.int IntKind.u16 s.out.pic,
          Value.int IntKind.u8 s.out.tl0][j]?)
    (f0 : ∀ (j : Nat), u1.frozen? { block := w.heap.size, off := j } = false)
    (z0 : w.heap.size < u1.heap.size)
    (c1 : ∀ (j : Nat),
    u1.cell? { block := w.heap.size + 1, off := j } =
      #[Value.int IntKind.i64 kd, Value.int IntKind.u16 x.seq, Value.int IntKind.u32 x.time,
          Value.int IntKind.u16 x.pic, Value.int IntKind.u8 x.tl0, Value.int IntKind.u32 tm, Value.bool bg][j]?)
    (f1 : ∀ (j : Nat), u1.frozen? { block := w.heap.size + 1, off := j } = false)
    (z1 : w.heap.size + 1 < u1.heap.size)
    (c2 : ∀ (j : Nat),
    u1.cell? { block := g6, off := j } =
      #[Value.bool r.on, Value.int IntKind.i64 r.high, Value.int IntKind.i64 r.since, Value.int IntKind.u16 r.off.seq,
          Value.int IntKind.u32 r.off.time, Value.int IntKind.u16 r.off.pic, Value.int IntKind.u8 r.off.tl0,
          Value.int IntKind.u16 r.out.seq, Value.int IntKind.u32 r.out.time, Value.int IntKind.u16 r.out.pic,
          Value.int IntKind.u8 r.out.tl0][j]?)
    (f2 : ∀ (j : Nat), u1.frozen? { block := g6, off := j } = false)
    (z2 : g6 < u1.heap.size)
    (c3 : ∀ (j : Nat),
    u1.cell? { block := g7, off := j } =
      #[Value.int IntKind.u16 o.seq, Value.int IntKind.u32 o.time, Value.int IntKind.u16 o.pic,
          Value.int IntKind.u8 o.tl0][j]?)
    (f3 : ∀ (j : Nat), u1.frozen? { block := g7, off := j } = false)
    (z3 : g7 < u1.heap.size)
    (qJ_ qK__ : Act → World → Prop)
    (qa_1 : ∀ (a' : Act) (w' : World),
    (∃ u8 u9 u22 u23 u24 u25 u26 u27 u28 u29 u30 u31 u32 u33 u34 u35 u36 u37 u38 u39 u40 u41 u42 u43 u44 u45 u46 u47 u48
        u49 u50 u51 u52 u53 u54 u55 u56 u57 u58 u59 u60 u61 u62 u63 u64 u65 u66 u67 u68 u69 u70 u71 u72 u73 u74 u75 u76
        u77 u78 u79 u80 u81 u82 u83 u84 u85 u86 u87 u88 u89 u90 u91 u92 u93 u94 u95 u96 u97 u98 u99 u100 u101 u102 u103
        u104 u105 u106 u107 u108 u109 u110 u111 u112 u113 u114,
        (∃ g8 g9,
            u8 = Value.pointer (some { block := g8, off := 0 }) ∧
              u9 = Value.pointer (some { block := g9, off := 0 }) ∧
                w'.heap[g8]? =
                    some
                      (Obj.cells
                        #[Value.bool r.on, Value.int IntKind.i64 r.high, Value.int IntKind.i64 r.since,
                          Value.int IntKind.i64 r.off.seq, Value.int IntKind.i64 r.off.time,
                          Value.int IntKind.i64 r.off.pic, Value.int IntKind.i64 r.off.tl0,
                          Value.int IntKind.i64 r.out.seq, Value.int IntKind.i64 r.out.time,
                          Value.int IntKind.i64 r.out.pic, Value.int IntKind.i64 r.out.tl0]
                        36) ∧
                  w'.heap[g9]? =
                      some
                        (Obj.cells
                          #[Value.int IntKind.i64 o.seq, Value.int IntKind.i64 o.time, Value.int IntKind.i64 o.pic,
                            Value.int IntKind.i64 o.tl0]
                          34) ∧
                    Below u1.heap.size u1 w') ∧
          a' =
            {
              tmps :=
                #[Value.agg
                    #[Value.bool s.on, Value.int IntKind.i64 s.high, Value.int IntKind.i64 s.since,
                      Value.int IntKind.u16 s.off.seq, Value.int IntKind.u32 s.off.time,
                      Value.int IntKind.u16 s.off.pic, Value.int IntKind.u8 s.off.tl0, Value.int IntKind.u16 s.out.seq,
                      Value.int IntKind.u32 s.out.time, Value.int IntKind.u16 s.out.pic,
                      Value.int IntKind.u8 s.out.tl0],
                  Value.agg
                    #[Value.int IntKind.i64 kd, Value.int IntKind.u16 x.seq, Value.int IntKind.u32 x.time,
                      Value.int IntKind.u16 x.pic, Value.int IntKind.u8 x.tl0, Value.int IntKind.u32 tm, Value.bool bg],
                  Value.pointer (some { block := w.heap.size, off := 0 }),
                  Value.pointer (some { block := w.heap.size + 1, off := 0 }), Value.bool false, Value.bool true,
                  Value.pointer (some { block := g6, off := 0 }), Value.pointer (some { block := g7, off := 0 }), u8,
                  u9, undef, undef, undef, undef, undef, undef, undef, undef, Value.bool true, Value.bool true,
                  Value.bool false, Value.pointer (some { block := w.heap.size, off := 1 }), u22, u23, u24, u25, u26,
                  u27, u28, u29, u30, u31, u32, u33, u34, u35, u36, u37, u38, u39, u40, u41, u42, u43, u44, u45, u46,
                  u47, u48, u49, u50, u51, u52, u53, u54, u55, u56, u57, u58, u59, u60, u61, u62, u63, u64, u65, u66,
                  u67, u68, u69, u70, u71, u72, u73, u74, u75, u76, u77, u78, u79, u80, u81, u82, u83, u84, u85, u86,
                  u87, u88, u89, u90, u91, u92, u93, u94, u95, u96, u97, u98, u99, u100, u101, u102, u103, u104, u105,
                  u106, u107, u108, u109, u110, u111, u112, u113, u114],
              defers := [] }) →
      qJ_ a' w')
    (qa_ : ∀ (a' : Act) (w' : World), Met qJ_ a' w' → qK__ a' w')
    : Code.wp Try.prog
    (regF 7)
    (Exit.then qK__ qQ__)
    {
      tmps :=
        #[Value.agg
            #[Value.bool s.on, Value.int IntKind.i64 s.high, Value.int IntKind.i64 s.since,
              Value.int IntKind.u16 s.off.seq, Value.int IntKind.u32 s.off.time, Value.int IntKind.u16 s.off.pic,
              Value.int IntKind.u8 s.off.tl0, Value.int IntKind.u16 s.out.seq, Value.int IntKind.u32 s.out.time,
              Value.int IntKind.u16 s.out.pic, Value.int IntKind.u8 s.out.tl0],
          Value.agg
            #[Value.int IntKind.i64 kd, Value.int IntKind.u16 x.seq, Value.int IntKind.u32 x.time,
              Value.int IntKind.u16 x.pic, Value.int IntKind.u8 x.tl0, Value.int IntKind.u32 tm, Value.bool bg],
          Value.pointer (some { block := w.heap.size, off := 0 }),
          Value.pointer (some { block := w.heap.size + 1, off := 0 }), Value.bool false, Value.bool true,
          Value.pointer (some { block := g6, off := 0 }), Value.pointer (some { block := g7, off := 0 }), undef, undef,
          undef, undef, undef, undef, undef, undef, undef, undef, Value.bool true, Value.bool true, Value.bool false,
          Value.pointer (some { block := w.heap.size, off := 1 }), u22, u23, u24, u25, u26, u27, u28, u29, u30, u31,
          u32, u33, u34, u35, u36, u37, u38, u39, u40, u41, u42, u43, u44, u45, u46, u47, u48, u49, u50, u51, u52, u53,
          u54, u55, u56, u57, u58, u59, u60, u61, u62, u63, u64, u65, u66, u67, u68, u69, u70, u71, u72, u73, u74, u75,
          u76, u77, u78, u79, u80, u81, u82, u83, u84, u85, u86, u87, u88, u89, u90, u91, u92, u93, u94, u95, u96, u97,
          u98, u99, u100, u101, u102, u103, u104, u105, u106, u107, u108, u109, u110, u111, u112, u113, u114],
      defers := [] }
    u1 := by
  conv => arg 2; whnf
  go_region_held3 (fun w' => (∀ j, w'.cell? ⟨w.heap.size, j, none⟩ = #[.bool s.on, .int .i64 s.high, .int .i64 s.since, .int .u16 s.off.seq, .int .u32 s.off.time, .int .u16 s.off.pic, .int .u8 s.off.tl0, .int .u16 s.out.seq, .int .u32 s.out.time, .int .u16 s.out.pic, .int .u8 s.out.tl0][j]?) ∧ (∀ j, w'.cell? ⟨w.heap.size + 1, j, none⟩ = #[.int .i64 kd, .int .u16 x.seq, .int .u32 x.time, .int .u16 x.pic, .int .u8 x.tl0, .int .u32 tm, .bool bg][j]?) ∧ Below u1.heap.size u1 w') (((as_aux_lemma => ((refine keep2 z0 c0 z1 c1 ?_; (first | (with_reducible exact Below.refl _ _) | (go_split_ands; first | (with_reducible assumption) | go_grown))))))) (first | (go_at_call 13; go_split_ands; (with_reducible refine (of_eq s _ HA.out HB.out).mono ?_); rintro e w2 ⟨rfl, hb⟩; have hB := below_next (w := u1) (by first | (with_reducible exact Below.refl _ _) | (with_reducible assumption) | go_grown) hb; have zS := hB.size; (try first | ((have hn := heap_below hb (by first | omega | (simp; done) | (simp; omega)) hP); clear hP fP cP; have hP := hn; clear hn; (try simp only [size_alloc] at hP); obtain ⟨cP, fP, zP⟩ := blk_facts hP) | ((have hn := heap_below hb (by first | omega | (simp; done) | (simp; omega)) (heap_alloc_old' hP)); clear hP fP cP; have hP := hn; clear hn; (try simp only [size_alloc] at hP); obtain ⟨cP, fP, zP⟩ := blk_facts hP) | ((have hn := heap_below hb (by first | omega | (simp; done) | (simp; omega)) (heap_alloc_old' (heap_alloc_old' hP))); clear hP fP cP; have hP := hn; clear hn; (try simp only [size_alloc] at hP); obtain ⟨cP, fP, zP⟩ := blk_facts hP) | ((have hP : w2.heap[(_ : Nat)]? = some (Obj.cells _ 36 (0, 0)) := (hb.block _ (lt_alloc _ _)).trans (heap_alloc_new _ _ _ rfl)); (try simp only [size_alloc] at hP); obtain ⟨cP, fP, zP⟩ := blk_facts hP) | ((have hP : w2.heap[(_ : Nat)]? = some (Obj.cells _ 36 (0, 0)) := (hb.block _ (Nat.lt_trans (lt_alloc _ _) (lt_alloc _ _))).trans (heap_alloc_old' (heap_alloc_new _ _ _ rfl))); (try simp only [size_alloc] at hP); obtain ⟨cP, fP, zP⟩ := blk_facts hP)); (try first | ((have hn := heap_below hb (by first | omega | (simp; done) | (simp; omega)) hQ); clear hQ fQ cQ; have hQ := hn; clear hn; (try simp only [size_alloc] at hQ); obtain ⟨cQ, fQ, zQ⟩ := blk_facts hQ) | ((have hn := heap_below hb (by first | omega | (simp; done) | (simp; omega)) (heap_alloc_old' hQ)); clear hQ fQ cQ; have hQ := hn; clear hn; (try simp only [size_alloc] at hQ); obtain ⟨cQ, fQ, zQ⟩ := blk_facts hQ) | ((have hn := heap_below hb (by first | omega | (simp; done) | (simp; omega)) (heap_alloc_old' (heap_alloc_old' hQ))); clear hQ fQ cQ; have hQ := hn; clear hn; (try simp only [size_alloc] at hQ); obtain ⟨cQ, fQ, zQ⟩ := blk_facts hQ) | ((have hQ : w2.heap[(_ : Nat)]? = some (Obj.cells _ 34 (0, 0)) := (hb.block _ (lt_alloc _ _)).trans (heap_alloc_new _ _ _ rfl)); (try simp only [size_alloc] at hQ); obtain ⟨cQ, fQ, zQ⟩ := blk_facts hQ) | ((have hQ : w2.heap[(_ : Nat)]? = some (Obj.cells _ 34 (0, 0)) := (hb.block _ (Nat.lt_trans (lt_alloc _ _) (lt_alloc _ _))).trans (heap_alloc_old' (heap_alloc_new _ _ _ rfl))); (try simp only [size_alloc] at hQ); obtain ⟨cQ, fQ, zQ⟩ := blk_facts hQ)); clear hb) | (go_at_call 14; go_split_ands; (with_reducible refine (nums_eq x _ HX.out).mono ?_); rintro e w2 ⟨rfl, hb⟩; have hB := below_next (w := u1) (by first | (with_reducible exact Below.refl _ _) | (with_reducible assumption) | go_grown) hb; have zS := hB.size; (try first | ((have hn := heap_below hb (by first | omega | (simp; done) | (simp; omega)) hP); clear hP fP cP; have hP := hn; clear hn; (try simp only [size_alloc] at hP); obtain ⟨cP, fP, zP⟩ := blk_facts hP) | ((have hn := heap_below hb (by first | omega | (simp; done) | (simp; omega)) (heap_alloc_old' hP)); clear hP fP cP; have hP := hn; clear hn; (try simp only [size_alloc] at hP); obtain ⟨cP, fP, zP⟩ := blk_facts hP) | ((have hn := heap_below hb (by first | omega | (simp; done) | (simp; omega)) (heap_alloc_old' (heap_alloc_old' hP))); clear hP fP cP; have hP := hn; clear hn; (try simp only [size_alloc] at hP); obtain ⟨cP, fP, zP⟩ := blk_facts hP) | ((have hP : w2.heap[(_ : Nat)]? = some (Obj.cells _ 36 (0, 0)) := (hb.block _ (lt_alloc _ _)).trans (heap_alloc_new _ _ _ rfl)); (try simp only [size_alloc] at hP); obtain ⟨cP, fP, zP⟩ := blk_facts hP) | ((have hP : w2.heap[(_ : Nat)]? = some (Obj.cells _ 36 (0, 0)) := (hb.block _ (Nat.lt_trans (lt_alloc _ _) (lt_alloc _ _))).trans (heap_alloc_old' (heap_alloc_new _ _ _ rfl))); (try simp only [size_alloc] at hP); obtain ⟨cP, fP, zP⟩ := blk_facts hP)); (try first | ((have hn := heap_below hb (by first | omega | (simp; done) | (simp; omega)) hQ); clear hQ fQ cQ; have hQ := hn; clear hn; (try simp only [size_alloc] at hQ); obtain ⟨cQ, fQ, zQ⟩ := blk_facts hQ) | ((have hn := heap_below hb (by first | omega | (simp; done) | (simp; omega)) (heap_alloc_old' hQ)); clear hQ fQ cQ; have hQ := hn; clear hn; (try simp only [size_alloc] at hQ); obtain ⟨cQ, fQ, zQ⟩ := blk_facts hQ) | ((have hn := heap_below hb (by first | omega | (simp; done) | (simp; omega)) (heap_alloc_old' (heap_alloc_old' hQ))); clear hQ fQ cQ; have hQ := hn; clear hn; (try simp only [size_alloc] at hQ); obtain ⟨cQ, fQ, zQ⟩ := blk_facts hQ) | ((have hQ : w2.heap[(_ : Nat)]? = some (Obj.cells _ 34 (0, 0)) := (hb.block _ (lt_alloc _ _)).trans (heap_alloc_new _ _ _ rfl)); (try simp only [size_alloc] at hQ); obtain ⟨cQ, fQ, zQ⟩ := blk_facts hQ) | ((have hQ : w2.heap[(_ : Nat)]? = some (Obj.cells _ 34 (0, 0)) := (hb.block _ (Nat.lt_trans (lt_alloc _ _) (lt_alloc _ _))).trans (heap_alloc_old' (heap_alloc_new _ _ _ rfl))); (try simp only [size_alloc] at hQ); obtain ⟨cQ, fQ, zQ⟩ := blk_facts hQ)); clear hb) | (go_at_call 12; go_split_ands; (with_reducible refine (refSwitch_st s r x o tm _ HRr.out HO.out HX.out HB.out m0 m1).mono ?_); rintro e w2 ⟨rfl, hb⟩; have hB := below_next (w := u1) (by first | (with_reducible exact Below.refl _ _) | (with_reducible assumption) | go_grown) hb; have zS := hB.size; (try first | ((have hn := heap_below hb (by first | omega | (simp; done) | (simp; omega)) hP); clear hP fP cP; have hP := hn; clear hn; (try simp only [size_alloc] at hP); obtain ⟨cP, fP, zP⟩ := blk_facts hP) | ((have hn := heap_below hb (by first | omega | (simp; done) | (simp; omega)) (heap_alloc_old' hP)); clear hP fP cP; have hP := hn; clear hn; (try simp only [size_alloc] at hP); obtain ⟨cP, fP, zP⟩ := blk_facts hP) | ((have hn := heap_below hb (by first | omega | (simp; done) | (simp; omega)) (heap_alloc_old' (heap_alloc_old' hP))); clear hP fP cP; have hP := hn; clear hn; (try simp only [size_alloc] at hP); obtain ⟨cP, fP, zP⟩ := blk_facts hP) | ((have hP : w2.heap[(_ : Nat)]? = some (Obj.cells _ 36 (0, 0)) := (hb.block _ (lt_alloc _ _)).trans (heap_alloc_new _ _ _ rfl)); (try simp only [size_alloc] at hP); obtain ⟨cP, fP, zP⟩ := blk_facts hP) | ((have hP : w2.heap[(_ : Nat)]? = some (Obj.cells _ 36 (0, 0)) := (hb.block _ (Nat.lt_trans (lt_alloc _ _) (lt_alloc _ _))).trans (heap_alloc_old' (heap_alloc_new _ _ _ rfl))); (try simp only [size_alloc] at hP); obtain ⟨cP, fP, zP⟩ := blk_facts hP)); (try first | ((have hn := heap_below hb (by first | omega | (simp; done) | (simp; omega)) hQ); clear hQ fQ cQ; have hQ := hn; clear hn; (try simp only [size_alloc] at hQ); obtain ⟨cQ, fQ, zQ⟩ := blk_facts hQ) | ((have hn := heap_below hb (by first | omega | (simp; done) | (simp; omega)) (heap_alloc_old' hQ)); clear hQ fQ cQ; have hQ := hn; clear hn; (try simp only [size_alloc] at hQ); obtain ⟨cQ, fQ, zQ⟩ := blk_facts hQ) | ((have hn := heap_below hb (by first | omega | (simp; done) | (simp; omega)) (heap_alloc_old' (heap_alloc_old' hQ))); clear hQ fQ cQ; have hQ := hn; clear hn; (try simp only [size_alloc] at hQ); obtain ⟨cQ, fQ, zQ⟩ := blk_facts hQ) | ((have hQ : w2.heap[(_ : Nat)]? = some (Obj.cells _ 34 (0, 0)) := (hb.block _ (lt_alloc _ _)).trans (heap_alloc_new _ _ _ rfl)); (try simp only [size_alloc] at hQ); obtain ⟨cQ, fQ, zQ⟩ := blk_facts hQ) | ((have hQ : w2.heap[(_ : Nat)]? = some (Obj.cells _ 34 (0, 0)) := (hb.block _ (Nat.lt_trans (lt_alloc _ _) (lt_alloc _ _))).trans (heap_alloc_old' (heap_alloc_new _ _ _ rfl))); (try simp only [size_alloc] at hQ); obtain ⟨cQ, fQ, zQ⟩ := blk_facts hQ)); clear hb))
  all_goals (go_wp2_with fail; go_meet; go_split_ands; as_aux_lemma => exact ⟨_, _, rfl, rfl, (Eq.trans (b := some (Obj.cells _ _ (0, 0))) (by repeat (first | (with_reducible assumption) | (with_reducible apply heap_set_row11) | (with_reducible apply heap_set_row4) | (with_reducible apply heap_set_same) | ((with_reducible apply heap_set_other'); (focus (first | omega | (simp; done) | (simp; omega)))) | ((with_reducible apply heap_alloc_new); (focus (first | omega | (simp; done) | (simp; omega)))) | (with_reducible apply heap_alloc_old') | (with_reducible apply (heap_drew_at _ _).trans) | (with_reducible apply (heap_drewN_at _ _ _).trans) | (simp only [List.size_toArray, List.length_cons, List.length_nil]; done))) (by exact rfl)), (Eq.trans (b := some (Obj.cells _ _ (0, 0))) (by repeat (first | (with_reducible assumption) | (with_reducible apply heap_set_row11) | (with_reducible apply heap_set_row4) | (with_reducible apply heap_set_same) | ((with_reducible apply heap_set_other'); (focus (first | omega | (simp; done) | (simp; omega)))) | ((with_reducible apply heap_alloc_new); (focus (first | omega | (simp; done) | (simp; omega)))) | (with_reducible apply heap_alloc_old') | (with_reducible apply (heap_drew_at _ _).trans) | (with_reducible apply (heap_drewN_at _ _ _).trans) | (simp only [List.size_toArray, List.length_cons, List.length_nil]; done))) (by exact rfl)), by first | (with_reducible exact Below.refl _ _) | go_grown⟩)
set_option maxRecDepth 1000000 in
set_option maxHeartbeats 40000000 in
theorem tells_first9
    (s : St)
    (x : Nu)
    (tm kd : Int)
    (bg : Bool)
    (w : World)
    (m0 : 0 ≤ tm)
    (m1 : tm ≤ 4294967295)
    (x0 : 0 ≤ x.seq)
    (x1 : x.seq ≤ 65535)
    (qt0_ : 0 ≤ x.time)
    (qt1_ : x.time ≤ 4294967295)
    (qp0_ : 0 ≤ x.pic)
    (qp1_ : x.pic ≤ 65535)
    (ql0_ : 0 ≤ x.tl0)
    (ql1_ : x.tl0 ≤ 255)
    (o : Nu)
    (r r2 : St)
    (m : Nu)
    (is : Bool)
    (r3 : St)
    (H2 : Hid (r2.Ok (1099511627776 + 65536)))
    (H2M : Hid m.Ok)
    (H3 : Hid (r3.Ok (1099511627776 + 65536)))
    (HO : Hid (toldF s x tm = o))
    (HRr : Hid (switchF s x tm = r))
    (HR2 : Hid (sendF s x = (r2, m, is)))
    (HR3 : Hid (dropF s x bg = r3))
    (HRO : Hid r.off.Ok)
    (HRT : Hid r.out.Ok)
    (HOO : Hid o.Ok)
    (hti : IntKind.i64.wrap tm = tm)
    (qo0 : 0 ≤ s.off.seq)
    (qo1 : s.off.seq ≤ 65535)
    (qp0 : 0 ≤ s.off.pic)
    (qp1 : s.off.pic ≤ 65535)
    (HA : Hid s.off.Ok)
    (HB : Hid s.out.Ok)
    (HX : Hid x.Ok)
    (qQ__ : Exit → Act → World → Prop)
    (hh : s.high ≤ 1099511627776)
    (hl : -1099511627776 ≤ s.high)
    (w1a : World)
    (qhB_2 : Below w.heap.size w w1a)
    (y1 : w.heap.size ≤ w1a.heap.size)
    (zz : w.heap.size + 1 < w1a.heap.size)
    (qh_ : s.high ≤ 1099511627776 ∧ -1099511627776 ≤ s.high)
    (qu22_1 qu23_1 qu24_1 qu25_1 qu26_1 qu27_1 qu28_1 qu29_1 qu30_1 qu31_1 qu32_1 qu33_1 qu34_1 qu35_1 qu36_1 qu37_1 qu38_1 qu39_1 qu40_1 qu41_1 qu42_1 qu43_1 qu44_1 qu45_1 qu46_1 qu47_1 qu48_1 qu49_1 qu50_1 qu51_1 qu52_1 qu53_1 qu54_1 qu55_1 qu56_1 qu57_1 qu58_1 qu59_1 qu60_1 qu61_1 qu62_1 qu63_1 qu64_1 qu65_1 qu66_1 qu67_1 qu68_1 qu69_1 qu70_1 qu71_1 qu72_1 qu73_1 qu74_1 qu75_1 qu76_1 qu77_1 qu78_1 qu79_1 qu80_1 qu81_1 qu82_1 qu83_1 qu84_1 qu85_1 qu86_1 qu87_1 qu88_1 qu89_1 qu90_1 qu91_1 qu92_1 qu93_1 qu94_1 qu95_1 qu96_1 qu97_1 qu98_1 qu99_1 qu100_1 qu101_1 qu102_1 qu103_1 qu104_1 qu105_1 qu106_1 qu107_1 qu108_1 qu109_1 qu110_1 qu111_1 qu112_1 qu113_1 qu114_1 : Value)
    (g6 g7 : Nat)
    (u1 : World)
    (qhB_1 : Below w.heap.size w u1)
    (qyb_1 : w.heap.size ≤ u1.heap.size)
    (qyu_1 : w1a.heap.size ≤ u1.heap.size)
    (qu22_ qu23_ qu24_ qu25_ qu26_ qu27_ qu28_ qu29_ qu30_ qu31_ qu32_ qu33_ qu34_ qu35_ qu36_ qu37_ qu38_ qu39_ qu40_ qu41_ qu42_ qu43_ qu44_ qu45_ qu46_ qu47_ qu48_ qu49_ qu50_ qu51_ qu52_ qu53_ qu54_ qu55_ qu56_ qu57_ qu58_ qu59_ qu60_ qu61_ qu62_ qu63_ qu64_ qu65_ qu66_ qu67_ qu68_ qu69_ qu70_ qu71_ qu72_ qu73_ qu74_ qu75_ qu76_ qu77_ qu78_ qu79_ qu80_ qu81_ qu82_ qu83_ qu84_ qu85_ qu86_ qu87_ qu88_ qu89_ qu90_ qu91_ qu92_ qu93_ qu94_ qu95_ qu96_ qu97_ qu98_ qu99_ qu100_ qu101_ qu102_ qu103_ qu104_ qu105_ qu106_ qu107_ qu108_ qu109_ qu110_ qu111_ qu112_ qu113_ qu114_ : Value)
    (g8 g9 : Nat)
    (u2 : World)
    (qhB_ : Below w.heap.size w u2)
    (qyb_ : w.heap.size ≤ u2.heap.size)
    (qyu_ : u1.heap.size ≤ u2.heap.size)
    (u22 u23 u24 u25 u26 u27 u28 u29 u30 u31 u32 u33 u34 u35 u36 u37 u38 u39 u40 u41 u42 u43 u44 u45 u46 u47 u48 u49 u50 u51 u52 u53 u54 u55 u56 u57 u58 u59 u60 u61 u62 u63 u64 u65 u66 u67 u68 u69 u70 u71 u72 u73 u74 u75 u76 u77 u78 u79 u80 u81 u82 u83 u84 u85 u86 u87 u88 u89 u90 u91 u92 u93 u94 u95 u96 u97 u98 u99 u100 u101 u102 u103 u104 u105 u106 u107 u108 u109 u110 u111 u112 u113 u114 : Value)
    (g10 g11 : Nat)
    (u3 : World)
    (h6 : u3.heap[g10]? =
    some
      (Obj.cells
        #[Value.bool r2.on, Value.int IntKind.i64 r2.high, Value.int IntKind.i64 r2.since,
          Value.int IntKind.u16 r2.off.seq, Value.int IntKind.u32 r2.off.time, Value.int IntKind.u16 r2.off.pic,
          Value.int IntKind.u8 r2.off.tl0, Value.int IntKind.u16 r2.out.seq, Value.int IntKind.u32 r2.out.time,
          Value.int IntKind.u16 r2.out.pic, Value.int IntKind.u8 r2.out.tl0]
        27))
    (h7 : u3.heap[g11]? =
    some
      (Obj.cells
        #[Value.int IntKind.u16 m.seq, Value.int IntKind.u32 m.time, Value.int IntKind.u16 m.pic,
          Value.int IntKind.u8 m.tl0]
        25))
    (h0 : u3.heap[w.heap.size]? =
    some
      (Obj.cells
        #[Value.bool s.on, Value.int IntKind.i64 s.high, Value.int IntKind.i64 s.since, Value.int IntKind.u16 s.off.seq,
          Value.int IntKind.u32 s.off.time, Value.int IntKind.u16 s.off.pic, Value.int IntKind.u8 s.off.tl0,
          Value.int IntKind.u16 s.out.seq, Value.int IntKind.u32 s.out.time, Value.int IntKind.u16 s.out.pic,
          Value.int IntKind.u8 s.out.tl0]
        27))
    (h1 : u3.heap[w.heap.size + 1]? =
    some
      (Obj.cells
        #[Value.int IntKind.i64 kd, Value.int IntKind.u16 x.seq, Value.int IntKind.u32 x.time,
          Value.int IntKind.u16 x.pic, Value.int IntKind.u8 x.tl0, Value.int IntKind.u32 tm, Value.bool bg]
        29))
    (h2 : u3.heap[g6]? =
    some
      (Obj.cells
        #[Value.bool r.on, Value.int IntKind.i64 r.high, Value.int IntKind.i64 r.since, Value.int IntKind.u16 r.off.seq,
          Value.int IntKind.u32 r.off.time, Value.int IntKind.u16 r.off.pic, Value.int IntKind.u8 r.off.tl0,
          Value.int IntKind.u16 r.out.seq, Value.int IntKind.u32 r.out.time, Value.int IntKind.u16 r.out.pic,
          Value.int IntKind.u8 r.out.tl0]
        27))
    (h3 : u3.heap[g7]? =
    some
      (Obj.cells
        #[Value.int IntKind.u16 o.seq, Value.int IntKind.u32 o.time, Value.int IntKind.u16 o.pic,
          Value.int IntKind.u8 o.tl0]
        25))
    (h4 : u3.heap[g8]? =
    some
      (Obj.cells
        #[Value.bool r.on, Value.int IntKind.i64 r.high, Value.int IntKind.i64 r.since, Value.int IntKind.i64 r.off.seq,
          Value.int IntKind.i64 r.off.time, Value.int IntKind.i64 r.off.pic, Value.int IntKind.i64 r.off.tl0,
          Value.int IntKind.i64 r.out.seq, Value.int IntKind.i64 r.out.time, Value.int IntKind.i64 r.out.pic,
          Value.int IntKind.i64 r.out.tl0]
        36))
    (h5 : u3.heap[g9]? =
    some
      (Obj.cells
        #[Value.int IntKind.i64 o.seq, Value.int IntKind.i64 o.time, Value.int IntKind.i64 o.pic,
          Value.int IntKind.i64 o.tl0]
        34))
    (hB : Below w.heap.size w u3)
    (yb : w.heap.size ≤ u3.heap.size)
    (yu : u2.heap.size ≤ u3.heap.size)
    (c0 : ∀ (j : Nat),
    u3.cell? { block := w.heap.size, off := j } =
      #[Value.bool s.on, Value.int IntKind.i64 s.high, Value.int IntKind.i64 s.since, Value.int IntKind.u16 s.off.seq,
          Value.int IntKind.u32 s.off.time, Value.int IntKind.u16 s.off.pic, Value.int IntKind.u8 s.off.tl0,
          Value.int IntKind.u16 s.out.seq, Value.int IntKind.u32 s.out.time, Value.int IntKind.u16 s.out.pic,
          Value.int IntKind.u8 s.out.tl0][j]?)
    (f0 : ∀ (j : Nat), u3.frozen? { block := w.heap.size, off := j } = false)
    (z0 : w.heap.size < u3.heap.size)
    (c1 : ∀ (j : Nat),
    u3.cell? { block := w.heap.size + 1, off := j } =
      #[Value.int IntKind.i64 kd, Value.int IntKind.u16 x.seq, Value.int IntKind.u32 x.time,
          Value.int IntKind.u16 x.pic, Value.int IntKind.u8 x.tl0, Value.int IntKind.u32 tm, Value.bool bg][j]?)
    (f1 : ∀ (j : Nat), u3.frozen? { block := w.heap.size + 1, off := j } = false)
    (z1 : w.heap.size + 1 < u3.heap.size)
    (c2 : ∀ (j : Nat),
    u3.cell? { block := g6, off := j } =
      #[Value.bool r.on, Value.int IntKind.i64 r.high, Value.int IntKind.i64 r.since, Value.int IntKind.u16 r.off.seq,
          Value.int IntKind.u32 r.off.time, Value.int IntKind.u16 r.off.pic, Value.int IntKind.u8 r.off.tl0,
          Value.int IntKind.u16 r.out.seq, Value.int IntKind.u32 r.out.time, Value.int IntKind.u16 r.out.pic,
          Value.int IntKind.u8 r.out.tl0][j]?)
    (f2 : ∀ (j : Nat), u3.frozen? { block := g6, off := j } = false)
    (z2 : g6 < u3.heap.size)
    (c3 : ∀ (j : Nat),
    u3.cell? { block := g7, off := j } =
      #[Value.int IntKind.u16 o.seq, Value.int IntKind.u32 o.time, Value.int IntKind.u16 o.pic,
          Value.int IntKind.u8 o.tl0][j]?)
    (f3 : ∀ (j : Nat), u3.frozen? { block := g7, off := j } = false)
    (z3 : g7 < u3.heap.size)
    (c4 : ∀ (j : Nat),
    u3.cell? { block := g8, off := j } =
      #[Value.bool r.on, Value.int IntKind.i64 r.high, Value.int IntKind.i64 r.since, Value.int IntKind.i64 r.off.seq,
          Value.int IntKind.i64 r.off.time, Value.int IntKind.i64 r.off.pic, Value.int IntKind.i64 r.off.tl0,
          Value.int IntKind.i64 r.out.seq, Value.int IntKind.i64 r.out.time, Value.int IntKind.i64 r.out.pic,
          Value.int IntKind.i64 r.out.tl0][j]?)
    (f4 : ∀ (j : Nat), u3.frozen? { block := g8, off := j } = false)
    (z4 : g8 < u3.heap.size)
    (c5 : ∀ (j : Nat),
    u3.cell? { block := g9, off := j } =
      #[Value.int IntKind.i64 o.seq, Value.int IntKind.i64 o.time, Value.int IntKind.i64 o.pic,
          Value.int IntKind.i64 o.tl0][j]?)
    (f5 : ∀ (j : Nat), u3.frozen? { block := g9, off := j } = false)
    (z5 : g9 < u3.heap.size)
    (c6 : ∀ (j : Nat),
    u3.cell? { block := g10, off := j } =
      #[Value.bool r2.on, Value.int IntKind.i64 r2.high, Value.int IntKind.i64 r2.since,
          Value.int IntKind.u16 r2.off.seq, Value.int IntKind.u32 r2.off.time, Value.int IntKind.u16 r2.off.pic,
          Value.int IntKind.u8 r2.off.tl0, Value.int IntKind.u16 r2.out.seq, Value.int IntKind.u32 r2.out.time,
          Value.int IntKind.u16 r2.out.pic, Value.int IntKind.u8 r2.out.tl0][j]?)
    (f6 : ∀ (j : Nat), u3.frozen? { block := g10, off := j } = false)
    (z6 : g10 < u3.heap.size)
    (c7 : ∀ (j : Nat),
    u3.cell? { block := g11, off := j } =
      #[Value.int IntKind.u16 m.seq, Value.int IntKind.u32 m.time, Value.int IntKind.u16 m.pic,
          Value.int IntKind.u8 m.tl0][j]?)
    (f7 : ∀ (j : Nat), u3.frozen? { block := g11, off := j } = false)
    (z7 : g11 < u3.heap.size)
    (qJ_ qK__ : Act → World → Prop)
    (qa_1 : ∀ (a' : Act) (w' : World),
    (∃ u13 u14 u15 u22 u23 u24 u25 u26 u27 u28 u29 u30 u31 u32 u33 u34 u35 u36 u37 u38 u39 u40 u41 u42 u43 u44 u45 u46
        u47 u48 u49 u50 u51 u52 u53 u54 u55 u56 u57 u58 u59 u60 u61 u62 u63 u64 u65 u66 u67 u68 u69 u70 u71 u72 u73 u74
        u75 u76 u77 u78 u79 u80 u81 u82 u83 u84 u85 u86 u87 u88 u89 u90 u91 u92 u93 u94 u95 u96 u97 u98 u99 u100 u101
        u102 u103 u104 u105 u106 u107 u108 u109 u110 u111 u112 u113 u114,
        (∃ g13 g14,
            u13 = Value.pointer (some { block := g13, off := 0 }) ∧
              u14 = Value.pointer (some { block := g14, off := 0 }) ∧
                u15 = Value.bool is ∧
                  w'.heap[g13]? =
                      some
                        (Obj.cells
                          #[Value.bool r2.on, Value.int IntKind.i64 r2.high, Value.int IntKind.i64 r2.since,
                            Value.int IntKind.i64 r2.off.seq, Value.int IntKind.i64 r2.off.time,
                            Value.int IntKind.i64 r2.off.pic, Value.int IntKind.i64 r2.off.tl0,
                            Value.int IntKind.i64 r2.out.seq, Value.int IntKind.i64 r2.out.time,
                            Value.int IntKind.i64 r2.out.pic, Value.int IntKind.i64 r2.out.tl0]
                          36) ∧
                    w'.heap[g14]? =
                        some
                          (Obj.cells
                            #[Value.int IntKind.i64 m.seq, Value.int IntKind.i64 m.time, Value.int IntKind.i64 m.pic,
                              Value.int IntKind.i64 m.tl0]
                            34) ∧
                      Below u3.heap.size u3 w') ∧
          a' =
            {
              tmps :=
                #[Value.agg
                    #[Value.bool s.on, Value.int IntKind.i64 s.high, Value.int IntKind.i64 s.since,
                      Value.int IntKind.u16 s.off.seq, Value.int IntKind.u32 s.off.time,
                      Value.int IntKind.u16 s.off.pic, Value.int IntKind.u8 s.off.tl0, Value.int IntKind.u16 s.out.seq,
                      Value.int IntKind.u32 s.out.time, Value.int IntKind.u16 s.out.pic,
                      Value.int IntKind.u8 s.out.tl0],
                  Value.agg
                    #[Value.int IntKind.i64 kd, Value.int IntKind.u16 x.seq, Value.int IntKind.u32 x.time,
                      Value.int IntKind.u16 x.pic, Value.int IntKind.u8 x.tl0, Value.int IntKind.u32 tm, Value.bool bg],
                  Value.pointer (some { block := w.heap.size, off := 0 }),
                  Value.pointer (some { block := w.heap.size + 1, off := 0 }), Value.bool false, Value.bool true,
                  Value.pointer (some { block := g6, off := 0 }), Value.pointer (some { block := g7, off := 0 }),
                  Value.pointer (some { block := g8, off := 0 }), Value.pointer (some { block := g9, off := 0 }),
                  Value.pointer (some { block := g10, off := 0 }), Value.pointer (some { block := g11, off := 0 }),
                  Value.bool is, u13, u14, u15, undef, undef, Value.bool true, Value.bool true, Value.bool false,
                  Value.pointer (some { block := w.heap.size, off := 1 }), u22, u23, u24, u25, u26, u27, u28, u29, u30,
                  u31, u32, u33, u34, u35, u36, u37, u38, u39, u40, u41, u42, u43, u44, u45, u46, u47, u48, u49, u50,
                  u51, u52, u53, u54, u55, u56, u57, u58, u59, u60, u61, u62, u63, u64, u65, u66, u67, u68, u69, u70,
                  u71, u72, u73, u74, u75, u76, u77, u78, u79, u80, u81, u82, u83, u84, u85, u86, u87, u88, u89, u90,
                  u91, u92, u93, u94, u95, u96, u97, u98, u99, u100, u101, u102, u103, u104, u105, u106, u107, u108,
                  u109, u110, u111, u112, u113, u114],
              defers := [] }) →
      qJ_ a' w')
    (qa_ : ∀ (a' : Act) (w' : World), Met qJ_ a' w' → qK__ a' w')
    : Code.wp Try.prog
    (regF 9)
    (Exit.then qK__ qQ__)
    {
      tmps :=
        #[Value.agg
            #[Value.bool s.on, Value.int IntKind.i64 s.high, Value.int IntKind.i64 s.since,
              Value.int IntKind.u16 s.off.seq, Value.int IntKind.u32 s.off.time, Value.int IntKind.u16 s.off.pic,
              Value.int IntKind.u8 s.off.tl0, Value.int IntKind.u16 s.out.seq, Value.int IntKind.u32 s.out.time,
              Value.int IntKind.u16 s.out.pic, Value.int IntKind.u8 s.out.tl0],
          Value.agg
            #[Value.int IntKind.i64 kd, Value.int IntKind.u16 x.seq, Value.int IntKind.u32 x.time,
              Value.int IntKind.u16 x.pic, Value.int IntKind.u8 x.tl0, Value.int IntKind.u32 tm, Value.bool bg],
          Value.pointer (some { block := w.heap.size, off := 0 }),
          Value.pointer (some { block := w.heap.size + 1, off := 0 }), Value.bool false, Value.bool true,
          Value.pointer (some { block := g6, off := 0 }), Value.pointer (some { block := g7, off := 0 }),
          Value.pointer (some { block := g8, off := 0 }), Value.pointer (some { block := g9, off := 0 }),
          Value.pointer (some { block := g10, off := 0 }), Value.pointer (some { block := g11, off := 0 }),
          Value.bool is, undef, undef, undef, undef, undef, Value.bool true, Value.bool true, Value.bool false,
          Value.pointer (some { block := w.heap.size, off := 1 }), u22, u23, u24, u25, u26, u27, u28, u29, u30, u31,
          u32, u33, u34, u35, u36, u37, u38, u39, u40, u41, u42, u43, u44, u45, u46, u47, u48, u49, u50, u51, u52, u53,
          u54, u55, u56, u57, u58, u59, u60, u61, u62, u63, u64, u65, u66, u67, u68, u69, u70, u71, u72, u73, u74, u75,
          u76, u77, u78, u79, u80, u81, u82, u83, u84, u85, u86, u87, u88, u89, u90, u91, u92, u93, u94, u95, u96, u97,
          u98, u99, u100, u101, u102, u103, u104, u105, u106, u107, u108, u109, u110, u111, u112, u113, u114],
      defers := [] }
    u3 := by
  conv => arg 2; whnf
  go_region_held3 (fun w' => (∀ j, w'.cell? ⟨w.heap.size, j, none⟩ = #[.bool s.on, .int .i64 s.high, .int .i64 s.since, .int .u16 s.off.seq, .int .u32 s.off.time, .int .u16 s.off.pic, .int .u8 s.off.tl0, .int .u16 s.out.seq, .int .u32 s.out.time, .int .u16 s.out.pic, .int .u8 s.out.tl0][j]?) ∧ (∀ j, w'.cell? ⟨w.heap.size + 1, j, none⟩ = #[.int .i64 kd, .int .u16 x.seq, .int .u32 x.time, .int .u16 x.pic, .int .u8 x.tl0, .int .u32 tm, .bool bg][j]?) ∧ Below u3.heap.size u3 w') (((as_aux_lemma => ((refine keep2 z0 c0 z1 c1 ?_; (first | (with_reducible exact Below.refl _ _) | (go_split_ands; first | (with_reducible assumption) | go_grown))))))) (first | (go_at_call 13; go_split_ands; (with_reducible refine (of_eq s _ HA.out HB.out).mono ?_); rintro e w2 ⟨rfl, hb⟩; have hB := below_next (w := u3) (by first | (with_reducible exact Below.refl _ _) | (with_reducible assumption) | go_grown) hb; have zS := hB.size; (try first | ((have hn := heap_below hb (by first | omega | (simp; done) | (simp; omega)) hP); clear hP fP cP; have hP := hn; clear hn; (try simp only [size_alloc] at hP); obtain ⟨cP, fP, zP⟩ := blk_facts hP) | ((have hn := heap_below hb (by first | omega | (simp; done) | (simp; omega)) (heap_alloc_old' hP)); clear hP fP cP; have hP := hn; clear hn; (try simp only [size_alloc] at hP); obtain ⟨cP, fP, zP⟩ := blk_facts hP) | ((have hn := heap_below hb (by first | omega | (simp; done) | (simp; omega)) (heap_alloc_old' (heap_alloc_old' hP))); clear hP fP cP; have hP := hn; clear hn; (try simp only [size_alloc] at hP); obtain ⟨cP, fP, zP⟩ := blk_facts hP) | ((have hP : w2.heap[(_ : Nat)]? = some (Obj.cells _ 36 (0, 0)) := (hb.block _ (lt_alloc _ _)).trans (heap_alloc_new _ _ _ rfl)); (try simp only [size_alloc] at hP); obtain ⟨cP, fP, zP⟩ := blk_facts hP) | ((have hP : w2.heap[(_ : Nat)]? = some (Obj.cells _ 36 (0, 0)) := (hb.block _ (Nat.lt_trans (lt_alloc _ _) (lt_alloc _ _))).trans (heap_alloc_old' (heap_alloc_new _ _ _ rfl))); (try simp only [size_alloc] at hP); obtain ⟨cP, fP, zP⟩ := blk_facts hP)); (try first | ((have hn := heap_below hb (by first | omega | (simp; done) | (simp; omega)) hQ); clear hQ fQ cQ; have hQ := hn; clear hn; (try simp only [size_alloc] at hQ); obtain ⟨cQ, fQ, zQ⟩ := blk_facts hQ) | ((have hn := heap_below hb (by first | omega | (simp; done) | (simp; omega)) (heap_alloc_old' hQ)); clear hQ fQ cQ; have hQ := hn; clear hn; (try simp only [size_alloc] at hQ); obtain ⟨cQ, fQ, zQ⟩ := blk_facts hQ) | ((have hn := heap_below hb (by first | omega | (simp; done) | (simp; omega)) (heap_alloc_old' (heap_alloc_old' hQ))); clear hQ fQ cQ; have hQ := hn; clear hn; (try simp only [size_alloc] at hQ); obtain ⟨cQ, fQ, zQ⟩ := blk_facts hQ) | ((have hQ : w2.heap[(_ : Nat)]? = some (Obj.cells _ 34 (0, 0)) := (hb.block _ (lt_alloc _ _)).trans (heap_alloc_new _ _ _ rfl)); (try simp only [size_alloc] at hQ); obtain ⟨cQ, fQ, zQ⟩ := blk_facts hQ) | ((have hQ : w2.heap[(_ : Nat)]? = some (Obj.cells _ 34 (0, 0)) := (hb.block _ (Nat.lt_trans (lt_alloc _ _) (lt_alloc _ _))).trans (heap_alloc_old' (heap_alloc_new _ _ _ rfl))); (try simp only [size_alloc] at hQ); obtain ⟨cQ, fQ, zQ⟩ := blk_facts hQ)); clear hb) | (go_at_call 14; go_split_ands; (with_reducible refine (nums_eq x _ HX.out).mono ?_); rintro e w2 ⟨rfl, hb⟩; have hB := below_next (w := u3) (by first | (with_reducible exact Below.refl _ _) | (with_reducible assumption) | go_grown) hb; have zS := hB.size; (try first | ((have hn := heap_below hb (by first | omega | (simp; done) | (simp; omega)) hP); clear hP fP cP; have hP := hn; clear hn; (try simp only [size_alloc] at hP); obtain ⟨cP, fP, zP⟩ := blk_facts hP) | ((have hn := heap_below hb (by first | omega | (simp; done) | (simp; omega)) (heap_alloc_old' hP)); clear hP fP cP; have hP := hn; clear hn; (try simp only [size_alloc] at hP); obtain ⟨cP, fP, zP⟩ := blk_facts hP) | ((have hn := heap_below hb (by first | omega | (simp; done) | (simp; omega)) (heap_alloc_old' (heap_alloc_old' hP))); clear hP fP cP; have hP := hn; clear hn; (try simp only [size_alloc] at hP); obtain ⟨cP, fP, zP⟩ := blk_facts hP) | ((have hP : w2.heap[(_ : Nat)]? = some (Obj.cells _ 36 (0, 0)) := (hb.block _ (lt_alloc _ _)).trans (heap_alloc_new _ _ _ rfl)); (try simp only [size_alloc] at hP); obtain ⟨cP, fP, zP⟩ := blk_facts hP) | ((have hP : w2.heap[(_ : Nat)]? = some (Obj.cells _ 36 (0, 0)) := (hb.block _ (Nat.lt_trans (lt_alloc _ _) (lt_alloc _ _))).trans (heap_alloc_old' (heap_alloc_new _ _ _ rfl))); (try simp only [size_alloc] at hP); obtain ⟨cP, fP, zP⟩ := blk_facts hP)); (try first | ((have hn := heap_below hb (by first | omega | (simp; done) | (simp; omega)) hQ); clear hQ fQ cQ; have hQ := hn; clear hn; (try simp only [size_alloc] at hQ); obtain ⟨cQ, fQ, zQ⟩ := blk_facts hQ) | ((have hn := heap_below hb (by first | omega | (simp; done) | (simp; omega)) (heap_alloc_old' hQ)); clear hQ fQ cQ; have hQ := hn; clear hn; (try simp only [size_alloc] at hQ); obtain ⟨cQ, fQ, zQ⟩ := blk_facts hQ) | ((have hn := heap_below hb (by first | omega | (simp; done) | (simp; omega)) (heap_alloc_old' (heap_alloc_old' hQ))); clear hQ fQ cQ; have hQ := hn; clear hn; (try simp only [size_alloc] at hQ); obtain ⟨cQ, fQ, zQ⟩ := blk_facts hQ) | ((have hQ : w2.heap[(_ : Nat)]? = some (Obj.cells _ 34 (0, 0)) := (hb.block _ (lt_alloc _ _)).trans (heap_alloc_new _ _ _ rfl)); (try simp only [size_alloc] at hQ); obtain ⟨cQ, fQ, zQ⟩ := blk_facts hQ) | ((have hQ : w2.heap[(_ : Nat)]? = some (Obj.cells _ 34 (0, 0)) := (hb.block _ (Nat.lt_trans (lt_alloc _ _) (lt_alloc _ _))).trans (heap_alloc_old' (heap_alloc_new _ _ _ rfl))); (try simp only [size_alloc] at hQ); obtain ⟨cQ, fQ, zQ⟩ := blk_facts hQ)); clear hb) | (go_at_call 16; go_split_ands; (with_reducible refine (refSend_st s r2 x m is _ HR2.out (by omega) (by omega) HX.out HA.out HB.out).mono ?_); rintro e w2 ⟨rfl, hb⟩; have hB := below_next (w := u3) (by first | (with_reducible exact Below.refl _ _) | (with_reducible assumption) | go_grown) hb; have zS := hB.size; (try first | ((have hn := heap_below hb (by first | omega | (simp; done) | (simp; omega)) hP); clear hP fP cP; have hP := hn; clear hn; (try simp only [size_alloc] at hP); obtain ⟨cP, fP, zP⟩ := blk_facts hP) | ((have hn := heap_below hb (by first | omega | (simp; done) | (simp; omega)) (heap_alloc_old' hP)); clear hP fP cP; have hP := hn; clear hn; (try simp only [size_alloc] at hP); obtain ⟨cP, fP, zP⟩ := blk_facts hP) | ((have hn := heap_below hb (by first | omega | (simp; done) | (simp; omega)) (heap_alloc_old' (heap_alloc_old' hP))); clear hP fP cP; have hP := hn; clear hn; (try simp only [size_alloc] at hP); obtain ⟨cP, fP, zP⟩ := blk_facts hP) | ((have hP : w2.heap[(_ : Nat)]? = some (Obj.cells _ 36 (0, 0)) := (hb.block _ (lt_alloc _ _)).trans (heap_alloc_new _ _ _ rfl)); (try simp only [size_alloc] at hP); obtain ⟨cP, fP, zP⟩ := blk_facts hP) | ((have hP : w2.heap[(_ : Nat)]? = some (Obj.cells _ 36 (0, 0)) := (hb.block _ (Nat.lt_trans (lt_alloc _ _) (lt_alloc _ _))).trans (heap_alloc_old' (heap_alloc_new _ _ _ rfl))); (try simp only [size_alloc] at hP); obtain ⟨cP, fP, zP⟩ := blk_facts hP)); (try first | ((have hn := heap_below hb (by first | omega | (simp; done) | (simp; omega)) hQ); clear hQ fQ cQ; have hQ := hn; clear hn; (try simp only [size_alloc] at hQ); obtain ⟨cQ, fQ, zQ⟩ := blk_facts hQ) | ((have hn := heap_below hb (by first | omega | (simp; done) | (simp; omega)) (heap_alloc_old' hQ)); clear hQ fQ cQ; have hQ := hn; clear hn; (try simp only [size_alloc] at hQ); obtain ⟨cQ, fQ, zQ⟩ := blk_facts hQ) | ((have hn := heap_below hb (by first | omega | (simp; done) | (simp; omega)) (heap_alloc_old' (heap_alloc_old' hQ))); clear hQ fQ cQ; have hQ := hn; clear hn; (try simp only [size_alloc] at hQ); obtain ⟨cQ, fQ, zQ⟩ := blk_facts hQ) | ((have hQ : w2.heap[(_ : Nat)]? = some (Obj.cells _ 34 (0, 0)) := (hb.block _ (lt_alloc _ _)).trans (heap_alloc_new _ _ _ rfl)); (try simp only [size_alloc] at hQ); obtain ⟨cQ, fQ, zQ⟩ := blk_facts hQ) | ((have hQ : w2.heap[(_ : Nat)]? = some (Obj.cells _ 34 (0, 0)) := (hb.block _ (Nat.lt_trans (lt_alloc _ _) (lt_alloc _ _))).trans (heap_alloc_old' (heap_alloc_new _ _ _ rfl))); (try simp only [size_alloc] at hQ); obtain ⟨cQ, fQ, zQ⟩ := blk_facts hQ)); clear hb))
  all_goals (go_wp2_with fail; go_meet; go_split_ands; as_aux_lemma => exact ⟨_, _, rfl, rfl, rfl, (Eq.trans (b := some (Obj.cells _ _ (0, 0))) (by repeat (first | (with_reducible assumption) | (with_reducible apply heap_set_row11) | (with_reducible apply heap_set_row4) | (with_reducible apply heap_set_same) | ((with_reducible apply heap_set_other'); (focus (first | omega | (simp; done) | (simp; omega)))) | ((with_reducible apply heap_alloc_new); (focus (first | omega | (simp; done) | (simp; omega)))) | (with_reducible apply heap_alloc_old') | (with_reducible apply (heap_drew_at _ _).trans) | (with_reducible apply (heap_drewN_at _ _ _).trans) | (simp only [List.size_toArray, List.length_cons, List.length_nil]; done))) (by exact rfl)), (Eq.trans (b := some (Obj.cells _ _ (0, 0))) (by repeat (first | (with_reducible assumption) | (with_reducible apply heap_set_row11) | (with_reducible apply heap_set_row4) | (with_reducible apply heap_set_same) | ((with_reducible apply heap_set_other'); (focus (first | omega | (simp; done) | (simp; omega)))) | ((with_reducible apply heap_alloc_new); (focus (first | omega | (simp; done) | (simp; omega)))) | (with_reducible apply heap_alloc_old') | (with_reducible apply (heap_drew_at _ _).trans) | (with_reducible apply (heap_drewN_at _ _ _).trans) | (simp only [List.size_toArray, List.length_cons, List.length_nil]; done))) (by exact rfl)), by first | (with_reducible exact Below.refl _ _) | go_grown⟩)
set_option maxRecDepth 1000000 in
set_option maxHeartbeats 40000000 in
theorem tells_first11
    (s : St)
    (x : Nu)
    (tm kd : Int)
    (bg : Bool)
    (w : World)
    (m0 : 0 ≤ tm)
    (m1 : tm ≤ 4294967295)
    (x0 : 0 ≤ x.seq)
    (x1 : x.seq ≤ 65535)
    (qt0_ : 0 ≤ x.time)
    (qt1_ : x.time ≤ 4294967295)
    (qp0_ : 0 ≤ x.pic)
    (qp1_ : x.pic ≤ 65535)
    (ql0_ : 0 ≤ x.tl0)
    (ql1_ : x.tl0 ≤ 255)
    (o : Nu)
    (r r2 : St)
    (m : Nu)
    (is : Bool)
    (r3 : St)
    (H2 : Hid (r2.Ok (1099511627776 + 65536)))
    (H2M : Hid m.Ok)
    (H3 : Hid (r3.Ok (1099511627776 + 65536)))
    (HO : Hid (toldF s x tm = o))
    (HRr : Hid (switchF s x tm = r))
    (HR2 : Hid (sendF s x = (r2, m, is)))
    (HR3 : Hid (dropF s x bg = r3))
    (HRO : Hid r.off.Ok)
    (HRT : Hid r.out.Ok)
    (HOO : Hid o.Ok)
    (hti : IntKind.i64.wrap tm = tm)
    (qo0 : 0 ≤ s.off.seq)
    (qo1 : s.off.seq ≤ 65535)
    (qp0 : 0 ≤ s.off.pic)
    (qp1 : s.off.pic ≤ 65535)
    (HA : Hid s.off.Ok)
    (HB : Hid s.out.Ok)
    (HX : Hid x.Ok)
    (qQ__ : Exit → Act → World → Prop)
    (hh : s.high ≤ 1099511627776)
    (hl : -1099511627776 ≤ s.high)
    (w1a : World)
    (qhB_4 : Below w.heap.size w w1a)
    (y1 : w.heap.size ≤ w1a.heap.size)
    (zz : w.heap.size + 1 < w1a.heap.size)
    (qh_ : s.high ≤ 1099511627776 ∧ -1099511627776 ≤ s.high)
    (qu22_3 qu23_3 qu24_3 qu25_3 qu26_3 qu27_3 qu28_3 qu29_3 qu30_3 qu31_3 qu32_3 qu33_3 qu34_3 qu35_3 qu36_3 qu37_3 qu38_3 qu39_3 qu40_3 qu41_3 qu42_3 qu43_3 qu44_3 qu45_3 qu46_3 qu47_3 qu48_3 qu49_3 qu50_3 qu51_3 qu52_3 qu53_3 qu54_3 qu55_3 qu56_3 qu57_3 qu58_3 qu59_3 qu60_3 qu61_3 qu62_3 qu63_3 qu64_3 qu65_3 qu66_3 qu67_3 qu68_3 qu69_3 qu70_3 qu71_3 qu72_3 qu73_3 qu74_3 qu75_3 qu76_3 qu77_3 qu78_3 qu79_3 qu80_3 qu81_3 qu82_3 qu83_3 qu84_3 qu85_3 qu86_3 qu87_3 qu88_3 qu89_3 qu90_3 qu91_3 qu92_3 qu93_3 qu94_3 qu95_3 qu96_3 qu97_3 qu98_3 qu99_3 qu100_3 qu101_3 qu102_3 qu103_3 qu104_3 qu105_3 qu106_3 qu107_3 qu108_3 qu109_3 qu110_3 qu111_3 qu112_3 qu113_3 qu114_3 : Value)
    (g6 g7 : Nat)
    (u1 : World)
    (qhB_3 : Below w.heap.size w u1)
    (qyb_3 : w.heap.size ≤ u1.heap.size)
    (qyu_3 : w1a.heap.size ≤ u1.heap.size)
    (qu22_2 qu23_2 qu24_2 qu25_2 qu26_2 qu27_2 qu28_2 qu29_2 qu30_2 qu31_2 qu32_2 qu33_2 qu34_2 qu35_2 qu36_2 qu37_2 qu38_2 qu39_2 qu40_2 qu41_2 qu42_2 qu43_2 qu44_2 qu45_2 qu46_2 qu47_2 qu48_2 qu49_2 qu50_2 qu51_2 qu52_2 qu53_2 qu54_2 qu55_2 qu56_2 qu57_2 qu58_2 qu59_2 qu60_2 qu61_2 qu62_2 qu63_2 qu64_2 qu65_2 qu66_2 qu67_2 qu68_2 qu69_2 qu70_2 qu71_2 qu72_2 qu73_2 qu74_2 qu75_2 qu76_2 qu77_2 qu78_2 qu79_2 qu80_2 qu81_2 qu82_2 qu83_2 qu84_2 qu85_2 qu86_2 qu87_2 qu88_2 qu89_2 qu90_2 qu91_2 qu92_2 qu93_2 qu94_2 qu95_2 qu96_2 qu97_2 qu98_2 qu99_2 qu100_2 qu101_2 qu102_2 qu103_2 qu104_2 qu105_2 qu106_2 qu107_2 qu108_2 qu109_2 qu110_2 qu111_2 qu112_2 qu113_2 qu114_2 : Value)
    (g8 g9 : Nat)
    (u2 : World)
    (qhB_2 : Below w.heap.size w u2)
    (qyb_2 : w.heap.size ≤ u2.heap.size)
    (qyu_2 : u1.heap.size ≤ u2.heap.size)
    (qu22_1 qu23_1 qu24_1 qu25_1 qu26_1 qu27_1 qu28_1 qu29_1 qu30_1 qu31_1 qu32_1 qu33_1 qu34_1 qu35_1 qu36_1 qu37_1 qu38_1 qu39_1 qu40_1 qu41_1 qu42_1 qu43_1 qu44_1 qu45_1 qu46_1 qu47_1 qu48_1 qu49_1 qu50_1 qu51_1 qu52_1 qu53_1 qu54_1 qu55_1 qu56_1 qu57_1 qu58_1 qu59_1 qu60_1 qu61_1 qu62_1 qu63_1 qu64_1 qu65_1 qu66_1 qu67_1 qu68_1 qu69_1 qu70_1 qu71_1 qu72_1 qu73_1 qu74_1 qu75_1 qu76_1 qu77_1 qu78_1 qu79_1 qu80_1 qu81_1 qu82_1 qu83_1 qu84_1 qu85_1 qu86_1 qu87_1 qu88_1 qu89_1 qu90_1 qu91_1 qu92_1 qu93_1 qu94_1 qu95_1 qu96_1 qu97_1 qu98_1 qu99_1 qu100_1 qu101_1 qu102_1 qu103_1 qu104_1 qu105_1 qu106_1 qu107_1 qu108_1 qu109_1 qu110_1 qu111_1 qu112_1 qu113_1 qu114_1 : Value)
    (g10 g11 : Nat)
    (u3 : World)
    (qhB_1 : Below w.heap.size w u3)
    (qyb_1 : w.heap.size ≤ u3.heap.size)
    (qyu_1 : u2.heap.size ≤ u3.heap.size)
    (qu22_ qu23_ qu24_ qu25_ qu26_ qu27_ qu28_ qu29_ qu30_ qu31_ qu32_ qu33_ qu34_ qu35_ qu36_ qu37_ qu38_ qu39_ qu40_ qu41_ qu42_ qu43_ qu44_ qu45_ qu46_ qu47_ qu48_ qu49_ qu50_ qu51_ qu52_ qu53_ qu54_ qu55_ qu56_ qu57_ qu58_ qu59_ qu60_ qu61_ qu62_ qu63_ qu64_ qu65_ qu66_ qu67_ qu68_ qu69_ qu70_ qu71_ qu72_ qu73_ qu74_ qu75_ qu76_ qu77_ qu78_ qu79_ qu80_ qu81_ qu82_ qu83_ qu84_ qu85_ qu86_ qu87_ qu88_ qu89_ qu90_ qu91_ qu92_ qu93_ qu94_ qu95_ qu96_ qu97_ qu98_ qu99_ qu100_ qu101_ qu102_ qu103_ qu104_ qu105_ qu106_ qu107_ qu108_ qu109_ qu110_ qu111_ qu112_ qu113_ qu114_ : Value)
    (g13 g14 : Nat)
    (u4 : World)
    (qhB_ : Below w.heap.size w u4)
    (qyb_ : w.heap.size ≤ u4.heap.size)
    (qyu_ : u3.heap.size ≤ u4.heap.size)
    (u22 u23 u24 u25 u26 u27 u28 u29 u30 u31 u32 u33 u34 u35 u36 u37 u38 u39 u40 u41 u42 u43 u44 u45 u46 u47 u48 u49 u50 u51 u52 u53 u54 u55 u56 u57 u58 u59 u60 u61 u62 u63 u64 u65 u66 u67 u68 u69 u70 u71 u72 u73 u74 u75 u76 u77 u78 u79 u80 u81 u82 u83 u84 u85 u86 u87 u88 u89 u90 u91 u92 u93 u94 u95 u96 u97 u98 u99 u100 u101 u102 u103 u104 u105 u106 u107 u108 u109 u110 u111 u112 u113 u114 : Value)
    (g16 : Nat)
    (u5 : World)
    (ha : u5.heap[g16]? =
    some
      (Obj.cells
        #[Value.bool r3.on, Value.int IntKind.i64 r3.high, Value.int IntKind.i64 r3.since,
          Value.int IntKind.u16 r3.off.seq, Value.int IntKind.u32 r3.off.time, Value.int IntKind.u16 r3.off.pic,
          Value.int IntKind.u8 r3.off.tl0, Value.int IntKind.u16 r3.out.seq, Value.int IntKind.u32 r3.out.time,
          Value.int IntKind.u16 r3.out.pic, Value.int IntKind.u8 r3.out.tl0]
        27))
    (h0 : u5.heap[w.heap.size]? =
    some
      (Obj.cells
        #[Value.bool s.on, Value.int IntKind.i64 s.high, Value.int IntKind.i64 s.since, Value.int IntKind.u16 s.off.seq,
          Value.int IntKind.u32 s.off.time, Value.int IntKind.u16 s.off.pic, Value.int IntKind.u8 s.off.tl0,
          Value.int IntKind.u16 s.out.seq, Value.int IntKind.u32 s.out.time, Value.int IntKind.u16 s.out.pic,
          Value.int IntKind.u8 s.out.tl0]
        27))
    (h1 : u5.heap[w.heap.size + 1]? =
    some
      (Obj.cells
        #[Value.int IntKind.i64 kd, Value.int IntKind.u16 x.seq, Value.int IntKind.u32 x.time,
          Value.int IntKind.u16 x.pic, Value.int IntKind.u8 x.tl0, Value.int IntKind.u32 tm, Value.bool bg]
        29))
    (h2 : u5.heap[g6]? =
    some
      (Obj.cells
        #[Value.bool r.on, Value.int IntKind.i64 r.high, Value.int IntKind.i64 r.since, Value.int IntKind.u16 r.off.seq,
          Value.int IntKind.u32 r.off.time, Value.int IntKind.u16 r.off.pic, Value.int IntKind.u8 r.off.tl0,
          Value.int IntKind.u16 r.out.seq, Value.int IntKind.u32 r.out.time, Value.int IntKind.u16 r.out.pic,
          Value.int IntKind.u8 r.out.tl0]
        27))
    (h3 : u5.heap[g7]? =
    some
      (Obj.cells
        #[Value.int IntKind.u16 o.seq, Value.int IntKind.u32 o.time, Value.int IntKind.u16 o.pic,
          Value.int IntKind.u8 o.tl0]
        25))
    (h4 : u5.heap[g8]? =
    some
      (Obj.cells
        #[Value.bool r.on, Value.int IntKind.i64 r.high, Value.int IntKind.i64 r.since, Value.int IntKind.i64 r.off.seq,
          Value.int IntKind.i64 r.off.time, Value.int IntKind.i64 r.off.pic, Value.int IntKind.i64 r.off.tl0,
          Value.int IntKind.i64 r.out.seq, Value.int IntKind.i64 r.out.time, Value.int IntKind.i64 r.out.pic,
          Value.int IntKind.i64 r.out.tl0]
        36))
    (h5 : u5.heap[g9]? =
    some
      (Obj.cells
        #[Value.int IntKind.i64 o.seq, Value.int IntKind.i64 o.time, Value.int IntKind.i64 o.pic,
          Value.int IntKind.i64 o.tl0]
        34))
    (h6 : u5.heap[g10]? =
    some
      (Obj.cells
        #[Value.bool r2.on, Value.int IntKind.i64 r2.high, Value.int IntKind.i64 r2.since,
          Value.int IntKind.u16 r2.off.seq, Value.int IntKind.u32 r2.off.time, Value.int IntKind.u16 r2.off.pic,
          Value.int IntKind.u8 r2.off.tl0, Value.int IntKind.u16 r2.out.seq, Value.int IntKind.u32 r2.out.time,
          Value.int IntKind.u16 r2.out.pic, Value.int IntKind.u8 r2.out.tl0]
        27))
    (h7 : u5.heap[g11]? =
    some
      (Obj.cells
        #[Value.int IntKind.u16 m.seq, Value.int IntKind.u32 m.time, Value.int IntKind.u16 m.pic,
          Value.int IntKind.u8 m.tl0]
        25))
    (h8 : u5.heap[g13]? =
    some
      (Obj.cells
        #[Value.bool r2.on, Value.int IntKind.i64 r2.high, Value.int IntKind.i64 r2.since,
          Value.int IntKind.i64 r2.off.seq, Value.int IntKind.i64 r2.off.time, Value.int IntKind.i64 r2.off.pic,
          Value.int IntKind.i64 r2.off.tl0, Value.int IntKind.i64 r2.out.seq, Value.int IntKind.i64 r2.out.time,
          Value.int IntKind.i64 r2.out.pic, Value.int IntKind.i64 r2.out.tl0]
        36))
    (h9 : u5.heap[g14]? =
    some
      (Obj.cells
        #[Value.int IntKind.i64 m.seq, Value.int IntKind.i64 m.time, Value.int IntKind.i64 m.pic,
          Value.int IntKind.i64 m.tl0]
        34))
    (hB : Below w.heap.size w u5)
    (yb : w.heap.size ≤ u5.heap.size)
    (yu : u4.heap.size ≤ u5.heap.size)
    (c0 : ∀ (j : Nat),
    u5.cell? { block := w.heap.size, off := j } =
      #[Value.bool s.on, Value.int IntKind.i64 s.high, Value.int IntKind.i64 s.since, Value.int IntKind.u16 s.off.seq,
          Value.int IntKind.u32 s.off.time, Value.int IntKind.u16 s.off.pic, Value.int IntKind.u8 s.off.tl0,
          Value.int IntKind.u16 s.out.seq, Value.int IntKind.u32 s.out.time, Value.int IntKind.u16 s.out.pic,
          Value.int IntKind.u8 s.out.tl0][j]?)
    (f0 : ∀ (j : Nat), u5.frozen? { block := w.heap.size, off := j } = false)
    (z0 : w.heap.size < u5.heap.size)
    (c1 : ∀ (j : Nat),
    u5.cell? { block := w.heap.size + 1, off := j } =
      #[Value.int IntKind.i64 kd, Value.int IntKind.u16 x.seq, Value.int IntKind.u32 x.time,
          Value.int IntKind.u16 x.pic, Value.int IntKind.u8 x.tl0, Value.int IntKind.u32 tm, Value.bool bg][j]?)
    (f1 : ∀ (j : Nat), u5.frozen? { block := w.heap.size + 1, off := j } = false)
    (z1 : w.heap.size + 1 < u5.heap.size)
    (c2 : ∀ (j : Nat),
    u5.cell? { block := g6, off := j } =
      #[Value.bool r.on, Value.int IntKind.i64 r.high, Value.int IntKind.i64 r.since, Value.int IntKind.u16 r.off.seq,
          Value.int IntKind.u32 r.off.time, Value.int IntKind.u16 r.off.pic, Value.int IntKind.u8 r.off.tl0,
          Value.int IntKind.u16 r.out.seq, Value.int IntKind.u32 r.out.time, Value.int IntKind.u16 r.out.pic,
          Value.int IntKind.u8 r.out.tl0][j]?)
    (f2 : ∀ (j : Nat), u5.frozen? { block := g6, off := j } = false)
    (z2 : g6 < u5.heap.size)
    (c3 : ∀ (j : Nat),
    u5.cell? { block := g7, off := j } =
      #[Value.int IntKind.u16 o.seq, Value.int IntKind.u32 o.time, Value.int IntKind.u16 o.pic,
          Value.int IntKind.u8 o.tl0][j]?)
    (f3 : ∀ (j : Nat), u5.frozen? { block := g7, off := j } = false)
    (z3 : g7 < u5.heap.size)
    (c4 : ∀ (j : Nat),
    u5.cell? { block := g8, off := j } =
      #[Value.bool r.on, Value.int IntKind.i64 r.high, Value.int IntKind.i64 r.since, Value.int IntKind.i64 r.off.seq,
          Value.int IntKind.i64 r.off.time, Value.int IntKind.i64 r.off.pic, Value.int IntKind.i64 r.off.tl0,
          Value.int IntKind.i64 r.out.seq, Value.int IntKind.i64 r.out.time, Value.int IntKind.i64 r.out.pic,
          Value.int IntKind.i64 r.out.tl0][j]?)
    (f4 : ∀ (j : Nat), u5.frozen? { block := g8, off := j } = false)
    (z4 : g8 < u5.heap.size)
    (c5 : ∀ (j : Nat),
    u5.cell? { block := g9, off := j } =
      #[Value.int IntKind.i64 o.seq, Value.int IntKind.i64 o.time, Value.int IntKind.i64 o.pic,
          Value.int IntKind.i64 o.tl0][j]?)
    (f5 : ∀ (j : Nat), u5.frozen? { block := g9, off := j } = false)
    (z5 : g9 < u5.heap.size)
    (c6 : ∀ (j : Nat),
    u5.cell? { block := g10, off := j } =
      #[Value.bool r2.on, Value.int IntKind.i64 r2.high, Value.int IntKind.i64 r2.since,
          Value.int IntKind.u16 r2.off.seq, Value.int IntKind.u32 r2.off.time, Value.int IntKind.u16 r2.off.pic,
          Value.int IntKind.u8 r2.off.tl0, Value.int IntKind.u16 r2.out.seq, Value.int IntKind.u32 r2.out.time,
          Value.int IntKind.u16 r2.out.pic, Value.int IntKind.u8 r2.out.tl0][j]?)
    (f6 : ∀ (j : Nat), u5.frozen? { block := g10, off := j } = false)
    (z6 : g10 < u5.heap.size)
    (c7 : ∀ (j : Nat),
    u5.cell? { block := g11, off := j } =
      #[Value.int IntKind.u16 m.seq, Value.int IntKind.u32 m.time, Value.int IntKind.u16 m.pic,
          Value.int IntKind.u8 m.tl0][j]?)
    (f7 : ∀ (j : Nat), u5.frozen? { block := g11, off := j } = false)
    (z7 : g11 < u5.heap.size)
    (c8 : ∀ (j : Nat),
    u5.cell? { block := g13, off := j } =
      #[Value.bool r2.on, Value.int IntKind.i64 r2.high, Value.int IntKind.i64 r2.since,
          Value.int IntKind.i64 r2.off.seq, Value.int IntKind.i64 r2.off.time, Value.int IntKind.i64 r2.off.pic,
          Value.int IntKind.i64 r2.off.tl0, Value.int IntKind.i64 r2.out.seq, Value.int IntKind.i64 r2.out.time,
          Value.int IntKind.i64 r2.out.pic, Value.int IntKind.i64 r2.out.tl0][j]?)
    (f8 : ∀ (j : Nat), u5.frozen? { block := g13, off := j } = false)
    (z8 : g13 < u5.heap.size)
    (c9 : ∀ (j : Nat),
    u5.cell? { block := g14, off := j } =
      #[Value.int IntKind.i64 m.seq, Value.int IntKind.i64 m.time, Value.int IntKind.i64 m.pic,
          Value.int IntKind.i64 m.tl0][j]?)
    (f9 : ∀ (j : Nat), u5.frozen? { block := g14, off := j } = false)
    (z9 : g14 < u5.heap.size)
    (ca : ∀ (j : Nat),
    u5.cell? { block := g16, off := j } =
      #[Value.bool r3.on, Value.int IntKind.i64 r3.high, Value.int IntKind.i64 r3.since,
          Value.int IntKind.u16 r3.off.seq, Value.int IntKind.u32 r3.off.time, Value.int IntKind.u16 r3.off.pic,
          Value.int IntKind.u8 r3.off.tl0, Value.int IntKind.u16 r3.out.seq, Value.int IntKind.u32 r3.out.time,
          Value.int IntKind.u16 r3.out.pic, Value.int IntKind.u8 r3.out.tl0][j]?)
    (fa : ∀ (j : Nat), u5.frozen? { block := g16, off := j } = false)
    (za : g16 < u5.heap.size)
    (qJ_ qK__ : Act → World → Prop)
    (qa_1 : ∀ (a' : Act) (w' : World),
    (∃ u17 u22 u23 u24 u25 u26 u27 u28 u29 u30 u31 u32 u33 u34 u35 u36 u37 u38 u39 u40 u41 u42 u43 u44 u45 u46 u47 u48
        u49 u50 u51 u52 u53 u54 u55 u56 u57 u58 u59 u60 u61 u62 u63 u64 u65 u66 u67 u68 u69 u70 u71 u72 u73 u74 u75 u76
        u77 u78 u79 u80 u81 u82 u83 u84 u85 u86 u87 u88 u89 u90 u91 u92 u93 u94 u95 u96 u97 u98 u99 u100 u101 u102 u103
        u104 u105 u106 u107 u108 u109 u110 u111 u112 u113 u114,
        (∃ g17,
            u17 = Value.pointer (some { block := g17, off := 0 }) ∧
              w'.heap[g17]? =
                  some
                    (Obj.cells
                      #[Value.bool r3.on, Value.int IntKind.i64 r3.high, Value.int IntKind.i64 r3.since,
                        Value.int IntKind.i64 r3.off.seq, Value.int IntKind.i64 r3.off.time,
                        Value.int IntKind.i64 r3.off.pic, Value.int IntKind.i64 r3.off.tl0,
                        Value.int IntKind.i64 r3.out.seq, Value.int IntKind.i64 r3.out.time,
                        Value.int IntKind.i64 r3.out.pic, Value.int IntKind.i64 r3.out.tl0]
                      36) ∧
                Below u5.heap.size u5 w') ∧
          a' =
            {
              tmps :=
                #[Value.agg
                    #[Value.bool s.on, Value.int IntKind.i64 s.high, Value.int IntKind.i64 s.since,
                      Value.int IntKind.u16 s.off.seq, Value.int IntKind.u32 s.off.time,
                      Value.int IntKind.u16 s.off.pic, Value.int IntKind.u8 s.off.tl0, Value.int IntKind.u16 s.out.seq,
                      Value.int IntKind.u32 s.out.time, Value.int IntKind.u16 s.out.pic,
                      Value.int IntKind.u8 s.out.tl0],
                  Value.agg
                    #[Value.int IntKind.i64 kd, Value.int IntKind.u16 x.seq, Value.int IntKind.u32 x.time,
                      Value.int IntKind.u16 x.pic, Value.int IntKind.u8 x.tl0, Value.int IntKind.u32 tm, Value.bool bg],
                  Value.pointer (some { block := w.heap.size, off := 0 }),
                  Value.pointer (some { block := w.heap.size + 1, off := 0 }), Value.bool false, Value.bool true,
                  Value.pointer (some { block := g6, off := 0 }), Value.pointer (some { block := g7, off := 0 }),
                  Value.pointer (some { block := g8, off := 0 }), Value.pointer (some { block := g9, off := 0 }),
                  Value.pointer (some { block := g10, off := 0 }), Value.pointer (some { block := g11, off := 0 }),
                  Value.bool is, Value.pointer (some { block := g13, off := 0 }),
                  Value.pointer (some { block := g14, off := 0 }), Value.bool is,
                  Value.pointer (some { block := g16, off := 0 }), u17, Value.bool true, Value.bool true,
                  Value.bool false, Value.pointer (some { block := w.heap.size, off := 1 }), u22, u23, u24, u25, u26,
                  u27, u28, u29, u30, u31, u32, u33, u34, u35, u36, u37, u38, u39, u40, u41, u42, u43, u44, u45, u46,
                  u47, u48, u49, u50, u51, u52, u53, u54, u55, u56, u57, u58, u59, u60, u61, u62, u63, u64, u65, u66,
                  u67, u68, u69, u70, u71, u72, u73, u74, u75, u76, u77, u78, u79, u80, u81, u82, u83, u84, u85, u86,
                  u87, u88, u89, u90, u91, u92, u93, u94, u95, u96, u97, u98, u99, u100, u101, u102, u103, u104, u105,
                  u106, u107, u108, u109, u110, u111, u112, u113, u114],
              defers := [] }) →
      qJ_ a' w')
    (qa_ : ∀ (a' : Act) (w' : World), Met qJ_ a' w' → qK__ a' w')
    : Code.wp Try.prog
    (regF 11)
    (Exit.then qK__ qQ__)
    {
      tmps :=
        #[Value.agg
            #[Value.bool s.on, Value.int IntKind.i64 s.high, Value.int IntKind.i64 s.since,
              Value.int IntKind.u16 s.off.seq, Value.int IntKind.u32 s.off.time, Value.int IntKind.u16 s.off.pic,
              Value.int IntKind.u8 s.off.tl0, Value.int IntKind.u16 s.out.seq, Value.int IntKind.u32 s.out.time,
              Value.int IntKind.u16 s.out.pic, Value.int IntKind.u8 s.out.tl0],
          Value.agg
            #[Value.int IntKind.i64 kd, Value.int IntKind.u16 x.seq, Value.int IntKind.u32 x.time,
              Value.int IntKind.u16 x.pic, Value.int IntKind.u8 x.tl0, Value.int IntKind.u32 tm, Value.bool bg],
          Value.pointer (some { block := w.heap.size, off := 0 }),
          Value.pointer (some { block := w.heap.size + 1, off := 0 }), Value.bool false, Value.bool true,
          Value.pointer (some { block := g6, off := 0 }), Value.pointer (some { block := g7, off := 0 }),
          Value.pointer (some { block := g8, off := 0 }), Value.pointer (some { block := g9, off := 0 }),
          Value.pointer (some { block := g10, off := 0 }), Value.pointer (some { block := g11, off := 0 }),
          Value.bool is, Value.pointer (some { block := g13, off := 0 }),
          Value.pointer (some { block := g14, off := 0 }), Value.bool is,
          Value.pointer (some { block := g16, off := 0 }), undef, Value.bool true, Value.bool true, Value.bool false,
          Value.pointer (some { block := w.heap.size, off := 1 }), u22, u23, u24, u25, u26, u27, u28, u29, u30, u31,
          u32, u33, u34, u35, u36, u37, u38, u39, u40, u41, u42, u43, u44, u45, u46, u47, u48, u49, u50, u51, u52, u53,
          u54, u55, u56, u57, u58, u59, u60, u61, u62, u63, u64, u65, u66, u67, u68, u69, u70, u71, u72, u73, u74, u75,
          u76, u77, u78, u79, u80, u81, u82, u83, u84, u85, u86, u87, u88, u89, u90, u91, u92, u93, u94, u95, u96, u97,
          u98, u99, u100, u101, u102, u103, u104, u105, u106, u107, u108, u109, u110, u111, u112, u113, u114],
      defers := [] }
    u5 := by
  conv => arg 2; whnf
  go_region_held3 (fun w' => (∀ j, w'.cell? ⟨w.heap.size, j, none⟩ = #[.bool s.on, .int .i64 s.high, .int .i64 s.since, .int .u16 s.off.seq, .int .u32 s.off.time, .int .u16 s.off.pic, .int .u8 s.off.tl0, .int .u16 s.out.seq, .int .u32 s.out.time, .int .u16 s.out.pic, .int .u8 s.out.tl0][j]?) ∧ (∀ j, w'.cell? ⟨w.heap.size + 1, j, none⟩ = #[.int .i64 kd, .int .u16 x.seq, .int .u32 x.time, .int .u16 x.pic, .int .u8 x.tl0, .int .u32 tm, .bool bg][j]?) ∧ Below u5.heap.size u5 w') (((as_aux_lemma => ((refine keep2 z0 c0 z1 c1 ?_; (first | (with_reducible exact Below.refl _ _) | (go_split_ands; first | (with_reducible assumption) | go_grown))))))) (first | (go_at_call 13; go_split_ands; (with_reducible refine (of_eq s _ HA.out HB.out).mono ?_); rintro e w2 ⟨rfl, hb⟩; have hB := below_next (w := u5) (by first | (with_reducible exact Below.refl _ _) | (with_reducible assumption) | go_grown) hb; have zS := hB.size; (try first | ((have hn := heap_below hb (by first | omega | (simp; done) | (simp; omega)) hP); clear hP fP cP; have hP := hn; clear hn; (try simp only [size_alloc] at hP); obtain ⟨cP, fP, zP⟩ := blk_facts hP) | ((have hn := heap_below hb (by first | omega | (simp; done) | (simp; omega)) (heap_alloc_old' hP)); clear hP fP cP; have hP := hn; clear hn; (try simp only [size_alloc] at hP); obtain ⟨cP, fP, zP⟩ := blk_facts hP) | ((have hn := heap_below hb (by first | omega | (simp; done) | (simp; omega)) (heap_alloc_old' (heap_alloc_old' hP))); clear hP fP cP; have hP := hn; clear hn; (try simp only [size_alloc] at hP); obtain ⟨cP, fP, zP⟩ := blk_facts hP) | ((have hP : w2.heap[(_ : Nat)]? = some (Obj.cells _ 36 (0, 0)) := (hb.block _ (lt_alloc _ _)).trans (heap_alloc_new _ _ _ rfl)); (try simp only [size_alloc] at hP); obtain ⟨cP, fP, zP⟩ := blk_facts hP) | ((have hP : w2.heap[(_ : Nat)]? = some (Obj.cells _ 36 (0, 0)) := (hb.block _ (Nat.lt_trans (lt_alloc _ _) (lt_alloc _ _))).trans (heap_alloc_old' (heap_alloc_new _ _ _ rfl))); (try simp only [size_alloc] at hP); obtain ⟨cP, fP, zP⟩ := blk_facts hP)); (try first | ((have hn := heap_below hb (by first | omega | (simp; done) | (simp; omega)) hQ); clear hQ fQ cQ; have hQ := hn; clear hn; (try simp only [size_alloc] at hQ); obtain ⟨cQ, fQ, zQ⟩ := blk_facts hQ) | ((have hn := heap_below hb (by first | omega | (simp; done) | (simp; omega)) (heap_alloc_old' hQ)); clear hQ fQ cQ; have hQ := hn; clear hn; (try simp only [size_alloc] at hQ); obtain ⟨cQ, fQ, zQ⟩ := blk_facts hQ) | ((have hn := heap_below hb (by first | omega | (simp; done) | (simp; omega)) (heap_alloc_old' (heap_alloc_old' hQ))); clear hQ fQ cQ; have hQ := hn; clear hn; (try simp only [size_alloc] at hQ); obtain ⟨cQ, fQ, zQ⟩ := blk_facts hQ) | ((have hQ : w2.heap[(_ : Nat)]? = some (Obj.cells _ 34 (0, 0)) := (hb.block _ (lt_alloc _ _)).trans (heap_alloc_new _ _ _ rfl)); (try simp only [size_alloc] at hQ); obtain ⟨cQ, fQ, zQ⟩ := blk_facts hQ) | ((have hQ : w2.heap[(_ : Nat)]? = some (Obj.cells _ 34 (0, 0)) := (hb.block _ (Nat.lt_trans (lt_alloc _ _) (lt_alloc _ _))).trans (heap_alloc_old' (heap_alloc_new _ _ _ rfl))); (try simp only [size_alloc] at hQ); obtain ⟨cQ, fQ, zQ⟩ := blk_facts hQ)); clear hb) | (go_at_call 14; go_split_ands; (with_reducible refine (nums_eq x _ HX.out).mono ?_); rintro e w2 ⟨rfl, hb⟩; have hB := below_next (w := u5) (by first | (with_reducible exact Below.refl _ _) | (with_reducible assumption) | go_grown) hb; have zS := hB.size; (try first | ((have hn := heap_below hb (by first | omega | (simp; done) | (simp; omega)) hP); clear hP fP cP; have hP := hn; clear hn; (try simp only [size_alloc] at hP); obtain ⟨cP, fP, zP⟩ := blk_facts hP) | ((have hn := heap_below hb (by first | omega | (simp; done) | (simp; omega)) (heap_alloc_old' hP)); clear hP fP cP; have hP := hn; clear hn; (try simp only [size_alloc] at hP); obtain ⟨cP, fP, zP⟩ := blk_facts hP) | ((have hn := heap_below hb (by first | omega | (simp; done) | (simp; omega)) (heap_alloc_old' (heap_alloc_old' hP))); clear hP fP cP; have hP := hn; clear hn; (try simp only [size_alloc] at hP); obtain ⟨cP, fP, zP⟩ := blk_facts hP) | ((have hP : w2.heap[(_ : Nat)]? = some (Obj.cells _ 36 (0, 0)) := (hb.block _ (lt_alloc _ _)).trans (heap_alloc_new _ _ _ rfl)); (try simp only [size_alloc] at hP); obtain ⟨cP, fP, zP⟩ := blk_facts hP) | ((have hP : w2.heap[(_ : Nat)]? = some (Obj.cells _ 36 (0, 0)) := (hb.block _ (Nat.lt_trans (lt_alloc _ _) (lt_alloc _ _))).trans (heap_alloc_old' (heap_alloc_new _ _ _ rfl))); (try simp only [size_alloc] at hP); obtain ⟨cP, fP, zP⟩ := blk_facts hP)); (try first | ((have hn := heap_below hb (by first | omega | (simp; done) | (simp; omega)) hQ); clear hQ fQ cQ; have hQ := hn; clear hn; (try simp only [size_alloc] at hQ); obtain ⟨cQ, fQ, zQ⟩ := blk_facts hQ) | ((have hn := heap_below hb (by first | omega | (simp; done) | (simp; omega)) (heap_alloc_old' hQ)); clear hQ fQ cQ; have hQ := hn; clear hn; (try simp only [size_alloc] at hQ); obtain ⟨cQ, fQ, zQ⟩ := blk_facts hQ) | ((have hn := heap_below hb (by first | omega | (simp; done) | (simp; omega)) (heap_alloc_old' (heap_alloc_old' hQ))); clear hQ fQ cQ; have hQ := hn; clear hn; (try simp only [size_alloc] at hQ); obtain ⟨cQ, fQ, zQ⟩ := blk_facts hQ) | ((have hQ : w2.heap[(_ : Nat)]? = some (Obj.cells _ 34 (0, 0)) := (hb.block _ (lt_alloc _ _)).trans (heap_alloc_new _ _ _ rfl)); (try simp only [size_alloc] at hQ); obtain ⟨cQ, fQ, zQ⟩ := blk_facts hQ) | ((have hQ : w2.heap[(_ : Nat)]? = some (Obj.cells _ 34 (0, 0)) := (hb.block _ (Nat.lt_trans (lt_alloc _ _) (lt_alloc _ _))).trans (heap_alloc_old' (heap_alloc_new _ _ _ rfl))); (try simp only [size_alloc] at hQ); obtain ⟨cQ, fQ, zQ⟩ := blk_facts hQ)); clear hb) | (go_at_call 18; go_split_ands; (with_reducible refine (refDrop_eq s r3 x bg _ HR3.out (by omega) (by omega) qo0 qo1 qp0 qp1 x0 x1).mono ?_); rintro e w2 ⟨rfl, hb⟩; have hB := below_next (w := u5) (by first | (with_reducible exact Below.refl _ _) | (with_reducible assumption) | go_grown) hb; have zS := hB.size; (try first | ((have hn := heap_below hb (by first | omega | (simp; done) | (simp; omega)) hP); clear hP fP cP; have hP := hn; clear hn; (try simp only [size_alloc] at hP); obtain ⟨cP, fP, zP⟩ := blk_facts hP) | ((have hn := heap_below hb (by first | omega | (simp; done) | (simp; omega)) (heap_alloc_old' hP)); clear hP fP cP; have hP := hn; clear hn; (try simp only [size_alloc] at hP); obtain ⟨cP, fP, zP⟩ := blk_facts hP) | ((have hn := heap_below hb (by first | omega | (simp; done) | (simp; omega)) (heap_alloc_old' (heap_alloc_old' hP))); clear hP fP cP; have hP := hn; clear hn; (try simp only [size_alloc] at hP); obtain ⟨cP, fP, zP⟩ := blk_facts hP) | ((have hP : w2.heap[(_ : Nat)]? = some (Obj.cells _ 36 (0, 0)) := (hb.block _ (lt_alloc _ _)).trans (heap_alloc_new _ _ _ rfl)); (try simp only [size_alloc] at hP); obtain ⟨cP, fP, zP⟩ := blk_facts hP) | ((have hP : w2.heap[(_ : Nat)]? = some (Obj.cells _ 36 (0, 0)) := (hb.block _ (Nat.lt_trans (lt_alloc _ _) (lt_alloc _ _))).trans (heap_alloc_old' (heap_alloc_new _ _ _ rfl))); (try simp only [size_alloc] at hP); obtain ⟨cP, fP, zP⟩ := blk_facts hP)); (try first | ((have hn := heap_below hb (by first | omega | (simp; done) | (simp; omega)) hQ); clear hQ fQ cQ; have hQ := hn; clear hn; (try simp only [size_alloc] at hQ); obtain ⟨cQ, fQ, zQ⟩ := blk_facts hQ) | ((have hn := heap_below hb (by first | omega | (simp; done) | (simp; omega)) (heap_alloc_old' hQ)); clear hQ fQ cQ; have hQ := hn; clear hn; (try simp only [size_alloc] at hQ); obtain ⟨cQ, fQ, zQ⟩ := blk_facts hQ) | ((have hn := heap_below hb (by first | omega | (simp; done) | (simp; omega)) (heap_alloc_old' (heap_alloc_old' hQ))); clear hQ fQ cQ; have hQ := hn; clear hn; (try simp only [size_alloc] at hQ); obtain ⟨cQ, fQ, zQ⟩ := blk_facts hQ) | ((have hQ : w2.heap[(_ : Nat)]? = some (Obj.cells _ 34 (0, 0)) := (hb.block _ (lt_alloc _ _)).trans (heap_alloc_new _ _ _ rfl)); (try simp only [size_alloc] at hQ); obtain ⟨cQ, fQ, zQ⟩ := blk_facts hQ) | ((have hQ : w2.heap[(_ : Nat)]? = some (Obj.cells _ 34 (0, 0)) := (hb.block _ (Nat.lt_trans (lt_alloc _ _) (lt_alloc _ _))).trans (heap_alloc_old' (heap_alloc_new _ _ _ rfl))); (try simp only [size_alloc] at hQ); obtain ⟨cQ, fQ, zQ⟩ := blk_facts hQ)); clear hb))
  all_goals (go_wp2_with fail; go_meet; go_split_ands; as_aux_lemma => exact ⟨_, rfl, (Eq.trans (b := some (Obj.cells _ _ (0, 0))) (by repeat (first | (with_reducible assumption) | (with_reducible apply heap_set_row11) | (with_reducible apply heap_set_row4) | (with_reducible apply heap_set_same) | ((with_reducible apply heap_set_other'); (focus (first | omega | (simp; done) | (simp; omega)))) | ((with_reducible apply heap_alloc_new); (focus (first | omega | (simp; done) | (simp; omega)))) | (with_reducible apply heap_alloc_old') | (with_reducible apply (heap_drew_at _ _).trans) | (with_reducible apply (heap_drewN_at _ _ _).trans) | (simp only [List.size_toArray, List.length_cons, List.length_nil]; done))) (by exact rfl)), by first | (with_reducible exact Below.refl _ _) | go_grown⟩)
set_option maxRecDepth 100000 in
set_option maxHeartbeats 40000000 in
theorem tells_walk (s : St) (x : Nu) (tm kd : Int) (bg : Bool) (w : World) (hoff : s.off.Ok) (hout : s.out.Ok) (hx : x.Ok) (m0 : 0 ≤ tm) (m1 : tm ≤ 4294967295) :
    Calls Try.prog 3 #[.agg #[.bool s.on, .int .i64 s.high, .int .i64 s.since, .int .u16 s.off.seq, .int .u32 s.off.time, .int .u16 s.off.pic, .int .u8 s.off.tl0, .int .u16 s.out.seq, .int .u32 s.out.time, .int .u16 s.out.pic, .int .u8 s.out.tl0], .agg #[.int .i64 kd, .int .u16 x.seq, .int .u32 x.time, .int .u16 x.pic, .int .u8 x.tl0, .int .u32 tm, .bool bg]] w fun e w' => e = .returned (.bool true) ∧ Below w.heap.size w w' := by
  by_cases hh : 1099511627776 < s.high
  · go_enter Try.func3, Try.ntmps3
    go_wp2_with fail
    (with_reducible refine (awake_any _).mono ?_)
    rintro e w1 ⟨rfl, hb⟩
    (try (have g0 := h0; clear h0 f0 c0))
    (try (have g1 := h1; clear h1 f1 c1))
    have hB := below_next (w := w) (by go_grown) hb
    have h0 : w1.heap[w.heap.size]? = some (.cells #[.bool s.on, .int .i64 s.high, .int .i64 s.since, .int .u16 s.off.seq, .int .u32 s.off.time, .int .u16 s.off.pic, .int .u8 s.off.tl0, .int .u16 s.out.seq, .int .u32 s.out.time, .int .u16 s.out.pic, .int .u8 s.out.tl0] 27 (0, 0)) := (hb.block (w.heap.size) (by first | omega | (simp; done) | (simp; omega))).trans (Eq.trans (b := some (Obj.cells _ _ (0, 0))) (by repeat (first | (with_reducible assumption) | (with_reducible apply heap_set_row11) | (with_reducible apply heap_set_row4) | (with_reducible apply heap_set_same) | ((with_reducible apply heap_set_other'); (focus (first | omega | (simp; done) | (simp; omega)))) | ((with_reducible apply heap_alloc_new); (focus (first | omega | (simp; done) | (simp; omega)))) | (with_reducible apply heap_alloc_old') | (with_reducible apply (heap_drew_at _ _).trans) | (with_reducible apply (heap_drewN_at _ _ _).trans) | (simp only [List.size_toArray, List.length_cons, List.length_nil]; done))) (by exact rfl))
    have h1 : w1.heap[w.heap.size + 1]? = some (.cells #[.int .i64 kd, .int .u16 x.seq, .int .u32 x.time, .int .u16 x.pic, .int .u8 x.tl0, .int .u32 tm, .bool bg] 29 (0, 0)) := (hb.block (w.heap.size + 1) (by first | omega | (simp; done) | (simp; omega))).trans (Eq.trans (b := some (Obj.cells _ _ (0, 0))) (by repeat (first | (with_reducible assumption) | (with_reducible apply heap_set_row11) | (with_reducible apply heap_set_row4) | (with_reducible apply heap_set_same) | ((with_reducible apply heap_set_other'); (focus (first | omega | (simp; done) | (simp; omega)))) | ((with_reducible apply heap_alloc_new); (focus (first | omega | (simp; done) | (simp; omega)))) | (with_reducible apply heap_alloc_old') | (with_reducible apply (heap_drew_at _ _).trans) | (with_reducible apply (heap_drewN_at _ _ _).trans) | (simp only [List.size_toArray, List.length_cons, List.length_nil]; done))) (by exact rfl))
    clear hb
    (try clear g0)
    obtain ⟨c0, f0, z0⟩ := blk_facts h0
    (try clear g1)
    obtain ⟨c1, f1, z1⟩ := blk_facts h1
    go_wp2_with fail
    go_ret
    exact ⟨rfl, by go_grown⟩
  by_cases hl : s.high < -1099511627776
  · go_enter Try.func3, Try.ntmps3
    go_wp2_with fail
    (with_reducible refine (awake_any _).mono ?_)
    rintro e w1 ⟨rfl, hb⟩
    (try (have g0 := h0; clear h0 f0 c0))
    (try (have g1 := h1; clear h1 f1 c1))
    have hB := below_next (w := w) (by go_grown) hb
    have h0 : w1.heap[w.heap.size]? = some (.cells #[.bool s.on, .int .i64 s.high, .int .i64 s.since, .int .u16 s.off.seq, .int .u32 s.off.time, .int .u16 s.off.pic, .int .u8 s.off.tl0, .int .u16 s.out.seq, .int .u32 s.out.time, .int .u16 s.out.pic, .int .u8 s.out.tl0] 27 (0, 0)) := (hb.block (w.heap.size) (by first | omega | (simp; done) | (simp; omega))).trans (Eq.trans (b := some (Obj.cells _ _ (0, 0))) (by repeat (first | (with_reducible assumption) | (with_reducible apply heap_set_row11) | (with_reducible apply heap_set_row4) | (with_reducible apply heap_set_same) | ((with_reducible apply heap_set_other'); (focus (first | omega | (simp; done) | (simp; omega)))) | ((with_reducible apply heap_alloc_new); (focus (first | omega | (simp; done) | (simp; omega)))) | (with_reducible apply heap_alloc_old') | (with_reducible apply (heap_drew_at _ _).trans) | (with_reducible apply (heap_drewN_at _ _ _).trans) | (simp only [List.size_toArray, List.length_cons, List.length_nil]; done))) (by exact rfl))
    have h1 : w1.heap[w.heap.size + 1]? = some (.cells #[.int .i64 kd, .int .u16 x.seq, .int .u32 x.time, .int .u16 x.pic, .int .u8 x.tl0, .int .u32 tm, .bool bg] 29 (0, 0)) := (hb.block (w.heap.size + 1) (by first | omega | (simp; done) | (simp; omega))).trans (Eq.trans (b := some (Obj.cells _ _ (0, 0))) (by repeat (first | (with_reducible assumption) | (with_reducible apply heap_set_row11) | (with_reducible apply heap_set_row4) | (with_reducible apply heap_set_same) | ((with_reducible apply heap_set_other'); (focus (first | omega | (simp; done) | (simp; omega)))) | ((with_reducible apply heap_alloc_new); (focus (first | omega | (simp; done) | (simp; omega)))) | (with_reducible apply heap_alloc_old') | (with_reducible apply (heap_drew_at _ _).trans) | (with_reducible apply (heap_drewN_at _ _ _).trans) | (simp only [List.size_toArray, List.length_cons, List.length_nil]; done))) (by exact rfl))
    clear hb
    (try clear g0)
    obtain ⟨c0, f0, z0⟩ := blk_facts h0
    (try clear g1)
    obtain ⟨c1, f1, z1⟩ := blk_facts h1
    go_wp2_with fail
    go_ret
    exact ⟨rfl, by go_grown⟩
  obtain ⟨x0, x1, _⟩ := id hx
  obtain ⟨o, ho⟩ : ∃ o, toldF s x tm = o := ⟨_, rfl⟩
  obtain ⟨r, hr⟩ : ∃ r, switchF s x tm = r := ⟨_, rfl⟩
  obtain ⟨⟨r2, m, is⟩, hr2⟩ : ∃ r, sendF s x = r := ⟨_, rfl⟩
  obtain ⟨r3, hr3⟩ : ∃ r, dropF s x bg = r := ⟨_, rfl⟩
  have hoo : o.Ok := by rw [← ho]; exact toldF_ok hx
  have hro : r.off.Ok := by rw [← hr]; exact fromF_ok _ _
  have hrt : r.out.Ok := by rw [← hr]; exact toldF_ok hx
  have sok : s.Ok 1099511627776 := ⟨by omega, by omega, hoff, hout⟩
  have h2 := sendF_ok (i := x) sok
  have h2m := sendF_mok (s := s) (i := x) hout
  have h3 := dropF_ok (i := x) (b := bg) sok
  rw [hr2] at h2 h2m
  rw [hr3] at h3
  dsimp only at h2 h2m
  have H2 := Lib.hid h2; clear h2
  have H2M := Lib.hid h2m; clear h2m
  have H3 := Lib.hid h3; clear h3 sok
  have HO := Lib.hid ho; clear ho
  have HRr := Lib.hid hr; clear hr
  have HR2 := Lib.hid hr2; clear hr2
  have HR3 := Lib.hid hr3; clear hr3
  have HRO := Lib.hid hro; clear hro
  have HRT := Lib.hid hrt; clear hrt
  have HOO := Lib.hid hoo; clear hoo
  have hti := i64_in tm (by omega) (by omega)
  have qo0 := hoff.s0
  have qo1 := hoff.s1
  have qp0 := hoff.p0
  have qp1 := hoff.p1
  have HA := Lib.hid hoff; clear hoff
  have HB := Lib.hid hout; clear hout
  have HX := Lib.hid hx; clear hx
  go_enter Try.func3, Try.ntmps3
  go_wp2_with fail
  (with_reducible refine (awake_any _).mono ?_)
  rintro e w1 ⟨rfl, hb⟩
  (try (have g0 := h0; clear h0 f0 c0))
  (try (have g1 := h1; clear h1 f1 c1))
  have hB := below_next (w := w) (by go_grown) hb
  have h0 : w1.heap[w.heap.size]? = some (.cells #[.bool s.on, .int .i64 s.high, .int .i64 s.since, .int .u16 s.off.seq, .int .u32 s.off.time, .int .u16 s.off.pic, .int .u8 s.off.tl0, .int .u16 s.out.seq, .int .u32 s.out.time, .int .u16 s.out.pic, .int .u8 s.out.tl0] 27 (0, 0)) := (hb.block (w.heap.size) (by first | omega | (simp; done) | (simp; omega))).trans (Eq.trans (b := some (Obj.cells _ _ (0, 0))) (by repeat (first | (with_reducible assumption) | (with_reducible apply heap_set_row11) | (with_reducible apply heap_set_row4) | (with_reducible apply heap_set_same) | ((with_reducible apply heap_set_other'); (focus (first | omega | (simp; done) | (simp; omega)))) | ((with_reducible apply heap_alloc_new); (focus (first | omega | (simp; done) | (simp; omega)))) | (with_reducible apply heap_alloc_old') | (with_reducible apply (heap_drew_at _ _).trans) | (with_reducible apply (heap_drewN_at _ _ _).trans) | (simp only [List.size_toArray, List.length_cons, List.length_nil]; done))) (by exact rfl))
  have h1 : w1.heap[w.heap.size + 1]? = some (.cells #[.int .i64 kd, .int .u16 x.seq, .int .u32 x.time, .int .u16 x.pic, .int .u8 x.tl0, .int .u32 tm, .bool bg] 29 (0, 0)) := (hb.block (w.heap.size + 1) (by first | omega | (simp; done) | (simp; omega))).trans (Eq.trans (b := some (Obj.cells _ _ (0, 0))) (by repeat (first | (with_reducible assumption) | (with_reducible apply heap_set_row11) | (with_reducible apply heap_set_row4) | (with_reducible apply heap_set_same) | ((with_reducible apply heap_set_other'); (focus (first | omega | (simp; done) | (simp; omega)))) | ((with_reducible apply heap_alloc_new); (focus (first | omega | (simp; done) | (simp; omega)))) | (with_reducible apply heap_alloc_old') | (with_reducible apply (heap_drew_at _ _).trans) | (with_reducible apply (heap_drewN_at _ _ _).trans) | (simp only [List.size_toArray, List.length_cons, List.length_nil]; done))) (by exact rfl))
  clear hb
  (try clear g0)
  obtain ⟨c0, f0, z0⟩ := blk_facts h0
  (try clear g1)
  obtain ⟨c1, f1, z1⟩ := blk_facts h1
  have y1 := hB.size
  have zz : w.heap.size + 1 < w1.heap.size := z1
  obtain ⟨w1a, hwc⟩ : ∃ wq, wq = w1 := ⟨_, rfl⟩
  subst hwc
  go_upto_region 6 with fail
  go_cut [6, 7] from 22 to 114 (fun s6 s7 wx => ∃ g6 : Nat, ∃ g7 : Nat, s6 = .pointer (some ⟨g6, 0, none⟩) ∧ s7 = .pointer (some ⟨g7, 0, none⟩) ∧ wx.heap[g6]? = some (.cells #[.bool r.on, .int .i64 r.high, .int .i64 r.since, .int .u16 r.off.seq, .int .u32 r.off.time, .int .u16 r.off.pic, .int .u8 r.off.tl0, .int .u16 r.out.seq, .int .u32 r.out.time, .int .u16 r.out.pic, .int .u8 r.out.tl0] 27 (0, 0)) ∧ wx.heap[g7]? = some (.cells #[.int .u16 o.seq, .int .u32 o.time, .int .u16 o.pic, .int .u8 o.tl0] 25 (0, 0)) ∧ Below w1a.heap.size w1a wx)
  case first =>
    go_wp2_with fail
    with_reducible refine (switch_st s r x o tm _ HRr.out HO.out x0 x1).mono ?_
    rintro e wd ⟨rfl, hb⟩
    have hBy := hb
    have zS := hb.size
    clear hb
    all_goals (go_wp2_with fail; go_meet; go_split_ands; as_aux_lemma => exact ⟨_, _, rfl, rfl, (Eq.trans (b := some (Obj.cells _ _ (0, 0))) (by repeat (first | (with_reducible assumption) | (with_reducible apply heap_set_row11) | (with_reducible apply heap_set_row4) | (with_reducible apply heap_set_same) | ((with_reducible apply heap_set_other'); (focus (first | omega | (simp; done) | (simp; omega)))) | ((with_reducible apply heap_alloc_new); (focus (first | omega | (simp; done) | (simp; omega)))) | (with_reducible apply heap_alloc_old') | (with_reducible apply (heap_drew_at _ _).trans) | (with_reducible apply (heap_drewN_at _ _ _).trans) | (simp only [List.size_toArray, List.length_cons, List.length_nil]; done))) (by exact rfl)), (Eq.trans (b := some (Obj.cells _ _ (0, 0))) (by repeat (first | (with_reducible assumption) | (with_reducible apply heap_set_row11) | (with_reducible apply heap_set_row4) | (with_reducible apply heap_set_same) | ((with_reducible apply heap_set_other'); (focus (first | omega | (simp; done) | (simp; omega)))) | ((with_reducible apply heap_alloc_new); (focus (first | omega | (simp; done) | (simp; omega)))) | (with_reducible apply heap_alloc_old') | (with_reducible apply (heap_drew_at _ _).trans) | (with_reducible apply (heap_drewN_at _ _ _).trans) | (simp only [List.size_toArray, List.length_cons, List.length_nil]; done))) (by exact rfl)), by first | (with_reducible exact Below.refl _ _) | go_grown⟩)
  case rest =>
    obtain ⟨g6, g7, rfl, rfl, h2, h3, hBx⟩ := hcut
    obtain ⟨u1, hwc⟩ : ∃ wq, wq = wc := ⟨_, rfl⟩
    subst hwc
    have h0n := (hBx.block _ z0).trans h0
    clear h0 c0 f0 z0
    have h0 := h0n
    clear h0n
    have h1n := (hBx.block _ z1).trans h1
    clear h1 c1 f1 z1
    have h1 := h1n
    clear h1n
    have hB : Below w.heap.size w u1 := below_next (w := w) hB hBx
    have yb := hB.size
    have yu := hBx.size
    clear hBx
    obtain ⟨c0, f0, z0⟩ := blk_facts h0
    obtain ⟨c1, f1, z1⟩ := blk_facts h1
    obtain ⟨c2, f2, z2⟩ := blk_facts h2
    obtain ⟨c3, f3, z3⟩ := blk_facts h3
    go_upto_region 7 with fail
    go_cut [8, 9] from 22 to 114 (fun s8 s9 wx => ∃ g8 : Nat, ∃ g9 : Nat, s8 = .pointer (some ⟨g8, 0, none⟩) ∧ s9 = .pointer (some ⟨g9, 0, none⟩) ∧ wx.heap[g8]? = some (.cells #[.bool r.on, .int .i64 r.high, .int .i64 r.since, .int .i64 r.off.seq, .int .i64 r.off.time, .int .i64 r.off.pic, .int .i64 r.off.tl0, .int .i64 r.out.seq, .int .i64 r.out.time, .int .i64 r.out.pic, .int .i64 r.out.tl0] 36 (0, 0)) ∧ wx.heap[g9]? = some (.cells #[.int .i64 o.seq, .int .i64 o.time, .int .i64 o.pic, .int .i64 o.tl0] 34 (0, 0)) ∧ Below u1.heap.size u1 wx)
    case first =>
      exact tells_first7 s x tm kd bg w m0 m1 x0 x1 (by assumption) (by assumption) (by assumption) (by assumption) (by assumption) (by assumption) o r r2 m is r3 H2 H2M H3 HO HRr HR2 HR3 HRO HRT HOO hti qo0 qo1 qp0 qp1 HA HB HX _ hh hl w1a (by assumption) y1 zz (by assumption) u22 u23 u24 u25 u26 u27 u28 u29 u30 u31 u32 u33 u34 u35 u36 u37 u38 u39 u40 u41 u42 u43 u44 u45 u46 u47 u48 u49 u50 u51 u52 u53 u54 u55 u56 u57 u58 u59 u60 u61 u62 u63 u64 u65 u66 u67 u68 u69 u70 u71 u72 u73 u74 u75 u76 u77 u78 u79 u80 u81 u82 u83 u84 u85 u86 u87 u88 u89 u90 u91 u92 u93 u94 u95 u96 u97 u98 u99 u100 u101 u102 u103 u104 u105 u106 u107 u108 u109 u110 u111 u112 u113 u114 g6 g7 u1 h2 h3 h0 h1 hB yb yu c0 f0 z0 c1 f1 z1 c2 f2 z2 c3 f3 z3 _ _ (by assumption) (by assumption)
    case rest =>
      obtain ⟨g8, g9, rfl, rfl, h4, h5, hBx⟩ := hcut
      obtain ⟨u2, hwc⟩ : ∃ wq, wq = wc := ⟨_, rfl⟩
      subst hwc
      have h0n := (hBx.block _ z0).trans h0
      clear h0 c0 f0 z0
      have h0 := h0n
      clear h0n
      have h1n := (hBx.block _ z1).trans h1
      clear h1 c1 f1 z1
      have h1 := h1n
      clear h1n
      have h2n := (hBx.block _ z2).trans h2
      clear h2 c2 f2 z2
      have h2 := h2n
      clear h2n
      have h3n := (hBx.block _ z3).trans h3
      clear h3 c3 f3 z3
      have h3 := h3n
      clear h3n
      have hB : Below w.heap.size w u2 := below_next (w := w) hB hBx
      have yb := hB.size
      have yu := hBx.size
      clear hBx
      obtain ⟨c0, f0, z0⟩ := blk_facts h0
      obtain ⟨c1, f1, z1⟩ := blk_facts h1
      obtain ⟨c2, f2, z2⟩ := blk_facts h2
      obtain ⟨c3, f3, z3⟩ := blk_facts h3
      obtain ⟨c4, f4, z4⟩ := blk_facts h4
      obtain ⟨c5, f5, z5⟩ := blk_facts h5
      go_upto_region 8 with fail
      go_cut [10, 11, 12] from 22 to 114 (fun s10 s11 s12 wx => ∃ g10 : Nat, ∃ g11 : Nat, s10 = .pointer (some ⟨g10, 0, none⟩) ∧ s11 = .pointer (some ⟨g11, 0, none⟩) ∧ s12 = .bool is ∧ wx.heap[g10]? = some (.cells #[.bool r2.on, .int .i64 r2.high, .int .i64 r2.since, .int .u16 r2.off.seq, .int .u32 r2.off.time, .int .u16 r2.off.pic, .int .u8 r2.off.tl0, .int .u16 r2.out.seq, .int .u32 r2.out.time, .int .u16 r2.out.pic, .int .u8 r2.out.tl0] 27 (0, 0)) ∧ wx.heap[g11]? = some (.cells #[.int .u16 m.seq, .int .u32 m.time, .int .u16 m.pic, .int .u8 m.tl0] 25 (0, 0)) ∧ Below u2.heap.size u2 wx)
      case first =>
        go_wp2_with fail
        with_reducible refine (send_st s r2 x m is _ HR2.out (by omega) (by omega)).mono ?_
        rintro e wd ⟨rfl, hb⟩
        have hBy := hb
        have zS := hb.size
        clear hb
        all_goals (go_wp2_with fail; go_meet; go_split_ands; as_aux_lemma => exact ⟨_, _, rfl, rfl, rfl, (Eq.trans (b := some (Obj.cells _ _ (0, 0))) (by repeat (first | (with_reducible assumption) | (with_reducible apply heap_set_row11) | (with_reducible apply heap_set_row4) | (with_reducible apply heap_set_same) | ((with_reducible apply heap_set_other'); (focus (first | omega | (simp; done) | (simp; omega)))) | ((with_reducible apply heap_alloc_new); (focus (first | omega | (simp; done) | (simp; omega)))) | (with_reducible apply heap_alloc_old') | (with_reducible apply (heap_drew_at _ _).trans) | (with_reducible apply (heap_drewN_at _ _ _).trans) | (simp only [List.size_toArray, List.length_cons, List.length_nil]; done))) (by exact rfl)), (Eq.trans (b := some (Obj.cells _ _ (0, 0))) (by repeat (first | (with_reducible assumption) | (with_reducible apply heap_set_row11) | (with_reducible apply heap_set_row4) | (with_reducible apply heap_set_same) | ((with_reducible apply heap_set_other'); (focus (first | omega | (simp; done) | (simp; omega)))) | ((with_reducible apply heap_alloc_new); (focus (first | omega | (simp; done) | (simp; omega)))) | (with_reducible apply heap_alloc_old') | (with_reducible apply (heap_drew_at _ _).trans) | (with_reducible apply (heap_drewN_at _ _ _).trans) | (simp only [List.size_toArray, List.length_cons, List.length_nil]; done))) (by exact rfl)), by first | (with_reducible exact Below.refl _ _) | go_grown⟩)
      case rest =>
        obtain ⟨g10, g11, rfl, rfl, rfl, h6, h7, hBx⟩ := hcut
        obtain ⟨u3, hwc⟩ : ∃ wq, wq = wc := ⟨_, rfl⟩
        subst hwc
        have h0n := (hBx.block _ z0).trans h0
        clear h0 c0 f0 z0
        have h0 := h0n
        clear h0n
        have h1n := (hBx.block _ z1).trans h1
        clear h1 c1 f1 z1
        have h1 := h1n
        clear h1n
        have h2n := (hBx.block _ z2).trans h2
        clear h2 c2 f2 z2
        have h2 := h2n
        clear h2n
        have h3n := (hBx.block _ z3).trans h3
        clear h3 c3 f3 z3
        have h3 := h3n
        clear h3n
        have h4n := (hBx.block _ z4).trans h4
        clear h4 c4 f4 z4
        have h4 := h4n
        clear h4n
        have h5n := (hBx.block _ z5).trans h5
        clear h5 c5 f5 z5
        have h5 := h5n
        clear h5n
        have hB : Below w.heap.size w u3 := below_next (w := w) hB hBx
        have yb := hB.size
        have yu := hBx.size
        clear hBx
        obtain ⟨c0, f0, z0⟩ := blk_facts h0
        obtain ⟨c1, f1, z1⟩ := blk_facts h1
        obtain ⟨c2, f2, z2⟩ := blk_facts h2
        obtain ⟨c3, f3, z3⟩ := blk_facts h3
        obtain ⟨c4, f4, z4⟩ := blk_facts h4
        obtain ⟨c5, f5, z5⟩ := blk_facts h5
        obtain ⟨c6, f6, z6⟩ := blk_facts h6
        obtain ⟨c7, f7, z7⟩ := blk_facts h7
        go_upto_region 9 with fail
        go_cut [13, 14, 15] from 22 to 114 (fun s13 s14 s15 wx => ∃ g13 : Nat, ∃ g14 : Nat, s13 = .pointer (some ⟨g13, 0, none⟩) ∧ s14 = .pointer (some ⟨g14, 0, none⟩) ∧ s15 = .bool is ∧ wx.heap[g13]? = some (.cells #[.bool r2.on, .int .i64 r2.high, .int .i64 r2.since, .int .i64 r2.off.seq, .int .i64 r2.off.time, .int .i64 r2.off.pic, .int .i64 r2.off.tl0, .int .i64 r2.out.seq, .int .i64 r2.out.time, .int .i64 r2.out.pic, .int .i64 r2.out.tl0] 36 (0, 0)) ∧ wx.heap[g14]? = some (.cells #[.int .i64 m.seq, .int .i64 m.time, .int .i64 m.pic, .int .i64 m.tl0] 34 (0, 0)) ∧ Below u3.heap.size u3 wx)
        case first =>
          exact tells_first9 s x tm kd bg w m0 m1 x0 x1 (by assumption) (by assumption) (by assumption) (by assumption) (by assumption) (by assumption) o r r2 m is r3 H2 H2M H3 HO HRr HR2 HR3 HRO HRT HOO hti qo0 qo1 qp0 qp1 HA HB HX _ hh hl w1a (by assumption) y1 zz (by assumption) (by assumption) (by assumption) (by assumption) (by assumption) (by assumption) (by assumption) (by assumption) (by assumption) (by assumption) (by assumption) (by assumption) (by assumption) (by assumption) (by assumption) (by assumption) (by assumption) (by assumption) (by assumption) (by assumption) (by assumption) (by assumption) (by assumption) (by assumption) (by assumption) (by assumption) (by assumption) (by assumption) (by assumption) (by assumption) (by assumption) (by assumption) (by assumption) (by assumption) (by assumption) (by assumption) (by assumption) (by assumption) (by assumption) (by assumption) (by assumption) (by assumption) (by assumption) (by assumption) (by assumption) (by assumption) (by assumption) (by assumption) (by assumption) (by assumption) (by assumption) (by assumption) (by assumption) (by assumption) (by assumption) (by assumption) (by assumption) (by assumption) (by assumption) (by assumption) (by assumption) (by assumption) (by assumption) (by assumption) (by assumption) (by assumption) (by assumption) (by assumption) (by assumption) (by assumption) (by assumption) (by assumption) (by assumption) (by assumption) (by assumption) (by assumption) (by assumption) (by assumption) (by assumption) (by assumption) (by assumption) (by assumption) (by assumption) (by assumption) (by assumption) (by assumption) (by assumption) (by assumption) (by assumption) (by assumption) (by assumption) (by assumption) (by assumption) (by assumption) g6 g7 u1 (by assumption) (by assumption) (by assumption) (by assumption) (by assumption) (by assumption) (by assumption) (by assumption) (by assumption) (by assumption) (by assumption) (by assumption) (by assumption) (by assumption) (by assumption) (by assumption) (by assumption) (by assumption) (by assumption) (by assumption) (by assumption) (by assumption) (by assumption) (by assumption) (by assumption) (by assumption) (by assumption) (by assumption) (by assumption) (by assumption) (by assumption) (by assumption) (by assumption) (by assumption) (by assumption) (by assumption) (by assumption) (by assumption) (by assumption) (by assumption) (by assumption) (by assumption) (by assumption) (by assumption) (by assumption) (by assumption) (by assumption) (by assumption) (by assumption) (by assumption) (by assumption) (by assumption) (by assumption) (by assumption) (by assumption) (by assumption) (by assumption) (by assumption) (by assumption) (by assumption) (by assumption) (by assumption) (by assumption) (by assumption) (by assumption) (by assumption) (by assumption) (by assumption) (by assumption) (by assumption) (by assumption) (by assumption) (by assumption) (by assumption) (by assumption) (by assumption) (by assumption) (by assumption) (by assumption) (by assumption) (by assumption) (by assumption) (by assumption) (by assumption) (by assumption) (by assumption) (by assumption) (by assumption) (by assumption) (by assumption) (by assumption) (by assumption) (by assumption) (by assumption) (by assumption) (by assumption) g8 g9 u2 (by assumption) (by assumption) (by assumption) u22 u23 u24 u25 u26 u27 u28 u29 u30 u31 u32 u33 u34 u35 u36 u37 u38 u39 u40 u41 u42 u43 u44 u45 u46 u47 u48 u49 u50 u51 u52 u53 u54 u55 u56 u57 u58 u59 u60 u61 u62 u63 u64 u65 u66 u67 u68 u69 u70 u71 u72 u73 u74 u75 u76 u77 u78 u79 u80 u81 u82 u83 u84 u85 u86 u87 u88 u89 u90 u91 u92 u93 u94 u95 u96 u97 u98 u99 u100 u101 u102 u103 u104 u105 u106 u107 u108 u109 u110 u111 u112 u113 u114 g10 g11 u3 h6 h7 h0 h1 h2 h3 h4 h5 hB yb yu c0 f0 z0 c1 f1 z1 c2 f2 z2 c3 f3 z3 c4 f4 z4 c5 f5 z5 c6 f6 z6 c7 f7 z7 _ _ (by assumption) (by assumption)
        case rest =>
          obtain ⟨g13, g14, rfl, rfl, rfl, h8, h9, hBx⟩ := hcut
          obtain ⟨u4, hwc⟩ : ∃ wq, wq = wc := ⟨_, rfl⟩
          subst hwc
          have h0n := (hBx.block _ z0).trans h0
          clear h0 c0 f0 z0
          have h0 := h0n
          clear h0n
          have h1n := (hBx.block _ z1).trans h1
          clear h1 c1 f1 z1
          have h1 := h1n
          clear h1n
          have h2n := (hBx.block _ z2).trans h2
          clear h2 c2 f2 z2
          have h2 := h2n
          clear h2n
          have h3n := (hBx.block _ z3).trans h3
          clear h3 c3 f3 z3
          have h3 := h3n
          clear h3n
          have h4n := (hBx.block _ z4).trans h4
          clear h4 c4 f4 z4
          have h4 := h4n
          clear h4n
          have h5n := (hBx.block _ z5).trans h5
          clear h5 c5 f5 z5
          have h5 := h5n
          clear h5n
          have h6n := (hBx.block _ z6).trans h6
          clear h6 c6 f6 z6
          have h6 := h6n
          clear h6n
          have h7n := (hBx.block _ z7).trans h7
          clear h7 c7 f7 z7
          have h7 := h7n
          clear h7n
          have hB : Below w.heap.size w u4 := below_next (w := w) hB hBx
          have yb := hB.size
          have yu := hBx.size
          clear hBx
          obtain ⟨c0, f0, z0⟩ := blk_facts h0
          obtain ⟨c1, f1, z1⟩ := blk_facts h1
          obtain ⟨c2, f2, z2⟩ := blk_facts h2
          obtain ⟨c3, f3, z3⟩ := blk_facts h3
          obtain ⟨c4, f4, z4⟩ := blk_facts h4
          obtain ⟨c5, f5, z5⟩ := blk_facts h5
          obtain ⟨c6, f6, z6⟩ := blk_facts h6
          obtain ⟨c7, f7, z7⟩ := blk_facts h7
          obtain ⟨c8, f8, z8⟩ := blk_facts h8
          obtain ⟨c9, f9, z9⟩ := blk_facts h9
          go_upto_region 10 with fail
          go_cut [16] from 22 to 114 (fun s16 wx => ∃ g16 : Nat, s16 = .pointer (some ⟨g16, 0, none⟩) ∧ wx.heap[g16]? = some (.cells #[.bool r3.on, .int .i64 r3.high, .int .i64 r3.since, .int .u16 r3.off.seq, .int .u32 r3.off.time, .int .u16 r3.off.pic, .int .u8 r3.off.tl0, .int .u16 r3.out.seq, .int .u32 r3.out.time, .int .u16 r3.out.pic, .int .u8 r3.out.tl0] 27 (0, 0)) ∧ Below u4.heap.size u4 wx)
          case first =>
            go_wp2_with fail
            with_reducible refine (drop_eq s r3 x bg _ HR3.out (by omega) (by omega) qo0 qo1).mono ?_
            rintro e wd ⟨rfl, hb⟩
            have hBy := hb
            have zS := hb.size
            clear hb
            all_goals (go_wp2_with fail; go_meet; go_split_ands; as_aux_lemma => exact ⟨_, rfl, (Eq.trans (b := some (Obj.cells _ _ (0, 0))) (by repeat (first | (with_reducible assumption) | (with_reducible apply heap_set_row11) | (with_reducible apply heap_set_row4) | (with_reducible apply heap_set_same) | ((with_reducible apply heap_set_other'); (focus (first | omega | (simp; done) | (simp; omega)))) | ((with_reducible apply heap_alloc_new); (focus (first | omega | (simp; done) | (simp; omega)))) | (with_reducible apply heap_alloc_old') | (with_reducible apply (heap_drew_at _ _).trans) | (with_reducible apply (heap_drewN_at _ _ _).trans) | (simp only [List.size_toArray, List.length_cons, List.length_nil]; done))) (by exact rfl)), by first | (with_reducible exact Below.refl _ _) | go_grown⟩)
          case rest =>
            obtain ⟨g16, rfl, ha, hBx⟩ := hcut
            obtain ⟨u5, hwc⟩ : ∃ wq, wq = wc := ⟨_, rfl⟩
            subst hwc
            have h0n := (hBx.block _ z0).trans h0
            clear h0 c0 f0 z0
            have h0 := h0n
            clear h0n
            have h1n := (hBx.block _ z1).trans h1
            clear h1 c1 f1 z1
            have h1 := h1n
            clear h1n
            have h2n := (hBx.block _ z2).trans h2
            clear h2 c2 f2 z2
            have h2 := h2n
            clear h2n
            have h3n := (hBx.block _ z3).trans h3
            clear h3 c3 f3 z3
            have h3 := h3n
            clear h3n
            have h4n := (hBx.block _ z4).trans h4
            clear h4 c4 f4 z4
            have h4 := h4n
            clear h4n
            have h5n := (hBx.block _ z5).trans h5
            clear h5 c5 f5 z5
            have h5 := h5n
            clear h5n
            have h6n := (hBx.block _ z6).trans h6
            clear h6 c6 f6 z6
            have h6 := h6n
            clear h6n
            have h7n := (hBx.block _ z7).trans h7
            clear h7 c7 f7 z7
            have h7 := h7n
            clear h7n
            have h8n := (hBx.block _ z8).trans h8
            clear h8 c8 f8 z8
            have h8 := h8n
            clear h8n
            have h9n := (hBx.block _ z9).trans h9
            clear h9 c9 f9 z9
            have h9 := h9n
            clear h9n
            have hB : Below w.heap.size w u5 := below_next (w := w) hB hBx
            have yb := hB.size
            have yu := hBx.size
            clear hBx
            obtain ⟨c0, f0, z0⟩ := blk_facts h0
            obtain ⟨c1, f1, z1⟩ := blk_facts h1
            obtain ⟨c2, f2, z2⟩ := blk_facts h2
            obtain ⟨c3, f3, z3⟩ := blk_facts h3
            obtain ⟨c4, f4, z4⟩ := blk_facts h4
            obtain ⟨c5, f5, z5⟩ := blk_facts h5
            obtain ⟨c6, f6, z6⟩ := blk_facts h6
            obtain ⟨c7, f7, z7⟩ := blk_facts h7
            obtain ⟨c8, f8, z8⟩ := blk_facts h8
            obtain ⟨c9, f9, z9⟩ := blk_facts h9
            obtain ⟨ca, fa, za⟩ := blk_facts ha
            go_upto_region 11 with fail
            go_cut [17] from 22 to 114 (fun s17 wx => ∃ g17 : Nat, s17 = .pointer (some ⟨g17, 0, none⟩) ∧ wx.heap[g17]? = some (.cells #[.bool r3.on, .int .i64 r3.high, .int .i64 r3.since, .int .i64 r3.off.seq, .int .i64 r3.off.time, .int .i64 r3.off.pic, .int .i64 r3.off.tl0, .int .i64 r3.out.seq, .int .i64 r3.out.time, .int .i64 r3.out.pic, .int .i64 r3.out.tl0] 36 (0, 0)) ∧ Below u5.heap.size u5 wx)
            case first =>
              exact tells_first11 s x tm kd bg w m0 m1 x0 x1 (by assumption) (by assumption) (by assumption) (by assumption) (by assumption) (by assumption) o r r2 m is r3 H2 H2M H3 HO HRr HR2 HR3 HRO HRT HOO hti qo0 qo1 qp0 qp1 HA HB HX _ hh hl w1a (by assumption) y1 zz (by assumption) (by assumption) (by assumption) (by assumption) (by assumption) (by assumption) (by assumption) (by assumption) (by assumption) (by assumption) (by assumption) (by assumption) (by assumption) (by assumption) (by assumption) (by assumption) (by assumption) (by assumption) (by assumption) (by assumption) (by assumption) (by assumption) (by assumption) (by assumption) (by assumption) (by assumption) (by assumption) (by assumption) (by assumption) (by assumption) (by assumption) (by assumption) (by assumption) (by assumption) (by assumption) (by assumption) (by assumption) (by assumption) (by assumption) (by assumption) (by assumption) (by assumption) (by assumption) (by assumption) (by assumption) (by assumption) (by assumption) (by assumption) (by assumption) (by assumption) (by assumption) (by assumption) (by assumption) (by assumption) (by assumption) (by assumption) (by assumption) (by assumption) (by assumption) (by assumption) (by assumption) (by assumption) (by assumption) (by assumption) (by assumption) (by assumption) (by assumption) (by assumption) (by assumption) (by assumption) (by assumption) (by assumption) (by assumption) (by assumption) (by assumption) (by assumption) (by assumption) (by assumption) (by assumption) (by assumption) (by assumption) (by assumption) (by assumption) (by assumption) (by assumption) (by assumption) (by assumption) (by assumption) (by assumption) (by assumption) (by assumption) (by assumption) (by assumption) (by assumption) g6 g7 u1 (by assumption) (by assumption) (by assumption) (by assumption) (by assumption) (by assumption) (by assumption) (by assumption) (by assumption) (by assumption) (by assumption) (by assumption) (by assumption) (by assumption) (by assumption) (by assumption) (by assumption) (by assumption) (by assumption) (by assumption) (by assumption) (by assumption) (by assumption) (by assumption) (by assumption) (by assumption) (by assumption) (by assumption) (by assumption) (by assumption) (by assumption) (by assumption) (by assumption) (by assumption) (by assumption) (by assumption) (by assumption) (by assumption) (by assumption) (by assumption) (by assumption) (by assumption) (by assumption) (by assumption) (by assumption) (by assumption) (by assumption) (by assumption) (by assumption) (by assumption) (by assumption) (by assumption) (by assumption) (by assumption) (by assumption) (by assumption) (by assumption) (by assumption) (by assumption) (by assumption) (by assumption) (by assumption) (by assumption) (by assumption) (by assumption) (by assumption) (by assumption) (by assumption) (by assumption) (by assumption) (by assumption) (by assumption) (by assumption) (by assumption) (by assumption) (by assumption) (by assumption) (by assumption) (by assumption) (by assumption) (by assumption) (by assumption) (by assumption) (by assumption) (by assumption) (by assumption) (by assumption) (by assumption) (by assumption) (by assumption) (by assumption) (by assumption) (by assumption) (by assumption) (by assumption) (by assumption) g8 g9 u2 (by assumption) (by assumption) (by assumption) (by assumption) (by assumption) (by assumption) (by assumption) (by assumption) (by assumption) (by assumption) (by assumption) (by assumption) (by assumption) (by assumption) (by assumption) (by assumption) (by assumption) (by assumption) (by assumption) (by assumption) (by assumption) (by assumption) (by assumption) (by assumption) (by assumption) (by assumption) (by assumption) (by assumption) (by assumption) (by assumption) (by assumption) (by assumption) (by assumption) (by assumption) (by assumption) (by assumption) (by assumption) (by assumption) (by assumption) (by assumption) (by assumption) (by assumption) (by assumption) (by assumption) (by assumption) (by assumption) (by assumption) (by assumption) (by assumption) (by assumption) (by assumption) (by assumption) (by assumption) (by assumption) (by assumption) (by assumption) (by assumption) (by assumption) (by assumption) (by assumption) (by assumption) (by assumption) (by assumption) (by assumption) (by assumption) (by assumption) (by assumption) (by assumption) (by assumption) (by assumption) (by assumption) (by assumption) (by assumption) (by assumption) (by assumption) (by assumption) (by assumption) (by assumption) (by assumption) (by assumption) (by assumption) (by assumption) (by assumption) (by assumption) (by assumption) (by assumption) (by assumption) (by assumption) (by assumption) (by assumption) (by assumption) (by assumption) (by assumption) (by assumption) (by assumption) (by assumption) g10 g11 u3 (by assumption) (by assumption) (by assumption) (by assumption) (by assumption) (by assumption) (by assumption) (by assumption) (by assumption) (by assumption) (by assumption) (by assumption) (by assumption) (by assumption) (by assumption) (by assumption) (by assumption) (by assumption) (by assumption) (by assumption) (by assumption) (by assumption) (by assumption) (by assumption) (by assumption) (by assumption) (by assumption) (by assumption) (by assumption) (by assumption) (by assumption) (by assumption) (by assumption) (by assumption) (by assumption) (by assumption) (by assumption) (by assumption) (by assumption) (by assumption) (by assumption) (by assumption) (by assumption) (by assumption) (by assumption) (by assumption) (by assumption) (by assumption) (by assumption) (by assumption) (by assumption) (by assumption) (by assumption) (by assumption) (by assumption) (by assumption) (by assumption) (by assumption) (by assumption) (by assumption) (by assumption) (by assumption) (by assumption) (by assumption) (by assumption) (by assumption) (by assumption) (by assumption) (by assumption) (by assumption) (by assumption) (by assumption) (by assumption) (by assumption) (by assumption) (by assumption) (by assumption) (by assumption) (by assumption) (by assumption) (by assumption) (by assumption) (by assumption) (by assumption) (by assumption) (by assumption) (by assumption) (by assumption) (by assumption) (by assumption) (by assumption) (by assumption) (by assumption) (by assumption) (by assumption) (by assumption) g13 g14 u4 (by assumption) (by assumption) (by assumption) u22 u23 u24 u25 u26 u27 u28 u29 u30 u31 u32 u33 u34 u35 u36 u37 u38 u39 u40 u41 u42 u43 u44 u45 u46 u47 u48 u49 u50 u51 u52 u53 u54 u55 u56 u57 u58 u59 u60 u61 u62 u63 u64 u65 u66 u67 u68 u69 u70 u71 u72 u73 u74 u75 u76 u77 u78 u79 u80 u81 u82 u83 u84 u85 u86 u87 u88 u89 u90 u91 u92 u93 u94 u95 u96 u97 u98 u99 u100 u101 u102 u103 u104 u105 u106 u107 u108 u109 u110 u111 u112 u113 u114 g16 u5 ha h0 h1 h2 h3 h4 h5 h6 h7 h8 h9 hB yb yu c0 f0 z0 c1 f1 z1 c2 f2 z2 c3 f3 z3 c4 f4 z4 c5 f5 z5 c6 f6 z6 c7 f7 z7 c8 f8 z8 c9 f9 z9 ca fa za _ _ (by assumption) (by assumption)
            case rest =>
              obtain ⟨g17, rfl, hb, hBx⟩ := hcut
              obtain ⟨u6, hwc⟩ : ∃ wq, wq = wc := ⟨_, rfl⟩
              subst hwc
              have h0n := (hBx.block _ z0).trans h0
              clear h0 c0 f0 z0
              have h0 := h0n
              clear h0n
              have h1n := (hBx.block _ z1).trans h1
              clear h1 c1 f1 z1
              have h1 := h1n
              clear h1n
              have h2n := (hBx.block _ z2).trans h2
              clear h2 c2 f2 z2
              have h2 := h2n
              clear h2n
              have h3n := (hBx.block _ z3).trans h3
              clear h3 c3 f3 z3
              have h3 := h3n
              clear h3n
              have h4n := (hBx.block _ z4).trans h4
              clear h4 c4 f4 z4
              have h4 := h4n
              clear h4n
              have h5n := (hBx.block _ z5).trans h5
              clear h5 c5 f5 z5
              have h5 := h5n
              clear h5n
              have h6n := (hBx.block _ z6).trans h6
              clear h6 c6 f6 z6
              have h6 := h6n
              clear h6n
              have h7n := (hBx.block _ z7).trans h7
              clear h7 c7 f7 z7
              have h7 := h7n
              clear h7n
              have h8n := (hBx.block _ z8).trans h8
              clear h8 c8 f8 z8
              have h8 := h8n
              clear h8n
              have h9n := (hBx.block _ z9).trans h9
              clear h9 c9 f9 z9
              have h9 := h9n
              clear h9n
              have han := (hBx.block _ za).trans ha
              clear ha ca fa za
              have ha := han
              clear han
              have hB : Below w.heap.size w u6 := below_next (w := w) hB hBx
              have yb := hB.size
              have yu := hBx.size
              clear hBx
              obtain ⟨c0, f0, z0⟩ := blk_facts h0
              obtain ⟨c1, f1, z1⟩ := blk_facts h1
              obtain ⟨c2, f2, z2⟩ := blk_facts h2
              obtain ⟨c3, f3, z3⟩ := blk_facts h3
              obtain ⟨c4, f4, z4⟩ := blk_facts h4
              obtain ⟨c5, f5, z5⟩ := blk_facts h5
              obtain ⟨c6, f6, z6⟩ := blk_facts h6
              obtain ⟨c7, f7, z7⟩ := blk_facts h7
              obtain ⟨c8, f8, z8⟩ := blk_facts h8
              obtain ⟨c9, f9, z9⟩ := blk_facts h9
              obtain ⟨ca, fa, za⟩ := blk_facts ha
              obtain ⟨cb, fb, zb⟩ := blk_facts hb
              have hW0 := hB
              clear hB
              go_upto_region 12 with fail
              go_region_held3 (fun w' => (∀ j, w'.cell? ⟨g6, j, none⟩ = #[.bool r.on, .int .i64 r.high, .int .i64 r.since, .int .u16 r.off.seq, .int .u32 r.off.time, .int .u16 r.off.pic, .int .u8 r.off.tl0, .int .u16 r.out.seq, .int .u32 r.out.time, .int .u16 r.out.pic, .int .u8 r.out.tl0][j]?) ∧ (∀ j, w'.cell? ⟨g7, j, none⟩ = #[.int .u16 o.seq, .int .u32 o.time, .int .u16 o.pic, .int .u8 o.tl0][j]?) ∧ (∀ j, w'.cell? ⟨g8, j, none⟩ = #[.bool r.on, .int .i64 r.high, .int .i64 r.since, .int .i64 r.off.seq, .int .i64 r.off.time, .int .i64 r.off.pic, .int .i64 r.off.tl0, .int .i64 r.out.seq, .int .i64 r.out.time, .int .i64 r.out.pic, .int .i64 r.out.tl0][j]?) ∧ (∀ j, w'.cell? ⟨g9, j, none⟩ = #[.int .i64 o.seq, .int .i64 o.time, .int .i64 o.pic, .int .i64 o.tl0][j]?) ∧ (∀ j, w'.cell? ⟨g10, j, none⟩ = #[.bool r2.on, .int .i64 r2.high, .int .i64 r2.since, .int .u16 r2.off.seq, .int .u32 r2.off.time, .int .u16 r2.off.pic, .int .u8 r2.off.tl0, .int .u16 r2.out.seq, .int .u32 r2.out.time, .int .u16 r2.out.pic, .int .u8 r2.out.tl0][j]?) ∧ (∀ j, w'.cell? ⟨g11, j, none⟩ = #[.int .u16 m.seq, .int .u32 m.time, .int .u16 m.pic, .int .u8 m.tl0][j]?) ∧ (∀ j, w'.cell? ⟨g13, j, none⟩ = #[.bool r2.on, .int .i64 r2.high, .int .i64 r2.since, .int .i64 r2.off.seq, .int .i64 r2.off.time, .int .i64 r2.off.pic, .int .i64 r2.off.tl0, .int .i64 r2.out.seq, .int .i64 r2.out.time, .int .i64 r2.out.pic, .int .i64 r2.out.tl0][j]?) ∧ (∀ j, w'.cell? ⟨g14, j, none⟩ = #[.int .i64 m.seq, .int .i64 m.time, .int .i64 m.pic, .int .i64 m.tl0][j]?) ∧ (∀ j, w'.cell? ⟨g16, j, none⟩ = #[.bool r3.on, .int .i64 r3.high, .int .i64 r3.since, .int .u16 r3.off.seq, .int .u32 r3.off.time, .int .u16 r3.off.pic, .int .u8 r3.off.tl0, .int .u16 r3.out.seq, .int .u32 r3.out.time, .int .u16 r3.out.pic, .int .u8 r3.out.tl0][j]?) ∧ (∀ j, w'.cell? ⟨g17, j, none⟩ = #[.bool r3.on, .int .i64 r3.high, .int .i64 r3.since, .int .i64 r3.off.seq, .int .i64 r3.off.time, .int .i64 r3.off.pic, .int .i64 r3.off.tl0, .int .i64 r3.out.seq, .int .i64 r3.out.time, .int .i64 r3.out.pic, .int .i64 r3.out.tl0][j]?) ∧ Below u6.heap.size u6 w') (((as_aux_lemma => ((refine keep10 z2 c2 z3 c3 z4 c4 z5 c5 z6 c6 z7 c7 z8 c8 z9 c9 za ca zb cb ?_; (first | (with_reducible exact Below.refl _ _) | (go_split_ands; first | (with_reducible assumption) | go_grown))))))) (first | (go_at_call 13; go_split_ands; (with_reducible refine (of_eq r _ HRO.out HRT.out).mono ?_); rintro e w2 ⟨rfl, hb⟩; have hB := below_next (w := u6) (by first | (with_reducible exact Below.refl _ _) | (with_reducible assumption) | go_grown) hb; have zS := hB.size; (try first | ((have hn := heap_below hb (by first | omega | (simp; done) | (simp; omega)) hP); clear hP fP cP; have hP := hn; clear hn; (try simp only [size_alloc] at hP); obtain ⟨cP, fP, zP⟩ := blk_facts hP) | ((have hn := heap_below hb (by first | omega | (simp; done) | (simp; omega)) (heap_alloc_old' hP)); clear hP fP cP; have hP := hn; clear hn; (try simp only [size_alloc] at hP); obtain ⟨cP, fP, zP⟩ := blk_facts hP) | ((have hn := heap_below hb (by first | omega | (simp; done) | (simp; omega)) (heap_alloc_old' (heap_alloc_old' hP))); clear hP fP cP; have hP := hn; clear hn; (try simp only [size_alloc] at hP); obtain ⟨cP, fP, zP⟩ := blk_facts hP) | ((have hP : w2.heap[(_ : Nat)]? = some (Obj.cells _ 36 (0, 0)) := (hb.block _ (lt_alloc _ _)).trans (heap_alloc_new _ _ _ rfl)); (try simp only [size_alloc] at hP); obtain ⟨cP, fP, zP⟩ := blk_facts hP) | ((have hP : w2.heap[(_ : Nat)]? = some (Obj.cells _ 36 (0, 0)) := (hb.block _ (Nat.lt_trans (lt_alloc _ _) (lt_alloc _ _))).trans (heap_alloc_old' (heap_alloc_new _ _ _ rfl))); (try simp only [size_alloc] at hP); obtain ⟨cP, fP, zP⟩ := blk_facts hP)); (try first | ((have hn := heap_below hb (by first | omega | (simp; done) | (simp; omega)) hQ); clear hQ fQ cQ; have hQ := hn; clear hn; (try simp only [size_alloc] at hQ); obtain ⟨cQ, fQ, zQ⟩ := blk_facts hQ) | ((have hn := heap_below hb (by first | omega | (simp; done) | (simp; omega)) (heap_alloc_old' hQ)); clear hQ fQ cQ; have hQ := hn; clear hn; (try simp only [size_alloc] at hQ); obtain ⟨cQ, fQ, zQ⟩ := blk_facts hQ) | ((have hn := heap_below hb (by first | omega | (simp; done) | (simp; omega)) (heap_alloc_old' (heap_alloc_old' hQ))); clear hQ fQ cQ; have hQ := hn; clear hn; (try simp only [size_alloc] at hQ); obtain ⟨cQ, fQ, zQ⟩ := blk_facts hQ) | ((have hQ : w2.heap[(_ : Nat)]? = some (Obj.cells _ 34 (0, 0)) := (hb.block _ (lt_alloc _ _)).trans (heap_alloc_new _ _ _ rfl)); (try simp only [size_alloc] at hQ); obtain ⟨cQ, fQ, zQ⟩ := blk_facts hQ) | ((have hQ : w2.heap[(_ : Nat)]? = some (Obj.cells _ 34 (0, 0)) := (hb.block _ (Nat.lt_trans (lt_alloc _ _) (lt_alloc _ _))).trans (heap_alloc_old' (heap_alloc_new _ _ _ rfl))); (try simp only [size_alloc] at hQ); obtain ⟨cQ, fQ, zQ⟩ := blk_facts hQ)); clear hb) | (go_at_call 14; go_split_ands; (with_reducible refine (nums_eq o _ HOO.out).mono ?_); rintro e w2 ⟨rfl, hb⟩; have hB := below_next (w := u6) (by first | (with_reducible exact Below.refl _ _) | (with_reducible assumption) | go_grown) hb; have zS := hB.size; (try first | ((have hn := heap_below hb (by first | omega | (simp; done) | (simp; omega)) hP); clear hP fP cP; have hP := hn; clear hn; (try simp only [size_alloc] at hP); obtain ⟨cP, fP, zP⟩ := blk_facts hP) | ((have hn := heap_below hb (by first | omega | (simp; done) | (simp; omega)) (heap_alloc_old' hP)); clear hP fP cP; have hP := hn; clear hn; (try simp only [size_alloc] at hP); obtain ⟨cP, fP, zP⟩ := blk_facts hP) | ((have hn := heap_below hb (by first | omega | (simp; done) | (simp; omega)) (heap_alloc_old' (heap_alloc_old' hP))); clear hP fP cP; have hP := hn; clear hn; (try simp only [size_alloc] at hP); obtain ⟨cP, fP, zP⟩ := blk_facts hP) | ((have hP : w2.heap[(_ : Nat)]? = some (Obj.cells _ 36 (0, 0)) := (hb.block _ (lt_alloc _ _)).trans (heap_alloc_new _ _ _ rfl)); (try simp only [size_alloc] at hP); obtain ⟨cP, fP, zP⟩ := blk_facts hP) | ((have hP : w2.heap[(_ : Nat)]? = some (Obj.cells _ 36 (0, 0)) := (hb.block _ (Nat.lt_trans (lt_alloc _ _) (lt_alloc _ _))).trans (heap_alloc_old' (heap_alloc_new _ _ _ rfl))); (try simp only [size_alloc] at hP); obtain ⟨cP, fP, zP⟩ := blk_facts hP)); (try first | ((have hn := heap_below hb (by first | omega | (simp; done) | (simp; omega)) hQ); clear hQ fQ cQ; have hQ := hn; clear hn; (try simp only [size_alloc] at hQ); obtain ⟨cQ, fQ, zQ⟩ := blk_facts hQ) | ((have hn := heap_below hb (by first | omega | (simp; done) | (simp; omega)) (heap_alloc_old' hQ)); clear hQ fQ cQ; have hQ := hn; clear hn; (try simp only [size_alloc] at hQ); obtain ⟨cQ, fQ, zQ⟩ := blk_facts hQ) | ((have hn := heap_below hb (by first | omega | (simp; done) | (simp; omega)) (heap_alloc_old' (heap_alloc_old' hQ))); clear hQ fQ cQ; have hQ := hn; clear hn; (try simp only [size_alloc] at hQ); obtain ⟨cQ, fQ, zQ⟩ := blk_facts hQ) | ((have hQ : w2.heap[(_ : Nat)]? = some (Obj.cells _ 34 (0, 0)) := (hb.block _ (lt_alloc _ _)).trans (heap_alloc_new _ _ _ rfl)); (try simp only [size_alloc] at hQ); obtain ⟨cQ, fQ, zQ⟩ := blk_facts hQ) | ((have hQ : w2.heap[(_ : Nat)]? = some (Obj.cells _ 34 (0, 0)) := (hb.block _ (Nat.lt_trans (lt_alloc _ _) (lt_alloc _ _))).trans (heap_alloc_old' (heap_alloc_new _ _ _ rfl))); (try simp only [size_alloc] at hQ); obtain ⟨cQ, fQ, zQ⟩ := blk_facts hQ)); clear hb) | (go_at_call 13; go_split_ands; (with_reducible refine (of_eq r2 _ H2.out.off H2.out.out).mono ?_); rintro e w2 ⟨rfl, hb⟩; have hB := below_next (w := u6) (by first | (with_reducible exact Below.refl _ _) | (with_reducible assumption) | go_grown) hb; have zS := hB.size; (try first | ((have hn := heap_below hb (by first | omega | (simp; done) | (simp; omega)) hP); clear hP fP cP; have hP := hn; clear hn; (try simp only [size_alloc] at hP); obtain ⟨cP, fP, zP⟩ := blk_facts hP) | ((have hn := heap_below hb (by first | omega | (simp; done) | (simp; omega)) (heap_alloc_old' hP)); clear hP fP cP; have hP := hn; clear hn; (try simp only [size_alloc] at hP); obtain ⟨cP, fP, zP⟩ := blk_facts hP) | ((have hn := heap_below hb (by first | omega | (simp; done) | (simp; omega)) (heap_alloc_old' (heap_alloc_old' hP))); clear hP fP cP; have hP := hn; clear hn; (try simp only [size_alloc] at hP); obtain ⟨cP, fP, zP⟩ := blk_facts hP) | ((have hP : w2.heap[(_ : Nat)]? = some (Obj.cells _ 36 (0, 0)) := (hb.block _ (lt_alloc _ _)).trans (heap_alloc_new _ _ _ rfl)); (try simp only [size_alloc] at hP); obtain ⟨cP, fP, zP⟩ := blk_facts hP) | ((have hP : w2.heap[(_ : Nat)]? = some (Obj.cells _ 36 (0, 0)) := (hb.block _ (Nat.lt_trans (lt_alloc _ _) (lt_alloc _ _))).trans (heap_alloc_old' (heap_alloc_new _ _ _ rfl))); (try simp only [size_alloc] at hP); obtain ⟨cP, fP, zP⟩ := blk_facts hP)); (try first | ((have hn := heap_below hb (by first | omega | (simp; done) | (simp; omega)) hQ); clear hQ fQ cQ; have hQ := hn; clear hn; (try simp only [size_alloc] at hQ); obtain ⟨cQ, fQ, zQ⟩ := blk_facts hQ) | ((have hn := heap_below hb (by first | omega | (simp; done) | (simp; omega)) (heap_alloc_old' hQ)); clear hQ fQ cQ; have hQ := hn; clear hn; (try simp only [size_alloc] at hQ); obtain ⟨cQ, fQ, zQ⟩ := blk_facts hQ) | ((have hn := heap_below hb (by first | omega | (simp; done) | (simp; omega)) (heap_alloc_old' (heap_alloc_old' hQ))); clear hQ fQ cQ; have hQ := hn; clear hn; (try simp only [size_alloc] at hQ); obtain ⟨cQ, fQ, zQ⟩ := blk_facts hQ) | ((have hQ : w2.heap[(_ : Nat)]? = some (Obj.cells _ 34 (0, 0)) := (hb.block _ (lt_alloc _ _)).trans (heap_alloc_new _ _ _ rfl)); (try simp only [size_alloc] at hQ); obtain ⟨cQ, fQ, zQ⟩ := blk_facts hQ) | ((have hQ : w2.heap[(_ : Nat)]? = some (Obj.cells _ 34 (0, 0)) := (hb.block _ (Nat.lt_trans (lt_alloc _ _) (lt_alloc _ _))).trans (heap_alloc_old' (heap_alloc_new _ _ _ rfl))); (try simp only [size_alloc] at hQ); obtain ⟨cQ, fQ, zQ⟩ := blk_facts hQ)); clear hb) | (go_at_call 14; go_split_ands; (with_reducible refine (nums_eq m _ H2M.out).mono ?_); rintro e w2 ⟨rfl, hb⟩; have hB := below_next (w := u6) (by first | (with_reducible exact Below.refl _ _) | (with_reducible assumption) | go_grown) hb; have zS := hB.size; (try first | ((have hn := heap_below hb (by first | omega | (simp; done) | (simp; omega)) hP); clear hP fP cP; have hP := hn; clear hn; (try simp only [size_alloc] at hP); obtain ⟨cP, fP, zP⟩ := blk_facts hP) | ((have hn := heap_below hb (by first | omega | (simp; done) | (simp; omega)) (heap_alloc_old' hP)); clear hP fP cP; have hP := hn; clear hn; (try simp only [size_alloc] at hP); obtain ⟨cP, fP, zP⟩ := blk_facts hP) | ((have hn := heap_below hb (by first | omega | (simp; done) | (simp; omega)) (heap_alloc_old' (heap_alloc_old' hP))); clear hP fP cP; have hP := hn; clear hn; (try simp only [size_alloc] at hP); obtain ⟨cP, fP, zP⟩ := blk_facts hP) | ((have hP : w2.heap[(_ : Nat)]? = some (Obj.cells _ 36 (0, 0)) := (hb.block _ (lt_alloc _ _)).trans (heap_alloc_new _ _ _ rfl)); (try simp only [size_alloc] at hP); obtain ⟨cP, fP, zP⟩ := blk_facts hP) | ((have hP : w2.heap[(_ : Nat)]? = some (Obj.cells _ 36 (0, 0)) := (hb.block _ (Nat.lt_trans (lt_alloc _ _) (lt_alloc _ _))).trans (heap_alloc_old' (heap_alloc_new _ _ _ rfl))); (try simp only [size_alloc] at hP); obtain ⟨cP, fP, zP⟩ := blk_facts hP)); (try first | ((have hn := heap_below hb (by first | omega | (simp; done) | (simp; omega)) hQ); clear hQ fQ cQ; have hQ := hn; clear hn; (try simp only [size_alloc] at hQ); obtain ⟨cQ, fQ, zQ⟩ := blk_facts hQ) | ((have hn := heap_below hb (by first | omega | (simp; done) | (simp; omega)) (heap_alloc_old' hQ)); clear hQ fQ cQ; have hQ := hn; clear hn; (try simp only [size_alloc] at hQ); obtain ⟨cQ, fQ, zQ⟩ := blk_facts hQ) | ((have hn := heap_below hb (by first | omega | (simp; done) | (simp; omega)) (heap_alloc_old' (heap_alloc_old' hQ))); clear hQ fQ cQ; have hQ := hn; clear hn; (try simp only [size_alloc] at hQ); obtain ⟨cQ, fQ, zQ⟩ := blk_facts hQ) | ((have hQ : w2.heap[(_ : Nat)]? = some (Obj.cells _ 34 (0, 0)) := (hb.block _ (lt_alloc _ _)).trans (heap_alloc_new _ _ _ rfl)); (try simp only [size_alloc] at hQ); obtain ⟨cQ, fQ, zQ⟩ := blk_facts hQ) | ((have hQ : w2.heap[(_ : Nat)]? = some (Obj.cells _ 34 (0, 0)) := (hb.block _ (Nat.lt_trans (lt_alloc _ _) (lt_alloc _ _))).trans (heap_alloc_old' (heap_alloc_new _ _ _ rfl))); (try simp only [size_alloc] at hQ); obtain ⟨cQ, fQ, zQ⟩ := blk_facts hQ)); clear hb) | (go_at_call 13; go_split_ands; (with_reducible refine (of_eq r3 _ H3.out.off H3.out.out).mono ?_); rintro e w2 ⟨rfl, hb⟩; have hB := below_next (w := u6) (by first | (with_reducible exact Below.refl _ _) | (with_reducible assumption) | go_grown) hb; have zS := hB.size; (try first | ((have hn := heap_below hb (by first | omega | (simp; done) | (simp; omega)) hP); clear hP fP cP; have hP := hn; clear hn; (try simp only [size_alloc] at hP); obtain ⟨cP, fP, zP⟩ := blk_facts hP) | ((have hn := heap_below hb (by first | omega | (simp; done) | (simp; omega)) (heap_alloc_old' hP)); clear hP fP cP; have hP := hn; clear hn; (try simp only [size_alloc] at hP); obtain ⟨cP, fP, zP⟩ := blk_facts hP) | ((have hn := heap_below hb (by first | omega | (simp; done) | (simp; omega)) (heap_alloc_old' (heap_alloc_old' hP))); clear hP fP cP; have hP := hn; clear hn; (try simp only [size_alloc] at hP); obtain ⟨cP, fP, zP⟩ := blk_facts hP) | ((have hP : w2.heap[(_ : Nat)]? = some (Obj.cells _ 36 (0, 0)) := (hb.block _ (lt_alloc _ _)).trans (heap_alloc_new _ _ _ rfl)); (try simp only [size_alloc] at hP); obtain ⟨cP, fP, zP⟩ := blk_facts hP) | ((have hP : w2.heap[(_ : Nat)]? = some (Obj.cells _ 36 (0, 0)) := (hb.block _ (Nat.lt_trans (lt_alloc _ _) (lt_alloc _ _))).trans (heap_alloc_old' (heap_alloc_new _ _ _ rfl))); (try simp only [size_alloc] at hP); obtain ⟨cP, fP, zP⟩ := blk_facts hP)); (try first | ((have hn := heap_below hb (by first | omega | (simp; done) | (simp; omega)) hQ); clear hQ fQ cQ; have hQ := hn; clear hn; (try simp only [size_alloc] at hQ); obtain ⟨cQ, fQ, zQ⟩ := blk_facts hQ) | ((have hn := heap_below hb (by first | omega | (simp; done) | (simp; omega)) (heap_alloc_old' hQ)); clear hQ fQ cQ; have hQ := hn; clear hn; (try simp only [size_alloc] at hQ); obtain ⟨cQ, fQ, zQ⟩ := blk_facts hQ) | ((have hn := heap_below hb (by first | omega | (simp; done) | (simp; omega)) (heap_alloc_old' (heap_alloc_old' hQ))); clear hQ fQ cQ; have hQ := hn; clear hn; (try simp only [size_alloc] at hQ); obtain ⟨cQ, fQ, zQ⟩ := blk_facts hQ) | ((have hQ : w2.heap[(_ : Nat)]? = some (Obj.cells _ 34 (0, 0)) := (hb.block _ (lt_alloc _ _)).trans (heap_alloc_new _ _ _ rfl)); (try simp only [size_alloc] at hQ); obtain ⟨cQ, fQ, zQ⟩ := blk_facts hQ) | ((have hQ : w2.heap[(_ : Nat)]? = some (Obj.cells _ 34 (0, 0)) := (hb.block _ (Nat.lt_trans (lt_alloc _ _) (lt_alloc _ _))).trans (heap_alloc_old' (heap_alloc_new _ _ _ rfl))); (try simp only [size_alloc] at hQ); obtain ⟨cQ, fQ, zQ⟩ := blk_facts hQ)); clear hb))
              all_goals (go_wp2_with fail; go_ret; exact ⟨rfl, below_next (w := w) hW0 (by first | (with_reducible assumption) | go_grown)⟩)
end Go.Proofs.Ytidpkmabcndknaa
