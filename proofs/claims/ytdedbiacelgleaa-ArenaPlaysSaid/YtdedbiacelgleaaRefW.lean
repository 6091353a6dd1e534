/- The reference's slots, walked. -/
import Derived.Test.YtdedbiacelgleaaFnsI
import Derived.Test.YtdedbiacelgleaaSrc
import Derived.Deep.RegionHeld3
import Derived.Deep.DeepCutAuto
import Derived.Test.YtdedbiacelgleaaVia
namespace Go.Proofs.Ytdedbiacelgleaa
set_option linter.unusedSimpArgs false
set_option linter.unusedVariables false
open Go.RowKit

theorem info52 : (Try.prog.info? 52).map (fun i => (i.zero, i.size, i.bytes)) = some (some (.agg #[.int .i64 0, .int .u32 0, .bool false]), 3, 16) := by kernel_rfl
theorem res_tct {P : Program} {fn : Func} {p u v : Tmp} {ty : TypeId} {tmps : Array Value} {w : World} {g : Nat} {t : TypeId} {cs : Array Value} {d : TypeDesc} (h : fn.results = #[.tmp u, .cell p ty, .tmp v])
    (hp : tmps.getD p undef = .pointer (some ⟨g, 0, none⟩)) (hg : w.heap[g]? = some (.cells cs t (0, 0)))
    (hu : P.underlying ty = some d) (hd : (match d with | .struct _ | .array _ _ => true | _ => false) = true) (hi : (P.info? ty).map (·.size) = some cs.size) :
    (results fn tmps).run P w = .ok (.tuple #[tmps.getD u undef, .agg cs, tmps.getD v undef]) w := by
  have hp' : tmps[p]?.getD undef = .pointer (some ⟨g, 0, none⟩) := by simpa using hp
  simp [results, h, hp', asAddr, run_loadVar_row w g t ty cs (0, 0) d hg hu hd hi]
theorem ret_tct {P : Program} {fn : Func} {p u v : Tmp} {ty : TypeId} {R : Ending → World → Prop} {a : Act} {w : World} {g : Nat} {d : TypeDesc} (h : fn.results = #[.tmp u, .cell p ty, .tmp v]) (hp : a.tmps.getD p undef = .pointer (some ⟨g, 0, none⟩)) (hu : P.underlying ty = some d) (hd : (match d with | .struct _ | .array _ _ => true | _ => false) = true) (hz : a.defers = [])
    (key : ∃ cs t, w.heap[g]? = some (.cells cs t (0, 0)) ∧ (P.info? ty).map (·.size) = some cs.size ∧ R (.returned (.tuple #[a.tmps.getD u undef, .agg cs, a.tmps.getD v undef])) w) : bodyPost P fn R .ret a w := by
  obtain ⟨cs, t, h1, h2, h3⟩ := key
  exact bodyPost_ret (res_tct h hp h1 hu hd h2) hz h3
theorem below_drew' {B : Nat} {a w : World} (h : Below B a w) : Below B a w.drew := ⟨h.os, h.tape, h.output, h.size, h.block⟩
def Xi (l : List Sl) : Prop := ∀ s ∈ l, ∃ x : Int, s.x = .int .i64 x
theorem cellsF_one (l : List Sl) (h : Xi l) : ∀ u ∈ cellsF l, u.oneCell' = true := by
  induction l with
  | nil => intro u hu; simp [cellsF] at hu
  | cons p l ih =>
    intro u hu
    simp only [cellsF, List.mem_cons] at hu
    rcases hu with rfl | rfl | rfl | hu
    · obtain ⟨x, e⟩ := h p (by simp)
      rw [e]
      rfl
    · rfl
    · rfl
    · exact ih (fun s hs => h s (by simp [hs])) u hu
/-- A row of the reference in memory. -/
def RAt (w : World) (A : Option Addr) (l : List Sl) : Prop := ∃ b o cur, A = some ⟨b, o, none⟩ ∧ w.heap[b]? = some (.cells cur 52 (0, 0)) ∧ ∀ j u, (cellsF l)[j]? = some u → cur[o + j]? = some u
theorem RAt.below {w w' : World} {A : Option Addr} {l : List Sl} (h : RAt w A l) (hb : Below w.heap.size w w') : RAt w' A l := by
  obtain ⟨b, o, cur, h1, h2, h3⟩ := h
  exact ⟨b, o, cur, h1, heap_below hb (blk_lt h2) h2, h3⟩
theorem rat_set {w : World} {A : Option Addr} {l : List Sl} {p : Addr} {v : Value} {cs : Array Value} (hp : w.heap[p.block]? = some (.cells cs 31 (0, 0))) (h : RAt w A l) : RAt (w.setCell p v) A l := by
  obtain ⟨b, o, cur, h1, h2, h3⟩ := h
  exact ⟨b, o, cur, h1, heap_set_other' (fun e => by subst e; rw [h2] at hp; simp at hp) h2, h3⟩
theorem RAt.src {w : World} {A : Option Addr} {c : Nat} {l : List Sl} (h : RAt w A l) : SrcAt w A l.length c (cellsF l) := by
  obtain ⟨b, o, cur, rfl, h2, h3⟩ := h
  refine ⟨fun h => (by cases h), fun ad h j u hj => ?_⟩
  cases h
  rw [Addr.add_lit, (blk_facts h2).1]
  exact h3 j u hj
theorem rat_put {w : World} {b o i : Nat} {l : List Sl} {cur : Array Value} (h2 : w.heap[b]? = some (.cells cur 52 (0, 0))) (h6 : ∀ j u, (cellsF l)[j]? = some u → cur[o + j]? = some u) (hsz : o + l.length * 3 ≤ cur.size) (hi : i < l.length) (s : Sl) :
    RAt (((w.setCell ⟨b, o + i * 3, none⟩ s.x).setCell ⟨b, o + i * 3 + 1, none⟩ (.int .u32 s.turn)).setCell ⟨b, o + i * 3 + 2, none⟩ (.bool s.used)) (some ⟨b, o, none⟩) (l.set i s) := by
  refine ⟨b, o, _, rfl, heap_set_same _ _ (heap_set_same _ _ (heap_set_same _ _ h2)), fun j u hj => ?_⟩
  have hdl := cellsF_length l
  have e := cellsF_set l i hi s
  rw [← e] at hj
  simp only [List.getElem?_set, List.length_set] at hj
  simp only [Array.getElem?_setIfInBounds, Array.size_setIfInBounds]
  by_cases q2 : i * 3 + 2 = j
  · subst q2
    rw [if_pos (by omega), if_pos (by omega)]
    simpa [show i * 3 + 2 < (cellsF l).length by omega] using hj
  · by_cases q1 : i * 3 + 1 = j
    · subst q1
      rw [if_neg (by omega), if_pos (by omega), if_pos (by omega)]
      simpa [show i * 3 + 1 < (cellsF l).length by omega] using hj
    · by_cases q0 : i * 3 = j
      · subst q0
        rw [if_neg (by omega), if_neg (by omega), if_pos (by omega), if_pos (by omega)]
        simpa [show i * 3 < (cellsF l).length by omega] using hj
      · rw [if_neg (by omega), if_neg (by omega), if_neg (by omega)]
        rw [if_neg (by omega), if_neg (by omega), if_neg (by omega)] at hj
        exact h6 j u hj
def RowSaid (e : Ending) (w' : World) (l : List Sl) : Prop := ∃ A c, e = .returned (.slice A l.length c) ∧ RAt w' A l
set_option maxRecDepth 100000 in
set_option maxHeartbeats 1000000 in
theorem with_r (w : World) (A : Option Addr) (c : Nat) (l : List Sl) (i : Nat) (x t : Int) (u : Bool) (h : RAt w A l) (hX : Xi l) (hl : l.length ≤ 64) (hi' : i < l.length) :
    Calls Try.prog 24 #[.slice A l.length c, .int .i64 i, .agg #[.int .i64 x, .int .u32 t, .bool u]] w fun e w' => RowSaid e w' (l.set i ⟨.int .i64 x, t, u⟩) ∧ Below w.heap.size w w' := by
  have HR := Lib.hid h; clear h
  have HX := Lib.hid hX; clear hX
  obtain ⟨i0, hi, hz0, hz1, hz2⟩ := info_parts info52
  have HLn : Hid ((cellsF l).length = l.length * 3) := Lib.hid (cellsF_length l)
  go_enter Try.func24, Try.ntmps24
  have hB0 : Below w.heap.size w (w.alloc (.cells #[.int .i64 x, .int .u32 t, .bool u] 52)) := Below.alloc (Below.refl _ _) (Nat.le_refl _) _
  have hown : (w.alloc (.cells #[.int .i64 x, .int .u32 t, .bool u] 52)).ownsRow w.heap.size 52 3 (.slice none 0 0) 0 [] := World.ownsRow_nil _ _ _ _
  have hsrc := Lib.hid ((HR.out.below hB0).src (c := c))
  have hx0 : (w.alloc (.cells #[.int .i64 x, .int .u32 t, .bool u] 52)).heap[w.heap.size]? = some (.cells #[.int .i64 x, .int .u32 t, .bool u] 52 (0, 0)) := heap_alloc_new _ _ _ rfl
  have hge : (0 : Int) ≤ (i : Int) := by omega
  go_wp2_with (first
    | ((at_builtin; refine wpList_append_src _ rfl (.tmp 8) (.tmp 9) 44 rfl w.heap.size 52 i0 ((.agg #[.int .i64 0, .int .u32 0, .bool false])) 3 16 Try.underlying44 hi hz0 hz1 hz2 rfl (by decide) _ _ _ rfl hown _ _ _ (cellsF l) rfl HLn.out hsrc.out (cellsF_one _ HX.out) (by unfold maxLen; first | omega | (simp only [List.length_append, List.length_cons]; omega)) (by first | omega | (simp only [List.length_append, List.length_cons]; omega)) (by have := hB0.size; first | omega | (simp; omega)) ?_; intro v1 w1 hown1 hgrow1)
       have hown0 : w1.ownsRow w.heap.size 52 3 v1 l.length (cellsF l) := by simpa using hown1
       clear hown1
       have hxg : w1.heap[w.heap.size]? = some (.cells #[.int .i64 x, .int .u32 t, .bool u] 52 (0, 0)) := (hgrow1.block _ (by rw [size_alloc]; omega) (fun h => by have h2 : some w.heap.size = (Value.slice none 0 0).ownBlock := h; simp [Value.ownBlock] at h2)).trans hx0
       obtain ⟨A1, cap1, rfl⟩ := own_slice hown0
       obtain ⟨b2, cur, rfl, hb2, hh, hcs, hcc⟩ : ∃ b cur, A1 = some ⟨b, 0, none⟩ ∧ w.heap.size ≤ b ∧ w1.heap[b]? = some (.cells cur 52 (0, 0)) ∧ 0 + l.length * 3 ≤ cur.size ∧ ∀ j u, (cellsF l)[j]? = some u → cur[0 + j]? = some u := (by
         rcases hown0.2 with ⟨h1, h2⟩ | ⟨g, cap', cur, h1, hb, h3, h4, h5, h6⟩
         · omega
         · simp only [Value.slice.injEq] at h1
           refine ⟨g, cur, h1.1, hb, h3, by omega, fun j u hj => ?_⟩
           have hjl : j < l.length * 3 := by
             have := (List.getElem?_eq_some_iff.1 hj).1
             rw [cellsF_length] at this
             omega
           rw [Nat.zero_add, ← hj, ← h6.2, List.getElem?_take_of_lt hjl, Array.getElem?_toList])
       have hB1 : Below w.heap.size w w1 := below_grown hB0 hB0.size hown hgrow1
       obtain ⟨g0, g1, g2⟩ := cellsF_get l i hi'
       have e0 := ((blk_facts hh).1 (0 + i * 3)).trans (hcc _ _ g0)
       have e1 := ((blk_facts hh).1 (0 + (i * 3 + 1))).trans (hcc _ _ g1)
       have e2 := ((blk_facts hh).1 (0 + (i * 3 + 2))).trans (hcc _ _ g2)
       simp only [Nat.zero_add] at e0 e1 e2
       have f2 := (blk_facts hh).2.1
       have zb := blk_lt hh
       obtain ⟨cx, fx, zx⟩ := blk_facts hxg
       clear hgrow1 hown hown0 hsrc hB0 hx0 g0 g1 g2))
  go_ret
  have hput := rat_put hh hcc hcs hi' ⟨.int .i64 x, t, u⟩
  simp only [Nat.zero_add] at hput
  have q : w.heap.size ≤ b2 := hb2
  refine ⟨⟨_, cap1, ?_, hput⟩, ((hB1.setCell (p := ⟨b2, _, none⟩) q _).setCell (p := ⟨b2, _, none⟩) q _).setCell (p := ⟨b2, _, none⟩) q _⟩
  rw [List.length_set]
  rfl
theorem keepU {u w : World} {g b a0 : Nat} {s : Array Value} {v0 : Value} (z0 : g < u.heap.size) (c0 : ∀ j, u.cell? ⟨g, j, none⟩ = s[j]?) (hb : b < u.heap.size) (d0 : u.cell? ⟨b, a0, none⟩ = some v0) (h : Below u.heap.size u w) :
    (∀ j, w.cell? ⟨g, j, none⟩ = s[j]?) ∧ w.cell? ⟨b, a0, none⟩ = some v0 ∧ b < w.heap.size ∧ Below u.heap.size u w :=
  ⟨cells_below h z0 c0, (h.cell (p := ⟨b, a0, none⟩) hb).trans d0, Nat.lt_of_lt_of_le hb h.size, h⟩

set_option maxHeartbeats 2000000 in
theorem get_r_none (w : World) (A : Option Addr) (c : Nat) (l : List Sl) (sl tn : Int) (h : RAt w A l) (hl : l.length ≤ 64) (hf : atF l sl tn = none) :
    Calls Try.prog 14 #[.slice A l.length c, .agg #[.int .i64 sl, .int .u32 tn]] w fun e w' => e = .returned (.tuple #[.int .i64 0, .int .i64 26]) ∧ Below w.heap.size w w' := by
  have hw := atF_none hf
  have HA := Lib.hid hf; clear hf
  obtain ⟨b, o, cur, rfl, hh, hcc⟩ := h
  have zb := blk_lt hh
  rcases hw with hn | hn | ⟨i, rfl, hi, hn⟩
  · have b0 : decide (sl < 0) = true := by simpa using hn
    go_enter Try.func14, Try.ntmps14
    go_wp2_with fail
    go_quiet (fail)
    go_wp2_with fail
    go_ret2
    exact ⟨rfl, (below_drewN (Below.alloc (Below.refl _ _) (Nat.le_refl _) _) _)⟩
  · have b0 : decide (sl < 0) = false := by simp; omega
    have b3 : decide ((l.length : Int) ≤ sl) = true := by simpa using hn
    go_enter Try.func14, Try.ntmps14
    go_wp2_with fail
    go_quiet (fail)
    go_wp2_with fail
    go_ret2
    exact ⟨rfl, (below_drewN (Below.alloc (Below.refl _ _) (Nat.le_refl _) _) _)⟩
  · obtain ⟨g0, g1, g2⟩ := cellsF_get l i hi
    have d1 := ((blk_facts hh).1 (o + (i * 3 + 1))).trans (hcc _ _ g1)
    have d2 := ((blk_facts hh).1 (o + (i * 3 + 2))).trans (hcc _ _ g2)
    rw [← Nat.add_assoc] at d1 d2
    clear hcc g0 g1 g2
    have b0 : decide ((i : Int) < 0) = false := by simp
    have b1 : (0 : Int) ≤ (i : Int) := by omega
    have b2 : (i : Int) < (l.length : Int) := by omega
    have b3 : decide ((l.length : Int) ≤ (i : Int)) = false := by simpa using hi
    have b3n : decide (l.length ≤ i) = false := decide_eq_false (by omega)
    have hnle : ¬ l.length ≤ i := by omega
    rcases hn with hn | ⟨hn, hm⟩
    · rw [hn] at d2
      clear hn HA hh d1
      go_enter Try.func14, Try.ntmps14
      go_wp2_with fail
      go_quiet (fail)
      go_wp2_with fail
      go_ret2
      exact ⟨rfl, (below_drewN (Below.alloc (Below.refl _ _) (Nat.le_refl _) _) _)⟩
    · rw [hn] at d2
      have b4 : (l[i].turn == tn) = false := beq_eq_false_iff_ne.2 hm
      generalize l[i].turn = tu at d1 b4
      clear hn hm HA hh
      go_enter Try.func14, Try.ntmps14
      go_wp2_with fail
      go_quiet (fail)
      go_wp2_with fail
      go_ret2
      exact ⟨rfl, (below_drewN (Below.alloc (Below.refl _ _) (Nat.le_refl _) _) _)⟩
set_option maxHeartbeats 2000000 in
theorem get_r_some (w : World) (A : Option Addr) (c : Nat) (l : List Sl) (sl tn : Int) (x : Int) (i : Nat) (h : RAt w A l) (hl : l.length ≤ 64) (hf : atF l sl tn = some i) (hx : ∀ hi : i < l.length, l[i].x = .int .i64 x) :
    Calls Try.prog 14 #[.slice A l.length c, .agg #[.int .i64 sl, .int .u32 tn]] w fun e w' => e = .returned (.tuple #[.int .i64 x, .int .i64 0]) ∧ Below w.heap.size w w' := by
  obtain ⟨rfl, hi, hu, ht⟩ := atF_some hf
  have HA := Lib.hid hf; clear hf
  obtain ⟨b, o, cur, rfl, hh, hcc⟩ := h
  have zb := blk_lt hh
  obtain ⟨g0, g1, g2⟩ := cellsF_get l i hi
  have d0 := ((blk_facts hh).1 (o + i * 3)).trans (hcc _ _ g0)
  have d1 := ((blk_facts hh).1 (o + (i * 3 + 1))).trans (hcc _ _ g1)
  have d2 := ((blk_facts hh).1 (o + (i * 3 + 2))).trans (hcc _ _ g2)
  rw [← Nat.add_assoc] at d1 d2
  rw [hx hi] at d0
  rw [ht] at d1
  rw [hu] at d2
  clear hcc g0 g1 g2 hu ht hx
  have b0 : decide ((i : Int) < 0) = false := by simp
  have b1 : (0 : Int) ≤ (i : Int) := by omega
  have b2 : (i : Int) < (l.length : Int) := by omega
  have b3 : decide ((l.length : Int) ≤ (i : Int)) = false := by simpa using hi
  have b4 : (tn == tn) = true := beq_self_eq_true _
  go_enter Try.func14, Try.ntmps14
  go_wp2_with fail
  go_quiet (fail)
  go_wp2_with fail
  go_ret2
  exact ⟨rfl, (below_drewN (Below.alloc (Below.refl _ _) (Nat.le_refl _) _) _)⟩
theorem Xi.set {l : List Sl} (h : Xi l) (i : Nat) (x t : Int) (u : Bool) : Xi (l.set i ⟨.int .i64 x, t, u⟩) := fun s hs => by
  rcases List.mem_or_eq_of_mem_set hs with hs | rfl
  · exact h s hs
  · exact ⟨x, rfl⟩
def FreeSaid (e : Ending) (w' : World) (l : List Sl) (k : Int) : Prop := ∃ A c, e = .returned (.tuple #[.slice A l.length c, .int .i64 k]) ∧ RAt w' A l
set_option maxHeartbeats 2000000 in
theorem free_r_none (w : World) (A : Option Addr) (c : Nat) (l : List Sl) (sl tn : Int) (h : RAt w A l) (hl : l.length ≤ 64) (hf : atF l sl tn = none) :
    Calls Try.prog 13 #[.slice A l.length c, .agg #[.int .i64 sl, .int .u32 tn]] w fun e w' => FreeSaid e w' l 26 ∧ Below w.heap.size w w' := by
  have HR := Lib.hid h; clear h
  have HF := Lib.hid hf; clear hf
  go_enter Try.func13, Try.ntmps13
  go_wp2_with fail
  (with_reducible refine (get_r_none _ A c l sl tn (HR.out.below (by first | (with_reducible exact Below.refl _ _) | go_grown)) hl HF.out).mono ?_)
  rintro e w1 ⟨rfl, hb⟩
  have hB := below_next (w := w) (by go_grown) hb
  clear hb
  go_wp2_with fail
  go_ret2
  exact ⟨⟨A, c, rfl, HR.out.below hB⟩, hB⟩
set_option maxHeartbeats 2000000 in
theorem free_r_some (w : World) (A : Option Addr) (c : Nat) (l : List Sl) (sl tn : Int) (x : Int) (i : Nat) (h : RAt w A l) (hX : Xi l) (hl : l.length ≤ 64) (hf : atF l sl tn = some i) (hx : ∀ hi : i < l.length, l[i].x = .int .i64 x) :
    Calls Try.prog 13 #[.slice A l.length c, .agg #[.int .i64 sl, .int .u32 tn]] w fun e w' => FreeSaid e w' (l.set i ⟨.int .i64 0, tn, false⟩) 0 ∧ Below w.heap.size w w' := by
  have HR := Lib.hid h; clear h
  have HF := Lib.hid hf
  have HX := Lib.hid hx; clear hx
  obtain ⟨rfl, hi, _, _⟩ := atF_some hf
  clear hf
  go_enter Try.func13, Try.ntmps13
  go_wp2_with fail
  (with_reducible refine (get_r_some _ A c l i tn x i (HR.out.below (by first | (with_reducible exact Below.refl _ _) | go_grown)) hl HF.out HX.out).mono ?_)
  rintro e w1 ⟨rfl, hb⟩
  have h0 : w1.heap[w.heap.size]? = some (.cells #[.int .i64 i, .int .u32 tn] 31 (0, 0)) := (hb.block _ (by first | omega | (simp; done) | (simp; omega))).trans (Eq.trans (b := some (Obj.cells _ _ (0, 0))) (by repeat (first | (with_reducible assumption) | (with_reducible apply heap_set_row2) | (with_reducible apply heap_set_same) | ((with_reducible apply heap_set_other'); (focus (first | omega | (simp; done) | (simp; omega)))) | ((with_reducible apply heap_alloc_new); (focus (first | omega | (simp; done) | (simp; omega)))) | (with_reducible apply heap_alloc_old') | (with_reducible apply (heap_drew_at _ _).trans) | (with_reducible apply (heap_drewN_at _ _ _).trans) | (simp only [List.size_toArray, List.length_cons, List.length_nil]; done))) (by exact rfl))
  have hB := below_next (w := w) (by go_grown) hb
  clear hb
  obtain ⟨c0, f0, z0⟩ := blk_facts h0
  go_wp2_with fail
  (with_reducible refine (with_r _ A c l i 0 tn false (HR.out.below (by first | exact hB | go_grown)) hX hl hi).mono ?_)
  rintro e w2 ⟨⟨A2, c2, rfl, hR2⟩, hb⟩
  have hB2 := below_next (w := w) (by first | exact hB | go_grown) hb
  go_wp2_with fail
  go_ret2
  exact ⟨⟨A2, c2, by rw [List.length_set]; rfl, hR2⟩, hB2⟩
def TakeSaid (e : Ending) (w' : World) (l : List Sl) (i t k : Int) : Prop := ∃ A c, e = .returned (.tuple #[.slice A l.length c, .agg #[.int .i64 i, .int .u32 t], .int .i64 k]) ∧ RAt w' A l
set_option maxRecDepth 100000 in
set_option maxHeartbeats 2000000 in
theorem take_r_full (w : World) (A : Option Addr) (c : Nat) (l : List Sl) (x : Int) (h : RAt w A l) (hl : l.length ≤ 64) (hall : ∀ j, ∀ h : j < l.length, l[j].used = true) :
    Calls Try.prog 12 #[.slice A l.length c, .int .i64 x] w fun e w' => TakeSaid e w' l 0 0 20 ∧ Below w.heap.size w w' := by
  have HALL := Lib.hid hall; clear hall
  have HR := Lib.hid h
  obtain ⟨b, o, cur, rfl, hh, hcc⟩ := h
  have zb := blk_lt hh
  go_enter Try.func12, Try.ntmps12
  go_wp2_with fail
  go_loopw [7] (fun i wr => ∃ k : Nat, k ≤ l.length ∧ i = .int .i64 k ∧ wr.heap[w.heap.size]? = some (.cells #[.int .i64 0, .int .u32 0] 31 (0, 0)) ∧ Below w.heap.size w wr) (fun i _ => l.length - (intOf i).toNat)
  case atStart => exact ⟨0, by omega, rfl, (Eq.trans (b := some (Obj.cells _ _ (0, 0))) (by repeat (first | (with_reducible assumption) | (with_reducible apply heap_set_row2) | (with_reducible apply heap_set_same) | ((with_reducible apply heap_set_other'); (focus (first | omega | (simp; done) | (simp; omega)))) | ((with_reducible apply heap_alloc_new); (focus (first | omega | (simp; done) | (simp; omega)))) | (with_reducible apply heap_alloc_old') | (with_reducible apply (heap_drew_at _ _).trans) | (with_reducible apply (heap_drewN_at _ _ _).trans) | (simp only [List.size_toArray, List.length_cons, List.length_nil]; done))) (by exact rfl)), by go_grown⟩
  case round =>
    obtain ⟨k, hk, rfl, h0, hB⟩ := hrel
    obtain ⟨c0, f0, z0⟩ := blk_facts h0
    by_cases hlt : k < l.length
    · obtain ⟨g0, g1, g2⟩ := cellsF_get l k hlt
      have d2 := (hB.cell (p := ⟨b, o + (k * 3 + 2), none⟩) zb).trans (((blk_facts hh).1 _).trans (hcc _ _ g2))
      rw [← Nat.add_assoc, HALL.out k hlt] at d2
      clear g0 g1 g2
      have hb1 := Nat.lt_of_lt_of_le zb hB.size
      go_wp2_with fail
      go_roundw
      case rel => exact ⟨k + 1, by omega, by go_num, h0, hB⟩
      case measure => simp [intOf]; omega
    · go_wp2_with fail
      (try simp only [Exit.inBlock, Exit.then])
      refine ret_tct rfl rfl Try.underlying31 rfl rfl ⟨_, _, (by repeat (first | (with_reducible assumption) | (with_reducible apply heap_set_row2) | (with_reducible apply heap_set_same) | ((with_reducible apply heap_set_other'); (focus (first | omega | (simp; done) | (simp; omega)))) | ((with_reducible apply heap_alloc_new); (focus (first | omega | (simp; done) | (simp; omega)))) | (with_reducible apply heap_alloc_old') | (with_reducible apply (heap_drew_at _ _).trans) | (with_reducible apply (heap_drewN_at _ _ _).trans) | (simp only [List.size_toArray, List.length_cons, List.length_nil]; done))), (by kernel_rfl), ?_⟩
      have hB2 : Below w.heap.size w ((wr.setCell ⟨w.heap.size, 0, none⟩ (.int .i64 0)).setCell ⟨w.heap.size, 1, none⟩ (.int .u32 0)) := (hB.setCell (p := ⟨w.heap.size, 0, none⟩) (Nat.le_refl _) _).setCell (p := ⟨w.heap.size, 1, none⟩) (Nat.le_refl _) _
      exact ⟨⟨_, _, rfl, HR.out.below hB2⟩, hB2⟩
set_option maxRecDepth 100000 in
set_option maxHeartbeats 2000000 in
theorem take_r_some (w : World) (A : Option Addr) (c : Nat) (l : List Sl) (x : Int) (h : RAt w A l) (hX : Xi l) (hl : l.length ≤ 64) (ht : ∀ s ∈ l, 0 ≤ s.turn ∧ s.turn ≤ 1000000)
    (i : Nat) (hi : i < l.length) (hfree : l[i].used = false) (hlow : ∀ j, j < i → ∀ h : j < l.length, l[j].used = true) (tu : Int) (htu : l[i].turn = tu) :
    Calls Try.prog 12 #[.slice A l.length c, .int .i64 x] w fun e w' => TakeSaid e w' (l.set i ⟨.int .i64 x, tu + 1, true⟩) i (tu + 1) 0 ∧ Below w.heap.size w w' := by
  have HLOW := Lib.hid hlow; clear hlow
  have htb := ht _ (List.getElem_mem hi)
  rw [htu] at htb
  have HR := Lib.hid h
  obtain ⟨b, o, cur, rfl, hh, hcc⟩ := h
  have zb := blk_lt hh
  go_enter Try.func12, Try.ntmps12
  go_wp2_with fail
  go_loopw [7] (fun q wr => ∃ k : Nat, k ≤ i ∧ q = .int .i64 k ∧ wr.heap[w.heap.size]? = some (.cells #[.int .i64 0, .int .u32 0] 31 (0, 0)) ∧ Below w.heap.size w wr) (fun q _ => l.length - (intOf q).toNat)
  case atStart => exact ⟨0, by omega, rfl, (Eq.trans (b := some (Obj.cells _ _ (0, 0))) (by repeat (first | (with_reducible assumption) | (with_reducible apply heap_set_row2) | (with_reducible apply heap_set_same) | ((with_reducible apply heap_set_other'); (focus (first | omega | (simp; done) | (simp; omega)))) | ((with_reducible apply heap_alloc_new); (focus (first | omega | (simp; done) | (simp; omega)))) | (with_reducible apply heap_alloc_old') | (with_reducible apply (heap_drew_at _ _).trans) | (with_reducible apply (heap_drewN_at _ _ _).trans) | (simp only [List.size_toArray, List.length_cons, List.length_nil]; done))) (by exact rfl)), by go_grown⟩
  case round =>
    obtain ⟨k, hk, rfl, h0, hB⟩ := hrel
    obtain ⟨c0, f0, z0⟩ := blk_facts h0
    have hlt : k < l.length := by omega
    obtain ⟨g0, g1, g2⟩ := cellsF_get l k hlt
    have d1 := (hB.cell (p := ⟨b, o + (k * 3 + 1), none⟩) zb).trans (((blk_facts hh).1 _).trans (hcc _ _ g1))
    have d2 := (hB.cell (p := ⟨b, o + (k * 3 + 2), none⟩) zb).trans (((blk_facts hh).1 _).trans (hcc _ _ g2))
    rw [← Nat.add_assoc] at d1 d2
    have hb1 := Nat.lt_of_lt_of_le zb hB.size
    by_cases hki : k < i
    · rw [HLOW.out k hki hlt] at d2
      clear g0 g1 g2
      go_wp2_with fail
      go_roundw
      case rel => exact ⟨k + 1, by omega, by go_num, h0, hB⟩
      case measure => simp [intOf]; omega
    · have hki : k = i := by omega
      subst hki
      rw [hfree] at d2
      rw [htu] at d1
      clear g0 g1 g2
      have y1 := hB.size
      have z5w : w.heap.size < wr.heap.size := z0
      go_upto_region 6 with fail
      have h8 : (wr.alloc (.cells #[.int .i64 x, .int .u32 (tu + 1), .bool true] 52)).heap[wr.heap.size]? = some (.cells #[.int .i64 x, .int .u32 (tu + 1), .bool true] 52 (0, 0)) := heap_alloc_new _ _ _ rfl
      have h5 := heap_alloc_old' (o := .cells #[.int .i64 x, .int .u32 (tu + 1), .bool true] 52) h0
      have hBa : Below w.heap.size w (wr.alloc (.cells #[.int .i64 x, .int .u32 (tu + 1), .bool true] 52)) := Below.alloc hB hB.size _
      clear c0 f0 z0 h0
      obtain ⟨c8, f8, z8⟩ := blk_facts h8
      go_region_held3 (fun w' => (∀ j, w'.cell? ⟨wr.heap.size, j, none⟩ = #[.int .i64 x, .int .u32 (tu + 1), .bool true][j]?) ∧ Below w.heap.size w w') ((exact ⟨(blk_facts (cs := #[.int .i64 x, .int .u32 (tu + 1), .bool true]) (t := 52) (by repeat (first | (with_reducible assumption) | (with_reducible apply heap_set_row2) | (with_reducible apply heap_set_same) | ((with_reducible apply heap_set_other'); (focus (first | omega | (simp; done) | (simp; omega)))) | ((with_reducible apply heap_alloc_new); (focus (first | omega | (simp; done) | (simp; omega)))) | (with_reducible apply heap_alloc_old') | (with_reducible apply (heap_drew_at _ _).trans) | (with_reducible apply (heap_drewN_at _ _ _).trans) | (simp only [List.size_toArray, List.length_cons, List.length_nil]; done)))).1, by first | exact hBa | exact below_drew' hBa | exact hB2 | exact below_drew' hB2 | (exact (hB2.setCell (p := ⟨w.heap.size, 0, none⟩) (Nat.le_refl _) _).setCell (p := ⟨w.heap.size, 1, none⟩) (Nat.le_refl _) _) | go_grown⟩)) (first | (go_at_call 24; go_split_ands; (with_reducible refine (with_r _ _ c l k x (tu + 1) true (HR.out.below (by first | (with_reducible assumption) | exact hBa | exact below_drew' hBa)) hX hl hi).mono ?_); rintro e w2 ⟨⟨A2, c2, rfl, hR2⟩, hb⟩; have hB2 := below_next (w := w) (by first | exact hBa | exact below_drew' hBa) hb; have h82 := heap_below hb (by first | exact z8) h8; have h52 := heap_below hb (by first | exact blk_lt h5) h5; have h52' := heap_set_same 0 (.int .i64 k) h52; clear hb; obtain ⟨c5, f5, z5⟩ := blk_facts h52; obtain ⟨c82, f82, z82⟩ := blk_facts h82))
      all_goals
        go_wp2_with fail
        (try simp only [Exit.inBlock, Exit.then])
        refine ret_tct rfl rfl Try.underlying31 rfl rfl ⟨_, _, (by repeat (first | (with_reducible assumption) | (with_reducible apply heap_set_row2) | (with_reducible apply heap_set_same) | ((with_reducible apply heap_set_other'); (focus (first | omega | (simp; done) | (simp; omega)))) | ((with_reducible apply heap_alloc_new); (focus (first | omega | (simp; done) | (simp; omega)))) | (with_reducible apply heap_alloc_old') | (with_reducible apply (heap_drew_at _ _).trans) | (with_reducible apply (heap_drewN_at _ _ _).trans) | (simp only [List.size_toArray, List.length_cons, List.length_nil]; done))), (by kernel_rfl), ?_⟩
        have hB9 := (hB2.setCell (p := ⟨w.heap.size, 0, none⟩) (Nat.le_refl _) (.int .i64 k)).setCell (p := ⟨w.heap.size, 1, none⟩) (Nat.le_refl _) (.int .u32 (tu + 1))
        have hR9 := rat_set (p := ⟨w.heap.size, 1, none⟩) h52' (rat_set (p := ⟨w.heap.size, 0, none⟩) h52 hR2 (v := .int .i64 k)) (v := .int .u32 (tu + 1))
        exact ⟨⟨A2, c2, by rw [List.length_set]; rfl, hR9⟩, hB9⟩
end Go.Proofs.Ytdedbiacelgleaa
