/- The law MungeOnce, walked. -/
import Derived.Test.YtidpkmabcndknaaAwake
import Derived.Test.YtidpkmabcndknaaOwn
import Derived.Test.YtidpkmabcndknaaTwo
import Derived.Deep.QuietTactic
namespace Go.Proofs.Ytidpkmabcndknaa
set_option linter.unusedSimpArgs false
set_option linter.unusedVariables false
open Go.RowKit

theorem info22 : (Try.prog.info? 22).map (fun i => (i.zero, i.size, i.bytes)) = some (some (.int .u16 0), 1, 2) := by kernel_rfl
def m16 (l : List Int) : List Int := l.map (· % 65536)
theorem m16_length (l : List Int) : (m16 l).length = l.length := by simp [m16]
theorem m16_one (l : List Int) (x : Int) : m16 (l ++ [x]) = m16 l ++ [x % 65536] := by simp [m16]
theorem m16_mem {l : List Int} {z Y a b : Int} (hl : ∀ y ∈ l, a ≤ y ∧ y ≤ b) (hz0 : a ≤ z) (hz1 : z ≤ b) (hab : b - a < 65536) (hY : Y = z % 65536) : Y ∈ m16 l ↔ z ∈ l := by
  constructor
  · intro h
    obtain ⟨y, hy, e⟩ := List.mem_map.1 h
    have := hl y hy
    have : y = z := by omega
    exact this ▸ hy
  · intro h
    exact List.mem_map.2 ⟨z, h, hY.symm⟩
/-- What an append left. -/
theorem own_push {w : World} {B : Nat} {v : Value} {l : List Int} {x y : Int} (hy : y = x % 65536) (h : w.ownsRow B 22 1 v (l.length + 1) ((m16 l).map (Value.int .u16) ++ [.int .u16 y])) :
    w.ownsRow B 22 1 v (l ++ [x]).length ((m16 (l ++ [x])).map (Value.int .u16)) := by
  subst hy
  rw [m16_one]
  simpa using h
theorem own_nil_kept {w w' : World} {B : Nat} {e : TypeId} {s n : Nat} {v : Value} {xs : List Value} (h : w.ownsRow B e s v n xs) (hg : w.grownBy w' (Value.slice none 0 0).ownBlock) : w'.ownsRow B e s v n xs :=
  own_kept h hg (by cases hv : v.ownBlock with
    | none => exact .inl rfl
    | some g => right; simp [Value.ownBlock])
theorem ok_more {s : St} {B D : Int} (h : s.Ok B) (hb : B ≤ D) : s.Ok D := ⟨by have := h.h0; omega, by have := h.h1; omega, h.off, h.out⟩
theorem own_drewN {w : World} {B : Nat} {e : TypeId} {s n : Nat} {v : Value} {xs : List Value} (h : w.ownsRow B e s v n xs) (k : Nat) : (w.drewN k).ownsRow B e s v n xs := h
structure Once (s : St) (f D zn : Int) (Z L : List Int) (k : Nat) : Prop where
  u : Unique s f D Z L k
  hi : ∀ y ∈ Z, y ≤ s.high
  z0 : f - 128 * k ≤ zn
  z1 : zn ≤ f + 128 * k
  zl : Z.length ≤ k + 1
  tl : L.length ≤ k + 1
theorem once_same {s : St} {f D zn : Int} {Z L : List Int} {k : Nat} (h : Once s f D zn Z L k) {z : Int} (h0 : -128 ≤ z) (h1 : z ≤ 127) : Once s f D (zn + z) Z L (k + 1) :=
  ⟨h.u.more, h.hi, by have := h.z0; push_cast; omega, by have := h.z1; push_cast; omega, by have := h.zl; omega, by have := h.tl; omega⟩
theorem once_high {s s' : St} {z : Int} {Z : List Int} (hZ : ∀ y ∈ Z, y ≤ s.high) (h : s'.high = s.high ∧ z ≤ s.high ∨ s'.high = z ∧ s.high < z) : ∀ y ∈ Z ++ [z], y ≤ s'.high := by
  intro y hy
  rw [List.mem_append] at hy
  rcases hy with hy | hy
  · have := hZ y hy; omega
  · simp at hy; subst hy; omega
theorem once_drop {s : St} {f D zn z : Int} {Z L : List Int} {k : Nat} (h : Once s f D zn Z L k) (hk : k ≤ 120) (h0 : -128 ≤ z) (h1 : z ≤ 127) (i : Nu) (hi : i.seq = (zn + z) % 65536) (bg : Bool) :
    ∃ D', Once (dropF s i bg) f D' (zn + z) (Z ++ [zn + z]) L (k + 1) := by
  have hz0 := h.z0
  have hz1 := h.z1
  obtain ⟨D', q1, q2⟩ := unique_drop h.u hk h.hi (zn + z) (by omega) (by omega) i (by omega) bg
  exact ⟨D', q1, once_high h.hi q2, by push_cast; omega, by push_cast; omega, by have := h.zl; simp; omega, by have := h.tl; omega⟩
theorem once_send {s : St} {f D zn z : Int} {Z L : List Int} {k : Nat} (h : Once s f D zn Z L k) (hk : k ≤ 120) (h0 : -128 ≤ z) (h1 : z ≤ 127) (hno : zn + z ∉ Z) (i : Nu) (hi : i.seq = (zn + z) % 65536) :
    ((sendF s i).2.2 = false ∧ (sendF s i).1 = s ∧ Once s f D (zn + z) (Z ++ [zn + z]) L (k + 1)) ∨
    ((sendF s i).2.2 = true ∧ (sendF s i).2.1.seq % 65536 = (zn + z - D) % 65536 ∧ (zn + z - D) % 65536 ∉ m16 L ∧ Once (sendF s i).1 f D (zn + z) (Z ++ [zn + z]) (L ++ [zn + z - D]) (k + 1)) := by
  have hz0 := h.z0
  have hz1 := h.z1
  have hD0 := h.u.D0
  have hD1 := h.u.D1
  rcases unique_send h.u hk h.hi (zn + z) (by omega) (by omega) hno i (by omega) with ⟨q1, q2, q3⟩ | ⟨q1, q2, q3, q4, q5⟩
  · refine .inl ⟨q1, q2, unique_came h.u (zn + z) (by omega) (by omega), ?_, by push_cast; omega, by push_cast; omega, by have := h.zl; simp; omega, by have := h.tl; omega⟩
    intro y hy
    rw [List.mem_append] at hy
    rcases hy with hy | hy
    · exact h.hi y hy
    · simp at hy; omega
  · refine .inr ⟨q1, by omega, ?_, q4, once_high h.hi q5, by push_cast; omega, by push_cast; omega, by have := h.zl; simp; omega, by have := h.tl; simp; omega⟩
    rw [m16_mem (a := f - 129 * (k + 1)) (b := f + 128 * (k + 1)) (z := zn + z - D) (fun y hy => by have := h.u.ts y hy; omega) (by omega) (by omega) (by omega) rfl]
    exact fun hm => q3 _ hm rfl
theorem send_bd (s : St) (i : Nu) : 0 ≤ (sendF s i).2.1.seq ∧ (sendF s i).2.1.seq ≤ 65535 := by
  have h1 := fromF_ok s.off i
  have h2 : (outF s i).seq = (fromF s.off i).seq := by unfold outF; split <;> rfl
  rcases send_ways s i with ⟨_, e⟩ | ⟨_, _, e⟩ | ⟨_, _, e⟩ <;> rw [e]
  · exact ⟨by show (0 : Int) ≤ 0; omega, by show (0 : Int) ≤ 65535; omega⟩
  · exact ⟨h1.s0, h1.s1⟩
  · exact ⟨by rw [h2]; exact h1.s0, by rw [h2]; exact h1.s1⟩
set_option maxRecDepth 100000 in
set_option maxHeartbeats 4000000 in
theorem once_walk (x : Nu) (A : Option Addr) (len cap : Nat) (zs : List Int) (A2 : Option Addr) (len2 cap2 : Nat) (bs : List Bool) (w : World) (hx : x.Ok) (hlen : zs.length = len) (hl : len ≤ 9223372036854775807) (hp : IntsAt w A .i8 zs) (hr : ∀ z ∈ zs, -128 ≤ z ∧ z ≤ 127)
    (hlen2 : bs.length = len2) (hl2 : len2 ≤ 9223372036854775807) (hp2 : ∀ i, i < bs.length → ∃ b o, A2 = some ⟨b, o, none⟩ ∧ b < w.heap.size ∧ w.cell? ⟨b, o + i, none⟩ = some (.bool (bs.getD i false))) :
    Calls Try.prog 6 #[.agg #[.int .u16 x.seq, .int .u32 x.time, .int .u16 x.pic, .int .u8 x.tl0], .slice A len cap, .slice A2 len2 cap2] w fun e w' => e = .returned (.bool true) ∧ Below w.heap.size w w' := by
  subst hlen hlen2
  have HR := Lib.hid hr; clear hr
  have HP := Lib.hid hp; clear hp
  have HP2 := Lib.hid hp2; clear hp2
  obtain ⟨x0, x1, _⟩ := id hx
  by_cases h120 : 120 < zs.length
  · go_enter Try.func6, Try.ntmps6
    go_wp2_with fail
    (with_reducible refine (awake_any _).mono ?_)
    rintro e w1 ⟨rfl, hb⟩
    (try (have g0 := h0; clear h0 f0 c0))
    have hB := below_next (w := w) (by go_grown) hb
    have h0 : w1.heap[w.heap.size]? = some (.cells #[.int .u16 x.seq, .int .u32 x.time, .int .u16 x.pic, .int .u8 x.tl0] 25 (0, 0)) := (hb.block (w.heap.size) (by first | omega | (simp; done) | (simp; omega))).trans (Eq.trans (b := some (Obj.cells _ _ (0, 0))) (by repeat (first | (with_reducible assumption) | (with_reducible apply heap_set_row11) | (with_reducible apply heap_set_row4) | (with_reducible apply heap_set_same) | ((with_reducible apply heap_set_other'); (focus (first | omega | (simp; done) | (simp; omega)))) | ((with_reducible apply heap_alloc_new); (focus (first | omega | (simp; done) | (simp; omega)))) | (with_reducible apply heap_alloc_old') | (with_reducible apply (heap_drew_at _ _).trans) | (with_reducible apply (heap_drewN_at _ _ _).trans) | (simp only [List.size_toArray, List.length_cons, List.length_nil]; done))) (by exact rfl))
    clear hb
    (try clear g0)
    obtain ⟨c0, f0, z0⟩ := blk_facts h0
    go_wp2_with fail
    go_ret
    exact ⟨rfl, by go_grown⟩
  by_cases hgo : bs.length < zs.length
  · go_enter Try.func6, Try.ntmps6
    go_wp2_with fail
    (with_reducible refine (awake_any _).mono ?_)
    rintro e w1 ⟨rfl, hb⟩
    (try (have g0 := h0; clear h0 f0 c0))
    have hB := below_next (w := w) (by go_grown) hb
    have h0 : w1.heap[w.heap.size]? = some (.cells #[.int .u16 x.seq, .int .u32 x.time, .int .u16 x.pic, .int .u8 x.tl0] 25 (0, 0)) := (hb.block (w.heap.size) (by first | omega | (simp; done) | (simp; omega))).trans (Eq.trans (b := some (Obj.cells _ _ (0, 0))) (by repeat (first | (with_reducible assumption) | (with_reducible apply heap_set_row11) | (with_reducible apply heap_set_row4) | (with_reducible apply heap_set_same) | ((with_reducible apply heap_set_other'); (focus (first | omega | (simp; done) | (simp; omega)))) | ((with_reducible apply heap_alloc_new); (focus (first | omega | (simp; done) | (simp; omega)))) | (with_reducible apply heap_alloc_old') | (with_reducible apply (heap_drew_at _ _).trans) | (with_reducible apply (heap_drewN_at _ _ _).trans) | (simp only [List.size_toArray, List.length_cons, List.length_nil]; done))) (by exact rfl))
    clear hb
    (try clear g0)
    obtain ⟨c0, f0, z0⟩ := blk_facts h0
    go_wp2_with fail
    go_ret
    exact ⟨rfl, by go_grown⟩
  obtain ⟨i0, hi, hz0, hz1, hz2⟩ := info_parts info22
  obtain ⟨hst, hto⟩ := unique_start x hx ⟨false, 0, 0, ⟨0, 0, 0, 0⟩, ⟨0, 0, 0, 0⟩⟩ rfl 0
  obtain ⟨s1, hs1⟩ : ∃ s1, switchF ⟨false, 0, 0, ⟨0, 0, 0, 0⟩, ⟨0, 0, 0, 0⟩⟩ x 0 = s1 := ⟨_, rfl⟩
  obtain ⟨o, ho⟩ : ∃ o, toldF ⟨false, 0, 0, ⟨0, 0, 0, 0⟩, ⟨0, 0, 0, 0⟩⟩ x 0 = o := ⟨_, rfl⟩
  have hon : Once s1 x.seq 0 x.seq [x.seq] [x.seq] 0 := ⟨by rw [← hs1]; exact hst, by intro y hy; simp at hy; subst hy; rw [← hs1]; simp [switchF], by omega, by omega, by simp, by simp⟩
  have hos : o.seq = x.seq % 65536 := by rw [← ho, hto]; omega
  clear hst hto
  have HON := Lib.hid hon; clear hon
  have hok1 : s1.Ok (65536 * (((0 : Nat) : Int) + 1)) := by rw [← hs1]; exact switchF_ok hx (by omega)
  have HOK := Lib.hid hok1; clear hok1
  have HS1 := Lib.hid hs1; clear hs1
  have HO := Lib.hid ho; clear ho
  have HOS := Lib.hid hos; clear hos
  go_enter Try.func6, Try.ntmps6
  go_wp2_with fail
  (with_reducible refine (awake_any _).mono ?_)
  rintro e w1 ⟨rfl, hb⟩
  (try (have g0 := h0; clear h0 f0 c0))
  have hB := below_next (w := w) (by go_grown) hb
  have h0 : w1.heap[w.heap.size]? = some (.cells #[.int .u16 x.seq, .int .u32 x.time, .int .u16 x.pic, .int .u8 x.tl0] 25 (0, 0)) := (hb.block (w.heap.size) (by first | omega | (simp; done) | (simp; omega))).trans (Eq.trans (b := some (Obj.cells _ _ (0, 0))) (by repeat (first | (with_reducible assumption) | (with_reducible apply heap_set_row11) | (with_reducible apply heap_set_row4) | (with_reducible apply heap_set_same) | ((with_reducible apply heap_set_other'); (focus (first | omega | (simp; done) | (simp; omega)))) | ((with_reducible apply heap_alloc_new); (focus (first | omega | (simp; done) | (simp; omega)))) | (with_reducible apply heap_alloc_old') | (with_reducible apply (heap_drew_at _ _).trans) | (with_reducible apply (heap_drewN_at _ _ _).trans) | (simp only [List.size_toArray, List.length_cons, List.length_nil]; done))) (by exact rfl))
  clear hb
  (try clear g0)
  obtain ⟨c0, f0, z0⟩ := blk_facts h0
  have y1 := hB.size
  go_wp2_with fail
  with_reducible refine (switch_st ⟨false, 0, 0, ⟨0, 0, 0, 0⟩, ⟨0, 0, 0, 0⟩⟩ s1 x o 0 _ HS1.out HO.out x0 x1).mono ?_
  rintro e w2 ⟨rfl, hb⟩
  (try (have g0 := h0; clear h0 f0 c0))
  (try (have g1 := h1; clear h1 f1 c1))
  have hB := below_next (w := w) (by go_grown) hb
  have h0 : w2.heap[w.heap.size]? = some (.cells #[.int .u16 x.seq, .int .u32 x.time, .int .u16 x.pic, .int .u8 x.tl0] 25 (0, 0)) := (hb.block (w.heap.size) (by first | omega | (simp; done) | (simp; omega))).trans (Eq.trans (b := some (Obj.cells _ _ (0, 0))) (by repeat (first | (with_reducible assumption) | (with_reducible apply heap_set_row11) | (with_reducible apply heap_set_row4) | (with_reducible apply heap_set_same) | ((with_reducible apply heap_set_other'); (focus (first | omega | (simp; done) | (simp; omega)))) | ((with_reducible apply heap_alloc_new); (focus (first | omega | (simp; done) | (simp; omega)))) | (with_reducible apply heap_alloc_old') | (with_reducible apply (heap_drew_at _ _).trans) | (with_reducible apply (heap_drewN_at _ _ _).trans) | (simp only [List.size_toArray, List.length_cons, List.length_nil]; done))) (by exact rfl))
  have h1 : w2.heap[w1.heap.size]? = some (.cells #[.bool false, .int .i64 0, .int .i64 0, .int .u16 0, .int .u32 0, .int .u16 0, .int .u8 0, .int .u16 0, .int .u32 0, .int .u16 0, .int .u8 0] 27 (0, 0)) := (hb.block (w1.heap.size) (by first | omega | (simp; done) | (simp; omega))).trans (Eq.trans (b := some (Obj.cells _ _ (0, 0))) (by repeat (first | (with_reducible assumption) | (with_reducible apply heap_set_row11) | (with_reducible apply heap_set_row4) | (with_reducible apply heap_set_same) | ((with_reducible apply heap_set_other'); (focus (first | omega | (simp; done) | (simp; omega)))) | ((with_reducible apply heap_alloc_new); (focus (first | omega | (simp; done) | (simp; omega)))) | (with_reducible apply heap_alloc_old') | (with_reducible apply (heap_drew_at _ _).trans) | (with_reducible apply (heap_drewN_at _ _ _).trans) | (simp only [List.size_toArray, List.length_cons, List.length_nil]; done))) (by exact rfl))
  clear hb
  (try clear g0)
  obtain ⟨c0, f0, z0⟩ := blk_facts h0
  (try clear g1)
  obtain ⟨c1, f1, z1⟩ := blk_facts h1
  have y2 := hB.size
  have y12 : w1.heap.size < w2.heap.size := by omega
  go_wp2_with (first
    | (at_builtin; refine wpList_append_own _ rfl (.tmp 40) (.tmp 43) 56 rfl w.heap.size 22 i0 (.int .u16 0) 1 2 Try.underlying56 hi hz0 hz1 hz2 rfl (by decide) _ _ _ rfl (World.ownsRow_nil _ _ _ _) ⟨w2.heap.size + 1, 0, none⟩ 1 1 [.int .u16 x.seq] rfl rfl (new_cells (by simp)) (one_cells rfl) (by unfold maxLen; first | omega | (simp only [List.length_append, List.length_cons]; omega)) (by first | omega | (simp only [List.length_append, List.length_cons]; omega)) (by have := hB.size; first | omega | (simp; omega)) ?_; intro v3 w3 hown1 hgrow1 _; have hBn : Below w.heap.size w w3 := below_grown (by go_grown) (by simp; omega) (World.ownsRow_nil _ w.heap.size 22 1) hgrow1; have g0 : w3.heap[w.heap.size]? = some (.cells #[.int .u16 x.seq, .int .u32 x.time, .int .u16 x.pic, .int .u8 x.tl0] 25 (0, 0)) := block_grown (World.ownsRow_nil _ w.heap.size 22 1) hgrow1 (Eq.trans (b := some (Obj.cells _ _ (0, 0))) (by repeat (first | (with_reducible assumption) | (with_reducible apply heap_set_row11) | (with_reducible apply heap_set_row4) | (with_reducible apply heap_set_same) | ((with_reducible apply heap_set_other'); (focus (first | omega | (simp; done) | (simp; omega)))) | ((with_reducible apply heap_alloc_new); (focus (first | omega | (simp; done) | (simp; omega)))) | (with_reducible apply heap_alloc_old') | (with_reducible apply (heap_drew_at _ _).trans) | (with_reducible apply (heap_drewN_at _ _ _).trans) | (simp only [List.size_toArray, List.length_cons, List.length_nil]; done))) (by exact rfl)) (by decide); have g1 : w3.heap[w1.heap.size]? = some (.cells #[.bool s1.on, .int .i64 s1.high, .int .i64 s1.since, .int .u16 s1.off.seq, .int .u32 s1.off.time, .int .u16 s1.off.pic, .int .u8 s1.off.tl0, .int .u16 s1.out.seq, .int .u32 s1.out.time, .int .u16 s1.out.pic, .int .u8 s1.out.tl0] 27 (0, 0)) := block_grown (World.ownsRow_nil _ w.heap.size 22 1) hgrow1 (Eq.trans (b := some (Obj.cells _ _ (0, 0))) (by repeat (first | (with_reducible assumption) | (with_reducible apply heap_set_row11) | (with_reducible apply heap_set_row4) | (with_reducible apply heap_set_same) | ((with_reducible apply heap_set_other'); (focus (first | omega | (simp; done) | (simp; omega)))) | ((with_reducible apply heap_alloc_new); (focus (first | omega | (simp; done) | (simp; omega)))) | (with_reducible apply heap_alloc_old') | (with_reducible apply (heap_drew_at _ _).trans) | (with_reducible apply (heap_drewN_at _ _ _).trans) | (simp only [List.size_toArray, List.length_cons, List.length_nil]; done))) (by exact rfl)) (by decide); have g2 : w3.heap[w2.heap.size]? = some (.cells #[.int .u16 o.seq, .int .u32 o.time, .int .u16 o.pic, .int .u8 o.tl0] 25 (0, 0)) := block_grown (World.ownsRow_nil _ w.heap.size 22 1) hgrow1 (Eq.trans (b := some (Obj.cells _ _ (0, 0))) (by repeat (first | (with_reducible assumption) | (with_reducible apply heap_set_row11) | (with_reducible apply heap_set_row4) | (with_reducible apply heap_set_same) | ((with_reducible apply heap_set_other'); (focus (first | omega | (simp; done) | (simp; omega)))) | ((with_reducible apply heap_alloc_new); (focus (first | omega | (simp; done) | (simp; omega)))) | (with_reducible apply heap_alloc_old') | (with_reducible apply (heap_drew_at _ _).trans) | (with_reducible apply (heap_drewN_at _ _ _).trans) | (simp only [List.size_toArray, List.length_cons, List.length_nil]; done))) (by exact rfl)) (by decide); have hown2 : w3.ownsRow w.heap.size 22 1 v3 (([] : List Int) ++ [x.seq]).length ((m16 (([] : List Int) ++ [x.seq])).map (Value.int .u16)) := own_push (by omega) hown1; clear hown1 hgrow1 hB; have hB := hBn; clear hBn; have yn := hB.size; (try clear h0 f0 c0 z0); have h0 := g0; clear g0; obtain ⟨c0, f0, z0⟩ := blk_facts h0; (try clear h1 f1 c1 z1); have h1 := g1; clear g1; obtain ⟨c1, f1, z1⟩ := blk_facts h1; (try clear h2 f2 c2 z2); have h2 := g2; clear g2; obtain ⟨c2, f2, z2⟩ := blk_facts h2)
    | (at_builtin; refine wpList_append_own_at _ rfl (.tmp 45) (.tmp 48) 56 rfl w.heap.size 22 i0 (.int .u16 0) 1 2 Try.underlying56 hi hz0 hz1 hz2 rfl (by decide) _ _ _ rfl (World.ownsRow_nil _ _ _ _) ⟨w3.heap.size, 0, none⟩ 1 1 [.int .u16 o.seq] rfl rfl (new_cells (by simp)) (one_cells rfl) (by unfold maxLen; first | omega | (simp only [List.length_append, List.length_cons]; omega)) (by first | omega | (simp only [List.length_append, List.length_cons]; omega)) (by have := hB.size; first | omega | (simp; omega)) ?_; intro v4 w4 hown1 hgrow1 _ hat; have hBn : Below w.heap.size w w4 := below_grown (by go_grown) (by simp; omega) (World.ownsRow_nil _ w.heap.size 22 1) hgrow1; have g0 : w4.heap[w.heap.size]? = some (.cells #[.int .u16 x.seq, .int .u32 x.time, .int .u16 x.pic, .int .u8 x.tl0] 25 (0, 0)) := block_grown (World.ownsRow_nil _ w.heap.size 22 1) hgrow1 (Eq.trans (b := some (Obj.cells _ _ (0, 0))) (by repeat (first | (with_reducible assumption) | (with_reducible apply heap_set_row11) | (with_reducible apply heap_set_row4) | (with_reducible apply heap_set_same) | ((with_reducible apply heap_set_other'); (focus (first | omega | (simp; done) | (simp; omega)))) | ((with_reducible apply heap_alloc_new); (focus (first | omega | (simp; done) | (simp; omega)))) | (with_reducible apply heap_alloc_old') | (with_reducible apply (heap_drew_at _ _).trans) | (with_reducible apply (heap_drewN_at _ _ _).trans) | (simp only [List.size_toArray, List.length_cons, List.length_nil]; done))) (by exact rfl)) (by decide); have g1 : w4.heap[w1.heap.size]? = some (.cells #[.bool s1.on, .int .i64 s1.high, .int .i64 s1.since, .int .u16 s1.off.seq, .int .u32 s1.off.time, .int .u16 s1.off.pic, .int .u8 s1.off.tl0, .int .u16 s1.out.seq, .int .u32 s1.out.time, .int .u16 s1.out.pic, .int .u8 s1.out.tl0] 27 (0, 0)) := block_grown (World.ownsRow_nil _ w.heap.size 22 1) hgrow1 (Eq.trans (b := some (Obj.cells _ _ (0, 0))) (by repeat (first | (with_reducible assumption) | (with_reducible apply heap_set_row11) | (with_reducible apply heap_set_row4) | (with_reducible apply heap_set_same) | ((with_reducible apply heap_set_other'); (focus (first | omega | (simp; done) | (simp; omega)))) | ((with_reducible apply heap_alloc_new); (focus (first | omega | (simp; done) | (simp; omega)))) | (with_reducible apply heap_alloc_old') | (with_reducible apply (heap_drew_at _ _).trans) | (with_reducible apply (heap_drewN_at _ _ _).trans) | (simp only [List.size_toArray, List.length_cons, List.length_nil]; done))) (by exact rfl)) (by decide); have g2 : w4.heap[w2.heap.size]? = some (.cells #[.int .u16 o.seq, .int .u32 o.time, .int .u16 o.pic, .int .u8 o.tl0] 25 (0, 0)) := block_grown (World.ownsRow_nil _ w.heap.size 22 1) hgrow1 (Eq.trans (b := some (Obj.cells _ _ (0, 0))) (by repeat (first | (with_reducible assumption) | (with_reducible apply heap_set_row11) | (with_reducible apply heap_set_row4) | (with_reducible apply heap_set_same) | ((with_reducible apply heap_set_other'); (focus (first | omega | (simp; done) | (simp; omega)))) | ((with_reducible apply heap_alloc_new); (focus (first | omega | (simp; done) | (simp; omega)))) | (with_reducible apply heap_alloc_old') | (with_reducible apply (heap_drew_at _ _).trans) | (with_reducible apply (heap_drewN_at _ _ _).trans) | (simp only [List.size_toArray, List.length_cons, List.length_nil]; done))) (by exact rfl)) (by decide); have htold4 : w4.ownsRow w.heap.size 22 1 v4 (([] : List Int) ++ [x.seq]).length ((m16 (([] : List Int) ++ [x.seq])).map (Value.int .u16)) := own_push (HOS.out) hown1; have hcamep := hown2.alloc (.cells #[.int .u16 o.seq] 22); have hcame4 := own_nil_kept (hown2.alloc _) hgrow1; clear hown1 hgrow1 hB; have hB := hBn; clear hBn; have yn := hB.size; (try clear h0 f0 c0 z0); have h0 := g0; clear g0; obtain ⟨c0, f0, z0⟩ := blk_facts h0; (try clear h1 f1 c1 z1); have h1 := g1; clear g1; obtain ⟨c1, f1, z1⟩ := blk_facts h1; (try clear h2 f2 c2 z2); have h2 := g2; clear g2; obtain ⟨c2, f2, z2⟩ := blk_facts h2))
  have y4 := hB.size
  have hap := apart_new hcamep (apart_none v3) hat (by simp)
  go_loopw [10, 11, 12, 13] (fun v10 v11 nw i wr => ∃ (k : Nat) (s : St) (D zn bu : Int) (Z L : List Int), k ≤ zs.length ∧ i = .int .i64 k ∧ nw = .int .u16 bu ∧ Hid (Once s x.seq D zn Z L k ∧ bu = zn % 65536 ∧ s.Ok (65536 * (k + 1)) ∧ Apart v10 v11) ∧ wr.ownsRow w.heap.size 22 1 v10 Z.length ((m16 Z).map (Value.int .u16)) ∧ wr.ownsRow w.heap.size 22 1 v11 L.length ((m16 L).map (Value.int .u16)) ∧ wr.heap[w1.heap.size]? = some (.cells #[.bool s.on, .int .i64 s.high, .int .i64 s.since, .int .u16 s.off.seq, .int .u32 s.off.time, .int .u16 s.off.pic, .int .u8 s.off.tl0, .int .u16 s.out.seq, .int .u32 s.out.time, .int .u16 s.out.pic, .int .u8 s.out.tl0] 27 (0, 0)) ∧ Below w.heap.size w wr) (fun _ _ _ i _ => zs.length - (intOf i).toNat)
  case atStart => exact ⟨0, s1, 0, x.seq, x.seq, [x.seq], [x.seq], by omega, rfl, rfl, Lib.hid ⟨HON.out, by omega, HOK.out, hap⟩, hcame4, htold4, h1, hB⟩
  case round =>
    clear hB h0 c0 f0 z0 h1 c1 f1 z1 h2 c2 f2 z2 hcame4 hcamep htold4 hap hat
    obtain ⟨k, s, D, zn, bu, Z, L, hk, rfl, rfl, HG, hoz, hol, h0, hB⟩ := hrel
    have yr := hB.size
    obtain ⟨c0, f0, z0⟩ := blk_facts h0
    obtain ⟨A10, cap10, rfl⟩ := own_slice hoz
    obtain ⟨A11, cap11, rfl⟩ := own_slice hol
    by_cases hlt : k < zs.length
    · obtain ⟨ab, ao, rfl, hab, q0⟩ := HP.out k hlt
      obtain ⟨gb, go, rfl, hgb, p0⟩ := HP2.out k (by omega)
      have hz := HR.out (zs.getD k 0) (by simp [List.getD, hlt])
      generalize zs.getD k 0 = z at *
      generalize bs.getD k false = gn at *
      obtain ⟨zl, zu⟩ := hz
      have P0 := Lib.hid p0
      replace q0 := (hB.cell (p := ⟨ab, ao + k, none⟩) hab).trans q0
      have hb1 := Nat.lt_of_lt_of_le hab hB.size
      have hzl := HG.out.1.zl
      have htl := HG.out.1.tl
      go_wp2_with fail
      have hY : Hid (IntKind.u16.wrap (bu + IntKind.u16.wrap z) = (zn + z) % 65536) := Lib.hid (by have := HG.out.2.1; simp only [u16_mod]; omega)
      generalize IntKind.u16.wrap (bu + IntKind.u16.wrap z) = Y at *
      obtain ⟨wo, hwo⟩ : ∃ wo, wo = wr := ⟨_, rfl⟩
      subst hwo
      go_loopw [14, 15] (fun tw j wi => ∃ (m : Nat) (c : Bool), m ≤ Z.length ∧ j = .int .i64 m ∧ tw = .bool c ∧ Hid (c = decide (Y ∈ (m16 Z).take m)) ∧ wo = wi) (fun _ j _ => Z.length - (intOf j).toNat)
      case atStart => exact ⟨0, false, by omega, rfl, rfl, Lib.hid (by simp), rfl⟩
      case round =>
        obtain ⟨m, c, hm, rfl, rfl, HC, hwi⟩ := hrel
        subst hwi
        by_cases hmt : m < Z.length
        · have hmm : m < (m16 Z).length := by rw [m16_length]; exact hmt
          have htk : Hid ((m16 Z).take (m + 1) = (m16 Z).take m ++ [(m16 Z).getD m 0]) := Lib.hid (by rw [List.take_add_one]; simp [List.getD, hmm])
          obtain ⟨b3, o3, hA3, hb3, d1⟩ := (ints_own hoz) m hmm
          generalize (m16 Z).getD m 0 = r at *
          subst hA3
          cases c with
          | true =>
            go_wp2_with fail
            go_roundw
            case rel => exact ⟨m + 1, true, by omega, by go_num, rfl, Lib.hid (by rw [htk.out]; have := HC.out; simp at this; simp [this]), by first | rfl | trivial⟩
            case measure => simp [intOf]; omega
          | false =>
            by_cases hrs : r = Y
            · subst hrs
              go_wp2_with fail
              go_roundw
              case rel => exact ⟨m + 1, true, by omega, by go_num, rfl, Lib.hid (by rw [htk.out]; simp), by first | rfl | trivial⟩
              case measure => simp [intOf]; omega
            · have hne : (r == Y) = false := beq_eq_false_iff_ne.2 hrs
              go_wp2_with fail
              go_roundw
              case rel => exact ⟨m + 1, false, by omega, by go_num, rfl, Lib.hid (by rw [htk.out]; have := HC.out; simp at this; simp [this]; omega), by first | rfl | trivial⟩
              case measure => simp [intOf]; omega
        · have hml : m = Z.length := by omega
          subst hml
          have hc := HC.out
          rw [← m16_length Z, List.take_length] at hc
          obtain ⟨hon, hbu, hok, hapt⟩ := HG.out
          cases c with
          | true =>
            go_wp2_with fail
            go_roundw
            case rel => exact ⟨k + 1, s, D, zn + z, Y, Z, L, by omega, by go_num, rfl, Lib.hid ⟨once_same hon zl zu, hY.out, ok_more hok (by push_cast; omega), hapt⟩, hoz, hol, h0, hB⟩
            case measure => simp [intOf]; omega
          | false =>
            have hno : zn + z ∉ Z := by
              intro hm
              have : Y ∈ m16 Z := by rw [hY.out]; exact List.mem_map.2 ⟨_, hm, rfl⟩
              simp [this] at hc
            have sb0 : -1000000000000000000 ≤ s.high := by have := hok.h0; omega
            have sb1 : s.high ≤ 1000000000000000000 := by have := hok.h1; omega
            have f0' := hok.off.s0
            have f1' := hok.off.s1
            clear hc hbu
            cases gn with
            | true =>
              obtain ⟨D', hD'⟩ := once_drop hon (by omega) zl zu ⟨Y, 0, 0, 0⟩ hY.out false
              have hok2 := dropF_ok (i := ⟨Y, 0, 0, 0⟩) (b := false) hok
              obtain ⟨r, hr⟩ : ∃ r, dropF s ⟨Y, 0, 0, 0⟩ false = r := ⟨_, rfl⟩
              rw [hr] at hD' hok2
              have HN := Lib.hid (And.intro hD' hok2); clear hD' hok2 hon hok
              have HRr := Lib.hid hr; clear hr
              have HAP := Lib.hid hapt; clear hapt
              go_wp2_with (first
                | (at_builtin; refine wpList_append_own_at _ rfl (.tmp 82) (.tmp 84) 56 rfl w.heap.size 22 i0 (.int .u16 0) 1 2 Try.underlying56 hi hz0 hz1 hz2 rfl (by decide) _ _ _ rfl (hoz.alloc _) ⟨wo.heap.size, 0, none⟩ 1 1 [.int .u16 Y] rfl rfl (new_cells (by simp)) (one_cells rfl) (by unfold maxLen; first | omega | (simp only [List.length_append, List.length_cons]; omega)) (by first | omega | (simp only [List.length_append, List.length_cons]; omega)) (by have := hB.size; first | omega | (simp; omega)) ?_; intro v5 w5 hown1 hgrow1 _ hat; have hBn : Below w.heap.size w w5 := below_grown (by go_grown) (by simp; omega) (hoz.alloc _) hgrow1; have g0 : w5.heap[w1.heap.size]? = some (.cells #[.bool s.on, .int .i64 s.high, .int .i64 s.since, .int .u16 s.off.seq, .int .u32 s.off.time, .int .u16 s.off.pic, .int .u8 s.off.tl0, .int .u16 s.out.seq, .int .u32 s.out.time, .int .u16 s.out.pic, .int .u8 s.out.tl0] 27 (0, 0)) := block_grown (hoz.alloc _) hgrow1 (Eq.trans (b := some (Obj.cells _ _ (0, 0))) (by repeat (first | (with_reducible assumption) | (with_reducible apply heap_set_row11) | (with_reducible apply heap_set_row4) | (with_reducible apply heap_set_same) | ((with_reducible apply heap_set_other'); (focus (first | omega | (simp; done) | (simp; omega)))) | ((with_reducible apply heap_alloc_new); (focus (first | omega | (simp; done) | (simp; omega)))) | (with_reducible apply heap_alloc_old') | (with_reducible apply (heap_drew_at _ _).trans) | (with_reducible apply (heap_drewN_at _ _ _).trans) | (simp only [List.size_toArray, List.length_cons, List.length_nil]; done))) (by exact rfl)) (by decide); have hoz5 : w5.ownsRow w.heap.size 22 1 v5 (Z ++ [zn + z]).length ((m16 (Z ++ [zn + z])).map (Value.int .u16)) := own_push (hY.out) hown1; have hap5 := (apart_new (hol.alloc _) HAP.out.symm hat (Nat.le_refl _)).symm; have hol5 := own_apart (hol.alloc _) HAP.out.symm hgrow1; have p1 := (hBn.cell (p := ⟨gb, go + k, none⟩) hgb).trans P0.out; have hgb1 := Nat.lt_of_lt_of_le hgb hBn.size; clear hown1 hgrow1 hat hoz hol hB; have hB := hBn; clear hBn; have yn := hB.size; (try clear h0 f0 c0 z0); have h0 := g0; clear g0; obtain ⟨c0, f0, z0⟩ := blk_facts h0))
              with_reducible refine (drop_eq s r ⟨Y, 0, 0, 0⟩ false _ HRr.out sb0 sb1 f0' f1').mono ?_
              rintro e w6 ⟨rfl, hb⟩
              have hz6 := own_below (hoz5.alloc _) hb
              have hl6 := own_below (hol5.alloc _) hb
              clear hoz5 hol5
              (try (have g0 := h0; clear h0 f0 c0))
              have hB := below_next (w := w) (by go_grown) hb
              have h0 : w6.heap[w1.heap.size]? = some (.cells #[.bool s.on, .int .i64 s.high, .int .i64 s.since, .int .u16 s.off.seq, .int .u32 s.off.time, .int .u16 s.off.pic, .int .u8 s.off.tl0, .int .u16 s.out.seq, .int .u32 s.out.time, .int .u16 s.out.pic, .int .u8 s.out.tl0] 27 (0, 0)) := (hb.block (w1.heap.size) (by first | omega | (simp; done) | (simp; omega))).trans (Eq.trans (b := some (Obj.cells _ _ (0, 0))) (by repeat (first | (with_reducible assumption) | (with_reducible apply heap_set_row11) | (with_reducible apply heap_set_row4) | (with_reducible apply heap_set_same) | ((with_reducible apply heap_set_other'); (focus (first | omega | (simp; done) | (simp; omega)))) | ((with_reducible apply heap_alloc_new); (focus (first | omega | (simp; done) | (simp; omega)))) | (with_reducible apply heap_alloc_old') | (with_reducible apply (heap_drew_at _ _).trans) | (with_reducible apply (heap_drewN_at _ _ _).trans) | (simp only [List.size_toArray, List.length_cons, List.length_nil]; done))) (by exact rfl))
              clear hb
              (try clear g0)
              obtain ⟨c0, f0, z0⟩ := blk_facts h0
              go_wp2_with fail
              go_roundw
              case rel => exact ⟨k + 1, r, D', zn + z, Y, Z ++ [zn + z], L, by omega, by go_num, rfl, Lib.hid ⟨HN.out.1, hY.out, ok_more HN.out.2 (by push_cast; omega), hap5⟩, (by repeat (first | (with_reducible assumption) | (with_reducible apply own_alloc) | (with_reducible apply World.ownsRow.drew) | (with_reducible apply own_set_other) | (with_reducible apply heap_set_same) | ((with_reducible apply heap_set_other'); (focus (first | omega | (simp; done) | (simp; omega)))) | ((with_reducible apply heap_alloc_new); (focus (first | omega | (simp; done) | (simp; omega)))) | (with_reducible apply heap_alloc_old') | (with_reducible apply (heap_drew_at _ _).trans) | (with_reducible apply (heap_drewN_at _ _ _).trans) | decide)), (by repeat (first | (with_reducible assumption) | (with_reducible apply own_alloc) | (with_reducible apply World.ownsRow.drew) | (with_reducible apply own_set_other) | (with_reducible apply heap_set_same) | ((with_reducible apply heap_set_other'); (focus (first | omega | (simp; done) | (simp; omega)))) | ((with_reducible apply heap_alloc_new); (focus (first | omega | (simp; done) | (simp; omega)))) | (with_reducible apply heap_alloc_old') | (with_reducible apply (heap_drew_at _ _).trans) | (with_reducible apply (heap_drewN_at _ _ _).trans) | decide)), (Eq.trans (b := some (Obj.cells _ _ (0, 0))) (by repeat (first | (with_reducible assumption) | (with_reducible apply heap_set_row11) | (with_reducible apply heap_set_row4) | (with_reducible apply heap_set_same) | ((with_reducible apply heap_set_other'); (focus (first | omega | (simp; done) | (simp; omega)))) | ((with_reducible apply heap_alloc_new); (focus (first | omega | (simp; done) | (simp; omega)))) | (with_reducible apply heap_alloc_old') | (with_reducible apply (heap_drew_at _ _).trans) | (with_reducible apply (heap_drewN_at _ _ _).trans) | (simp only [List.size_toArray, List.length_cons, List.length_nil]; done))) (by exact rfl)), by go_grown⟩
              case measure => simp [intOf]; omega
            | false =>
              have hcs := once_send hon (by omega) zl zu hno ⟨Y, 0, 0, 0⟩ hY.out
              have hok2 := sendF_ok (i := ⟨Y, 0, 0, 0⟩) hok
              have hbd := send_bd s ⟨Y, 0, 0, 0⟩
              generalize hr : sendF s ⟨Y, 0, 0, 0⟩ = r at *
              obtain ⟨r, ⟨ms, mt, mp, ml⟩, is⟩ := r
              dsimp only at hcs hok2 hbd
              have hapt' := hapt
              have HAP := Lib.hid hapt'; clear hapt hapt' hon hok
              rcases hcs with ⟨rfl, rfl, hon2⟩ | ⟨rfl, hse, hnot, hon2⟩
              · have HN := Lib.hid (And.intro hon2 hok2); clear hon2 hok2 hbd
                have HRr := Lib.hid hr; clear hr
                go_wp2_with (first
                  | (at_builtin; refine wpList_append_own_at _ rfl (.tmp 82) (.tmp 84) 56 rfl w.heap.size 22 i0 (.int .u16 0) 1 2 Try.underlying56 hi hz0 hz1 hz2 rfl (by decide) _ _ _ rfl (hoz.alloc _) ⟨wo.heap.size, 0, none⟩ 1 1 [.int .u16 Y] rfl rfl (new_cells (by simp)) (one_cells rfl) (by unfold maxLen; first | omega | (simp only [List.length_append, List.length_cons]; omega)) (by first | omega | (simp only [List.length_append, List.length_cons]; omega)) (by have := hB.size; first | omega | (simp; omega)) ?_; intro v5 w5 hown1 hgrow1 _ hat; have hBn : Below w.heap.size w w5 := below_grown (by go_grown) (by simp; omega) (hoz.alloc _) hgrow1; have g0 : w5.heap[w1.heap.size]? = some (.cells #[.bool r.on, .int .i64 r.high, .int .i64 r.since, .int .u16 r.off.seq, .int .u32 r.off.time, .int .u16 r.off.pic, .int .u8 r.off.tl0, .int .u16 r.out.seq, .int .u32 r.out.time, .int .u16 r.out.pic, .int .u8 r.out.tl0] 27 (0, 0)) := block_grown (hoz.alloc _) hgrow1 (Eq.trans (b := some (Obj.cells _ _ (0, 0))) (by repeat (first | (with_reducible assumption) | (with_reducible apply heap_set_row11) | (with_reducible apply heap_set_row4) | (with_reducible apply heap_set_same) | ((with_reducible apply heap_set_other'); (focus (first | omega | (simp; done) | (simp; omega)))) | ((with_reducible apply heap_alloc_new); (focus (first | omega | (simp; done) | (simp; omega)))) | (with_reducible apply heap_alloc_old') | (with_reducible apply (heap_drew_at _ _).trans) | (with_reducible apply (heap_drewN_at _ _ _).trans) | (simp only [List.size_toArray, List.length_cons, List.length_nil]; done))) (by exact rfl)) (by decide); have hoz5 : w5.ownsRow w.heap.size 22 1 v5 (Z ++ [zn + z]).length ((m16 (Z ++ [zn + z])).map (Value.int .u16)) := own_push (hY.out) hown1; have hap5 := (apart_new (hol.alloc _) HAP.out.symm hat (Nat.le_refl _)).symm; have hol5 := own_apart (hol.alloc _) HAP.out.symm hgrow1; have p1 := (hBn.cell (p := ⟨gb, go + k, none⟩) hgb).trans P0.out; have hgb1 := Nat.lt_of_lt_of_le hgb hBn.size; clear hown1 hgrow1 hat hoz hol hB; have hB := hBn; clear hBn; have yn := hB.size; (try clear h0 f0 c0 z0); have h0 := g0; clear g0; obtain ⟨c0, f0, z0⟩ := blk_facts h0))
                with_reducible refine (send_st r r ⟨Y, 0, 0, 0⟩ ⟨ms, mt, mp, ml⟩ false _ HRr.out sb0 sb1).mono ?_
                rintro e w6 ⟨rfl, hb⟩
                have hz6 := own_below (hoz5.alloc _) hb
                have hl6 := own_below (hol5.alloc _) hb
                clear hoz5 hol5
                (try (have g0 := h0; clear h0 f0 c0))
                have hB := below_next (w := w) (by go_grown) hb
                have h0 : w6.heap[w1.heap.size]? = some (.cells #[.bool r.on, .int .i64 r.high, .int .i64 r.since, .int .u16 r.off.seq, .int .u32 r.off.time, .int .u16 r.off.pic, .int .u8 r.off.tl0, .int .u16 r.out.seq, .int .u32 r.out.time, .int .u16 r.out.pic, .int .u8 r.out.tl0] 27 (0, 0)) := (hb.block (w1.heap.size) (by first | omega | (simp; done) | (simp; omega))).trans (Eq.trans (b := some (Obj.cells _ _ (0, 0))) (by repeat (first | (with_reducible assumption) | (with_reducible apply heap_set_row11) | (with_reducible apply heap_set_row4) | (with_reducible apply heap_set_same) | ((with_reducible apply heap_set_other'); (focus (first | omega | (simp; done) | (simp; omega)))) | ((with_reducible apply heap_alloc_new); (focus (first | omega | (simp; done) | (simp; omega)))) | (with_reducible apply heap_alloc_old') | (with_reducible apply (heap_drew_at _ _).trans) | (with_reducible apply (heap_drewN_at _ _ _).trans) | (simp only [List.size_toArray, List.length_cons, List.length_nil]; done))) (by exact rfl))
                clear hb
                (try clear g0)
                obtain ⟨c0, f0, z0⟩ := blk_facts h0
                go_wp2_with fail
                go_roundw
                case rel => exact ⟨k + 1, r, D, zn + z, Y, Z ++ [zn + z], L, by omega, by go_num, rfl, Lib.hid ⟨HN.out.1, hY.out, ok_more HN.out.2 (by push_cast; omega), hap5⟩, (by repeat (first | (with_reducible assumption) | (with_reducible apply own_alloc) | (with_reducible apply World.ownsRow.drew) | (with_reducible apply own_set_other) | (with_reducible apply heap_set_same) | ((with_reducible apply heap_set_other'); (focus (first | omega | (simp; done) | (simp; omega)))) | ((with_reducible apply heap_alloc_new); (focus (first | omega | (simp; done) | (simp; omega)))) | (with_reducible apply heap_alloc_old') | (with_reducible apply (heap_drew_at _ _).trans) | (with_reducible apply (heap_drewN_at _ _ _).trans) | decide)), (by repeat (first | (with_reducible assumption) | (with_reducible apply own_alloc) | (with_reducible apply World.ownsRow.drew) | (with_reducible apply own_set_other) | (with_reducible apply heap_set_same) | ((with_reducible apply heap_set_other'); (focus (first | omega | (simp; done) | (simp; omega)))) | ((with_reducible apply heap_alloc_new); (focus (first | omega | (simp; done) | (simp; omega)))) | (with_reducible apply heap_alloc_old') | (with_reducible apply (heap_drew_at _ _).trans) | (with_reducible apply (heap_drewN_at _ _ _).trans) | decide)), (Eq.trans (b := some (Obj.cells _ _ (0, 0))) (by repeat (first | (with_reducible assumption) | (with_reducible apply heap_set_row11) | (with_reducible apply heap_set_row4) | (with_reducible apply heap_set_same) | ((with_reducible apply heap_set_other'); (focus (first | omega | (simp; done) | (simp; omega)))) | ((with_reducible apply heap_alloc_new); (focus (first | omega | (simp; done) | (simp; omega)))) | (with_reducible apply heap_alloc_old') | (with_reducible apply (heap_drew_at _ _).trans) | (with_reducible apply (heap_drewN_at _ _ _).trans) | (simp only [List.size_toArray, List.length_cons, List.length_nil]; done))) (by exact rfl)), by go_grown⟩
                case measure => simp [intOf]; omega
              · have hmm : ms = (zn + z - D) % 65536 := by omega
                rw [← hmm] at hnot
                have HN := Lib.hid (And.intro hon2 hok2); clear hon2 hok2 hbd hse
                have HM := Lib.hid hmm; clear hmm
                have HNO := Lib.hid hnot; clear hnot
                have HRr := Lib.hid hr; clear hr
                go_wp2_with (first
                  | (at_builtin; refine wpList_append_own_at _ rfl (.tmp 82) (.tmp 84) 56 rfl w.heap.size 22 i0 (.int .u16 0) 1 2 Try.underlying56 hi hz0 hz1 hz2 rfl (by decide) _ _ _ rfl (hoz.alloc _) ⟨wo.heap.size, 0, none⟩ 1 1 [.int .u16 Y] rfl rfl (new_cells (by simp)) (one_cells rfl) (by unfold maxLen; first | omega | (simp only [List.length_append, List.length_cons]; omega)) (by first | omega | (simp only [List.length_append, List.length_cons]; omega)) (by have := hB.size; first | omega | (simp; omega)) ?_; intro v5 w5 hown1 hgrow1 _ hat; have hBn : Below w.heap.size w w5 := below_grown (by go_grown) (by simp; omega) (hoz.alloc _) hgrow1; have g0 : w5.heap[w1.heap.size]? = some (.cells #[.bool s.on, .int .i64 s.high, .int .i64 s.since, .int .u16 s.off.seq, .int .u32 s.off.time, .int .u16 s.off.pic, .int .u8 s.off.tl0, .int .u16 s.out.seq, .int .u32 s.out.time, .int .u16 s.out.pic, .int .u8 s.out.tl0] 27 (0, 0)) := block_grown (hoz.alloc _) hgrow1 (Eq.trans (b := some (Obj.cells _ _ (0, 0))) (by repeat (first | (with_reducible assumption) | (with_reducible apply heap_set_row11) | (with_reducible apply heap_set_row4) | (with_reducible apply heap_set_same) | ((with_reducible apply heap_set_other'); (focus (first | omega | (simp; done) | (simp; omega)))) | ((with_reducible apply heap_alloc_new); (focus (first | omega | (simp; done) | (simp; omega)))) | (with_reducible apply heap_alloc_old') | (with_reducible apply (heap_drew_at _ _).trans) | (with_reducible apply (heap_drewN_at _ _ _).trans) | (simp only [List.size_toArray, List.length_cons, List.length_nil]; done))) (by exact rfl)) (by decide); have hoz5 : w5.ownsRow w.heap.size 22 1 v5 (Z ++ [zn + z]).length ((m16 (Z ++ [zn + z])).map (Value.int .u16)) := own_push (hY.out) hown1; have hap5 := (apart_new (hol.alloc _) HAP.out.symm hat (Nat.le_refl _)).symm; have hol5 := own_apart (hol.alloc _) HAP.out.symm hgrow1; have p1 := (hBn.cell (p := ⟨gb, go + k, none⟩) hgb).trans P0.out; have hgb1 := Nat.lt_of_lt_of_le hgb hBn.size; clear hown1 hgrow1 hat hoz hol hB; have hB := hBn; clear hBn; have yn := hB.size; (try clear h0 f0 c0 z0); have h0 := g0; clear g0; obtain ⟨c0, f0, z0⟩ := blk_facts h0))
                with_reducible refine (send_st s r ⟨Y, 0, 0, 0⟩ ⟨ms, mt, mp, ml⟩ true _ HRr.out sb0 sb1).mono ?_
                rintro e w6 ⟨rfl, hb⟩
                have hz6 := own_below (hoz5.alloc _) hb
                have hl6 := own_below (hol5.alloc _) hb
                clear hoz5 hol5
                (try (have g0 := h0; clear h0 f0 c0))
                have hB := below_next (w := w) (by go_grown) hb
                have h0 : w6.heap[w1.heap.size]? = some (.cells #[.bool s.on, .int .i64 s.high, .int .i64 s.since, .int .u16 s.off.seq, .int .u32 s.off.time, .int .u16 s.off.pic, .int .u8 s.off.tl0, .int .u16 s.out.seq, .int .u32 s.out.time, .int .u16 s.out.pic, .int .u8 s.out.tl0] 27 (0, 0)) := (hb.block (w1.heap.size) (by first | omega | (simp; done) | (simp; omega))).trans (Eq.trans (b := some (Obj.cells _ _ (0, 0))) (by repeat (first | (with_reducible assumption) | (with_reducible apply heap_set_row11) | (with_reducible apply heap_set_row4) | (with_reducible apply heap_set_same) | ((with_reducible apply heap_set_other'); (focus (first | omega | (simp; done) | (simp; omega)))) | ((with_reducible apply heap_alloc_new); (focus (first | omega | (simp; done) | (simp; omega)))) | (with_reducible apply heap_alloc_old') | (with_reducible apply (heap_drew_at _ _).trans) | (with_reducible apply (heap_drewN_at _ _ _).trans) | (simp only [List.size_toArray, List.length_cons, List.length_nil]; done))) (by exact rfl))
                clear hb
                (try clear g0)
                obtain ⟨c0, f0, z0⟩ := blk_facts h0
                have y6 := hB.size
                have y16 : w1.heap.size < w6.heap.size + 1 := by omega
                have HA5 := Lib.hid hap5; clear hap5
                go_wp2_with fail
                go_loopw [20] (fun i wr => ∃ (j : Nat), j ≤ L.length ∧ i = .int .i64 j ∧ wr.ownsRow w.heap.size 22 1 v5 (Z ++ [zn + z]).length ((m16 (Z ++ [zn + z])).map (Value.int .u16)) ∧ wr.ownsRow w.heap.size 22 1 (.slice A11 L.length cap11) L.length ((m16 L).map (Value.int .u16)) ∧ wr.heap[w1.heap.size]? = some (.cells #[.bool r.on, .int .i64 r.high, .int .i64 r.since, .int .u16 r.off.seq, .int .u32 r.off.time, .int .u16 r.off.pic, .int .u8 r.off.tl0, .int .u16 r.out.seq, .int .u32 r.out.time, .int .u16 r.out.pic, .int .u8 r.out.tl0] 27 (0, 0)) ∧ wr.heap[w6.heap.size + 1]? = some (.cells #[.int .u16 ms, .int .u32 mt, .int .u16 mp, .int .u8 ml] 25 (0, 0)) ∧ Below w.heap.size w wr) (fun i _ => L.length - (intOf i).toNat)
                case atStart => exact ⟨0, by omega, rfl, (by repeat (first | (with_reducible assumption) | (with_reducible apply own_alloc) | (with_reducible apply World.ownsRow.drew) | (with_reducible apply own_set_other) | (with_reducible apply heap_set_same) | ((with_reducible apply heap_set_other'); (focus (first | omega | (simp; done) | (simp; omega)))) | ((with_reducible apply heap_alloc_new); (focus (first | omega | (simp; done) | (simp; omega)))) | (with_reducible apply heap_alloc_old') | (with_reducible apply (heap_drew_at _ _).trans) | (with_reducible apply (heap_drewN_at _ _ _).trans) | decide)), (by repeat (first | (with_reducible assumption) | (with_reducible apply own_alloc) | (with_reducible apply World.ownsRow.drew) | (with_reducible apply own_set_other) | (with_reducible apply heap_set_same) | ((with_reducible apply heap_set_other'); (focus (first | omega | (simp; done) | (simp; omega)))) | ((with_reducible apply heap_alloc_new); (focus (first | omega | (simp; done) | (simp; omega)))) | (with_reducible apply heap_alloc_old') | (with_reducible apply (heap_drew_at _ _).trans) | (with_reducible apply (heap_drewN_at _ _ _).trans) | decide)), (Eq.trans (b := some (Obj.cells _ _ (0, 0))) (by repeat (first | (with_reducible assumption) | (with_reducible apply heap_set_row11) | (with_reducible apply heap_set_row4) | (with_reducible apply heap_set_same) | ((with_reducible apply heap_set_other'); (focus (first | omega | (simp; done) | (simp; omega)))) | ((with_reducible apply heap_alloc_new); (focus (first | omega | (simp; done) | (simp; omega)))) | (with_reducible apply heap_alloc_old') | (with_reducible apply (heap_drew_at _ _).trans) | (with_reducible apply (heap_drewN_at _ _ _).trans) | (simp only [List.size_toArray, List.length_cons, List.length_nil]; done))) (by exact rfl)), (Eq.trans (b := some (Obj.cells _ _ (0, 0))) (by repeat (first | (with_reducible assumption) | (with_reducible apply heap_set_row11) | (with_reducible apply heap_set_row4) | (with_reducible apply heap_set_same) | ((with_reducible apply heap_set_other'); (focus (first | omega | (simp; done) | (simp; omega)))) | ((with_reducible apply heap_alloc_new); (focus (first | omega | (simp; done) | (simp; omega)))) | (with_reducible apply heap_alloc_old') | (with_reducible apply (heap_drew_at _ _).trans) | (with_reducible apply (heap_drewN_at _ _ _).trans) | (simp only [List.size_toArray, List.length_cons, List.length_nil]; done))) (by exact rfl)), by go_grown⟩
                case round =>
                  clear hB h0 c0 f0 z0 hz6 hl6
                  obtain ⟨j, hj, rfl, hoz7, hol7, h0, h1, hB⟩ := hrel
                  have y7 := hB.size
                  obtain ⟨c0, f0, z0⟩ := blk_facts h0
                  obtain ⟨c1, f1, z1⟩ := blk_facts h1
                  by_cases hjt : j < L.length
                  · obtain ⟨b3, o3, hA3, hb3, d1⟩ := (ints_own hol7) j (by rw [m16_length]; exact hjt)
                    have hne' : (m16 L).getD j 0 ≠ ms := by
                      intro e
                      apply HNO.out
                      rw [← e]
                      have : j < (m16 L).length := by rw [m16_length]; exact hjt
                      simp [List.getD, this]
                    generalize (m16 L).getD j 0 = r' at *
                    have hne : (r' == ms) = false := beq_eq_false_iff_ne.2 hne'
                    subst hA3
                    go_wp2_with fail
                    go_quiet (fail)
                    go_wp2_with fail
                    go_roundw
                    case rel => exact ⟨j + 1, by omega, by go_num, own_drewN hoz7 _, own_drewN hol7 _, (Eq.trans (b := some (Obj.cells _ _ (0, 0))) (by repeat (first | (with_reducible assumption) | (with_reducible apply heap_set_row11) | (with_reducible apply heap_set_row4) | (with_reducible apply heap_set_same) | ((with_reducible apply heap_set_other'); (focus (first | omega | (simp; done) | (simp; omega)))) | ((with_reducible apply heap_alloc_new); (focus (first | omega | (simp; done) | (simp; omega)))) | (with_reducible apply heap_alloc_old') | (with_reducible apply (heap_drew_at _ _).trans) | (with_reducible apply (heap_drewN_at _ _ _).trans) | (simp only [List.size_toArray, List.length_cons, List.length_nil]; done))) (by exact rfl)), (Eq.trans (b := some (Obj.cells _ _ (0, 0))) (by repeat (first | (with_reducible assumption) | (with_reducible apply heap_set_row11) | (with_reducible apply heap_set_row4) | (with_reducible apply heap_set_same) | ((with_reducible apply heap_set_other'); (focus (first | omega | (simp; done) | (simp; omega)))) | ((with_reducible apply heap_alloc_new); (focus (first | omega | (simp; done) | (simp; omega)))) | (with_reducible apply heap_alloc_old') | (with_reducible apply (heap_drew_at _ _).trans) | (with_reducible apply (heap_drewN_at _ _ _).trans) | (simp only [List.size_toArray, List.length_cons, List.length_nil]; done))) (by exact rfl)), below_drewN hB _⟩
                    case measure => simp [intOf]; omega
                  · go_wp2_with (first
                      | (at_builtin; refine wpList_append_own_at _ rfl (.tmp 118) (.tmp 121) 56 rfl w.heap.size 22 i0 (.int .u16 0) 1 2 Try.underlying56 hi hz0 hz1 hz2 rfl (by decide) _ _ _ rfl (hol7.alloc _) ⟨wr.heap.size, 0, none⟩ 1 1 [.int .u16 ms] rfl rfl (new_cells (by simp)) (one_cells rfl) (by unfold maxLen; first | omega | (simp only [List.length_append, List.length_cons]; omega)) (by first | omega | (simp only [List.length_append, List.length_cons]; omega)) (by have := hB.size; first | omega | (simp; omega)) ?_; intro v8 w8 hown1 hgrow1 _ hat; have hBn : Below w.heap.size w w8 := below_grown (by go_grown) (by simp; omega) (hol7.alloc _) hgrow1; have g0 : w8.heap[w1.heap.size]? = some (.cells #[.bool r.on, .int .i64 r.high, .int .i64 r.since, .int .u16 r.off.seq, .int .u32 r.off.time, .int .u16 r.off.pic, .int .u8 r.off.tl0, .int .u16 r.out.seq, .int .u32 r.out.time, .int .u16 r.out.pic, .int .u8 r.out.tl0] 27 (0, 0)) := block_grown (hol7.alloc _) hgrow1 (Eq.trans (b := some (Obj.cells _ _ (0, 0))) (by repeat (first | (with_reducible assumption) | (with_reducible apply heap_set_row11) | (with_reducible apply heap_set_row4) | (with_reducible apply heap_set_same) | ((with_reducible apply heap_set_other'); (focus (first | omega | (simp; done) | (simp; omega)))) | ((with_reducible apply heap_alloc_new); (focus (first | omega | (simp; done) | (simp; omega)))) | (with_reducible apply heap_alloc_old') | (with_reducible apply (heap_drew_at _ _).trans) | (with_reducible apply (heap_drewN_at _ _ _).trans) | (simp only [List.size_toArray, List.length_cons, List.length_nil]; done))) (by exact rfl)) (by decide); have hol8 : w8.ownsRow w.heap.size 22 1 v8 (L ++ [zn + z - D]).length ((m16 (L ++ [zn + z - D])).map (Value.int .u16)) := own_push (HM.out) hown1; have hap8 := apart_new (hoz7.alloc _) HA5.out hat (Nat.le_refl _); have hoz8 := own_apart (hoz7.alloc _) HA5.out hgrow1; clear hown1 hgrow1 hat hoz7 hol7 hB; have hB := hBn; clear hBn; have yn := hB.size; (try clear h0 f0 c0 z0); have h0 := g0; clear g0; obtain ⟨c0, f0, z0⟩ := blk_facts h0))
                    go_roundw
                    case rel => exact ⟨k + 1, r, D, zn + z, Y, Z ++ [zn + z], L ++ [zn + z - D], by omega, by go_num, rfl, Lib.hid ⟨HN.out.1, hY.out, ok_more HN.out.2 (by push_cast; omega), hap8⟩, hoz8, hol8, (Eq.trans (b := some (Obj.cells _ _ (0, 0))) (by repeat (first | (with_reducible assumption) | (with_reducible apply heap_set_row11) | (with_reducible apply heap_set_row4) | (with_reducible apply heap_set_same) | ((with_reducible apply heap_set_other'); (focus (first | omega | (simp; done) | (simp; omega)))) | ((with_reducible apply heap_alloc_new); (focus (first | omega | (simp; done) | (simp; omega)))) | (with_reducible apply heap_alloc_old') | (with_reducible apply (heap_drew_at _ _).trans) | (with_reducible apply (heap_drewN_at _ _ _).trans) | (simp only [List.size_toArray, List.length_cons, List.length_nil]; done))) (by exact rfl)), by go_grown⟩
                    case measure => simp [intOf]; omega
    · go_wp2_with fail
      go_ret
      exact ⟨rfl, hB⟩
end Go.Proofs.Ytidpkmabcndknaa
