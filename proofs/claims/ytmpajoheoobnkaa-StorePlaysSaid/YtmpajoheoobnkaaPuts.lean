/- What a slice of packets holds; few. -/
import Derived.Test.YtmpajoheoobnkaaAwake
import Derived.StillTailTactics
import Derived.Deep.RegionHeld3
namespace Go.Proofs.Ytmpajoheoobnkaa
set_option linter.unusedSimpArgs false
set_option linter.unusedVariables false
open Go.RowKit

structure PutV where
  q : Int
  B : Option Addr
  n : Nat
  c : Nat
  zs : List Int
instance : Inhabited PutV := ⟨⟨0, none, 0, 0, []⟩⟩
def PutAt (w : World) (A : Option Addr) (i : Nat) (v : PutV) : Prop :=
  ∃ b o, A = some ⟨b, o, none⟩ ∧ b < w.heap.size ∧ w.cell? ⟨b, o + i * 2, none⟩ = some (.int .u16 v.q) ∧ w.cell? ⟨b, o + i * 2 + 1, none⟩ = some (.slice v.B v.n v.c) ∧ 0 ≤ v.q ∧ v.q ≤ 65535 ∧ v.zs.length = v.n ∧ v.n ≤ 9223372036854775807 ∧ IntsAt w v.B .u8 v.zs
theorem below_drew {B : Nat} {a w : World} (h : Below B a w) : Below B a w.drew := ⟨h.os, h.tape, h.output, h.size, h.block⟩
theorem PutAt.below {w w' : World} {A : Option Addr} {i : Nat} {v : PutV} (h : PutAt w A i v) (hb : Below w.heap.size w w') : PutAt w' A i v := by
  obtain ⟨b, o, h1, h2, h3, h4, h5, h6, h7, h8, h9⟩ := h
  exact ⟨b, o, h1, Nat.lt_of_lt_of_le h2 hb.size, (hb.cell (p := ⟨b, _, none⟩) h2).trans h3, (hb.cell (p := ⟨b, _, none⟩) h2).trans h4, h5, h6, h7, h8, h9.below rfl hb⟩
def FewSaid (e : Ending) (len : Nat) (z : Nat → PutV) : Prop := ∃ b, e = .returned (.bool b) ∧ (b = true → len ≤ 120 ∧ ∀ i, i < len → (z i).n ≤ 60)
theorem get_is (w : World) (S R M B E n t m : Nat) (K : List Pk) (rg : List RE) (h : StoreAt w S R M B E n t m K rg) (hn : 1 ≤ n) (hn1 : n ≤ 4096) (x : Int) (x0 : 0 ≤ x) (x1 : x ≤ 65535) (is : Bool) (hx : (lastF K x).isSome = is) (hl : ∀ p ∈ K, p.2.length ≤ 1000000) :
    Calls Try.prog 13 #[.pointer (some ⟨S, 0, none⟩), .int .u16 x] w fun e w' => ∃ A k c, e = .returned (.tuple #[.slice A k c, .bool is]) ∧ Below w.heap.size w w' :=
  (get_t w S R M B E n t m K rg h hn hn1 x x0 x1 _ rfl hl).mono fun e w' ⟨A, k, c, h1, _, _, _, h2⟩ => ⟨A, k, c, by rw [h1, Option.isSome_map, hx], h2⟩
set_option maxRecDepth 100000 in
theorem few_t (A : Option Addr) (len cap : Nat) (z : Nat → PutV) (w : World) (hl : len ≤ 9223372036854775807) (hz : ∀ i, i < len → PutAt w A i (z i)) :
    Calls Try.prog 9 #[.slice A len cap] w fun e w' => FewSaid e len z ∧ Below w.heap.size w w' := by
  have HZ := Lib.hid hz; clear hz
  go_enter Try.func9, Try.ntmps9
  go_wp2_with fail
  go_loopw [3] (fun i wr => ∃ k : Nat, k ≤ len ∧ i = .int .i64 k ∧ Hid (∀ j, j < k → (z j).n ≤ 60) ∧ Below w.heap.size w wr) (fun i _ => len - (intOf i).toNat)
  case atStart => exact ⟨0, by omega, rfl, Lib.hid (fun j hj => absurd hj (by omega)), by first | (with_reducible exact Below.refl _ _) | go_grown⟩
  case round =>
    obtain ⟨k, hk, rfl, hal, hB⟩ := hrel
    by_cases hlt : k < len
    · obtain ⟨ab, ao, rfl, hab, d0, d1, q0, q1, hzl, hzn, hzz⟩ := HZ.out k hlt
      have HF : Hid (∀ (_ : (z k).n ≤ 60) j, j < k + 1 → (z j).n ≤ 60) := Lib.hid (fun h j hj => by
        by_cases e : j = k
        · rw [e]; exact h
        · exact hal.out j (by omega))
      generalize z k = v at *
      obtain ⟨q, B, n, c, zs⟩ := v
      dsimp only at d0 d1 q0 q1 hzl hzn hzz
      have e1 := (hB.cell (p := ⟨ab, ao + k * 2 + 1, none⟩) hab).trans d1
      have e0 := (hB.cell (p := ⟨ab, ao + k * 2, none⟩) hab).trans d0
      have hb1 := Nat.lt_of_lt_of_le hab hB.size
      by_cases h60 : 60 < n
      · go_wp2_with fail
        go_ret
        exact ⟨⟨false, rfl, fun h => by cases h⟩, hB⟩
      · go_wp2_with fail
        go_roundw
        case rel => exact ⟨k + 1, by omega, by go_num, Lib.hid (HF.out (by dsimp only; omega)), hB⟩
        case measure => simp [intOf]; omega
    · go_wp2_with fail
      go_ret
      refine ⟨⟨_, rfl, fun h => ⟨?_, fun i hi => hal.out i (by omega)⟩⟩, hB⟩
      first | (simp at h; omega) | omega
end Go.Proofs.Ytmpajoheoobnkaa
