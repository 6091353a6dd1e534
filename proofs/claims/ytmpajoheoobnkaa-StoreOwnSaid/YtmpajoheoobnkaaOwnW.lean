/- The law StoreOwn, walked. -/
import Derived.Test.YtmpajoheoobnkaaPuts
import Derived.Test.YtmpajoheoobnkaaSrc
namespace Go.Proofs.Ytmpajoheoobnkaa
set_option linter.unusedSimpArgs false
set_option linter.unusedVariables false
open Go.RowKit

theorem info5 : (Try.prog.info? 5).map (fun i => (i.zero, i.size, i.bytes)) = some (some (.int .u8 0), 1, 1) := by kernel_rfl
/-- A row of bytes that may be written. -/
def RowW (w : World) (C : Option Addr) (len B E : Nat) : Prop := len = 0 ∨ ∃ g cur, C = some ⟨g, 0, none⟩ ∧ B ≤ g ∧ g < E ∧ w.heap[g]? = some (.cells cur 5 (0, 0)) ∧ len ≤ cur.size ∧ ∀ j, j < len → ∃ v, cur[j]? = some (.int .u8 v)
theorem RowW.below {w w' : World} {C : Option Addr} {len B E : Nat} (h : RowW w C len B E) (hb : Below w.heap.size w w') : RowW w' C len B E := by
  rcases h with h | ⟨g, cur, h1, h2, h3, h4, h5⟩
  · exact .inl h
  · exact .inr ⟨g, cur, h1, h2, h3, heap_below hb (blk_lt h4) h4, h5⟩
theorem RowW.moved {w w' : World} {S R B0 : Nat} {C : Option Addr} {len B E : Nat} (h : RowW w C len B E) (hm : Moved S R B0 w w') (hS : w.heap[S]? = none ∨ ∃ c, w.heap[S]? = some (.cells c 48 (0, 0))) (hR : ∃ c, w.heap[R]? = some (.cells c 50 (0, 0))) : RowW w' C len B E := by
  rcases h with h | ⟨g, cur, h1, h2, h3, h4, h5⟩
  · exact .inl h
  · refine .inr ⟨g, cur, h1, h2, h3, hm.other g cur 5 h4 (fun e => ?_) (fun e => ?_), h5⟩
    · subst e
      rcases hS with q | ⟨c, q⟩ <;> rw [h4] at q <;> simp at q
    · subst e
      obtain ⟨c, q⟩ := hR
      rw [h4] at q
      simp at q
theorem rowW_own {w : World} {B : Nat} {A : Option Addr} {n cap : Nat} {zs : List Int} (h : w.ownsRow B 5 1 (.slice A n cap) n (zs.map (Value.int .u8))) (hz : zs.length = n) : RowW w A n B w.heap.size := by
  rcases h.2 with ⟨h1, h2⟩ | ⟨g, cap', cur, h1, h2, h3, h4, h5, h6⟩
  · exact .inl h2
  · refine .inr ⟨g, cur, ?_, h2, lt_of_block h3, h3, ?_, ?_⟩
    · simp only [Value.slice.injEq] at h1
      exact h1.1
    · omega
    · intro j hj
      have h7 : (List.take (n * 1) cur.toList)[j]? = (zs.map (Value.int .u8))[j]? := by rw [h6.2]
      rw [List.getElem?_take_of_lt (by omega), Array.getElem?_toList] at h7
      exact ⟨zs.getD j 0, by rw [h7]; simp [List.getD, show j < zs.length by omega]⟩
theorem row_set {w : World} {g len B E : Nat} {cur : Array Value} (hg : w.heap[g]? = some (.cells cur 5 (0, 0))) (hl : len ≤ cur.size) (hv : ∀ j, j < len → ∃ v, cur[j]? = some (.int .u8 v)) (g1 : B ≤ g) (g2 : g < E) (k : Nat) (u : Int) : RowW (w.setCell ⟨g, k, none⟩ (.int .u8 u)) (some ⟨g, 0, none⟩) len B E := by
  refine .inr ⟨g, cur.setIfInBounds k (.int .u8 u), rfl, g1, g2, heap_set_same k _ hg, by simpa using hl, fun j hj => ?_⟩
  rw [Array.getElem?_setIfInBounds]
  by_cases e : k = j
  · rw [if_pos e, if_pos (by omega)]; exact ⟨_, rfl⟩
  · rw [if_neg e]; exact hv j hj
theorem row_blk {w : World} {g B : Nat} {zs : List Int} (hg : w.heap[g]? = some (.cells (zs.map (Value.int .u8)).toArray 5 (0, 0))) (g1 : B ≤ g) : RowW w (some ⟨g, 0, none⟩) zs.length B (g + 1) :=
  .inr ⟨g, _, rfl, g1, by omega, hg, by simp, fun j hj => ⟨zs.getD j 0, by simp [List.getD, hj]⟩⟩
set_option maxRecDepth 100000 in
set_option maxHeartbeats 4000000 in
theorem own_walk (room : Int) (A : Option Addr) (len cap : Nat) (zs : List Int) (w : World) (r0 : -9223372036854775808 ≤ room) (r1 : room ≤ 9223372036854775807) (nz : zs.length = len) (l1 : len ≤ 9223372036854775807) (kc : A = none → cap = 0) (ha : IntsAt w A .u8 zs) :
    Calls Try.prog 5 #[.int .i64 room, .slice A len cap] w fun e w' => e = .returned (.bool true) ∧ Below w.heap.size w w' := by
  subst nz
  have HA := Lib.hid ha; clear ha
  obtain ⟨i0, hi, hz0, hz1, hz2⟩ := info_parts info5
  by_cases hs1 : 100 < zs.length
  · go_enter Try.func5, Try.ntmps5
    go_wp2_with fail
    (with_reducible refine (awake_any _).mono ?_)
    rintro e w1 ⟨rfl, hB⟩
    go_wp2_with fail
    go_ret
    exact ⟨rfl, hB⟩
  have HLn : Hid ((zs.map (Value.int .u8)).length = zs.length * 1) := Lib.hid (by simp)
  by_cases hm : 1 ≤ room ∧ room ≤ 4096
  · obtain ⟨n, hn⟩ : ∃ n : Nat, room = n := ⟨room.toNat, by omega⟩
    subst hn
    obtain ⟨m0, m1⟩ := hm
    go_enter Try.func5, Try.ntmps5
    go_wp2_with fail
    (with_reducible refine (awake_any _).mono ?_)
    rintro e w1 ⟨rfl, hB⟩
    have y1 := hB.size
    go_wp2_with fail
    (with_reducible refine (new_t n n rfl _ (by omega) (by omega)).mono ?_)
    rintro e w2 ⟨S, R, M, rfl, h, hb⟩
    replace hB := below_next (w := w) hB hb
    have hBw := hb
    clear hb
    have hown : w2.ownsRow w1.heap.size 5 1 (.slice none 0 0) 0 [] := World.ownsRow_nil _ _ _ _
    have hsrc := Lib.hid (ints_src (c := cap) (HA.out.below rfl hB) kc)
    have zB := hB.size
    have zs2 : zs.length ≤ 100 := by omega
    go_wp2_with (first
      | ((at_builtin; refine wpList_append_src _ rfl (.tmp 33) (.tmp 34) 30 rfl w1.heap.size 5 i0 (.int .u8 0) 1 1 Try.underlying30 hi hz0 hz1 hz2 rfl (by decide) _ _ _ rfl hown _ _ _ (zs.map (Value.int .u8)) rfl HLn.out hsrc.out (ints_one _ _) (by unfold maxLen; first | omega | (simp only [List.length_append, List.length_cons]; omega)) (by first | omega | (simp only [List.length_append, List.length_cons]; omega)) (by have := hBw.size; first | omega | (simp; omega)) ?_; intro v5 w5 hown1 hgrow1)))
    have hown2 : w5.ownsRow w1.heap.size 5 1 v5 zs.length (zs.map (Value.int .u8)) := by simpa using hown1
    obtain ⟨C, cap5, rfl⟩ := own_slice hown2
    have hb5 : Below w2.heap.size w2 w5 := ⟨hgrow1.os, hgrow1.tape, hgrow1.output, hgrow1.size, fun k hk => hgrow1.block k hk (fun h => by have h2 : some k = (Value.slice none 0 0).ownBlock := h; simp [Value.ownBlock] at h2)⟩
    have hB5 := below_next (w := w) hB hb5
    have hrow := rowW_own hown2 rfl
    have hci := Lib.hid (ints_own hown2)
    clear hown1 hown2 hgrow1 hown hsrc hB hBw
    have h5 := (h.below hb5).raise (E' := w5.heap.size) (Nat.le_refl _)
    clear h hb5
    go_wp2_with fail
    (with_reducible refine (add_k w5 S R M _ _ n 0 0 [] _ h5 (by omega) (by omega) 9 (by omega) (by omega) C zs.length cap5 zs rfl (by omega) hci.out (by omega)).mono ?_)
    rintro e w6 ⟨rfl, ⟨rg6, h6⟩, hMv6⟩
    have hrow6 := hrow.moved hMv6 (.inr ⟨_, h5.s⟩) ⟨_, h5.r⟩
    have hB6 : Below w.heap.size w w6 := hB5.trans (hMv6.below.mono y1)
    have hK : addK n [] (9, zs) = [(9, zs)] := by unfold addK; rw [if_neg (by simp; omega)]; rfl
    rw [hK] at h6
    clear hrow hMv6 hB5 hci h5 hK
    go_wp2_with fail
    go_loopw [9] (fun i wr => ∃ (k : Nat) (rg : List RE), k ≤ zs.length ∧ i = .int .i64 k ∧ StoreAt wr S R M w1.heap.size w5.heap.size n 1 1 [(9, zs)] rg ∧ RowW wr C zs.length w1.heap.size w5.heap.size ∧ Below w.heap.size w wr) (fun i _ => zs.length - (intOf i).toNat)
    case atStart => exact ⟨0, rg6, by omega, rfl, h6, hrow6, hB6⟩
    case round =>
      clear h6 hrow6 hB6
      obtain ⟨k, rg, hk, rfl, h, hrow, hB⟩ := hrel
      by_cases hlt : k < zs.length
      · rcases hrow with h0 | ⟨g, cur, rfl, g1, g2, hg, hcs, hv⟩
        · omega
        obtain ⟨v, hv1⟩ := hv k hlt
        have d0 : wr.cell? ⟨g, k, none⟩ = some (.int .u8 v) := by rw [(blk_facts hg).1]; exact hv1
        have fg := (blk_facts hg).2.1
        have zg := blk_lt hg
        have hgS : g ≠ S := fun e => by subst e; have := h.s; rw [hg] at this; simp at this
        have hgR : g ≠ R := fun e => by subst e; have := h.r; rw [hg] at this; simp at this
        have hgM : g ≠ M := fun e => h.map.not_cells hg e.symm
        go_wp2_with fail
        go_roundw
        case rel => exact ⟨k + 1, rg, by omega, by go_num, h.set hgS hgR hgM g2, row_set hg hcs hv g1 g2 k _, hB.setCell (by show w.heap.size ≤ g; omega) _⟩
        case measure => simp [intOf]; omega
      · have hkl : k = zs.length := by omega
        subst hkl
        clear hrow
        obtain ⟨w7, hwc⟩ : ∃ wq, wq = wr := ⟨_, rfl⟩
        subst hwc
        go_wp2_with fail
        (with_reducible refine (get_k w7 S R M _ _ n 1 1 [(9, zs)] rg h (by omega) (by omega) 9 (by omega) (by omega) 0 (by simp [lastF]) zs (fun _ => rfl) zs.length rfl (by omega)).mono ?_)
        rintro e w8 ⟨g2, rfl, hg, gz, hb⟩
        have hB8 := below_next (w := w) hB hb
        have hst : (convert 30 9 (.slice (some ⟨g2, 0, none⟩) zs.length zs.length)).run Try.prog w8.drew = .ok (.string (strOfNums zs)) w8.drew := str_at (w := w8.drew) (ints_blk hg) rfl
        have hst2 : (convert 30 9 (.slice A zs.length cap)).run Try.prog w8.drew = .ok (.string (strOfNums zs)) w8.drew := str_at (w := w8.drew) (HA.out.below rfl (below_drew hB8)) rfl
        have hst0 : (convert 30 9 (.slice (some ⟨g2, 0, none⟩) zs.length zs.length)).run Try.prog w8 = .ok (.string (strOfNums zs)) w8 := str_at (ints_blk hg) rfl
        have hst3 : (convert 30 9 (.slice A zs.length cap)).run Try.prog w8 = .ok (.string (strOfNums zs)) w8 := str_at (HA.out.below rfl hB8) rfl
        have hrow8 : RowW w8 (some ⟨g2, 0, none⟩) zs.length w7.heap.size (g2 + 1) := row_blk hg gz
        clear hg
        go_wp2_with fail
        (try go_quiet (fail))
        go_wp2_with fail
        clear hst hst2 hst0 hst3
        go_loopw [12] (fun i wr => ∃ k : Nat, k ≤ zs.length ∧ i = .int .i64 k ∧ RowW wr (some ⟨g2, 0, none⟩) zs.length w7.heap.size (g2 + 1) ∧ Below w7.heap.size w7 wr) (fun i _ => zs.length - (intOf i).toNat)
        case atStart => exact ⟨0, by omega, rfl, hrow8, by first | exact hb | exact below_drew hb | exact below_drewN hb _⟩
        case round =>
          clear hrow8 hb hB8
          obtain ⟨k, hk, rfl, hrow, hb⟩ := hrel
          by_cases hlt : k < zs.length
          · rcases hrow with h0 | ⟨g, cur, e1, g1, g3, hg, hcs, hv⟩
            · omega
            simp only [Option.some.injEq, Addr.mk.injEq, and_true] at e1
            subst e1
            obtain ⟨v, hv1⟩ := hv k hlt
            have d0 : wr.cell? ⟨g2, k, none⟩ = some (.int .u8 v) := by rw [(blk_facts hg).1]; exact hv1
            have fg := (blk_facts hg).2.1
            have zg := blk_lt hg
            go_wp2_with fail
            go_roundw
            case rel => exact ⟨k + 1, by omega, by go_num, row_set hg hcs hv g1 g3 k _, hb.setCell (by show w7.heap.size ≤ g2; omega) _⟩
            case measure => simp [intOf]; omega
          · have h9 := h.below hb
            have hB9 := below_next (w := w) hB hb
            clear hb hrow
            go_wp2_with fail
            (with_reducible refine (get_k wr S R M _ _ n 1 1 [(9, zs)] rg h9 (by omega) (by omega) 9 (by omega) (by omega) 0 (by simp [lastF]) zs (fun _ => rfl) zs.length rfl (by omega)).mono ?_)
            rintro e w8 ⟨g2, rfl, hg, gz, hb⟩
            have hB8 := below_next (w := w) hB9 hb
            have hst : (convert 30 9 (.slice (some ⟨g2, 0, none⟩) zs.length zs.length)).run Try.prog w8.drew = .ok (.string (strOfNums zs)) w8.drew := str_at (w := w8.drew) (ints_blk hg) rfl
            have hst2 : (convert 30 9 (.slice A zs.length cap)).run Try.prog w8.drew = .ok (.string (strOfNums zs)) w8.drew := str_at (w := w8.drew) (HA.out.below rfl (below_drew hB8)) rfl
            have hst0 : (convert 30 9 (.slice (some ⟨g2, 0, none⟩) zs.length zs.length)).run Try.prog w8 = .ok (.string (strOfNums zs)) w8 := str_at (ints_blk hg) rfl
            have hst3 : (convert 30 9 (.slice A zs.length cap)).run Try.prog w8 = .ok (.string (strOfNums zs)) w8 := str_at (HA.out.below rfl hB8) rfl
            go_wp2_with fail
            (try go_quiet (fail))
            go_wp2_with fail
            go_ret
            exact ⟨rfl, by first | exact hB8 | exact below_drew hB8 | exact below_drewN hB8 _⟩
  · have hm2 : room < 1 ∨ 4096 < room := by omega
    have hmay : (decide (1 ≤ room) && decide (room ≤ 4096)) = false := by
      rcases hm2 with q | q
      · rw [decide_eq_false (by omega)]; rfl
      · rw [decide_eq_false (p := room ≤ 4096) (by omega), Bool.and_false]
    rcases hm2 with hm2 | hm2
    · have hd : decide (1 ≤ room) = false := decide_eq_false (by omega)
      go_enter Try.func5, Try.ntmps5
      go_wp2_with fail
      (with_reducible refine (awake_any _).mono ?_)
      rintro e w1 ⟨rfl, hB⟩
      have hBw : Below w1.heap.size w1 w1 := Below.refl _ _
      go_wp2_with fail
      (with_reducible refine (new_nil room (.inl hm2) _).mono ?_)
      rintro e w2 ⟨rfl, rfl⟩
      have hown : w1.ownsRow w1.heap.size 5 1 (.slice none 0 0) 0 [] := World.ownsRow_nil _ _ _ _
      have hsrc := Lib.hid (ints_src (c := cap) (HA.out.below rfl hB) kc)
      have zB := hB.size
      have zs2 : zs.length ≤ 100 := by omega
      go_wp2_with (first
        | ((at_builtin; refine wpList_append_src _ rfl (.tmp 33) (.tmp 34) 30 rfl w1.heap.size 5 i0 (.int .u8 0) 1 1 Try.underlying30 hi hz0 hz1 hz2 rfl (by decide) _ _ _ rfl hown _ _ _ (zs.map (Value.int .u8)) rfl HLn.out hsrc.out (ints_one _ _) (by unfold maxLen; first | omega | (simp only [List.length_append, List.length_cons]; omega)) (by first | omega | (simp only [List.length_append, List.length_cons]; omega)) (by have := hBw.size; first | omega | (simp; omega)) ?_; intro v5 w5 hown1 hgrow1)))
      have hown2 : w5.ownsRow w1.heap.size 5 1 v5 zs.length (zs.map (Value.int .u8)) := by simpa using hown1
      obtain ⟨C, cap5, rfl⟩ := own_slice hown2
      have hb5 : Below w1.heap.size w1 w5 := ⟨hgrow1.os, hgrow1.tape, hgrow1.output, hgrow1.size, fun k hk => hgrow1.block k hk (fun h => by have h2 : some k = (Value.slice none 0 0).ownBlock := h; simp [Value.ownBlock] at h2)⟩
      have hB5 := below_next (w := w) hB hb5
      have hrow := rowW_own hown2 rfl
      have hci := Lib.hid (ints_own hown2)
      clear hown1 hown2 hgrow1 hown hsrc hB hBw
      have y1 : w.heap.size ≤ w1.heap.size := zB
      go_wp2_with fail
      (with_reducible refine (add_nil 9 _ _).mono ?_)
      rintro e w6 ⟨rfl, rfl⟩
      go_wp2_with fail
      go_loopw [9] (fun i wr => ∃ k : Nat, k ≤ zs.length ∧ i = .int .i64 k ∧ RowW wr C zs.length w1.heap.size w5.heap.size ∧ Below w.heap.size w wr) (fun i _ => zs.length - (intOf i).toNat)
      case atStart => exact ⟨0, by omega, rfl, hrow, hB5⟩
      case round =>
        clear hrow hB5
        obtain ⟨k, hk, rfl, hrow, hB⟩ := hrel
        by_cases hlt : k < zs.length
        · rcases hrow with h0 | ⟨g, cur, rfl, g1, g2, hg, hcs, hv⟩
          · omega
          obtain ⟨v, hv1⟩ := hv k hlt
          have d0 : wr.cell? ⟨g, k, none⟩ = some (.int .u8 v) := by rw [(blk_facts hg).1]; exact hv1
          have fg := (blk_facts hg).2.1
          have zg := blk_lt hg
          go_wp2_with fail
          go_roundw
          case rel => exact ⟨k + 1, by omega, by go_num, row_set hg hcs hv g1 g2 k _, hB.setCell (by show w.heap.size ≤ g; omega) _⟩
          case measure => simp [intOf]; omega
        · go_wp2_with fail
          (with_reducible refine (get_nil 9 _).mono ?_)
          rintro e w8 ⟨rfl, rfl⟩
          go_wp2_with fail
          (try go_quiet (fail))
          go_wp2_with fail
          go_loopw [12] (fun i wr => i = .int .i64 0 ∧ Below w.heap.size w wr) (fun i _ => 0)
          case atStart => exact ⟨rfl, by first | exact hB | exact below_drew hB | exact below_drewN hB _⟩
          case round =>
            clear hB hrow
            obtain ⟨rfl, hB⟩ := hrel
            go_wp2_with fail
            (with_reducible refine (get_nil 9 _).mono ?_)
            rintro e w8 ⟨rfl, rfl⟩
            go_wp2_with (first | (go_at_call 15; (with_reducible refine (len_nil _).mono ?_); rintro e w9 ⟨rfl, rfl⟩))
            (try go_quiet (fail))
            go_wp2_with fail
            go_ret
            exact ⟨rfl, by first | exact hB | exact below_drew hB | exact below_drewN hB _⟩
    · have hd : decide (room ≤ 4096) = false := decide_eq_false (by omega)
      go_enter Try.func5, Try.ntmps5
      go_wp2_with fail
      (with_reducible refine (awake_any _).mono ?_)
      rintro e w1 ⟨rfl, hB⟩
      have hBw : Below w1.heap.size w1 w1 := Below.refl _ _
      go_wp2_with fail
      (with_reducible refine (new_nil room (.inr hm2) _).mono ?_)
      rintro e w2 ⟨rfl, rfl⟩
      have hown : w1.ownsRow w1.heap.size 5 1 (.slice none 0 0) 0 [] := World.ownsRow_nil _ _ _ _
      have hsrc := Lib.hid (ints_src (c := cap) (HA.out.below rfl hB) kc)
      have zB := hB.size
      have zs2 : zs.length ≤ 100 := by omega
      go_wp2_with (first
        | ((at_builtin; refine wpList_append_src _ rfl (.tmp 33) (.tmp 34) 30 rfl w1.heap.size 5 i0 (.int .u8 0) 1 1 Try.underlying30 hi hz0 hz1 hz2 rfl (by decide) _ _ _ rfl hown _ _ _ (zs.map (Value.int .u8)) rfl HLn.out hsrc.out (ints_one _ _) (by unfold maxLen; first | omega | (simp only [List.length_append, List.length_cons]; omega)) (by first | omega | (simp only [List.length_append, List.length_cons]; omega)) (by have := hBw.size; first | omega | (simp; omega)) ?_; intro v5 w5 hown1 hgrow1)))
      have hown2 : w5.ownsRow w1.heap.size 5 1 v5 zs.length (zs.map (Value.int .u8)) := by simpa using hown1
      obtain ⟨C, cap5, rfl⟩ := own_slice hown2
      have hb5 : Below w1.heap.size w1 w5 := ⟨hgrow1.os, hgrow1.tape, hgrow1.output, hgrow1.size, fun k hk => hgrow1.block k hk (fun h => by have h2 : some k = (Value.slice none 0 0).ownBlock := h; simp [Value.ownBlock] at h2)⟩
      have hB5 := below_next (w := w) hB hb5
      have hrow := rowW_own hown2 rfl
      have hci := Lib.hid (ints_own hown2)
      clear hown1 hown2 hgrow1 hown hsrc hB hBw
      have y1 : w.heap.size ≤ w1.heap.size := zB
      go_wp2_with fail
      (with_reducible refine (add_nil 9 _ _).mono ?_)
      rintro e w6 ⟨rfl, rfl⟩
      go_wp2_with fail
      go_loopw [9] (fun i wr => ∃ k : Nat, k ≤ zs.length ∧ i = .int .i64 k ∧ RowW wr C zs.length w1.heap.size w5.heap.size ∧ Below w.heap.size w wr) (fun i _ => zs.length - (intOf i).toNat)
      case atStart => exact ⟨0, by omega, rfl, hrow, hB5⟩
      case round =>
        clear hrow hB5
        obtain ⟨k, hk, rfl, hrow, hB⟩ := hrel
        by_cases hlt : k < zs.length
        · rcases hrow with h0 | ⟨g, cur, rfl, g1, g2, hg, hcs, hv⟩
          · omega
          obtain ⟨v, hv1⟩ := hv k hlt
          have d0 : wr.cell? ⟨g, k, none⟩ = some (.int .u8 v) := by rw [(blk_facts hg).1]; exact hv1
          have fg := (blk_facts hg).2.1
          have zg := blk_lt hg
          go_wp2_with fail
          go_roundw
          case rel => exact ⟨k + 1, by omega, by go_num, row_set hg hcs hv g1 g2 k _, hB.setCell (by show w.heap.size ≤ g; omega) _⟩
          case measure => simp [intOf]; omega
        · go_wp2_with fail
          (with_reducible refine (get_nil 9 _).mono ?_)
          rintro e w8 ⟨rfl, rfl⟩
          go_wp2_with fail
          (try go_quiet (fail))
          go_wp2_with fail
          go_loopw [12] (fun i wr => i = .int .i64 0 ∧ Below w.heap.size w wr) (fun i _ => 0)
          case atStart => exact ⟨rfl, by first | exact hB | exact below_drew hB | exact below_drewN hB _⟩
          case round =>
            clear hB hrow
            obtain ⟨rfl, hB⟩ := hrel
            go_wp2_with fail
            (with_reducible refine (get_nil 9 _).mono ?_)
            rintro e w8 ⟨rfl, rfl⟩
            go_wp2_with (first | (go_at_call 15; (with_reducible refine (len_nil _).mono ?_); rintro e w9 ⟨rfl, rfl⟩))
            (try go_quiet (fail))
            go_wp2_with fail
            go_ret
            exact ⟨rfl, by first | exact hB | exact below_drew hB | exact below_drewN hB _⟩
end Go.Proofs.Ytmpajoheoobnkaa
