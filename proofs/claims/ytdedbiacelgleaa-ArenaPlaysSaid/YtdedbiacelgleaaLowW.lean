/- The law ArenaLow, walked. -/
import Derived.Test.YtdedbiacelgleaaAwake
import Derived.Test.YtdedbiacelgleaaParts
import Derived.Deep.OwnRows
namespace Go.Proofs.Ytdedbiacelgleaa
set_option linter.unusedSimpArgs false
set_option linter.unusedVariables false
open Go.RowKit

theorem map_turn (l : List Sl) (j : Nat) (h : j < l.length) : (l.map Sl.turn).getD j 0 = l[j].turn := by simp [List.getD, h]
theorem map_used (l : List Sl) (j : Nat) (h : j < l.length) : (l.map Sl.used).getD j false = l[j].used := by simp [List.getD, h]
theorem own_int_n {w : World} {B : Nat} {b n : Nat} {e : TypeId} {k : IntKind} {r : List Int} (h : w.ownsRow B e 1 (.slice (some ⟨b, 0, none⟩) n n) n (r.map (Value.int k))) {j : Nat} (hj : j < n) :
    w.cell? ⟨b, j, none⟩ = some (.int k (r.getD j 0)) ∧ w.frozen? ⟨b, j, none⟩ = false ∧ (∀ x, (w.setCell ⟨b, j, none⟩ (.int k x)).ownsRow B e 1 (.slice (some ⟨b, 0, none⟩) n n) n ((r.set j x).map (Value.int k))) ∧ b < w.heap.size := by
  obtain ⟨b', e, _, hb, hc, hf, hs⟩ := own_int h hj
  cases e
  exact ⟨hc, hf, hs, hb⟩
theorem own_boo_n {w : World} {B : Nat} {b n : Nat} {e : TypeId} {r : List Bool} (h : w.ownsRow B e 1 (.slice (some ⟨b, 0, none⟩) n n) n (r.map Value.bool)) {j : Nat} (hj : j < n) :
    w.cell? ⟨b, j, none⟩ = some (.bool (r.getD j false)) ∧ w.frozen? ⟨b, j, none⟩ = false ∧ (∀ x, (w.setCell ⟨b, j, none⟩ (.bool x)).ownsRow B e 1 (.slice (some ⟨b, 0, none⟩) n n) n ((r.set j x).map Value.bool)) ∧ b < w.heap.size := by
  obtain ⟨b', e, _, hb, hc, hf, hs⟩ := own_boo h hj
  cases e
  exact ⟨hc, hf, hs, hb⟩
theorem atF_unused {l : List Sl} {j : Nat} {tn : Int} (h : j < l.length) (hu : l[j].used = false) : atF l j tn = none := by
  unfold atF
  rw [dif_pos ⟨by omega, by simpa using h⟩]
  simp [hu]
theorem more_wf {l : List Sl} {k : Nat} (h : ∀ s ∈ l, 0 ≤ s.turn ∧ s.turn ≤ k) : ∀ s ∈ l, 0 ≤ s.turn ∧ s.turn ≤ ((k + 1 : Nat) : Int) := fun s hs => by have := h s hs; omega
def LowAt (us : List Bool) (n m : Nat) (v : Int) : Prop :=
  (v = -1 ∧ ∀ j, m ≤ j → j < n → us.getD j false = true) ∨ (∃ i : Nat, v = i ∧ m ≤ i ∧ i < n ∧ us.getD i false = false ∧ ∀ j, m ≤ j → j < i → us.getD j false = true)
theorem low_start (us : List Bool) (n : Nat) : LowAt us n n (-1) := .inl ⟨rfl, fun j h1 h2 => by omega⟩
theorem low_here {us : List Bool} {n m : Nat} {v : Int} (hm : m < n) (hu : us.getD m false = false) : LowAt us n m m := .inr ⟨m, rfl, Nat.le_refl _, hm, hu, fun j h1 h2 => by omega⟩
theorem low_skip {us : List Bool} {n m : Nat} {v : Int} (h : LowAt us n (m + 1) v) (hu : us.getD m false = true) : LowAt us n m v := by
  have key : ∀ j, m ≤ j → j = m ∨ m + 1 ≤ j := fun j h => by omega
  rcases h with ⟨h1, h2⟩ | ⟨i, h1, h2, h3, h4, h5⟩
  · refine .inl ⟨h1, fun j hj hn => ?_⟩
    rcases key j hj with rfl | q
    · exact hu
    · exact h2 j q hn
  · refine .inr ⟨i, h1, by omega, h3, h4, fun j hj hn => ?_⟩
    rcases key j hj with rfl | q
    · exact hu
    · exact h5 j q hn
theorem low_ends {l : List Sl} {n : Nat} {v : Int} (hn : l.length = n) (h : LowAt (l.map Sl.used) n 0 v) :
    (v = -1 ∧ ∀ j, ∀ h : j < l.length, l[j].used = true) ∨ (∃ i : Nat, v = i ∧ ∃ hi : i < l.length, l[i].used = false ∧ ∀ j, j < i → ∀ h : j < l.length, l[j].used = true) := by
  subst hn
  rcases h with ⟨h1, h2⟩ | ⟨i, h1, h2, h3, h4, h5⟩
  · exact .inl ⟨h1, fun j hj => by have := h2 j (by omega) hj; rwa [map_used l j hj] at this⟩
  · exact .inr ⟨i, h1, h3, by rwa [map_used l i h3] at h4, fun j hj hjl => by have := h5 j (by omega) hj; rwa [map_used l j hjl] at this⟩
theorem made_one (z : Value) (n : Nat) : (madeCells #[z] n).toList = List.replicate n z := by
  apply List.ext_getElem
  · simp [madeCells]
  · intro i h1 h2
    simp [madeCells, Nat.mod_one]
theorem own_made (w : World) (z : Value) (n : Nat) (e : TypeId) (B : Nat) (hb : B ≤ w.heap.size) (hn : n ≤ maxLen) : (w.alloc (.cells (madeCells #[z] n) e)).ownsRow B e 1 (.slice (some ⟨w.heap.size, 0, none⟩) n n) n (List.replicate n z) := by
  have h := World.ownsRow_lit w (size := 1) (base := B) (e := e) (madeCells #[z] n) n hb hn (by simp [madeCells])
  rw [made_one] at h
  exact h
theorem and_four {a b c d : Prop} (h : a ∧ b ∧ c) (k : d) : a ∧ b ∧ c ∧ d := ⟨h.1, h.2.1, h.2.2, k⟩
theorem map_turn_set (l : List Sl) (j : Nat) (x : Value) (st : Int) (u : Bool) : (l.set j ⟨x, st, u⟩).map Sl.turn = (l.map Sl.turn).set j st := by rw [List.map_set]
theorem map_used_set (l : List Sl) (j : Nat) (x : Value) (st : Int) (u : Bool) : (l.set j ⟨x, st, u⟩).map Sl.used = (l.map Sl.used).set j u := by rw [List.map_set]
theorem set_turn {l : List Sl} {j : Nat} {sx : Value} {st : Int} {su : Bool} (h : j < l.length) (hs : l[j] = ⟨sx, st, su⟩) : l.map Sl.turn = (l.map Sl.turn).set j st := by
  apply List.ext_getElem?
  intro i
  rw [List.getElem?_set]
  by_cases e : j = i
  · subst e; simp [h, hs]
  · rw [if_neg e]
theorem set_used {l : List Sl} {j : Nat} {sx : Value} {st : Int} {su : Bool} (h : j < l.length) (hs : l[j] = ⟨sx, st, su⟩) : (l.map Sl.used).set j su = l.map Sl.used := by
  apply List.ext_getElem?
  intro i
  rw [List.getElem?_set]
  by_cases e : j = i
  · subst e; simp [h, hs]
  · rw [if_neg e]
theorem start_rows (z : Value) (n : Nat) : ((List.replicate n (sl0 z)).map Sl.turn).map (Value.int .u32) = List.replicate n (.int .u32 0) ∧ ((List.replicate n (sl0 z)).map Sl.used).map Value.bool = List.replicate n (.bool false) := by
  simp [sl0]
theorem take_wf {l : List Sl} {k i : Nat} {x : Value} {st : Int} (h : ∀ s ∈ l, 0 ≤ s.turn ∧ s.turn ≤ k) (h0 : 0 ≤ st) (h1 : st ≤ k) : ∀ s ∈ l.set i ⟨x, st + 1, true⟩, 0 ≤ s.turn ∧ s.turn ≤ ((k + 1 : Nat) : Int) := by
  intro s hs
  rcases List.mem_or_eq_of_mem_set hs with q | q
  · have := h s q; omega
  · subst q; show 0 ≤ st + 1 ∧ st + 1 ≤ ((k + 1 : Nat) : Int); omega
theorem free_wf {l : List Sl} {k i : Nat} {x : Value} {st : Int} (h : ∀ s ∈ l, 0 ≤ s.turn ∧ s.turn ≤ k) (h0 : 0 ≤ st) (h1 : st ≤ k) : ∀ s ∈ l.set i ⟨x, st, false⟩, 0 ≤ s.turn ∧ s.turn ≤ k := by
  intro s hs
  rcases List.mem_or_eq_of_mem_set hs with q | q
  · exact h s q
  · subst q; exact ⟨h0, h1⟩
set_option maxRecDepth 100000 in
set_option maxHeartbeats 4000000 in
theorem low_walk (room : Int) (A : Option Addr) (len cap : Nat) (zs : List Int) (w : World) (hr0 : 0 ≤ room) (hr1 : room ≤ 255) (hlen : zs.length = len) (hl : len ≤ 9223372036854775807) (hp : IntsAt w A .u8 zs) (hr : ∀ z ∈ zs, 0 ≤ z ∧ z ≤ 255) :
    Calls Try.prog 4 #[.int .u8 room, .slice A len cap] w fun e w' => e = .returned (.bool true) ∧ Below w.heap.size w w' := by
  subst hlen
  have HP := Lib.hid hp; clear hp
  have HR := Lib.hid hr; clear hr
  by_cases h100 : 100 < zs.length
  · go_enter Try.func4, Try.ntmps4
    go_wp2_with fail
    (with_reducible refine (awake_any _).mono ?_)
    rintro e w1 ⟨rfl, hb⟩
    go_wp2_with fail
    go_ret
    exact ⟨rfl, hb⟩
  obtain ⟨n, hn⟩ : ∃ n : Nat, room % 9 + 1 = n := ⟨(room % 9 + 1).toNat, by omega⟩
  have hn0 : 1 ≤ n := by omega
  have hn1 : n ≤ 9 := by omega
  have hm8 := run_make_row' (P := Try.prog) 42 29 (.int .u32 0) 4 Try.underlying42 (by kernel_rfl) rfl .i64 .i64 n (by omega) (by omega)
  have hm9 := run_make_row' (P := Try.prog) 28 4 (.bool false) 1 Try.underlying28 (by kernel_rfl) rfl .i64 .i64 n (by omega) (by omega)
  go_enter Try.func4, Try.ntmps4
  go_wp2_with fail
  (with_reducible refine (awake_any _).mono ?_)
  rintro e w1 ⟨rfl, hB⟩
  have y1 := hB.size
  go_wp2_with fail
  with_reducible refine (new_i _ n rfl _ hn0 (by omega)).mono ?_
  rintro e w2 ⟨P, L, rfl, hA, hp, hq, hb⟩
  have HN := Lib.hid hn; clear hn
  replace hB := below_next (w := w) hB hb
  have y2 := hB.size
  clear hb
  have AA := Lib.hid hA; clear hA
  go_wp2_with fail
  clear hm8 hm9
  have o8 := own_made w2 (.int .u32 0) n 29 w.heap.size (by omega) (by unfold maxLen; omega)
  have o9 := own_made (w2.alloc (.cells (madeCells #[.int .u32 0] n) 29)) (.bool false) n 4 w.heap.size (by rw [size_alloc]; omega) (by unfold maxLen; omega)
  rw [size_alloc, ← (start_rows (.int .i64 0) n).2] at o9
  rw [← (start_rows (.int .i64 0) n).1] at o8
  have O := Lib.hid (And.intro (own_alloc (o := .cells (madeCells #[.bool false] n) 4) o8) o9); clear o8 o9
  go_loopw [10] (fun i wr => ∃ (k : Nat) (l : List Sl) (live : Int), k ≤ zs.length ∧ i = .int .i64 k ∧ Hid (∀ s ∈ l, 0 ≤ s.turn ∧ s.turn ≤ k) ∧ l.length = n ∧ -(k : Int) ≤ live ∧ live ≤ k ∧ wr.ownsRow w.heap.size 29 1 (.slice (some ⟨w2.heap.size, 0, none⟩) n n) n ((l.map Sl.turn).map (Value.int .u32)) ∧ wr.ownsRow w.heap.size 4 1 (.slice (some ⟨w2.heap.size + 1, 0, none⟩) n n) n ((l.map Sl.used).map Value.bool) ∧ At wr P L 62 65 l live ∧ Below w.heap.size w wr) (fun i _ => zs.length - (intOf i).toNat)
  case atStart => exact ⟨0, List.replicate n (sl0 (.int .i64 0)), 0, by omega, rfl, Lib.hid (fun s hs => by rw [List.eq_of_mem_replicate hs]; exact ⟨by simp [sl0], by simp [sl0]⟩), by simp, by omega, by omega, O.out.1, O.out.2, (have hA := AA.out; (by repeat (first | (with_reducible assumption) | (with_reducible apply At.alloc) | (with_reducible apply At.drewN) | ((with_reducible apply at_set); (focus (first | omega | (simp; done) | (simp; omega))); (focus (first | omega | (simp; done) | (simp; omega))))))), by go_grown⟩
  case round =>
    clear hB AA O
    obtain ⟨k, l, live, hk, rfl, HINV, hln, hv0, hv1, o8, o9, hA, hB⟩ := hrel
    have yr := hB.size
    have zP := blk_lt hA.p
    have zL := blk_lt hA.l
    have AA := Lib.hid hA; clear hA
    have HLN := Lib.hid hln; clear hln
    obtain ⟨wo, hwo⟩ : ∃ wo, wo = wr := ⟨_, rfl⟩
    subst hwo
    by_cases hlt : k < zs.length
    · go_wp2_with fail
      go_loopw [11, 12] (fun v11 v12 wi => ∃ (m : Nat) (c v : Int), m ≤ n ∧ v12 = .int .i64 c ∧ c = m - 1 ∧ v11 = .int .i64 v ∧ Hid (LowAt (l.map Sl.used) n m v) ∧ wo = wi) (fun _ v12 _ => (intOf v12 + 1).toNat)
      case atStart => exact ⟨n, _, _, by omega, rfl, by omega, rfl, Lib.hid (low_start _ _), rfl⟩
      case round =>
        obtain ⟨m, c, v, hm, rfl, hc, rfl, HV, hwi⟩ := hrel
        subst hwi
        cases m with
        | succ m =>
          have hcm : c = (m : Int) := by omega
          subst hcm
          clear hc
          obtain ⟨t9, f9, s9, z9⟩ := own_boo_n o9 (j := m) (by omega)
          clear s9 f9
          cases hu : (l.map Sl.used).getD m false with
          | false =>
            rw [hu] at t9
            have HU := Lib.hid hu; clear hu
            go_wp2_with fail
            go_roundw
            case rel => exact ⟨m, _, _, by omega, rfl, by omega, rfl, Lib.hid (low_here (v := 0) (by omega) HU.out), by first | rfl | trivial⟩
            case measure => first | (simp [intOf]; done) | (simp [intOf]; omega)
          | true =>
            rw [hu] at t9
            have HU := Lib.hid hu; clear hu
            go_wp2_with fail
            go_roundw
            case rel => exact ⟨m, _, _, by omega, rfl, by omega, rfl, Lib.hid (low_skip HV.out HU.out), by first | rfl | trivial⟩
            case measure => first | (simp [intOf]; done) | (simp [intOf]; omega)
        | zero =>
          have hcm : c = -1 := by omega
          subst hcm
          clear hc
          obtain ⟨ab, ao, rfl, hab, q0⟩ := HP.out k hlt
          have hz := HR.out (zs.getD k 0) (by simp [List.getD, hlt])
          generalize zs.getD k 0 = fb at *
          obtain ⟨zl, zu⟩ := hz
          have Q0 := Lib.hid q0; clear q0
          have hl64 : l.length ≤ 64 := by rw [HLN.out]; omega
          rcases low_ends HLN.out HV.out with ⟨rfl, hall⟩ | ⟨i, rfl, hi, hf, hlow⟩
          · have HALL := Lib.hid hall; clear hall HV
            go_wp2_with fail
            with_reducible refine (take_full_i _ P L l live k (have hA := AA.out; (by repeat (first | (with_reducible assumption) | (with_reducible apply At.alloc) | (with_reducible apply At.drewN) | ((with_reducible apply at_set); (focus (first | omega | (simp; done) | (simp; omega))); (focus (first | omega | (simp; done) | (simp; omega))))))) hl64 HALL.out).mono ?_
            rintro e w3 ⟨rfl, hb⟩
            have o8n := own_below o8 hb
            have o9n := own_below o9 hb
            have hA3 := At.below AA.out hb
            have hBn := below_next (w := w) hB hb
            clear hb hB AA o8 o9
            have hB := hBn
            have o8 := own_alloc (o := .cells #[.int .i64 0, .int .u32 0] 31) o8n
            have o9 := own_alloc (o := .cells #[.int .i64 0, .int .u32 0] 31) o9n
            clear hBn o8n o9n
            have y3 := hB.size
            have hAn := At.alloc hA3 (.cells #[.int .i64 0, .int .u32 0] 31)
            have zP := blk_lt hA3.p
            have zL := blk_lt hA3.l
            have AA := Lib.hid hAn; clear hAn hA3
            have q0 := (hB.cell (p := ⟨ab, ao + k, none⟩) hab).trans Q0.out
            have hb1 := Nat.lt_of_lt_of_le hab hB.size
            have INV : Hid (∀ s ∈ l, 0 ≤ s.turn ∧ s.turn ≤ ((k + 1 : Nat) : Int)) := Lib.hid (more_wf HINV.out)
            go_upto_region 20 with fail
            go_quiet (fail)
            obtain ⟨j, hj⟩ : ∃ j : Nat, fb % (n : Int) = j := ⟨(fb % (n : Int)).toNat, (Int.toNat_of_nonneg (Int.emod_nonneg fb (by omega))).symm⟩
            have hjn : j < n := by have h9 := Int.emod_lt_of_pos fb (b := (n : Int)) (by omega); rw [hj] at h9; omega
            have hjl : j < l.length := by rw [HLN.out]; exact hjn
            have hl64 : l.length ≤ 64 := by rw [HLN.out]; omega
            obtain ⟨t8, _, _, z8⟩ := own_int_n o8 hjn
            rw [map_turn l j hjl] at t8
            have hwf := INV.out l[j] (by simp)
            obtain ⟨tb0, tb1⟩ := hwf
            have hat1 : l[j].used = true → atF l (j : Int) l[j].turn = some j := fun q => atF_of hjl q
            have hat2 : l[j].used = false → atF l (j : Int) l[j].turn = none := fun q => atF_unused hjl q
            generalize hsj : l[j] = sj at *
            obtain ⟨sx, st, su⟩ := sj
            dsimp only at t8 tb0 tb1 hat1 hat2
            have HSJ := Lib.hid hsj; clear hsj
            cases su with
            | true =>
              have hat := hat1 rfl
              have HAT := Lib.hid hat; clear hat hat1 hat2
              go_wp2_with fail
              with_reducible refine (show ∀ W, At W P L 62 65 l live → Calls Try.prog 10 #[.pointer (some ⟨P, 0, none⟩), .agg #[.int .i64 j, .int .u32 st]] W (fun e w' => e = .returned (.int .i64 0) ∧ At w' P L 62 65 (l.set j ⟨.int .i64 0, st, false⟩) (live - 1) ∧ Turned P L W w' ∧ At W P L 62 65 l live) from fun W h => (free_some_i W P L l live j st j h hl64 (by omega) (by omega) HAT.out).mono fun e w' ⟨a, b, c⟩ => ⟨a, b, c, h⟩) _ (have hA := AA.out; (by repeat (first | (with_reducible assumption) | (with_reducible apply At.alloc) | (with_reducible apply At.drewN) | ((with_reducible apply at_set); (focus (first | omega | (simp; done) | (simp; omega))); (focus (first | omega | (simp; done) | (simp; omega))))))) |>.mono ?_
              rintro e w8 ⟨rfl, hA, hT, hAo⟩
              clear t8 z8
              have hBn : Below w.heap.size w w8 := turned_below (by first | (go_grown; done) | exact below_drewN (by go_grown) _) hT (by omega) (by omega) (by first | omega | (simp; omega))
              have o8n : w8.ownsRow w.heap.size 29 1 (.slice (some ⟨w2.heap.size, 0, none⟩) n n) n ((l.map Sl.turn).map (Value.int .u32)) := turned_own hT (by repeat (first | (with_reducible assumption) | (with_reducible apply own_alloc) | (with_reducible apply own_drewN) | (with_reducible apply own_set_other) | (with_reducible apply heap_set_same) | ((with_reducible apply heap_set_other'); (focus (first | omega | (simp; done) | (simp; omega)))) | ((with_reducible apply heap_alloc_new); (focus (first | omega | (simp; done) | (simp; omega)))) | (with_reducible apply heap_alloc_old') | (with_reducible apply (heap_drew_at _ _).trans) | (with_reducible apply (heap_drewN_at _ _ _).trans) | decide)) hAo (by decide) (by decide)
              have o9n : w8.ownsRow w.heap.size 4 1 (.slice (some ⟨w2.heap.size + 1, 0, none⟩) n n) n ((l.map Sl.used).map Value.bool) := turned_own hT (by repeat (first | (with_reducible assumption) | (with_reducible apply own_alloc) | (with_reducible apply own_drewN) | (with_reducible apply own_set_other) | (with_reducible apply heap_set_same) | ((with_reducible apply heap_set_other'); (focus (first | omega | (simp; done) | (simp; omega)))) | ((with_reducible apply heap_alloc_new); (focus (first | omega | (simp; done) | (simp; omega)))) | (with_reducible apply heap_alloc_old') | (with_reducible apply (heap_drew_at _ _).trans) | (with_reducible apply (heap_drewN_at _ _ _).trans) | decide)) hAo (by decide) (by decide)
              clear hB hT hAo
              have hB := hBn
              clear hBn
              clear o8
              have o8 := o8n
              clear o8n
              clear o9
              have o9 := o9n
              clear o9n
              have y8 := hB.size
              clear AA
              have zP := blk_lt hA.p
              have zL := blk_lt hA.l
              obtain ⟨t9, f9, s9, z9⟩ := own_boo_n o9 hjn
              rw [map_used l j hjl, HSJ.out] at t9
              dsimp only at t9
              have q9 := s9 false
              have q8 := own_stored (u := .bool false) (j := j) o8 o9 (by decide)
              have qA := At.stored (u := .bool false) (j := j) hA o9 (by decide) (by decide)
              rw [set_turn hjl HSJ.out, ← map_turn_set l j (.int .i64 0) st false] at q8
              rw [← map_used_set l j (.int .i64 0) st false] at q9
              have Q := Lib.hid (And.intro q8 (And.intro q9 qA)); clear s9 q8 q9 qA o8 o9 hA
              go_wp2_with fail
              go_roundw
              case rel => exact ⟨k + 1, l.set j ⟨.int .i64 0, st, false⟩, live - 1, by omega, by go_num, Lib.hid (free_wf INV.out tb0 tb1), by rw [List.length_set]; exact HLN.out, by push_cast; omega, by push_cast; omega, Q.out.1, Q.out.2.1, Q.out.2.2, by go_grown⟩
              case measure => simp [intOf]; omega
            | false =>
              have hat := hat2 rfl
              have HAT := Lib.hid hat; clear hat hat1 hat2
              go_wp2_with fail
              with_reducible refine (free_none_i _ P L l live j st (have hA := AA.out; (by repeat (first | (with_reducible assumption) | (with_reducible apply At.alloc) | (with_reducible apply At.drewN) | ((with_reducible apply at_set); (focus (first | omega | (simp; done) | (simp; omega))); (focus (first | omega | (simp; done) | (simp; omega))))))) hl64 HAT.out).mono ?_
              rintro e w8 ⟨rfl, hb⟩
              clear t8 z8
              have hA := At.below (have hA := AA.out; (by repeat (first | (with_reducible assumption) | (with_reducible apply At.alloc) | (with_reducible apply At.drewN) | ((with_reducible apply at_set); (focus (first | omega | (simp; done) | (simp; omega))); (focus (first | omega | (simp; done) | (simp; omega))))))) hb
              have o8n : w8.ownsRow w.heap.size 29 1 (.slice (some ⟨w2.heap.size, 0, none⟩) n n) n ((l.map Sl.turn).map (Value.int .u32)) := own_below (by repeat (first | (with_reducible assumption) | (with_reducible apply own_alloc) | (with_reducible apply own_drewN) | (with_reducible apply own_set_other) | (with_reducible apply heap_set_same) | ((with_reducible apply heap_set_other'); (focus (first | omega | (simp; done) | (simp; omega)))) | ((with_reducible apply heap_alloc_new); (focus (first | omega | (simp; done) | (simp; omega)))) | (with_reducible apply heap_alloc_old') | (with_reducible apply (heap_drew_at _ _).trans) | (with_reducible apply (heap_drewN_at _ _ _).trans) | decide)) hb
              have o9n : w8.ownsRow w.heap.size 4 1 (.slice (some ⟨w2.heap.size + 1, 0, none⟩) n n) n ((l.map Sl.used).map Value.bool) := own_below (by repeat (first | (with_reducible assumption) | (with_reducible apply own_alloc) | (with_reducible apply own_drewN) | (with_reducible apply own_set_other) | (with_reducible apply heap_set_same) | ((with_reducible apply heap_set_other'); (focus (first | omega | (simp; done) | (simp; omega)))) | ((with_reducible apply heap_alloc_new); (focus (first | omega | (simp; done) | (simp; omega)))) | (with_reducible apply heap_alloc_old') | (with_reducible apply (heap_drew_at _ _).trans) | (with_reducible apply (heap_drewN_at _ _ _).trans) | decide)) hb
              have hBn := below_next (w := w) (by first | (go_grown; done) | exact below_drewN (by go_grown) _) hb
              clear hb hB o8 o9
              have hB := hBn
              have o8 := o8n
              have o9 := o9n
              clear hBn o8n o9n
              have y8 := hB.size
              clear AA
              have zP := blk_lt hA.p
              have zL := blk_lt hA.l
              obtain ⟨t9, f9, s9, z9⟩ := own_boo_n o9 hjn
              rw [map_used l j hjl, HSJ.out] at t9
              dsimp only at t9
              have q9 := s9 false
              have q8 := own_stored (u := .bool false) (j := j) o8 o9 (by decide)
              have qA := At.stored (u := .bool false) (j := j) hA o9 (by decide) (by decide)
              rw [set_used hjl HSJ.out] at q9
              have Q := Lib.hid (And.intro q8 (And.intro q9 qA)); clear s9 q8 q9 qA o8 o9 hA
              go_wp2_with fail
              go_roundw
              case rel => exact ⟨k + 1, l, live, by omega, by go_num, Lib.hid (INV.out), HLN.out, by push_cast; omega, by push_cast; omega, Q.out.1, Q.out.2.1, Q.out.2.2, by go_grown⟩
              case measure => simp [intOf]; omega
          · have HF := Lib.hid hf; clear hf
            have HLOW := Lib.hid hlow; clear hlow HV
            have hin : i < n := by rw [← HLN.out]; exact hi
            go_upto_region 19 with fail
            go_upto_region 20 with (with_reducible refine (show ∀ W, At W P L 62 65 l live → Calls Try.prog 9 #[.pointer (some ⟨P, 0, none⟩), .int .i64 k] W (fun e w' => e = .returned (.tuple #[.agg #[.int .i64 i, .int .u32 (l[i].turn + 1)], .int .i64 0]) ∧ At w' P L 62 65 (l.set i ⟨.int .i64 k, l[i].turn + 1, true⟩) (live + 1) ∧ Turned P L W w' ∧ At W P L 62 65 l live) from fun W h => (take_i W P L l live k h hl64 (fun s hs => by have := HINV.out s hs; omega) (by omega) (by omega) i hi HF.out HLOW.out).mono fun e w' ⟨a, b, c⟩ => ⟨a, b, c, h⟩) _ (have hA := AA.out; (by repeat (first | (with_reducible assumption) | (with_reducible apply At.alloc) | (with_reducible apply At.drewN) | ((with_reducible apply at_set); (focus (first | omega | (simp; done) | (simp; omega))); (focus (first | omega | (simp; done) | (simp; omega))))))) |>.mono ?_; rintro e w3 ⟨rfl, hA, hT, hAo⟩)
            clear AA
            have hBn : Below w.heap.size w w3 := turned_below (by first | (go_grown; done) | exact below_drewN (by go_grown) _) hT (by omega) (by omega) (by first | omega | (simp; omega))
            have o8n : w3.ownsRow w.heap.size 29 1 (.slice (some ⟨w2.heap.size, 0, none⟩) n n) n ((l.map Sl.turn).map (Value.int .u32)) := turned_own hT o8 hAo (by decide) (by decide)
            have o9n : w3.ownsRow w.heap.size 4 1 (.slice (some ⟨w2.heap.size + 1, 0, none⟩) n n) n ((l.map Sl.used).map Value.bool) := turned_own hT o9 hAo (by decide) (by decide)
            clear hB hT hAo
            have hB := hBn
            clear hBn
            clear o8
            have o8 := o8n
            clear o8n
            clear o9
            have o9 := o9n
            clear o9n
            have y3 := hB.size
            have zP := blk_lt hA.p
            have zL := blk_lt hA.l
            obtain ⟨t8, f8, _, z8⟩ := own_int_n o8 hin
            rw [map_turn l i hi] at t8
            obtain ⟨t9, f9, _, z9⟩ := own_boo_n o9 hin
            obtain ⟨tb0, tb1⟩ := HINV.out l[i] (by simp)
            generalize hsi : l[i] = si at *
            obtain ⟨sx, st, su⟩ := si
            dsimp only at t8 tb0 tb1 hA
            have HSI := Lib.hid hsi; clear hsi
            have AA := Lib.hid hA; clear hA
            have O8 := Lib.hid o8; clear o8
            have O9 := Lib.hid o9; clear o9
            have hw : IntKind.u32.wrap (st + 1) = st + 1 := IntWalk.u32_in (st + 1) (by omega)
            go_quiet (fail)
            clear hw
            have hQ : ∀ W, W.ownsRow w.heap.size 29 1 (.slice (some ⟨w2.heap.size, 0, none⟩) n n) n ((l.map Sl.turn).map (Value.int .u32)) → W.ownsRow w.heap.size 4 1 (.slice (some ⟨w2.heap.size + 1, 0, none⟩) n n) n ((l.map Sl.used).map Value.bool) → At W P L 62 65 (l.set i ⟨.int .i64 k, st + 1, true⟩) (live + 1) → ((W.setCell ⟨w2.heap.size + 1, i, none⟩ (.bool true)).setCell ⟨w2.heap.size, i, none⟩ (.int .u32 (st + 1))).ownsRow w.heap.size 29 1 (.slice (some ⟨w2.heap.size, 0, none⟩) n n) n (((l.set i ⟨.int .i64 k, st + 1, true⟩).map Sl.turn).map (Value.int .u32)) ∧ ((W.setCell ⟨w2.heap.size + 1, i, none⟩ (.bool true)).setCell ⟨w2.heap.size, i, none⟩ (.int .u32 (st + 1))).ownsRow w.heap.size 4 1 (.slice (some ⟨w2.heap.size + 1, 0, none⟩) n n) n (((l.set i ⟨.int .i64 k, st + 1, true⟩).map Sl.used).map Value.bool) ∧ At ((W.setCell ⟨w2.heap.size + 1, i, none⟩ (.bool true)).setCell ⟨w2.heap.size, i, none⟩ (.int .u32 (st + 1))) P L 62 65 (l.set i ⟨.int .i64 k, st + 1, true⟩) (live + 1) := by
              intro W o8 o9 hA
              have s9 := (own_boo_n o9 hin).2.2.1 true
              have o8s := own_stored (j := i) (u := .bool true) o8 o9 (by decide)
              have s8 := (own_int_n o8s hin).2.2.1 (st + 1)
              have o9s := own_stored (j := i) (u := .int .u32 (st + 1)) s9 o8s (by decide)
              have As := At.stored (j := i) (u := .int .u32 (st + 1)) (At.stored (j := i) (u := .bool true) hA o9 (by decide) (by decide)) o8s (by decide) (by decide)
              rw [← map_turn_set l i (.int .i64 k) (st + 1) true] at s8
              rw [← map_used_set l i (.int .i64 k) (st + 1) true] at o9s
              exact ⟨s8, o9s, As⟩
            have Q := Lib.hid hQ; clear hQ
            have INV := Lib.hid (take_wf (i := i) (x := .int .i64 k) HINV.out tb0 tb1)
            have HLn : Hid ((l.set i ⟨.int .i64 k, st + 1, true⟩).length = n) := Lib.hid (by rw [List.length_set]; exact HLN.out)
            generalize l.set i ⟨.int .i64 k, st + 1, true⟩ = l' at *
            have o8 := O8.out
            have o9 := O9.out
            have OO := Lib.hid (And.intro o8 o9); clear o8 o9
            go_upto_if 83 with fail
            go_cut [11] from 33 to 117 (fun v11 wx => v11 = .int .i64 i ∧ wx.ownsRow w.heap.size 29 1 (.slice (some ⟨w2.heap.size, 0, none⟩) n n) n ((l'.map Sl.turn).map (Value.int .u32)) ∧ wx.ownsRow w.heap.size 4 1 (.slice (some ⟨w2.heap.size + 1, 0, none⟩) n n) n ((l'.map Sl.used).map Value.bool) ∧ At wx P L 62 65 l' (live + 1) ∧ Below w.heap.size w wx)
            case first =>
              go_wp2_with fail
              go_meet
              obtain ⟨o8, o9⟩ := OO.out
              exact ⟨rfl, and_four (Q.out _ (by repeat (first | (with_reducible assumption) | (with_reducible apply own_alloc) | (with_reducible apply own_drewN) | (with_reducible apply own_set_other) | (with_reducible apply heap_set_same) | ((with_reducible apply heap_set_other'); (focus (first | omega | (simp; done) | (simp; omega)))) | ((with_reducible apply heap_alloc_new); (focus (first | omega | (simp; done) | (simp; omega)))) | (with_reducible apply heap_alloc_old') | (with_reducible apply (heap_drew_at _ _).trans) | (with_reducible apply (heap_drewN_at _ _ _).trans) | decide)) (by repeat (first | (with_reducible assumption) | (with_reducible apply own_alloc) | (with_reducible apply own_drewN) | (with_reducible apply own_set_other) | (with_reducible apply heap_set_same) | ((with_reducible apply heap_set_other'); (focus (first | omega | (simp; done) | (simp; omega)))) | ((with_reducible apply heap_alloc_new); (focus (first | omega | (simp; done) | (simp; omega)))) | (with_reducible apply heap_alloc_old') | (with_reducible apply (heap_drew_at _ _).trans) | (with_reducible apply (heap_drewN_at _ _ _).trans) | decide)) (have hA := AA.out; (by repeat (first | (with_reducible assumption) | (with_reducible apply At.alloc) | (with_reducible apply At.drewN) | ((with_reducible apply at_set); (focus (first | omega | (simp; done) | (simp; omega))); (focus (first | omega | (simp; done) | (simp; omega)))))))) (by first | (go_grown; done) | exact ((below_drewN (by go_grown) _).setCell (by go_grown) _).setCell (by go_grown) _)⟩
            case rest =>
              clear t8 f8 z8 t9 f9 z9 Q OO O8 O9 AA hB
              obtain ⟨rfl, o8, o9, hA, hB⟩ := hcut
              have yc := hB.size
              have zP := blk_lt hA.p
              have zL := blk_lt hA.l
              have AA := Lib.hid hA; clear hA
              have q0 := (hB.cell (p := ⟨ab, ao + k, none⟩) hab).trans Q0.out
              have hb1 := Nat.lt_of_lt_of_le hab hB.size
              obtain ⟨w4, hwc⟩ : ∃ wq, wq = wc := ⟨_, rfl⟩
              subst hwc
              obtain ⟨j, hj⟩ : ∃ j : Nat, fb % (n : Int) = j := ⟨(fb % (n : Int)).toNat, (Int.toNat_of_nonneg (Int.emod_nonneg fb (by omega))).symm⟩
              have hjn : j < n := by have h9 := Int.emod_lt_of_pos fb (b := (n : Int)) (by omega); rw [hj] at h9; omega
              have hjl : j < l'.length := by rw [HLn.out]; exact hjn
              have hl64 : l'.length ≤ 64 := by rw [HLn.out]; omega
              obtain ⟨t8, _, _, z8⟩ := own_int_n o8 hjn
              rw [map_turn l' j hjl] at t8
              have hwf := INV.out l'[j] (by simp)
              obtain ⟨tb0, tb1⟩ := hwf
              have hat1 : l'[j].used = true → atF l' (j : Int) l'[j].turn = some j := fun q => atF_of hjl q
              have hat2 : l'[j].used = false → atF l' (j : Int) l'[j].turn = none := fun q => atF_unused hjl q
              generalize hsj : l'[j] = sj at *
              obtain ⟨sx, st, su⟩ := sj
              dsimp only at t8 tb0 tb1 hat1 hat2
              have HSJ := Lib.hid hsj; clear hsj
              cases su with
              | true =>
                have hat := hat1 rfl
                have HAT := Lib.hid hat; clear hat hat1 hat2
                go_wp2_with fail
                with_reducible refine (show ∀ W, At W P L 62 65 l' (live + 1) → Calls Try.prog 10 #[.pointer (some ⟨P, 0, none⟩), .agg #[.int .i64 j, .int .u32 st]] W (fun e w' => e = .returned (.int .i64 0) ∧ At w' P L 62 65 (l'.set j ⟨.int .i64 0, st, false⟩) ((live + 1) - 1) ∧ Turned P L W w' ∧ At W P L 62 65 l' (live + 1)) from fun W h => (free_some_i W P L l' (live + 1) j st j h hl64 (by omega) (by omega) HAT.out).mono fun e w' ⟨a, b, c⟩ => ⟨a, b, c, h⟩) _ (have hA := AA.out; (by repeat (first | (with_reducible assumption) | (with_reducible apply At.alloc) | (with_reducible apply At.drewN) | ((with_reducible apply at_set); (focus (first | omega | (simp; done) | (simp; omega))); (focus (first | omega | (simp; done) | (simp; omega))))))) |>.mono ?_
                rintro e w8 ⟨rfl, hA, hT, hAo⟩
                clear t8 z8
                have hBn : Below w.heap.size w w8 := turned_below (by first | (go_grown; done) | exact below_drewN (by go_grown) _) hT (by omega) (by omega) (by first | omega | (simp; omega))
                have o8n : w8.ownsRow w.heap.size 29 1 (.slice (some ⟨w2.heap.size, 0, none⟩) n n) n ((l'.map Sl.turn).map (Value.int .u32)) := turned_own hT (by repeat (first | (with_reducible assumption) | (with_reducible apply own_alloc) | (with_reducible apply own_drewN) | (with_reducible apply own_set_other) | (with_reducible apply heap_set_same) | ((with_reducible apply heap_set_other'); (focus (first | omega | (simp; done) | (simp; omega)))) | ((with_reducible apply heap_alloc_new); (focus (first | omega | (simp; done) | (simp; omega)))) | (with_reducible apply heap_alloc_old') | (with_reducible apply (heap_drew_at _ _).trans) | (with_reducible apply (heap_drewN_at _ _ _).trans) | decide)) hAo (by decide) (by decide)
                have o9n : w8.ownsRow w.heap.size 4 1 (.slice (some ⟨w2.heap.size + 1, 0, none⟩) n n) n ((l'.map Sl.used).map Value.bool) := turned_own hT (by repeat (first | (with_reducible assumption) | (with_reducible apply own_alloc) | (with_reducible apply own_drewN) | (with_reducible apply own_set_other) | (with_reducible apply heap_set_same) | ((with_reducible apply heap_set_other'); (focus (first | omega | (simp; done) | (simp; omega)))) | ((with_reducible apply heap_alloc_new); (focus (first | omega | (simp; done) | (simp; omega)))) | (with_reducible apply heap_alloc_old') | (with_reducible apply (heap_drew_at _ _).trans) | (with_reducible apply (heap_drewN_at _ _ _).trans) | decide)) hAo (by decide) (by decide)
                clear hB hT hAo
                have hB := hBn
                clear hBn
                clear o8
                have o8 := o8n
                clear o8n
                clear o9
                have o9 := o9n
                clear o9n
                have y8 := hB.size
                clear AA
                have zP := blk_lt hA.p
                have zL := blk_lt hA.l
                obtain ⟨t9, f9, s9, z9⟩ := own_boo_n o9 hjn
                rw [map_used l' j hjl, HSJ.out] at t9
                dsimp only at t9
                have q9 := s9 false
                have q8 := own_stored (u := .bool false) (j := j) o8 o9 (by decide)
                have qA := At.stored (u := .bool false) (j := j) hA o9 (by decide) (by decide)
                rw [set_turn hjl HSJ.out, ← map_turn_set l' j (.int .i64 0) st false] at q8
                rw [← map_used_set l' j (.int .i64 0) st false] at q9
                have Q := Lib.hid (And.intro q8 (And.intro q9 qA)); clear s9 q8 q9 qA o8 o9 hA
                go_wp2_with fail
                go_roundw
                case rel => exact ⟨k + 1, l'.set j ⟨.int .i64 0, st, false⟩, (live + 1) - 1, by omega, by go_num, Lib.hid (free_wf INV.out tb0 tb1), by rw [List.length_set]; exact HLn.out, by push_cast; omega, by push_cast; omega, Q.out.1, Q.out.2.1, Q.out.2.2, by go_grown⟩
                case measure => simp [intOf]; omega
              | false =>
                have hat := hat2 rfl
                have HAT := Lib.hid hat; clear hat hat1 hat2
                go_wp2_with fail
                with_reducible refine (free_none_i _ P L l' (live + 1) j st (have hA := AA.out; (by repeat (first | (with_reducible assumption) | (with_reducible apply At.alloc) | (with_reducible apply At.drewN) | ((with_reducible apply at_set); (focus (first | omega | (simp; done) | (simp; omega))); (focus (first | omega | (simp; done) | (simp; omega))))))) hl64 HAT.out).mono ?_
                rintro e w8 ⟨rfl, hb⟩
                clear t8 z8
                have hA := At.below (have hA := AA.out; (by repeat (first | (with_reducible assumption) | (with_reducible apply At.alloc) | (with_reducible apply At.drewN) | ((with_reducible apply at_set); (focus (first | omega | (simp; done) | (simp; omega))); (focus (first | omega | (simp; done) | (simp; omega))))))) hb
                have o8n : w8.ownsRow w.heap.size 29 1 (.slice (some ⟨w2.heap.size, 0, none⟩) n n) n ((l'.map Sl.turn).map (Value.int .u32)) := own_below (by repeat (first | (with_reducible assumption) | (with_reducible apply own_alloc) | (with_reducible apply own_drewN) | (with_reducible apply own_set_other) | (with_reducible apply heap_set_same) | ((with_reducible apply heap_set_other'); (focus (first | omega | (simp; done) | (simp; omega)))) | ((with_reducible apply heap_alloc_new); (focus (first | omega | (simp; done) | (simp; omega)))) | (with_reducible apply heap_alloc_old') | (with_reducible apply (heap_drew_at _ _).trans) | (with_reducible apply (heap_drewN_at _ _ _).trans) | decide)) hb
                have o9n : w8.ownsRow w.heap.size 4 1 (.slice (some ⟨w2.heap.size + 1, 0, none⟩) n n) n ((l'.map Sl.used).map Value.bool) := own_below (by repeat (first | (with_reducible assumption) | (with_reducible apply own_alloc) | (with_reducible apply own_drewN) | (with_reducible apply own_set_other) | (with_reducible apply heap_set_same) | ((with_reducible apply heap_set_other'); (focus (first | omega | (simp; done) | (simp; omega)))) | ((with_reducible apply heap_alloc_new); (focus (first | omega | (simp; done) | (simp; omega)))) | (with_reducible apply heap_alloc_old') | (with_reducible apply (heap_drew_at _ _).trans) | (with_reducible apply (heap_drewN_at _ _ _).trans) | decide)) hb
                have hBn := below_next (w := w) (by first | (go_grown; done) | exact below_drewN (by go_grown) _) hb
                clear hb hB o8 o9
                have hB := hBn
                have o8 := o8n
                have o9 := o9n
                clear hBn o8n o9n
                have y8 := hB.size
                clear AA
                have zP := blk_lt hA.p
                have zL := blk_lt hA.l
                obtain ⟨t9, f9, s9, z9⟩ := own_boo_n o9 hjn
                rw [map_used l' j hjl, HSJ.out] at t9
                dsimp only at t9
                have q9 := s9 false
                have q8 := own_stored (u := .bool false) (j := j) o8 o9 (by decide)
                have qA := At.stored (u := .bool false) (j := j) hA o9 (by decide) (by decide)
                rw [set_used hjl HSJ.out] at q9
                have Q := Lib.hid (And.intro q8 (And.intro q9 qA)); clear s9 q8 q9 qA o8 o9 hA
                go_wp2_with fail
                go_roundw
                case rel => exact ⟨k + 1, l', (live + 1), by omega, by go_num, Lib.hid (INV.out), HLn.out, by push_cast; omega, by push_cast; omega, Q.out.1, Q.out.2.1, Q.out.2.2, by go_grown⟩
                case measure => simp [intOf]; omega
    · go_wp2_with fail
      go_ret
      exact ⟨rfl, hB⟩
end Go.Proofs.Ytdedbiacelgleaa
