/- Requests and their answers: what the laws ask. No program in sight. -/
import Derived.Test.YtlncekdoaddifaaTab
namespace Go.Proofs.Ytlncekdoaddifaa
set_option linter.unusedSimpArgs false
set_option linter.unusedVariables false
theorem end_bound {L L' : List En} {room : Nat} {x c : Int} {s : ByteArray} (h : Ok L room) (he : endF L x s = (L', c)) : Ok L' room ∧ ((c ≠ 0 ∧ L' = L) ∨ (c = 0 ∧ L'.length = L.length ∧ waitsF L = waitsF L' + 1)) := by
  have hk := endF_ok (x := x) (a := s) h
  rw [he] at hk
  refine ⟨hk, ?_⟩
  unfold endF at he
  split at he
  · cases he; exact .inl ⟨by decide, rfl⟩
  · rename_i e q
    split at he
    · cases he; exact .inl ⟨by decide, rfl⟩
    · rename_i hd
      cases he
      exact .inr ⟨rfl, set_length L x s, (waits_set h.nd q (by simpa using hd)).symm⟩
theorem start_bound {L L' : List En} {room : Nat} {x c : Int} (h : Ok L room) (h0 : 0 ≤ x) (h1 : x ≤ 18446744073709551615) (hr : 1 ≤ room) (he : startF L room x = (L', c)) : Ok L' room ∧ ((c ≠ 0 ∧ L' = L) ∨ (c = 0 ∧ waitsF L' = waitsF L + 1)) := by
  have hk := startF_ok (x := x) h h0 h1 hr
  rw [he] at hk
  refine ⟨hk, ?_⟩
  unfold startF at he
  split at he
  · cases he; exact .inl ⟨by decide, rfl⟩
  · split at he
    · match L, he with
      | [], he => cases he; exact .inl ⟨by decide, rfl⟩
      | e :: r, he =>
        dsimp only at he
        split at he
        · rename_i hd
          cases he
          refine .inr ⟨rfl, ?_⟩
          rw [waits_push, waits_cons, hd]
          simp
        · cases he; exact .inl ⟨by decide, rfl⟩
    · cases he; exact .inr ⟨rfl, waits_push L x⟩
/-- A request that is there has its first answer. -/
def First (L : List En) (id : Int) (a : ByteArray) : Prop := findF L id = none ∨ findF L id = some ⟨id, a, true⟩
theorem first_find {L : List En} {id : Int} {a : ByteArray} (h : First L id a) : findV L id = (a, true, true) ∨ findV L id = (⟨#[]⟩, false, false) := by
  unfold findV
  rcases h with h | h <;> rw [h]
  · exact .inr rfl
  · exact .inl rfl
theorem first_end {L : List En} {id : Int} {a : ByteArray} (h : First L id a) (x : Int) (s : ByteArray) : First (endF L x s).1 id a := by
  unfold endF
  split
  · exact h
  · rename_i e q
    split
    · exact h
    · rename_i hd
      unfold First
      rw [findF_set]
      by_cases hx : id = x
      · subst hx
        rcases h with h | h
        · rw [q] at h; cases h
        · rw [q] at h; cases h; simp at hd
      · rw [if_neg hx]; exact h
theorem first_start {L : List En} {room : Nat} {id : Int} {a : ByteArray} (h : First L id a) (hok : Ok L room) (x : Int) (hx : x ≠ id) : First (startF L room x).1 id a := by
  unfold startF
  split
  · exact h
  · rename_i hs
    have hn : findF L x = none := by cases q : findF L x with | none => rfl | some e => rw [q] at hs; simp at hs
    have hne : ¬ id = x := fun q => hx q.symm
    split
    · match L, h, hok, hn with
      | [], h, _, _ => exact h
      | e :: r, h, hok, hn =>
        dsimp only
        split
        · unfold First
          rw [findF_push (tail_none hn), if_neg hne, findF_tail hok.nd]
          by_cases q : id = e.id
          · rw [if_pos q]; exact .inl rfl
          · rw [if_neg q]; exact h
        · exact h
    · unfold First
      rw [findF_push hn, if_neg hne]
      exact h
theorem first_begin (room : Nat) (hr : 1 ≤ room) (id : Int) (a : ByteArray) : startF [] room id = ([new id], 0) ∧ endF [new id] id a = ([⟨id, a, true⟩], 0) ∧ First [⟨id, a, true⟩] id a := by
  refine ⟨?_, ?_, ?_⟩
  · simp [startF, findF]; omega
  · simp [endF, findF, setF, new]
  · simp [First, findF]
/-- Requests that were started, and answered, one behind the other. -/
def allK (a : ByteArray) : Nat → List En
  | 0 => [⟨7, a, true⟩]
  | i + 1 => allK a i ++ [⟨100 + i, ⟨#[]⟩, true⟩]
def keepsL (room : Nat) (a : ByteArray) (i : Nat) : List En := (allK a i).drop (i + 1 - room)
theorem allK_length (a : ByteArray) (i : Nat) : (allK a i).length = i + 1 := by
  induction i with
  | zero => rfl
  | succ i ih => simp [allK, ih]
theorem keeps_length (room : Nat) (a : ByteArray) (i : Nat) : (keepsL room a i).length = min room (i + 1) := by unfold keepsL; rw [List.length_drop, allK_length]; omega
theorem allK_mem {a : ByteArray} {i : Nat} {e : En} (h : e ∈ allK a i) : e.done = true ∧ (e.id = 7 ∧ e.ans = a ∨ ∃ j : Nat, j < i ∧ e.id = 100 + j) := by
  induction i with
  | zero => simp [allK] at h; subst h; exact ⟨rfl, .inl ⟨rfl, rfl⟩⟩
  | succ i ih =>
    rw [allK, List.mem_append] at h
    rcases h with h | h
    · obtain ⟨h1, h2⟩ := ih h
      refine ⟨h1, h2.imp id ?_⟩
      rintro ⟨j, h3, h4⟩
      exact ⟨j, by omega, h4⟩
    · simp at h; subst h; exact ⟨rfl, .inr ⟨i, by omega, rfl⟩⟩
theorem allK_nodup (a : ByteArray) (i : Nat) : ((allK a i).map En.id).Nodup := by
  induction i with
  | zero => simp [allK]
  | succ i ih =>
    rw [allK, List.map_append, List.nodup_append]
    refine ⟨ih, by simp, fun x hx y hy => ?_⟩
    simp at hy
    subst hy
    obtain ⟨e, he, rfl⟩ := List.mem_map.1 hx
    rcases (allK_mem he).2 with ⟨q, _⟩ | ⟨j, q1, q2⟩ <;> omega
theorem keeps_ok (room : Nat) (a : ByteArray) (i : Nat) (hi : i ≤ 1000) : Ok (keepsL room a i) room := by
  refine ⟨?_, by rw [keeps_length]; omega, fun e he => ?_⟩
  · unfold keepsL
    rw [List.map_drop]
    exact (allK_nodup a i).sublist (List.drop_sublist _ _)
  · rcases (allK_mem (List.mem_of_mem_drop he)).2 with ⟨q, _⟩ | ⟨j, q1, q2⟩ <;> omega
theorem keeps_none (room : Nat) (a : ByteArray) (i : Nat) : findF (keepsL room a i) (100 + i) = none := by
  rw [findF_none]
  intro h
  obtain ⟨e, he, q⟩ := List.mem_map.1 h
  rcases (allK_mem (List.mem_of_mem_drop he)).2 with ⟨q2, _⟩ | ⟨j, q1, q2⟩ <;> omega
theorem keeps_end {L : List En} {x : Int} (h : findF L x = none) : endF (L ++ [new x]) x ⟨#[]⟩ = (L ++ [⟨x, ⟨#[]⟩, true⟩], 0) := by
  unfold endF
  rw [findF_push h, if_pos rfl]
  simp only [new, Bool.false_eq_true, if_false]
  congr 1
  unfold setF
  rw [List.map_append]
  congr 1
  · rw [List.map_congr_left (g := id)]
    · simp
    · intro e he
      have : e.id ≠ x := fun q => (findF_none.1 h) (List.mem_map.2 ⟨e, he, q⟩)
      simp [this]
  · simp
theorem keeps_step (room : Nat) (hr : 1 ≤ room) (a : ByteArray) (i : Nat) : ∃ X, startF (keepsL room a i) room (100 + i) = (X, 0) ∧ endF X (100 + i) ⟨#[]⟩ = (keepsL room a (i + 1), 0) := by
  have hn := keeps_none room a i
  have hlen := keeps_length room a i
  unfold startF
  rw [hn]
  simp only [Option.isSome_none, Bool.false_eq_true, if_false]
  by_cases h : (keepsL room a i).length = room
  · rw [if_pos h]
    cases hk : keepsL room a i with
    | nil => rw [hk] at h; simp at h; omega
    | cons e r =>
      have hd : e.done = true := (allK_mem (List.mem_of_mem_drop (show e ∈ keepsL room a i by rw [hk]; simp))).1
      rw [hk] at hn
      refine ⟨r ++ [new (100 + i)], by simp [hd], ?_⟩
      rw [keeps_end (tail_none hn)]
      congr 1
      have e1 : r = (allK a i).drop (i + 1 - room + 1) := by
        have : r = (keepsL room a i).drop 1 := by rw [hk]; rfl
        rw [this]; unfold keepsL; rw [List.drop_drop]
      rw [e1]
      unfold keepsL
      rw [allK, List.drop_append_of_le_length (by rw [allK_length]; omega)]
      congr 2
      omega
  · rw [if_neg h]
    refine ⟨_, rfl, ?_⟩
    rw [keeps_end hn]
    congr 1
    have hlt : i + 1 < room := by omega
    unfold keepsL
    rw [show i + 1 - room = 0 by omega, show i + 1 + 1 - room = 0 by omega, List.drop_zero, List.drop_zero]
    rfl
theorem allK_head (a : ByteArray) (i : Nat) : ∃ t, allK a i = ⟨7, a, true⟩ :: t := by
  induction i with
  | zero => exact ⟨[], rfl⟩
  | succ i ih => obtain ⟨t, h⟩ := ih; exact ⟨t ++ [⟨100 + i, ⟨#[]⟩, true⟩], by rw [allK, h]; rfl⟩
theorem keeps_find (room : Nat) (a : ByteArray) (k : Nat) : findV (keepsL room a k) 7 = if k < room then (a, true, true) else (⟨#[]⟩, false, false) := by
  obtain ⟨t, ht⟩ := allK_head a k
  by_cases h : k < room
  · rw [if_pos h]
    unfold findV keepsL
    rw [show k + 1 - room = 0 by omega, List.drop_zero, ht, findF_cons, if_pos rfl]
  · rw [if_neg h]
    have hn : findF (keepsL room a k) 7 = none := by
      rw [findF_none]
      intro hm
      have nd := allK_nodup a k
      rw [ht, List.map_cons, List.nodup_cons] at nd
      refine nd.1 ?_
      obtain ⟨e, he, q⟩ := List.mem_map.1 hm
      refine List.mem_map.2 ⟨e, ?_, q⟩
      unfold keepsL at he
      rw [ht, show k + 1 - room = (k - room) + 1 by omega, List.drop_succ_cons] at he
      exact List.mem_of_mem_drop he
    unfold findV
    rw [hn]
/-- Requests 0, 1, .. that have no answer. -/
def fullL (i : Nat) : List En := (List.range i).map fun j : Nat => new (j : Int)
theorem full_length (i : Nat) : (fullL i).length = i := by simp [fullL]
theorem full_ids (i : Nat) : (fullL i).map En.id = (List.range i).map fun j : Nat => (j : Int) := by simp [fullL, new, Function.comp_def]
theorem full_none {i : Nat} {x : Int} (h : (i : Int) ≤ x) : findF (fullL i) x = none := by
  rw [findF_none, full_ids]
  intro hm
  obtain ⟨j, hj, q⟩ := List.mem_map.1 hm
  have := List.mem_range.1 hj
  omega
theorem full_step {i room : Nat} (h : i < room) : startF (fullL i) room i = (fullL (i + 1), 0) := by
  unfold startF
  rw [full_none (Int.le_refl _), full_length]
  simp only [Option.isSome_none, Bool.false_eq_true, if_false]
  rw [if_neg (by omega)]
  simp [fullL, List.range_succ]
theorem full_ok {i room : Nat} (h : i ≤ room) (hr : room ≤ 100) : Ok (fullL i) room := by
  refine ⟨?_, by rw [full_length]; exact h, fun e he => ?_⟩
  · rw [full_ids]
    exact List.pairwise_map.2 (List.Pairwise.imp (fun h q => h (by omega)) List.nodup_range)
  · unfold fullL at he
    obtain ⟨j, hj, rfl⟩ := List.mem_map.1 he
    have := List.mem_range.1 hj
    show 0 ≤ (j : Int) ∧ (j : Int) ≤ _
    omega
theorem full_cons (i : Nat) : ∃ r, fullL (i + 1) = new 0 :: r := by
  refine ⟨(List.range i).map fun j : Nat => new ((j + 1 : Nat) : Int), ?_⟩
  unfold fullL
  rw [List.range_succ_eq_map, List.map_cons, List.map_map]
  rfl
theorem full_wait {room : Nat} (h0 : 1 ≤ room) (h1 : room ≤ 100) : startF (fullL room) room 9999 = (fullL room, 20) := by
  obtain ⟨i, rfl⟩ : ∃ i, room = i + 1 := ⟨room - 1, by omega⟩
  unfold startF
  rw [full_none (by omega), full_length]
  simp only [Option.isSome_none, Bool.false_eq_true, if_false, if_true]
  obtain ⟨r, hr⟩ := full_cons i
  rw [hr]
  simp [new]
theorem full_mem {room k : Nat} (h : k < room) (h1 : room ≤ 100) : findF (fullL room) k = some (new k) := by
  have := findF_mem (L := fullL room) (e := new k) (full_ok (Nat.le_refl _) h1).nd (List.mem_map.2 ⟨k, List.mem_range.2 h, rfl⟩)
  exact this
theorem full_end {room k : Nat} (h : k < room) (h1 : room ≤ 100) (s : ByteArray) : endF (fullL room) k s = (setF (fullL room) k s, 0) := by
  unfold endF
  rw [full_mem h h1]
  simp [new]
theorem full_then {room k : Nat} (h : k < room) (h1 : room ≤ 100) (s : ByteArray) : ∃ L, startF (setF (fullL room) k s) room 9999 = (L, if k = 0 then 0 else 20) ∧ L.length = room ∧ Ok L room ∧ ∀ s2, endF L 5555 s2 = (L, 21) := by
  obtain ⟨i, rfl⟩ : ∃ i, room = i + 1 := ⟨room - 1, by omega⟩
  have hok := set_ok (full_ok (i := i + 1) (room := i + 1) (Nat.le_refl _) h1) (k : Int) s
  have hn : ∀ x : Int, 100 ≤ x → findF (setF (fullL (i + 1)) k s) x = none := fun x hx => by
    rw [findF_set, if_neg (by omega), full_none (by omega)]
  have key : startF (setF (fullL (i + 1)) k s) (i + 1) 9999 = (if k = 0 then ((setF (fullL (i + 1)) k s).tail ++ [new 9999], 0) else (setF (fullL (i + 1)) k s, 20)) := by
    unfold startF
    rw [hn _ (by omega), set_length, full_length]
    simp only [Option.isSome_none, Bool.false_eq_true, if_false, if_true]
    obtain ⟨r, hr⟩ := full_cons i
    rw [hr]
    have e1 : setF (new 0 :: r) k s = (if (0 : Int) = k then ⟨k, s, true⟩ else new 0) :: setF r k s := rfl
    rw [e1]
    by_cases q : k = 0
    · subst q; simp
    · rw [if_neg q, if_neg (by omega)]; simp [new]
  rw [key]
  by_cases q : k = 0
  · subst q
    have hl : ((setF (fullL (i + 1)) (0 : Nat) s).tail ++ [new 9999]).length = i + 1 := by simp [set_length, full_length]
    have hk := startF_ok (x := 9999) hok (by omega) (by omega) (by omega)
    rw [key, if_pos rfl] at hk
    refine ⟨_, by rw [if_pos rfl, if_pos rfl], hl, hk, fun s2 => ?_⟩
    unfold endF
    have : findF ((setF (fullL (i + 1)) (0 : Nat) s).tail ++ [new 9999]) 5555 = none := by
      have hx := hn 9999 (by omega)
      have hy := hn 5555 (by omega)
      obtain ⟨r, hr⟩ := full_cons i
      have e1 : setF (fullL (i + 1)) (0 : Nat) s = ⟨0, s, true⟩ :: setF r (0 : Nat) s := by rw [hr]; rfl
      rw [e1] at hx hy ⊢
      rw [List.tail_cons, findF_push (tail_none hx), if_neg (by omega)]
      exact tail_none hy
    rw [this]
  · refine ⟨_, by rw [if_neg q, if_neg q], by rw [set_length, full_length], hok, fun s2 => ?_⟩
    unfold endF
    rw [hn _ (by omega)]
end Go.Proofs.Ytlncekdoaddifaa
