/- Requests and their answers: plain laws. No program in sight. -/
namespace Go.Proofs.Ytlncekdoaddifaa
set_option linter.unusedSimpArgs false
set_option linter.unusedVariables false
/-- A request, its answer, and whether it has one. -/
structure En where
  id : Int
  ans : ByteArray
  done : Bool
instance : Inhabited En := ⟨⟨0, ⟨#[]⟩, false⟩⟩
def findF (L : List En) (x : Int) : Option En := L.find? (fun e => decide (e.id = x))
def new (x : Int) : En := ⟨x, ⟨#[]⟩, false⟩
/-- What a start leaves, and tells. -/
def startF (L : List En) (room : Nat) (x : Int) : List En × Int :=
  if (findF L x).isSome then (L, 22) else if L.length = room then (match L with | [] => (L, 20) | e :: r => if e.done then (r ++ [new x], 0) else (L, 20)) else (L ++ [new x], 0)
/-- .. an answer. -/
def setF (L : List En) (x : Int) (a : ByteArray) : List En := L.map fun e => if e.id = x then ⟨x, a, true⟩ else e
def endF (L : List En) (x : Int) (a : ByteArray) : List En × Int :=
  match findF L x with
  | none => (L, 21)
  | some e => if e.done then (L, 23) else (setF L x a, 0)
def waitsF (L : List En) : Nat := (L.filter fun e => !e.done).length
structure Ok (L : List En) (room : Nat) : Prop where
  nd : (L.map En.id).Nodup
  le : L.length ≤ room
  lo : ∀ e ∈ L, 0 ≤ e.id ∧ e.id ≤ 18446744073709551615
theorem ok_nil (room : Nat) : Ok [] room := ⟨List.nodup_nil, by simp, fun e h => by simp at h⟩
theorem findF_none {L : List En} {x : Int} : findF L x = none ↔ x ∉ L.map En.id := by
  unfold findF
  rw [List.find?_eq_none]
  simp only [decide_eq_true_eq, List.mem_map, not_exists, not_and]
theorem findF_some {L : List En} {x : Int} {e : En} (h : findF L x = some e) : e ∈ L ∧ e.id = x := ⟨List.mem_of_find?_eq_some h, by simpa using List.find?_some h⟩
theorem findF_mem {L : List En} {e : En} (h : (L.map En.id).Nodup) (he : e ∈ L) : findF L e.id = some e := by
  induction L with
  | nil => simp at he
  | cons a L ih =>
    rw [List.map_cons, List.nodup_cons] at h
    unfold findF
    rw [List.find?_cons]
    rcases List.mem_cons.1 he with q | q
    · subst q; simp
    · have hne : a.id ≠ e.id := fun q2 => h.1 (by rw [q2]; exact List.mem_map.2 ⟨e, q, rfl⟩)
      simp only [hne, decide_false, Bool.false_eq_true]
      exact ih h.2 q
theorem findF_cons (e : En) (L : List En) (y : Int) : findF (e :: L) y = if e.id = y then some e else findF L y := by
  unfold findF
  rw [List.find?_cons]
  by_cases h : e.id = y
  · simp [h]
  · simp [h]
theorem findF_push {L : List En} {x : Int} (h : findF L x = none) (y : Int) : findF (L ++ [new x]) y = if y = x then some (new x) else findF L y := by
  induction L with
  | nil =>
    rw [List.nil_append, findF_cons]
    by_cases q : y = x
    · subst q; simp [new]
    · rw [if_neg (show ¬ (new x).id = y from fun q2 => q q2.symm), if_neg q]
  | cons a L ih =>
    rw [findF_cons] at h
    split at h
    · cases h
    · rename_i hne
      rw [List.cons_append, findF_cons, findF_cons, ih h]
      by_cases q : y = x
      · subst q; rw [if_neg hne, if_pos rfl, if_pos rfl]
      · rw [if_neg q, if_neg q]
theorem findF_tail {e : En} {L : List En} (h : ((e :: L).map En.id).Nodup) (y : Int) : findF L y = if y = e.id then none else findF (e :: L) y := by
  rw [List.map_cons, List.nodup_cons] at h
  by_cases q : y = e.id
  · rw [if_pos q, q, findF_none]; exact h.1
  · rw [if_neg q, findF_cons, if_neg (fun q2 => q q2.symm)]
theorem findF_set (L : List En) (x : Int) (a : ByteArray) (y : Int) : findF (setF L x a) y = if y = x then (findF L x).map (fun _ => ⟨x, a, true⟩) else findF L y := by
  induction L with
  | nil => simp [setF, findF]
  | cons e L ih =>
    have e1 : setF (e :: L) x a = (if e.id = x then ⟨x, a, true⟩ else e) :: setF L x a := rfl
    rw [e1, findF_cons, findF_cons, findF_cons, ih]
    by_cases h : e.id = x
    · rw [if_pos h, if_pos h]
      by_cases q : y = x
      · subst q; simp
      · rw [if_neg (fun q2 => q q2.symm), if_neg q, if_neg q, if_neg (fun q2 => q (by omega))]
    · rw [if_neg h, if_neg h]
      by_cases q : y = x
      · subst q; rw [if_neg h, if_pos rfl, if_pos rfl]
      · rw [if_neg q, if_neg q]
theorem set_ids (L : List En) (x : Int) (a : ByteArray) : (setF L x a).map En.id = L.map En.id := by
  induction L with
  | nil => rfl
  | cons e L ih =>
    have e1 : setF (e :: L) x a = (if e.id = x then ⟨x, a, true⟩ else e) :: setF L x a := rfl
    rw [e1, List.map_cons, List.map_cons, ih]
    split
    · rename_i h; rw [h]
    · rfl
theorem set_length (L : List En) (x : Int) (a : ByteArray) : (setF L x a).length = L.length := by simp [setF]
theorem push_ok {L : List En} {room : Nat} {x : Int} (h : Ok L room) (hx : findF L x = none) (hl : L.length < room) (h0 : 0 ≤ x) (h1 : x ≤ 18446744073709551615) : Ok (L ++ [new x]) room := by
  refine ⟨?_, by simp; omega, fun e he => ?_⟩
  · rw [List.map_append, List.nodup_append]
    refine ⟨h.nd, by simp, fun a ha b hb => ?_⟩
    simp [new] at hb
    subst hb
    intro q
    subst q
    exact (findF_none.1 hx) ha
  · rcases List.mem_append.1 he with q | q
    · exact h.lo e q
    · simp at q; subst q; exact ⟨h0, h1⟩
theorem tail_ok {e : En} {L : List En} {room : Nat} (h : Ok (e :: L) room) : Ok L room :=
  ⟨by have := h.nd; rw [List.map_cons, List.nodup_cons] at this; exact this.2, by have := h.le; simp at this; omega, fun a ha => h.lo a (by simp [ha])⟩
theorem tail_none {e : En} {L : List En} {x : Int} (h : findF (e :: L) x = none) : findF L x = none := by
  rw [findF_cons] at h
  split at h
  · cases h
  · exact h
theorem set_ok {L : List En} {room : Nat} (h : Ok L room) (x : Int) (a : ByteArray) : Ok (setF L x a) room := by
  refine ⟨by rw [set_ids]; exact h.nd, by rw [set_length]; exact h.le, fun e he => ?_⟩
  unfold setF at he
  rw [List.mem_map] at he
  obtain ⟨b, hb, rfl⟩ := he
  have := h.lo b hb
  by_cases q : b.id = x
  · rw [if_pos q]; show 0 ≤ x ∧ x ≤ _; omega
  · rw [if_neg q]; exact this
theorem startF_ok {L : List En} {room : Nat} {x : Int} (h : Ok L room) (h0 : 0 ≤ x) (h1 : x ≤ 18446744073709551615) (hr : 1 ≤ room) : Ok (startF L room x).1 room := by
  unfold startF
  split
  · exact h
  · rename_i hs
    have hn : findF L x = none := by cases q : findF L x with | none => rfl | some e => rw [q] at hs; simp at hs
    split
    · rename_i hl
      match L, h, hn, hl with
      | [], h, _, _ => exact h
      | e :: r, h, hn, hl =>
        dsimp only
        split
        · exact push_ok (tail_ok h) (tail_none hn) (by simp at hl; omega) h0 h1
        · exact h
    · rename_i hl
      exact push_ok h hn (by have := h.le; omega) h0 h1
theorem endF_ok {L : List En} {room : Nat} {x : Int} {a : ByteArray} (h : Ok L room) : Ok (endF L x a).1 room := by
  unfold endF
  split
  · exact h
  · split
    · exact h
    · exact set_ok h x a
theorem waits_le (L : List En) : waitsF L ≤ L.length := List.length_filter_le _ _
theorem waits_cons (e : En) (L : List En) : waitsF (e :: L) = (if e.done then 0 else 1) + waitsF L := by
  unfold waitsF
  rw [List.filter_cons]
  cases e.done <;> simp <;> omega
theorem waits_push (L : List En) (x : Int) : waitsF (L ++ [new x]) = waitsF L + 1 := by simp [waitsF, new]
theorem waits_set {L : List En} {x : Int} {a : ByteArray} {e : En} (h : (L.map En.id).Nodup) (he : findF L x = some e) (hd : e.done = false) : waitsF (setF L x a) + 1 = waitsF L := by
  induction L with
  | nil => simp [findF] at he
  | cons b L ih =>
    have e1 : setF (b :: L) x a = (if b.id = x then ⟨x, a, true⟩ else b) :: setF L x a := rfl
    rw [List.map_cons, List.nodup_cons] at h
    rw [e1, waits_cons, waits_cons]
    rw [findF_cons] at he
    by_cases q : b.id = x
    · rw [if_pos q] at he
      simp only [Option.some.injEq] at he
      subst he
      have hs : setF L x a = L := by
        unfold setF
        rw [List.map_congr_left (g := id)]
        · simp
        · intro c hc
          have : c.id ≠ x := fun q2 => h.1 (by rw [q, ← q2]; exact List.mem_map.2 ⟨c, hc, rfl⟩)
          simp [this]
      rw [if_pos q, hs, hd]
      simp
      omega
    · rw [if_neg q] at he ⊢
      have := ih h.2 he
      omega
end Go.Proofs.Ytlncekdoaddifaa
