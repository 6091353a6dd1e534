/- How a law's row follows from its walk: every argument reads behind the call as it read before where the call turned nothing that was there; and how arguments of structs and slices are opened to their cells. No condition. -/
import Derived.Test.YtidpkmabcndknaaRows
import Derived.WalkKit
import Derived.ProofKit
import Derived.OpenShut
import Derived.Deep.Slices
import Derived.ChangeSame
import Derived.ChangeArms
import Derived.DataReads
namespace Go.Proofs.Ytidpkmabcndknaa
set_option linter.unusedSimpArgs false
set_option linter.unusedVariables false
open Go.ChangeShapes Go.WideShapes Go.ChangeAt Go.RowKit

theorem own_knob : ownKnob Try.prog.godebug = none := by kernel_rfl
theorem laid_out : laidOutB Try.prog = true := by kernel_rfl

/-- The types of the cells of a type without pointers to its own cells: a struct's cells are its fields' ones. -/
def leavesOf (P : Program) : Nat → TypeId → Option (List TypeId)
  | 0, _ => none
  | n + 1, t => match P.underlying t with
    | some (.struct fs) =>
      match fs.toList.foldl (fun acc f => match acc, leavesOf P n f.type with
        | some l, some m => if f.offset = l.length ∧ P.cellsOf f.type = m.length then some (l ++ m) else none
        | _, _ => none) (some []) with
      | some l => if P.cellsOf t = l.length then some l else none
      | none => none
    | some (.array _ _) => none
    | some _ => if P.cellsOf t = 1 then some [t] else none
    | none => none

section
variable {H : Type} {enc : TypeId × Value → H} {P : Program} {w : World} {base : Nat} {spare : Nat → Bool} {held : Bool}

/-- Each of the first cells is read as its leaf's type. -/
def LeafAt (enc : TypeId × Value → H) (P : Program) (w : World) (base : Nat) (spare : Nat → Bool) (held : Bool) (cs : List Value) (l : List TypeId) : Prop :=
  ∀ (i : Nat) (u : TypeId), l[i]? = some u → ∃ (c : Value) (y : DataW H × List MemPlace) (m : Nat), cs[i]? = some c ∧ DataW.trod enc P w base spare held m u [c] = some y

theorem leaves_fold (n : Nat) (cs : List Value)
    (ih : ∀ t L, leavesOf P n t = some L → ∀ m cs x, DataW.trod enc P w base spare held m t cs = some x → cs.length = L.length ∧ LeafAt enc P w base spare held cs L) :
    ∀ (fs : List Field) (l L : List TypeId), LeafAt enc P w base spare held cs l →
      (∀ f ∈ fs, ∃ m x, DataW.trod enc P w base spare held m f.type ((cs.drop f.offset).take (P.cellsOf f.type)) = some x) →
      fs.foldl (fun acc f => match acc, leavesOf P n f.type with
        | some l, some m => if f.offset = l.length ∧ P.cellsOf f.type = m.length then some (l ++ m) else none
        | _, _ => none) (some l) = some L → LeafAt enc P w base spare held cs L := by
  intro fs
  induction fs with
  | nil =>
    intro l L hl _ h
    simp only [List.foldl_nil, Option.some.injEq] at h
    subst h
    exact hl
  | cons f fs ihf =>
    intro l L hl hf h
    rw [List.foldl_cons] at h
    have hnone : ∀ gs : List Field, gs.foldl (fun acc f => match acc, leavesOf P n f.type with
        | some l, some m => if f.offset = l.length ∧ P.cellsOf f.type = m.length then some (l ++ m) else none
        | _, _ => none) none = none := by
      intro gs
      induction gs with
      | nil => rfl
      | cons g gs ihg => rw [List.foldl_cons]; exact ihg
    cases hm : leavesOf P n f.type with
    | none => rw [hm] at h; simp only [] at h; rw [hnone] at h; cases h
    | some mm =>
      rw [hm] at h
      simp only [] at h
      by_cases hc : f.offset = l.length ∧ P.cellsOf f.type = mm.length
      · rw [if_pos hc] at h
        refine ihf (l ++ mm) L ?_ (fun g hg => hf g (by simp [hg])) h
        obtain ⟨m, x, hx⟩ := hf f (by simp)
        obtain ⟨_, hat⟩ := ih _ _ hm m _ x hx
        intro i u hu
        by_cases hi : i < l.length
        · rw [List.getElem?_append_left hi] at hu
          exact hl i u hu
        · rw [List.getElem?_append_right (by omega)] at hu
          obtain ⟨c, y, k, h1, h2⟩ := hat _ u hu
          refine ⟨c, y, k, ?_, h2⟩
          rw [List.getElem?_take] at h1
          split at h1
          · rw [List.getElem?_drop, hc.1] at h1
            rw [← h1]
            congr 1
            omega
          · cases h1
      · rw [if_neg hc, hnone] at h
        cases h

theorem leaves (n : Nat) : ∀ t L, leavesOf P n t = some L → ∀ m cs x, DataW.trod enc P w base spare held m t cs = some x → cs.length = L.length ∧ LeafAt enc P w base spare held cs L := by
  induction n with
  | zero => intro t L h; cases h
  | succ n ih =>
    intro t L h m cs x hx
    unfold leavesOf at h
    split at h
    · rename_i fs ht
      obtain ⟨xs, k, _, _, hlen, hxl, hf⟩ := DataW.trod_struct ht hx
      split at h
      · rename_i l hl
        split at h
        · rename_i hcl
          cases h
          refine ⟨hlen.trans hcl, leaves_fold n cs ih fs.toList [] _ ?_ ?_ hl⟩
          · intro i u hu
            simp at hu
          · intro f hfm
            obtain ⟨i, hi, hfi⟩ := List.getElem_of_mem hfm
            have hfi' : fs[i]? = some f := by
              rw [← Array.getElem?_toList, List.getElem?_eq_getElem hi, hfi]
            have hil : i < xs.length := by
              have := (Array.getElem?_eq_some_iff.1 hfi').1
              omega
            exact ⟨k, xs[i], (hf i f hfi').trans (List.getElem?_eq_getElem hil)⟩
        · cases h
      · cases h
    · cases h
    · rename_i d hns hna ht
      split at h
      · rename_i hone
        cases h
        have hlen : cs.length = 1 := by
          cases m with
          | zero => simp [DataW.trod] at hx
          | succ m =>
            unfold DataW.trod at hx
            rw [ht] at hx
            split at hx <;> first | rfl | (exfalso; simp_all; done) | skip
            all_goals simp_all
        refine ⟨by simpa using hlen, ?_⟩
        intro i u hu
        match cs, hlen with
        | [c], _ =>
          cases i with
          | zero => simp at hu; subst hu; exact ⟨c, x, m, rfl, hx⟩
          | succ i => simp at hu
      · cases h
    · cases h

theorem leaf_int {cs : List Value} {l : List TypeId} (h : LeafAt enc P w base spare held cs l) {i : Nat} {u : TypeId} {k : IntKind} (hu : l[i]? = some u) (hk : P.underlying u = some (.int k)) :
    ∃ n, cs[i]? = some (.int k n) ∧ (Lit.int k n).wf = true := by
  obtain ⟨c, y, m, h1, h2⟩ := h i u hu
  obtain ⟨n, hc, _, hw⟩ := DataW.trod_int hk h2
  cases hc
  exact ⟨n, h1, hw⟩
theorem leaf_bool {cs : List Value} {l : List TypeId} (h : LeafAt enc P w base spare held cs l) {i : Nat} {u : TypeId} (hu : l[i]? = some u) (hk : P.underlying u = some .bool) :
    ∃ b, cs[i]? = some (.bool b) := by
  obtain ⟨c, y, m, h1, h2⟩ := h i u hu
  obtain ⟨b, hc, _⟩ := DataW.trod_bool hk h2
  cases hc
  exact ⟨b, h1⟩
theorem leaf_string {cs : List Value} {l : List TypeId} (h : LeafAt enc P w base spare held cs l) {i : Nat} {u : TypeId} (hu : l[i]? = some u) (hk : P.underlying u = some .string) :
    ∃ s, cs[i]? = some (.string s) ∧ s.size ≤ maxLen := by
  obtain ⟨c, y, m, h1, h2⟩ := h i u hu
  obtain ⟨s, hc, _, hs⟩ := DataW.trod_string hk h2
  cases hc
  exact ⟨s, h1, hs⟩

theorem spot_none {a : Addr} {v : Value} (h : w.cell? a = some v) : a = ⟨a.block, a.off, none⟩ ∧ a.block < w.heap.size := by
  obtain ⟨b, o, s⟩ := a
  unfold World.cell? at h
  split at h
  · rename_i c e f hb
    cases s with
    | none =>
      refine ⟨rfl, ?_⟩
      rcases Nat.lt_or_ge b w.heap.size with h1 | h1
      · exact h1
      · rw [Array.getElem?_eq_none h1] at hb; cases hb
    | some x => simp at h
  · cases h

/-- A slice's elements, cell by cell. -/
theorem open_cells {t e : TypeId} {v : Value} {d : DataW H} {ps : List MemPlace} {m : Nat} (ht : P.underlying t = some (.slice e)) (hm : P.cellsOf e = m) (h0 : 0 < m)
    (h : DataW.Trod enc P w base spare held t v d ps) (hv : ∃ a len cap, v = .slice a len cap) :
    ∃ (A : Option Addr) (len cap : Nat), v = .slice A len cap ∧ len ≤ cap ∧ cap ≤ maxLen ∧
      ∀ i, i < len → ∃ (b o : Nat) (cs : List Value), A = some ⟨b, o, none⟩ ∧ b < w.heap.size ∧ cs.length = m ∧ (∀ (j : Nat) (u : Value), cs[j]? = some u → w.cell? ⟨b, o + i * m + j, none⟩ = some u) ∧
        ∃ n x, DataW.trod enc P w base spare held n e cs = some x := by
  obtain ⟨a0, len0, cap0, rfl⟩ := hv
  obtain ⟨fuel, hf⟩ := h
  have hf' : DataW.trod enc P w base spare held fuel t [.slice a0 len0 cap0] = some (d, ps) := hf
  rcases Go.Deep.open_slice ht hf' with ⟨h1, _⟩ | ⟨a, len, cap, mm, n, D, Pl, h1, _, hl, hc, hmm, _, hx⟩
  · cases h1
    exact ⟨none, 0, 0, rfl, Nat.le_refl _, Nat.zero_le _, fun i hi => absurd hi (Nat.not_lt_zero _)⟩
  · cases h1
    refine ⟨some a, _, _, rfl, hl, hc, fun i hi => ?_⟩
    have hml : len0 ≤ mm := by rw [hmm]; split <;> omega
    have first := hx 0 (by omega)
    obtain ⟨cs0, hc0, _⟩ := first
    obtain ⟨_, hl0, hat0⟩ := World.cells?_some hc0
    rw [hm] at hl0 hat0
    have hz := hat0 0 h0
    rw [Nat.zero_mul, Addr.add_zero', Addr.add_zero'] at hz
    obtain ⟨v0, hv0⟩ : ∃ v0, cs0[0]? = some v0 := ⟨cs0[0]'(by omega), List.getElem?_eq_getElem (by omega)⟩
    rw [hv0] at hz
    obtain ⟨ea, hlt⟩ := spot_none hz
    obtain ⟨cs, hcs, ht'⟩ := hx i (by omega)
    obtain ⟨_, hlen, hat⟩ := World.cells?_some hcs
    rw [hm] at hlen hat
    refine ⟨a.block, a.off, cs, by rw [← ea], hlt, hlen, fun j u hu => ?_, n, _, ht'⟩
    have hj : j < cs.length := (List.getElem?_eq_some_iff.1 hu).1
    have := hat j (by omega)
    rw [hu, ea, Addr.add_lit, Addr.add_lit] at this
    exact this
end

/-- A slice of integers: its numbers by an index function. -/
theorem ints_fn {H : Type} {enc : TypeId × Value → H} {P : Program} {w : World} {base : Nat} {spare : Nat → Bool} {held : Bool} {e : TypeId} {k : IntKind} {A : Option Addr} {len : Nat} (he : P.underlying e = some (.int k))
    (h : ∀ i, i < len → ∃ (b o : Nat) (cs : List Value), A = some ⟨b, o, none⟩ ∧ b < w.heap.size ∧ cs.length = 1 ∧ (∀ (j : Nat) (u : Value), cs[j]? = some u → w.cell? ⟨b, o + i * 1 + j, none⟩ = some u) ∧
        ∃ n x, DataW.trod enc P w base spare held n e cs = some x) :
    ∃ z : Nat → Int, ∀ i, i < len → ∃ b o, A = some ⟨b, o, none⟩ ∧ b < w.heap.size ∧ w.cell? ⟨b, o + i, none⟩ = some (.int k (z i)) ∧ (Lit.int k (z i)).wf = true := by
  refine Go.Deep.choose_lt (p := fun i x => ∃ b o, A = some ⟨b, o, none⟩ ∧ b < w.heap.size ∧ w.cell? ⟨b, o + i, none⟩ = some (.int k x) ∧ (Lit.int k x).wf = true) (fun i hi => ?_)
  obtain ⟨b, o, cs, hA, hb, _, hc, n, x, hx⟩ := h i hi
  obtain ⟨z, rfl, _, hw⟩ := DataW.trod_int he hx
  refine ⟨z, b, o, hA, hb, ?_, hw⟩
  simpa using hc 0 _ rfl

section
variable {H : Type} {enc : TypeId × Value → H}

theorem trodAll_stays {W W' : World} {sp : Nat → Bool} (hb : Below W.heap.size W W') :
    ∀ (ts : List TypeId) (vs : List Value) (ds : List (DataW H)) (ps : List MemPlace),
      (∀ t ∈ ts, Try.prog.readableRec t = true ∧ t < Try.prog.types.size) → DataW.TrodAll enc Try.prog W 0 (fun _ => true) true ts vs ds ps →
      (∀ p ∈ ps, p.block < W.heap.size) → (∀ p ∈ ps, sp p.block = true) → DataW.TrodAll enc Try.prog W' 0 sp true ts vs ds ps
  | [], [], [], _, _, h, _, _ => h
  | t :: ts, v :: vs, d :: ds, ps, hr, h, hlt, hs => by
    obtain ⟨p, q, h1, h2, rfl⟩ := h
    obtain ⟨ha, hb'⟩ := hr t (by simp)
    refine ⟨p, q, WideElems.Trod_stays laid_out ha hb' h1 (fun x hx => hb.same (hlt x (by simp [hx]))) (fun x hx => hs x (by simp [hx])), ?_, rfl⟩
    exact trodAll_stays hb ts vs ds q (fun t ht => hr t (by simp [ht])) h2 (fun x hx => hlt x (by simp [hx])) (fun x hx => hs x (by simp [hx]))
  | [], _ :: _, _, _, _, h, _, _ => h.elim
  | [], [], _ :: _, _, _, h, _, _ => h.elim
  | _ :: _, [], _, _, _, h, _, _ => h.elim
  | _ :: _, _ :: _, [], _, _, h, _, _ => h.elim

/-- The law answered true and turned nothing that was there: its row's last step. -/
theorem law_post {f : Func} {s : ChangeSpec} {W W' : World} {args : Array Value} {ds gs : List (DataW H)} {before : List MemPlace} {tb : TypeId}
    (hr : (f.params.toList.all fun t => Try.prog.readableRec t && decide (t < Try.prog.types.size)) = true) (hrt : f.resultTypes = #[tb]) (htb : Try.prog.underlying tb = some .bool)
    (hvars : s.vars = []) (hW : DataW.Whole enc Try.prog f.params.toList s.vars false W args.toList ds gs before)
    (hfn : s.fn H (ds ++ gs) = { results := [.lit (.bool true)], args := ds }) (hb : Below W.heap.size W W') :
    s.post enc Try.prog f false true false false W args (.bool true) W' := by
  have hr' : ∀ t ∈ f.params.toList, Try.prog.readableRec t = true ∧ t < Try.prog.types.size := by
    intro t ht
    have := List.all_eq_true.1 hr t ht
    simpa using this
  have hlt : ∀ p ∈ before, p.block < W.heap.size := fun p hp => hW.lt p hp
  have hW' := hW
  obtain ⟨p, q, hA, hV, rfl, _, _⟩ := hW
  rw [hvars] at hV
  have hq : q = [] := by
    cases gs with
    | nil => exact hV
    | cons g gs => exact hV.elim
  subst hq
  refine ⟨ds, gs, p ++ [], [], p, [], hW', ?_, ?_, ?_, hb.frame _, fun h => by cases h⟩
  · rw [hfn, hrt]
    exact ⟨[], [], shut_bool htb true, rfl, rfl⟩
  · rw [hfn]
    exact trodAll_stays hb _ _ _ _ hr' hA (fun x hx => hlt x (by simp [hx])) (fun x hx => by simpa using hlt x (by simp [hx]))
  · rw [hfn, hvars]
    rfl
end
end Go.Proofs.Ytidpkmabcndknaa
