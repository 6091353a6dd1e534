/- How many requests wait, walked; and the document's example. -/
import Derived.Test.YtlncekdoaddifaaFns2
namespace Go.Proofs.Ytlncekdoaddifaa
set_option linter.unusedSimpArgs false
set_option linter.unusedVariables false
open Go.RowKit

theorem waits_take (L : List En) (k : Nat) (h : k < L.length) : waitsF (L.take (k + 1)) = waitsF (L.take k) + (if L[k].done then 0 else 1) := by
  rw [List.take_succ_eq_append_getElem h]
  unfold waitsF
  rw [List.filter_append, List.length_append]
  cases h9 : L[k].done <;> simp [List.filter_cons, h9]
set_option maxHeartbeats 1000000 in
theorem waits_t (w : World) (T M B room n : Nat) (L : List En) (h : TabAt w T M B room n L) (hok : Ok L room) (hl : L.length ≤ 5000) :
    Calls Try.prog 17 #[.pointer (some ⟨T, 0, none⟩)] w fun e w' => e = .returned (.int .i64 (waitsF L)) ∧ Below w.heap.size w w' := by
  have hlen := fun W (q : TabAt W T M B room n L) => len_t W T M B room n L q
  have h0 := h
  have HL := Lib.hid hlen; clear hlen
  have HH := Lib.hid h0; clear h0
  obtain ⟨⟨v, hT, hv⟩, hM, bT, bM, bw⟩ := h
  obtain ⟨A, cap, rfl⟩ := hv.slice
  have e1 := idsV_length L
  rw [e1] at hT hv
  clear e1
  obtain ⟨cT, fT, zT⟩ := blk_facts hT
  have hfd := field55
  go_enter Try.func17, Try.ntmps17
  go_wp2_with fail
  with_reducible refine (HL.out _ HH.out).mono ?_
  rintro e w1 ⟨rfl, rfl⟩
  go_wp2_with fail
  go_loopw [3, 7] (fun a j wr => ∃ k d : Nat, k ≤ L.length ∧ j = .int .i64 k ∧ a = .int .i64 ((waitsF (L.take k) : Nat) : Int) ∧ wr = w.drewN d) (fun _ j _ => L.length - (intOf j).toNat)
  case atStart => exact ⟨0, 0, by omega, rfl, by simp [waitsF], rfl⟩
  case round =>
    obtain ⟨k, d, hk, rfl, rfl, rfl⟩ := hrel
    have hwl : waitsF (L.take k) ≤ k := Nat.le_trans (waits_le _) (by simp; omega)
    by_cases hlt : k < L.length
    · obtain ⟨g, off, rfl, _, gl, gc, gf⟩ := qrow_cell hv (j := k) (by rw [idsV_length]; exact hlt)
      have hid : (idsV L)[k]? = some (.int .u64 L[k].id) := by simp [idsV, hlt]
      rw [hid] at gc
      have hmem : L[k] ∈ L := by simp
      obtain ⟨b0, b1⟩ := hok.lo L[k] hmem
      have hfe : findF L L[k].id = some L[k] := findF_mem hok.nd hmem
      have hst := waits_take L k hlt
      have hget : (mapF L L[k].id).getD (.agg #[.string ⟨#[]⟩, .bool false]) = .agg #[.string L[k].ans, .bool L[k].done] := by unfold mapF; rw [hfe]; rfl
      have hrun : ∀ j, (Instr.lookup 47 (.map (some M)) (.int .u64 L[k].id) false).run Try.prog (w.drewN j) = .ok (.agg #[.string L[k].ans, .bool L[k].done]) (w.drewN j) := fun j => by
        rw [(hM.drewN j).get Try.underlying29 Try.underlying47 (zero55 _) (wf_u64 b0 b1), hget]
      have hrun0 : (Instr.lookup 47 (.map (some M)) (.int .u64 L[k].id) false).run Try.prog w = .ok (.agg #[.string L[k].ans, .bool L[k].done]) w := hrun 0
      clear hget hfe hid hmem
      generalize L[k] = en at *
      obtain ⟨id, ans, dn⟩ := en
      dsimp only at gc hst hrun hrun0
      have HST := Lib.hid hst; clear hst
      cases dn with
      | true =>
        go_wp2_with fail
        go_quiet (fail)
        go_wp2_with fail
        go_roundw
        case rel => exact ⟨k + 1, _, by omega, by go_num, by rw [HST.out]; simp, rfl⟩
        case measure => simp [intOf]; omega
      | false =>
        go_wp2_with fail
        go_quiet (fail)
        go_wp2_with fail
        go_roundw
        case rel => exact ⟨k + 1, _, by omega, by go_num, by rw [HST.out]; simp, rfl⟩
        case measure => simp [intOf]; omega
    · have hkl : k = L.length := by omega
      subst hkl
      go_wp2_with fail
      go_ret
      exact ⟨by rw [List.take_length]; rfl, below_drewN (Below.refl _ _) _⟩
def a1 : List En := [new 5]
def a2 : List En := [⟨5, ⟨#[120]⟩, true⟩]
def a3 : List En := [new 6]
theorem s1 : startF [] 1 5 = (a1, 0) := by simp [startF, findF, a1]
theorem s2 : startF a1 1 6 = (a1, 20) := by simp [startF, findF, a1, new]
theorem s3 : endF a1 5 ⟨#[120]⟩ = (a2, 0) := by simp [endF, findF, setF, a1, a2, new]
theorem s4 : startF a2 1 6 = (a3, 0) := by simp [startF, findF, a2, a3]
theorem f1 : findV a2 5 = (⟨#[120]⟩, true, true) := by simp [findV, findF, a2]
theorem f2 : findV a3 5 = (⟨#[]⟩, false, false) := by simp [findV, findF, a3, new]
theorem w3 : waitsF a3 = 1 := by simp [waitsF, a3, new]
theorem o1 : Ok a1 1 := by have := startF_ok (ok_nil 1) (x := 5) (by omega) (by omega) (by omega); rw [s1] at this; exact this
theorem o2 : Ok a2 1 := by have := endF_ok o1 (x := 5) (a := ⟨#[120]⟩); rw [s3] at this; exact this
theorem o3 : Ok a3 1 := by have := startF_ok o2 (x := 6) (by omega) (by omega) (by omega); rw [s4] at this; exact this
set_option maxHeartbeats 1000000 in
theorem awake_any (w : World) : Calls Try.prog 8 #[] w fun e w' => e = .returned (.bool true) ∧ Below w.heap.size w w' := by
  go_enter Try.func8, Try.ntmps8
  go_wp2_with fail
  with_reducible refine (new_t 1 1 rfl _ (by omega) (by omega)).mono ?_
  rintro e w1 ⟨T, M, rfl, h1, hb⟩
  have hB := hb
  clear hb
  have H1 := Lib.hid h1; clear h1
  go_wp2_with fail
  with_reducible refine (start_t _ T M _ 1 _ [] 5 H1.out (ok_nil 1) (by omega) (by omega) (by omega) (by omega) (by omega) _ _ s1).mono ?_
  rintro e w2 ⟨rfl, h2, hm⟩
  replace hB := hB.trans hm.below
  clear hm
  have H2 := Lib.hid h2; clear h2
  go_wp2_with fail
  with_reducible refine (start_t _ T M _ 1 _ a1 6 H2.out o1 (by omega) (by omega) (by omega) (by omega) (by omega) _ _ s2).mono ?_
  rintro e w3_ ⟨rfl, h3, hm⟩
  replace hB := hB.trans hm.below
  clear hm
  have H3 := Lib.hid h3; clear h3
  go_wp2_with fail
  with_reducible refine (end_t _ T M _ 1 _ a1 5 ⟨#[120]⟩ H3.out (by omega) (by omega) (by omega) _ _ s3).mono ?_
  rintro e w4 ⟨rfl, h4, hm⟩
  replace hB := hB.trans hm.below
  clear hm
  have H4 := Lib.hid h4; clear h4
  go_wp2_with fail
  with_reducible refine (find_t _ T M _ 1 _ a2 5 H4.out (by omega) (by omega) _ _ _ f1).mono ?_
  rintro e w5 ⟨rfl, hb⟩
  have h5 := H4.out.below hb
  replace hB := below_next hB hb
  clear hb
  have H5 := Lib.hid h5; clear h5
  go_wp2_with fail
  with_reducible refine (start_t _ T M _ 1 _ a2 6 H5.out o2 (by omega) (by omega) (by omega) (by omega) (by omega) _ _ s4).mono ?_
  rintro e w6 ⟨rfl, h6, hm⟩
  replace hB := hB.trans hm.below
  clear hm
  have H6 := Lib.hid h6; clear h6
  go_wp2_with fail
  with_reducible refine (find_t _ T M _ 1 _ a3 5 H6.out (by omega) (by omega) _ _ _ f2).mono ?_
  rintro e w7 ⟨rfl, hb⟩
  have h7 := H6.out.below hb
  replace hB := below_next hB hb
  clear hb
  have H7 := Lib.hid h7; clear h7
  go_wp2_with (first
    | (go_at_call 16; (with_reducible refine (len_t _ T M _ 1 _ a3 H7.out).mono ?_); rintro e w9 ⟨rfl, rfl⟩)
    | (go_at_call 17; (with_reducible refine (waits_t _ T M _ 1 _ a3 H7.out o3 (by decide)).mono ?_); rw [w3]; rintro e w9 ⟨rfl, hb9⟩))
  go_ret
  exact ⟨rfl, below_next hB hb9⟩
end Go.Proofs.Ytlncekdoaddifaa
