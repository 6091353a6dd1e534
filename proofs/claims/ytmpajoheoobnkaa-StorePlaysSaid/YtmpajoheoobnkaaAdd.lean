/- The store's Add, walked. -/
import Derived.Test.YtmpajoheoobnkaaFns
import Derived.Deep.RegionHeld3
import Derived.Deep.DeepCutAuto
namespace Go.Proofs.Ytmpajoheoobnkaa
set_option linter.unusedSimpArgs false
set_option linter.unusedVariables false
open Go.RowKit

theorem keepS {u w : World} {n g b a0 a1 : Nat} {s : Array Value} {v0 v1 : Value} (z0 : g < n) (c0 : ∀ j, u.cell? ⟨g, j, none⟩ = s[j]?) (hb : b < n) (d0 : u.cell? ⟨b, a0, none⟩ = some v0) (d1 : u.cell? ⟨b, a1, none⟩ = some v1) (h : Below n u w) :
    (∀ j, w.cell? ⟨g, j, none⟩ = s[j]?) ∧ w.cell? ⟨b, a0, none⟩ = some v0 ∧ w.cell? ⟨b, a1, none⟩ = some v1 ∧ Below n u w :=
  ⟨cells_below h z0 c0, (h.cell (p := ⟨b, a0, none⟩) hb).trans d0, (h.cell (p := ⟨b, a1, none⟩) hb).trans d1, h⟩
theorem keepM {u w : World} {P : Program} {k : TypeId} {q : IntKind} {M m : Nat} {f : Int → Option Value} {g b : Nat} {s t : Array Value} (z0 : g < u.heap.size) (c0 : ∀ j, u.cell? ⟨g, j, none⟩ = s[j]?) (z1 : b < u.heap.size) (c1 : ∀ j, u.cell? ⟨b, j, none⟩ = t[j]?) (hM : MapIs u P k q M m f) (h : Below u.heap.size u w) :
    (∀ j, w.cell? ⟨g, j, none⟩ = s[j]?) ∧ (∀ j, w.cell? ⟨b, j, none⟩ = t[j]?) ∧ MapIs w P k q M m f ∧ Below u.heap.size u w :=
  ⟨cells_below h z0 c0, cells_below h z1 c1, hM.below h, h⟩
theorem keepQ {w a : World} {S R B : Nat} {c : Array Value} {t : TypeId} (h : w.heap[S]? = some (.cells c t (0, 0))) (hm : Moved S R B a w) : (∀ j, w.cell? ⟨S, j, none⟩ = c[j]?) ∧ Moved S R B a w := ⟨(blk_facts h).1, hm⟩
theorem blk_grown_map {w w' : World} {g M n : Nat} {t : TypeId} {c : Array Value} {P : Program} {k : TypeId} {q : IntKind} {f : Int → Option Value} (hb : w.heap[g]? = some (.cells c t (0, 0))) (hm : MapIs w P k q M n f) (hg : w.grownBy w' (some M)) : w'.heap[g]? = some (.cells c t (0, 0)) := (hg.block g (blk_lt hb) (fun h => hm.not_cells hb (by cases h; rfl))).trans hb
theorem ints_grown_map {w w' : World} {A : Option Addr} {k kq : IntKind} {zs : List Int} {M n : Nat} {P : Program} {ky : TypeId} {f : Int → Option Value} (h : IntsAt w A k zs) (hm : MapIs w P ky kq M n f) (hg : w.grownBy w' (some M)) : IntsAt w' A k zs := by
  intro i hi
  obtain ⟨b, o, hA, hlt, hc⟩ := h i hi
  have hne : some b ≠ some M := by
    intro q
    simp only [Option.some.injEq] at q
    subst q
    obtain ⟨D, ⟨es, clock, h1, _⟩, _⟩ := hm.own
    simp [World.cell?, h1] at hc
  refine ⟨b, o, hA, Nat.lt_of_lt_of_le hlt hg.size, ?_⟩
  rw [← hc]
  simp only [World.cell?, hg.block b hlt hne]
theorem ring_set {w : World} {R a : Nat} {rg : List RE} {t : TypeId} (hr : w.heap[R]? = some (.cells (cellsR rg).toArray t (0, 0))) (ha : a < rg.length) (q : Int) (v : Value) :
    ((w.setCell ⟨R, a * 2, none⟩ (.int .u16 q)).setCell ⟨R, a * 2 + 1, none⟩ v).heap[R]? = some (.cells (cellsR (rg.set a ⟨q, v⟩)).toArray t (0, 0)) := by
  have h1 := heap_set_same (a * 2 + 1) v (heap_set_same (a * 2) (.int .u16 q) hr)
  rw [h1, ← cellsR_set rg a ha]
  simp
set_option maxRecDepth 100000 in
set_option maxHeartbeats 4000000 in
theorem add_keep (w : World) (S R M B n m a c : Nat) (f : Int → Option Value) (rg : List RE) (hs : w.heap[S]? = some (.cells #[.slice (some ⟨R, 0, none⟩) n n, .int .i64 (a : Int), .int .i64 (c : Int), .map (some M)] 48 (0, 0))) (hr : w.heap[R]? = some (.cells (cellsR rg).toArray 50 (0, 0))) (hrl : rg.length = n) (hM : MapIs w Try.prog 29 .u16 M m f) (bS : B ≤ S) (bR : B ≤ R) (bM : B ≤ M) (bw : B ≤ w.heap.size)
    (hn : 1 ≤ n) (hn1 : n ≤ 4096) (ha : a < n) (hc : c ≤ n) (q : Int) (qz : 0 ≤ q) (qo : q ≤ 65535) (q0 : Int) (A0 : Option Addr) (n0 c0 : Nat) (hre : rg[a]? = some ⟨q0, .slice A0 n0 c0⟩) (hq0 : 0 ≤ q0) (hq1 : q0 ≤ 65535) (A : Option Addr) (cap : Nat) (zs : List Int) (hl : zs.length ≤ 1000000) (hA : IntsAt w A .u8 zs) (hm : m ≤ 1000000) (a' : Nat) (ha' : ((a : Int) + 1) % (n : Int) = a')
    (j : Int) (is : Bool) (h1 : (f q0).getD (.int .i64 0) = .int .i64 j) (h2 : (f q0).isSome = is) (c' : Nat) (hc' : min ((c : Int) + 1) (n : Int) = c') (hor : c ≠ n ∨ is = false ∨ j ≠ (a : Int)) :
    Calls Try.prog 11 #[.pointer (some ⟨S, 0, none⟩), .int .u16 q, .slice A zs.length cap] w fun e w' => ∃ g2 : Nat, e = .returned (.tuple #[]) ∧ w'.heap[S]? = some (.cells #[.slice (some ⟨R, 0, none⟩) n n, .int .i64 (a' : Int), .int .i64 (c' : Int), .map (some M)] 48 (0, 0)) ∧ w'.heap[R]? = some (.cells (cellsR (rg.set a ⟨q, .slice (some ⟨g2, 0, none⟩) zs.length zs.length⟩)).toArray 50 (0, 0)) ∧ w'.heap[g2]? = some (.cells (zs.map (Value.int .u8)).toArray 5 (0, 0)) ∧ w.heap.size ≤ g2 ∧ MapIs w' Try.prog 29 .u16 M (m + 1) (fun z => if z = q then some (.int .i64 (a : Int)) else f z) ∧ Moved S R B w w' := by
  have hal : a < rg.length := by omega
  obtain ⟨d0, d1⟩ := ring_cells hr hal
  have e4 : rg[a] = ⟨q0, .slice A0 n0 c0⟩ := by rw [List.getElem?_eq_getElem hal] at hre; simpa using hre
  rw [e4] at d0 d1
  clear hre
  have HA := Lib.hid hA; clear hA
  have HRL := Lib.hid hrl; clear hrl
  have HA' := Lib.hid ha'; clear ha'
  have H1 := Lib.hid h1; clear h1
  have H2 := Lib.hid h2; clear h2
  have hxw := wf_u16 hq0 hq1
  have hxq := wf_u16 qz qo
  obtain ⟨cS, fS, zS⟩ := blk_facts hs
  have zR := blk_lt hr
  have hSR : S ≠ R := fun h => by subst h; rw [hs] at hr; simp at hr
  go_enter Try.func11, Try.ntmps11
  go_upto_region 1 with fail
  go_cut [6] from 9 to 107 (fun s6 wx => ∃ g : Nat, s6 = .pointer (some ⟨g, 0, none⟩) ∧ wx.heap[g]? = some (.cells #[.int .u16 q0, .slice A0 n0 c0] 50 (0, 0)) ∧ w.heap.size ≤ g ∧ Below w.heap.size w wx)
  case first =>
    go_region_held3 (fun w' => (∀ j, w'.cell? ⟨S, j, none⟩ = #[.slice (some ⟨R, 0, none⟩) n n, .int .i64 (a : Int), .int .i64 (c : Int), .map (some M)][j]?) ∧ w'.cell? ⟨R, a * 2, none⟩ = some (.int .u16 q0) ∧ w'.cell? ⟨R, a * 2 + 1, none⟩ = some (.slice A0 n0 c0) ∧ Below w.heap.size w w') ((refine keepS zS cS zR d0 d1 ?_; (first | (with_reducible exact Below.refl _ _) | (go_split_ands; first | (with_reducible assumption) | go_grown)))) (first | fail)
    all_goals (go_wp2_with fail; go_meet; go_split_ands; exact ⟨_, rfl, (Eq.trans (b := some (Obj.cells _ _ (0, 0))) (by repeat (first | (with_reducible assumption) | (with_reducible apply heap_set_row2) | (with_reducible apply heap_set_row3) | (with_reducible apply heap_set_same) | ((with_reducible apply heap_set_other'); (focus (first | omega | (simp; done) | (simp; omega)))) | ((with_reducible apply heap_alloc_new); (focus (first | omega | (simp; done) | (simp; omega)))) | (with_reducible apply heap_alloc_old') | (with_reducible apply (heap_drew_at _ _).trans) | (with_reducible apply (heap_drewN_at _ _ _).trans) | (simp only [List.size_toArray, List.length_cons, List.length_nil]; done))) (by exact rfl)), (by first | omega | (simp; done) | (simp; omega)), by first | (with_reducible exact Below.refl _ _) | go_grown⟩)
  case rest =>
    obtain ⟨g, rfl, hg, gz, hBx⟩ := hcut
    clear d0 d1
    obtain ⟨u1, hwc⟩ : ∃ wq, wq = wc := ⟨_, rfl⟩
    subst hwc
    have yBn : w.heap.size ≤ u1.heap.size := hBx.size
    have yB := yBn
    clear yBn
    have hMvn : Moved S R B w u1 := .of hBx bw
    have hMv := hMvn
    clear hMvn
    have hsn := heap_below hBx zS hs
    clear hs cS fS zS
    have hs := hsn
    clear hsn
    have hrn := heap_below hBx zR hr
    clear hr zR
    have hr := hrn
    clear hrn
    have hMn := hM.below hBx
    clear hM
    have hM := hMn
    clear hMn
    have HAn := Lib.hid (HA.out.below rfl hBx)
    clear HA
    have HA := HAn
    clear HAn
    clear hBx
    obtain ⟨cS, fS, zS⟩ := blk_facts hs
    obtain ⟨cG, fG, zG⟩ := blk_facts hg
    have zR := blk_lt hr
    go_upto_region 2 with fail
    go_cut [6, 7, 8] from 7 to 107 (fun s6 s7 s8 wx => s6 = .pointer (some ⟨g, 0, none⟩) ∧ s7 = .int .i64 j ∧ s8 = .bool is ∧ Below u1.heap.size u1 wx)
    case first =>
      have hlk : ∀ W : World, MapIs W Try.prog 29 .u16 M m f → (Instr.lookup 46 (.map (some M)) (.int .u16 q0) true).run Try.prog W = .ok (.tuple #[.int .i64 j, .bool is]) W := fun W h => h.look Try.underlying29 Try.underlying46 (zero3 _) hxw H1.out H2.out
      go_region_held3 (fun w' => (∀ j, w'.cell? ⟨S, j, none⟩ = #[.slice (some ⟨R, 0, none⟩) n n, .int .i64 (a : Int), .int .i64 (c : Int), .map (some M)][j]?) ∧ (∀ j, w'.cell? ⟨g, j, none⟩ = #[.int .u16 q0, .slice A0 n0 c0][j]?) ∧ MapIs w' Try.prog 29 .u16 M m f ∧ Below u1.heap.size u1 w') ((refine keepM zS cS zG cG hM ?_; (first | (with_reducible exact Below.refl _ _) | (go_split_ands; first | (with_reducible assumption) | go_grown)))) (first | (go_split_ands; simp only [hlk _ (by assumption)]))
      all_goals (go_wp2_with fail; go_meet; go_split_ands; exact ⟨rfl, rfl, rfl, (by first | (with_reducible exact Below.refl _ _) | (with_reducible exact below_drewN (Below.refl _ _) _) | go_grown)⟩)
    case rest =>
      obtain ⟨rfl, rfl, rfl, hBx⟩ := hcut
      obtain ⟨u2, hwc⟩ : ∃ wq, wq = wc := ⟨_, rfl⟩
      subst hwc
      have yBn : w.heap.size ≤ u2.heap.size := Nat.le_trans yB hBx.size
      clear yB
      have yB := yBn
      clear yBn
      have hMvn : Moved S R B w u2 := hMv.call hBx (Nat.le_trans bw (by first | assumption | omega))
      clear hMv
      have hMv := hMvn
      clear hMvn
      have hsn := heap_below hBx zS hs
      clear hs cS fS zS
      have hs := hsn
      clear hsn
      have hrn := heap_below hBx zR hr
      clear hr zR
      have hr := hrn
      clear hrn
      have hgn := heap_below hBx zG hg
      clear hg cG fG zG
      have hg := hgn
      clear hgn
      have hMn := hM.below hBx
      clear hM
      have hM := hMn
      clear hMn
      have HAn := Lib.hid (HA.out.below rfl hBx)
      clear HA
      have HA := HAn
      clear HAn
      clear hBx
      obtain ⟨cS, fS, zS⟩ := blk_facts hs
      obtain ⟨cG, fG, zG⟩ := blk_facts hg
      have zR := blk_lt hr
      go_upto_region 3 with fail
      go_cut [6, 51] from 31 to 107 (fun s6 s51 wx => s6 = .pointer (some ⟨g, 0, none⟩) ∧ s51 = .bool false ∧ Below u2.heap.size u2 wx)
      case first =>
        rcases hor with h3 | h3 | h3
        · have hcb : ((c : Int) == (n : Int)) = false := beq_eq_false_iff_ne.2 (by omega)
          go_quiet (fail)
          all_goals (go_wp2_with fail; go_meet; go_split_ands; exact ⟨rfl, rfl, (by first | (with_reducible exact Below.refl _ _) | (with_reducible exact below_drewN (Below.refl _ _) _) | go_grown)⟩)
        · subst h3
          by_cases hcn : c = n
          · subst hcn
            go_quiet (fail)
            all_goals (go_wp2_with fail; go_meet; go_split_ands; exact ⟨rfl, rfl, (by first | (with_reducible exact Below.refl _ _) | (with_reducible exact below_drewN (Below.refl _ _) _) | go_grown)⟩)
          · have hcb : ((c : Int) == (n : Int)) = false := beq_eq_false_iff_ne.2 (by omega)
            go_quiet (fail)
            all_goals (go_wp2_with fail; go_meet; go_split_ands; exact ⟨rfl, rfl, (by first | (with_reducible exact Below.refl _ _) | (with_reducible exact below_drewN (Below.refl _ _) _) | go_grown)⟩)
        · have hjb : (j == (a : Int)) = false := beq_eq_false_iff_ne.2 h3
          by_cases hcn : c = n
          · subst hcn
            cases is <;> go_quiet (fail)
            all_goals (go_wp2_with fail; go_meet; go_split_ands; exact ⟨rfl, rfl, (by first | (with_reducible exact Below.refl _ _) | (with_reducible exact below_drewN (Below.refl _ _) _) | go_grown)⟩)
          · have hcb : ((c : Int) == (n : Int)) = false := beq_eq_false_iff_ne.2 (by omega)
            cases is <;> go_quiet (fail)
            all_goals (go_wp2_with fail; go_meet; go_split_ands; exact ⟨rfl, rfl, (by first | (with_reducible exact Below.refl _ _) | (with_reducible exact below_drewN (Below.refl _ _) _) | go_grown)⟩)
      case rest =>
        obtain ⟨rfl, rfl, hBx⟩ := hcut
        obtain ⟨u3, hwc⟩ : ∃ wq, wq = wc := ⟨_, rfl⟩
        subst hwc
        have yBn : w.heap.size ≤ u3.heap.size := Nat.le_trans yB hBx.size
        clear yB
        have yB := yBn
        clear yBn
        have hMvn : Moved S R B w u3 := hMv.call hBx (Nat.le_trans bw (by first | assumption | omega))
        clear hMv
        have hMv := hMvn
        clear hMvn
        have hsn := heap_below hBx zS hs
        clear hs cS fS zS
        have hs := hsn
        clear hsn
        have hrn := heap_below hBx zR hr
        clear hr zR
        have hr := hrn
        clear hrn
        have hgn := heap_below hBx zG hg
        clear hg cG fG zG
        have hg := hgn
        clear hgn
        have hMn := hM.below hBx
        clear hM
        have hM := hMn
        clear hMn
        have HAn := Lib.hid (HA.out.below rfl hBx)
        clear HA
        have HA := HAn
        clear HAn
        clear hBx
        obtain ⟨cS, fS, zS⟩ := blk_facts hs
        obtain ⟨cG, fG, zG⟩ := blk_facts hg
        have zR := blk_lt hr
        go_upto_region 5 with fail
        go_cut [6] from 7 to 107 (fun s6 wx => ∃ g2 : Nat, s6 = .pointer (some ⟨g, 0, none⟩) ∧ wx.heap[S]? = some (.cells #[.slice (some ⟨R, 0, none⟩) n n, .int .i64 (a : Int), .int .i64 (c : Int), .map (some M)] 48 (0, 0)) ∧ wx.heap[R]? = some (.cells (cellsR (rg.set a ⟨q, .slice (some ⟨g2, 0, none⟩) zs.length zs.length⟩)).toArray 50 (0, 0)) ∧ wx.heap[g2]? = some (.cells (zs.map (Value.int .u8)).toArray 5 (0, 0)) ∧ w.heap.size ≤ g2 ∧ MapIs wx Try.prog 29 .u16 M m f ∧ Moved S R B w wx)
        case first =>
          go_region_held3 (fun w' => (∀ j, w'.cell? ⟨S, j, none⟩ = #[.slice (some ⟨R, 0, none⟩) n n, .int .i64 (a : Int), .int .i64 (c : Int), .map (some M)][j]?) ∧ Moved S R B w w') ((exact keepQ (by repeat (first | (with_reducible assumption) | (with_reducible apply heap_set_row2) | (with_reducible apply heap_set_row3) | (with_reducible apply heap_set_same) | ((with_reducible apply heap_set_other'); (focus (first | omega | (simp; done) | (simp; omega)))) | ((with_reducible apply heap_alloc_new); (focus (first | omega | (simp; done) | (simp; omega)))) | (with_reducible apply heap_alloc_old') | (with_reducible apply (heap_drew_at _ _).trans) | (with_reducible apply (heap_drewN_at _ _ _).trans) | (simp only [List.size_toArray, List.length_cons, List.length_nil]; done))) (by repeat (first | (with_reducible assumption) | (with_reducible exact Moved.refl _ _ _ _) | (with_reducible apply Moved.drewN) | (with_reducible apply Moved.drew) | ((with_reducible apply moved_set); (focus (first | (exact .inl rfl) | (exact .inr rfl))); (focus (first | assumption | omega))) | ((with_reducible apply moved_alloc); (focus (first | omega | (simp; omega)))))))) (first | (go_at_call 16; go_split_ands; (with_reducible refine (own_b _ A cap zs hl (HA.out.below rfl (by first | (with_reducible exact Below.refl _ _) | (with_reducible assumption) | go_grown))).mono ?_); rintro e w2 ⟨g2, rfl, hg2, zg2, hb⟩; replace zg2 : u3.heap.size ≤ g2 := zg2; have hB5 := below_next (w := u3) (by first | (with_reducible exact Below.refl _ _) | (with_reducible assumption) | go_grown) hb; have z5 := hB5.size; clear hb; have hs5 := heap_below hB5 zS hs; have hr5 := heap_below hB5 zR hr; have hM5 := hM.below hB5; have hMv5 := hMv.call hB5 (Nat.le_trans bw yB); obtain ⟨d05, d15⟩ := ring_cells hr5 hal; rw [e4] at d05 d15; have fR5 := (blk_facts hr5).2.1; have zR5 := blk_lt hr5))
          all_goals (go_wp2_with fail; go_meet; go_split_ands; exact ⟨_, rfl, (Eq.trans (b := some (Obj.cells _ _ (0, 0))) (by repeat (first | (with_reducible assumption) | (with_reducible apply heap_set_row2) | (with_reducible apply heap_set_row3) | (with_reducible apply heap_set_same) | ((with_reducible apply heap_set_other'); (focus (first | omega | (simp; done) | (simp; omega)))) | ((with_reducible apply heap_alloc_new); (focus (first | omega | (simp; done) | (simp; omega)))) | (with_reducible apply heap_alloc_old') | (with_reducible apply (heap_drew_at _ _).trans) | (with_reducible apply (heap_drewN_at _ _ _).trans) | (simp only [List.size_toArray, List.length_cons, List.length_nil]; done))) (by exact rfl)), ring_set hr5 hal _ _, (Eq.trans (b := some (Obj.cells _ _ (0, 0))) (by repeat (first | (with_reducible assumption) | (with_reducible apply heap_set_row2) | (with_reducible apply heap_set_row3) | (with_reducible apply heap_set_same) | ((with_reducible apply heap_set_other'); (focus (first | omega | (simp; done) | (simp; omega)))) | ((with_reducible apply heap_alloc_new); (focus (first | omega | (simp; done) | (simp; omega)))) | (with_reducible apply heap_alloc_old') | (with_reducible apply (heap_drew_at _ _).trans) | (with_reducible apply (heap_drewN_at _ _ _).trans) | (simp only [List.size_toArray, List.length_cons, List.length_nil]; done))) (by exact rfl)), (by have := z5; first | omega | (simp at zg2; omega)), ((hM5.set (hM5.not_cells hr5) _).set (hM5.not_cells hr5) _), (by repeat (first | (with_reducible assumption) | (with_reducible exact Moved.refl _ _ _ _) | (with_reducible apply Moved.drewN) | (with_reducible apply Moved.drew) | ((with_reducible apply moved_set); (focus (first | (exact .inl rfl) | (exact .inr rfl))); (focus (first | assumption | omega))) | ((with_reducible apply moved_alloc); (focus (first | omega | (simp; omega))))))⟩)
        case rest =>
          obtain ⟨g2, rfl, hsn, hrn, hq, gz2, hMn, hMvn⟩ := hcut
          clear hs cS fS zS hr zR hM hMv hg cG fG zG yB HA
          obtain ⟨u4, hwc⟩ : ∃ wq, wq = wc := ⟨_, rfl⟩
          subst hwc
          have hs := hsn
          have hr := hrn
          have hM := hMn
          have hMv := hMvn
          clear hsn hrn hMn hMvn
          obtain ⟨cS, fS, zS⟩ := blk_facts hs
          have zR := blk_lt hr
          have hMS := hM.not_cells hs
          have hMR := hM.not_cells hr
          have yB := hMv.size
          have hgS : g2 ≠ S := fun h => by subst h; rw [hs] at hq; simp at hq
          go_upto_region 6 with fail
          go_cut [6] from 7 to 107 (fun s6 wx => s6 = .pointer (some ⟨g, 0, none⟩) ∧ wx.heap[S]? = some (.cells #[.slice (some ⟨R, 0, none⟩) n n, .int .i64 (a : Int), .int .i64 (c : Int), .map (some M)] 48 (0, 0)) ∧ wx.heap[R]? = some (.cells (cellsR (rg.set a ⟨q, .slice (some ⟨g2, 0, none⟩) zs.length zs.length⟩)).toArray 50 (0, 0)) ∧ wx.heap[g2]? = some (.cells (zs.map (Value.int .u8)).toArray 5 (0, 0)) ∧ MapIs wx Try.prog 29 .u16 M (m + 1) (fun z => if z = q then some (.int .i64 (a : Int)) else f z) ∧ Moved S R B w wx)
          case first =>
            go_still_tail 9, (by kernel_rfl)
            go_wp2_with (at_mapUpdate; refine wpList_map_put _ rfl (.tmp 74) (.tmp 75) (.tmp 79) 46 rfl 29 3 .u16 Try.underlying29 Try.underlying46 M m f rfl hM.drew (by unfold maxLen; omega) q _ rfl rfl hxq ?_; intro w6 hM6 hg6)
            all_goals (go_meet; go_split_ands; exact ⟨rfl, (blk_grown_map (w := u4.drew) hs hM.drew hg6), (blk_grown_map (w := u4.drew) hr hM.drew hg6), (blk_grown_map (w := u4.drew) hq hM.drew hg6), hM6, (moved_map (w := u4.drew) hMv.drew hM.drew hg6 bM (Nat.le_trans bw yB))⟩)
          case rest =>
            obtain ⟨rfl, hsn, hrn, hqn, hMn, hMvn⟩ := hcut
            clear hs cS fS zS hr zR hM hMv hq hMS hMR yB
            have hq := hqn
            clear hqn
            obtain ⟨u5, hwc⟩ : ∃ wq, wq = wc := ⟨_, rfl⟩
            subst hwc
            have hs := hsn
            have hr := hrn
            have hM := hMn
            have hMv := hMvn
            clear hsn hrn hMn hMvn
            obtain ⟨cS, fS, zS⟩ := blk_facts hs
            have zR := blk_lt hr
            have hMS := hM.not_cells hs
            have hMR := hM.not_cells hr
            have yB := hMv.size
            have pn : (0 : Int) < (n : Int) := by omega
            have hrem := HA'.out
            go_upto_region 7 with fail
            go_cut [6] from 7 to 107 (fun s6 wx => s6 = .pointer (some ⟨g, 0, none⟩) ∧ wx.heap[S]? = some (.cells #[.slice (some ⟨R, 0, none⟩) n n, .int .i64 (a' : Int), .int .i64 (c : Int), .map (some M)] 48 (0, 0)) ∧ wx.heap[R]? = some (.cells (cellsR (rg.set a ⟨q, .slice (some ⟨g2, 0, none⟩) zs.length zs.length⟩)).toArray 50 (0, 0)) ∧ wx.heap[g2]? = some (.cells (zs.map (Value.int .u8)).toArray 5 (0, 0)) ∧ MapIs wx Try.prog 29 .u16 M (m + 1) (fun z => if z = q then some (.int .i64 (a : Int)) else f z) ∧ Moved S R B w wx)
            case first =>
              have cSd : ∀ j, u5.drew.cell? ⟨S, j, none⟩ = _ := cS
              have fSd : ∀ j, u5.drew.frozen? ⟨S, j, none⟩ = false := fS
              have zSd : S < u5.drew.heap.size := zS
              go_region
              all_goals (go_wp2_with fail; go_meet; go_split_ands; exact ⟨rfl, (Eq.trans (b := some (Obj.cells _ _ (0, 0))) (by repeat (first | (with_reducible assumption) | (with_reducible apply heap_set_row2) | (with_reducible apply heap_set_row3) | (with_reducible apply heap_set_same) | ((with_reducible apply heap_set_other'); (focus (first | omega | (simp; done) | (simp; omega)))) | ((with_reducible apply heap_alloc_new); (focus (first | omega | (simp; done) | (simp; omega)))) | (with_reducible apply heap_alloc_old') | (with_reducible apply (heap_drew_at _ _).trans) | (with_reducible apply (heap_drewN_at _ _ _).trans) | (simp only [List.size_toArray, List.length_cons, List.length_nil]; done))) (by exact rfl)), (Eq.trans (b := some (Obj.cells _ _ (0, 0))) (by repeat (first | (with_reducible assumption) | (with_reducible apply heap_set_row2) | (with_reducible apply heap_set_row3) | (with_reducible apply heap_set_same) | ((with_reducible apply heap_set_other'); (focus (first | omega | (simp; done) | (simp; omega)))) | ((with_reducible apply heap_alloc_new); (focus (first | omega | (simp; done) | (simp; omega)))) | (with_reducible apply heap_alloc_old') | (with_reducible apply (heap_drew_at _ _).trans) | (with_reducible apply (heap_drewN_at _ _ _).trans) | (simp only [List.size_toArray, List.length_cons, List.length_nil]; done))) (by exact rfl)), (Eq.trans (b := some (Obj.cells _ _ (0, 0))) (by repeat (first | (with_reducible assumption) | (with_reducible apply heap_set_row2) | (with_reducible apply heap_set_row3) | (with_reducible apply heap_set_same) | ((with_reducible apply heap_set_other'); (focus (first | omega | (simp; done) | (simp; omega)))) | ((with_reducible apply heap_alloc_new); (focus (first | omega | (simp; done) | (simp; omega)))) | (with_reducible apply heap_alloc_old') | (with_reducible apply (heap_drew_at _ _).trans) | (with_reducible apply (heap_drewN_at _ _ _).trans) | (simp only [List.size_toArray, List.length_cons, List.length_nil]; done))) (by exact rfl)), (by repeat (first | (with_reducible assumption) | (exact hM.drew) | (with_reducible apply MapIs.alloc) | (with_reducible apply MapIs.drewN) | (with_reducible apply MapIs.drew) | ((with_reducible refine MapIs.set ?_ ?_ _); rotate_left; (focus (first | exact hMS | exact hMR))))), (by repeat (first | (with_reducible assumption) | (exact hMv.drew) | (with_reducible exact Moved.refl _ _ _ _) | (with_reducible apply Moved.drewN) | (with_reducible apply Moved.drew) | ((with_reducible apply moved_set); (focus (first | (exact .inl rfl) | (exact .inr rfl))); (focus (first | assumption | omega))) | ((with_reducible apply moved_alloc); (focus (first | omega | (simp; omega))))))⟩)
            case rest =>
              clear pn hrem
              obtain ⟨rfl, hsn, hrn, hqn, hMn, hMvn⟩ := hcut
              clear hs cS fS zS hr zR hM hMv hq hMS hMR yB
              have hq := hqn
              clear hqn
              obtain ⟨u6, hwc⟩ : ∃ wq, wq = wc := ⟨_, rfl⟩
              subst hwc
              have hs := hsn
              have hr := hrn
              have hM := hMn
              have hMv := hMvn
              clear hsn hrn hMn hMvn
              obtain ⟨cS, fS, zS⟩ := blk_facts hs
              have zR := blk_lt hr
              have hMS := hM.not_cells hs
              have hMR := hM.not_cells hr
              have yB := hMv.size
              go_upto_region 8 with fail
              rcases Nat.lt_or_ge c n with hcl | hcl
              · obtain rfl : c' = c + 1 := by omega
                have cSd : ∀ j, u6.drew.cell? ⟨S, j, none⟩ = _ := cS
                have fSd : ∀ j, u6.drew.frozen? ⟨S, j, none⟩ = false := fS
                have zSd : S < u6.drew.heap.size := zS
                go_region
                all_goals (go_wp2_with fail; (try simp only [Exit.inBlock, Exit.then]); (refine bodyPost_end (results_none rfl _ _ _) rfl ?_); first | exact ⟨g2, rfl, (Eq.trans (b := some (Obj.cells _ _ (0, 0))) (by repeat (first | (with_reducible assumption) | (with_reducible apply heap_set_row2) | (with_reducible apply heap_set_row3) | (with_reducible apply heap_set_same) | ((with_reducible apply heap_set_other'); (focus (first | omega | (simp; done) | (simp; omega)))) | ((with_reducible apply heap_alloc_new); (focus (first | omega | (simp; done) | (simp; omega)))) | (with_reducible apply heap_alloc_old') | (with_reducible apply (heap_drew_at _ _).trans) | (with_reducible apply (heap_drewN_at _ _ _).trans) | (simp only [List.size_toArray, List.length_cons, List.length_nil]; done))) (by exact rfl)), (Eq.trans (b := some (Obj.cells _ _ (0, 0))) (by repeat (first | (with_reducible assumption) | (with_reducible apply heap_set_row2) | (with_reducible apply heap_set_row3) | (with_reducible apply heap_set_same) | ((with_reducible apply heap_set_other'); (focus (first | omega | (simp; done) | (simp; omega)))) | ((with_reducible apply heap_alloc_new); (focus (first | omega | (simp; done) | (simp; omega)))) | (with_reducible apply heap_alloc_old') | (with_reducible apply (heap_drew_at _ _).trans) | (with_reducible apply (heap_drewN_at _ _ _).trans) | (simp only [List.size_toArray, List.length_cons, List.length_nil]; done))) (by exact rfl)), (Eq.trans (b := some (Obj.cells _ _ (0, 0))) (by repeat (first | (with_reducible assumption) | (with_reducible apply heap_set_row2) | (with_reducible apply heap_set_row3) | (with_reducible apply heap_set_same) | ((with_reducible apply heap_set_other'); (focus (first | omega | (simp; done) | (simp; omega)))) | ((with_reducible apply heap_alloc_new); (focus (first | omega | (simp; done) | (simp; omega)))) | (with_reducible apply heap_alloc_old') | (with_reducible apply (heap_drew_at _ _).trans) | (with_reducible apply (heap_drewN_at _ _ _).trans) | (simp only [List.size_toArray, List.length_cons, List.length_nil]; done))) (by exact rfl)), gz2, (by repeat (first | (with_reducible assumption) | (exact hM.drew) | (with_reducible apply MapIs.alloc) | (with_reducible apply MapIs.drewN) | (with_reducible apply MapIs.drew) | ((with_reducible refine MapIs.set ?_ ?_ _); rotate_left; (focus (first | exact hMS | exact hMR))))), (by repeat (first | (with_reducible assumption) | (exact hMv.drew) | (with_reducible exact Moved.refl _ _ _ _) | (with_reducible apply Moved.drewN) | (with_reducible apply Moved.drew) | ((with_reducible apply moved_set); (focus (first | (exact .inl rfl) | (exact .inr rfl))); (focus (first | assumption | omega))) | ((with_reducible apply moved_alloc); (focus (first | omega | (simp; omega))))))⟩ | exact ⟨rfl, g2, (Eq.trans (b := some (Obj.cells _ _ (0, 0))) (by repeat (first | (with_reducible assumption) | (with_reducible apply heap_set_row2) | (with_reducible apply heap_set_row3) | (with_reducible apply heap_set_same) | ((with_reducible apply heap_set_other'); (focus (first | omega | (simp; done) | (simp; omega)))) | ((with_reducible apply heap_alloc_new); (focus (first | omega | (simp; done) | (simp; omega)))) | (with_reducible apply heap_alloc_old') | (with_reducible apply (heap_drew_at _ _).trans) | (with_reducible apply (heap_drewN_at _ _ _).trans) | (simp only [List.size_toArray, List.length_cons, List.length_nil]; done))) (by exact rfl)), (Eq.trans (b := some (Obj.cells _ _ (0, 0))) (by repeat (first | (with_reducible assumption) | (with_reducible apply heap_set_row2) | (with_reducible apply heap_set_row3) | (with_reducible apply heap_set_same) | ((with_reducible apply heap_set_other'); (focus (first | omega | (simp; done) | (simp; omega)))) | ((with_reducible apply heap_alloc_new); (focus (first | omega | (simp; done) | (simp; omega)))) | (with_reducible apply heap_alloc_old') | (with_reducible apply (heap_drew_at _ _).trans) | (with_reducible apply (heap_drewN_at _ _ _).trans) | (simp only [List.size_toArray, List.length_cons, List.length_nil]; done))) (by exact rfl)), (Eq.trans (b := some (Obj.cells _ _ (0, 0))) (by repeat (first | (with_reducible assumption) | (with_reducible apply heap_set_row2) | (with_reducible apply heap_set_row3) | (with_reducible apply heap_set_same) | ((with_reducible apply heap_set_other'); (focus (first | omega | (simp; done) | (simp; omega)))) | ((with_reducible apply heap_alloc_new); (focus (first | omega | (simp; done) | (simp; omega)))) | (with_reducible apply heap_alloc_old') | (with_reducible apply (heap_drew_at _ _).trans) | (with_reducible apply (heap_drewN_at _ _ _).trans) | (simp only [List.size_toArray, List.length_cons, List.length_nil]; done))) (by exact rfl)), gz2, (by repeat (first | (with_reducible assumption) | (exact hM.drew) | (with_reducible apply MapIs.alloc) | (with_reducible apply MapIs.drewN) | (with_reducible apply MapIs.drew) | ((with_reducible refine MapIs.set ?_ ?_ _); rotate_left; (focus (first | exact hMS | exact hMR))))), (by repeat (first | (with_reducible assumption) | (exact hMv.drew) | (with_reducible exact Moved.refl _ _ _ _) | (with_reducible apply Moved.drewN) | (with_reducible apply Moved.drew) | ((with_reducible apply moved_set); (focus (first | (exact .inl rfl) | (exact .inr rfl))); (focus (first | assumption | omega))) | ((with_reducible apply moved_alloc); (focus (first | omega | (simp; omega))))))⟩ | exact ⟨rfl, (Eq.trans (b := some (Obj.cells _ _ (0, 0))) (by repeat (first | (with_reducible assumption) | (with_reducible apply heap_set_row2) | (with_reducible apply heap_set_row3) | (with_reducible apply heap_set_same) | ((with_reducible apply heap_set_other'); (focus (first | omega | (simp; done) | (simp; omega)))) | ((with_reducible apply heap_alloc_new); (focus (first | omega | (simp; done) | (simp; omega)))) | (with_reducible apply heap_alloc_old') | (with_reducible apply (heap_drew_at _ _).trans) | (with_reducible apply (heap_drewN_at _ _ _).trans) | (simp only [List.size_toArray, List.length_cons, List.length_nil]; done))) (by exact rfl)), g2, (Eq.trans (b := some (Obj.cells _ _ (0, 0))) (by repeat (first | (with_reducible assumption) | (with_reducible apply heap_set_row2) | (with_reducible apply heap_set_row3) | (with_reducible apply heap_set_same) | ((with_reducible apply heap_set_other'); (focus (first | omega | (simp; done) | (simp; omega)))) | ((with_reducible apply heap_alloc_new); (focus (first | omega | (simp; done) | (simp; omega)))) | (with_reducible apply heap_alloc_old') | (with_reducible apply (heap_drew_at _ _).trans) | (with_reducible apply (heap_drewN_at _ _ _).trans) | (simp only [List.size_toArray, List.length_cons, List.length_nil]; done))) (by exact rfl)), (Eq.trans (b := some (Obj.cells _ _ (0, 0))) (by repeat (first | (with_reducible assumption) | (with_reducible apply heap_set_row2) | (with_reducible apply heap_set_row3) | (with_reducible apply heap_set_same) | ((with_reducible apply heap_set_other'); (focus (first | omega | (simp; done) | (simp; omega)))) | ((with_reducible apply heap_alloc_new); (focus (first | omega | (simp; done) | (simp; omega)))) | (with_reducible apply heap_alloc_old') | (with_reducible apply (heap_drew_at _ _).trans) | (with_reducible apply (heap_drewN_at _ _ _).trans) | (simp only [List.size_toArray, List.length_cons, List.length_nil]; done))) (by exact rfl)), gz2, (by repeat (first | (with_reducible assumption) | (exact hM.drew) | (with_reducible apply MapIs.alloc) | (with_reducible apply MapIs.drewN) | (with_reducible apply MapIs.drew) | ((with_reducible refine MapIs.set ?_ ?_ _); rotate_left; (focus (first | exact hMS | exact hMR))))), (by repeat (first | (with_reducible assumption) | (exact hMv.drew) | (with_reducible exact Moved.refl _ _ _ _) | (with_reducible apply Moved.drewN) | (with_reducible apply Moved.drew) | ((with_reducible apply moved_set); (focus (first | (exact .inl rfl) | (exact .inr rfl))); (focus (first | assumption | omega))) | ((with_reducible apply moved_alloc); (focus (first | omega | (simp; omega))))))⟩)
              · obtain rfl : c' = n := by omega
                have cSd : ∀ j, u6.drew.cell? ⟨S, j, none⟩ = _ := cS
                have fSd : ∀ j, u6.drew.frozen? ⟨S, j, none⟩ = false := fS
                have zSd : S < u6.drew.heap.size := zS
                go_region
                all_goals (go_wp2_with fail; (try simp only [Exit.inBlock, Exit.then]); (refine bodyPost_end (results_none rfl _ _ _) rfl ?_); first | exact ⟨g2, rfl, (Eq.trans (b := some (Obj.cells _ _ (0, 0))) (by repeat (first | (with_reducible assumption) | (with_reducible apply heap_set_row2) | (with_reducible apply heap_set_row3) | (with_reducible apply heap_set_same) | ((with_reducible apply heap_set_other'); (focus (first | omega | (simp; done) | (simp; omega)))) | ((with_reducible apply heap_alloc_new); (focus (first | omega | (simp; done) | (simp; omega)))) | (with_reducible apply heap_alloc_old') | (with_reducible apply (heap_drew_at _ _).trans) | (with_reducible apply (heap_drewN_at _ _ _).trans) | (simp only [List.size_toArray, List.length_cons, List.length_nil]; done))) (by exact rfl)), (Eq.trans (b := some (Obj.cells _ _ (0, 0))) (by repeat (first | (with_reducible assumption) | (with_reducible apply heap_set_row2) | (with_reducible apply heap_set_row3) | (with_reducible apply heap_set_same) | ((with_reducible apply heap_set_other'); (focus (first | omega | (simp; done) | (simp; omega)))) | ((with_reducible apply heap_alloc_new); (focus (first | omega | (simp; done) | (simp; omega)))) | (with_reducible apply heap_alloc_old') | (with_reducible apply (heap_drew_at _ _).trans) | (with_reducible apply (heap_drewN_at _ _ _).trans) | (simp only [List.size_toArray, List.length_cons, List.length_nil]; done))) (by exact rfl)), (Eq.trans (b := some (Obj.cells _ _ (0, 0))) (by repeat (first | (with_reducible assumption) | (with_reducible apply heap_set_row2) | (with_reducible apply heap_set_row3) | (with_reducible apply heap_set_same) | ((with_reducible apply heap_set_other'); (focus (first | omega | (simp; done) | (simp; omega)))) | ((with_reducible apply heap_alloc_new); (focus (first | omega | (simp; done) | (simp; omega)))) | (with_reducible apply heap_alloc_old') | (with_reducible apply (heap_drew_at _ _).trans) | (with_reducible apply (heap_drewN_at _ _ _).trans) | (simp only [List.size_toArray, List.length_cons, List.length_nil]; done))) (by exact rfl)), gz2, (by repeat (first | (with_reducible assumption) | (exact hM.drew) | (with_reducible apply MapIs.alloc) | (with_reducible apply MapIs.drewN) | (with_reducible apply MapIs.drew) | ((with_reducible refine MapIs.set ?_ ?_ _); rotate_left; (focus (first | exact hMS | exact hMR))))), (by repeat (first | (with_reducible assumption) | (exact hMv.drew) | (with_reducible exact Moved.refl _ _ _ _) | (with_reducible apply Moved.drewN) | (with_reducible apply Moved.drew) | ((with_reducible apply moved_set); (focus (first | (exact .inl rfl) | (exact .inr rfl))); (focus (first | assumption | omega))) | ((with_reducible apply moved_alloc); (focus (first | omega | (simp; omega))))))⟩ | exact ⟨rfl, g2, (Eq.trans (b := some (Obj.cells _ _ (0, 0))) (by repeat (first | (with_reducible assumption) | (with_reducible apply heap_set_row2) | (with_reducible apply heap_set_row3) | (with_reducible apply heap_set_same) | ((with_reducible apply heap_set_other'); (focus (first | omega | (simp; done) | (simp; omega)))) | ((with_reducible apply heap_alloc_new); (focus (first | omega | (simp; done) | (simp; omega)))) | (with_reducible apply heap_alloc_old') | (with_reducible apply (heap_drew_at _ _).trans) | (with_reducible apply (heap_drewN_at _ _ _).trans) | (simp only [List.size_toArray, List.length_cons, List.length_nil]; done))) (by exact rfl)), (Eq.trans (b := some (Obj.cells _ _ (0, 0))) (by repeat (first | (with_reducible assumption) | (with_reducible apply heap_set_row2) | (with_reducible apply heap_set_row3) | (with_reducible apply heap_set_same) | ((with_reducible apply heap_set_other'); (focus (first | omega | (simp; done) | (simp; omega)))) | ((with_reducible apply heap_alloc_new); (focus (first | omega | (simp; done) | (simp; omega)))) | (with_reducible apply heap_alloc_old') | (with_reducible apply (heap_drew_at _ _).trans) | (with_reducible apply (heap_drewN_at _ _ _).trans) | (simp only [List.size_toArray, List.length_cons, List.length_nil]; done))) (by exact rfl)), (Eq.trans (b := some (Obj.cells _ _ (0, 0))) (by repeat (first | (with_reducible assumption) | (with_reducible apply heap_set_row2) | (with_reducible apply heap_set_row3) | (with_reducible apply heap_set_same) | ((with_reducible apply heap_set_other'); (focus (first | omega | (simp; done) | (simp; omega)))) | ((with_reducible apply heap_alloc_new); (focus (first | omega | (simp; done) | (simp; omega)))) | (with_reducible apply heap_alloc_old') | (with_reducible apply (heap_drew_at _ _).trans) | (with_reducible apply (heap_drewN_at _ _ _).trans) | (simp only [List.size_toArray, List.length_cons, List.length_nil]; done))) (by exact rfl)), gz2, (by repeat (first | (with_reducible assumption) | (exact hM.drew) | (with_reducible apply MapIs.alloc) | (with_reducible apply MapIs.drewN) | (with_reducible apply MapIs.drew) | ((with_reducible refine MapIs.set ?_ ?_ _); rotate_left; (focus (first | exact hMS | exact hMR))))), (by repeat (first | (with_reducible assumption) | (exact hMv.drew) | (with_reducible exact Moved.refl _ _ _ _) | (with_reducible apply Moved.drewN) | (with_reducible apply Moved.drew) | ((with_reducible apply moved_set); (focus (first | (exact .inl rfl) | (exact .inr rfl))); (focus (first | assumption | omega))) | ((with_reducible apply moved_alloc); (focus (first | omega | (simp; omega))))))⟩ | exact ⟨rfl, (Eq.trans (b := some (Obj.cells _ _ (0, 0))) (by repeat (first | (with_reducible assumption) | (with_reducible apply heap_set_row2) | (with_reducible apply heap_set_row3) | (with_reducible apply heap_set_same) | ((with_reducible apply heap_set_other'); (focus (first | omega | (simp; done) | (simp; omega)))) | ((with_reducible apply heap_alloc_new); (focus (first | omega | (simp; done) | (simp; omega)))) | (with_reducible apply heap_alloc_old') | (with_reducible apply (heap_drew_at _ _).trans) | (with_reducible apply (heap_drewN_at _ _ _).trans) | (simp only [List.size_toArray, List.length_cons, List.length_nil]; done))) (by exact rfl)), g2, (Eq.trans (b := some (Obj.cells _ _ (0, 0))) (by repeat (first | (with_reducible assumption) | (with_reducible apply heap_set_row2) | (with_reducible apply heap_set_row3) | (with_reducible apply heap_set_same) | ((with_reducible apply heap_set_other'); (focus (first | omega | (simp; done) | (simp; omega)))) | ((with_reducible apply heap_alloc_new); (focus (first | omega | (simp; done) | (simp; omega)))) | (with_reducible apply heap_alloc_old') | (with_reducible apply (heap_drew_at _ _).trans) | (with_reducible apply (heap_drewN_at _ _ _).trans) | (simp only [List.size_toArray, List.length_cons, List.length_nil]; done))) (by exact rfl)), (Eq.trans (b := some (Obj.cells _ _ (0, 0))) (by repeat (first | (with_reducible assumption) | (with_reducible apply heap_set_row2) | (with_reducible apply heap_set_row3) | (with_reducible apply heap_set_same) | ((with_reducible apply heap_set_other'); (focus (first | omega | (simp; done) | (simp; omega)))) | ((with_reducible apply heap_alloc_new); (focus (first | omega | (simp; done) | (simp; omega)))) | (with_reducible apply heap_alloc_old') | (with_reducible apply (heap_drew_at _ _).trans) | (with_reducible apply (heap_drewN_at _ _ _).trans) | (simp only [List.size_toArray, List.length_cons, List.length_nil]; done))) (by exact rfl)), gz2, (by repeat (first | (with_reducible assumption) | (exact hM.drew) | (with_reducible apply MapIs.alloc) | (with_reducible apply MapIs.drewN) | (with_reducible apply MapIs.drew) | ((with_reducible refine MapIs.set ?_ ?_ _); rotate_left; (focus (first | exact hMS | exact hMR))))), (by repeat (first | (with_reducible assumption) | (exact hMv.drew) | (with_reducible exact Moved.refl _ _ _ _) | (with_reducible apply Moved.drewN) | (with_reducible apply Moved.drew) | ((with_reducible apply moved_set); (focus (first | (exact .inl rfl) | (exact .inr rfl))); (focus (first | assumption | omega))) | ((with_reducible apply moved_alloc); (focus (first | omega | (simp; omega))))))⟩)


set_option maxRecDepth 100000 in
set_option maxHeartbeats 4000000 in
theorem add_del (w : World) (S R M B n m a c : Nat) (f : Int → Option Value) (rg : List RE) (hs : w.heap[S]? = some (.cells #[.slice (some ⟨R, 0, none⟩) n n, .int .i64 (a : Int), .int .i64 (c : Int), .map (some M)] 48 (0, 0))) (hr : w.heap[R]? = some (.cells (cellsR rg).toArray 50 (0, 0))) (hrl : rg.length = n) (hM : MapIs w Try.prog 29 .u16 M m f) (bS : B ≤ S) (bR : B ≤ R) (bM : B ≤ M) (bw : B ≤ w.heap.size)
    (hn : 1 ≤ n) (hn1 : n ≤ 4096) (ha : a < n) (hc : c ≤ n) (q : Int) (qz : 0 ≤ q) (qo : q ≤ 65535) (q0 : Int) (A0 : Option Addr) (n0 c0 : Nat) (hre : rg[a]? = some ⟨q0, .slice A0 n0 c0⟩) (hq0 : 0 ≤ q0) (hq1 : q0 ≤ 65535) (A : Option Addr) (cap : Nat) (zs : List Int) (hl : zs.length ≤ 1000000) (hA : IntsAt w A .u8 zs) (hm : m ≤ 1000000) (a' : Nat) (ha' : ((a : Int) + 1) % (n : Int) = a')
    (j : Int) (is : Bool) (h1 : (f q0).getD (.int .i64 0) = .int .i64 j) (h2 : (f q0).isSome = is) (c' : Nat) (hc' : min ((c : Int) + 1) (n : Int) = c') (HH3 : Hid (c = n)) (HH4 : Hid (is = true)) (HH5 : Hid (j = (a : Int))) :
    Calls Try.prog 11 #[.pointer (some ⟨S, 0, none⟩), .int .u16 q, .slice A zs.length cap] w fun e w' => ∃ g2 : Nat, e = .returned (.tuple #[]) ∧ w'.heap[S]? = some (.cells #[.slice (some ⟨R, 0, none⟩) n n, .int .i64 (a' : Int), .int .i64 (c' : Int), .map (some M)] 48 (0, 0)) ∧ w'.heap[R]? = some (.cells (cellsR (rg.set a ⟨q, .slice (some ⟨g2, 0, none⟩) zs.length zs.length⟩)).toArray 50 (0, 0)) ∧ w'.heap[g2]? = some (.cells (zs.map (Value.int .u8)).toArray 5 (0, 0)) ∧ w.heap.size ≤ g2 ∧ MapIs w' Try.prog 29 .u16 M (m + 1) (fun z => if z = q then some (.int .i64 (a : Int)) else (fun z => if z = q0 then none else f z) z) ∧ Moved S R B w w' := by
  have hal : a < rg.length := by omega
  obtain ⟨d0, d1⟩ := ring_cells hr hal
  have e4 : rg[a] = ⟨q0, .slice A0 n0 c0⟩ := by rw [List.getElem?_eq_getElem hal] at hre; simpa using hre
  rw [e4] at d0 d1
  clear hre
  have HA := Lib.hid hA; clear hA
  have HRL := Lib.hid hrl; clear hrl
  have HA' := Lib.hid ha'; clear ha'
  have H1 := Lib.hid h1; clear h1
  have H2 := Lib.hid h2; clear h2
  have hxw := wf_u16 hq0 hq1
  have hxq := wf_u16 qz qo
  obtain ⟨cS, fS, zS⟩ := blk_facts hs
  have zR := blk_lt hr
  have hSR : S ≠ R := fun h => by subst h; rw [hs] at hr; simp at hr
  go_enter Try.func11, Try.ntmps11
  go_upto_region 1 with fail
  go_cut [6] from 9 to 107 (fun s6 wx => ∃ g : Nat, s6 = .pointer (some ⟨g, 0, none⟩) ∧ wx.heap[g]? = some (.cells #[.int .u16 q0, .slice A0 n0 c0] 50 (0, 0)) ∧ w.heap.size ≤ g ∧ Below w.heap.size w wx)
  case first =>
    go_region_held3 (fun w' => (∀ j, w'.cell? ⟨S, j, none⟩ = #[.slice (some ⟨R, 0, none⟩) n n, .int .i64 (a : Int), .int .i64 (c : Int), .map (some M)][j]?) ∧ w'.cell? ⟨R, a * 2, none⟩ = some (.int .u16 q0) ∧ w'.cell? ⟨R, a * 2 + 1, none⟩ = some (.slice A0 n0 c0) ∧ Below w.heap.size w w') ((refine keepS zS cS zR d0 d1 ?_; (first | (with_reducible exact Below.refl _ _) | (go_split_ands; first | (with_reducible assumption) | go_grown)))) (first | fail)
    all_goals (go_wp2_with fail; go_meet; go_split_ands; exact ⟨_, rfl, (Eq.trans (b := some (Obj.cells _ _ (0, 0))) (by repeat (first | (with_reducible assumption) | (with_reducible apply heap_set_row2) | (with_reducible apply heap_set_row3) | (with_reducible apply heap_set_same) | ((with_reducible apply heap_set_other'); (focus (first | omega | (simp; done) | (simp; omega)))) | ((with_reducible apply heap_alloc_new); (focus (first | omega | (simp; done) | (simp; omega)))) | (with_reducible apply heap_alloc_old') | (with_reducible apply (heap_drew_at _ _).trans) | (with_reducible apply (heap_drewN_at _ _ _).trans) | (simp only [List.size_toArray, List.length_cons, List.length_nil]; done))) (by exact rfl)), (by first | omega | (simp; done) | (simp; omega)), by first | (with_reducible exact Below.refl _ _) | go_grown⟩)
  case rest =>
    obtain ⟨g, rfl, hg, gz, hBx⟩ := hcut
    clear d0 d1
    obtain ⟨u1, hwc⟩ : ∃ wq, wq = wc := ⟨_, rfl⟩
    subst hwc
    have yBn : w.heap.size ≤ u1.heap.size := hBx.size
    have yB := yBn
    clear yBn
    have hMvn : Moved S R B w u1 := .of hBx bw
    have hMv := hMvn
    clear hMvn
    have hsn := heap_below hBx zS hs
    clear hs cS fS zS
    have hs := hsn
    clear hsn
    have hrn := heap_below hBx zR hr
    clear hr zR
    have hr := hrn
    clear hrn
    have hMn := hM.below hBx
    clear hM
    have hM := hMn
    clear hMn
    have HAn := Lib.hid (HA.out.below rfl hBx)
    clear HA
    have HA := HAn
    clear HAn
    clear hBx
    obtain ⟨cS, fS, zS⟩ := blk_facts hs
    obtain ⟨cG, fG, zG⟩ := blk_facts hg
    have zR := blk_lt hr
    go_upto_region 2 with fail
    go_cut [6, 7, 8] from 7 to 107 (fun s6 s7 s8 wx => s6 = .pointer (some ⟨g, 0, none⟩) ∧ s7 = .int .i64 j ∧ s8 = .bool is ∧ Below u1.heap.size u1 wx)
    case first =>
      have hlk : ∀ W : World, MapIs W Try.prog 29 .u16 M m f → (Instr.lookup 46 (.map (some M)) (.int .u16 q0) true).run Try.prog W = .ok (.tuple #[.int .i64 j, .bool is]) W := fun W h => h.look Try.underlying29 Try.underlying46 (zero3 _) hxw H1.out H2.out
      go_region_held3 (fun w' => (∀ j, w'.cell? ⟨S, j, none⟩ = #[.slice (some ⟨R, 0, none⟩) n n, .int .i64 (a : Int), .int .i64 (c : Int), .map (some M)][j]?) ∧ (∀ j, w'.cell? ⟨g, j, none⟩ = #[.int .u16 q0, .slice A0 n0 c0][j]?) ∧ MapIs w' Try.prog 29 .u16 M m f ∧ Below u1.heap.size u1 w') ((refine keepM zS cS zG cG hM ?_; (first | (with_reducible exact Below.refl _ _) | (go_split_ands; first | (with_reducible assumption) | go_grown)))) (first | (go_split_ands; simp only [hlk _ (by assumption)]))
      all_goals (go_wp2_with fail; go_meet; go_split_ands; exact ⟨rfl, rfl, rfl, (by first | (with_reducible exact Below.refl _ _) | (with_reducible exact below_drewN (Below.refl _ _) _) | go_grown)⟩)
    case rest =>
      obtain ⟨rfl, rfl, rfl, hBx⟩ := hcut
      obtain ⟨u2, hwc⟩ : ∃ wq, wq = wc := ⟨_, rfl⟩
      subst hwc
      have yBn : w.heap.size ≤ u2.heap.size := Nat.le_trans yB hBx.size
      clear yB
      have yB := yBn
      clear yBn
      have hMvn : Moved S R B w u2 := hMv.call hBx (Nat.le_trans bw (by first | assumption | omega))
      clear hMv
      have hMv := hMvn
      clear hMvn
      have hsn := heap_below hBx zS hs
      clear hs cS fS zS
      have hs := hsn
      clear hsn
      have hrn := heap_below hBx zR hr
      clear hr zR
      have hr := hrn
      clear hrn
      have hgn := heap_below hBx zG hg
      clear hg cG fG zG
      have hg := hgn
      clear hgn
      have hMn := hM.below hBx
      clear hM
      have hM := hMn
      clear hMn
      have HAn := Lib.hid (HA.out.below rfl hBx)
      clear HA
      have HA := HAn
      clear HAn
      clear hBx
      obtain ⟨cS, fS, zS⟩ := blk_facts hs
      obtain ⟨cG, fG, zG⟩ := blk_facts hg
      have zR := blk_lt hr
      go_upto_region 3 with fail
      go_cut [6, 51] from 31 to 107 (fun s6 s51 wx => s6 = .pointer (some ⟨g, 0, none⟩) ∧ s51 = .bool true ∧ Below u2.heap.size u2 wx)
      case first =>
        have h3 := HH3.out
        have h4 := HH4.out
        have h5 := HH5.out
        subst h3
        subst h4
        subst h5
        have hcb : ((c : Int) == (c : Int)) = true := beq_self_eq_true _
        go_quiet (fail)
        all_goals (go_wp2_with fail; go_meet; go_split_ands; exact ⟨rfl, rfl, (by first | (with_reducible exact Below.refl _ _) | (with_reducible exact below_drewN (Below.refl _ _) _) | go_grown)⟩)
      case rest =>
        obtain ⟨rfl, rfl, hBx⟩ := hcut
        obtain ⟨u3, hwc⟩ : ∃ wq, wq = wc := ⟨_, rfl⟩
        subst hwc
        have yBn : w.heap.size ≤ u3.heap.size := Nat.le_trans yB hBx.size
        clear yB
        have yB := yBn
        clear yBn
        have hMvn : Moved S R B w u3 := hMv.call hBx (Nat.le_trans bw (by first | assumption | omega))
        clear hMv
        have hMv := hMvn
        clear hMvn
        have hsn := heap_below hBx zS hs
        clear hs cS fS zS
        have hs := hsn
        clear hsn
        have hrn := heap_below hBx zR hr
        clear hr zR
        have hr := hrn
        clear hrn
        have hgn := heap_below hBx zG hg
        clear hg cG fG zG
        have hg := hgn
        clear hgn
        have hMn := hM.below hBx
        clear hM
        have hM := hMn
        clear hMn
        have HAn := Lib.hid (HA.out.below rfl hBx)
        clear HA
        have HA := HAn
        clear HAn
        clear hBx
        obtain ⟨cS, fS, zS⟩ := blk_facts hs
        obtain ⟨cG, fG, zG⟩ := blk_facts hg
        have zR := blk_lt hr
        have hMS := hM.not_cells hs
        have hMR := hM.not_cells hr
        go_upto_region 4 with fail
        go_cut [6] from 7 to 107 (fun s6 wx => s6 = .pointer (some ⟨g, 0, none⟩) ∧ wx.heap[S]? = some (.cells #[.slice (some ⟨R, 0, none⟩) n n, .int .i64 (a : Int), .int .i64 (c : Int), .map (some M)] 48 (0, 0)) ∧ wx.heap[R]? = some (.cells (cellsR rg).toArray 50 (0, 0)) ∧ MapIs wx Try.prog 29 .u16 M m (fun z => if z = q0 then none else f z) ∧ Moved S R B w wx ∧ Hid (IntsAt wx A .u8 zs) ∧ wx.heap[g]? = some (.cells #[.int .u16 q0, .slice A0 n0 c0] 50 (0, 0)))
        case first =>
          go_still_tail 6, (by kernel_rfl)
          go_wp2_with (at_delete; refine wpList_map_del _ rfl (.tmp 55) (.tmp 57) 46 29 rfl 3 .u16 Try.underlying29 Try.underlying46 M m f rfl hM.drew q0 rfl hxw ?_; intro w6 hM6 hg6)
          all_goals (go_meet; go_split_ands; exact ⟨rfl, (blk_grown_map (w := u3.drew) hs hM.drew hg6), (blk_grown_map (w := u3.drew) hr hM.drew hg6), hM6, (moved_map (w := u3.drew) hMv.drew hM.drew hg6 bM (Nat.le_trans bw yB)), Lib.hid (ints_grown_map (w := u3.drew) HA.out hM.drew hg6), (blk_grown_map (w := u3.drew) hg hM.drew hg6)⟩)
        case rest =>
          obtain ⟨rfl, hsn, hrn, hMn, hMvn, HAn, hgn⟩ := hcut
          clear hs cS fS zS hr zR hM hMv hg cG fG zG yB HA hMS hMR
          obtain ⟨u4, hwc⟩ : ∃ wq, wq = wc := ⟨_, rfl⟩
          subst hwc
          have hs := hsn
          have hr := hrn
          have hM := hMn
          have hMv := hMvn
          have HA := HAn
          have hg := hgn
          clear hsn hrn hMn hMvn HAn hgn
          obtain ⟨cS, fS, zS⟩ := blk_facts hs
          obtain ⟨cG, fG, zG⟩ := blk_facts hg
          have zR := blk_lt hr
          have yB := hMv.size
          go_upto_region 5 with fail
          go_cut [6] from 7 to 107 (fun s6 wx => ∃ g2 : Nat, s6 = .pointer (some ⟨g, 0, none⟩) ∧ wx.heap[S]? = some (.cells #[.slice (some ⟨R, 0, none⟩) n n, .int .i64 (a : Int), .int .i64 (c : Int), .map (some M)] 48 (0, 0)) ∧ wx.heap[R]? = some (.cells (cellsR (rg.set a ⟨q, .slice (some ⟨g2, 0, none⟩) zs.length zs.length⟩)).toArray 50 (0, 0)) ∧ wx.heap[g2]? = some (.cells (zs.map (Value.int .u8)).toArray 5 (0, 0)) ∧ w.heap.size ≤ g2 ∧ MapIs wx Try.prog 29 .u16 M m (fun z => if z = q0 then none else f z) ∧ Moved S R B w wx)
          case first =>
            go_region_held3 (fun w' => (∀ j, w'.cell? ⟨S, j, none⟩ = #[.slice (some ⟨R, 0, none⟩) n n, .int .i64 (a : Int), .int .i64 (c : Int), .map (some M)][j]?) ∧ Moved S R B w w') ((exact keepQ (by repeat (first | (with_reducible assumption) | (with_reducible apply heap_set_row2) | (with_reducible apply heap_set_row3) | (with_reducible apply heap_set_same) | ((with_reducible apply heap_set_other'); (focus (first | omega | (simp; done) | (simp; omega)))) | ((with_reducible apply heap_alloc_new); (focus (first | omega | (simp; done) | (simp; omega)))) | (with_reducible apply heap_alloc_old') | (with_reducible apply (heap_drew_at _ _).trans) | (with_reducible apply (heap_drewN_at _ _ _).trans) | (simp only [List.size_toArray, List.length_cons, List.length_nil]; done))) (by repeat (first | (with_reducible assumption) | (with_reducible exact Moved.refl _ _ _ _) | (with_reducible apply Moved.drewN) | (with_reducible apply Moved.drew) | ((with_reducible apply moved_set); (focus (first | (exact .inl rfl) | (exact .inr rfl))); (focus (first | assumption | omega))) | ((with_reducible apply moved_alloc); (focus (first | omega | (simp; omega)))))))) (first | (go_at_call 16; go_split_ands; (with_reducible refine (own_b _ A cap zs hl (HA.out.below rfl (by first | (with_reducible exact Below.refl _ _) | (with_reducible assumption) | go_grown))).mono ?_); rintro e w2 ⟨g2, rfl, hg2, zg2, hb⟩; replace zg2 : u4.heap.size ≤ g2 := zg2; have hB5 := below_next (w := u4) (by first | (with_reducible exact Below.refl _ _) | (with_reducible assumption) | go_grown) hb; have z5 := hB5.size; clear hb; have hs5 := heap_below hB5 zS hs; have hr5 := heap_below hB5 zR hr; have hM5 := hM.below hB5; have hMv5 := hMv.call hB5 (Nat.le_trans bw yB); obtain ⟨d05, d15⟩ := ring_cells hr5 hal; rw [e4] at d05 d15; have fR5 := (blk_facts hr5).2.1; have zR5 := blk_lt hr5))
            all_goals (go_wp2_with fail; go_meet; go_split_ands; exact ⟨_, rfl, (Eq.trans (b := some (Obj.cells _ _ (0, 0))) (by repeat (first | (with_reducible assumption) | (with_reducible apply heap_set_row2) | (with_reducible apply heap_set_row3) | (with_reducible apply heap_set_same) | ((with_reducible apply heap_set_other'); (focus (first | omega | (simp; done) | (simp; omega)))) | ((with_reducible apply heap_alloc_new); (focus (first | omega | (simp; done) | (simp; omega)))) | (with_reducible apply heap_alloc_old') | (with_reducible apply (heap_drew_at _ _).trans) | (with_reducible apply (heap_drewN_at _ _ _).trans) | (simp only [List.size_toArray, List.length_cons, List.length_nil]; done))) (by exact rfl)), ring_set hr5 hal _ _, (Eq.trans (b := some (Obj.cells _ _ (0, 0))) (by repeat (first | (with_reducible assumption) | (with_reducible apply heap_set_row2) | (with_reducible apply heap_set_row3) | (with_reducible apply heap_set_same) | ((with_reducible apply heap_set_other'); (focus (first | omega | (simp; done) | (simp; omega)))) | ((with_reducible apply heap_alloc_new); (focus (first | omega | (simp; done) | (simp; omega)))) | (with_reducible apply heap_alloc_old') | (with_reducible apply (heap_drew_at _ _).trans) | (with_reducible apply (heap_drewN_at _ _ _).trans) | (simp only [List.size_toArray, List.length_cons, List.length_nil]; done))) (by exact rfl)), (by have := z5; first | omega | (simp at zg2; omega)), ((hM5.set (hM5.not_cells hr5) _).set (hM5.not_cells hr5) _), (by repeat (first | (with_reducible assumption) | (with_reducible exact Moved.refl _ _ _ _) | (with_reducible apply Moved.drewN) | (with_reducible apply Moved.drew) | ((with_reducible apply moved_set); (focus (first | (exact .inl rfl) | (exact .inr rfl))); (focus (first | assumption | omega))) | ((with_reducible apply moved_alloc); (focus (first | omega | (simp; omega))))))⟩)
          case rest =>
            obtain ⟨g2, rfl, hsn, hrn, hq, gz2, hMn, hMvn⟩ := hcut
            clear hs cS fS zS hr zR hM hMv hg cG fG zG yB HA
            obtain ⟨u5, hwc⟩ : ∃ wq, wq = wc := ⟨_, rfl⟩
            subst hwc
            have hs := hsn
            have hr := hrn
            have hM := hMn
            have hMv := hMvn
            clear hsn hrn hMn hMvn
            obtain ⟨cS, fS, zS⟩ := blk_facts hs
            have zR := blk_lt hr
            have hMS := hM.not_cells hs
            have hMR := hM.not_cells hr
            have yB := hMv.size
            have hgS : g2 ≠ S := fun h => by subst h; rw [hs] at hq; simp at hq
            go_upto_region 6 with fail
            go_cut [6] from 7 to 107 (fun s6 wx => s6 = .pointer (some ⟨g, 0, none⟩) ∧ wx.heap[S]? = some (.cells #[.slice (some ⟨R, 0, none⟩) n n, .int .i64 (a : Int), .int .i64 (c : Int), .map (some M)] 48 (0, 0)) ∧ wx.heap[R]? = some (.cells (cellsR (rg.set a ⟨q, .slice (some ⟨g2, 0, none⟩) zs.length zs.length⟩)).toArray 50 (0, 0)) ∧ wx.heap[g2]? = some (.cells (zs.map (Value.int .u8)).toArray 5 (0, 0)) ∧ MapIs wx Try.prog 29 .u16 M (m + 1) (fun z => if z = q then some (.int .i64 (a : Int)) else (fun z => if z = q0 then none else f z) z) ∧ Moved S R B w wx)
            case first =>
              go_still_tail 9, (by kernel_rfl)
              go_wp2_with (at_mapUpdate; refine wpList_map_put _ rfl (.tmp 74) (.tmp 75) (.tmp 79) 46 rfl 29 3 .u16 Try.underlying29 Try.underlying46 M m (fun z => if z = q0 then none else f z) rfl hM.drew (by unfold maxLen; omega) q _ rfl rfl hxq ?_; intro w6 hM6 hg6)
              all_goals (go_meet; go_split_ands; exact ⟨rfl, (blk_grown_map (w := u5.drew) hs hM.drew hg6), (blk_grown_map (w := u5.drew) hr hM.drew hg6), (blk_grown_map (w := u5.drew) hq hM.drew hg6), hM6, (moved_map (w := u5.drew) hMv.drew hM.drew hg6 bM (Nat.le_trans bw yB))⟩)
            case rest =>
              obtain ⟨rfl, hsn, hrn, hqn, hMn, hMvn⟩ := hcut
              clear hs cS fS zS hr zR hM hMv hq hMS hMR yB
              have hq := hqn
              clear hqn
              obtain ⟨u6, hwc⟩ : ∃ wq, wq = wc := ⟨_, rfl⟩
              subst hwc
              have hs := hsn
              have hr := hrn
              have hM := hMn
              have hMv := hMvn
              clear hsn hrn hMn hMvn
              obtain ⟨cS, fS, zS⟩ := blk_facts hs
              have zR := blk_lt hr
              have hMS := hM.not_cells hs
              have hMR := hM.not_cells hr
              have yB := hMv.size
              have pn : (0 : Int) < (n : Int) := by omega
              have hrem := HA'.out
              go_upto_region 7 with fail
              go_cut [6] from 7 to 107 (fun s6 wx => s6 = .pointer (some ⟨g, 0, none⟩) ∧ wx.heap[S]? = some (.cells #[.slice (some ⟨R, 0, none⟩) n n, .int .i64 (a' : Int), .int .i64 (c : Int), .map (some M)] 48 (0, 0)) ∧ wx.heap[R]? = some (.cells (cellsR (rg.set a ⟨q, .slice (some ⟨g2, 0, none⟩) zs.length zs.length⟩)).toArray 50 (0, 0)) ∧ wx.heap[g2]? = some (.cells (zs.map (Value.int .u8)).toArray 5 (0, 0)) ∧ MapIs wx Try.prog 29 .u16 M (m + 1) (fun z => if z = q then some (.int .i64 (a : Int)) else (fun z => if z = q0 then none else f z) z) ∧ Moved S R B w wx)
              case first =>
                have cSd : ∀ j, u6.drew.cell? ⟨S, j, none⟩ = _ := cS
                have fSd : ∀ j, u6.drew.frozen? ⟨S, j, none⟩ = false := fS
                have zSd : S < u6.drew.heap.size := zS
                go_region
                all_goals (go_wp2_with fail; go_meet; go_split_ands; exact ⟨rfl, (Eq.trans (b := some (Obj.cells _ _ (0, 0))) (by repeat (first | (with_reducible assumption) | (with_reducible apply heap_set_row2) | (with_reducible apply heap_set_row3) | (with_reducible apply heap_set_same) | ((with_reducible apply heap_set_other'); (focus (first | omega | (simp; done) | (simp; omega)))) | ((with_reducible apply heap_alloc_new); (focus (first | omega | (simp; done) | (simp; omega)))) | (with_reducible apply heap_alloc_old') | (with_reducible apply (heap_drew_at _ _).trans) | (with_reducible apply (heap_drewN_at _ _ _).trans) | (simp only [List.size_toArray, List.length_cons, List.length_nil]; done))) (by exact rfl)), (Eq.trans (b := some (Obj.cells _ _ (0, 0))) (by repeat (first | (with_reducible assumption) | (with_reducible apply heap_set_row2) | (with_reducible apply heap_set_row3) | (with_reducible apply heap_set_same) | ((with_reducible apply heap_set_other'); (focus (first | omega | (simp; done) | (simp; omega)))) | ((with_reducible apply heap_alloc_new); (focus (first | omega | (simp; done) | (simp; omega)))) | (with_reducible apply heap_alloc_old') | (with_reducible apply (heap_drew_at _ _).trans) | (with_reducible apply (heap_drewN_at _ _ _).trans) | (simp only [List.size_toArray, List.length_cons, List.length_nil]; done))) (by exact rfl)), (Eq.trans (b := some (Obj.cells _ _ (0, 0))) (by repeat (first | (with_reducible assumption) | (with_reducible apply heap_set_row2) | (with_reducible apply heap_set_row3) | (with_reducible apply heap_set_same) | ((with_reducible apply heap_set_other'); (focus (first | omega | (simp; done) | (simp; omega)))) | ((with_reducible apply heap_alloc_new); (focus (first | omega | (simp; done) | (simp; omega)))) | (with_reducible apply heap_alloc_old') | (with_reducible apply (heap_drew_at _ _).trans) | (with_reducible apply (heap_drewN_at _ _ _).trans) | (simp only [List.size_toArray, List.length_cons, List.length_nil]; done))) (by exact rfl)), (by repeat (first | (with_reducible assumption) | (exact hM.drew) | (with_reducible apply MapIs.alloc) | (with_reducible apply MapIs.drewN) | (with_reducible apply MapIs.drew) | ((with_reducible refine MapIs.set ?_ ?_ _); rotate_left; (focus (first | exact hMS | exact hMR))))), (by repeat (first | (with_reducible assumption) | (exact hMv.drew) | (with_reducible exact Moved.refl _ _ _ _) | (with_reducible apply Moved.drewN) | (with_reducible apply Moved.drew) | ((with_reducible apply moved_set); (focus (first | (exact .inl rfl) | (exact .inr rfl))); (focus (first | assumption | omega))) | ((with_reducible apply moved_alloc); (focus (first | omega | (simp; omega))))))⟩)
              case rest =>
                clear pn hrem
                obtain ⟨rfl, hsn, hrn, hqn, hMn, hMvn⟩ := hcut
                clear hs cS fS zS hr zR hM hMv hq hMS hMR yB
                have hq := hqn
                clear hqn
                obtain ⟨u7, hwc⟩ : ∃ wq, wq = wc := ⟨_, rfl⟩
                subst hwc
                have hs := hsn
                have hr := hrn
                have hM := hMn
                have hMv := hMvn
                clear hsn hrn hMn hMvn
                obtain ⟨cS, fS, zS⟩ := blk_facts hs
                have zR := blk_lt hr
                have hMS := hM.not_cells hs
                have hMR := hM.not_cells hr
                have yB := hMv.size
                go_upto_region 8 with fail
                rcases Nat.lt_or_ge c n with hcl | hcl
                · obtain rfl : c' = c + 1 := by omega
                  have cSd : ∀ j, u7.drew.cell? ⟨S, j, none⟩ = _ := cS
                  have fSd : ∀ j, u7.drew.frozen? ⟨S, j, none⟩ = false := fS
                  have zSd : S < u7.drew.heap.size := zS
                  go_region
                  all_goals (go_wp2_with fail; (try simp only [Exit.inBlock, Exit.then]); (refine bodyPost_end (results_none rfl _ _ _) rfl ?_); first | exact ⟨g2, rfl, (Eq.trans (b := some (Obj.cells _ _ (0, 0))) (by repeat (first | (with_reducible assumption) | (with_reducible apply heap_set_row2) | (with_reducible apply heap_set_row3) | (with_reducible apply heap_set_same) | ((with_reducible apply heap_set_other'); (focus (first | omega | (simp; done) | (simp; omega)))) | ((with_reducible apply heap_alloc_new); (focus (first | omega | (simp; done) | (simp; omega)))) | (with_reducible apply heap_alloc_old') | (with_reducible apply (heap_drew_at _ _).trans) | (with_reducible apply (heap_drewN_at _ _ _).trans) | (simp only [List.size_toArray, List.length_cons, List.length_nil]; done))) (by exact rfl)), (Eq.trans (b := some (Obj.cells _ _ (0, 0))) (by repeat (first | (with_reducible assumption) | (with_reducible apply heap_set_row2) | (with_reducible apply heap_set_row3) | (with_reducible apply heap_set_same) | ((with_reducible apply heap_set_other'); (focus (first | omega | (simp; done) | (simp; omega)))) | ((with_reducible apply heap_alloc_new); (focus (first | omega | (simp; done) | (simp; omega)))) | (with_reducible apply heap_alloc_old') | (with_reducible apply (heap_drew_at _ _).trans) | (with_reducible apply (heap_drewN_at _ _ _).trans) | (simp only [List.size_toArray, List.length_cons, List.length_nil]; done))) (by exact rfl)), (Eq.trans (b := some (Obj.cells _ _ (0, 0))) (by repeat (first | (with_reducible assumption) | (with_reducible apply heap_set_row2) | (with_reducible apply heap_set_row3) | (with_reducible apply heap_set_same) | ((with_reducible apply heap_set_other'); (focus (first | omega | (simp; done) | (simp; omega)))) | ((with_reducible apply heap_alloc_new); (focus (first | omega | (simp; done) | (simp; omega)))) | (with_reducible apply heap_alloc_old') | (with_reducible apply (heap_drew_at _ _).trans) | (with_reducible apply (heap_drewN_at _ _ _).trans) | (simp only [List.size_toArray, List.length_cons, List.length_nil]; done))) (by exact rfl)), gz2, (by repeat (first | (with_reducible assumption) | (exact hM.drew) | (with_reducible apply MapIs.alloc) | (with_reducible apply MapIs.drewN) | (with_reducible apply MapIs.drew) | ((with_reducible refine MapIs.set ?_ ?_ _); rotate_left; (focus (first | exact hMS | exact hMR))))), (by repeat (first | (with_reducible assumption) | (exact hMv.drew) | (with_reducible exact Moved.refl _ _ _ _) | (with_reducible apply Moved.drewN) | (with_reducible apply Moved.drew) | ((with_reducible apply moved_set); (focus (first | (exact .inl rfl) | (exact .inr rfl))); (focus (first | assumption | omega))) | ((with_reducible apply moved_alloc); (focus (first | omega | (simp; omega))))))⟩ | exact ⟨rfl, g2, (Eq.trans (b := some (Obj.cells _ _ (0, 0))) (by repeat (first | (with_reducible assumption) | (with_reducible apply heap_set_row2) | (with_reducible apply heap_set_row3) | (with_reducible apply heap_set_same) | ((with_reducible apply heap_set_other'); (focus (first | omega | (simp; done) | (simp; omega)))) | ((with_reducible apply heap_alloc_new); (focus (first | omega | (simp; done) | (simp; omega)))) | (with_reducible apply heap_alloc_old') | (with_reducible apply (heap_drew_at _ _).trans) | (with_reducible apply (heap_drewN_at _ _ _).trans) | (simp only [List.size_toArray, List.length_cons, List.length_nil]; done))) (by exact rfl)), (Eq.trans (b := some (Obj.cells _ _ (0, 0))) (by repeat (first | (with_reducible assumption) | (with_reducible apply heap_set_row2) | (with_reducible apply heap_set_row3) | (with_reducible apply heap_set_same) | ((with_reducible apply heap_set_other'); (focus (first | omega | (simp; done) | (simp; omega)))) | ((with_reducible apply heap_alloc_new); (focus (first | omega | (simp; done) | (simp; omega)))) | (with_reducible apply heap_alloc_old') | (with_reducible apply (heap_drew_at _ _).trans) | (with_reducible apply (heap_drewN_at _ _ _).trans) | (simp only [List.size_toArray, List.length_cons, List.length_nil]; done))) (by exact rfl)), (Eq.trans (b := some (Obj.cells _ _ (0, 0))) (by repeat (first | (with_reducible assumption) | (with_reducible apply heap_set_row2) | (with_reducible apply heap_set_row3) | (with_reducible apply heap_set_same) | ((with_reducible apply heap_set_other'); (focus (first | omega | (simp; done) | (simp; omega)))) | ((with_reducible apply heap_alloc_new); (focus (first | omega | (simp; done) | (simp; omega)))) | (with_reducible apply heap_alloc_old') | (with_reducible apply (heap_drew_at _ _).trans) | (with_reducible apply (heap_drewN_at _ _ _).trans) | (simp only [List.size_toArray, List.length_cons, List.length_nil]; done))) (by exact rfl)), gz2, (by repeat (first | (with_reducible assumption) | (exact hM.drew) | (with_reducible apply MapIs.alloc) | (with_reducible apply MapIs.drewN) | (with_reducible apply MapIs.drew) | ((with_reducible refine MapIs.set ?_ ?_ _); rotate_left; (focus (first | exact hMS | exact hMR))))), (by repeat (first | (with_reducible assumption) | (exact hMv.drew) | (with_reducible exact Moved.refl _ _ _ _) | (with_reducible apply Moved.drewN) | (with_reducible apply Moved.drew) | ((with_reducible apply moved_set); (focus (first | (exact .inl rfl) | (exact .inr rfl))); (focus (first | assumption | omega))) | ((with_reducible apply moved_alloc); (focus (first | omega | (simp; omega))))))⟩ | exact ⟨rfl, (Eq.trans (b := some (Obj.cells _ _ (0, 0))) (by repeat (first | (with_reducible assumption) | (with_reducible apply heap_set_row2) | (with_reducible apply heap_set_row3) | (with_reducible apply heap_set_same) | ((with_reducible apply heap_set_other'); (focus (first | omega | (simp; done) | (simp; omega)))) | ((with_reducible apply heap_alloc_new); (focus (first | omega | (simp; done) | (simp; omega)))) | (with_reducible apply heap_alloc_old') | (with_reducible apply (heap_drew_at _ _).trans) | (with_reducible apply (heap_drewN_at _ _ _).trans) | (simp only [List.size_toArray, List.length_cons, List.length_nil]; done))) (by exact rfl)), g2, (Eq.trans (b := some (Obj.cells _ _ (0, 0))) (by repeat (first | (with_reducible assumption) | (with_reducible apply heap_set_row2) | (with_reducible apply heap_set_row3) | (with_reducible apply heap_set_same) | ((with_reducible apply heap_set_other'); (focus (first | omega | (simp; done) | (simp; omega)))) | ((with_reducible apply heap_alloc_new); (focus (first | omega | (simp; done) | (simp; omega)))) | (with_reducible apply heap_alloc_old') | (with_reducible apply (heap_drew_at _ _).trans) | (with_reducible apply (heap_drewN_at _ _ _).trans) | (simp only [List.size_toArray, List.length_cons, List.length_nil]; done))) (by exact rfl)), (Eq.trans (b := some (Obj.cells _ _ (0, 0))) (by repeat (first | (with_reducible assumption) | (with_reducible apply heap_set_row2) | (with_reducible apply heap_set_row3) | (with_reducible apply heap_set_same) | ((with_reducible apply heap_set_other'); (focus (first | omega | (simp; done) | (simp; omega)))) | ((with_reducible apply heap_alloc_new); (focus (first | omega | (simp; done) | (simp; omega)))) | (with_reducible apply heap_alloc_old') | (with_reducible apply (heap_drew_at _ _).trans) | (with_reducible apply (heap_drewN_at _ _ _).trans) | (simp only [List.size_toArray, List.length_cons, List.length_nil]; done))) (by exact rfl)), gz2, (by repeat (first | (with_reducible assumption) | (exact hM.drew) | (with_reducible apply MapIs.alloc) | (with_reducible apply MapIs.drewN) | (with_reducible apply MapIs.drew) | ((with_reducible refine MapIs.set ?_ ?_ _); rotate_left; (focus (first | exact hMS | exact hMR))))), (by repeat (first | (with_reducible assumption) | (exact hMv.drew) | (with_reducible exact Moved.refl _ _ _ _) | (with_reducible apply Moved.drewN) | (with_reducible apply Moved.drew) | ((with_reducible apply moved_set); (focus (first | (exact .inl rfl) | (exact .inr rfl))); (focus (first | assumption | omega))) | ((with_reducible apply moved_alloc); (focus (first | omega | (simp; omega))))))⟩)
                · obtain rfl : c' = n := by omega
                  have cSd : ∀ j, u7.drew.cell? ⟨S, j, none⟩ = _ := cS
                  have fSd : ∀ j, u7.drew.frozen? ⟨S, j, none⟩ = false := fS
                  have zSd : S < u7.drew.heap.size := zS
                  go_region
                  all_goals (go_wp2_with fail; (try simp only [Exit.inBlock, Exit.then]); (refine bodyPost_end (results_none rfl _ _ _) rfl ?_); first | exact ⟨g2, rfl, (Eq.trans (b := some (Obj.cells _ _ (0, 0))) (by repeat (first | (with_reducible assumption) | (with_reducible apply heap_set_row2) | (with_reducible apply heap_set_row3) | (with_reducible apply heap_set_same) | ((with_reducible apply heap_set_other'); (focus (first | omega | (simp; done) | (simp; omega)))) | ((with_reducible apply heap_alloc_new); (focus (first | omega | (simp; done) | (simp; omega)))) | (with_reducible apply heap_alloc_old') | (with_reducible apply (heap_drew_at _ _).trans) | (with_reducible apply (heap_drewN_at _ _ _).trans) | (simp only [List.size_toArray, List.length_cons, List.length_nil]; done))) (by exact rfl)), (Eq.trans (b := some (Obj.cells _ _ (0, 0))) (by repeat (first | (with_reducible assumption) | (with_reducible apply heap_set_row2) | (with_reducible apply heap_set_row3) | (with_reducible apply heap_set_same) | ((with_reducible apply heap_set_other'); (focus (first | omega | (simp; done) | (simp; omega)))) | ((with_reducible apply heap_alloc_new); (focus (first | omega | (simp; done) | (simp; omega)))) | (with_reducible apply heap_alloc_old') | (with_reducible apply (heap_drew_at _ _).trans) | (with_reducible apply (heap_drewN_at _ _ _).trans) | (simp only [List.size_toArray, List.length_cons, List.length_nil]; done))) (by exact rfl)), (Eq.trans (b := some (Obj.cells _ _ (0, 0))) (by repeat (first | (with_reducible assumption) | (with_reducible apply heap_set_row2) | (with_reducible apply heap_set_row3) | (with_reducible apply heap_set_same) | ((with_reducible apply heap_set_other'); (focus (first | omega | (simp; done) | (simp; omega)))) | ((with_reducible apply heap_alloc_new); (focus (first | omega | (simp; done) | (simp; omega)))) | (with_reducible apply heap_alloc_old') | (with_reducible apply (heap_drew_at _ _).trans) | (with_reducible apply (heap_drewN_at _ _ _).trans) | (simp only [List.size_toArray, List.length_cons, List.length_nil]; done))) (by exact rfl)), gz2, (by repeat (first | (with_reducible assumption) | (exact hM.drew) | (with_reducible apply MapIs.alloc) | (with_reducible apply MapIs.drewN) | (with_reducible apply MapIs.drew) | ((with_reducible refine MapIs.set ?_ ?_ _); rotate_left; (focus (first | exact hMS | exact hMR))))), (by repeat (first | (with_reducible assumption) | (exact hMv.drew) | (with_reducible exact Moved.refl _ _ _ _) | (with_reducible apply Moved.drewN) | (with_reducible apply Moved.drew) | ((with_reducible apply moved_set); (focus (first | (exact .inl rfl) | (exact .inr rfl))); (focus (first | assumption | omega))) | ((with_reducible apply moved_alloc); (focus (first | omega | (simp; omega))))))⟩ | exact ⟨rfl, g2, (Eq.trans (b := some (Obj.cells _ _ (0, 0))) (by repeat (first | (with_reducible assumption) | (with_reducible apply heap_set_row2) | (with_reducible apply heap_set_row3) | (with_reducible apply heap_set_same) | ((with_reducible apply heap_set_other'); (focus (first | omega | (simp; done) | (simp; omega)))) | ((with_reducible apply heap_alloc_new); (focus (first | omega | (simp; done) | (simp; omega)))) | (with_reducible apply heap_alloc_old') | (with_reducible apply (heap_drew_at _ _).trans) | (with_reducible apply (heap_drewN_at _ _ _).trans) | (simp only [List.size_toArray, List.length_cons, List.length_nil]; done))) (by exact rfl)), (Eq.trans (b := some (Obj.cells _ _ (0, 0))) (by repeat (first | (with_reducible assumption) | (with_reducible apply heap_set_row2) | (with_reducible apply heap_set_row3) | (with_reducible apply heap_set_same) | ((with_reducible apply heap_set_other'); (focus (first | omega | (simp; done) | (simp; omega)))) | ((with_reducible apply heap_alloc_new); (focus (first | omega | (simp; done) | (simp; omega)))) | (with_reducible apply heap_alloc_old') | (with_reducible apply (heap_drew_at _ _).trans) | (with_reducible apply (heap_drewN_at _ _ _).trans) | (simp only [List.size_toArray, List.length_cons, List.length_nil]; done))) (by exact rfl)), (Eq.trans (b := some (Obj.cells _ _ (0, 0))) (by repeat (first | (with_reducible assumption) | (with_reducible apply heap_set_row2) | (with_reducible apply heap_set_row3) | (with_reducible apply heap_set_same) | ((with_reducible apply heap_set_other'); (focus (first | omega | (simp; done) | (simp; omega)))) | ((with_reducible apply heap_alloc_new); (focus (first | omega | (simp; done) | (simp; omega)))) | (with_reducible apply heap_alloc_old') | (with_reducible apply (heap_drew_at _ _).trans) | (with_reducible apply (heap_drewN_at _ _ _).trans) | (simp only [List.size_toArray, List.length_cons, List.length_nil]; done))) (by exact rfl)), gz2, (by repeat (first | (with_reducible assumption) | (exact hM.drew) | (with_reducible apply MapIs.alloc) | (with_reducible apply MapIs.drewN) | (with_reducible apply MapIs.drew) | ((with_reducible refine MapIs.set ?_ ?_ _); rotate_left; (focus (first | exact hMS | exact hMR))))), (by repeat (first | (with_reducible assumption) | (exact hMv.drew) | (with_reducible exact Moved.refl _ _ _ _) | (with_reducible apply Moved.drewN) | (with_reducible apply Moved.drew) | ((with_reducible apply moved_set); (focus (first | (exact .inl rfl) | (exact .inr rfl))); (focus (first | assumption | omega))) | ((with_reducible apply moved_alloc); (focus (first | omega | (simp; omega))))))⟩ | exact ⟨rfl, (Eq.trans (b := some (Obj.cells _ _ (0, 0))) (by repeat (first | (with_reducible assumption) | (with_reducible apply heap_set_row2) | (with_reducible apply heap_set_row3) | (with_reducible apply heap_set_same) | ((with_reducible apply heap_set_other'); (focus (first | omega | (simp; done) | (simp; omega)))) | ((with_reducible apply heap_alloc_new); (focus (first | omega | (simp; done) | (simp; omega)))) | (with_reducible apply heap_alloc_old') | (with_reducible apply (heap_drew_at _ _).trans) | (with_reducible apply (heap_drewN_at _ _ _).trans) | (simp only [List.size_toArray, List.length_cons, List.length_nil]; done))) (by exact rfl)), g2, (Eq.trans (b := some (Obj.cells _ _ (0, 0))) (by repeat (first | (with_reducible assumption) | (with_reducible apply heap_set_row2) | (with_reducible apply heap_set_row3) | (with_reducible apply heap_set_same) | ((with_reducible apply heap_set_other'); (focus (first | omega | (simp; done) | (simp; omega)))) | ((with_reducible apply heap_alloc_new); (focus (first | omega | (simp; done) | (simp; omega)))) | (with_reducible apply heap_alloc_old') | (with_reducible apply (heap_drew_at _ _).trans) | (with_reducible apply (heap_drewN_at _ _ _).trans) | (simp only [List.size_toArray, List.length_cons, List.length_nil]; done))) (by exact rfl)), (Eq.trans (b := some (Obj.cells _ _ (0, 0))) (by repeat (first | (with_reducible assumption) | (with_reducible apply heap_set_row2) | (with_reducible apply heap_set_row3) | (with_reducible apply heap_set_same) | ((with_reducible apply heap_set_other'); (focus (first | omega | (simp; done) | (simp; omega)))) | ((with_reducible apply heap_alloc_new); (focus (first | omega | (simp; done) | (simp; omega)))) | (with_reducible apply heap_alloc_old') | (with_reducible apply (heap_drew_at _ _).trans) | (with_reducible apply (heap_drewN_at _ _ _).trans) | (simp only [List.size_toArray, List.length_cons, List.length_nil]; done))) (by exact rfl)), gz2, (by repeat (first | (with_reducible assumption) | (exact hM.drew) | (with_reducible apply MapIs.alloc) | (with_reducible apply MapIs.drewN) | (with_reducible apply MapIs.drew) | ((with_reducible refine MapIs.set ?_ ?_ _); rotate_left; (focus (first | exact hMS | exact hMR))))), (by repeat (first | (with_reducible assumption) | (exact hMv.drew) | (with_reducible exact Moved.refl _ _ _ _) | (with_reducible apply Moved.drewN) | (with_reducible apply Moved.drew) | ((with_reducible apply moved_set); (focus (first | (exact .inl rfl) | (exact .inr rfl))); (focus (first | assumption | omega))) | ((with_reducible apply moved_alloc); (focus (first | omega | (simp; omega))))))⟩)


end Go.Proofs.Ytmpajoheoobnkaa
