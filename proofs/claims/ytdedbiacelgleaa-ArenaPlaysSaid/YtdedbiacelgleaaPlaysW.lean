/- The law ArenaPlays, walked. -/
import Derived.Test.YtdedbiacelgleaaRefW
import Derived.Test.YtdedbiacelgleaaLowW
import Derived.Test.YtdedbiacelgleaaCount
import Derived.Deep.CutBlock
namespace Go.Proofs.Ytdedbiacelgleaa
set_option linter.unusedSimpArgs false
set_option linter.unusedVariables false
open Go.RowKit
def Pl (wx : World) (B P L n k : Nat) (s8 s9 : Value) (l : List Sl) (live : Int) (told : List (Int × Int)) (A8 : Option Addr) (c8 : Nat) (A9 : Option Addr) (c9 : Nat) : Prop :=
  s8 = .slice A8 n c8 ∧ s9 = .slice A9 told.length c9 ∧ l.length = n ∧ Xi l ∧ (∀ s ∈ l, 0 ≤ s.turn ∧ s.turn ≤ k) ∧ live = ((usedRefs l l.length).length : Int) ∧ told.length ≤ k ∧ At wx P L 62 65 l live ∧ RAt wx A8 l ∧ wx.ownsRow B 31 2 (.slice A9 told.length c9) told.length (refCells told)
def St (wx : World) (B P L n k : Nat) (s8 s9 : Value) : Prop := ∃ l live told A8 c8 A9 c9, Pl wx B P L n k s8 s9 l live told A8 c8 A9 c9
def RefIs (w : World) (g : Nat) : Prop := ∃ sl tn : Int, w.heap[g]? = some (.cells #[.int .i64 sl, .int .u32 tn] 31 (0, 0))
theorem rat_turned {w w' : World} {P L : Nat} {A : Option Addr} {l l2 : List Sl} {live : Int} (h : RAt w A l) (ht : Turned P L w w') (ha : At w P L 62 65 l2 live) : RAt w' A l := by
  obtain ⟨b, o, cur, h1, h2, h3⟩ := h
  exact ⟨b, o, cur, h1, turned_block ht h2 (fun e => by subst e; have := ha.p; rw [h2] at this; simp at this) (fun e => by subst e; have := ha.l; rw [h2] at this; simp at this), h3⟩
theorem rat_alloc {w : World} {A : Option Addr} {l : List Sl} (h : RAt w A l) (o : Obj) : RAt (w.alloc o) A l := h.below (Below.alloc (Below.refl _ _) (Nat.le_refl _) o)
theorem rat_grown {w w' : World} {A : Option Addr} {l : List Sl} {B s m : Nat} {v : Value} {xs : List Value} (h : RAt w A l) (ho : w.ownsRow B 31 s v m xs) (hg : w.grownBy w' v.ownBlock) : RAt w' A l := by
  obtain ⟨b, o, cur, h1, h2, h3⟩ := h
  exact ⟨b, o, cur, h1, block_grown ho hg h2 (by decide), h3⟩
theorem Pl.below {w w' : World} {B P L n k : Nat} {s8 s9 : Value} {l : List Sl} {live : Int} {told : List (Int × Int)} {A8 : Option Addr} {c8 : Nat} {A9 : Option Addr} {c9 : Nat} (h : Pl w B P L n k s8 s9 l live told A8 c8 A9 c9) (hb : Below w.heap.size w w') : Pl w' B P L n k s8 s9 l live told A8 c8 A9 c9 := by
  obtain ⟨h1, h2, h3, h4, h5, h6, h7, h8, h9, h10⟩ := h
  exact ⟨h1, h2, h3, h4, h5, h6, h7, h8.below hb, h9.below hb, own_below h10 hb⟩

set_option maxRecDepth 100000 in
set_option maxHeartbeats 8000000 in
theorem plays_walk (room : Int) (A : Option Addr) (len cap : Nat) (z : Nat → ActV) (w : World) (hr0 : 0 ≤ room) (hr1 : room ≤ 255) (hl : len ≤ 9223372036854775807) (hz : ∀ i, i < len → ActAt w A i (z i)) :
    Calls Try.prog 5 #[.int .u8 room, .slice A len cap] w fun e w' => e = .returned (.bool true) ∧ Below w.heap.size w w' := by
  have HZ := Lib.hid hz; clear hz
  by_cases h200 : 200 < len
  · go_enter Try.func5, Try.ntmps5
    go_wp2_with fail
    (with_reducible refine (awake_any _).mono ?_)
    rintro e w1 ⟨rfl, hb⟩
    go_wp2_with fail
    go_ret
    exact ⟨rfl, hb⟩
  obtain ⟨n, hn⟩ : ∃ n : Nat, room % 9 + 1 = n := ⟨(room % 9 + 1).toNat, by omega⟩
  have hn0 : 1 ≤ n := by omega
  have hn1 : n ≤ 9 := by omega
  obtain ⟨i0, hi, hz0, hz1, hz2⟩ := info_parts info52
  have hmk := make_run 44 52 i0 _ (.int .i64 0) undef undef 16 n Try.underlying44 hi hz0 hz1 hz2 rfl (by omega) (by omega)
  obtain ⟨i1, gi, gz0, gz1, gz2⟩ := info_parts info31
  go_enter Try.func5, Try.ntmps5
  go_wp2_with fail
  (with_reducible refine (awake_any _).mono ?_)
  rintro e w1 ⟨rfl, hB⟩
  have y1 := hB.size
  go_wp2_with fail
  with_reducible refine (new_i _ n rfl _ hn0 (by omega)).mono ?_
  rintro e w2 ⟨P, L, rfl, hA, hp, hq, hb⟩
  have HN := Lib.hid hn; clear hn
  replace hB := below_next (w := w) hB hb
  have y2 := hB.size
  go_wp2_with fail
  go_loopw [8, 9, 10] (fun v8 v9 i wr => ∃ k : Nat, k ≤ len ∧ i = .int .i64 k ∧ St wr w1.heap.size P L n k v8 v9 ∧ Below w.heap.size w wr) (fun _ _ i _ => len - (intOf i).toNat)
  case atStart =>
    refine ⟨0, by omega, rfl, ⟨List.replicate n (sl0 (.int .i64 0)), 0, [], _, n, none, 0, rfl, rfl, by simp, ?_, ?_, ?_, by simp, hA.alloc _, ?_, World.ownsRow_nil _ _ _ _⟩, by go_grown⟩
    · intro s hs
      rw [List.eq_of_mem_replicate hs]
      exact ⟨0, rfl⟩
    · intro s hs
      rw [List.eq_of_mem_replicate hs]
      simp [sl0]
    · rw [List.length_replicate]
      have : ∀ k, usedRefs (List.replicate n (sl0 (.int .i64 0))) k = [] := by
        intro k
        induction k with
        | zero => rfl
        | succ k ih =>
          rw [usedRefs, ih]
          cases e : (List.replicate n (sl0 (.int .i64 0)))[k]? with
          | none => rfl
          | some s =>
            have := List.eq_of_mem_replicate (List.mem_of_getElem? e)
            subst this
            rfl
      rw [this]
      rfl
    · exact ⟨_, 0, _, rfl, heap_alloc_new _ _ _ rfl, fun j u hj => by simpa using hj⟩
  case round =>
    clear hB hA hb
    obtain ⟨k, hk, rfl, ⟨l, live, told, A8, c8, A9, c9, hPl⟩, hB⟩ := hrel
    obtain ⟨rfl, rfl, hln, hX, hT, hlv, htk, hAt, hRAt, hown⟩ := id hPl
    have HPl := Lib.hid hPl; clear hPl hX hT hAt hRAt
    have HLN := Lib.hid hln; clear hln
    by_cases hlt : k < len
    · obtain ⟨ab, ao, rfl, hab, d0, d1, d2, d3, d4, l0, l1⟩ := HZ.out k hlt
      generalize z k = v at d0 d1 d2 d3 d4 l0 l1
      obtain ⟨kd, x, wh, rs, rt⟩ := v
      dsimp only at d0 d1 d2 d3 d4 l0 l1
      have D0 := Lib.hid d0; clear d0
      have D1 := Lib.hid d1; clear d1
      have D2 := Lib.hid d2; clear d2
      replace d3 := (hB.cell (p := ⟨ab, ao + k * 5 + 3, none⟩) hab).trans d3
      replace d4 := (hB.cell (p := ⟨ab, ao + k * 5 + 4, none⟩) hab).trans d4
      have d2 := (hB.cell (p := ⟨ab, ao + k * 5 + 2, none⟩) hab).trans D2.out
      have hb1 := Nat.lt_of_lt_of_le hab hB.size
      go_upto_region 14 with fail
      have hg := heap_alloc_new wr (.cells #[.int .i64 rs, .int .u32 rt] 31) _ rfl
      have hBa : Below wr.heap.size wr (wr.alloc (.cells #[.int .i64 rs, .int .u32 rt] 31)) := Below.alloc (Below.refl _ _) (Nat.le_refl _) _
      have d2a := (hBa.cell (p := ⟨ab, ao + k * 5 + 2, none⟩) hb1).trans d2
      have hb1a := Nat.lt_of_lt_of_le hb1 hBa.size
      clear d2 d3 d4 hb1
      obtain ⟨u, hu⟩ : ∃ u, u = wr.alloc (.cells #[.int .i64 rs, .int .u32 rt] 31) := ⟨_, rfl⟩
      rw [← hu] at hg hBa d2a hb1a ⊢
      clear hu
      obtain ⟨g, hge⟩ : ∃ g, g = wr.heap.size := ⟨_, rfl⟩
      rw [← hge] at hg ⊢
      have HGE := Lib.hid hge; clear hge
      have HNE := Lib.hid (show (Value.slice A9 told.length c9).ownBlock ≠ some g from fun h => by have := (hown.lt _ h).2; rw [HGE.out] at this; exact absurd this (Nat.lt_irrefl _))
      obtain ⟨cg, fg, zg⟩ := blk_facts hg
      go_cut [61] from 46 to 192 (fun s61 wx => s61 = .bool (decide (0 ≤ wh ∧ 0 < told.length)) ∧ Below u.heap.size u wx)
      case first =>
        by_cases hw0 : 0 ≤ wh
        · by_cases hw1 : 0 < told.length
          · have e1 : decide (0 ≤ wh ∧ 0 < told.length) = true := decide_eq_true ⟨hw0, hw1⟩
            go_wp2_with fail
            go_meet
            go_split_ands
            exact ⟨by rw [e1], Below.refl _ _⟩
          · have e1 : decide (0 ≤ wh ∧ 0 < told.length) = false := decide_eq_false (fun h => hw1 h.2)
            have hw2 : told.length = 0 := by omega
            go_wp2_with fail
            go_meet
            go_split_ands
            exact ⟨by rw [e1], Below.refl _ _⟩
        · have e1 : decide (0 ≤ wh ∧ 0 < told.length) = false := decide_eq_false (fun h => hw0 h.1)
          have hw2 : wh < 0 := by omega
          go_wp2_with fail
          go_meet
          go_split_ands
          exact ⟨by rw [e1], Below.refl _ _⟩
      case rest =>
      obtain ⟨rfl, hBx⟩ := hcut
      have hg1 := heap_below hBx zg hg
      have d2 := (hBx.cell (p := ⟨ab, ao + k * 5 + 2, none⟩) hb1a).trans d2a
      have hb1 := Nat.lt_of_lt_of_le hb1a hBx.size
      have hBu : Below wr.heap.size wr wc := hBa.trans (hBx.mono hBa.size)
      clear hg cg fg zg d2a hb1a hBx hBa
      obtain ⟨u1, hwc⟩ : ∃ wq, wq = wc := ⟨_, rfl⟩
      subst hwc
      obtain ⟨cg, fg, zg⟩ := blk_facts hg1
      have ho1 := own_below hown hBu
      go_upto_if 61 with fail
      go_cut [11] from 46 to 192 (fun s11 wx => s11 = .pointer (some ⟨g, 0, none⟩) ∧ RefIs wx g ∧ Below wr.heap.size wr wx)
      case first =>
        by_cases hw : 0 ≤ wh ∧ 0 < told.length
        · obtain ⟨hw0, hw1⟩ := hw
          obtain ⟨j, hj⟩ : ∃ j : Nat, wh % (told.length : Int) = j := ⟨(wh % (told.length : Int)).toNat, (Int.toNat_of_nonneg (Int.emod_nonneg wh (by omega))).symm⟩
          have hjl : j < told.length := by have h9 := Int.emod_lt_of_pos wh (b := (told.length : Int)) (by omega); rw [hj] at h9; omega
          obtain ⟨b7, rfl, hb7, hb7l, e0, e1⟩ := own_ref ho1 hjl
          have htl : (0 : Int) < (told.length : Int) := by omega
          go_wp2_with fail
          go_meet
          go_split_ands
          exact ⟨rfl, ⟨_, _, heap_set_row2 hg1 rfl⟩, (hBu.setCell (p := ⟨g, 0, none⟩) (by show wr.heap.size ≤ g; rw [HGE.out]; exact Nat.le_refl _) _).setCell (p := ⟨g, 1, none⟩) (by show wr.heap.size ≤ g; rw [HGE.out]; exact Nat.le_refl _) _⟩
        · go_wp2_with fail
          go_meet
          go_split_ands
          exact ⟨rfl, ⟨_, _, hg1⟩, hBu⟩
      case rest =>
      obtain ⟨rfl, ⟨sl, tn, hg2⟩, hBx⟩ := hcut
      obtain ⟨u2, hwc⟩ : ∃ wq, wq = wc := ⟨_, rfl⟩
      subst hwc
      have hB2 := below_next (w := w) hB hBx
      have HP2 := Lib.hid (HPl.out.below hBx)
      have yu := hBx.size
      clear hg1 cg fg zg d2 hb1 hBu ho1 hB HPl hown
      obtain ⟨cg, fg, zg⟩ := blk_facts hg2
      have hb1 := Nat.lt_of_lt_of_le hab hB2.size
      have d0 := (hB2.cell (p := ⟨ab, ao + k * 5, none⟩) hab).trans D0.out
      have d1 := (hB2.cell (p := ⟨ab, ao + k * 5 + 1, none⟩) hab).trans D1.out
      obtain rfl := HLN.out
      go_upto_block 2 with fail
      go_cut [8, 9, 12, 13, 14, 15, 16, 17, 18] from 46 to 192 (fun s8 s9 s12 s13 s14 s15 s16 s17 s18 wx => St wx w1.heap.size P L l.length (k + 1) s8 s9 ∧ wx.heap[g]? = some (.cells #[.int .i64 sl, .int .u32 tn] 31 (0, 0)) ∧ Below w.heap.size w wx)
      case first =>
        obtain ⟨_, _, _, hX, hT, hlv, htk, hAt, hRAt, hown⟩ := HP2.out
        have hT6 : ∀ s ∈ l, 0 ≤ s.turn ∧ s.turn ≤ 1000000 := fun s hs => by have := hT s hs; omega
        have hl64 : l.length ≤ 64 := by omega
        have hll := usedRefs_le l l.length
        have lv0 : -1000 ≤ live := by omega
        have lv1 : live ≤ 1000 := by omega
        have hgP : g ≠ P := fun e => by subst e; have := hAt.p; rw [hg2] at this; simp at this
        have hgL : g ≠ L := fun e => by subst e; have := hAt.l; rw [hg2] at this; simp at this
        have T6 := Lib.hid (And.intro hT6 (And.intro hT (And.intro hX hlv)))
        have A2 := Lib.hid hAt
        have R2 := Lib.hid hRAt
        have O2 := Lib.hid hown
        clear hT6 hT hX hlv hAt hRAt hown HP2
        by_cases htake : kd = 0 ∨ kd = 1
        · rcases first_free l with ⟨i, hi, hf, hlow⟩ | hall
          · obtain ⟨tu, htu⟩ : ∃ tu, l[i].turn = tu := ⟨_, rfl⟩
            have htb := T6.out.2.1 _ (List.getElem_mem hi)
            rw [htu] at htb
            have HTB := Lib.hid htb; clear htb
            have HTU := Lib.hid htu
            have hr := take_r_some u2 A8 c8 l x R2.out T6.out.2.2.1 hl64 T6.out.1 i hi hf hlow tu htu
            have ha : ∀ W, At W P L 62 65 l live → _ := fun W hW => take_i W P L l live x hW hl64 T6.out.1 lv0 lv1 i hi hf hlow
            rw [htu] at ha
            have HR := Lib.hid hr; clear hr
            have HA := Lib.hid ha; clear ha
            have HF := Lib.hid hf
            clear hlow htu hf
            rcases htake with rfl | rfl
            · go_wp2_with fail
              with_reducible refine HR.out.mono ?_
              rintro e w3 ⟨⟨A3, c3, rfl, hR3⟩, hb3⟩
              have hg3 := heap_below hb3 zg hg2
              have hA3 := A2.out.below hb3
              have ho3 := own_below O2.out hb3
              have hB3 := below_next (w := w) hB2 hb3
              have e1 := (hB3.cell (p := ⟨ab, ao + k * 5 + 1, none⟩) hab).trans D1.out
              have hb31 := Nat.lt_of_lt_of_le hab hB3.size
              have y3 := hB3.size
              have zP3 := blk_lt hA3.p
              have zL3 := blk_lt hA3.l
              clear hg2 cg fg zg d0 d1 hb1
              obtain ⟨cg, fg, zg⟩ := blk_facts hg3
              go_wp2_with fail
              with_reducible refine (HA.out _ (hA3.alloc _)).mono ?_
              rintro e w5 ⟨rfl, hA5, hT5⟩
              have hg5 := turned_block hT5 (heap_alloc_old' hg3) hgP hgL
              have ho5 := turned_own hT5 (ho3.alloc _) (hA3.alloc _) (by decide) (by decide)
              have hR5 := rat_turned (rat_alloc hR3 _) hT5 (hA3.alloc _)
              have h13 := turned_block hT5 (heap_alloc_new w3 _ _ rfl) (by omega) (by omega)
              have hB5 : Below w.heap.size w w5 := turned_below (Below.alloc hB3 hB3.size _) hT5 (by omega) (by omega) (by rw [size_alloc]; omega)
              have y5 := hB5.size
              have z135 := blk_lt h13
              have y15 : w1.heap.size ≤ w5.heap.size := by have := blk_lt hA5.p; omega
              clear hg3 cg fg zg hA3 ho3 hR3 hT5 hB3 e1 hb31
              obtain ⟨cg, fg, zg⟩ := blk_facts hg5
              obtain ⟨c13, f13, z13⟩ := blk_facts h13
              go_wp2_with (first
                | ((at_builtin; refine wpList_append_own _ rfl (.tmp 113) (.tmp 115) 26 rfl w1.heap.size 31 i1 ((.agg #[.int .i64 0, .int .u32 0])) 2 16 Try.underlying26 gi gz0 gz1 gz2 rfl (by decide) _ _ _ rfl ((ho5.alloc _).alloc _) ⟨(w5.heap.size + 1), 0, none⟩ 1 1 [.int .i64 i, .int .u32 (tu + 1)] rfl rfl (new_cells (by simp)) (one_cells rfl) (by unfold maxLen; first | omega | (simp only [List.length_append, List.length_cons]; omega)) (by first | omega | (simp only [List.length_append, List.length_cons]; omega)) (by have := hB5.size; first | omega | (simp; omega)) ?_; intro v7 w7 ho7 hg7 _)
                   have ho8 : w7.ownsRow w1.heap.size 31 2 v7 (told.length + 1) (refCells (told ++ [((i : Int), tu + 1)])) := by simpa [refCells] using ho7
                   clear ho7
                   obtain ⟨A7, c7, rfl⟩ := own_slice ho8
                   have hA7 := ((hA5.alloc _).alloc _).grown ((ho5.alloc _).alloc _) hg7 (by decide) (by decide)
                   have hR7 := rat_grown (rat_alloc (rat_alloc hR5 _) _) ((ho5.alloc _).alloc _) hg7
                   have hg8 := (hg7.block g (by rw [size_alloc, size_alloc]; omega) (fun h => HNE.out (by have h2 : some g = (Value.slice A9 told.length c9).ownBlock := h; exact h2.symm))).trans (heap_alloc_old' (heap_alloc_old' hg5))
                   have hB7 : Below w.heap.size w w7 := below_grown (Below.alloc (Below.alloc hB5 hB5.size _) (by rw [size_alloc]; omega) _) (by rw [size_alloc, size_alloc]; omega) (own_mono ((ho5.alloc _).alloc _) y1) hg7))
              go_meet
              go_split_ands
              exact ⟨⟨l.set i ⟨.int .i64 x, tu + 1, true⟩, live + 1, told ++ [((i : Int), tu + 1)], A3, c3, A7, c7, rfl, by simp, by simp, T6.out.2.2.1.set i x (tu + 1) true, take_wf T6.out.2.1 HTB.out.1 HTB.out.2, by rw [live_take hi HF.out]; have := T6.out.2.2.2; push_cast; omega, by rw [List.length_append, List.length_singleton]; omega, hA7, hR7, by simpa using ho8⟩, hg8, hB7⟩
            · go_wp2_with fail
              with_reducible refine HR.out.mono ?_
              rintro e w3 ⟨⟨A3, c3, rfl, hR3⟩, hb3⟩
              have hg3 := heap_below hb3 zg hg2
              have hA3 := A2.out.below hb3
              have ho3 := own_below O2.out hb3
              have hB3 := below_next (w := w) hB2 hb3
              have e1 := (hB3.cell (p := ⟨ab, ao + k * 5 + 1, none⟩) hab).trans D1.out
              have hb31 := Nat.lt_of_lt_of_le hab hB3.size
              have y3 := hB3.size
              have zP3 := blk_lt hA3.p
              have zL3 := blk_lt hA3.l
              clear hg2 cg fg zg d0 d1 hb1
              obtain ⟨cg, fg, zg⟩ := blk_facts hg3
              go_wp2_with fail
              with_reducible refine (HA.out _ (hA3.alloc _)).mono ?_
              rintro e w5 ⟨rfl, hA5, hT5⟩
              have hg5 := turned_block hT5 (heap_alloc_old' hg3) hgP hgL
              have ho5 := turned_own hT5 (ho3.alloc _) (hA3.alloc _) (by decide) (by decide)
              have hR5 := rat_turned (rat_alloc hR3 _) hT5 (hA3.alloc _)
              have h13 := turned_block hT5 (heap_alloc_new w3 _ _ rfl) (by omega) (by omega)
              have hB5 : Below w.heap.size w w5 := turned_below (Below.alloc hB3 hB3.size _) hT5 (by omega) (by omega) (by rw [size_alloc]; omega)
              have y5 := hB5.size
              have z135 := blk_lt h13
              have y15 : w1.heap.size ≤ w5.heap.size := by have := blk_lt hA5.p; omega
              clear hg3 cg fg zg hA3 ho3 hR3 hT5 hB3 e1 hb31
              obtain ⟨cg, fg, zg⟩ := blk_facts hg5
              obtain ⟨c13, f13, z13⟩ := blk_facts h13
              go_wp2_with (first
                | ((at_builtin; refine wpList_append_own _ rfl (.tmp 113) (.tmp 115) 26 rfl w1.heap.size 31 i1 ((.agg #[.int .i64 0, .int .u32 0])) 2 16 Try.underlying26 gi gz0 gz1 gz2 rfl (by decide) _ _ _ rfl ((ho5.alloc _).alloc _) ⟨(w5.heap.size + 1), 0, none⟩ 1 1 [.int .i64 i, .int .u32 (tu + 1)] rfl rfl (new_cells (by simp)) (one_cells rfl) (by unfold maxLen; first | omega | (simp only [List.length_append, List.length_cons]; omega)) (by first | omega | (simp only [List.length_append, List.length_cons]; omega)) (by have := hB5.size; first | omega | (simp; omega)) ?_; intro v7 w7 ho7 hg7 _)
                   have ho8 : w7.ownsRow w1.heap.size 31 2 v7 (told.length + 1) (refCells (told ++ [((i : Int), tu + 1)])) := by simpa [refCells] using ho7
                   clear ho7
                   obtain ⟨A7, c7, rfl⟩ := own_slice ho8
                   have hA7 := ((hA5.alloc _).alloc _).grown ((ho5.alloc _).alloc _) hg7 (by decide) (by decide)
                   have hR7 := rat_grown (rat_alloc (rat_alloc hR5 _) _) ((ho5.alloc _).alloc _) hg7
                   have hg8 := (hg7.block g (by rw [size_alloc, size_alloc]; omega) (fun h => HNE.out (by have h2 : some g = (Value.slice A9 told.length c9).ownBlock := h; exact h2.symm))).trans (heap_alloc_old' (heap_alloc_old' hg5))
                   have hB7 : Below w.heap.size w w7 := below_grown (Below.alloc (Below.alloc hB5 hB5.size _) (by rw [size_alloc]; omega) _) (by rw [size_alloc, size_alloc]; omega) (own_mono ((ho5.alloc _).alloc _) y1) hg7))
              go_meet
              go_split_ands
              exact ⟨⟨l.set i ⟨.int .i64 x, tu + 1, true⟩, live + 1, told ++ [((i : Int), tu + 1)], A3, c3, A7, c7, rfl, by simp, by simp, T6.out.2.2.1.set i x (tu + 1) true, take_wf T6.out.2.1 HTB.out.1 HTB.out.2, by rw [live_take hi HF.out]; have := T6.out.2.2.2; push_cast; omega, by rw [List.length_append, List.length_singleton]; omega, hA7, hR7, by simpa using ho8⟩, hg8, hB7⟩
          · rcases htake with rfl | rfl
            · go_wp2_with fail
              with_reducible refine (take_r_full u2 A8 c8 l x R2.out hl64 hall).mono ?_
              rintro e w3 ⟨⟨A3, c3, rfl, hR3⟩, hb3⟩
              have hg3 := heap_below hb3 zg hg2
              have hA3 := A2.out.below hb3
              have ho3 := own_below O2.out hb3
              have hB3 := below_next (w := w) hB2 hb3
              have e1 := (hB3.cell (p := ⟨ab, ao + k * 5 + 1, none⟩) hab).trans D1.out
              have hb31 := Nat.lt_of_lt_of_le hab hB3.size
              have y3 := hB3.size
              have zP3 := blk_lt hA3.p
              have zL3 := blk_lt hA3.l
              clear hg2 cg fg zg d0 d1 hb1
              obtain ⟨cg, fg, zg⟩ := blk_facts hg3
              go_wp2_with fail
              with_reducible refine (take_full_i _ P L l live x (hA3.alloc _) hl64 hall).mono ?_
              rintro e w5 ⟨rfl, hb5⟩
              have hg5 := heap_below hb5 (by rw [size_alloc]; omega) (heap_alloc_old' hg3)
              have ho5 := own_below (ho3.alloc _) hb5
              have hR5 := (rat_alloc hR3 _).below hb5
              have hA5 := (hA3.alloc _).below hb5
              have h13 := heap_below hb5 (by rw [size_alloc]; omega) (heap_alloc_new w3 _ _ rfl)
              have hB5 : Below w.heap.size w w5 := below_next (w := w) (Below.alloc hB3 hB3.size _) hb5
              clear hg3 cg fg zg hA3 ho3 hR3 hb5 hB3 e1 hb31
              obtain ⟨cg, fg, zg⟩ := blk_facts hg5
              obtain ⟨c13, f13, z13⟩ := blk_facts h13
              go_wp2_with fail
              go_meet
              go_split_ands
              exact ⟨⟨l, live, told, A3, c3, A9, c9, rfl, rfl, rfl, T6.out.2.2.1, more_wf T6.out.2.1, T6.out.2.2.2, by omega, hA5.alloc _, rat_alloc hR5 _, ho5.alloc _⟩, heap_alloc_old' hg5, Below.alloc hB5 hB5.size _⟩
            · go_wp2_with fail
              with_reducible refine (take_r_full u2 A8 c8 l x R2.out hl64 hall).mono ?_
              rintro e w3 ⟨⟨A3, c3, rfl, hR3⟩, hb3⟩
              have hg3 := heap_below hb3 zg hg2
              have hA3 := A2.out.below hb3
              have ho3 := own_below O2.out hb3
              have hB3 := below_next (w := w) hB2 hb3
              have e1 := (hB3.cell (p := ⟨ab, ao + k * 5 + 1, none⟩) hab).trans D1.out
              have hb31 := Nat.lt_of_lt_of_le hab hB3.size
              have y3 := hB3.size
              have zP3 := blk_lt hA3.p
              have zL3 := blk_lt hA3.l
              clear hg2 cg fg zg d0 d1 hb1
              obtain ⟨cg, fg, zg⟩ := blk_facts hg3
              go_wp2_with fail
              with_reducible refine (take_full_i _ P L l live x (hA3.alloc _) hl64 hall).mono ?_
              rintro e w5 ⟨rfl, hb5⟩
              have hg5 := heap_below hb5 (by rw [size_alloc]; omega) (heap_alloc_old' hg3)
              have ho5 := own_below (ho3.alloc _) hb5
              have hR5 := (rat_alloc hR3 _).below hb5
              have hA5 := (hA3.alloc _).below hb5
              have h13 := heap_below hb5 (by rw [size_alloc]; omega) (heap_alloc_new w3 _ _ rfl)
              have hB5 : Below w.heap.size w w5 := below_next (w := w) (Below.alloc hB3 hB3.size _) hb5
              clear hg3 cg fg zg hA3 ho3 hR3 hb5 hB3 e1 hb31
              obtain ⟨cg, fg, zg⟩ := blk_facts hg5
              obtain ⟨c13, f13, z13⟩ := blk_facts h13
              go_wp2_with fail
              go_meet
              go_split_ands
              exact ⟨⟨l, live, told, A3, c3, A9, c9, rfl, rfl, rfl, T6.out.2.2.1, more_wf T6.out.2.1, T6.out.2.2.2, by omega, hA5.alloc _, rat_alloc hR5 _, ho5.alloc _⟩, heap_alloc_old' hg5, Below.alloc hB5 hB5.size _⟩
        · have hk0 : ¬ kd = 0 := fun h => htake (.inl h)
          have hk1 : ¬ kd = 1 := fun h => htake (.inr h)
          by_cases hk2 : kd = 2
          · subst hk2
            cases haf : atF l sl tn with
            | none =>
              have HAF := Lib.hid haf; clear haf
              go_wp2_with fail
              with_reducible refine (free_r_none u2 A8 c8 l sl tn R2.out hl64 HAF.out).mono ?_
              rintro e w3 ⟨⟨A3, c3, rfl, hR3⟩, hb3⟩
              have hg3 := heap_below hb3 zg hg2
              have hA3 := A2.out.below hb3
              have ho3 := own_below O2.out hb3
              have hB3 := below_next (w := w) hB2 hb3
              have e1 := (hB3.cell (p := ⟨ab, ao + k * 5 + 1, none⟩) hab).trans D1.out
              have hb31 := Nat.lt_of_lt_of_le hab hB3.size
              have y3 := hB3.size
              have zP3 := blk_lt hA3.p
              have zL3 := blk_lt hA3.l
              clear hg2 cg fg zg d0 d1 hb1
              obtain ⟨cg, fg, zg⟩ := blk_facts hg3
              go_wp2_with fail
              with_reducible refine (free_none_i w3 P L l live sl tn hA3 hl64 HAF.out).mono ?_
              rintro e w5 ⟨rfl, hb5⟩
              have hB5 := below_next (w := w) hB3 hb5
              go_wp2_with fail
              go_meet
              go_split_ands
              exact ⟨⟨l, live, told, A3, c3, A9, c9, rfl, rfl, rfl, T6.out.2.2.1, more_wf T6.out.2.1, T6.out.2.2.2, by omega, hA3.below hb5, hR3.below hb5, own_below ho3 hb5⟩, heap_below hb5 zg hg3, hB5⟩
            | some i =>
              obtain ⟨hsl, hi, hu, htn⟩ := atF_some haf
              obtain ⟨x0, hx0⟩ := T6.out.2.2.1 _ (List.getElem_mem hi)
              have htb := T6.out.2.1 _ (List.getElem_mem hi)
              rw [htn] at htb
              have HTB := Lib.hid htb; clear htb
              have HU := Lib.hid (And.intro hu hx0); clear hu htn hx0 hsl
              have HAF := Lib.hid haf; clear haf
              go_wp2_with fail
              with_reducible refine (free_r_some u2 A8 c8 l sl tn x0 i R2.out T6.out.2.2.1 hl64 HAF.out (fun _ => HU.out.2)).mono ?_
              rintro e w3 ⟨⟨A3, c3, rfl, hR3⟩, hb3⟩
              have hg3 := heap_below hb3 zg hg2
              have hA3 := A2.out.below hb3
              have ho3 := own_below O2.out hb3
              have hB3 := below_next (w := w) hB2 hb3
              have e1 := (hB3.cell (p := ⟨ab, ao + k * 5 + 1, none⟩) hab).trans D1.out
              have hb31 := Nat.lt_of_lt_of_le hab hB3.size
              have y3 := hB3.size
              have zP3 := blk_lt hA3.p
              have zL3 := blk_lt hA3.l
              clear hg2 cg fg zg d0 d1 hb1
              obtain ⟨cg, fg, zg⟩ := blk_facts hg3
              go_wp2_with fail
              with_reducible refine (free_some_i w3 P L l live sl tn i hA3 hl64 lv0 lv1 HAF.out).mono ?_
              rintro e w5 ⟨rfl, hA5, hT5⟩
              have hB5 : Below w.heap.size w w5 := turned_below hB3 hT5 (by omega) (by omega) (by omega)
              go_wp2_with fail
              go_meet
              go_split_ands
              exact ⟨⟨l.set i ⟨.int .i64 0, tn, false⟩, live - 1, told, A3, c3, A9, c9, rfl, rfl, by simp, T6.out.2.2.1.set i 0 tn false, more_wf (free_wf T6.out.2.1 HTB.out.1 HTB.out.2), by have h1 := live_free hi HU.out.1 (.int .i64 0) tn; have := T6.out.2.2.2; omega, by omega, hA5, rat_turned hR3 hT5 hA3, turned_own hT5 ho3 hA3 (by decide) (by decide)⟩, turned_block hT5 hg3 hgP hgL, hB5⟩
          · go_wp2_with fail
            go_meet
            go_split_ands
            exact ⟨⟨l, live, told, A8, c8, A9, c9, rfl, rfl, rfl, T6.out.2.2.1, more_wf T6.out.2.1, T6.out.2.2.2, by omega, A2.out, R2.out, O2.out⟩, hg2, hB2⟩
      case rest =>
      obtain ⟨⟨l', live', told', A8', c8', A9', c9', hPl⟩, hg3, hB3⟩ := hcut
      obtain ⟨rfl, rfl, hln, hX, hT, hlv, htk, hAt, hRAt, hown⟩ := hPl
      clear hg2 cg fg zg hB2 HP2 hb1 d0 d1 yu hBx
      obtain ⟨u3, hwc⟩ : ∃ wq, wq = wc := ⟨_, rfl⟩
      subst hwc
      obtain ⟨cg, fg, zg⟩ := blk_facts hg3
      have HLN2 := Lib.hid hln
      have hl64 : l'.length ≤ 64 := by omega
      have hll := usedRefs_le l' l'.length
      have HLV := Lib.hid hlv
      obtain ⟨x0, k0, hget, hgetr⟩ : ∃ x0 k0 : Int, (∀ W, At W P L 62 65 l' live' → Calls Try.prog 11 #[.pointer (some ⟨P, 0, none⟩), .agg #[.int .i64 sl, .int .u32 tn]] W fun e w' => e = .returned (.tuple #[.int .i64 x0, .int .i64 k0]) ∧ Below W.heap.size W w') ∧
          (∀ W, RAt W A8' l' → Calls Try.prog 14 #[.slice A8' l.length c8', .agg #[.int .i64 sl, .int .u32 tn]] W fun e w' => e = .returned (.tuple #[.int .i64 x0, .int .i64 k0]) ∧ Below W.heap.size W w') := by
        cases haf : atF l' sl tn with
        | none => exact ⟨0, 26, fun W h => get_none_i W P L l' live' sl tn h hl64 haf, fun W h => by rw [← hln]; exact get_r_none W A8' c8' l' sl tn h hl64 haf⟩
        | some i =>
          obtain ⟨_, hi, _, _⟩ := atF_some haf
          obtain ⟨x1, hx1⟩ := hX _ (List.getElem_mem hi)
          exact ⟨x1, 0, fun W h => get_some_i W P L l' live' sl tn x1 i h hl64 haf (fun _ => hx1), fun W h => by rw [← hln]; exact get_r_some W A8' c8' l' sl tn x1 i h hl64 haf (fun _ => hx1)⟩
      have HG := Lib.hid (And.intro hget hgetr)
      have HXT := Lib.hid (And.intro hX hT)
      have RA := Lib.hid hRAt
      have AA := Lib.hid hAt
      have OO := Lib.hid hown
      clear hget hgetr hX hT hRAt hAt hown
      obtain ⟨tot, htot⟩ : ∃ tot, (usedRefs l' l'.length).length = tot := ⟨_, rfl⟩
      rw [htot] at hlv hll
      subst hlv
      have HTOT := Lib.hid htot; clear htot
      have hl65 : l.length ≤ 64 := by omega
      have htl : tot ≤ l.length := by omega
      clear hln HLV
      go_wp2_with fail
      with_reducible refine (HG.out.1 _ AA.out).mono ?_
      rintro e w4 ⟨rfl, hb⟩
      have hB4 := below_next (w := w) hB3 hb
      have hg4 := heap_below hb zg hg3
      have A4 := Lib.hid (AA.out.below hb)
      have R4 := Lib.hid (RA.out.below hb)
      have O4 := Lib.hid (own_below OO.out hb)
      clear hB3 hg3 cg fg zg AA RA OO hb
      obtain ⟨cg, fg, zg⟩ := blk_facts hg4
      go_wp2_with fail
      with_reducible refine (HG.out.2 _ R4.out).mono ?_
      rintro e w5 ⟨rfl, hb⟩
      have hB5 := below_next (w := w) hB4 hb
      have A5 := Lib.hid (A4.out.below hb)
      have R5 := Lib.hid (R4.out.below hb)
      have O5 := Lib.hid (own_below O4.out hb)
      clear hB4 hg4 cg fg zg A4 R4 O4 hb HG
      go_wp2_with fail
      with_reducible refine (refs_i w5 P L l' (tot : Int) A5.out hl64).mono ?_
      rintro e w6 ⟨A24, c24, rfl, ho, hb⟩
      rw [HTOT.out] at ho ⊢
      have O24 := Lib.hid ho
      have hB6 := below_next (w := w) hB5 hb
      have A6 := Lib.hid (A5.out.below hb)
      have R6 := Lib.hid (R5.out.below hb)
      have O6 := Lib.hid (own_below O5.out hb)
      clear hB5 A5 R5 O5 hb ho
      go_wp2_with fail
      go_loopw [23, 25] (fun q i wx => ∃ m t : Nat, m ≤ l.length ∧ i = .int .i64 m ∧ q = .int .i64 t ∧ t ≤ m ∧ Hid ((usedRefs l' m).length = t) ∧ Below w6.heap.size w6 wx) (fun _ i _ => l.length - (intOf i).toNat)
      case atStart => exact ⟨0, 0, by omega, rfl, rfl, by omega, Lib.hid rfl, by first | (with_reducible exact Below.refl _ _) | go_grown⟩
      case round =>
        obtain ⟨m, t, hm, rfl, rfl, htm, HT, hbx⟩ := hrel
        by_cases hml : m < l.length
        · have hml' : m < l'.length := by rw [HLN2.out]; exact hml
          obtain ⟨b, o, cur, rfl, hh, hcc⟩ := R6.out.below hbx
          obtain ⟨g0, g1, g2⟩ := cellsF_get l' m hml'
          have e1 := ((blk_facts hh).1 (o + (m * 3 + 1))).trans (hcc _ _ g1)
          have e2 := ((blk_facts hh).1 (o + (m * 3 + 2))).trans (hcc _ _ g2)
          rw [← Nat.add_assoc] at e1 e2
          have zb := blk_lt hh
          clear hcc g0 g1 g2 hh
          have hsucc := Lib.hid (usedRefs_succ l' m hml')
          have hnext := Lib.hid (refs_next (l := l') hml')
          cases hu : l'[m].used with
          | false =>
            have HT2 : Hid ((usedRefs l' (m + 1)).length = t) := Lib.hid (by rw [hsucc.out, hu]; simpa using HT.out)
            rw [hu] at e2
            clear hu hnext hsucc e1
            go_wp2_with fail
            go_roundw
            case rel => exact ⟨m + 1, t, by omega, by go_num, rfl, by omega, HT2, hbx⟩
            case measure => simp [intOf]; omega
          | true =>
            have HT2 : Hid ((usedRefs l' (m + 1)).length = t + 1) := Lib.hid (by rw [hsucc.out, hu]; simp [HT.out])
            obtain ⟨n1, n2⟩ := hnext.out hu
            rw [HT.out, HTOT.out] at n1
            rw [HT.out] at n2
            rw [hu] at e2
            obtain ⟨b24, rfl, _, zb24, f0, f1⟩ := own_ref (own_below O24.out hbx) n1
            rw [n2] at f0 f1
            dsimp only at f0 f1
            clear hu hnext hsucc n2
            generalize l'[m].turn = tu at e1 f1
            have hd : decide (tot ≤ t) = false := decide_eq_false (by omega)
            have hd2 : decide ((tot : Int) ≤ (t : Int)) = false := decide_eq_false (by omega)
            go_wp2_with fail
            (try go_quiet (fail))
            go_wp2_with fail
            go_roundw
            case rel => exact ⟨m + 1, t + 1, by omega, by go_num, by go_num, by omega, HT2, by first | exact hbx | exact below_drewN hbx _ | exact below_drew' hbx⟩
            case measure => simp [intOf]; omega
        · have hme : m = l.length := by omega
          have hte : t = tot := by rw [← HT.out, ← HTOT.out, hme, HLN2.out]
          subst hte
          have hBy := below_next (w := w) hB6 hbx
          go_wp2_with (first | (go_at_call 16; (with_reducible refine (live_i _ P L l' (t : Int) (A6.out.below hbx)).mono ?_); rintro e w9 ⟨rfl, rfl⟩))
          go_roundw
          case rel => exact ⟨k + 1, by omega, by go_num, ⟨l', (t : Int), told', A8', c8', A9', c9', rfl, rfl, HLN2.out, HXT.out.1, HXT.out.2, by rw [HTOT.out], htk, A6.out.below hbx, R6.out.below hbx, own_below O6.out hbx⟩, hBy⟩
          case measure => simp [intOf]; omega
    · go_wp2_with fail
      go_ret
      exact ⟨rfl, hB⟩
end Go.Proofs.Ytdedbiacelgleaa
