/- Numbers of packets that are sent on; no program in sight. -/
import Derived.Test.YtidpkmabcndknaaFar
namespace Go.Proofs.Ytidpkmabcndknaa
set_option linter.unusedSimpArgs false
set_option linter.unusedVariables false
@[ext] structure Nu where
  seq : Int
  time : Int
  pic : Int
  tl0 : Int
deriving DecidableEq
@[ext] structure St where
  on : Bool
  high : Int
  since : Int
  off : Nu
  out : Nu
deriving DecidableEq
def nu0 : Nu := ⟨0, 0, 0, 0⟩
def st0 : St := ⟨false, 0, 0, nu0, nu0⟩
structure Nu.Ok (n : Nu) : Prop where
  s0 : 0 ≤ n.seq
  s1 : n.seq ≤ 65535
  t0 : 0 ≤ n.time
  t1 : n.time ≤ 4294967295
  p0 : 0 ≤ n.pic
  p1 : n.pic ≤ 65535
  l0 : 0 ≤ n.tl0
  l1 : n.tl0 ≤ 255
structure St.Ok (s : St) (B : Int) : Prop where
  h0 : -B ≤ s.high
  h1 : s.high ≤ B
  off : s.off.Ok
  out : s.out.Ok
/-- Numbers less others. -/
def fromF (n i : Nu) : Nu := ⟨(i.seq - n.seq) % 65536, (i.time - n.time) % 4294967296, (i.pic - n.pic) % 65536, (i.tl0 - n.tl0) % 256⟩
def nextF (n : Nu) (step : Int) : Nu := ⟨(n.seq + 1) % 65536, (n.time + step) % 4294967296, (n.pic + 1) % 65536, (n.tl0 + 1) % 256⟩
def toldF (s : St) (i : Nu) (step : Int) : Nu := if s.on then nextF s.out step else i
def switchF (s : St) (i : Nu) (step : Int) : St := ⟨true, i.seq, i.seq, fromF (toldF s i step) i, toldF s i step⟩
def nearF (s : St) (i : Nu) : Int := near16 s.high i.seq
/-- May it be sent? -/
def maySend (s : St) (i : Nu) : Bool := s.on && !(decide (nearF s i ≤ s.high) && decide (nearF s i ≤ s.since))
/-- Is it ahead? -/
def aheadF (s : St) (i : Nu) : Bool := decide (s.high < nearF s i)
def timeF (s : St) (i : Nu) : Int := if 0 < far32 (fromF s.off i).time s.out.time then s.out.time else (fromF s.off i).time
def outF (s : St) (i : Nu) : Nu := if aheadF s i then ⟨(fromF s.off i).seq, timeF s i, (fromF s.off i).pic, (fromF s.off i).tl0⟩ else fromF s.off i
def sendF (s : St) (i : Nu) : St × Nu × Bool :=
  if maySend s i then
    (if aheadF s i then (⟨s.on, nearF s i, s.since, s.off, outF s i⟩, outF s i, true) else (s, outF s i, true))
  else (s, nu0, false)
def dropOff (n : Nu) (begin_ : Bool) : Nu := ⟨(n.seq + 1) % 65536, n.time, if begin_ then (n.pic + 1) % 65536 else n.pic, n.tl0⟩
def dropF (s : St) (i : Nu) (begin_ : Bool) : St := if s.on && aheadF s i then ⟨s.on, nearF s i, nearF s i, dropOff s.off begin_, s.out⟩ else s

theorem ok0 : nu0.Ok := ⟨by decide, by decide, by decide, by decide, by decide, by decide, by decide, by decide⟩
theorem st0_ok (B : Int) (h : 0 ≤ B) : st0.Ok B := ⟨by show -B ≤ 0; omega, h, ok0, ok0⟩
theorem fromF_ok (n i : Nu) : (fromF n i).Ok := by constructor <;> simp only [fromF] <;> omega
theorem nextF_ok (n : Nu) (t : Int) : (nextF n t).Ok := by constructor <;> simp only [nextF] <;> omega
theorem toldF_ok {s : St} {i : Nu} {t : Int} (hi : i.Ok) : (toldF s i t).Ok := by unfold toldF; split; exact nextF_ok _ _; exact hi
theorem switchF_ok {s : St} {i : Nu} {t B : Int} (hi : i.Ok) (hB : 65535 ≤ B) : (switchF s i t).Ok B := by
  have := hi.s0; have := hi.s1
  exact ⟨by simp only [switchF]; omega, by simp only [switchF]; omega, fromF_ok _ _, toldF_ok hi⟩
theorem outF_ok {s : St} {i : Nu} (h : s.out.Ok) : (outF s i).Ok := by
  have hf := fromF_ok s.off i
  unfold outF
  split
  · refine ⟨hf.s0, hf.s1, ?_, ?_, hf.p0, hf.p1, hf.l0, hf.l1⟩
    · show 0 ≤ timeF s i
      unfold timeF; split; exact h.t0; exact hf.t0
    · show timeF s i ≤ 4294967295
      unfold timeF; split; exact h.t1; exact hf.t1
  · exact hf
theorem near_bd (s : St) (i : Nu) : s.high - 32768 ≤ nearF s i ∧ nearF s i ≤ s.high + 32767 := near16_bd _ _
theorem sendF_ok {s : St} {i : Nu} {B : Int} (h : s.Ok B) : (sendF s i).1.Ok (B + 65536) := by
  have hb := near_bd s i
  obtain ⟨h0, h1, h2, h3⟩ := h
  unfold sendF
  split
  · split
    · exact ⟨by dsimp; omega, by dsimp; omega, h2, outF_ok h3⟩
    · exact ⟨by dsimp; omega, by dsimp; omega, h2, h3⟩
  · exact ⟨by dsimp; omega, by dsimp; omega, h2, h3⟩
theorem dropOff_ok {n : Nu} {b : Bool} (h : n.Ok) : (dropOff n b).Ok := by
  obtain ⟨h1, h2, h3, h4, h5, h6, h7, h8⟩ := h
  constructor <;> simp only [dropOff] <;> (try split) <;> omega
theorem dropF_ok {s : St} {i : Nu} {b : Bool} {B : Int} (h : s.Ok B) : (dropF s i b).Ok (B + 65536) := by
  have hb := near_bd s i
  obtain ⟨h0, h1, h2, h3⟩ := h
  unfold dropF
  split
  · exact ⟨by dsimp; omega, by dsimp; omega, dropOff_ok h2, h3⟩
  · exact ⟨by omega, by omega, h2, h3⟩

/-! ### Way by way -/
theorem send_ways (s : St) (i : Nu) :
    (maySend s i = false ∧ sendF s i = (s, nu0, false)) ∨
    (maySend s i = true ∧ aheadF s i = false ∧ sendF s i = (s, fromF s.off i, true)) ∨
    (maySend s i = true ∧ aheadF s i = true ∧ sendF s i = (⟨s.on, nearF s i, s.since, s.off, outF s i⟩, outF s i, true)) := by
  unfold sendF
  cases h1 : maySend s i <;> cases h2 : aheadF s i <;> simp [h2, outF]
theorem drop_ways (s : St) (i : Nu) (b : Bool) :
    ((s.on && aheadF s i) = false ∧ dropF s i b = s) ∨ (s.on = true ∧ aheadF s i = true ∧ dropF s i b = ⟨true, nearF s i, nearF s i, dropOff s.off b, s.out⟩) := by
  unfold dropF
  cases h1 : s.on <;> cases h2 : aheadF s i <;> simp

/-! ### MungeOrder -/
/-- Of a stream that stands at z; the next one told is want. -/
structure Row (s : St) (z want : Int) : Prop where
  on : s.on = true
  high : s.high = z
  off : (z - s.off.seq - (want - 1)) % 65536 = 0
  out : (s.out.seq - (want - 1)) % 65536 = 0
theorem row_switch (s : St) (i : Nu) (t want : Int) (hi : i.Ok) (hs : s.on = true → (s.out.seq - (want - 1)) % 65536 = 0) (h0 : s.on = false → want = i.seq) (w0 : 0 ≤ want) (w1 : want ≤ 65535) :
    (toldF s i t).seq = want ∧ Row (switchF s i t) i.seq (want + 1) := by
  have hs0 := hi.s0
  have hs1 := hi.s1
  have e : (toldF s i t).seq = want := by
    unfold toldF
    split
    · rename_i h
      have := hs h
      show (s.out.seq + 1) % 65536 = want
      omega
    · rename_i h
      exact (h0 (by simpa using h)).symm
  refine ⟨e, rfl, rfl, ?_, ?_⟩
  · show (i.seq - ((i.seq - (toldF s i t).seq) % 65536) - (want + 1 - 1)) % 65536 = 0
    rw [e]; omega
  · show ((toldF s i t).seq - (want + 1 - 1)) % 65536 = 0
    rw [e]; omega
theorem row_ahead {s : St} {z want : Int} (h : Row s z want) (i : Nu) (hi : (i.seq - (z + 1)) % 65536 = 0) : nearF s i = z + 1 ∧ aheadF s i = true ∧ maySend s i = true := by
  have e : nearF s i = z + 1 := near16_of _ _ _ (by have := h.high; omega) (by have := h.high; omega) hi
  refine ⟨e, by unfold aheadF; rw [e, h.high]; simp; omega, ?_⟩
  unfold maySend
  rw [h.on, e, h.high]
  simp
  omega
theorem row_drop {s : St} {z want : Int} (h : Row s z want) (i : Nu) (hi : (i.seq - (z + 1)) % 65536 = 0) (b : Bool) : Row (dropF s i b) (z + 1) want := by
  obtain ⟨h1, h2, h3⟩ := row_ahead h i hi
  have := h.off
  unfold dropF
  rw [if_pos (by rw [h.on, h2]; rfl)]
  refine ⟨h.on, h1, ?_, h.out⟩
  show (z + 1 - (s.off.seq + 1) % 65536 - (want - 1)) % 65536 = 0
  omega
theorem row_send {s : St} {z want : Int} (h : Row s z want) (i : Nu) (hi : (i.seq - (z + 1)) % 65536 = 0) (w0 : 0 ≤ want) (w1 : want ≤ 65535) :
    (sendF s i).2.2 = true ∧ (sendF s i).2.1.seq = want ∧ Row (sendF s i).1 (z + 1) (want + 1) := by
  obtain ⟨h1, h2, h3⟩ := row_ahead h i hi
  have ho := h.off
  have e : (outF s i).seq = want := by
    unfold outF
    rw [if_pos h2]
    show (i.seq - s.off.seq) % 65536 = want
    omega
  unfold sendF
  rw [if_pos h3, if_pos h2]
  refine ⟨rfl, e, h.on, h1, ?_, ?_⟩
  · show (z + 1 - s.off.seq - (want + 1 - 1)) % 65536 = 0
    omega
  · show ((outF s i).seq - (want + 1 - 1)) % 65536 = 0
    rw [e]; omega
theorem Row.wrap {s : St} {z want w' : Int} (h : Row s z want) (hw : (w' - want) % 65536 = 0) : Row s z w' :=
  ⟨h.on, h.high, by have := h.off; omega, by have := h.out; omega⟩

/-! ### MungeOnce -/
/-- What was told lies below what changed last, or is of what came since. -/
structure Unique (s : St) (f D : Int) (Z T : List Int) (k : Nat) : Prop where
  on : s.on = true
  off : (s.off.seq - D) % 65536 = 0
  D0 : 0 ≤ D
  D1 : D ≤ k
  lo : f ≤ s.high
  hi : s.high ≤ f + 128 * k
  sh : s.since ≤ s.high
  zs : ∀ z ∈ Z, f - 128 * k ≤ z ∧ z ≤ f + 128 * k
  ts : ∀ t ∈ T, f - 129 * k ≤ t ∧ t ≤ f + 128 * k
  told : ∀ t ∈ T, t ≤ s.since - D ∨ (t + D ∈ Z ∧ s.since < t + D)
theorem unique_start (i : Nu) (hi : i.Ok) (s : St) (hs : s.on = false) (t : Int) : Unique (switchF s i t) i.seq 0 [i.seq] [i.seq] 0 ∧ (toldF s i t).seq = i.seq := by
  have e : toldF s i t = i := by unfold toldF; rw [if_neg (by simp [hs])]
  refine ⟨⟨rfl, ?_, by omega, by simp, by simp [switchF], by simp [switchF], by simp [switchF], by simp, by simp, ?_⟩, by rw [e]⟩
  · show ((i.seq - (toldF s i t).seq) % 65536 - 0) % 65536 = 0
    rw [e]
    omega
  · intro t ht
    simp at ht
    subst ht
    left
    show i.seq ≤ i.seq - 0
    omega
theorem Unique.more {s : St} {f D : Int} {Z T : List Int} {k : Nat} (h : Unique s f D Z T k) : Unique s f D Z T (k + 1) := by
  refine ⟨h.on, h.off, h.D0, by have := h.D1; omega, h.lo, by have := h.hi; omega, h.sh, fun z hz => ?_, fun t ht => ?_, h.told⟩
  · have := h.zs z hz; omega
  · have := h.ts t ht; omega
/-- One more that came: its place. -/
theorem unique_near {s : St} {f D : Int} {Z T : List Int} {k : Nat} (h : Unique s f D Z T k) (hk : k ≤ 120) (z : Int) (hz0 : f - 128 * (k + 1) ≤ z) (hz1 : z ≤ f + 128 * (k + 1)) (i : Nu) (hi : (i.seq - z) % 65536 = 0) : nearF s i = z :=
  near16_of _ _ _ (by have := h.hi; have := h.lo; omega) (by have := h.hi; have := h.lo; omega) hi
theorem unique_came {s : St} {f D : Int} {Z T : List Int} {k : Nat} (h : Unique s f D Z T k) (z : Int) (hz0 : f - 128 * (k + 1) ≤ z) (hz1 : z ≤ f + 128 * (k + 1)) : Unique s f D (Z ++ [z]) T (k + 1) := by
  have h' := h.more
  refine ⟨h'.on, h'.off, h'.D0, h'.D1, h'.lo, h'.hi, h'.sh, fun y hy => ?_, h'.ts, fun t ht => ?_⟩
  · rw [List.mem_append] at hy
    rcases hy with hy | hy
    · exact h'.zs y hy
    · simp at hy; subst hy; omega
  · rcases h.told t ht with q | ⟨q1, q2⟩
    · exact .inl q
    · exact .inr ⟨by simp [q1], q2⟩
theorem unique_drop {s : St} {f D : Int} {Z T : List Int} {k : Nat} (h : Unique s f D Z T k) (hk : k ≤ 120) (hZ : ∀ y ∈ Z, y ≤ s.high) (z : Int) (hz0 : f - 128 * (k + 1) ≤ z) (hz1 : z ≤ f + 128 * (k + 1)) (i : Nu) (hi : (i.seq - z) % 65536 = 0) (b : Bool) :
    ∃ D', Unique (dropF s i b) f D' (Z ++ [z]) T (k + 1) ∧ ((dropF s i b).high = s.high ∧ z ≤ s.high ∨ (dropF s i b).high = z ∧ s.high < z) := by
  have hn := unique_near h hk z hz0 hz1 i hi
  have h' := unique_came h z hz0 hz1
  unfold dropF
  by_cases ha : aheadF s i = true
  · rw [if_pos (by rw [h.on, ha]; rfl), hn]
    have hlt : s.high < z := by unfold aheadF at ha; rw [hn] at ha; simpa using ha
    refine ⟨D + 1, ⟨h.on, ?_, by have := h.D0; omega, by have := h.D1; push_cast; omega, by have := h.lo; dsimp; omega, by dsimp; push_cast; omega, by dsimp; omega, h'.zs, h'.ts, fun t ht => ?_⟩, .inr ⟨rfl, hlt⟩⟩
    · show ((s.off.seq + 1) % 65536 - (D + 1)) % 65536 = 0
      have := h.off; omega
    · left
      show t ≤ z - (D + 1)
      have hsh := h.sh
      rcases h.told t ht with q | ⟨q1, q2⟩
      · omega
      · have := hZ _ q1; omega
  · rw [if_neg (by simp [ha])]
    have hge : z ≤ s.high := by unfold aheadF at ha; rw [hn] at ha; simpa using ha
    exact ⟨D, h', .inl ⟨rfl, hge⟩⟩
theorem unique_send {s : St} {f D : Int} {Z T : List Int} {k : Nat} (h : Unique s f D Z T k) (hk : k ≤ 120) (hZ : ∀ y ∈ Z, y ≤ s.high) (z : Int) (hz0 : f - 128 * (k + 1) ≤ z) (hz1 : z ≤ f + 128 * (k + 1)) (hno : z ∉ Z) (i : Nu) (hi : (i.seq - z) % 65536 = 0) :
    ((sendF s i).2.2 = false ∧ (sendF s i).1 = s ∧ z ≤ s.high) ∨
    ((sendF s i).2.2 = true ∧ ((sendF s i).2.1.seq - (z - D)) % 65536 = 0 ∧ (∀ t ∈ T, t ≠ z - D) ∧ Unique (sendF s i).1 f D (Z ++ [z]) (T ++ [z - D]) (k + 1) ∧ ((sendF s i).1.high = s.high ∧ z ≤ s.high ∨ (sendF s i).1.high = z ∧ s.high < z)) := by
  have hn := unique_near h hk z hz0 hz1 i hi
  have h' := unique_came h z hz0 hz1
  have hsh := h.sh
  have hD0 := h.D0
  have hD1 := h.D1
  have hoff := h.off
  have hfresh : s.since < z → ∀ t ∈ T, t ≠ z - D := by
    intro hs t ht e
    rcases h.told t ht with q | ⟨q1, q2⟩
    · omega
    · rw [e, show z - D + D = z by omega] at q1; exact hno q1
  have hmain : ∀ s' : St, s'.on = true → s'.off = s.off → s'.since = s.since → s.high ≤ s'.high → s'.high ≤ f + 128 * (k + 1) → s.since < z → Unique s' f D (Z ++ [z]) (T ++ [z - D]) (k + 1) := by
    intro s' e1 e2 e3 e4 e5 hs
    refine ⟨e1, by rw [e2]; exact hoff, hD0, by push_cast; omega, by have := h.lo; omega, by push_cast; omega, by rw [e3]; omega, h'.zs, fun t ht => ?_, fun t ht => ?_⟩
    · rw [List.mem_append] at ht
      rcases ht with ht | ht
      · exact h'.ts t ht
      · simp at ht; subst ht; push_cast; omega
    · rw [e3]
      rw [List.mem_append] at ht
      rcases ht with ht | ht
      · exact h'.told t ht
      · simp at ht; subst ht; right; exact ⟨by simp [show z - D + D = z by omega], by omega⟩
  have hseq : ((outF s i).seq - (z - D)) % 65536 = 0 := by
    have : (outF s i).seq = (i.seq - s.off.seq) % 65536 := by unfold outF; split <;> rfl
    rw [this]; omega
  rcases send_ways s i with ⟨h1, e⟩ | ⟨h1, h2, e⟩ | ⟨h1, h2, e⟩ <;> rw [e]
  · left
    refine ⟨rfl, rfl, ?_⟩
    unfold maySend at h1
    rw [h.on, hn] at h1
    simp at h1
    exact h1.1
  · right
    have hge : z ≤ s.high := by unfold aheadF at h2; rw [hn] at h2; simpa using h2
    have hs : s.since < z := by
      unfold maySend at h1
      rw [h.on, hn] at h1
      simp at h1
      omega
    have hq : fromF s.off i = outF s i := by unfold outF; rw [if_neg (by simp [h2])]
    refine ⟨rfl, by rw [hq]; exact hseq, hfresh hs, hmain s h.on rfl rfl (by omega) (by have := h.hi; omega) hs, .inl ⟨rfl, hge⟩⟩
  · right
    have hlt : s.high < z := by unfold aheadF at h2; rw [hn] at h2; simpa using h2
    refine ⟨rfl, hseq, hfresh (by omega), hmain _ h.on rfl rfl (by dsimp; rw [hn]; omega) (by dsimp; rw [hn]; omega) (by omega), .inr ⟨by dsimp; exact hn, hlt⟩⟩

/-! ### MungeTimes -/
theorem switch_time (s : St) (i : Nu) (t : Int) (hs : s.out.Ok) (h0 : 0 ≤ t) (h1 : t < 2147483648) (hon : s.on = true) : ¬ 0 < far32 (toldF s i t).time s.out.time := by
  unfold toldF
  rw [if_pos hon]
  show ¬ 0 < far32 ((s.out.time + t) % 4294967296) s.out.time
  have := hs.t0; have := hs.t1
  unfold far32
  split <;> omega
theorem far32_self (a : Int) : far32 a a = 0 := by unfold far32; split <;> omega
theorem send_time (s : St) (i : Nu) : ¬ 0 < far32 (sendF s i).1.out.time s.out.time := by
  rcases send_ways s i with ⟨h1, e⟩ | ⟨h1, h2, e⟩ | ⟨h1, h2, e⟩ <;> rw [e] <;> dsimp only
  · rw [far32_self]; omega
  · rw [far32_self]; omega
  · unfold outF
    rw [if_pos h2]
    dsimp only
    unfold timeF
    split
    · rw [far32_self]; omega
    · assumption
theorem drop_time (s : St) (i : Nu) (b : Bool) : ¬ 0 < far32 (dropF s i b).out.time s.out.time ∧ (dropF s i b).out = s.out := by
  rcases drop_ways s i b with ⟨h1, e⟩ | ⟨h1, h2, e⟩ <;> rw [e] <;> exact ⟨by (try dsimp only); rw [far32_self]; omega, rfl⟩

/-! ### MungeGaps -/
structure Wide (s : St) (f : Int) (k : Nat) : Prop where
  on : s.on = true
  off : s.off.seq = 0
  since : s.since = f
  lo : f ≤ s.high
  hi : s.high ≤ f + 128 * k
theorem wide_start (i : Nu) (hi : i.Ok) (s : St) (hs : s.on = false) (t : Int) : Wide (switchF s i t) i.seq 0 ∧ toldF s i t = i := by
  have e : toldF s i t = i := by unfold toldF; rw [if_neg (by simp [hs])]
  refine ⟨⟨rfl, ?_, rfl, by simp [switchF], by simp [switchF]⟩, e⟩
  show (i.seq - (toldF s i t).seq) % 65536 = 0
  rw [e]; omega
theorem wide_send {s : St} {f : Int} {k : Nat} (h : Wide s f k) (hk : k ≤ 100) (by_ : Int) (hb0 : -(128 * (k + 1)) ≤ by_) (hb1 : by_ ≤ 128 * (k + 1)) (i : Nu) (hi : (i.seq - (f + by_)) % 65536 = 0) :
    Wide (sendF s i).1 f (k + 1) ∧ ((sendF s i).2.2 = true → ((sendF s i).2.1.seq - (f + by_)) % 65536 = 0) ∧
      (sendF s i).2.2 = (decide (0 < by_) || !decide ((sendF s i).1.high = s.high)) := by
  have hlo := h.lo
  have hhi := h.hi
  have hn : nearF s i = f + by_ := near16_of _ _ _ (by omega) (by omega) hi
  have hs := h.since
  have hoff := h.off
  have hseq : ((outF s i).seq - (f + by_)) % 65536 = 0 := by
    have : (outF s i).seq = (i.seq - s.off.seq) % 65536 := by unfold outF; split <;> rfl
    rw [this]; omega
  have hmore : Wide s f (k + 1) := ⟨h.on, h.off, h.since, h.lo, by push_cast; omega⟩
  rcases send_ways s i with ⟨h1, e⟩ | ⟨h1, h2, e⟩ | ⟨h1, h2, e⟩ <;> rw [e] <;> dsimp only
  · refine ⟨hmore, fun q => (by cases q), ?_⟩
    unfold maySend at h1
    rw [h.on, hn, hs] at h1
    simp at h1
    simp
    omega
  · have hq : fromF s.off i = outF s i := by unfold outF; rw [if_neg (by simp [h2])]
    refine ⟨hmore, fun _ => by rw [hq]; exact hseq, ?_⟩
    have hge : f + by_ ≤ s.high := by unfold aheadF at h2; rw [hn] at h2; simpa using h2
    unfold maySend at h1
    rw [h.on, hn, hs] at h1
    simp at h1
    simp
    omega
  · have hlt : s.high < f + by_ := by unfold aheadF at h2; rw [hn] at h2; simpa using h2
    refine ⟨⟨h.on, h.off, h.since, by dsimp; omega, by dsimp; push_cast; omega⟩, fun _ => hseq, ?_⟩
    rw [hn]
    simp
    omega

/-! ### MungeBack -/
theorem switch_back (s : St) (i : Nu) (t : Int) (hi : i.Ok) (ho : s.out.Ok) :
    ((switchF s i t).off.seq + (toldF s i t).seq) % 65536 = i.seq ∧ ((switchF s i t).off.time + (toldF s i t).time) % 4294967296 = i.time ∧
    ((switchF s i t).off.pic + (toldF s i t).pic) % 65536 = i.pic ∧ ((switchF s i t).off.tl0 + (toldF s i t).tl0) % 256 = i.tl0 := by
  obtain ⟨h1, h2, h3, h4, h5, h6, h7, h8⟩ := hi
  generalize hg : toldF s i t = g
  simp only [switchF, fromF, hg]
  refine ⟨?_, ?_, ?_, ?_⟩ <;> omega
theorem send_back (s : St) (i : Nu) (hi : i.Ok) (ho : s.off.Ok) :
    ((sendF s i).2.2 = false ∧ (sendF s i).1 = s ∧ (sendF s i).2.1 = nu0) ∨
    ((sendF s i).2.2 = true ∧ (sendF s i).1.off = s.off ∧ ((sendF s i).2.1.seq + s.off.seq) % 65536 = i.seq ∧ ((sendF s i).2.1.pic + s.off.pic) % 65536 = i.pic ∧ ((sendF s i).2.1.tl0 + s.off.tl0) % 256 = i.tl0 ∧
      (((sendF s i).2.1.time + s.off.time) % 4294967296 = i.time ∨ (sendF s i).2.1.time = s.out.time)) := by
  obtain ⟨h1, h2, h3, h4, h5, h6, h7, h8⟩ := hi
  have key : ((outF s i).seq + s.off.seq) % 65536 = i.seq ∧ ((outF s i).pic + s.off.pic) % 65536 = i.pic ∧ ((outF s i).tl0 + s.off.tl0) % 256 = i.tl0 ∧ (((outF s i).time + s.off.time) % 4294967296 = i.time ∨ (outF s i).time = s.out.time) := by
    unfold outF
    split
    · refine ⟨?_, ?_, ?_, ?_⟩
      · simp only [fromF]; omega
      · simp only [fromF]; omega
      · simp only [fromF]; omega
      · dsimp only
        unfold timeF
        split
        · exact .inr rfl
        · left; simp only [fromF]; omega
    · refine ⟨?_, ?_, ?_, .inl ?_⟩ <;> (simp only [fromF]; omega)
  rcases send_ways s i with ⟨q1, e⟩ | ⟨q1, q2, e⟩ | ⟨q1, q2, e⟩ <;> rw [e] <;> dsimp only
  · exact .inl ⟨rfl, rfl, rfl⟩
  · right
    have hq : fromF s.off i = outF s i := by unfold outF; rw [if_neg (by simp [q2])]
    rw [hq]
    exact ⟨rfl, rfl, key⟩
  · exact .inr ⟨rfl, rfl, key⟩
end Go.Proofs.Ytidpkmabcndknaa
