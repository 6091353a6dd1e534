/- What the choice of packets is, in plain numbers and Booleans; no program in sight. -/
namespace Go.Proofs.Ytiajgdpceedmlaa
set_option linter.unusedSimpArgs false
set_option linter.unusedVariables false

/-- Of which stream a state is: a stream's source and layer. -/
def ofB (on : Bool) (f l xf xl : Int) : Bool := on && (xf == f && xl == l)
/-- The temporal layer from a packet on. -/
def tidF (t : Int) (bg wh ht : Bool) (xt : Int) (sy : Bool) (wt : Int) : Int :=
  if bg = false then t else if wh = true ∨ wt < t then wt else if ht = true ∧ sy = true ∧ t < xt ∧ xt ≤ wt then xt else t
/-- A state behind a packet (whether it is on, source, layer, temporal layer), and what is done. -/
def takeF (on : Bool) (f l t xf xl : Int) (bg wh ht : Bool) (xt : Int) (sy : Bool) (wf wl wt : Int) : Bool × Int × Int × Int × Int :=
  if ofB on f l xf xl = true then
    let t' := tidF t bg wh ht xt sy wt
    (on, f, l, t', if ht = true ∧ t' < xt then 2 else 1)
  else if xf = wf ∧ xl = wl ∧ bg = true ∧ wh = true then (true, wf, wl, wt, 3)
  else (on, f, l, t, 0)
end Go.Proofs.Ytiajgdpceedmlaa
