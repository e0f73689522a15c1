/- The law BiasBack over numbers: a plot that an offset corrects, and to which it is applied again, is the plot as it was. No condition beyond what the types give. -/
import Derived.Test.YtpcmmbbkidojoaaInBiasBack
import Derived.Test.YtpcmmbbkidojoaaBase
namespace Go.Proofs.Ytpcmmbbkidojoaa.MyBiasBack
open Go.RowKit Go.Proofs.Ytpcmmbbkidojoaa.Opens Go.Proofs.Ytpcmmbbkidojoaa.PBiasBack Go.Proofs.YtpcmmbbkidojoaaW.PrintWords Go.Proofs.YtpcmmbbkidojoaaW.PrintLast Go.Proofs.Ytpcmmbbkidojoaa.InBiasBack Go.Proofs.Ytpcmmbbkidojoaa.Base

def OkPlot (r t g z h c : Int) : Prop := 0 ≤ r ∧ r ≤ 255 ∧ 0 ≤ t ∧ t ≤ 200000 ∧ 0 ≤ g ∧ g ≤ 2000000 ∧ 0 ≤ z ∧ z ≤ 4095 ∧ 0 ≤ h ∧ h ≤ 60000 ∧ -1 ≤ c ∧ c ≤ 4095
instance (r t g z h c : Int) : Decidable (OkPlot r t g z h c) := by unfold OkPlot; infer_instance
def OkOff (g z t : Int) : Prop := -10000 ≤ g ∧ g ≤ 10000 ∧ -2047 ≤ z ∧ z ≤ 2048 ∧ -1000 ≤ t ∧ t ≤ 1000
instance (r t g : Int) : Decidable (OkOff r t g) := by unfold OkOff; infer_instance
theorem checkPlot (r t g z h c : Int) : radar_CheckPlot.f r t g z h c = some (if OkPlot r t g z h c then 0 else 4) := by
  unfold radar_CheckPlot.f
  by_cases ho : OkPlot r t g z h c
  · rw [if_pos ho]; unfold OkPlot at ho
    repeat rw [if_neg (by omega)]
  · rw [if_neg ho]; unfold OkPlot at ho
    repeat (refine ite_same (fun _ => rfl) (fun _ => ?_))
    exfalso; omega
theorem checkOff (g z t : Int) : bias_Check.f g z t = some (if OkOff g z t then 0 else 4) := by
  unfold bias_Check.f
  by_cases ho : OkOff g z t
  · rw [if_pos ho]; unfold OkOff at ho
    repeat rw [if_neg (by omega)]
  · rw [if_neg ho]; unfold OkOff at ho
    repeat (refine ite_same (fun _ => rfl) (fun _ => ?_))
    exfalso; omega
theorem norm (a : Int) : angle_Norm.f a = some (a % 4096) := by
  unfold angle_Norm.f; rw [and4095]
/-- What moved does. -/
theorem moved (r t g z h c og oz ot s : Int) (hs : s = 1 ∨ s = -1) : bias_moved.f r t g z h c og oz ot s =
    if OkOff og oz ot then (if OkPlot r t g z h c then (if OkPlot r (t + s * ot) (g + s * og) ((z + s * oz) % 4096) h c then some (r, t + s * ot, g + s * og, (z + s * oz) % 4096, h, c, 0) else some (0, 0, 0, 0, 0, 0, 8)) else some (0, 0, 0, 0, 0, 0, 4)) else some (0, 0, 0, 0, 0, 0, 4) := by
  unfold bias_moved.f
  rw [checkOff]
  by_cases h1 : OkOff og oz ot
  · simp only [if_pos h1, Option.bind_some, if_true, checkPlot]
    by_cases h2 : OkPlot r t g z h c
    · have h1' := h1
      have h2' := h2
      unfold OkOff at h1'; unfold OkPlot at h2'
      have e1 : wrap64 (s * ot) = s * ot := w64 (by rcases hs with rfl | rfl <;> omega) (by rcases hs with rfl | rfl <;> omega)
      have e2 : wrap64 (s * og) = s * og := w64 (by rcases hs with rfl | rfl <;> omega) (by rcases hs with rfl | rfl <;> omega)
      have e3 : wrap64 (s * oz) = s * oz := w64 (by rcases hs with rfl | rfl <;> omega) (by rcases hs with rfl | rfl <;> omega)
      have e4 : wrap64 (t + s * ot) = t + s * ot := w64 (by rcases hs with rfl | rfl <;> omega) (by rcases hs with rfl | rfl <;> omega)
      have e5 : wrap64 (g + s * og) = g + s * og := w64 (by rcases hs with rfl | rfl <;> omega) (by rcases hs with rfl | rfl <;> omega)
      have e6 : wrap64 (z + s * oz) = z + s * oz := w64 (by rcases hs with rfl | rfl <;> omega) (by rcases hs with rfl | rfl <;> omega)
      simp only [if_pos h2, Option.bind_some, if_true, e1, e2, e3, e4, e5, e6, norm]
      by_cases h3 : OkPlot r (t + s * ot) (g + s * og) ((z + s * oz) % 4096) h c
      · simp only [if_pos h3, if_true]
      · simp only [if_neg h3]; rfl
    · simp only [if_neg h2]; rfl
  · simp only [if_neg h1, Option.bind_some]; rfl
theorem apply_ (r t g z h c og oz ot : Int) : bias_Apply.f r t g z h c og oz ot = bias_moved.f r t g z h c og oz ot 1 := by
  unfold bias_Apply.f
  cases bias_moved.f r t g z h c og oz ot 1 <;> rfl
theorem correct (r t g z h c og oz ot : Int) : bias_Correct.f r t g z h c og oz ot = bias_moved.f r t g z h c og oz ot (-1) := by
  unfold bias_Correct.f
  cases bias_moved.f r t g z h c og oz ot (-1) <;> rfl

theorem proved : Pure := by
  intro r t g z h c og oz ot _ _ _ _ _ _ _ _ _
  refine ⟨1, ?_⟩
  unfold skywaykeep2_BiasBack.f
  have e0 : bias_Apply.f 0 0 100 0 0 0 5 0 0 = some (0, 0, 105, 0, 0, 0, 0) := by
    rw [apply_, moved _ _ _ _ _ _ _ _ _ _ (Or.inl rfl), if_pos (by unfold OkOff; omega), if_pos (by unfold OkPlot; omega), if_pos (by unfold OkPlot; omega)]; rfl
  rw [e0]
  simp only [Option.bind_some, if_true, skywaykeep2_BiasBack.j0]
  rw [if_neg (by decide), correct, moved _ _ _ _ _ _ _ _ _ _ (Or.inr rfl)]
  by_cases h1 : OkOff og oz ot
  · rw [if_pos h1]
    by_cases h2 : OkPlot r t g z h c
    · rw [if_pos h2]
      by_cases h3 : OkPlot r (t + -1 * ot) (g + -1 * og) ((z + -1 * oz) % 4096) h c
      · rw [if_pos h3]
        simp only [Option.bind_some, if_true]
        rw [apply_, moved _ _ _ _ _ _ _ _ _ _ (Or.inl rfl), if_pos h1, if_pos h3]
        have e1 : t + -1 * ot + 1 * ot = t := by omega
        have e2 : g + -1 * og + 1 * og = g := by omega
        have e3 : ((z + -1 * oz) % 4096 + 1 * oz) % 4096 = z := by unfold OkPlot at h2; unfold OkOff at h1; omega
        rw [e1, e2, e3, if_pos h2]
        simp
      · rw [if_neg h3]; simp
    · rw [if_neg h2]; simp
  · rw [if_neg h1]; simp
end Go.Proofs.Ytpcmmbbkidojoaa.MyBiasBack
