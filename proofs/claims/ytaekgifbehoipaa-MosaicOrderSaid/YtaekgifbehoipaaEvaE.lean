/- The quiet operations: what the model computes is what the abstract machine computes, and memory stays. Conditions stand in each lemma. -/
import Derived.Test.YtaekgifbehoipaaEvaD
import Derived.Laws.StructEq
import Derived.Laws.CopyRow
import Derived.Laws.Tables
import Derived.Laws.Build
namespace Go.Proofs.Ytaekgifbehoipaa.Eva
open Go
set_option linter.unusedVariables false
set_option linter.unusedSimpArgs false

section
variable {P : Program}
theorem run_isAggT {t : TypeId} {b : Bool} (h : aggT P t = some b) (w : World) : (isAgg t).run P w = .ok b w := by
  unfold aggT at h
  unfold isAgg
  cases hu : P.underlying t with
  | none => simp [hu] at h
  | some d =>
    rw [Sem.run_bind, run_underlying hu w]
    cases d <;> simp [hu] at h <;> subst h <;> rfl
theorem run_sizeT {t : TypeId} {n : Nat} (h : sizeT P t = some n) (w : World) : (sizeOf t).run P w = .ok n w := by
  unfold sizeT at h
  cases hi : P.info? t with
  | none => simp [hi] at h
  | some i =>
    have e : i.size = n := by simpa [hi] using h
    simp [sizeOf, typeInfo, hi, e]
theorem add_at (g off j : Nat) : (⟨g, off, none⟩ : Addr).add j = ⟨g, off + j, none⟩ := by unfold Addr.add; split <;> simp_all

/-- One cell, or a stretch, is loaded. -/
theorem run_load1 {t : TypeId} (h : aggT P t = some false) {w : World} {g off : Nat} {v : Value} (hv : w.cell? ⟨g, off, none⟩ = some v) : (loadVar t ⟨g, off, none⟩).run P w = .ok v w := by
  unfold loadVar
  rw [Sem.run_bind, run_isAggT h w]
  simp [hv]
theorem run_loadN {t : TypeId} {n : Nat} (h : aggT P t = some true) (hn : sizeT P t = some n) {w : World} {g off : Nat} {vs : List Value} (hl : vs.length = n)
    (hv : ∀ j v, vs[j]? = some v → w.cell? ⟨g, off + j, none⟩ = some v) : (loadVar t ⟨g, off, none⟩).run P w = .ok (.agg vs.toArray) w := by
  have hc := run_loadCells_list (P := P) w ⟨g, off, none⟩ vs fun j v e => by rw [add_at]; exact hv j v e
  unfold loadVar
  rw [Sem.run_bind, run_isAggT h w]
  simp [run_sizeT hn w, ← hl, hc]

theorem run_eqKinds : ∀ (d : Nat) (t : TypeId) (ks : List PK), kindsT P d t = some ks → ∀ (D : Nat), d ≤ D → ∀ (m : Mp) (w : World),
    (aggT P t = some false → ∀ x y X Y b, VRep m x X → VRep m y Y → aeqs ks [x] [y] = some b → (Op.equalIn D t X Y).run P w = .ok b w) ∧
    (aggT P t = some true → ∀ xs ys (X Y : Array Value) b, VReps m xs X.toList → VReps m ys Y.toList → aeqs ks xs ys = some b → (Op.equalIn D t (.agg X) (.agg Y)).run P w = .ok b w) := by
  intro d
  induction d with
  | zero => intro t ks h; simp [kindsT] at h
  | succ d ih =>
    intro t ks h D hD m w
    obtain ⟨D, rfl⟩ : ∃ k, D = k + 1 := ⟨D - 1, by omega⟩
    unfold kindsT at h
    cases hu : P.underlying t with
    | none => simp [hu] at h
    | some ds =>
      have one : ∀ k x y b, aeqs [k] [x] [y] = some b → aeq1 k x y = some b := fun k x y b e => by
        simp only [aeqs] at e
        cases h1 : aeq1 k x y with
        | none => simp [h1] at e
        | some c => simpa [h1] using e
      cases ds <;> simp only [hu] at h <;> (try (cases h; done))
      case bool =>
        simp only [Option.some.injEq] at h; subst h
        refine ⟨fun _ x y X Y b hx hy e => ?_, fun ha => by simp [aggT, hu] at ha⟩
        have e1 := one _ _ _ _ e
        cases x <;> cases y <;> simp [aeq1] at e1
        simp only [VRep] at hx hy
        subst hx; subst hy; subst e1
        exact run_equalIn_bool w D t _ _ hu
      case int k =>
        simp only [Option.some.injEq] at h; subst h
        refine ⟨fun _ x y X Y b hx hy e => ?_, fun ha => by simp [aggT, hu] at ha⟩
        have e1 := one _ _ _ _ e
        cases x <;> cases y <;> simp [aeq1] at e1
        simp only [VRep] at hx hy
        obtain ⟨rfl, rfl⟩ := e1
        subst hx; subst hy
        exact run_equalIn_int w D t _ k _ _ hu
      case string =>
        simp only [Option.some.injEq] at h; subst h
        refine ⟨fun _ x y X Y b hx hy e => ?_, fun ha => by simp [aggT, hu] at ha⟩
        have e1 := one _ _ _ _ e
        cases x <;> cases y <;> simp [aeq1] at e1
        simp only [VRep] at hx hy
        subst hx; subst hy; subst e1
        rw [run_equalIn_string w D t _ _ hu, beq_toListBytes]
      case struct fs =>
        refine ⟨fun ha => by simp [aggT, hu] at ha, fun _ xs ys X Y b hx hy e => ?_⟩
        split at h
        · cases h
        rename_i hst
        have hfo : P.fieldsOf t = fs := by simp [Program.fieldsOf, hu]
        rw [run_equalIn_agg w D t X Y (by rw [hfo]; exact hu) (by simpa using hst), hfo]
        -- field by field
        have key : ∀ (fl : List Field) (off : Nat) (ks : List PK), kindsF P (kindsT P d) fl off = some ks → ∀ b, aeqs ks (xs.drop off) (ys.drop off) = some b → (Op.eqFields D X Y fl).run P w = .ok b w := by
          intro fl
          induction fl with
          | nil =>
            intro off ks hk b hb
            simp only [kindsF, Option.some.injEq] at hk
            subst hk
            have : b = true := by
              cases h1 : xs.drop off <;> cases h2 : ys.drop off <;> simp [h1, h2, aeqs] at hb
              exact hb
            subst this
            simp [Op.eqFields]
          | cons f fl ihf =>
            intro off ks hk b hb
            simp only [kindsF] at hk
            split at hk <;> (try (cases hk; done))
            rename_i k n r h1 h2 h3
            split at hk <;> (try (cases hk; done))
            rename_i hc
            obtain ⟨c1, c2, c3⟩ := hc
            simp only [Option.some.injEq] at hk
            subst hk
            rw [h2] at h3
            simp only [Option.getD_some] at h3
            -- split the equality
            have spl : ∀ (k r : List PK) (as bs : List AV) (b : Bool), aeqs (k ++ r) as bs = some b → ∃ b1 b2, aeqs k (as.take k.length) (bs.take k.length) = some b1 ∧ aeqs r (as.drop k.length) (bs.drop k.length) = some b2 ∧ b = (b1 && b2) := by
              intro k
              induction k with
              | nil => intro r as bs b e; exact ⟨true, b, by simp [aeqs], by simpa using e, by simp⟩
              | cons q k ihk =>
                intro r as bs b e
                cases as with
                | nil => simp [aeqs] at e
                | cons x as =>
                  cases bs with
                  | nil => simp [aeqs] at e
                  | cons y bs =>
                    simp only [List.cons_append, aeqs] at e
                    cases e1 : aeq1 q x y with
                    | none => simp [e1] at e
                    | some c =>
                      cases e2 : aeqs (k ++ r) as bs with
                      | none => simp [e1, e2] at e
                      | some c' =>
                        simp [e1, e2] at e
                        obtain ⟨b1, b2, g1, g2, g3⟩ := ihk r as bs c' e2
                        refine ⟨c && b1, b2, ?_, ?_, ?_⟩
                        · simp [aeqs, e1, g1]
                        · simpa using g2
                        · rw [← e, g3, Bool.and_assoc]
            obtain ⟨b1, b2, g1, g2, g3⟩ := spl k r _ _ b hb
            have hlx : ∀ (as bs : List AV) (k : List PK) (b : Bool), aeqs k as bs = some b → as.length = k.length ∧ bs.length = k.length := by
              intro as bs k
              induction k generalizing as bs with
              | nil => intro b e; cases as <;> cases bs <;> simp [aeqs] at e <;> simp
              | cons q k ihk =>
                intro b e
                cases as with
                | nil => simp [aeqs] at e
                | cons x as =>
                  cases bs with
                  | nil => simp [aeqs] at e
                  | cons y bs =>
                    simp only [aeqs] at e
                    cases e1 : aeq1 q x y with
                    | none => simp [e1] at e
                    | some c =>
                      cases e2 : aeqs k as bs with
                      | none => simp [e1, e2] at e
                      | some c' => have := ihk as bs c' e2; simp [this]
            have hih := ih f.type k h1 D (by omega) m w
            have haT : ∃ ag, aggT P f.type = some ag := by
              unfold aggT
              cases hq : P.underlying f.type with
              | none =>
                cases d with
                | zero => simp [kindsT] at h1
                | succ d => simp [kindsT, hq] at h1
              | some q => cases q <;> simp
            obtain ⟨ag, hag⟩ := haT
            have htx := (hlx _ _ _ _ g1).1
            have hty := (hlx _ _ _ _ g1).2
            simp only [Op.eqFields, ne_eq, c1, not_false_eq_true, if_true]
            have hpart : ∀ (zs : List AV) (Z : Array Value), VReps m zs Z.toList → ((zs.drop off).take k.length).length = k.length →
                ∃ V, (part f.type Z f.offset).run P w = .ok V w ∧ (ag = true → ∃ Z', V = .agg Z' ∧ VReps m ((zs.drop off).take k.length) Z'.toList) ∧ (ag = false → ∀ z, (zs.drop off).take k.length = [z] → VRep m z V) := by
              intro zs Z hz hzl
              cases ag with
              | true =>
                refine ⟨.agg (Z.extract off (off + n)), ?_, fun _ => ⟨_, rfl, ?_⟩, (fun e => by cases e)⟩
                · simp [part, run_isAggT hag w, run_sizeT h2 w, c2]
                · rw [Array.toList_extract, List.extract_eq_take_drop, Nat.add_sub_cancel_left, c3]
                  exact (VReps.drop hz off).take _
              | false =>
                have hk1 : k.length = 1 := by
                  cases d with
                  | zero => simp [kindsT] at h1
                  | succ d =>
                    unfold kindsT at h1
                    cases hq : P.underlying f.type with
                    | none => simp [hq] at h1
                    | some q => cases q <;> simp [hq, aggT] at h1 hag <;> (subst h1; rfl)
                have : ∃ z, (zs.drop off).take k.length = [z] := by
                  rw [hk1] at hzl ⊢
                  cases hh : (zs.drop off).take 1 with
                  | nil => simp [hh] at hzl
                  | cons z l => exact ⟨z, by simp [hh] at hzl; simp [hzl]⟩
                obtain ⟨z, hz1⟩ := this
                have hzo : zs[off]? = some z := by
                  have : ((zs.drop off).take k.length)[0]? = some z := by rw [hz1]; rfl
                  rw [List.getElem?_take, hk1, if_pos (by omega), List.getElem?_drop] at this
                  simpa using this
                obtain ⟨V, hV, hr⟩ := VReps.get hz hzo
                have hV' : Z[off]? = some V := by simpa using hV
                refine ⟨V, by simp [part, run_isAggT hag w, c2, hV'], (fun e => by cases e), fun _ z' e => ?_⟩
                rw [hz1] at e
                simp only [List.cons.injEq, and_true] at e
                subst e; exact hr
            obtain ⟨VX, rx, ax, sx⟩ := hpart xs X hx htx
            obtain ⟨VY, ry, ay, sy⟩ := hpart ys Y hy hty
            have hcell : (Op.equalIn D f.type VX VY).run P w = .ok b1 w := by
              cases ag with
              | true =>
                obtain ⟨X', rfl, hX'⟩ := ax rfl
                obtain ⟨Y', rfl, hY'⟩ := ay rfl
                exact hih.2 hag _ _ X' Y' b1 hX' hY' g1
              | false =>
                have hk1 : k.length = 1 := by
                  cases d with
                  | zero => simp [kindsT] at h1
                  | succ d =>
                    unfold kindsT at h1
                    cases hq : P.underlying f.type with
                    | none => simp [hq] at h1
                    | some q => cases q <;> simp [hq, aggT] at h1 hag <;> (subst h1; rfl)
                have lone : ∀ l : List AV, l.length = k.length → ∃ z, l = [z] := fun l hl => by
                  rw [hk1] at hl
                  match l, hl with
                  | [z], _ => exact ⟨z, rfl⟩
                obtain ⟨x, ex⟩ := lone _ htx
                obtain ⟨y, ey⟩ := lone _ hty
                rw [ex, ey] at g1
                exact hih.1 hag x y VX VY b1 (sx rfl x ex) (sy rfl y ey) g1
            rw [Sem.run_bind, rx]
            simp only [Result.andThen_ok]
            rw [Sem.run_bind, ry]
            simp only [Result.andThen_ok]
            rw [Sem.run_bind, hcell]
            simp only [Result.andThen_ok]
            have hrest := ihf (off + n) r h3 b2 (by rw [List.drop_drop, List.drop_drop, ← c3] at g2; exact g2)
            cases b1 with
            | true => simp [g3]; exact hrest
            | false => simp [g3]
        exact key fs.toList 0 ks h b (by simpa using e)
end
end Go.Proofs.Ytaekgifbehoipaa.Eva
