/-
  For every input TopEnclosure returns true, and each argument reads afterwards as it read before. No condition.
-/
import Derived.Test.YtgkbjkgafiojjaaFin
import Derived.Test.YtgkbjkgafiojjaaArg
import Derived.Test.YtgkbjkgafiojjaaArgRd
import Derived.Test.YtgkbjkgafiojjaaIT3
namespace Go.Proofs.Ytgkbjkgafiojjaa.topEnclosure
set_option linter.unusedVariables false
set_option linter.unusedSimpArgs false
open Go.ChangeShapes Go.WideShapes Go.ChangeAt Go.RowKit
open Go.ChangeMaps (open_string)

set_option maxRecDepth 100000 in
theorem lifted (os : Os) (started : os.Started) (H : Type) (enc : TypeId × Value → H) :
    ReturnsInHanded {} Try.checked os 3 .any (Rows.topEnclosureSpec.pre6 enc Try.prog Try.f3 Rows.topEnclosureRow.domain false) (Rows.topEnclosureSpec.post enc Try.prog Try.f3 false true false false) := by
  refine returnsInHanded_of_change (C := Try.checked) own_knob started (by kernel_rfl) Try.func3
    (ChangeSpec.witness6 (enc := enc) (C := Try.checked) false ⟨#[], #[.slice none 0 0], []⟩ 8 (by kernel_rfl) (by kernel_rfl) (by kernel_rfl) (by kernel_rfl)) ?_
  intro W base args ds gs before hval0 hW hcnd _
  have hval : ∀ (j : Nat) t v, Try.f3.params[j]? = some t → args[j]? = some v → Value.okWide Try.prog W .any base t v := hval0
  have hW' := hW
  obtain ⟨p, q, hA0, hV, rfl, hfz, hnd⟩ := hW
  have hA : DataW.TrodAll enc Try.prog W 0 (fun _ => true) true Try.f3.params.toList args.toList ds p := hA0
  rw [Try.params3] at hA hval
  obtain ⟨v0, vs0, d0, ds0, p0, q0, hargs, rfl, rfl, h0, r0⟩ := trodAll_cons hA
  obtain ⟨rfl, rfl, rfl⟩ := trodAll_nil r0
  obtain rfl : args = #[v0] := by cases args; simp_all
  obtain ⟨rfl, rfl⟩ := trodVars_none hV
  obtain ⟨A0, n0, c0, N0, rfl, hlc0, hcm0, hwf0, hrw0⟩ := open_rows (n := 8) (k0 := .u8) (ks := [.i64, .i64, .u64]) Try.underlying22 (by kernel_rfl) (by kernel_rfl) (hval 0 22 v0 rfl rfl) h0
  clear hA0 hval0
  simp only [List.append_nil] at hW'
  refine (law_enclosure _ _ _ _ W (rdT hlc0 hcm0 hrw0) (fun i hi => ⟨bd_u8 (hwf0 i 0 .u8 hi rfl), bd_i64 (hwf0 i 1 .i64 hi rfl), bd_i64 (hwf0 i 2 .i64 hi rfl), bd_u64 (hwf0 i 3 .u64 hi rfl)⟩)).mono fun e W' ⟨he, hg⟩ => ?_
  subst he
  exact ⟨_, rfl, law_post rfl hW' hg (by kernel_rfl) rfl rfl rfl rfl⟩

theorem over : Rows.topEnclosureRow.holds Try.pinned (OpenSpec.ofChange Rows.topEnclosureSpec) :=
  OpenClaim.holds_of_wide 3 Try.f3 rfl rfl rfl rfl rfl rfl rfl ⟨rfl, rfl, rfl, rfl, rfl⟩ rfl rfl rfl rfl rfl (by kernel_rfl) Try.func3 (by kernel_rfl)
    (of_decide_eq_true (by kernel_rfl)) (by unfold Func.isWrapper; first | (rw [if_pos (by decide +kernel)]; kernel_rfl) | (rw [if_neg (by decide +kernel)]; exact ⟨rfl, rfl⟩))
    (fun os started H enc _ => lifted os started H enc)

theorem proved : Rows.TopEnclosureSaid :=
  over
#print axioms proved
end Go.Proofs.Ytgkbjkgafiojjaa.topEnclosure
