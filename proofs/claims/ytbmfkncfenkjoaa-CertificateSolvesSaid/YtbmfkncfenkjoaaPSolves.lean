/-
  For every input CertificateSolves returns true, and each argument reads afterwards as it read before. No condition.
-/
import Derived.Test.YtbmfkncfenkjoaaFin
import Derived.Test.YtbmfkncfenkjoaaArg
import Derived.Test.YtbmfkncfenkjoaaArgRd
import Derived.Test.YtbmfkncfenkjoaaArgS
import Derived.Test.YtbmfkncfenkjoaaM3
namespace Go.Proofs.Ytbmfkncfenkjoaa.certificateSolves
set_option linter.unusedVariables false
set_option linter.unusedSimpArgs false
open Go.ChangeShapes Go.WideShapes Go.ChangeAt Go.RowKit
open Go.ChangeMaps (open_string)

set_option maxRecDepth 100000 in
theorem lifted (os : Os) (started : os.Started) (H : Type) (enc : TypeId × Value → H) :
    ReturnsInHanded {} Try.checked os 6 .any (Rows.certificateSolvesSpec.pre6 enc Try.prog Try.f6 Rows.certificateSolvesRow.domain false) (Rows.certificateSolvesSpec.post enc Try.prog Try.f6 false true false false) := by
  refine returnsInHanded_of_change (C := Try.checked) own_knob started (by kernel_rfl) Try.func6
    (ChangeSpec.witness6 (enc := enc) (C := Try.checked) false ⟨#[], #[.agg #[.int .i64 0, .slice none 0 0], .agg #[.int .i64 0, .int .i64 0]], []⟩ 8 (by kernel_rfl) (by kernel_rfl) (by kernel_rfl) (by kernel_rfl)) ?_
  intro W base args ds gs before hval0 hW hcnd _
  have hval : ∀ (j : Nat) t v, Try.f6.params[j]? = some t → args[j]? = some v → Value.okWide Try.prog W .any base t v := hval0
  have hW' := hW
  obtain ⟨p, q, hA0, hV, rfl, hfz, hnd⟩ := hW
  have hA : DataW.TrodAll enc Try.prog W 0 (fun _ => true) true Try.f6.params.toList args.toList ds p := hA0
  rw [Try.params6] at hA hval
  obtain ⟨v0, vs0, d0, ds0, p0, q0, hargs, rfl, rfl, h0, r0⟩ := trodAll_cons hA
  obtain ⟨v1, vs1, d1, ds1, p1, q1, rfl, rfl, rfl, h1, r1⟩ := trodAll_cons r0
  obtain ⟨rfl, rfl, rfl⟩ := trodAll_nil r1
  obtain rfl : args = #[v0, v1] := by cases args; simp_all
  obtain ⟨rfl, rfl⟩ := trodVars_none hV
  obtain ⟨cs0, rfl, hm0⟩ := open_mix (n := 8) (ks := [.num .i64, .row [.i64, .i64, .i64]]) (by kernel_rfl) (by kernel_rfl) (hval 0 24 v0 rfl rfl) h0
  obtain ⟨a0_0, t0_0, rfl, w0_0, hm0⟩ := mix_num hm0
  have b0_0 := bd_i64 w0_0
  obtain ⟨A0_1, n0_1, c0_1, N0_1, t0_1, rfl, hlc0_1, hcm0_1, hwf0_1, hrw0_1, hm0⟩ := mix_row hm0
  obtain rfl := mix_nil hm0
  obtain ⟨cs1, rfl, hi1⟩ := open_plain (n := 8) (ks := [.i64, .i64]) (by kernel_rfl) (by kernel_rfl) (hval 1 26 v1 rfl rfl) h1
  obtain ⟨a1_0, a1_1, rfl, w1_0, w1_1⟩ := ints2 hi1
  have b1_0 := bd_i64 w1_0
  have b1_1 := bd_i64 w1_1
  clear hA0 hval0
  simp only [List.append_nil] at hW'
  refine (law_solves _ _ _ _ _ W (rd3 hlc0_1 hcm0_1 hrw0_1) b0_0.1 b0_0.2 _ _ b1_0 b1_1).mono fun e W' ⟨he, hg⟩ => ?_
  subst he
  exact ⟨_, rfl, law_post rfl hW' hg (by kernel_rfl) rfl rfl rfl rfl⟩

theorem over : Rows.certificateSolvesRow.holds Try.pinned (OpenSpec.ofChange Rows.certificateSolvesSpec) :=
  OpenClaim.holds_of_wide 6 Try.f6 rfl rfl rfl rfl rfl rfl rfl ⟨rfl, rfl, rfl, rfl, rfl⟩ rfl rfl rfl rfl rfl (by kernel_rfl) Try.func6 (by kernel_rfl)
    (of_decide_eq_true (by kernel_rfl)) (by unfold Func.isWrapper; first | (rw [if_pos (by decide +kernel)]; kernel_rfl) | (rw [if_neg (by decide +kernel)]; exact ⟨rfl, rfl⟩))
    (fun os started H enc _ => lifted os started H enc)

theorem proved : Rows.CertificateSolvesSaid :=
  over
#print axioms proved
end Go.Proofs.Ytbmfkncfenkjoaa.certificateSolves
