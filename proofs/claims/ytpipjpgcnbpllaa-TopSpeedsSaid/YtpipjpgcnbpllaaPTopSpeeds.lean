/-
  For every input TopSpeeds returns true, and each argument reads afterwards as it read before. No condition.
-/
import Derived.Test.YtpipjpgcnbpllaaFin
import Derived.Test.YtpipjpgcnbpllaaArg
import Derived.Test.YtpipjpgcnbpllaaArgRd
import Derived.Test.YtpipjpgcnbpllaaTW3
namespace Go.Proofs.Ytpipjpgcnbpllaa.topSpeeds
set_option linter.unusedVariables false
set_option linter.unusedSimpArgs false
open Go.ChangeShapes Go.WideShapes Go.ChangeAt Go.RowKit
open Go.ChangeMaps (open_string)

set_option maxRecDepth 100000 in
theorem lifted (os : Os) (started : os.Started) (H : Type) (enc : TypeId × Value → H) :
    ReturnsInHanded {} Try.checked os 3 .any (Rows.topSpeedsSpec.pre6 enc Try.prog Try.f3 Rows.topSpeedsRow.domain false) (Rows.topSpeedsSpec.post enc Try.prog Try.f3 false true false false) := by
  refine returnsInHanded_of_change (C := Try.checked) own_knob started (by kernel_rfl) Try.func3
    (ChangeSpec.witness6 (enc := enc) (C := Try.checked) false ⟨#[], #[.slice none 0 0, .slice none 0 0, .agg #[.int .i64 0, .int .i64 0, .int .i64 0, .int .i64 0]], []⟩ 8 (by kernel_rfl) (by kernel_rfl) (by kernel_rfl) (by kernel_rfl)) ?_
  intro W base args ds gs before hval0 hW hcnd _
  have hval : ∀ (j : Nat) t v, Try.f3.params[j]? = some t → args[j]? = some v → Value.okWide Try.prog W .any base t v := hval0
  have hW' := hW
  obtain ⟨p, q, hA0, hV, rfl, hfz, hnd⟩ := hW
  have hA : DataW.TrodAll enc Try.prog W 0 (fun _ => true) true Try.f3.params.toList args.toList ds p := hA0
  rw [Try.params3] at hA hval
  obtain ⟨v0, vs0, d0, ds0, p0, q0, hargs, rfl, rfl, h0, r0⟩ := trodAll_cons hA
  obtain ⟨v1, vs1, d1, ds1, p1, q1, rfl, rfl, rfl, h1, r1⟩ := trodAll_cons r0
  obtain ⟨v2, vs2, d2, ds2, p2, q2, rfl, rfl, rfl, h2, r2⟩ := trodAll_cons r1
  obtain ⟨rfl, rfl, rfl⟩ := trodAll_nil r2
  obtain rfl : args = #[v0, v1, v2] := by cases args; simp_all
  obtain ⟨rfl, rfl⟩ := trodVars_none hV
  obtain ⟨A0, n0, c0, N0, rfl, hlc0, hcm0, hwf0, hrw0⟩ := open_rows (n := 8) (k0 := .i64) (ks := [.i64, .i64, .i64, .i64, .i64, .i64]) Try.underlying22 (by kernel_rfl) (by kernel_rfl) (hval 0 22 v0 rfl rfl) h0
  obtain ⟨A1, n1, c1, N1, rfl, hlc1, hcm1, hwf1, hrw1⟩ := open_rows (n := 8) (k0 := .i64) (ks := []) Try.underlying23 (by kernel_rfl) (by kernel_rfl) (hval 1 23 v1 rfl rfl) h1
  obtain ⟨cs2, rfl, hi2⟩ := open_plain (n := 8) (ks := [.i64, .i64, .i64, .i64]) (by kernel_rfl) (by kernel_rfl) (hval 2 24 v2 rfl rfl) h2
  obtain ⟨a2_0, a2_1, a2_2, a2_3, rfl, w2_0, w2_1, w2_2, w2_3⟩ := ints4 hi2
  have b2_0 := bd_i64 w2_0
  have b2_1 := bd_i64 w2_1
  have b2_2 := bd_i64 w2_2
  have b2_3 := bd_i64 w2_3
  clear hA0 hval0
  simp only [List.append_nil] at hW'
  refine (law_speeds _ _ _ _ _ _ _ _ _ _ _ _ W (rd7 hlc0 hcm0 hrw0) (rd1 hlc1 hcm1 hrw1)).mono fun e W' ⟨he, hg⟩ => ?_
  subst he
  exact ⟨_, rfl, law_post rfl hW' hg (by kernel_rfl) rfl rfl rfl rfl⟩

theorem over : Rows.topSpeedsRow.holds Try.pinned (OpenSpec.ofChange Rows.topSpeedsSpec) :=
  OpenClaim.holds_of_wide 3 Try.f3 rfl rfl rfl rfl rfl rfl rfl ⟨rfl, rfl, rfl, rfl, rfl⟩ rfl rfl rfl rfl rfl (by kernel_rfl) Try.func3 (by kernel_rfl)
    (of_decide_eq_true (by kernel_rfl)) (by unfold Func.isWrapper; first | (rw [if_pos (by decide +kernel)]; kernel_rfl) | (rw [if_neg (by decide +kernel)]; exact ⟨rfl, rfl⟩))
    (fun os started H enc _ => lifted os started H enc)

theorem proved : Rows.TopSpeedsSaid :=
  over
#print axioms proved
end Go.Proofs.Ytpipjpgcnbpllaa.topSpeeds
