/-
  Plain: what Parse says of a text: its sign, its digits, its number or its error; no program in sight.
-/
import Derived.Test.YtnkgoojjnikaeaaPlain6
import Derived.PlainAid
namespace Go.Proofs.Ytnkgoojjnikaeaa
set_option linter.unusedVariables false
set_option linter.unusedSimpArgs false
namespace Wi
open Go.PlainAid
def png (s : ByteArray) : Bool := decide (0 < s.size ∧ bt s 0 = 45)
def ptx (s : ByteArray) : ByteArray := if png s = true then s.extract 1 s.size else s
/-- The form of the digits t behind a sign. -/
def tF (t : ByteArray) (n : Bool) : Prop := 1 ≤ t.size ∧ (bt t 0 = 48 → t.size = 1 ∧ n = false) ∧ digs (bt t) t.size
def tN (t : ByteArray) (n : Bool) : Int := sg (nm (bt t) t.size) n
open Classical in
noncomputable def tE (t : ByteArray) (n : Bool) : Int := if ¬ tF t n then 4 else if inW (tN t n) then 0 else 2
open Classical in
noncomputable def tV (t : ByteArray) (n : Bool) : Int := if ¬ tF t n then 0 else rv (tN t n)
noncomputable def pE (s : ByteArray) : Int := tE (ptx s) (png s)
noncomputable def pV (s : ByteArray) : Int := tV (ptx s) (png s)
theorem te_form {t : ByteArray} {n : Bool} (h : ¬ tF t n) : tE t n = 4 ∧ tV t n = 0 := ⟨by unfold tE; rw [if_pos h], by unfold tV; rw [if_pos h]⟩
theorem te_yes {t : ByteArray} {n : Bool} (h : tF t n) (h2 : inW (tN t n)) : tE t n = 0 ∧ tV t n = rv (tN t n) := ⟨by unfold tE; rw [if_neg (fun q => q h), if_pos h2], by unfold tV; rw [if_neg (fun q => q h)]⟩
theorem te_no {t : ByteArray} {n : Bool} (h : tF t n) (h2 : ¬ inW (tN t n)) : tE t n = 2 ∧ tV t n = 0 := ⟨by unfold tE; rw [if_neg (fun q => q h), if_neg h2], by unfold tV; rw [if_neg (fun q => q h), rv_no h2]⟩
theorem tn_big {t : ByteArray} {n : Bool} (h : digs (bt t) t.size) {k : Nat} (hk : k ≤ t.size) (hb : 340282366920938463463374607431768211456 ≤ nm (bt t) k) : ¬ inW (tN t n) := by
  have a := nm_le h hk
  unfold tN inW
  cases n <;> simp only [sg_t, sg_f] <;> omega
theorem in_tV (t : ByteArray) (n : Bool) : inW (tV t n) := by
  unfold tV; split
  · unfold inW; omega
  · exact in_rv _
theorem ptx_size (s : ByteArray) : (ptx s).size ≤ s.size := by
  unfold ptx; split
  · simp
  · exact Nat.le_refl _
end Wi
end Go.Proofs.Ytnkgoojjnikaeaa
