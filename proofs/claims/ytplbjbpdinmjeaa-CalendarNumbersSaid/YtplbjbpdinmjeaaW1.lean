/-
  Contracts: Leap, MonthDays, january, Days, Date, Weekday, Split, Join, of the program and of the reference.
-/
import Derived.Test.YtplbjbpdinmjeaaChecked
import Derived.Test.YtplbjbpdinmjeaaPlain
import Derived.WalkKit
import Derived.WalkSpells
import Derived.WalkLawsBesides
import Derived.Outline
import Derived.Lib.Hide
namespace Go.Proofs.Ytplbjbpdinmjeaa
set_option linter.unusedVariables false
open Go.RowKit

theorem ret_bool {a b : Bool} (h : a = b) : Ending.returned (.bool a) = .returned (.bool b) := by rw [h]
theorem ret_int {k : IntKind} {a b : Int} (h : a = b) : Ending.returned (.int k a) = .returned (.int k b) := by rw [h]
theorem ret_ints {k l : IntKind} {a b c d : Int} (h : a = b) (h2 : c = d) : Ending.returned (.tuple #[.int k a, .int l c]) = .returned (.tuple #[.int k b, .int l d]) := by rw [h, h2]

theorem leap_c (y : Int) (w : World) : Calls Try.prog 15 #[.int .i64 y] w fun e w' => e = .returned (.bool (Cal.leapB y)) ∧ w = w' := by
  by_cases h1 : 2000 ≤ y
  · by_cases h2 : y ≤ 2099
    · go_enter Try.func15, Try.ntmps15
      go_wp2
      go_ret
      exact ⟨ret_bool (by rw [Bool.eq_iff_iff]; simp [Cal.leapB]; omega), rfl⟩
    · go_enter Try.func15, Try.ntmps15
      go_wp2
      go_ret
      exact ⟨ret_bool (by rw [Bool.eq_iff_iff]; simp [Cal.leapB]; omega), rfl⟩
  · go_enter Try.func15, Try.ntmps15
    go_wp2
    go_ret
    exact ⟨ret_bool (by rw [Bool.eq_iff_iff]; simp [Cal.leapB]; omega), rfl⟩
theorem rleap_c (y : Int) (w : World) : Calls Try.prog 16 #[.int .i64 y] w fun e w' => e = .returned (.bool (Cal.leapB y)) ∧ w = w' := by
  by_cases h1 : 2000 ≤ y
  · by_cases h2 : y ≤ 2099
    · go_enter Try.func16, Try.ntmps16
      go_wp2
      go_ret
      exact ⟨ret_bool (by rw [Bool.eq_iff_iff]; simp [Cal.leapB]; omega), rfl⟩
    · go_enter Try.func16, Try.ntmps16
      go_wp2
      go_ret
      exact ⟨ret_bool (by rw [Bool.eq_iff_iff]; simp [Cal.leapB]; omega), rfl⟩
  · go_enter Try.func16, Try.ntmps16
    go_wp2
    go_ret
    exact ⟨ret_bool (by rw [Bool.eq_iff_iff]; simp [Cal.leapB]; omega), rfl⟩

theorem leap_yes (y : Int) (h1 : 2000 ≤ y) (h2 : y ≤ 2099) (h : y % 4 = 0) : Cal.leapB y = true := by simp [Cal.leapB]; omega
theorem leap_no (y : Int) (h : ¬ y % 4 = 0) : Cal.leapB y = false := by simp [Cal.leapB]; omega

theorem idx0 (w : World) : (Instr.index 46 (.agg #[.int .i64 31, .int .i64 28, .int .i64 31, .int .i64 30, .int .i64 31, .int .i64 30, .int .i64 31, .int .i64 31, .int .i64 30, .int .i64 31, .int .i64 30, .int .i64 31]) (.int .i64 0)).run Try.prog w = .ok (.int .i64 31) w := by kernel_rfl
theorem idx1 (w : World) : (Instr.index 46 (.agg #[.int .i64 31, .int .i64 28, .int .i64 31, .int .i64 30, .int .i64 31, .int .i64 30, .int .i64 31, .int .i64 31, .int .i64 30, .int .i64 31, .int .i64 30, .int .i64 31]) (.int .i64 1)).run Try.prog w = .ok (.int .i64 28) w := by kernel_rfl
theorem idx2 (w : World) : (Instr.index 46 (.agg #[.int .i64 31, .int .i64 28, .int .i64 31, .int .i64 30, .int .i64 31, .int .i64 30, .int .i64 31, .int .i64 31, .int .i64 30, .int .i64 31, .int .i64 30, .int .i64 31]) (.int .i64 2)).run Try.prog w = .ok (.int .i64 31) w := by kernel_rfl
theorem idx3 (w : World) : (Instr.index 46 (.agg #[.int .i64 31, .int .i64 28, .int .i64 31, .int .i64 30, .int .i64 31, .int .i64 30, .int .i64 31, .int .i64 31, .int .i64 30, .int .i64 31, .int .i64 30, .int .i64 31]) (.int .i64 3)).run Try.prog w = .ok (.int .i64 30) w := by kernel_rfl
theorem idx4 (w : World) : (Instr.index 46 (.agg #[.int .i64 31, .int .i64 28, .int .i64 31, .int .i64 30, .int .i64 31, .int .i64 30, .int .i64 31, .int .i64 31, .int .i64 30, .int .i64 31, .int .i64 30, .int .i64 31]) (.int .i64 4)).run Try.prog w = .ok (.int .i64 31) w := by kernel_rfl
theorem idx5 (w : World) : (Instr.index 46 (.agg #[.int .i64 31, .int .i64 28, .int .i64 31, .int .i64 30, .int .i64 31, .int .i64 30, .int .i64 31, .int .i64 31, .int .i64 30, .int .i64 31, .int .i64 30, .int .i64 31]) (.int .i64 5)).run Try.prog w = .ok (.int .i64 30) w := by kernel_rfl
theorem idx6 (w : World) : (Instr.index 46 (.agg #[.int .i64 31, .int .i64 28, .int .i64 31, .int .i64 30, .int .i64 31, .int .i64 30, .int .i64 31, .int .i64 31, .int .i64 30, .int .i64 31, .int .i64 30, .int .i64 31]) (.int .i64 6)).run Try.prog w = .ok (.int .i64 31) w := by kernel_rfl
theorem idx7 (w : World) : (Instr.index 46 (.agg #[.int .i64 31, .int .i64 28, .int .i64 31, .int .i64 30, .int .i64 31, .int .i64 30, .int .i64 31, .int .i64 31, .int .i64 30, .int .i64 31, .int .i64 30, .int .i64 31]) (.int .i64 7)).run Try.prog w = .ok (.int .i64 31) w := by kernel_rfl
theorem idx8 (w : World) : (Instr.index 46 (.agg #[.int .i64 31, .int .i64 28, .int .i64 31, .int .i64 30, .int .i64 31, .int .i64 30, .int .i64 31, .int .i64 31, .int .i64 30, .int .i64 31, .int .i64 30, .int .i64 31]) (.int .i64 8)).run Try.prog w = .ok (.int .i64 30) w := by kernel_rfl
theorem idx9 (w : World) : (Instr.index 46 (.agg #[.int .i64 31, .int .i64 28, .int .i64 31, .int .i64 30, .int .i64 31, .int .i64 30, .int .i64 31, .int .i64 31, .int .i64 30, .int .i64 31, .int .i64 30, .int .i64 31]) (.int .i64 9)).run Try.prog w = .ok (.int .i64 31) w := by kernel_rfl
theorem idx10 (w : World) : (Instr.index 46 (.agg #[.int .i64 31, .int .i64 28, .int .i64 31, .int .i64 30, .int .i64 31, .int .i64 30, .int .i64 31, .int .i64 31, .int .i64 30, .int .i64 31, .int .i64 30, .int .i64 31]) (.int .i64 10)).run Try.prog w = .ok (.int .i64 30) w := by kernel_rfl
theorem idx11 (w : World) : (Instr.index 46 (.agg #[.int .i64 31, .int .i64 28, .int .i64 31, .int .i64 30, .int .i64 31, .int .i64 30, .int .i64 31, .int .i64 31, .int .i64 30, .int .i64 31, .int .i64 30, .int .i64 31]) (.int .i64 11)).run Try.prog w = .ok (.int .i64 31) w := by kernel_rfl

def mdN (m : Int) : Int := if m = 2 then 28 else if m = 4 ∨ m = 6 ∨ m = 9 ∨ m = 11 then 30 else 31
theorem idx_c (m : Int) (h1 : 1 ≤ m) (h2 : m ≤ 12) (w : World) : (Instr.index 46 (.agg #[.int .i64 31, .int .i64 28, .int .i64 31, .int .i64 30, .int .i64 31, .int .i64 30, .int .i64 31, .int .i64 31, .int .i64 30, .int .i64 31, .int .i64 30, .int .i64 31]) (.int .i64 (m - 1))).run Try.prog w = .ok (.int .i64 (mdN m)) w :=
  Cal.cases12 (P := fun m => (Instr.index 46 (.agg #[.int .i64 31, .int .i64 28, .int .i64 31, .int .i64 30, .int .i64 31, .int .i64 30, .int .i64 31, .int .i64 31, .int .i64 30, .int .i64 31, .int .i64 30, .int .i64 31]) (.int .i64 (m - 1))).run Try.prog w = .ok (.int .i64 (mdN m)) w) m h1 h2
    (idx0 w) (idx1 w) (idx2 w) (idx3 w) (idx4 w) (idx5 w) (idx6 w) (idx7 w) (idx8 w) (idx9 w) (idx10 w) (idx11 w)
theorem md_eq (y m : Int) (h1 : 2000 ≤ y) (h2 : y ≤ 2099) (h3 : 1 ≤ m) (h4 : m ≤ 12) : Cal.md y m = if m = 2 then 28 + Cal.lp y else mdN m := by
  unfold Cal.md mdN; rw [if_neg (by omega)]
  by_cases h : m = 2
  · rw [if_pos h, if_pos h]
  · rw [if_neg h, if_neg h, if_neg h]
theorem lp_yes (y : Int) (h : y % 4 = 0) : Cal.lp y = 1 := by unfold Cal.lp; rw [if_pos h]
theorem lp_no (y : Int) (h : ¬ y % 4 = 0) : Cal.lp y = 0 := by unfold Cal.lp; rw [if_neg h]

set_option maxHeartbeats 1000000 in
theorem md_c (y m : Int) (w : World) : Calls Try.prog 17 #[.int .i64 y, .int .i64 m] w fun e w' => e = .returned (.int .i64 (Cal.md y m)) ∧ w = w' := by
  by_cases h1 : 2000 ≤ y
  · by_cases h2 : y ≤ 2099
    · by_cases h3 : 1 ≤ m
      · by_cases h4 : m ≤ 12
        · have he := md_eq y m h1 h2 h3 h4
          by_cases h6 : m = 2
          · subst h6
            by_cases h5 : y % 4 = 0
            · have hl := leap_yes y h1 h2 h5
              have HE := Lib.hid (he.trans (by rw [if_pos rfl, lp_yes y h5]))
              clear h5 he
              go_enter Try.func17, Try.ntmps17
              go_wp2_with (go_at_call 15; refine (leap_c _ _).mono ?_; rintro e w' ⟨rfl, rfl⟩)
              go_ret
              exact ⟨ret_int HE.out.symm, rfl⟩
            · have hl := leap_no y h5
              have HE := Lib.hid (he.trans (by rw [if_pos rfl, lp_no y h5]))
              clear h5 he
              have hix := idx1
              go_enter Try.func17, Try.ntmps17
              go_wp2_with (go_at_call 15; refine (leap_c _ _).mono ?_; rintro e w' ⟨rfl, rfl⟩)
              go_ret
              exact ⟨ret_int HE.out.symm, rfl⟩
          · have HE := Lib.hid (he.trans (by rw [if_neg h6]))
            have hix := idx_c m h3 h4
            have q : (m == 2) = false := by simpa using h6
            clear he h6
            go_enter Try.func17, Try.ntmps17
            go_wp2
            go_ret
            exact ⟨ret_int HE.out.symm, rfl⟩
        · go_enter Try.func17, Try.ntmps17
          go_wp2
          go_ret
          exact ⟨ret_int (Cal.md_out y m (by omega)).symm, rfl⟩
      · go_enter Try.func17, Try.ntmps17
        go_wp2
        go_ret
        exact ⟨ret_int (Cal.md_out y m (by omega)).symm, rfl⟩
    · go_enter Try.func17, Try.ntmps17
      go_wp2
      go_ret
      exact ⟨ret_int (Cal.md_out y m (by omega)).symm, rfl⟩
  · go_enter Try.func17, Try.ntmps17
    go_wp2
    go_ret
    exact ⟨ret_int (Cal.md_out y m (by omega)).symm, rfl⟩

set_option maxHeartbeats 1000000 in
theorem rmd_c (y m : Int) (w : World) : Calls Try.prog 18 #[.int .i64 y, .int .i64 m] w fun e w' => e = .returned (.int .i64 (Cal.md y m)) ∧ w = w' := by
  by_cases h1 : 2000 ≤ y
  · by_cases h2 : y ≤ 2099
    · by_cases h3 : 1 ≤ m
      · by_cases h4 : m ≤ 12
        · have he := md_eq y m h1 h2 h3 h4
          by_cases h6 : m = 2
          · subst h6
            by_cases h5 : y % 4 = 0
            · have hl := leap_yes y h1 h2 h5
              have HE := Lib.hid (he.trans (by rw [if_pos rfl, lp_yes y h5]))
              clear h5 he
              go_enter Try.func18, Try.ntmps18
              go_wp2_with (go_at_call 16; refine (rleap_c _ _).mono ?_; rintro e w' ⟨rfl, rfl⟩)
              go_ret
              exact ⟨ret_int HE.out.symm, rfl⟩
            · have hl := leap_no y h5
              have HE := Lib.hid (he.trans (by rw [if_pos rfl, lp_no y h5]))
              clear h5 he
              go_enter Try.func18, Try.ntmps18
              go_wp2_with (go_at_call 16; refine (rleap_c _ _).mono ?_; rintro e w' ⟨rfl, rfl⟩)
              go_ret
              exact ⟨ret_int HE.out.symm, rfl⟩
          · by_cases h7 : m = 4 ∨ m = 6 ∨ m = 9 ∨ m = 11
            · have HE : Hid (Cal.md y m = 30) := Lib.hid (by rw [he, if_neg h6]; unfold mdN; rw [if_neg h6, if_pos h7])
              clear he h6
              rcases h7 with rfl | rfl | rfl | rfl
              all_goals
                go_enter Try.func18, Try.ntmps18
                go_wp2
                go_ret
                exact ⟨ret_int HE.out.symm, rfl⟩
            · have HE : Hid (Cal.md y m = 31) := Lib.hid (by rw [he, if_neg h6]; unfold mdN; rw [if_neg h6, if_neg h7])
              have q : (m == 2) = false := by simpa using h6
              have q4 : (m == 4) = false := by rw [beq_eq_false_iff_ne]; omega
              have q6 : (m == 6) = false := by rw [beq_eq_false_iff_ne]; omega
              have q9 : (m == 9) = false := by rw [beq_eq_false_iff_ne]; omega
              have q11 : (m == 11) = false := by rw [beq_eq_false_iff_ne]; omega
              clear he h6 h7
              go_enter Try.func18, Try.ntmps18
              go_wp2
              go_ret
              exact ⟨ret_int HE.out.symm, rfl⟩
        · go_enter Try.func18, Try.ntmps18
          go_wp2
          go_ret
          exact ⟨ret_int (Cal.md_out y m (by omega)).symm, rfl⟩
      · go_enter Try.func18, Try.ntmps18
        go_wp2
        go_ret
        exact ⟨ret_int (Cal.md_out y m (by omega)).symm, rfl⟩
    · go_enter Try.func18, Try.ntmps18
      go_wp2
      go_ret
      exact ⟨ret_int (Cal.md_out y m (by omega)).symm, rfl⟩
  · go_enter Try.func18, Try.ntmps18
    go_wp2
    go_ret
    exact ⟨ret_int (Cal.md_out y m (by omega)).symm, rfl⟩

theorem jan_c (y : Int) (w : World) (h1 : 2000 ≤ y) (h2 : y ≤ 2100) : Calls Try.prog 45 #[.int .i64 y] w fun e w' => e = .returned (.int .i64 (Cal.jan y)) ∧ w = w' := by
  go_enter Try.func45, Try.ntmps45
  go_wp2
  go_ret
  exact ⟨ret_int (by unfold Cal.jan; omega), rfl⟩

end Go.Proofs.Ytplbjbpdinmjeaa
