/-
  Contracts: the program's Conflicts and Excess.
-/
import Derived.Test.YtpipjpgcnbpllaaW9
namespace Go.Proofs.Ytpipjpgcnbpllaa
set_option linter.unusedVariables false
set_option linter.unusedSimpArgs false
open Go.RowKit

set_option maxHeartbeats 1000000 in
theorem conflicts_c (A B : Option Addr) (n c m d : Nat) (N S : Nat → Nat → Int) (w : World) (R : Rd w 2 A n c (iv N)) (T : Rd w 2 B m d (iv S)) :
    Calls Try.prog 8 #[.slice A n c, .slice B m d] w fun e w' => e = .returned (.tuple #[.agg #[.int .i64 (Co.fI n N m S), .int .i64 (Co.fJ n N m S)], .bool (Co.fB n N m S), .int .i64 (Co.ck n N m S)]) ∧ Below w.heap.size w w' := by
  rcases Co.cfl_cases n N m S with ⟨eL, hno⟩ | ⟨a, b, l, eL, h0, h1, h2, h3⟩
  · obtain ⟨f1, f2, f3⟩ := Co.f_no hno
    have EL := Lib.hid eL
    clear eL hno
    rw [f1, f2, f3]
    go_enter Try.func8, Try.ntmps8
    go_wp2_with fail
    refine (all_c _ _ _ _ _ _ _ _ _ (R.alloc _) (T.alloc _)).mono ?_
    rintro e w1 ⟨A1, c1, rfl, own, hb⟩
    rw [EL.out]
    obtain ⟨z0, z1, z2, z3⟩ := ((Blk.new w 42 #[.int .i64 0, .int .i64 0]).keep hb).open2
    go_wp2
    refine bodyPost_ret (by simp [results, Try.results8, go_sem, z0, z1, z2, z3]; try rfl) rfl ?_
    exact ⟨rfl, by repeat (first | exact Below.refl _ _ | (with_reducible assumption) | (with_reducible apply bal) | (with_reducible apply bdr) | (with_reducible apply bdnl) | (with_reducible refine bst ?_ (by first | (simp; done) | (simp; omega) | omega) _) | (with_reducible refine bt ?_ (by with_reducible assumption)))⟩
  · obtain ⟨f1, f2, f3⟩ := Co.f_yes h0 h1
    rw [h2] at f2
    rw [h3] at f3
    have EL := Lib.hid eL
    clear eL h1 h2 h3
    rw [f1, f2, f3, h0]
    have H0 := Lib.hid h0
    clear h0
    go_enter Try.func8, Try.ntmps8
    go_wp2_with fail
    refine (all_c _ _ _ _ _ _ _ _ _ (R.alloc _) (T.alloc _)).mono ?_
    rintro e w1 ⟨A1, c1, rfl, own, hb⟩
    rw [EL.out, H0.out]
    rw [EL.out] at own
    obtain ⟨g, rfl, hg1, hg2⟩ := own.pos (by simp)
    have u0 : w1.cell? ⟨g, 0, none⟩ = some (.int .i64 (a : Int)) := own.cell (i := 0) (j := 0) (by simp) (by omega)
    have u1 : w1.cell? ⟨g, 1, none⟩ = some (.int .i64 (b : Int)) := own.cell (i := 0) (j := 1) (by simp) (by omega)
    obtain ⟨z0, z1, z2, z3⟩ := ((Blk.new w 42 #[.int .i64 0, .int .i64 0]).keep hb).open2
    go_wp2
    refine bodyPost_ret (by simp [results, Try.results8, go_sem, z0, z1, z2, z3]; try rfl) rfl ?_
    exact ⟨rfl, by repeat (first | exact Below.refl _ _ | (with_reducible assumption) | (with_reducible apply bal) | (with_reducible apply bdr) | (with_reducible apply bdnl) | (with_reducible refine bst ?_ (by first | (simp; done) | (simp; omega) | omega) _) | (with_reducible refine bt ?_ (by with_reducible assumption)))⟩

set_option maxHeartbeats 1000000 in
theorem excess_c (A B : Option Addr) (n c m d : Nat) (N S : Nat → Nat → Int) (I J : Int) (w : World) (R : Rd w 2 A n c (iv N)) (T : Rd w 2 B m d (iv S)) :
    Calls Try.prog 9 #[.slice A n c, .slice B m d, .agg #[.int .i64 I, .int .i64 J]] w fun e w' => e = .returned (.tuple #[.int .i64 (Co.xsV n N m S I J), .int .i64 (Co.xsE n N m S I J)]) ∧ Below w.heap.size w w' := by
  have r1 := R.le
  have r2 := R.mx
  by_cases hck : Co.ck n N m S = 0
  rotate_left
  · have h3 : (Co.ck n N m S != 0) = true := by simpa using hck
    have e1 : Co.xsE n N m S I J = Co.ck n N m S := by unfold Co.xsE; rw [if_pos hck]
    have e2 : Co.xsV n N m S I J = 0 := by unfold Co.xsV; rw [e1, if_neg hck]
    rw [e1, e2]
    clear hck e1 e2
    go_enter Try.func9, Try.ntmps9
    go_wp2_with fail
    refine (check_c _ _ _ _ _ _ _ _ _ (R.alloc _) (T.alloc _)).mono ?_
    rintro e w1 ⟨rfl, hb⟩
    go_wp2
    go_returns
    exact ⟨rfl, by repeat (first | exact Below.refl _ _ | (with_reducible assumption) | (with_reducible apply bal) | (with_reducible apply bdr) | (with_reducible apply bdnl) | (with_reducible refine bst ?_ (by first | (simp; done) | (simp; omega) | omega) _) | (with_reducible refine bt ?_ (by with_reducible assumption)))⟩
  have O := Co.ck_ok.1 hck
  have hc := Lib.hid hck
  by_cases hb : I < 0 ∨ J < I ∨ (n : Int) ≤ J
  · have e1 : Co.xsE n N m S I J = 1 := by unfold Co.xsE; rw [if_neg (by omega), if_pos hb]
    have e2 : Co.xsV n N m S I J = 0 := by unfold Co.xsV; rw [e1]; rfl
    rw [e1, e2]
    clear hck e1 e2
    rcases (show I < 0 ∨ (0 ≤ I ∧ J < I) ∨ (0 ≤ I ∧ I ≤ J ∧ (n : Int) ≤ J) from by omega) with q | ⟨q1, q⟩ | ⟨q1, q2, q⟩
    all_goals
      clear hb
      go_enter Try.func9, Try.ntmps9
      go_wp2_with fail
      refine (check_c _ _ _ _ _ _ _ _ _ (R.alloc _) (T.alloc _)).mono ?_
      rw [hc.out]
      rintro e w1 ⟨rfl, hb⟩
      obtain ⟨hc1, hf1⟩ := bcell hb
      have hz : w.heap.size < w1.heap.size := by have := hb.size; simp at this; omega
      go_wp2
      go_returns
      exact ⟨rfl, by repeat (first | exact Below.refl _ _ | (with_reducible assumption) | (with_reducible apply bal) | (with_reducible apply bdr) | (with_reducible apply bdnl) | (with_reducible refine bst ?_ (by first | (simp; done) | (simp; omega) | omega) _) | (with_reducible refine bt ?_ (by with_reducible assumption)))⟩
  · obtain ⟨i, rfl⟩ : ∃ i : Nat, I = i := ⟨I.toNat, by omega⟩
    obtain ⟨j, rfl⟩ : ∃ j : Nat, J = j := ⟨J.toNat, by omega⟩
    have hij : i ≤ j := by omega
    have hj : j < n := by omega
    by_cases hx : Co.ex N S i j ≤ 0
    · have e1 : Co.xsE n N m S i j = 6 := by unfold Co.xsE; rw [if_neg (by omega), if_neg hb, if_pos (by simpa using hx)]
      have e2 : Co.xsV n N m S i j = 0 := by unfold Co.xsV; rw [e1]; rfl
      rw [e1, e2]
      clear hck e1 e2 hb
      go_enter Try.func9, Try.ntmps9
      go_wp2_with fail
      refine (check_c _ _ _ _ _ _ _ _ _ (R.alloc _) (T.alloc _)).mono ?_
      rw [hc.out]
      rintro e w1 ⟨rfl, hb⟩
      obtain ⟨hc1, hf1⟩ := bcell hb
      have hz : w.heap.size < w1.heap.size := by have := hb.size; simp at this; omega
      go_wp2_with fail
      refine (ex_c _ _ _ _ _ _ _ _ _ _ _ ((R.alloc _).keep hb) ((T.alloc _).keep hb) O hij hj).mono ?_
      rintro e w2 ⟨rfl, hb2⟩
      go_wp2
      go_returns
      exact ⟨rfl, by repeat (first | exact Below.refl _ _ | (with_reducible assumption) | (with_reducible apply bal) | (with_reducible apply bdr) | (with_reducible apply bdnl) | (with_reducible refine bst ?_ (by first | (simp; done) | (simp; omega) | omega) _) | (with_reducible refine bt ?_ (by with_reducible assumption)))⟩
    · have e1 : Co.xsE n N m S i j = 0 := by unfold Co.xsE; rw [if_neg (by omega), if_neg hb, if_neg (by simpa using hx)]
      have e2 : Co.xsV n N m S i j = Co.ex N S i j := by unfold Co.xsV; rw [e1]; simp
      rw [e1, e2]
      clear hck e1 e2 hb
      go_enter Try.func9, Try.ntmps9
      go_wp2_with fail
      refine (check_c _ _ _ _ _ _ _ _ _ (R.alloc _) (T.alloc _)).mono ?_
      rw [hc.out]
      rintro e w1 ⟨rfl, hb⟩
      obtain ⟨hc1, hf1⟩ := bcell hb
      have hz : w.heap.size < w1.heap.size := by have := hb.size; simp at this; omega
      go_wp2_with fail
      refine (ex_c _ _ _ _ _ _ _ _ _ _ _ ((R.alloc _).keep hb) ((T.alloc _).keep hb) O hij hj).mono ?_
      rintro e w2 ⟨rfl, hb2⟩
      go_wp2
      go_returns
      exact ⟨rfl, by repeat (first | exact Below.refl _ _ | (with_reducible assumption) | (with_reducible apply bal) | (with_reducible apply bdr) | (with_reducible apply bdnl) | (with_reducible refine bst ?_ (by first | (simp; done) | (simp; omega) | omega) _) | (with_reducible refine bt ?_ (by with_reducible assumption)))⟩
end Go.Proofs.Ytpipjpgcnbpllaa
