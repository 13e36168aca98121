/-
  Contracts: the laws' examples and the comparison of windows.
-/
import Derived.Test.YtpipjpgcnbpllaaW13
namespace Go.Proofs.Ytpipjpgcnbpllaa
set_option linter.unusedVariables false
set_option linter.unusedSimpArgs false
open Go.RowKit

/-- A list of pairs as a table, and as cells. -/
def tb (l : List (Int × Int)) : Nat → Nat → Int := fun i f => if f = 0 then (l.getD i (0, 0)).1 else (l.getD i (0, 0)).2
def fl : List (Int × Int) → List Value
  | [] => []
  | p :: l => .int .i64 p.1 :: .int .i64 p.2 :: fl l
theorem fl_get : ∀ (l : List (Int × Int)) (i j : Nat), i < l.length → j < 2 → (fl l)[i * 2 + j]? = some (iv (tb l) i j)
  | p :: l, 0, j, _, hj => by
    match j, hj with
    | 0, _ => rfl
    | 1, _ => rfl
  | p :: l, i + 1, j, hi, hj => by
    have := fl_get l i j (by simpa using hi) hj
    rw [show (i + 1) * 2 + j = (i * 2 + j) + 2 from by omega]
    simpa [fl, iv, tb] using this
theorem Rd.lit {w : World} {g : Nat} {t : TypeId} {cs : Array Value} {n : Nat} (l : List (Int × Int)) (h : Blk w g t cs) (e : cs = (fl l).toArray) (hn : n = l.length) (hm : n ≤ 9223372036854775807) : Rd w 2 (some ⟨g, 0, none⟩) n n (iv (tb l)) := by
  subst e hn
  exact Rd.of_blk h (Nat.le_refl _) hm fun i j hi hj => by simpa using fl_get l i j hi hj
def nb (l : List Int) : Nat → Int := fun i => l.getD i 0
theorem Rd.litn {w : World} {g : Nat} {t : TypeId} {cs : Array Value} {n : Nat} (l : List Int) (h : Blk w g t cs) (e : cs = (l.map (Value.int .i64)).toArray) (hn : n = l.length) (hm : n ≤ 9223372036854775807) : Rd w 1 (some ⟨g, 0, none⟩) n n (nv (nb l)) := by
  subst e hn
  exact Rd.of_blk h (Nat.le_refl _) hm fun i j hi hj => by
    obtain rfl : j = 0 := by omega
    simp [nv, nb, List.getD, List.getElem?_eq_getElem hi]
def exW : List (Int × Int) := [(0, 10), (0, 100), (50, 60)]
def exS1 : List (Int × Int) := [(15, 5), (20, 5)]
def exS2 : List (Int × Int) := [(25, 5), (20, 5)]
def exW3 : List (Int × Int) := [(5, 4), (0, 1)]
def exS3 : List (Int × Int) := [(0, 0)]
theorem ex1 : Co.fI 3 (tb exW) 2 (tb exS1) = 0 ∧ Co.fJ 3 (tb exW) 2 (tb exS1) = 2 ∧ Co.fB 3 (tb exW) 2 (tb exS1) = true ∧ Co.ck 3 (tb exW) 2 (tb exS1) = 0 := by decide +kernel
theorem ex2 : Co.xsV 3 (tb exW) 2 (tb exS1) 0 2 = 5 ∧ Co.xsE 3 (tb exW) 2 (tb exS1) 0 2 = 0 := by decide +kernel
theorem ex3 : Co.tgE 3 (tb exW) 2 (tb exS2) = 0 ∧ Co.tgL 3 (tb exW) 2 (tb exS2) = 3 := by decide +kernel
theorem ex4 : Co.tt 3 (tb exW) (tb exS2) 0 0 = 5 ∧ Co.tt 3 (tb exW) (tb exS2) 0 1 = 10 ∧ Co.tt 3 (tb exW) (tb exS2) 1 0 = 30 ∧ Co.tt 3 (tb exW) (tb exS2) 1 1 = 35 ∧ Co.tt 3 (tb exW) (tb exS2) 2 0 = 50 ∧ Co.tt 3 (tb exW) (tb exS2) 2 1 = 55 := by decide +kernel
theorem ex5 : Co.cfl 2 (tb exW3) 1 (tb exS3) = [(0, 0)] ∧ Co.ck 2 (tb exW3) 1 (tb exS3) = 0 := by decide +kernel
theorem ex6 : Co.mt 3 (tb exW) 2 (tb exS2) 3 (nb [10, 35, 55]) = true := by decide +kernel

end Go.Proofs.Ytpipjpgcnbpllaa
