/-
  Slices of the call's own, second part: rows of one cell, make.
-/
import Derived.Test.YtgkbjkgafiojjaaRd
import Derived.Laws.MakeOwn
namespace Go.Proofs.Ytgkbjkgafiojjaa
set_option linter.unusedVariables false
set_option linter.unusedSimpArgs false
open Go.RowKit
section
variable {w w' : World} {base : Nat} {e : TypeId} {A : Option Addr} {n c : Nat} {V : Nat → Nat → Value}
theorem Own.cell1 {g : Nat} {N : Nat → Int} (h : Own w base e 1 (some ⟨g, 0, none⟩) n c (nv N)) {i : Nat} (hi : i < n) : w.cell? ⟨g, i, none⟩ = some (.int .i64 (N i)) := by
  have := h.cell hi (show 0 < 1 by omega)
  rw [Nat.mul_one, Nat.add_zero] at this; exact this
theorem Own.set1 {g : Nat} {N N' : Nat → Int} (h : Own w base e 1 (some ⟨g, 0, none⟩) n c (nv N)) {i : Nat} (hi : i < n) (u : Int) (hu : N' i = u) (hv : ∀ i', i' < n → i' ≠ i → N' i' = N i') :
    Own (w.setCell ⟨g, i, none⟩ (.int .i64 u)) base e 1 (some ⟨g, 0, none⟩) n c (nv N') := by
  have := h.set (V' := nv N') hi (show 0 < 1 by omega) (.int .i64 u) (by simp [nv, hu]) (fun i' j' h1 h2 h3 => by unfold nv; rw [hv i' h1 (by omega)])
  rw [Nat.mul_one, Nat.add_zero] at this; exact this
theorem made_get (z : Array Value) (k j : Nat) (hj : j < k) : (madeCells z k).toList[j]? = some (z[j % z.size]!) := by
  simp [madeCells, hj]
theorem Own.made {z : Array Value} {q : Nat} (w : World) (e : TypeId) (n : Nat) (hz : z.size = q) (hq : 0 < q) (hm : n ≤ 9223372036854775807) (hb : base ≤ w.heap.size) (hv : ∀ i j, i < n → j < q → z[j]! = V i j) :
    Own (w.alloc (.cells (madeCells z (n * q)) e)) base e q (some ⟨w.heap.size, 0, none⟩) n n V := by
  refine ⟨_, World.ownsRow_lit (size := q) w (madeCells z (n * q)) n hb (by rw [maxLen_eq]; exact hm) (by rw [size_madeCells]), fun i j hi hj => ?_⟩
  have hlt : i * q + j < n * q := by
    have : (i + 1) * q ≤ n * q := Nat.mul_le_mul_right _ hi
    rw [Nat.add_mul] at this; omega
  rw [made_get _ _ _ hlt, hz]
  have d2 : (i * q + j) % q = j := by rw [Nat.mul_comm, Nat.mul_add_mod, Nat.mod_eq_of_lt hj]
  rw [d2, hv i j hi hj]
end
theorem run_make_n {P : Program} {t e : TypeId} {i : TypeInfo} {z : Value} {q bytes : Nat} (ht : P.underlying t = some (.slice e)) (hi : P.info? e = some i) (hz : i.zero = some z) (hs : i.size = q) (hb : i.bytes = bytes)
    (n : Nat) (hbytes : bytes * n ≤ 281474976710656) (h63 : n ≤ 9223372036854775807) (w : World) :
    (Instr.makeSlice t (.int .i64 (n : Int)) (.int .i64 (n : Int))).run P w = .ok (.slice (some ⟨w.heap.size, 0, none⟩) n n) (w.alloc (.cells (madeCells z.cells (n * q)) e)) := by
  subst hs hb
  have h : (i.bytes : Int) * (n : Int) ≤ 281474976710656 := by
    have h : ((i.bytes * n : Nat) : Int) ≤ 281474976710656 := by omega
    rwa [Int.natCast_mul] at h
  have hr := run_make (P := P) w t e i z ht hi hz .i64 .i64 n n (by omega) (by omega) h (by omega)
  simp only [Int.toNat_natCast] at hr
  exact hr
end Go.Proofs.Ytgkbjkgafiojjaa
