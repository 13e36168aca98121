/-
  Words for walk.
-/
import Derived.Test.YtbmfkncfenkjoaaL8
namespace Go.Proofs.Ytbmfkncfenkjoaa
set_option linter.unusedVariables false
set_option linter.unusedSimpArgs false
open Go.RowKit
attribute [local irreducible] World.setCell World.cell?

def bv (N : Nat → Int) : Nat → Nat → Value := fun i _ => .int .u8 (N i)
theorem Rd.atb {w : World} {A : Option Addr} {n c : Nat} {N : Nat → Int} (h : Rd w 1 A n c (bv N)) {k : Nat} (hk : k < n) : ∃ b off, A = some ⟨b, off, none⟩ ∧ b < w.heap.size ∧ w.cell? ⟨b, off + k, none⟩ = some (.int .u8 (N k)) := by
  obtain ⟨b, off, e, hl, hc⟩ := h.at_ (by omega)
  exact ⟨b, off, e, hl, by simpa [bv] using hc k 0 hk (by omega)⟩
namespace Ce
theorem ps_up (E : Tab) (R : Nat → Int) (a : Int) (l : Nat) (x : Int) : ∀ k, k ≤ l → ps E (up R l x) a k = ps E R a k
  | 0, _ => rfl
  | k + 1, h => by rw [ps, ps, up_ne (show k ≠ l by omega)]
theorem Rt.start (m : Nat) (E : Tab) (a : Int) (R : Nat → Int) : Rt m E a a 0 R := ⟨by omega, fun k hk => absurd hk (Nat.not_lt_zero _), fun k hk => absurd hk (Nat.not_lt_zero _), rfl⟩
theorem Rt.snoc {m : Nat} {E : Tab} {a x : Int} {l : Nat} {R : Nat → Int} (h : Rt m E a x l R) (hl : l < 8192) {k : Int} (k0 : 0 ≤ k) (k1 : k < m) (hk : E k.toNat 0 = x) : Rt m E a (E k.toNat 1) (l + 1) (up R l k) := by
  refine ⟨by omega, fun j hj => ?_, fun j hj => ?_, ?_⟩
  · by_cases e : j = l
    · subst e; rw [up_at]; exact ⟨k0, k1⟩
    · rw [up_ne e]; exact h.i j (by omega)
  · rw [ps_up E R a l k j (by omega)]
    by_cases e : j = l
    · subst e; rw [up_at, hk]; exact h.e.symm
    · rw [up_ne e]; exact h.p j (by omega)
  · rw [ps, up_at]
end Ce
theorem own_up {w : World} {b : Nat} {e : TypeId} {A : Option Addr} {j c : Nat} {R : Nat → Int} {x : Int} (h : Own w b e 1 A (j + 1) c (app j (nv R) (nv fun _ => x))) : Own w b e 1 A (j + 1) c (nv (Ce.up R j x)) :=
  h.congr fun i f hi _ => by
    unfold app nv
    by_cases q : i < j
    · rw [if_pos q, Ce.up_ne (by omega)]
    · obtain rfl : i = j := by omega
      rw [if_neg q, Ce.up_at]
end Go.Proofs.Ytbmfkncfenkjoaa
