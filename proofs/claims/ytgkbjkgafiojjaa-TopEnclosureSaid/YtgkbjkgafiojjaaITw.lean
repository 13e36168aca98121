/-
  Words for the calculation on a stack of intervals: steps that read, cells with a member.
-/
import Derived.Test.YtgkbjkgafiojjaaITp
import Derived.Test.YtgkbjkgafiojjaaRd2
import Derived.Test.YtgkbjkgafiojjaaArg
namespace Go.Proofs.Ytgkbjkgafiojjaa
set_option linter.unusedVariables false
set_option linter.unusedSimpArgs false
open Go.RowKit
/-- Steps: a byte, two int64, a uint64. -/
def tv (N : Nat → Nat → Int) : Nat → Nat → Value := fun i j => match j with
  | 0 => .int .u8 (N i 0)
  | 1 => .int .i64 (N i 1)
  | 2 => .int .i64 (N i 2)
  | _ => .int .u64 (N i 3)
theorem Rd.atT {w : World} {A : Option Addr} {n c : Nat} {N : Nat → Nat → Int} (h : Rd w 4 A n c (tv N)) {k : Nat} (hk : k < n) : ∃ b off, A = some ⟨b, off, none⟩ ∧ b < w.heap.size ∧ w.cell? ⟨b, off + k * 4, none⟩ = some (.int .u8 (N k 0)) ∧ w.cell? ⟨b, off + k * 4 + 1, none⟩ = some (.int .i64 (N k 1)) ∧ w.cell? ⟨b, off + k * 4 + 2, none⟩ = some (.int .i64 (N k 2)) ∧ w.cell? ⟨b, off + k * 4 + 3, none⟩ = some (.int .u64 (N k 3)) := by
  obtain ⟨b, off, e, hl, hc⟩ := h.at_ (by omega)
  exact ⟨b, off, e, hl, hc k 0 hk (by omega), hc k 1 hk (by omega), hc k 2 hk (by omega), hc k 3 hk (by omega)⟩
theorem rdT {w : World} {A : Option Addr} {n c : Nat} {N : Nat → Nat → Int} (hlc : n ≤ c) (hcm : c ≤ maxLen)
    (hrw : 0 < n → ∃ b off : Nat, A = some ⟨b, off, none⟩ ∧ b < w.heap.size ∧ ∀ i j k, i < n → [IntKind.u8, IntKind.i64, IntKind.i64, IntKind.u64][j]? = some k → w.cell? ⟨b, off + (i * ([IntKind.i64, IntKind.i64, IntKind.u64].length + 1) + j), none⟩ = some (.int k (N i j))) : Rd w 4 A n c (tv N) :=
  ⟨hlc, by rw [maxLen_eq] at hcm; exact hcm, fun hn => by
    obtain ⟨b, off, e, hl, hc⟩ := hrw hn
    refine ⟨b, off, e, hl, fun i j hi hj => ?_⟩
    rw [Nat.add_assoc]
    match j, hj with
    | 0, _ => exact hc i 0 .u8 hi rfl
    | 1, _ => exact hc i 1 .i64 hi rfl
    | 2, _ => exact hc i 2 .i64 hi rfl
    | 3, _ => exact hc i 3 .u64 hi rfl⟩
/-- The first m. -/
theorem Rd.short {w : World} {q : Nat} {A : Option Addr} {n c m : Nat} {V : Nat → Nat → Value} (h : Rd w q A n c V) (hm : m ≤ n) : Rd w q A m c V :=
  ⟨Nat.le_trans hm h.le, h.mx, fun hp => by
    obtain ⟨b, off, e, hl, hc⟩ := h.at_ (by omega)
    exact ⟨b, off, e, hl, fun i j hi hj => hc i j (by omega) hj⟩⟩
def row3 (a b c : Int) : Nat → Nat → Int := fun _ j => match j with
  | 0 => a
  | 1 => b
  | _ => c
theorem rd_row3 (w : World) (t : TypeId) (a b c : Int) {H : Nat} (hH : w.heap.size = H) : Rd (w.alloc (.cells #[.int .i64 a, .int .i64 b, .int .i64 c] t)) 3 (some ⟨H, 0, none⟩) 1 1 (iv (row3 a b c)) := by
  subst hH
  exact Rd.of_blk (Blk.new w t _) (Nat.le_refl _) (by omega) fun i j hi hj => by
    match i, j, hi, hj with
    | 0, 0, _, _ => rfl
    | 0, 1, _, _ => rfl
    | 0, 2, _, _ => rfl
/-- A cell more on the stack. -/
def push (n : Nat) (K : Nat → Nat → Int) (a b c : Int) : Nat → Nat → Int := fun i j => if i < n then K i j else row3 a b c 0 j
theorem push_lt {n : Nat} {K : Nat → Nat → Int} {a b c : Int} {i : Nat} (h : i < n) (j : Nat) : push n K a b c i j = K i j := if_pos h
theorem push_at {n : Nat} {K : Nat → Nat → Int} {a b c : Int} (j : Nat) : push n K a b c n j = row3 a b c 0 j := if_neg (by omega)
theorem push_mem {n : Nat} {K : Nat → Nat → Int} {a b c : Int} (h : ∀ i, i < n → Iv.Mem (K i 0) (K i 1) (K i 2)) (hm : Iv.Mem a b c) : ∀ i, i < n + 1 → Iv.Mem (push n K a b c i 0) (push n K a b c i 1) (push n K a b c i 2) := fun i hi => by
  by_cases e : i = n
  · subst e; rw [push_at, push_at, push_at]; exact hm
  · rw [push_lt (by omega), push_lt (by omega), push_lt (by omega)]; exact h i (by omega)
theorem own_push {w : World} {b : Nat} {t : TypeId} {A : Option Addr} {c n : Nat} {K : Nat → Nat → Int} {x y z : Int} (h : Own w b t 3 A (n + 1) c (app n (iv K) (iv (row3 x y z)))) : Own w b t 3 A (n + 1) c (iv (push n K x y z)) := by
  refine h.congr fun i f hi hf => ?_
  rw [app_int]
  unfold iv
  by_cases q : i < n
  · simp only [if_pos q, push_lt q]
  · obtain rfl : i = n := by omega
    simp only [if_neg q, Nat.sub_self, push_at]
theorem own_first {w : World} {b : Nat} {t : TypeId} {A : Option Addr} {c n : Nat} {K J : Nat → Nat → Int} (h : Own w b t 3 A (0 + n) c (app 0 (iv J) (iv K))) : Own w b t 3 A n c (iv K) := by
  rw [Nat.zero_add] at h
  refine h.congr fun i f hi hf => ?_
  rw [app_int]
  unfold iv
  simp
def oa : Nat → Option Addr
  | 0 => none
  | g + 1 => some ⟨g, 0, none⟩
theorem oa_form {w : World} {b : Nat} {e : TypeId} {q : Nat} {A : Option Addr} {n c : Nat} {V : Nat → Nat → Value} (h : Own w b e q A n c V) : ∃ u, oa u = A := by
  obtain ⟨_, _, ⟨rfl, _⟩ | ⟨g, rfl, _⟩⟩ := h.form
  · exact ⟨0, rfl⟩
  · exact ⟨g + 1, rfl⟩
theorem own_first2 {w : World} {b : Nat} {t : TypeId} {A : Option Addr} {c n : Nat} {K J : Nat → Nat → Int} (h : Own w b t 3 A (0 + n) c (app 0 (iv J) (iv K))) : Own w b t 3 A (0 + n) c (iv K) := by
  refine h.congr fun i f hi hf => ?_
  rw [app_int]
  unfold iv
  simp
theorem te_base {w : World} {B0 : Nat} {e : TypeId} {q n c : Nat} {A : Option Addr} {V : Nat → Nat → Value} (h : Own w B0 e q A n c V) {g : Nat} (hg : ob A = some g) : B0 ≤ g := by
  obtain ⟨_, _, ⟨rfl, _⟩ | ⟨g', rfl, hb, _⟩⟩ := h.form
  · cases hg
  · have : g' = g := by simpa [ob] using hg
    omega
theorem te_top {w : World} {B0 : Nat} {e : TypeId} {q n c : Nat} {A : Option Addr} {V : Nat → Nat → Value} (h : Own w B0 e q A n c V) {g : Nat} (hg : ob A = some g) : g < w.heap.size := by
  obtain ⟨_, _, ⟨rfl, _⟩ | ⟨g', rfl, _, hl⟩⟩ := h.form
  · cases hg
  · have : g' = g := by simpa [ob] using hg
    omega
theorem te_empty (w : World) (base : Nat) (e : TypeId) (q : Nat) (V : Nat → Nat → Value) (hb : base ≤ w.heap.size) : Own (w.alloc (.cells #[] e)) base e q (some ⟨w.heap.size, 0, none⟩) 0 0 V :=
  ⟨_, World.ownsRow_lit (size := q) w #[] 0 hb (by rw [maxLen_eq]; omega) (by simp), fun i j hi => absurd hi (by omega)⟩
theorem te_grown {w w' : World} {g : Nat} {t : TypeId} {cs : Array Value} {row : Option Nat} (h : Blk w g t cs) (hg : w.grownBy w' row) (hne : row ≠ some g) : Blk w' g t cs := (hg.block g h.lt (fun e => hne e.symm)).trans h
theorem te_src {w : World} {g : Nat} {t : TypeId} {a b c : Int} (h : Blk w g t #[.int .i64 a, .int .i64 b, .int .i64 c]) : Rd w 3 (some ⟨g, 0, none⟩) 1 1 (iv (row3 a b c)) :=
  Rd.of_blk h (Nat.le_refl _) (by omega) fun i j hi hj => by
    match i, j, hi, hj with
    | 0, 0, _, _ => rfl
    | 0, 1, _, _ => rfl
    | 0, 2, _, _ => rfl
theorem Rd.zero (w : World) (q : Nat) (A : Option Addr) (V : Nat → Nat → Value) : Rd w q A 0 0 V := ⟨Nat.le_refl _, by omega, fun h => absurd h (by omega)⟩
theorem te_info {P : Program} {e : TypeId} {z : Value} {s b : Nat} (h : (P.info? e).map (fun i => (i.zero, i.size, i.bytes)) = some (some z, s, b)) : ∃ i, P.info? e = some i ∧ i.zero = some z ∧ i.size = s ∧ i.bytes = b := by
  cases hi : P.info? e with
  | none => rw [hi] at h; cases h
  | some i =>
    rw [hi] at h
    simp only [Option.map_some, Option.some.injEq, Prod.mk.injEq] at h
    exact ⟨i, rfl, h.1, h.2.1, h.2.2⟩
theorem infoNC : (Try.prog.info? 33).map (fun i => (i.zero, i.size, i.bytes)) = some (some (.agg #[.int .i64 0, .int .i64 0, .int .i64 0]), 3, 24) := by kernel_rfl
end Go.Proofs.Ytgkbjkgafiojjaa
