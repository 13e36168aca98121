/-
  Memory words for labels: the slice of labels, the slice of slices of edges.
-/
import Derived.Test.YtbmfkncfenkjoaaPlain3
import Derived.Test.YtbmfkncfenkjoaaRd2
import Derived.Test.YtbmfkncfenkjoaaInv2
import Derived.OwnWalk
import Derived.Deep.LoopGhost
namespace Go.Proofs.Ytbmfkncfenkjoaa
set_option linter.unusedVariables false
set_option linter.unusedSimpArgs false
open Go.RowKit
theorem info_parts {P : Program} {e : TypeId} {z : Value} {s b : Nat} (h : (P.info? e).map (fun i => (i.zero, i.size, i.bytes)) = some (some z, s, b)) : ∃ i, P.info? e = some i ∧ i.zero = some z ∧ i.size = s ∧ i.bytes = b := by
  cases hi : P.info? e with
  | none => rw [hi] at h; cases h
  | some i =>
    rw [hi] at h
    simp only [Option.map_some, Option.some.injEq, Prod.mk.injEq] at h
    exact ⟨i, rfl, h.1, h.2.1, h.2.2⟩
/-- Labels, cell by cell. -/
def lv (C D : Nat → Int) (F : Nat → Bool) : Nat → Nat → Value := fun i j => if j = 0 then .int .i64 (C i) else if j = 1 then .int .i64 (D i) else .bool (F i)
theorem infoL : (Try.prog.info? 70).map (fun i => (i.zero, i.size, i.bytes)) = some (some (.agg #[.int .i64 0, .int .i64 0, .bool false]), 3, 24) := by kernel_rfl
theorem infoE : (Try.prog.info? 59).map (fun i => (i.zero, i.size, i.bytes)) = some (some (.agg #[.int .i64 0, .int .i64 0, .int .i64 0]), 3, 24) := by kernel_rfl
theorem infoV : (Try.prog.info? 22).map (fun i => (i.zero, i.size, i.bytes)) = some (some (.slice none 0 0), 1, 24) := by kernel_rfl
theorem infoI : (Try.prog.info? 3).map (fun i => (i.zero, i.size, i.bytes)) = some (some (.int .i64 0), 1, 8) := by kernel_rfl
theorem infoI6 : (Try.prog.info? 2).map (fun i => (i.zero, i.size, i.bytes)) = some (some (.int .i64 0), 1, 8) := by kernel_rfl
theorem mk_lab (n : Nat) (hn : n ≤ 512) : ∀ W : World, (Instr.makeSlice 67 (.int .i64 (n : Int)) (.int .i64 (n : Int))).run Try.prog W = .ok (.slice (some ⟨W.heap.size, 0, none⟩) n n) (W.alloc (.cells (madeCells #[.int .i64 0, .int .i64 0, .bool false] (n * 3)) 70)) := by
  obtain ⟨i0, hi, hz0, hz1, hz2⟩ := info_parts infoL
  exact fun W => run_make_n (P := Try.prog) Try.underlying67 hi hz0 hz1 hz2 n (by omega) (by omega) W
theorem own_lab (w : World) (base n : Nat) (hn : n ≤ 512) (hb : base ≤ w.heap.size) : Own (w.alloc (.cells (madeCells #[.int .i64 0, .int .i64 0, .bool false] (n * 3)) 70)) base 70 3 (some ⟨w.heap.size, 0, none⟩) n n (lv (fun _ => 0) (fun _ => 0) (fun _ => false)) :=
  Own.made (z := #[.int .i64 0, .int .i64 0, .bool false]) (q := 3) w 70 n rfl (by omega) (by omega) hb fun i j hi hj => by
    match j, hj with
    | 0, _ => rfl
    | 1, _ => rfl
    | 2, _ => rfl
theorem mk_rows (n : Nat) (hn : n ≤ 512) : ∀ W : World, (Instr.makeSlice 74 (.int .i64 (n : Int)) (.int .i64 (n : Int))).run Try.prog W = .ok (.slice (some ⟨W.heap.size, 0, none⟩) n n) (W.alloc (.cells (madeCells #[.slice none 0 0] n) 22)) := by
  obtain ⟨i0, hi, hz0, hz1, hz2⟩ := info_parts infoV
  intro W
  have h := run_make_n (P := Try.prog) Try.underlying74 hi hz0 hz1 hz2 n (by omega) (by omega) W
  rw [Nat.mul_one] at h
  exact h
theorem own_rows (w : World) (base n : Nat) (hn : n ≤ 512) (hb : base ≤ w.heap.size) : Own (w.alloc (.cells (madeCells #[.slice none 0 0] n) 22)) base 22 1 (some ⟨w.heap.size, 0, none⟩) n n (fun _ _ => .slice none 0 0) := by
  have h := Own.made (z := #[.slice none 0 0]) (q := 1) (V := fun _ _ => .slice none 0 0) w 22 n rfl (by omega) (by omega) hb fun i j hi hj => by
    obtain rfl : j = 0 := by omega
    rfl
  rw [Nat.mul_one] at h
  exact h
section
variable {w w' : World} {b n c g : Nat} {e : TypeId} {A : Option Addr} {C D : Nat → Int} {F : Nat → Bool}
theorem Own.base {q : Nat} {V : Nat → Nat → Value} (h : Own w b e q A n c V) (hg : ob A = some g) : b ≤ g := by
  obtain ⟨_, _, ⟨rfl, _⟩ | ⟨g', rfl, hb, _⟩⟩ := h.form
  · cases hg
  · have : g' = g := by simpa [ob] using hg
    omega
theorem Own.top {q : Nat} {V : Nat → Nat → Value} (h : Own w b e q A n c V) (hg : ob A = some g) : g < w.heap.size := by
  obtain ⟨_, _, ⟨rfl, _⟩ | ⟨g', rfl, _, hl⟩⟩ := h.form
  · cases hg
  · have : g' = g := by simpa [ob] using hg
    omega
theorem Own.apart {q : Nat} {V : Nat → Nat → Value} (h : Own w b e q A n c V) (hg : g < b) : ob A = none ∨ ob A ≠ some g := .inr fun z => by have := h.base z; omega
theorem Own.lt1 {q : Nat} {V : Nat → Nat → Value} (h : Own w b e q (some ⟨g, 0, none⟩) n c V) : g < w.heap.size := h.top rfl
theorem Own.lab (h : Own w b e 3 (some ⟨g, 0, none⟩) n c (lv C D F)) {i : Nat} (hi : i < n) :
    w.cell? ⟨g, i * 3, none⟩ = some (.int .i64 (C i)) ∧ w.cell? ⟨g, i * 3 + 1, none⟩ = some (.int .i64 (D i)) ∧ w.cell? ⟨g, i * 3 + 2, none⟩ = some (.bool (F i)) ∧ ∀ o, w.frozen? ⟨g, o, none⟩ = false :=
  ⟨h.cell hi (j := 0) (by omega), h.cell hi (j := 1) (by omega), h.cell hi (j := 2) (by omega), h.frozen⟩
theorem lv_up {C C' D D' : Nat → Int} {F F' : Nat → Bool} {i j : Nat} (h0 : C' i = C i) (h1 : D' i = D i) (h2 : F' i = F i) : lv C' D' F' i j = lv C D F i j := by unfold lv; rw [h0, h1, h2]
theorem Own.setC (h : Own w b e 3 (some ⟨g, 0, none⟩) n c (lv C D F)) {i : Nat} (hi : i < n) (u : Int) : Own (w.setCell ⟨g, i * 3, none⟩ (.int .i64 u)) b e 3 (some ⟨g, 0, none⟩) n c (lv (Ce.up C i u) D F) :=
  h.set hi (j := 0) (by omega) _ (by unfold lv; rw [if_pos rfl, Ce.up_at]) fun i' j' h1 h2 h3 => by
    by_cases q : i' = i
    · subst q
      have z : ¬ j' = 0 := by omega
      unfold lv
      rw [if_neg z, if_neg z]
    · exact lv_up (Ce.up_ne q) rfl rfl
theorem Own.setD (h : Own w b e 3 (some ⟨g, 0, none⟩) n c (lv C D F)) {i : Nat} (hi : i < n) (u : Int) : Own (w.setCell ⟨g, i * 3 + 1, none⟩ (.int .i64 u)) b e 3 (some ⟨g, 0, none⟩) n c (lv C (Ce.up D i u) F) :=
  h.set hi (j := 1) (by omega) _ (by unfold lv; rw [if_neg (by omega), if_pos rfl, Ce.up_at]) fun i' j' h1 h2 h3 => by
    by_cases q : i' = i
    · subst q
      unfold lv
      by_cases z : j' = 0
      · rw [if_pos z, if_pos z]
      · rw [if_neg z, if_neg z, if_neg (by omega), if_neg (by omega)]
    · exact lv_up rfl (Ce.up_ne q) rfl
theorem Own.setF (h : Own w b e 3 (some ⟨g, 0, none⟩) n c (lv C D F)) {i : Nat} (hi : i < n) : Own (w.setCell ⟨g, i * 3 + 2, none⟩ (.bool true)) b e 3 (some ⟨g, 0, none⟩) n c (lv C D (Ce.upb F i)) :=
  h.set hi (j := 2) (by omega) _ (by unfold lv; rw [if_neg (by omega), if_neg (by omega), Ce.upb_at]) fun i' j' h1 h2 h3 => by
    by_cases q : i' = i
    · subst q
      unfold lv
      by_cases z : j' = 0
      · rw [if_pos z, if_pos z]
      · rw [if_neg z, if_neg z, if_pos (show j' = 1 by omega), if_pos (show j' = 1 by omega)]
    · exact lv_up rfl rfl (Ce.upb_ne q)
theorem Own.rd3 {N : Nat → Nat → Int} (h : Own w b e 3 A n c (iv N)) {k : Nat} (hk : k < n) : ∃ g, A = some ⟨g, 0, none⟩ ∧ b ≤ g ∧ g < w.heap.size ∧ w.cell? ⟨g, k * 3, none⟩ = some (.int .i64 (N k 0)) ∧ w.cell? ⟨g, k * 3 + 1, none⟩ = some (.int .i64 (N k 1)) ∧ w.cell? ⟨g, k * 3 + 2, none⟩ = some (.int .i64 (N k 2)) := by
  obtain ⟨g, rfl, h1, h2⟩ := h.pos (by omega)
  exact ⟨g, rfl, h1, h2, h.cell hk (j := 0) (by omega), h.cell hk (j := 1) (by omega), h.cell hk (j := 2) (by omega)⟩
end
/-- A row anew. -/
def upA (Ar : Nat → Option Addr) (a : Nat) (x : Option Addr) : Nat → Option Addr := fun i => if i = a then x else Ar i
/-- The slice of slices lies in block b + 2, its rows in later blocks, each in its own; the rows hold edges ix i 0 .. -/
structure Lg (w : World) (b n : Nat) (E : Ce.Tab) (ln : Nat → Nat) (ix : Nat → Nat → Nat) (Ar : Nat → Option Addr) (cr : Nat → Nat) : Prop where
  row : Own w (b + 2) 22 1 (some ⟨b + 2, 0, none⟩) n n (fun i _ => .slice (Ar i) (ln i) (cr i))
  el : ∀ i, i < n → Own w (b + 3) 59 3 (Ar i) (ln i) (cr i) (iv fun q => E (ix i q))
  dj : ∀ i j, i < n → j < n → i ≠ j → ob (Ar i) = none ∨ ob (Ar i) ≠ ob (Ar j)
/-- The same while the row a is longer already, and not yet stored. -/
structure Lm (w : World) (b n : Nat) (E : Ce.Tab) (ln : Nat → Nat) (ix : Nat → Nat → Nat) (Ar : Nat → Option Addr) (cr : Nat → Nat) (a k g c' : Nat) : Prop where
  row : Own w (b + 2) 22 1 (some ⟨b + 2, 0, none⟩) n n (fun i _ => .slice (Ar i) (ln i) (cr i))
  el : ∀ i, i < n → Own w (b + 3) 59 3 (upA Ar a (some ⟨g, 0, none⟩) i) (Ce.upn ln a (ln a + 1) i) (Ce.upn cr a c' i) (iv fun q => E (Ce.upx ix a (ln a) k i q))
  dj : ∀ i j, i < n → j < n → i ≠ j → ob (upA Ar a (some ⟨g, 0, none⟩) i) = none ∨ ob (upA Ar a (some ⟨g, 0, none⟩) i) ≠ ob (upA Ar a (some ⟨g, 0, none⟩) j)
section
variable {w w' : World} {b n : Nat} {E : Ce.Tab} {ln : Nat → Nat} {ix : Nat → Nat → Nat} {Ar : Nat → Option Addr} {cr : Nat → Nat} {a k g c' : Nat}
theorem Lg.keep (h : Lg w b n E ln ix Ar cr) (hb : Below w.heap.size w w') : Lg w' b n E ln ix Ar cr := ⟨h.row.keep hb, fun i hi => (h.el i hi).keep hb, h.dj⟩
theorem Lg.alloc (h : Lg w b n E ln ix Ar cr) (o : Obj) : Lg (w.alloc o) b n E ln ix Ar cr := h.keep (ba w o)
theorem Lg.drew (h : Lg w b n E ln ix Ar cr) : Lg w.drew b n E ln ix Ar cr := ⟨h.row.drew, fun i hi => (h.el i hi).drew, h.dj⟩
theorem Lg.drewN (h : Lg w b n E ln ix Ar cr) (q : Nat) : Lg (w.drewN q) b n E ln ix Ar cr := ⟨h.row.drewN q, fun i hi => (h.el i hi).drewN q, h.dj⟩
theorem Lg.far (h : Lg w b n E ln ix Ar cr) {p : Addr} (hp : p.block < b + 2) (u : Value) : Lg (w.setCell p u) b n E ln ix Ar cr :=
  ⟨h.row.far (h.row.apart hp) u, fun i hi => (h.el i hi).far ((h.el i hi).apart (by omega)) u, h.dj⟩
theorem Lg.start {w : World} {b n : Nat} (E : Ce.Tab) (hn : n ≤ 512) (hw : w.heap.size = b + 2) : Lg (w.alloc (.cells (madeCells #[.slice none 0 0] n) 22)) b n E (fun _ => 0) (fun _ _ => 0) (fun _ => none) (fun _ => 0) :=
  ⟨by have := own_rows w (b + 2) n hn (by omega); rw [hw] at this; exact this, fun i hi => Own.nil _ _ _ _ _, fun i j _ _ _ => .inl rfl⟩
theorem Lg.cell (h : Lg w b n E ln ix Ar cr) {i : Nat} (hi : i < n) : w.cell? ⟨b + 2, i, none⟩ = some (.slice (Ar i) (ln i) (cr i)) := by
  have := h.row.cell hi (show 0 < 1 by omega)
  rw [Nat.mul_one, Nat.add_zero] at this
  exact this
theorem upA_at (Ar : Nat → Option Addr) (a : Nat) (x : Option Addr) : upA Ar a x a = x := if_pos rfl
theorem upA_ne {Ar : Nat → Option Addr} {a i : Nat} {x : Option Addr} (h : i ≠ a) : upA Ar a x i = Ar i := if_neg h
theorem upn_at (f : Nat → Nat) (a x : Nat) : Ce.upn f a x a = x := if_pos rfl
theorem upn_ne {f : Nat → Nat} {a i x : Nat} (h : i ≠ a) : Ce.upn f a x i = f i := if_neg h
theorem own_old {w : World} {B0 : Nat} {e : TypeId} {q n c : Nat} {A : Option Addr} {V : Nat → Nat → Value} (h : Own w B0 e q A n c V) : ob A = none ∨ ∃ k, ob A = some k ∧ k < w.heap.size := by
  obtain ⟨_, _, ⟨rfl, _⟩ | ⟨g, rfl, _, hl⟩⟩ := h.form
  · exact .inl rfl
  · exact .inr ⟨g, rfl, hl⟩
/-- An edge more at row a. -/
theorem Lg.append (h : Lg w b n E ln ix Ar cr) (ha : a < n) {V2 : Nat → Nat → Value} (hV : ∀ f, f < 3 → V2 0 f = .int .i64 (E k f)) (own : Own w' (b + 3) 59 3 (some ⟨g, 0, none⟩) (ln a + 1) c' (app (ln a) (iv fun q => E (ix a q)) V2)) (hg : w.grownBy w' (ob (Ar a)))
    (hob : ob (some ⟨g, 0, none⟩) = ob (Ar a) ∨ ob (some ⟨g, 0, none⟩) = some w.heap.size) : Lm w' b n E ln ix Ar cr a k g c' := by
  have hob' : ob (Ar a) = some g ∨ g = w.heap.size := by
    rcases hob with q | q
    · exact .inl q.symm
    · right; simpa [ob] using q
  refine ⟨h.row.kept hg (.inr fun z => ?_), fun i hi => ?_, fun i j hi hj hij => ?_⟩
  · have := (h.el a ha).base (g := b + 2) z.symm
    omega
  · by_cases e : i = a
    · subst e
      rw [upA_at, upn_at, upn_at]
      refine own.congr fun q f hq hf => ?_
      by_cases z : q < ln i
      · have e2 : Ce.upx ix i (ln i) k i q = ix i q := if_neg (fun y => by have := y.2; omega)
        unfold app iv
        rw [if_pos z]
        show Value.int .i64 (E (ix i q) f) = .int .i64 (E (Ce.upx ix i (ln i) k i q) f)
        rw [e2]
      · obtain rfl : q = ln i := by omega
        have e2 : Ce.upx ix i (ln i) k i (ln i) = k := if_pos ⟨rfl, rfl⟩
        unfold app iv
        rw [if_neg z, Nat.sub_self]
        show V2 0 f = .int .i64 (E (Ce.upx ix i (ln i) k i (ln i)) f)
        rw [e2]
        exact hV f hf
    · rw [upA_ne e, upn_ne e, upn_ne e]
      refine ((h.el i hi).kept hg (h.dj i a hi ha e)).congr fun q f hq hf => ?_
      have e2 : Ce.upx ix a (ln a) k i q = ix i q := if_neg (fun z => e z.1)
      unfold iv
      show Value.int .i64 (E (ix i q) f) = .int .i64 (E (Ce.upx ix a (ln a) k i q) f)
      rw [e2]
  · have key : ∀ i, i < n → i ≠ a → ob (Ar i) = none ∨ (ob (Ar i) ≠ some g) := fun i hi e => by
      rcases hob' with q | q
      · rw [← q]; exact h.dj i a hi ha e
      · rcases own_old (h.el i hi) with z | ⟨x, z, hx⟩
        · exact .inl z
        · right; rw [z]; simp; omega
    by_cases e : i = a
    · subst e
      rw [upA_at, upA_ne (Ne.symm hij)]
      rcases key j hj (Ne.symm hij) with q | q
      · right; rw [q]; simp [ob]
      · right; exact fun z => q z.symm
    · rw [upA_ne e]
      by_cases e2 : j = a
      · subst e2; rw [upA_at]; exact key i hi e
      · rw [upA_ne e2]; exact h.dj i j hi hj hij
theorem Lm.cell (h : Lm w b n E ln ix Ar cr a k g c') {i : Nat} (hi : i < n) : w.cell? ⟨b + 2, i, none⟩ = some (.slice (Ar i) (ln i) (cr i)) := by
  have := h.row.cell hi (show 0 < 1 by omega)
  rw [Nat.mul_one, Nat.add_zero] at this
  exact this
theorem Lm.store (h : Lm w b n E ln ix Ar cr a k g c') (ha : a < n) : Lg (w.setCell ⟨b + 2, a, none⟩ (.slice (some ⟨g, 0, none⟩) (ln a + 1) c')) b n E (Ce.upn ln a (ln a + 1)) (Ce.upx ix a (ln a) k) (upA Ar a (some ⟨g, 0, none⟩)) (Ce.upn cr a c') := by
  refine ⟨?_, fun i hi => (h.el i hi).far ((h.el i hi).apart (by simp)) _, h.dj⟩
  have := h.row.set (V' := fun i _ => .slice (upA Ar a (some ⟨g, 0, none⟩) i) (Ce.upn ln a (ln a + 1) i) (Ce.upn cr a c' i)) ha (show 0 < 1 by omega) (.slice (some ⟨g, 0, none⟩) (ln a + 1) c') (by rw [upA_at, upn_at, upn_at]) fun i' j' h1 h2 h3 => by
    have e : i' ≠ a := by omega
    rw [upA_ne e, upn_ne e, upn_ne e]
  rw [Nat.mul_one, Nat.add_zero] at this
  exact this
end
theorem Blk.grown {w w' : World} {g : Nat} {t : TypeId} {cs : Array Value} {row : Option Nat} (h : Blk w g t cs) (hg : w.grownBy w' row) (hne : row ≠ some g) : Blk w' g t cs := (hg.block g h.lt (fun e => hne e.symm)).trans h
theorem rdE {w : World} {g : Nat} {t : TypeId} {a b c : Int} (h : Blk w g t #[.int .i64 a, .int .i64 b, .int .i64 c]) : Rd w 3 (some ⟨g, 0, none⟩) 1 1 (fun _ j => .int .i64 (if j = 0 then a else if j = 1 then b else c)) :=
  Rd.of_blk h (by decide) (by decide) fun i j hi hj => by
    match i, j, hi, hj with
    | 0, 0, _, _ => rfl
    | 0, 1, _, _ => rfl
    | 0, 2, _, _ => rfl
end Go.Proofs.Ytbmfkncfenkjoaa
