/-
  Slices by what they hold: a slice that is read (Rd), a slice that the call itself has made (Own); append and make in these words.
-/
import Derived.Test.YtgkbjkgafiojjaaBlk
import Derived.Laws.OwnMore
import Derived.Maps.AppendAt
import Derived.Deep.AppendLies
import Derived.OwnWalk
import Derived.Handy
namespace Go.Proofs.Ytgkbjkgafiojjaa
set_option linter.unusedVariables false
set_option linter.unusedSimpArgs false
open Go.RowKit

theorem quiet_left' {P : Program} {f : FuncId} {args : Array Value} {w : World} {n : Nat} {v : Value}
    (h : Calls P f args (w.drewN n) fun e w' => e = .returned v ∧ w.drewN n = w') : Calls P f args (w.drewN n) fun e w' => e = .returned v ∧ ∃ m, w' = w.drewN m :=
  h.mono fun _ _ ⟨he, hm⟩ => ⟨he, n, hm.symm⟩
theorem quiet_add' {P : Program} {f : FuncId} {args : Array Value} {w : World} {a n : Nat} {v : Value}
    (h : Calls P f args (w.drewN (a + n)) fun e w' => e = .returned v ∧ w.drewN (a + n) = w') : Calls P f args (w.drewN (a + n)) fun e w'' => e = .returned v ∧ ∃ m, w'' = w.drewN (a + m) :=
  h.mono fun _ _ ⟨he, hm⟩ => ⟨he, n, hm.symm⟩
theorem add_plain (b o j : Nat) : (⟨b, o, none⟩ : Addr).add j = ⟨b, o + j, none⟩ := by unfold Addr.add; by_cases h : j = 0 <;> simp [h]
theorem maxLen_eq : maxLen = 9223372036854775807 := by unfold maxLen; decide

/-- The slice with address A, n elements of q cells each and capacity c reads as V. -/
structure Rd (w : World) (q : Nat) (A : Option Addr) (n c : Nat) (V : Nat → Nat → Value) : Prop where
  le : n ≤ c
  mx : c ≤ 9223372036854775807
  at_ : 0 < n → ∃ b off, A = some ⟨b, off, none⟩ ∧ b < w.heap.size ∧ ∀ i j, i < n → j < q → w.cell? ⟨b, off + i * q + j, none⟩ = some (V i j)
/-- Rows of 64-bit integers; plain numbers. -/
def iv (N : Nat → Nat → Int) : Nat → Nat → Value := fun i j => .int .i64 (N i j)
def nv (N : Nat → Int) : Nat → Nat → Value := fun i _ => .int .i64 (N i)
section
variable {w w' : World} {q : Nat} {A : Option Addr} {n c : Nat} {V : Nat → Nat → Value}
theorem Rd.nil (w : World) (q : Nat) (V : Nat → Nat → Value) : Rd w q none 0 0 V := ⟨Nat.le_refl _, by omega, fun h => absurd h (by omega)⟩
theorem Rd.keep (h : Rd w q A n c V) (hb : Below w.heap.size w w') : Rd w' q A n c V :=
  ⟨h.le, h.mx, fun hn => by
    obtain ⟨b, off, e, hl, hc⟩ := h.at_ hn
    exact ⟨b, off, e, by have := hb.size; omega, fun i j hi hj => ((bcell hb).1 _ _ hl).trans (hc i j hi hj)⟩⟩
theorem Rd.alloc (h : Rd w q A n c V) (o : Obj) : Rd (w.alloc o) q A n c V := h.keep (ba w o)
theorem Rd.drew (h : Rd w q A n c V) : Rd w.drew q A n c V := ⟨h.le, h.mx, h.at_⟩
theorem Rd.drewN (h : Rd w q A n c V) (k : Nat) : Rd (w.drewN k) q A n c V := ⟨h.le, h.mx, h.at_⟩
theorem Rd.congr {V' : Nat → Nat → Value} (h : Rd w q A n c V) (e : ∀ i j, i < n → j < q → V i j = V' i j) : Rd w q A n c V' :=
  ⟨h.le, h.mx, fun hn => by
    obtain ⟨b, off, e1, hl, hc⟩ := h.at_ hn
    exact ⟨b, off, e1, hl, fun i j hi hj => by rw [hc i j hi hj, e i j hi hj]⟩⟩
theorem Rd.at1 {N : Nat → Int} (h : Rd w 1 A n c (nv N)) {k : Nat} (hk : k < n) : ∃ b off, A = some ⟨b, off, none⟩ ∧ b < w.heap.size ∧ w.cell? ⟨b, off + k, none⟩ = some (.int .i64 (N k)) := by
  obtain ⟨b, off, e, hl, hc⟩ := h.at_ (by omega)
  exact ⟨b, off, e, hl, by simpa [nv] using hc k 0 hk (by omega)⟩
theorem Rd.at2 {N : Nat → Nat → Int} (h : Rd w 2 A n c (iv N)) {k : Nat} (hk : k < n) : ∃ b off, A = some ⟨b, off, none⟩ ∧ b < w.heap.size ∧ w.cell? ⟨b, off + k * 2, none⟩ = some (.int .i64 (N k 0)) ∧ w.cell? ⟨b, off + k * 2 + 1, none⟩ = some (.int .i64 (N k 1)) := by
  obtain ⟨b, off, e, hl, hc⟩ := h.at_ (by omega)
  exact ⟨b, off, e, hl, hc k 0 hk (by omega), hc k 1 hk (by omega)⟩
theorem Rd.at3 {N : Nat → Nat → Int} (h : Rd w 3 A n c (iv N)) {k : Nat} (hk : k < n) : ∃ b off, A = some ⟨b, off, none⟩ ∧ b < w.heap.size ∧ w.cell? ⟨b, off + k * 3, none⟩ = some (.int .i64 (N k 0)) ∧ w.cell? ⟨b, off + k * 3 + 1, none⟩ = some (.int .i64 (N k 1)) ∧ w.cell? ⟨b, off + k * 3 + 2, none⟩ = some (.int .i64 (N k 2)) := by
  obtain ⟨b, off, e, hl, hc⟩ := h.at_ (by omega)
  exact ⟨b, off, e, hl, hc k 0 hk (by omega), hc k 1 hk (by omega), hc k 2 hk (by omega)⟩
/-- s[i:j]. -/
theorem Rd.cut (h : Rd w q A n c V) {i j : Nat} (hij : i ≤ j) (hj : j ≤ n) : Rd w q (if c = i then A else A.map (·.add (i * q))) (j - i) (c - i) (fun k f => V (i + k) f) := by
  have := h.le
  have := h.mx
  refine ⟨by omega, by omega, fun hn => ?_⟩
  obtain ⟨b, off, rfl, hl, hc⟩ := h.at_ (by omega)
  rw [if_neg (by omega)]
  refine ⟨b, off + i * q, by simp [add_plain], hl, fun k f hk hf => ?_⟩
  have := hc (i + k) f (by omega) hf
  rw [Nat.add_mul] at this
  rw [← this, Nat.add_assoc off]
theorem keepRd {W0 wp : World} {Q : Prop} (T : Rd W0 q A n c V) (hS : Below W0.heap.size W0 wp ∧ Q) : Rd wp q A n c V := T.keep hS.1
/-- Out of a block that is known whole. -/
theorem Rd.of_blk {g : Nat} {t : TypeId} {cs : Array Value} (h : Blk w g t cs) (hn : n ≤ c) (hm : c ≤ 9223372036854775807) (hv : ∀ i j, i < n → j < q → cs[i * q + j]? = some (V i j)) : Rd w q (some ⟨g, 0, none⟩) n c V :=
  ⟨hn, hm, fun _ => ⟨g, 0, rfl, h.lt, fun i j hi hj => by rw [Nat.zero_add, h.cell]; exact hv i j hi hj⟩⟩
end

/-- The slice was made by the call (its block's number is at least base); it holds V. -/
structure Own (w : World) (base : Nat) (e : TypeId) (q : Nat) (A : Option Addr) (n c : Nat) (V : Nat → Nat → Value) : Prop where
  row : ∃ xs, w.ownsRow base e q (.slice A n c) n xs ∧ ∀ i j, i < n → j < q → xs[i * q + j]? = some (V i j)
/-- The block of a slice. -/
def ob (A : Option Addr) : Option Nat := A.map (·.block)
theorem own_ob (A : Option Addr) (n c : Nat) : (Value.slice A n c).ownBlock = ob A := by cases A <;> rfl
section
variable {w w' : World} {base : Nat} {e : TypeId} {q : Nat} {A : Option Addr} {n c : Nat} {V : Nat → Nat → Value}
theorem Own.nil (w : World) (base : Nat) (e : TypeId) (q : Nat) (V : Nat → Nat → Value) : Own w base e q none 0 0 V := ⟨[], World.ownsRow_nil _ _ _ _, fun i j hi => absurd hi (by omega)⟩
theorem Own.form (h : Own w base e q A n c V) : n ≤ c ∧ c ≤ 9223372036854775807 ∧ ((A = none ∧ n = 0 ∧ c = 0) ∨ ∃ g, A = some ⟨g, 0, none⟩ ∧ base ≤ g ∧ g < w.heap.size) := by
  obtain ⟨xs, h1, h2⟩ := h.row
  have hlt := h1.lt
  rcases h1.2 with ⟨e1, e2⟩ | ⟨g, cap, cur, e1, hb, hh, hn, hm, _, _⟩
  · injection e1 with a b d
    subst a e2 d
    exact ⟨Nat.le_refl _, by omega, .inl ⟨rfl, rfl, rfl⟩⟩
  · injection e1 with a b d
    subst a d
    rw [maxLen_eq] at hm
    exact ⟨hn, hm, .inr ⟨g, rfl, hb, (hlt g rfl).2⟩⟩
theorem Own.pos (h : Own w base e q A n c V) (hn : 0 < n) : ∃ g, A = some ⟨g, 0, none⟩ ∧ base ≤ g ∧ g < w.heap.size := by
  obtain ⟨_, _, h | h⟩ := h.form
  · omega
  · exact h
theorem Own.cell {g : Nat} (h : Own w base e q (some ⟨g, 0, none⟩) n c V) {i j : Nat} (hi : i < n) (hj : j < q) : w.cell? ⟨g, i * q + j, none⟩ = some (V i j) := by
  obtain ⟨xs, h1, h2⟩ := h.row
  have : i * q + j < n * q := by
    have : (i + 1) * q ≤ n * q := Nat.mul_le_mul_right _ hi
    rw [Nat.add_mul] at this; omega
  rw [h1.cellAt _ this]; exact h2 i j hi hj
theorem Own.frozen {g : Nat} (h : Own w base e q (some ⟨g, 0, none⟩) n c V) (o : Nat) : w.frozen? ⟨g, o, none⟩ = false := by
  obtain ⟨xs, h1, _⟩ := h.row
  exact h1.frozenAt o
theorem Own.rd (h : Own w base e q A n c V) : Rd w q A n c V := by
  obtain ⟨a, b, d⟩ := h.form
  refine ⟨a, b, fun hn => ?_⟩
  obtain ⟨g, rfl, hb, hl⟩ := h.pos hn
  exact ⟨g, 0, rfl, hl, fun i j hi hj => by rw [Nat.zero_add]; exact h.cell hi hj⟩
theorem Own.kept {row : Option Nat} (h : Own w base e q A n c V) (hg : w.grownBy w' row) (hne : ob A = none ∨ ob A ≠ row) : Own w' base e q A n c V := by
  obtain ⟨xs, h1, h2⟩ := h.row
  exact ⟨xs, h1.kept hg (by rw [own_ob]; exact hne), h2⟩
theorem grown_below (hb : Below w.heap.size w w') : w.grownBy w' none := ⟨hb.os, hb.tape, hb.output, hb.size, fun i hi _ => hb.block i hi⟩
theorem below_grown {row : Option Nat} (hg : w.grownBy w' row) (hr : ∀ k, row = some k → base ≤ k) (hB : base ≤ w.heap.size) : Below base w w' :=
  ⟨hg.os, hg.tape, hg.output, hg.size, fun i hi => hg.block i (by omega) (fun he => by have := hr i he.symm; omega)⟩
theorem Own.keep (h : Own w base e q A n c V) (hb : Below w.heap.size w w') : Own w' base e q A n c V := by
  refine h.kept (grown_below hb) ?_
  cases A
  · exact .inl rfl
  · right; unfold ob; simp
theorem Own.alloc (h : Own w base e q A n c V) (o : Obj) : Own (w.alloc o) base e q A n c V := h.keep (ba w o)
theorem Own.drew (h : Own w base e q A n c V) : Own w.drew base e q A n c V := ⟨h.row⟩
theorem Own.drewN (h : Own w base e q A n c V) (k : Nat) : Own (w.drewN k) base e q A n c V := ⟨h.row⟩
theorem grown_set (w : World) (p : Addr) (u : Value) : w.grownBy (w.setCell p u) (some p.block) :=
  ⟨rfl, rfl, rfl, by simp [World.setCell], fun i hi hne => Below.heap_setCell w p u i (fun e => hne (by rw [e]))⟩
theorem Own.far (h : Own w base e q A n c V) {p : Addr} (hp : ob A = none ∨ ob A ≠ some p.block) (u : Value) : Own (w.setCell p u) base e q A n c V := h.kept (grown_set w p u) hp
theorem Own.more {b' : Nat} (h : Own w base e q A n c V) (hb : b' ≤ base) : Own w b' e q A n c V := by
  obtain ⟨xs, h1, h2⟩ := h.row
  refine ⟨xs, ⟨h1.1, ?_⟩, h2⟩
  rcases h1.2 with h | ⟨g, cap, cur, a, b, d⟩
  · exact .inl h
  · exact .inr ⟨g, cap, cur, a, by omega, d⟩
theorem Own.congr {V' : Nat → Nat → Value} (h : Own w base e q A n c V) (he : ∀ i j, i < n → j < q → V i j = V' i j) : Own w base e q A n c V' := by
  obtain ⟨xs, h1, h2⟩ := h.row
  exact ⟨xs, h1, fun i j hi hj => by rw [h2 i j hi hj, he i j hi hj]⟩
/-- One cell stored. -/
theorem Own.set {g : Nat} {V' : Nat → Nat → Value} (h : Own w base e q (some ⟨g, 0, none⟩) n c V) {i j : Nat} (hi : i < n) (hj : j < q) (u : Value) (hu : V' i j = u)
    (hv : ∀ i' j', i' < n → j' < q → (i' ≠ i ∨ j' ≠ j) → V' i' j' = V i' j') : Own (w.setCell ⟨g, i * q + j, none⟩ u) base e q (some ⟨g, 0, none⟩) n c V' := by
  obtain ⟨xs, h1, h2⟩ := h.row
  have hlt : i * q + j < n * q := by
    have : (i + 1) * q ≤ n * q := Nat.mul_le_mul_right _ hi
    rw [Nat.add_mul] at this; omega
  refine ⟨_, (h1.stored _ u).1, fun i' j' hi' hj' => ?_⟩
  by_cases he : i' = i ∧ j' = j
  · obtain ⟨rfl, rfl⟩ := he
    rw [List.getElem?_set_self (by rw [h1.1]; exact hlt), hu]
  · rw [List.getElem?_set_ne, h2 i' j' hi' hj', hv i' j' hi' hj' (by omega)]
    intro hq
    apply he
    have d1 : (i * q + j) / q = i := by rw [Nat.mul_comm, Nat.mul_add_div (by omega), Nat.div_eq_of_lt hj]; rfl
    have d2 : (i' * q + j') / q = i' := by rw [Nat.mul_comm, Nat.mul_add_div (by omega), Nat.div_eq_of_lt hj']; rfl
    rw [hq, d2] at d1
    subst d1
    exact ⟨rfl, by omega⟩
end
/-- What append holds. -/
def app (n : Nat) (V V2 : Nat → Nat → Value) : Nat → Nat → Value := fun i f => if i < n then V i f else V2 (i - n) f
theorem app_int (n : Nat) (N N2 : Nat → Nat → Int) : app n (iv N) (iv N2) = iv (fun i f => if i < n then N i f else N2 (i - n) f) := by
  funext i f; by_cases h : i < n <;> simp [app, iv, h]
theorem app_num (n : Nat) (N N2 : Nat → Int) : app n (nv N) (nv N2) = nv (fun i => if i < n then N i else N2 (i - n)) := by
  funext i f; by_cases h : i < n <;> simp [app, nv, h]
theorem flat_get {q : Nat} (hq : 0 < q) {m : Nat} (V : Nat → Nat → Value) {i j : Nat} (hi : i < m) (hj : j < q) : ((List.range (m * q)).map fun t => V (t / q) (t % q))[i * q + j]? = some (V i j) := by
  have hlt : i * q + j < m * q := by
    have : (i + 1) * q ≤ m * q := Nat.mul_le_mul_right _ hi
    rw [Nat.add_mul] at this; omega
  have d1 : (i * q + j) / q = i := by rw [Nat.mul_comm, Nat.mul_add_div hq, Nat.div_eq_of_lt hj]; rfl
  have d2 : (i * q + j) % q = j := by rw [Nat.mul_comm, Nat.mul_add_mod, Nat.mod_eq_of_lt hj]
  rw [List.getElem?_map, List.getElem?_range hlt]
  simp only [Option.map_some, d1, d2]
section
variable {P : Program} (w : World)
theorem run_append_Rd (base : Nat) (t ty e : TypeId) (i : TypeInfo) (z : Value) (q bytes : Nat) (ht : P.underlying t = some (.slice e)) (hi : P.info? e = some i) (hz : i.zero = some z)
    (hsize : i.size = q) (hby : i.bytes = bytes) (hzs : z.cells.size = q) (hq : 0 < q)
    {A A2 : Option Addr} {n c m c2 : Nat} {V V2 : Nat → Nat → Value} (own : Own w base e q A n c V) (src : Rd w q A2 m c2 V2) (h1 : ∀ i j, (V2 i j).oneCell' = true)
    (h63 : n + m ≤ 9223372036854775807) (hbytes : (n + m) * bytes ≤ 140737488355328) (hbase : base ≤ w.heap.size) :
    ∃ A' c' w', (Builtin.append_ #[t, t] ty #[.slice A n c, .slice A2 m c2]).run P w = .ok (.slice A' (n + m) c') w' ∧ Own w' base e q A' (n + m) c' (app n V V2) ∧ w.grownBy w' (ob A) ∧ (ob A' = ob A ∨ ob A' = some w.heap.size) := by
  obtain ⟨xs, o1, o2⟩ := own.row
  rcases A2 with _ | ad
  · have hm : m = 0 := by
      rcases Nat.eq_zero_or_pos m with h0 | h0
      · exact h0
      · obtain ⟨b, off, h, _⟩ := src.at_ h0; cases h
    subst hm
    have hrun : (Builtin.append_ #[t, t] ty #[.slice A n c, .slice none 0 c2]).run P w = .ok (.slice A n c) w := by
      rcases own.form with ⟨hnc, _, h | ⟨g, rfl, _, _⟩⟩
      · obtain ⟨rfl, rfl, rfl⟩ := h
        simp [Builtin.append_, run_underlying ht, sizeOf, typeInfo, hi, Builtin.lenOf, Builtin.firstCells]
      · simp [Builtin.append_, run_underlying ht, sizeOf, typeInfo, hi, Builtin.lenOf, Builtin.firstCells, hnc, storeCells]
    exact ⟨A, c, w, hrun, own.congr fun i f hi' _ => by unfold app; rw [if_pos hi'], World.grownBy.refl w _, .inl rfl⟩
  · have hform : ∀ j u, ((List.range (m * q)).map fun t => V2 (t / q) (t % q))[j]? = some u → w.cell? (ad.add j) = some u := by
      intro j u hu
      have hj : j < m * q := by
        have := (List.getElem?_eq_some_iff.1 hu).1
        simpa using this
      have hm : 0 < m := by
        rcases Nat.eq_zero_or_pos m with h0 | h0
        · subst h0; omega
        · exact h0
      obtain ⟨b, off, h, hl, hc⟩ := src.at_ hm
      injection h with h
      subst h
      have hd : j / q < m := (Nat.div_lt_iff_lt_mul hq).2 hj
      have hr := Nat.mod_lt j hq
      have hc' := hc (j / q) (j % q) hd hr
      rw [List.getElem?_map, List.getElem?_range hj] at hu
      simp only [Option.map_some, Option.some.injEq] at hu
      have ej : off + j / q * q + j % q = off + j := by have := Nat.div_add_mod j q; rw [Nat.mul_comm] at this; omega
      rw [ej, hu] at hc'
      rw [add_plain]
      exact hc'
    obtain ⟨v', w', hrun, h2, h3, _, h5⟩ := run_append_own_at (P := P) w base t ty e i z q bytes ht hi hz hsize hby hzs hq (.slice A n c) n xs o1 ad m c2 _ (by simp) hform (by
      intro u hu
      obtain ⟨t', _, rfl⟩ := List.mem_map.1 hu
      exact h1 _ _) (by rw [maxLen_eq]; exact h63) hbytes hbase
    have hv : ∃ A' c', v' = .slice A' (n + m) c' := by
      rcases h2.2 with ⟨a, b⟩ | ⟨g, cap, cur, a, _⟩
      · exact ⟨none, 0, by rw [a, b]⟩
      · exact ⟨_, _, a⟩
    obtain ⟨A', c', rfl⟩ := hv
    refine ⟨A', c', w', hrun, ⟨_, h2, fun k f hk hf => ?_⟩, by rw [← own_ob A n c]; exact h3, by rw [← own_ob A n c, ← own_ob A' (n + m) c']; exact h5⟩
    unfold app
    by_cases hkn : k < n
    · rw [if_pos hkn, List.getElem?_append_left, o2 k f hkn hf]
      rw [o1.1]
      have : (k + 1) * q ≤ n * q := Nat.mul_le_mul_right _ hkn
      rw [Nat.add_mul] at this; omega
    · rw [if_neg hkn, List.getElem?_append_right, o1.1]
      · have : k * q + f - n * q = (k - n) * q + f := by
          have h : n * q ≤ k * q := Nat.mul_le_mul_right _ (by omega)
          rw [Nat.sub_mul]; omega
        rw [this]
        exact flat_get hq V2 (by omega) hf
      · rw [o1.1]
        have : n * q ≤ k * q := Nat.mul_le_mul_right _ (by omega)
        omega
theorem wp_append_Rd {o : Oper} {a : Act} {K : Act → World → Prop} {Q : Exit → Act → World → Prop} (s x : Operand) (t : TypeId)
    (ho : o.op = .call { callee := .builtin .append, args := #[s, x], argTypes := #[t, t] })
    (base : Nat) (e : TypeId) (i : TypeInfo) (z : Value) (q bytes : Nat) (ht : P.underlying t = some (.slice e)) (hi : P.info? e = some i) (hz : i.zero = some z)
    (hsize : i.size = q) (hby : i.bytes = bytes) (hzs : z.cells.size = q) (hq : 0 < q)
    {A A2 : Option Addr} {n c m c2 : Nat} {V V2 : Nat → Nat → Value} (hs : a.eval s = .slice A n c) (own : Own w base e q A n c V) (hx : a.eval x = .slice A2 m c2) (src : Rd w q A2 m c2 V2) (h1 : ∀ i j, (V2 i j).oneCell' = true)
    (h63 : n + m ≤ 9223372036854775807) (hbytes : (n + m) * bytes ≤ 140737488355328) (hbase : base ≤ w.heap.size)
    (h : ∀ A' c' w', Own w' base e q A' (n + m) c' (app n V V2) → w.grownBy w' (ob A) → (ob A' = ob A ∨ ob A' = some w.heap.size) → K (a.put o.dst (.slice A' (n + m) c')) w') : o.wp P a w K Q := by
  obtain ⟨A', c', w', hrun, h2, h3, h4⟩ := run_append_Rd (P := P) w base t o.type e i z q bytes ht hi hz hsize hby hzs hq own src h1 h63 hbytes hbase
  unfold Oper.wp execOp
  simp only [ho, resolve, invoke, builtin, Sem.run_bind, Sem.run_pure, Result.andThen_ok, List.map_toArray, List.map_cons, List.map_nil, hs, hx, hrun]
  exact h A' c' w' h2 h3 h4
theorem wpList_append_Rd {ops : Array Oper} {rest : List Oper} {o : Oper} {a : Act} {Q : Exit → Act → World → Prop} (hgd : o.guard = none) (s x : Operand) (t : TypeId)
    (ho : o.op = .call { callee := .builtin .append, args := #[s, x], argTypes := #[t, t] })
    (base : Nat) (e : TypeId) (i : TypeInfo) (z : Value) (q bytes : Nat) (ht : P.underlying t = some (.slice e)) (hi : P.info? e = some i) (hz : i.zero = some z)
    (hsize : i.size = q) (hby : i.bytes = bytes) (hzs : z.cells.size = q) (hq : 0 < q)
    {A A2 : Option Addr} {n c m c2 : Nat} {V V2 : Nat → Nat → Value} (hs : a.eval s = .slice A n c) (own : Own w base e q A n c V) (hx : a.eval x = .slice A2 m c2) (src : Rd w q A2 m c2 V2) (h1 : ∀ i j, (V2 i j).oneCell' = true)
    (h63 : n + m ≤ 9223372036854775807) (hbytes : (n + m) * bytes ≤ 140737488355328) (hbase : base ≤ w.heap.size)
    (h : ∀ A' c' w', Own w' base e q A' (n + m) c' (app n V V2) → w.grownBy w' (ob A) → (ob A' = ob A ∨ ob A' = some w.heap.size) → wpList P ops Q rest (a.put o.dst (.slice A' (n + m) c')) w') : wpList P ops Q (o :: rest) a w :=
  wpList_plain hgd fun _ hK => wp_append_Rd w s x t ho base e i z q bytes ht hi hz hsize hby hzs hq hs own hx src h1 h63 hbytes hbase fun A' c' w' h2 h3 h4 => hK _ _ (h A' c' w' h2 h3 h4)
end
theorem one_iv (N : Nat → Nat → Int) : ∀ i j, (iv N i j).oneCell' = true := fun _ _ => rfl
theorem one_nv (N : Nat → Int) : ∀ i j, (nv N i j).oneCell' = true := fun _ _ => rfl
end Go.Proofs.Ytgkbjkgafiojjaa
