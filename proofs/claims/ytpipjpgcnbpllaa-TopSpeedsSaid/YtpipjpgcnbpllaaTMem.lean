/-
  copy as a law over slices by what they hold.
-/
import Derived.Test.YtpipjpgcnbpllaaRd2
import Derived.Laws.CopyOwn
namespace Go.Proofs.Ytpipjpgcnbpllaa
set_option linter.unusedVariables false
set_option linter.unusedSimpArgs false
open Go.RowKit
theorem run_copy_Rd {P : Program} (w : World) {t ty e : TypeId} {i : TypeInfo} {q n c base g : Nat} {A : Option Addr} {V0 V : Nat → Nat → Value} (ht : P.underlying t = some (.slice e)) (hi : P.info? e = some i) (hs : i.size = q) (hq : 0 < q)
    (own : Own w base e q (some ⟨g, 0, none⟩) n n V0) (src : Rd w q A n c V) (h1 : ∀ i j, (V i j).oneCell' = true) :
    ∃ w', (Builtin.copy_ #[t, t] ty #[.slice (some ⟨g, 0, none⟩) n n, .slice A n c]).run P w = .ok (goInt n) w' ∧ Own w' base e q (some ⟨g, 0, none⟩) n n V ∧ Below base w w' := by
  rcases Nat.eq_zero_or_pos n with h0 | h0
  · subst h0
    refine ⟨w, ?_, own.congr fun i j hi' => absurd hi' (Nat.not_lt_zero _), Below.refl _ _⟩
    have hl : ∀ (x : Addr), (loadCells x 0).run P w = .ok #[] w := fun x => by simpa using run_loadCells_list (P := P) w x [] (by simp)
    cases A <;> simp [Builtin.copy_, run_underlying ht, Builtin.lenOf, Builtin.firstCells, sizeOf, typeInfo, hi, storeCells, hl]
  · obtain ⟨b, off, rfl, hl, hc⟩ := src.at_ h0
    obtain ⟨xs, o1, o2⟩ := own.row
    rcases o1.2 with ⟨e1, _⟩ | ⟨g', cap, cur, e1, hb, hh, hn, hm, hsz, _⟩
    · cases e1
    · injection e1 with e1 e2 e3
      injection e1 with e1
      injection e1 with e1
      subst e1 e3
      obtain ⟨cs, hcs⟩ : ∃ cs : List Value, cs = (List.range (n * q)).map fun t => V (t / q) (t % q) := ⟨_, rfl⟩
      have hlen : cs.length = n * q := by rw [hcs]; simp
      have hget : ∀ {i j : Nat}, i < n → j < q → cs[i * q + j]? = some (V i j) := fun hi hj => by rw [hcs]; exact flat_get hq V hi hj
      have hsrc : ∀ j v, cs[j]? = some v → w.cell? ((⟨b, off, none⟩ : Addr).add j) = some v := by
        intro j u hu
        have hj : j < n * q := by rw [← hlen]; exact (List.getElem?_eq_some_iff.1 hu).1
        have hd : j / q < n := (Nat.div_lt_iff_lt_mul hq).2 hj
        have hr := Nat.mod_lt j hq
        have ej : j / q * q + j % q = j := by have := Nat.div_add_mod j q; rw [Nat.mul_comm] at this; omega
        have h2 := hget hd hr
        rw [ej, hu] at h2
        have h3 := hc (j / q) (j % q) hd hr
        rw [Nat.add_assoc, ej] at h3
        rw [add_plain, h3, h2]
      have hone : ∀ v ∈ cs, v.oneCell' = true := by
        intro v hv
        rw [hcs] at hv
        obtain ⟨t', _, rfl⟩ := List.mem_map.1 hv
        exact h1 _ _
      have hload := run_loadCells_list (P := P) w ⟨b, off, none⟩ cs hsrc
      rw [hlen] at hload
      have hst := run_storeCells_at P g 0 e cs 0 cur w hh (by rw [hlen, hsz]; omega) hone
      have hfin : (cur.toList.take (0 + 0) ++ cs ++ cur.toList.drop (0 + 0 + cs.length)) = cs := by
        have : cur.toList.drop (0 + 0 + cs.length) = [] := List.drop_eq_nil_of_le (by rw [Array.length_toList, hsz, hlen]; omega)
        rw [this]; simp
      rw [hfin] at hst
      refine ⟨w.setRow g cs.toArray, ?_, ?_, below_setRow (Below.refl _ _) hb _⟩
      · simp [Builtin.copy_, run_underlying ht, Builtin.lenOf, Builtin.firstCells, sizeOf, typeInfo, hi, hs, hload, hst]
      · refine ⟨cs, ⟨hlen, .inr ⟨g, n, cs.toArray, rfl, hb, setRow_heap w g cur _ e _ hh, Nat.le_refl _, hm, by simpa using hlen, ?_⟩⟩, fun i j hi' hj' => hget hi' hj'⟩
        rw [List.toList_toArray]
        exact List.take_of_length_le (by rw [hlen]; exact Nat.le_refl _)
theorem wpList_copy_Rd {P : Program} {w : World} {ops : Array Oper} {rest : List Oper} {o : Oper} {a : Act} {Q : Exit → Act → World → Prop} (hgd : o.guard = none) (d s : Operand) (t : TypeId)
    (ho : o.op = .call { callee := .builtin .copy, args := #[d, s], argTypes := #[t, t] }) (e : TypeId) (i : TypeInfo) (q base g : Nat) (ht : P.underlying t = some (.slice e)) (hi : P.info? e = some i) (hs : i.size = q) (hq : 0 < q)
    {n c : Nat} {A : Option Addr} {V0 V : Nat → Nat → Value} (hd : a.eval d = .slice (some ⟨g, 0, none⟩) n n) (own : Own w base e q (some ⟨g, 0, none⟩) n n V0) (hx : a.eval s = .slice A n c) (src : Rd w q A n c V) (h1 : ∀ i j, (V i j).oneCell' = true)
    (h : ∀ w', Own w' base e q (some ⟨g, 0, none⟩) n n V → Below base w w' → wpList P ops Q rest (a.put o.dst (goInt n)) w') : wpList P ops Q (o :: rest) a w := by
  refine wpList_plain hgd fun K hK => ?_
  obtain ⟨w', hrun, h2, h3⟩ := run_copy_Rd (P := P) w (ty := o.type) ht hi hs hq own src h1
  unfold Oper.wp
  simp [execOp, ho, resolve, invoke, builtin, hd, hx, hrun, Result.andThen]
  exact hK _ _ (h w' h2 h3)
end Go.Proofs.Ytpipjpgcnbpllaa
