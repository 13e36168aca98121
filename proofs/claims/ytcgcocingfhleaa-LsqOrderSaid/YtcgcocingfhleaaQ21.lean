/-
  The walk of LsqOrder.
-/
import Derived.Test.YtcgcocingfhleaaQ21p
import Derived.Test.YtcgcocingfhleaaQ13
namespace Go.Proofs.Ytcgcocingfhleaa
set_option linter.unusedVariables false
set_option linter.unusedSimpArgs false
open Go.RowKit
attribute [local irreducible] World.setCell World.cell?

set_option maxRecDepth 100000 in
set_option maxHeartbeats 4000000 in
theorem law_order (A : Option Addr) (n c : Nat) (M : Lq.Tab) (q : Int) (w : World) (T : Rd w 6 A n c (iv M)) (hq : -9223372036854775808 ≤ q ∧ q ≤ 9223372036854775807) : Calls Try.prog 6 #[.slice A n c, .int .i64 q] w fun e w' => e = .returned (.bool true) ∧ Below w.heap.size w w' := by
  have KC := fun W_ (T_ : Rd W_ 6 A n c (iv M)) => cut_c A n c M W_ T_
  have T0 := T
  have hk : (if n ≤ 20 then n else 20) ≤ n := by split <;> omega
  generalize hk2 : (if n ≤ 20 then n else 20) = k at hk
  replace hk2 := Lib.hid hk2
  have hk20 : k ≤ 20 := by have := hk2.out; split at this <;> omega
  simp only [hk2.out] at KC
  have T := T0.short hk
  obtain ⟨i0, hi, hz0, hz1, hz2⟩ := info_parts infoM
  have HI := Lib.hid hi
  have HZ0 := Lib.hid hz0
  have HZ1 := Lib.hid hz1
  have HZ2 := Lib.hid hz2
  clear hi hz0 hz1 hz2
  go_enter Try.func6, Try.ntmps6
  try simp only [List.append_eq, List.cons_append, List.nil_append]
  have hB := Below.refl w.heap.size w
  go_wp2_with fail
  refine (awake_c _).mono ?_
  rintro e w1 ⟨rfl, hb⟩
  replace hB := bt hB hb
  clear hb
  go_wp2_with fail
  refine (KC _ (T0.keep hB)).mono ?_
  rintro e wq ⟨rfl, rfl⟩
  clear KC
  have own := own_empty w1 w1.heap.size 43 6 (iv (Lq.trn k 0 M)) rfl (Nat.le_refl _)
  have hb1 := ba w1 (.cells #[] 43)
  go_wp2_with fail
  generalize hw2 : w1 = wO at own hb1 hB ⊢
  clear hw2
  go_loopw [5, 6] (fun s_ i wr => ∃ (j : Nat) (A' : Option Addr) (c' : Nat), j ≤ k ∧ i = .int .i64 ((k : Int) - 1 - j) ∧ s_ = .slice A' j c' ∧ Own wr wO.heap.size 43 6 A' j c' (iv (Lq.trn k 0 M)) ∧ Below wO.heap.size wO wr) (fun _ i _ => (intOf i + 1).toNat)
  case atStart => exact ⟨0, _, _, Nat.zero_le _, by simp, rfl, own, hb1⟩
  case round =>
    clear own hb1
    obtain ⟨j, A', c', hj, rfl, rfl, own, hW⟩ := hrel
    by_cases hlt : j < k
    · obtain ⟨r, hr⟩ : ∃ r : Nat, k - 1 - j = r := ⟨_, rfl⟩
      have hrk : r < k := by omega
      have er : (k : Int) - 1 - j = (r : Int) := by omega
      have HR := Lib.hid hr
      clear hr
      rw [er]
      have ER := Lib.hid er
      clear er
      obtain ⟨bb, off, eA, hbl, u0, u1, u2, u3, u4, u5⟩ := (T.keep (bt hB hW)).at6 hrk
      have HA := Lib.hid eA
      rw [HA.out]
      clear eA
      have hsz := hW.size
      have i1 : (0 : Int) ≤ (r : Int) := by omega
      have i2 : (r : Int) < (k : Int) := by omega
      go_wp2_with (at_builtin; refine wpList_append_Rd _ rfl _ _ 22 rfl wO.heap.size 43 i0 _ 6 48 Try.underlying22 HI.out HZ0.out HZ1.out HZ2.out rfl (by decide) rfl (own.alloc _) rfl (rd_row6 _ _ _ _ _ _ _ _ (by simp)) (one_iv _) (by omega) (by omega) (by simp; omega) ?_; intro A2 c2 w3 own' hgr hob)
      have htn : Lq.tn k 0 j = r := by unfold Lq.tn; have := HR.out; rw [if_pos (by omega)]; omega
      have own2 := own_sn6 own' (Lq.trn k 0 M) (fun _ _ _ => rfl) (by unfold Lq.trn; rw [htn]; exact ⟨rfl, rfl, rfl, rfl, rfl, rfl⟩)
      have hW3 : Below wO.heap.size wO w3 := (bal hW _).trans (below_grown hgr (fun g hg => own.base hg) (by simp; omega))
      clear own own' hgr hob hW u0 u1 u2 u3 u4 u5
      go_wp2_with fail
      go_roundw
      case rel => exact ⟨j + 1, A2, c2, by omega, by have := ER.out; simp; omega, rfl, own2, hW3⟩
      case measure => have := ER.out; simp [intOf] <;> omega
    · obtain rfl : k = j := by omega
      have e0 : (k : Int) - 1 - k = -1 := by omega
      rw [e0]
      clear e0 hlt hj
      by_cases hk1 : 1 < k
      · by_cases hq0 : 0 < q
        · obtain ⟨qn, eq_⟩ : ∃ x : Nat, q = (x : Int) := ⟨q.toNat, by omega⟩
          subst eq_
          have hqn : 0 < qn := by omega
          obtain ⟨gm, rfl, hg1, hg2⟩ := own.pos (by omega)
          obtain ⟨cn1, cn2, _⟩ := own.form
          obtain ⟨r, hr⟩ : ∃ r : Nat, qn % k = r := ⟨_, rfl⟩
          have hrk : r < k := by rw [← hr]; exact Nat.mod_lt _ (by omega)
          have htm : Int.tmod (qn : Int) (k : Int) = (r : Int) := by rw [← hr]; rfl
          clear hr
          have hcr : ¬ c' = r := by omega
          have RC1 := own.rd.cut (i := r) (j := k) (by omega) (Nat.le_refl k)
          rw [if_neg hcr] at RC1
          simp only [Option.map_some, add_plain, Nat.zero_add] at RC1
          have RC1 := RC1.congr (V' := iv fun i j => Lq.trn k 0 M (r + i) j) fun i j _ _ => rfl
          have RC2 := own.rd.short (Nat.le_of_lt hrk)
          have APP2 := Lib.hid (show ∀ i f, i < k → f < 6 → app (k - r) (iv fun i j => Lq.trn k 0 M (r + i) j) (iv (Lq.trn k 0 M)) i f = iv (Lq.trn k r M) i f from fun i f hi _ => by
            rw [app_int]
            unfold iv
            show Value.int .i64 (if i < k - r then Lq.trn k 0 M (r + i) f else Lq.trn k 0 M (i - (k - r)) f) = .int .i64 (Lq.trn k r M i f)
            unfold Lq.trn
            by_cases z : i < k - r
            · rw [if_pos z, show Lq.tn k 0 (r + i) = Lq.tn k r i by unfold Lq.tn; rw [if_pos (by omega), if_pos z]; omega]
            · rw [if_neg z, show Lq.tn k 0 (i - (k - r)) = Lq.tn k r i by unfold Lq.tn; rw [if_pos (by omega), if_neg z]; omega])
          have i1 : (0 : Int) ≤ (r : Int) := by omega
          have i2 : (r : Int) ≤ (k : Int) := by omega
          have i3 : (r : Int) ≤ (c' : Int) := by omega
          have i4 : (k : Int) ≤ (c' : Int) := by omega
          have hk0 : ¬ (k : Int) = 0 := by omega
          go_wp2_with fail
          refine wp_region_inv (fun L x G wx => Below wr.heap.size wr wx
                ∧ (L 0 → ¬ L 4 → Own wx wr.heap.size 43 6 (some ⟨G 0, 0, none⟩) 0 0 (iv M))
                ∧ (L 4 → ¬ L 8 → Own wx wr.heap.size 43 6 (oa (G 4)) (k - r) (G 14) (iv fun i j => Lq.trn k 0 M (r + i) j))
                ∧ (L 8 → Own wx wr.heap.size 43 6 (oa (G 8)) k (G 18) (iv (Lq.trn k r M)))
                ∧ (L 8 → L 4)
                ∧ (L 4 → L 0)
                ∧ (L 9 → L 1 ∧ L 5 ∧ L 8)
                ∧ (¬ L 9 → x 5 = .slice (some ⟨gm, 0, none⟩) k c')
                ∧ (L 0 → x 42 = .slice (some ⟨G 0, 0, none⟩) 0 0)
                ∧ (L 1 → x 43 = .slice (some ⟨gm, 0, none⟩) k c')
                ∧ (L 2 → x 44 = .int .i64 (r : Int))
                ∧ (L 3 → x 45 = .slice (some ⟨gm, r * 6, none⟩) (k - r) (c' - r))
                ∧ (L 4 → x 46 = .slice (oa (G 4)) (k - r) (G 14))
                ∧ (L 5 → x 47 = .slice (some ⟨gm, 0, none⟩) k c')
                ∧ (L 6 → x 48 = .int .i64 (r : Int))
                ∧ (L 7 → x 49 = .slice (some ⟨gm, 0, none⟩) r c')
                ∧ (L 8 → x 50 = .slice (oa (G 8)) k (G 18))
                ∧ (L 9 → x 5 = .slice (oa (G 8)) k (G 18))) [42, 43, 44, 45, 46, 47, 48, 49, 50, 5] 10 (by kernel_rfl) (by kernel_rfl) (by kernel_rfl) ?h0 ?st ?fin
          case h0 => exact ⟨bdr (Below.refl _ _), fun q => q.elim, fun q => q.elim, fun q => q.elim, fun q => q.elim, fun q => q.elim, fun q => q.elim, fun _ => rfl, fun q => q.elim, fun q => q.elim, fun q => q.elim, fun q => q.elim, fun q => q.elim, fun q => q.elim, fun q => q.elim, fun q => q.elim, fun q => q.elim, fun q => q.elim⟩
          case st =>
            refine StepsOk.cons (i := 0) rfl (fun L x G w1 K Q hn hp hJ hK => ?_) ?_
            · skip
              simp only [putAll, Act.put, List.setIfInBounds_toArray, List.set_cons_zero, List.set_cons_succ]
              go_simp
              refine hK _ (fun t => if t = 0 then w1.heap.size else G t) _ (by kernel_rfl) ?_
              exact ⟨bal (hJ.1) _,
                fun _ _ => own_empty _ _ _ _ _ rfl ((hJ.1)).size,
                fun q n => absurd ((hJ.2.2.2.2.2.1) (q.resolve_left (by decide))) hn,
                fun q => absurd ((hJ.2.2.2.2.2.1) ((hJ.2.2.2.2.1) (q.resolve_left (by decide)))) hn,
                fun q => .inr ((hJ.2.2.2.2.1) (q.resolve_left (by decide))),
                fun q => .inr ((hJ.2.2.2.2.2.1) (q.resolve_left (by decide))),
                fun q => ⟨.inr ((hJ.2.2.2.2.2.2.1) (q.resolve_left (by decide))).1, .inr ((hJ.2.2.2.2.2.2.1) (q.resolve_left (by decide))).2.1, .inr ((hJ.2.2.2.2.2.2.1) (q.resolve_left (by decide))).2.2⟩,
                fun n => (hJ.2.2.2.2.2.2.2.1) (fun m => n (.inr m)),
                fun _ => rfl,
                fun q => (hJ.2.2.2.2.2.2.2.2.2.1) (q.resolve_left (by decide)),
                fun q => (hJ.2.2.2.2.2.2.2.2.2.2.1) (q.resolve_left (by decide)),
                fun q => (hJ.2.2.2.2.2.2.2.2.2.2.2.1) (q.resolve_left (by decide)),
                fun q => absurd ((hJ.2.2.2.2.2.1) (q.resolve_left (by decide))) hn,
                fun q => (hJ.2.2.2.2.2.2.2.2.2.2.2.2.2.1) (q.resolve_left (by decide)),
                fun q => (hJ.2.2.2.2.2.2.2.2.2.2.2.2.2.2.1) (q.resolve_left (by decide)),
                fun q => (hJ.2.2.2.2.2.2.2.2.2.2.2.2.2.2.2.1) (q.resolve_left (by decide)),
                fun q => absurd ((hJ.2.2.2.2.2.1) ((hJ.2.2.2.2.1) (q.resolve_left (by decide)))) hn,
                fun q => absurd ((hJ.2.2.2.2.2.1) ((hJ.2.2.2.2.1) ((hJ.2.2.2.2.2.2.1) (q.resolve_left (by decide))).2.2)) hn⟩
            refine StepsOk.cons (i := 1) rfl (fun L x G w1 K Q hn hp hJ hK => ?_) ?_
            · skip
              have e5_ := (hJ.2.2.2.2.2.2.2.1) (fun z => hn ((hJ.2.2.2.2.2.2.1) z).1)
              simp only [putAll, Act.put, List.setIfInBounds_toArray, List.set_cons_zero, List.set_cons_succ]
              go_simp
              refine hK _ G _ (by kernel_rfl) ?_
              exact ⟨(hJ.1),
                fun q n => (hJ.2.1) (q.resolve_left (by decide)) (fun m => n (.inr m)),
                fun q n => (hJ.2.2.1) (q.resolve_left (by decide)) (fun m => n (.inr m)),
                fun q => (hJ.2.2.2.1) (q.resolve_left (by decide)),
                fun q => .inr ((hJ.2.2.2.2.1) (q.resolve_left (by decide))),
                fun q => .inr ((hJ.2.2.2.2.2.1) (q.resolve_left (by decide))),
                fun q => ⟨.inr ((hJ.2.2.2.2.2.2.1) (q.resolve_left (by decide))).1, .inr ((hJ.2.2.2.2.2.2.1) (q.resolve_left (by decide))).2.1, .inr ((hJ.2.2.2.2.2.2.1) (q.resolve_left (by decide))).2.2⟩,
                fun n => by first | exact rfl | exact e5_,
                fun q => (hJ.2.2.2.2.2.2.2.2.1) (q.resolve_left (by decide)),
                fun _ => rfl,
                fun q => (hJ.2.2.2.2.2.2.2.2.2.2.1) (q.resolve_left (by decide)),
                fun q => (hJ.2.2.2.2.2.2.2.2.2.2.2.1) (q.resolve_left (by decide)),
                fun q => (hJ.2.2.2.2.2.2.2.2.2.2.2.2.1) (q.resolve_left (by decide)),
                fun q => (hJ.2.2.2.2.2.2.2.2.2.2.2.2.2.1) (q.resolve_left (by decide)),
                fun q => (hJ.2.2.2.2.2.2.2.2.2.2.2.2.2.2.1) (q.resolve_left (by decide)),
                fun q => (hJ.2.2.2.2.2.2.2.2.2.2.2.2.2.2.2.1) (q.resolve_left (by decide)),
                fun q => (hJ.2.2.2.2.2.2.2.2.2.2.2.2.2.2.2.2.1) (q.resolve_left (by decide)),
                fun q => absurd ((hJ.2.2.2.2.2.2.1) (q.resolve_left (by decide))).1 hn⟩
            refine StepsOk.cons (i := 2) rfl (fun L x G w1 K Q hn hp hJ hK => ?_) ?_
            · skip
              simp only [putAll, Act.put, List.setIfInBounds_toArray, List.set_cons_zero, List.set_cons_succ]
              go_simp
              refine hK _ G _ (by kernel_rfl) ?_
              exact ⟨(hJ.1),
                fun q n => (hJ.2.1) (q.resolve_left (by decide)) (fun m => n (.inr m)),
                fun q n => (hJ.2.2.1) (q.resolve_left (by decide)) (fun m => n (.inr m)),
                fun q => (hJ.2.2.2.1) (q.resolve_left (by decide)),
                fun q => .inr ((hJ.2.2.2.2.1) (q.resolve_left (by decide))),
                fun q => .inr ((hJ.2.2.2.2.2.1) (q.resolve_left (by decide))),
                fun q => ⟨.inr ((hJ.2.2.2.2.2.2.1) (q.resolve_left (by decide))).1, .inr ((hJ.2.2.2.2.2.2.1) (q.resolve_left (by decide))).2.1, .inr ((hJ.2.2.2.2.2.2.1) (q.resolve_left (by decide))).2.2⟩,
                fun n => (hJ.2.2.2.2.2.2.2.1) (fun m => n (.inr m)),
                fun q => (hJ.2.2.2.2.2.2.2.2.1) (q.resolve_left (by decide)),
                fun q => (hJ.2.2.2.2.2.2.2.2.2.1) (q.resolve_left (by decide)),
                fun _ => rfl,
                fun q => (hJ.2.2.2.2.2.2.2.2.2.2.2.1) (q.resolve_left (by decide)),
                fun q => (hJ.2.2.2.2.2.2.2.2.2.2.2.2.1) (q.resolve_left (by decide)),
                fun q => (hJ.2.2.2.2.2.2.2.2.2.2.2.2.2.1) (q.resolve_left (by decide)),
                fun q => (hJ.2.2.2.2.2.2.2.2.2.2.2.2.2.2.1) (q.resolve_left (by decide)),
                fun q => (hJ.2.2.2.2.2.2.2.2.2.2.2.2.2.2.2.1) (q.resolve_left (by decide)),
                fun q => (hJ.2.2.2.2.2.2.2.2.2.2.2.2.2.2.2.2.1) (q.resolve_left (by decide)),
                fun q => (hJ.2.2.2.2.2.2.2.2.2.2.2.2.2.2.2.2.2) (q.resolve_left (by decide))⟩
            refine StepsOk.cons (i := 3) rfl (fun L x G w1 K Q hn hp hJ hK => ?_) ?_
            · skip
              have p1 : L 1 := hp ⟨1, .data⟩ (by simp) rfl
              have e1 := (hJ.2.2.2.2.2.2.2.2.2.1) p1
              have p2 : L 2 := hp ⟨2, .data⟩ (by simp) rfl
              have e2 := (hJ.2.2.2.2.2.2.2.2.2.2.1) p2
              simp only [putAll, Act.put, List.setIfInBounds_toArray, List.set_cons_zero, List.set_cons_succ]
              go_simp
              refine hK _ G _ (by kernel_rfl) ?_
              exact ⟨(hJ.1),
                fun q n => (hJ.2.1) (q.resolve_left (by decide)) (fun m => n (.inr m)),
                fun q n => (hJ.2.2.1) (q.resolve_left (by decide)) (fun m => n (.inr m)),
                fun q => (hJ.2.2.2.1) (q.resolve_left (by decide)),
                fun q => .inr ((hJ.2.2.2.2.1) (q.resolve_left (by decide))),
                fun q => .inr ((hJ.2.2.2.2.2.1) (q.resolve_left (by decide))),
                fun q => ⟨.inr ((hJ.2.2.2.2.2.2.1) (q.resolve_left (by decide))).1, .inr ((hJ.2.2.2.2.2.2.1) (q.resolve_left (by decide))).2.1, .inr ((hJ.2.2.2.2.2.2.1) (q.resolve_left (by decide))).2.2⟩,
                fun n => (hJ.2.2.2.2.2.2.2.1) (fun m => n (.inr m)),
                fun q => (hJ.2.2.2.2.2.2.2.2.1) (q.resolve_left (by decide)),
                fun _ => by first | exact rfl | exact e1,
                fun _ => by first | exact rfl | exact e2,
                fun _ => rfl,
                fun q => (hJ.2.2.2.2.2.2.2.2.2.2.2.2.1) (q.resolve_left (by decide)),
                fun q => (hJ.2.2.2.2.2.2.2.2.2.2.2.2.2.1) (q.resolve_left (by decide)),
                fun q => (hJ.2.2.2.2.2.2.2.2.2.2.2.2.2.2.1) (q.resolve_left (by decide)),
                fun q => (hJ.2.2.2.2.2.2.2.2.2.2.2.2.2.2.2.1) (q.resolve_left (by decide)),
                fun q => (hJ.2.2.2.2.2.2.2.2.2.2.2.2.2.2.2.2.1) (q.resolve_left (by decide)),
                fun q => (hJ.2.2.2.2.2.2.2.2.2.2.2.2.2.2.2.2.2) (q.resolve_left (by decide))⟩
            refine StepsOk.cons (i := 4) rfl (fun L x G w1 K Q hn hp hJ hK => ?_) ?_
            · skip
              have p0 : L 0 := hp ⟨0, .data⟩ (by simp) rfl
              have e0 := (hJ.2.2.2.2.2.2.2.2.1) p0
              have p3 : L 3 := hp ⟨3, .data⟩ (by simp) rfl
              have e3 := (hJ.2.2.2.2.2.2.2.2.2.2.2.1) p3
              simp only [putAll, Act.put, List.setIfInBounds_toArray, List.set_cons_zero, List.set_cons_succ]
              simp only [e0, e3]
              have own0 := (hJ.2.1) p0 hn
              have src0 := RC1.keep (hJ.1)
              have hBs := ((hJ.1)).size
              refine wp_append_Rd _ _ _ 22 rfl wr.heap.size 43 i0 _ 6 48 Try.underlying22 HI.out HZ0.out HZ1.out HZ2.out rfl (by decide) rfl own0 rfl src0 (one_iv _) (by omega) (by omega) hBs ?_
              intro A9 c9 w2 own9 hgr_ hob
              rw [Nat.zero_add] at own9 ⊢
              refine Exists.elim (oa_form own9) fun u9 hu => ?_
              subst hu
              simp only [Act.put, List.setIfInBounds_toArray, List.set_cons_zero, List.set_cons_succ]
              refine hK _ (fun t => if t = 4 then u9 else if t = 14 then c9 else G t) _ (by kernel_rfl) ?_
              exact ⟨((hJ.1)).trans (below_grown hgr_ (fun g h => own0.base h) hBs),
                fun _ n => absurd (.inl rfl) n,
                fun _ _ => own9.congr (fun _ _ _ _ => app_0 _ _ _ _),
                fun q => absurd ((hJ.2.2.2.2.1) (q.resolve_left (by decide))) hn,
                fun q => .inr ((hJ.2.2.2.2.1) (q.resolve_left (by decide))),
                fun _ => .inr p0,
                fun q => ⟨.inr ((hJ.2.2.2.2.2.2.1) (q.resolve_left (by decide))).1, .inr ((hJ.2.2.2.2.2.2.1) (q.resolve_left (by decide))).2.1, .inr ((hJ.2.2.2.2.2.2.1) (q.resolve_left (by decide))).2.2⟩,
                fun n => (hJ.2.2.2.2.2.2.2.1) (fun m => n (.inr m)),
                fun _ => by first | exact rfl | exact e0,
                fun q => (hJ.2.2.2.2.2.2.2.2.2.1) (q.resolve_left (by decide)),
                fun q => (hJ.2.2.2.2.2.2.2.2.2.2.1) (q.resolve_left (by decide)),
                fun _ => by first | exact rfl | exact e3,
                fun _ => rfl,
                fun q => (hJ.2.2.2.2.2.2.2.2.2.2.2.2.2.1) (q.resolve_left (by decide)),
                fun q => (hJ.2.2.2.2.2.2.2.2.2.2.2.2.2.2.1) (q.resolve_left (by decide)),
                fun q => (hJ.2.2.2.2.2.2.2.2.2.2.2.2.2.2.2.1) (q.resolve_left (by decide)),
                fun q => absurd ((hJ.2.2.2.2.1) (q.resolve_left (by decide))) hn,
                fun q => absurd ((hJ.2.2.2.2.1) ((hJ.2.2.2.2.2.2.1) (q.resolve_left (by decide))).2.2) hn⟩
            refine StepsOk.cons (i := 5) rfl (fun L x G w1 K Q hn hp hJ hK => ?_) ?_
            · skip
              have e5_ := (hJ.2.2.2.2.2.2.2.1) (fun z => hn ((hJ.2.2.2.2.2.2.1) z).2.1)
              simp only [putAll, Act.put, List.setIfInBounds_toArray, List.set_cons_zero, List.set_cons_succ]
              go_simp
              refine hK _ G _ (by kernel_rfl) ?_
              exact ⟨(hJ.1),
                fun q n => (hJ.2.1) (q.resolve_left (by decide)) (fun m => n (.inr m)),
                fun q n => (hJ.2.2.1) (q.resolve_left (by decide)) (fun m => n (.inr m)),
                fun q => (hJ.2.2.2.1) (q.resolve_left (by decide)),
                fun q => .inr ((hJ.2.2.2.2.1) (q.resolve_left (by decide))),
                fun q => .inr ((hJ.2.2.2.2.2.1) (q.resolve_left (by decide))),
                fun q => ⟨.inr ((hJ.2.2.2.2.2.2.1) (q.resolve_left (by decide))).1, .inr ((hJ.2.2.2.2.2.2.1) (q.resolve_left (by decide))).2.1, .inr ((hJ.2.2.2.2.2.2.1) (q.resolve_left (by decide))).2.2⟩,
                fun n => by first | exact rfl | exact e5_,
                fun q => (hJ.2.2.2.2.2.2.2.2.1) (q.resolve_left (by decide)),
                fun q => (hJ.2.2.2.2.2.2.2.2.2.1) (q.resolve_left (by decide)),
                fun q => (hJ.2.2.2.2.2.2.2.2.2.2.1) (q.resolve_left (by decide)),
                fun q => (hJ.2.2.2.2.2.2.2.2.2.2.2.1) (q.resolve_left (by decide)),
                fun q => (hJ.2.2.2.2.2.2.2.2.2.2.2.2.1) (q.resolve_left (by decide)),
                fun _ => rfl,
                fun q => (hJ.2.2.2.2.2.2.2.2.2.2.2.2.2.2.1) (q.resolve_left (by decide)),
                fun q => (hJ.2.2.2.2.2.2.2.2.2.2.2.2.2.2.2.1) (q.resolve_left (by decide)),
                fun q => (hJ.2.2.2.2.2.2.2.2.2.2.2.2.2.2.2.2.1) (q.resolve_left (by decide)),
                fun q => absurd ((hJ.2.2.2.2.2.2.1) (q.resolve_left (by decide))).2.1 hn⟩
            refine StepsOk.cons (i := 6) rfl (fun L x G w1 K Q hn hp hJ hK => ?_) ?_
            · skip
              simp only [putAll, Act.put, List.setIfInBounds_toArray, List.set_cons_zero, List.set_cons_succ]
              go_simp
              refine hK _ G _ (by kernel_rfl) ?_
              exact ⟨(hJ.1),
                fun q n => (hJ.2.1) (q.resolve_left (by decide)) (fun m => n (.inr m)),
                fun q n => (hJ.2.2.1) (q.resolve_left (by decide)) (fun m => n (.inr m)),
                fun q => (hJ.2.2.2.1) (q.resolve_left (by decide)),
                fun q => .inr ((hJ.2.2.2.2.1) (q.resolve_left (by decide))),
                fun q => .inr ((hJ.2.2.2.2.2.1) (q.resolve_left (by decide))),
                fun q => ⟨.inr ((hJ.2.2.2.2.2.2.1) (q.resolve_left (by decide))).1, .inr ((hJ.2.2.2.2.2.2.1) (q.resolve_left (by decide))).2.1, .inr ((hJ.2.2.2.2.2.2.1) (q.resolve_left (by decide))).2.2⟩,
                fun n => (hJ.2.2.2.2.2.2.2.1) (fun m => n (.inr m)),
                fun q => (hJ.2.2.2.2.2.2.2.2.1) (q.resolve_left (by decide)),
                fun q => (hJ.2.2.2.2.2.2.2.2.2.1) (q.resolve_left (by decide)),
                fun q => (hJ.2.2.2.2.2.2.2.2.2.2.1) (q.resolve_left (by decide)),
                fun q => (hJ.2.2.2.2.2.2.2.2.2.2.2.1) (q.resolve_left (by decide)),
                fun q => (hJ.2.2.2.2.2.2.2.2.2.2.2.2.1) (q.resolve_left (by decide)),
                fun q => (hJ.2.2.2.2.2.2.2.2.2.2.2.2.2.1) (q.resolve_left (by decide)),
                fun _ => rfl,
                fun q => (hJ.2.2.2.2.2.2.2.2.2.2.2.2.2.2.2.1) (q.resolve_left (by decide)),
                fun q => (hJ.2.2.2.2.2.2.2.2.2.2.2.2.2.2.2.2.1) (q.resolve_left (by decide)),
                fun q => (hJ.2.2.2.2.2.2.2.2.2.2.2.2.2.2.2.2.2) (q.resolve_left (by decide))⟩
            refine StepsOk.cons (i := 7) rfl (fun L x G w1 K Q hn hp hJ hK => ?_) ?_
            · skip
              have p5 : L 5 := hp ⟨5, .data⟩ (by simp) rfl
              have e5 := (hJ.2.2.2.2.2.2.2.2.2.2.2.2.2.1) p5
              have p6 : L 6 := hp ⟨6, .data⟩ (by simp) rfl
              have e6 := (hJ.2.2.2.2.2.2.2.2.2.2.2.2.2.2.1) p6
              simp only [putAll, Act.put, List.setIfInBounds_toArray, List.set_cons_zero, List.set_cons_succ]
              go_simp
              refine hK _ G _ (by kernel_rfl) ?_
              exact ⟨(hJ.1),
                fun q n => (hJ.2.1) (q.resolve_left (by decide)) (fun m => n (.inr m)),
                fun q n => (hJ.2.2.1) (q.resolve_left (by decide)) (fun m => n (.inr m)),
                fun q => (hJ.2.2.2.1) (q.resolve_left (by decide)),
                fun q => .inr ((hJ.2.2.2.2.1) (q.resolve_left (by decide))),
                fun q => .inr ((hJ.2.2.2.2.2.1) (q.resolve_left (by decide))),
                fun q => ⟨.inr ((hJ.2.2.2.2.2.2.1) (q.resolve_left (by decide))).1, .inr ((hJ.2.2.2.2.2.2.1) (q.resolve_left (by decide))).2.1, .inr ((hJ.2.2.2.2.2.2.1) (q.resolve_left (by decide))).2.2⟩,
                fun n => (hJ.2.2.2.2.2.2.2.1) (fun m => n (.inr m)),
                fun q => (hJ.2.2.2.2.2.2.2.2.1) (q.resolve_left (by decide)),
                fun q => (hJ.2.2.2.2.2.2.2.2.2.1) (q.resolve_left (by decide)),
                fun q => (hJ.2.2.2.2.2.2.2.2.2.2.1) (q.resolve_left (by decide)),
                fun q => (hJ.2.2.2.2.2.2.2.2.2.2.2.1) (q.resolve_left (by decide)),
                fun q => (hJ.2.2.2.2.2.2.2.2.2.2.2.2.1) (q.resolve_left (by decide)),
                fun _ => by first | exact rfl | exact e5,
                fun _ => by first | exact rfl | exact e6,
                fun _ => rfl,
                fun q => (hJ.2.2.2.2.2.2.2.2.2.2.2.2.2.2.2.2.1) (q.resolve_left (by decide)),
                fun q => (hJ.2.2.2.2.2.2.2.2.2.2.2.2.2.2.2.2.2) (q.resolve_left (by decide))⟩
            refine StepsOk.cons (i := 8) rfl (fun L x G w1 K Q hn hp hJ hK => ?_) ?_
            · skip
              have p4 : L 4 := hp ⟨4, .data⟩ (by simp) rfl
              have e4 := (hJ.2.2.2.2.2.2.2.2.2.2.2.2.1) p4
              have p7 : L 7 := hp ⟨7, .data⟩ (by simp) rfl
              have e7 := (hJ.2.2.2.2.2.2.2.2.2.2.2.2.2.2.2.1) p7
              simp only [putAll, Act.put, List.setIfInBounds_toArray, List.set_cons_zero, List.set_cons_succ]
              simp only [e4, e7]
              have own0 := (hJ.2.2.1) p4 hn
              have src0 := RC2.keep (hJ.1)
              have hBs := ((hJ.1)).size
              refine wp_append_Rd _ _ _ 22 rfl wr.heap.size 43 i0 _ 6 48 Try.underlying22 HI.out HZ0.out HZ1.out HZ2.out rfl (by decide) rfl own0 rfl src0 (one_iv _) (by omega) (by omega) hBs ?_
              intro A9 c9 w2 own9 hgr_ hob
              rw [show k - r + r = k by omega] at own9 ⊢
              refine Exists.elim (oa_form own9) fun u9 hu => ?_
              subst hu
              simp only [Act.put, List.setIfInBounds_toArray, List.set_cons_zero, List.set_cons_succ]
              refine hK _ (fun t => if t = 8 then u9 else if t = 18 then c9 else G t) _ (by kernel_rfl) ?_
              exact ⟨((hJ.1)).trans (below_grown hgr_ (fun g h => own0.base h) hBs),
                fun q n => absurd (.inr p4) n,
                fun _ n => absurd (.inl rfl) n,
                fun _ => own9.congr APP2.out,
                fun _ => .inr p4,
                fun q => .inr ((hJ.2.2.2.2.2.1) (q.resolve_left (by decide))),
                fun q => ⟨.inr ((hJ.2.2.2.2.2.2.1) (q.resolve_left (by decide))).1, .inr ((hJ.2.2.2.2.2.2.1) (q.resolve_left (by decide))).2.1, .inr ((hJ.2.2.2.2.2.2.1) (q.resolve_left (by decide))).2.2⟩,
                fun n => (hJ.2.2.2.2.2.2.2.1) (fun m => n (.inr m)),
                fun q => (hJ.2.2.2.2.2.2.2.2.1) (q.resolve_left (by decide)),
                fun q => (hJ.2.2.2.2.2.2.2.2.2.1) (q.resolve_left (by decide)),
                fun q => (hJ.2.2.2.2.2.2.2.2.2.2.1) (q.resolve_left (by decide)),
                fun q => (hJ.2.2.2.2.2.2.2.2.2.2.2.1) (q.resolve_left (by decide)),
                fun _ => by first | exact rfl | exact e4,
                fun q => (hJ.2.2.2.2.2.2.2.2.2.2.2.2.2.1) (q.resolve_left (by decide)),
                fun q => (hJ.2.2.2.2.2.2.2.2.2.2.2.2.2.2.1) (q.resolve_left (by decide)),
                fun _ => by first | exact rfl | exact e7,
                fun _ => rfl,
                fun q => absurd ((hJ.2.2.2.2.2.2.1) (q.resolve_left (by decide))).2.2 hn⟩
            refine StepsOk.cons (i := 9) rfl (fun L x G w1 K Q hn hp hJ hK => ?_) ?_
            · skip
              have p8 : L 8 := hp ⟨8, .data⟩ (by simp) rfl
              have e8 := (hJ.2.2.2.2.2.2.2.2.2.2.2.2.2.2.2.2.1) p8
              simp only [putAll, Act.put, List.setIfInBounds_toArray, List.set_cons_zero, List.set_cons_succ]
              go_simp
              refine hK _ G _ (by kernel_rfl) ?_
              exact ⟨(hJ.1),
                fun q n => (hJ.2.1) (q.resolve_left (by decide)) (fun m => n (.inr m)),
                fun q n => (hJ.2.2.1) (q.resolve_left (by decide)) (fun m => n (.inr m)),
                fun q => (hJ.2.2.2.1) (q.resolve_left (by decide)),
                fun q => .inr ((hJ.2.2.2.2.1) (q.resolve_left (by decide))),
                fun q => .inr ((hJ.2.2.2.2.2.1) (q.resolve_left (by decide))),
                fun _ => ⟨.inr (hp ⟨1, .phase⟩ (by simp) rfl), .inr (hp ⟨5, .phase⟩ (by simp) rfl), .inr p8⟩,
                fun n => absurd (.inl rfl) n,
                fun q => (hJ.2.2.2.2.2.2.2.2.1) (q.resolve_left (by decide)),
                fun q => (hJ.2.2.2.2.2.2.2.2.2.1) (q.resolve_left (by decide)),
                fun q => (hJ.2.2.2.2.2.2.2.2.2.2.1) (q.resolve_left (by decide)),
                fun q => (hJ.2.2.2.2.2.2.2.2.2.2.2.1) (q.resolve_left (by decide)),
                fun q => (hJ.2.2.2.2.2.2.2.2.2.2.2.2.1) (q.resolve_left (by decide)),
                fun q => (hJ.2.2.2.2.2.2.2.2.2.2.2.2.2.1) (q.resolve_left (by decide)),
                fun q => (hJ.2.2.2.2.2.2.2.2.2.2.2.2.2.2.1) (q.resolve_left (by decide)),
                fun q => (hJ.2.2.2.2.2.2.2.2.2.2.2.2.2.2.2.1) (q.resolve_left (by decide)),
                fun _ => by first | exact rfl | exact e8,
                fun _ => rfl⟩
            exact StepsOk.nil
          case fin =>
            intro L x G wf hall hJ
            have own2 := hJ.2.2.2.1 (hall 8 (by decide))
            have hb_ := hJ.1
            have y0 := hJ.2.2.2.2.2.2.2.2.1 (hall 0 (by decide))
            have y1 := hJ.2.2.2.2.2.2.2.2.2.1 (hall 1 (by decide))
            have y2 := hJ.2.2.2.2.2.2.2.2.2.2.1 (hall 2 (by decide))
            have y3 := hJ.2.2.2.2.2.2.2.2.2.2.2.1 (hall 3 (by decide))
            have y4 := hJ.2.2.2.2.2.2.2.2.2.2.2.2.1 (hall 4 (by decide))
            have y5 := hJ.2.2.2.2.2.2.2.2.2.2.2.2.2.1 (hall 5 (by decide))
            have y6 := hJ.2.2.2.2.2.2.2.2.2.2.2.2.2.2.1 (hall 6 (by decide))
            have y7 := hJ.2.2.2.2.2.2.2.2.2.2.2.2.2.2.2.1 (hall 7 (by decide))
            have y8 := hJ.2.2.2.2.2.2.2.2.2.2.2.2.2.2.2.2.1 (hall 8 (by decide))
            have y9 := hJ.2.2.2.2.2.2.2.2.2.2.2.2.2.2.2.2.2 (hall 9 (by decide))
            simp only [putAll, Act.put, List.setIfInBounds_toArray, List.set_cons_zero, List.set_cons_succ]
            simp only [y0, y1, y2, y3, y4, y5, y6, y7, y8, y9]
            clear hall hJ y0 y1 y2 y3 y4 y5 y6 y7 y8 y9
            generalize oa (G 8) = A9 at own2 ⊢
            generalize G 18 = c9 at own2 ⊢
            have RS := own2.rd
            replace hB := bt (bt hB hW) hb_
            clear own2 hb_ hW RC1 RC2 own
            obtain ⟨t1, t2, t3, t4⟩ := Lq.trn_all (n := k) (r := r) (M := M) (by omega)
            have X1 := Lib.hid t1
            have X2 := Lib.hid t2
            have X3 := Lib.hid t3
            have X4 := Lib.hid t4
            clear t1 t2 t3 t4
            by_cases h : Lq.er k M = 0
            · have H := Lib.hid h
              clear h
              go_wp2_with fail
              refine (solve_ok _ _ _ _ _ (T.keep hB) H.out).mono ?_
              rintro e w41 ⟨rfl, hb⟩
              replace RS := RS.keep hb
              replace hB := bt hB hb
              clear hb
              have hz41 := hB.size
              replace RS := RS.alloc (.cells #[.int .i64 (Wi.Hq (Lq.sx k M)), .int .u64 (Wi.Lr (Lq.sx k M)), .int .i64 (Wi.Hq (Lq.sy k M)), .int .u64 (Wi.Lr (Lq.sy k M)), .int .i64 (Lq.det k M), .int .i64 (Lq.nr (Lq.sx k M) (Lq.det k M)), .int .i64 (Lq.nr (Lq.sy k M) (Lq.det k M))] 38)
              replace hB := bal hB (.cells #[.int .i64 (Wi.Hq (Lq.sx k M)), .int .u64 (Wi.Lr (Lq.sx k M)), .int .i64 (Wi.Hq (Lq.sy k M)), .int .u64 (Wi.Lr (Lq.sy k M)), .int .i64 (Lq.det k M), .int .i64 (Lq.nr (Lq.sx k M) (Lq.det k M)), .int .i64 (Lq.nr (Lq.sy k M) (Lq.det k M))] 38)
              have S := Blk.new w41 38 #[.int .i64 (Wi.Hq (Lq.sx k M)), .int .u64 (Wi.Lr (Lq.sx k M)), .int .i64 (Wi.Hq (Lq.sy k M)), .int .u64 (Wi.Lr (Lq.sy k M)), .int .i64 (Lq.det k M), .int .i64 (Lq.nr (Lq.sx k M) (Lq.det k M)), .int .i64 (Lq.nr (Lq.sy k M) (Lq.det k M))]
              go_wp2_with fail
              refine (solve_ok _ _ _ _ _ RS (by rw [X1.out]; exact H.out)).mono ?_
              rw [X2.out, X3.out, X4.out]
              rintro e w42 ⟨rfl, hb⟩
              replace S := S.keep hb
              replace RS := RS.keep hb
              replace hB := bt hB hb
              clear hb
              have hz42 := hB.size
              have l42S := S.lt
              replace S := S.alloc (.cells #[.int .i64 (Wi.Hq (Lq.sx k M)), .int .u64 (Wi.Lr (Lq.sx k M)), .int .i64 (Wi.Hq (Lq.sy k M)), .int .u64 (Wi.Lr (Lq.sy k M)), .int .i64 (Lq.det k M), .int .i64 (Lq.nr (Lq.sx k M) (Lq.det k M)), .int .i64 (Lq.nr (Lq.sy k M) (Lq.det k M))] 38)
              replace RS := RS.alloc (.cells #[.int .i64 (Wi.Hq (Lq.sx k M)), .int .u64 (Wi.Lr (Lq.sx k M)), .int .i64 (Wi.Hq (Lq.sy k M)), .int .u64 (Wi.Lr (Lq.sy k M)), .int .i64 (Lq.det k M), .int .i64 (Lq.nr (Lq.sx k M) (Lq.det k M)), .int .i64 (Lq.nr (Lq.sy k M) (Lq.det k M))] 38)
              replace hB := bal hB (.cells #[.int .i64 (Wi.Hq (Lq.sx k M)), .int .u64 (Wi.Lr (Lq.sx k M)), .int .i64 (Wi.Hq (Lq.sy k M)), .int .u64 (Wi.Lr (Lq.sy k M)), .int .i64 (Lq.det k M), .int .i64 (Lq.nr (Lq.sx k M) (Lq.det k M)), .int .i64 (Lq.nr (Lq.sy k M) (Lq.det k M))] 38)
              have S2 := Blk.new w42 38 #[.int .i64 (Wi.Hq (Lq.sx k M)), .int .u64 (Wi.Lr (Lq.sx k M)), .int .i64 (Wi.Hq (Lq.sy k M)), .int .u64 (Wi.Lr (Lq.sy k M)), .int .i64 (Lq.det k M), .int .i64 (Lq.nr (Lq.sx k M) (Lq.det k M)), .int .i64 (Lq.nr (Lq.sy k M) (Lq.det k M))]
              obtain ⟨c00, c01, c02, c03, c04, c05, c06, c07, c08⟩ := S.open7
              obtain ⟨c10, c11, c12, c13, c14, c15, c16, c17, c18⟩ := S2.open7
              go_wp2_with fail
              go_returns
              exact ⟨rfl, hB⟩
            · have H := Lib.hid h
              clear h
              have e1 : (Lq.er k M == Lq.er k M) = true := by simp
              go_wp2_with fail
              refine (solve_no _ _ _ _ _ (T.keep hB) H.out).mono ?_
              rintro e w41 ⟨rfl, hb⟩
              replace RS := RS.keep hb
              replace hB := bt hB hb
              clear hb
              have hz41 := hB.size
              replace RS := RS.alloc (.cells #[.int .i64 (0), .int .u64 (0), .int .i64 (0), .int .u64 (0), .int .i64 (0), .int .i64 (0), .int .i64 (0)] 38)
              replace hB := bal hB (.cells #[.int .i64 (0), .int .u64 (0), .int .i64 (0), .int .u64 (0), .int .i64 (0), .int .i64 (0), .int .i64 (0)] 38)
              have S := Blk.new w41 38 #[.int .i64 (0), .int .u64 (0), .int .i64 (0), .int .u64 (0), .int .i64 (0), .int .i64 (0), .int .i64 (0)]
              go_wp2_with fail
              refine (solve_no _ _ _ _ _ RS (by rw [X1.out]; exact H.out)).mono ?_
              rw [X1.out]
              rintro e w42 ⟨rfl, hb⟩
              replace S := S.keep hb
              replace RS := RS.keep hb
              replace hB := bt hB hb
              clear hb
              have hz42 := hB.size
              have l42S := S.lt
              replace S := S.alloc (.cells #[.int .i64 (0), .int .u64 (0), .int .i64 (0), .int .u64 (0), .int .i64 (0), .int .i64 (0), .int .i64 (0)] 38)
              replace RS := RS.alloc (.cells #[.int .i64 (0), .int .u64 (0), .int .i64 (0), .int .u64 (0), .int .i64 (0), .int .i64 (0), .int .i64 (0)] 38)
              replace hB := bal hB (.cells #[.int .i64 (0), .int .u64 (0), .int .i64 (0), .int .u64 (0), .int .i64 (0), .int .i64 (0), .int .i64 (0)] 38)
              have S2 := Blk.new w42 38 #[.int .i64 (0), .int .u64 (0), .int .i64 (0), .int .u64 (0), .int .i64 (0), .int .i64 (0), .int .i64 (0)]
              obtain ⟨c00, c01, c02, c03, c04, c05, c06, c07, c08⟩ := S.open7
              obtain ⟨c10, c11, c12, c13, c14, c15, c16, c17, c18⟩ := S2.open7
              go_wp2_with fail
              go_returns
              exact ⟨rfl, hB⟩
        have hq1 : ¬ (0 : Int) < q := hq0
        have hq2 : decide ((0 : Int) < q) = false := decide_eq_false hq0
        have RS := own.rd
        replace hB := bt hB hW
        clear own hW
        obtain ⟨t1, t2, t3, t4⟩ := Lq.trn_all (n := k) (r := 0) (M := M) (by omega)
        have X1 := Lib.hid t1
        have X2 := Lib.hid t2
        have X3 := Lib.hid t3
        have X4 := Lib.hid t4
        clear t1 t2 t3 t4
        by_cases h : Lq.er k M = 0
        · have H := Lib.hid h
          clear h
          go_wp2_with fail
          refine (solve_ok _ _ _ _ _ (T.keep hB) H.out).mono ?_
          rintro e w41 ⟨rfl, hb⟩
          replace RS := RS.keep hb
          replace hB := bt hB hb
          clear hb
          have hz41 := hB.size
          replace RS := RS.alloc (.cells #[.int .i64 (Wi.Hq (Lq.sx k M)), .int .u64 (Wi.Lr (Lq.sx k M)), .int .i64 (Wi.Hq (Lq.sy k M)), .int .u64 (Wi.Lr (Lq.sy k M)), .int .i64 (Lq.det k M), .int .i64 (Lq.nr (Lq.sx k M) (Lq.det k M)), .int .i64 (Lq.nr (Lq.sy k M) (Lq.det k M))] 38)
          replace hB := bal hB (.cells #[.int .i64 (Wi.Hq (Lq.sx k M)), .int .u64 (Wi.Lr (Lq.sx k M)), .int .i64 (Wi.Hq (Lq.sy k M)), .int .u64 (Wi.Lr (Lq.sy k M)), .int .i64 (Lq.det k M), .int .i64 (Lq.nr (Lq.sx k M) (Lq.det k M)), .int .i64 (Lq.nr (Lq.sy k M) (Lq.det k M))] 38)
          have S := Blk.new w41 38 #[.int .i64 (Wi.Hq (Lq.sx k M)), .int .u64 (Wi.Lr (Lq.sx k M)), .int .i64 (Wi.Hq (Lq.sy k M)), .int .u64 (Wi.Lr (Lq.sy k M)), .int .i64 (Lq.det k M), .int .i64 (Lq.nr (Lq.sx k M) (Lq.det k M)), .int .i64 (Lq.nr (Lq.sy k M) (Lq.det k M))]
          go_wp2_with fail
          refine (solve_ok _ _ _ _ _ RS (by rw [X1.out]; exact H.out)).mono ?_
          rw [X2.out, X3.out, X4.out]
          rintro e w42 ⟨rfl, hb⟩
          replace S := S.keep hb
          replace RS := RS.keep hb
          replace hB := bt hB hb
          clear hb
          have hz42 := hB.size
          have l42S := S.lt
          replace S := S.alloc (.cells #[.int .i64 (Wi.Hq (Lq.sx k M)), .int .u64 (Wi.Lr (Lq.sx k M)), .int .i64 (Wi.Hq (Lq.sy k M)), .int .u64 (Wi.Lr (Lq.sy k M)), .int .i64 (Lq.det k M), .int .i64 (Lq.nr (Lq.sx k M) (Lq.det k M)), .int .i64 (Lq.nr (Lq.sy k M) (Lq.det k M))] 38)
          replace RS := RS.alloc (.cells #[.int .i64 (Wi.Hq (Lq.sx k M)), .int .u64 (Wi.Lr (Lq.sx k M)), .int .i64 (Wi.Hq (Lq.sy k M)), .int .u64 (Wi.Lr (Lq.sy k M)), .int .i64 (Lq.det k M), .int .i64 (Lq.nr (Lq.sx k M) (Lq.det k M)), .int .i64 (Lq.nr (Lq.sy k M) (Lq.det k M))] 38)
          replace hB := bal hB (.cells #[.int .i64 (Wi.Hq (Lq.sx k M)), .int .u64 (Wi.Lr (Lq.sx k M)), .int .i64 (Wi.Hq (Lq.sy k M)), .int .u64 (Wi.Lr (Lq.sy k M)), .int .i64 (Lq.det k M), .int .i64 (Lq.nr (Lq.sx k M) (Lq.det k M)), .int .i64 (Lq.nr (Lq.sy k M) (Lq.det k M))] 38)
          have S2 := Blk.new w42 38 #[.int .i64 (Wi.Hq (Lq.sx k M)), .int .u64 (Wi.Lr (Lq.sx k M)), .int .i64 (Wi.Hq (Lq.sy k M)), .int .u64 (Wi.Lr (Lq.sy k M)), .int .i64 (Lq.det k M), .int .i64 (Lq.nr (Lq.sx k M) (Lq.det k M)), .int .i64 (Lq.nr (Lq.sy k M) (Lq.det k M))]
          obtain ⟨c00, c01, c02, c03, c04, c05, c06, c07, c08⟩ := S.open7
          obtain ⟨c10, c11, c12, c13, c14, c15, c16, c17, c18⟩ := S2.open7
          go_wp2_with fail
          go_returns
          exact ⟨rfl, hB⟩
        · have H := Lib.hid h
          clear h
          have e1 : (Lq.er k M == Lq.er k M) = true := by simp
          go_wp2_with fail
          refine (solve_no _ _ _ _ _ (T.keep hB) H.out).mono ?_
          rintro e w41 ⟨rfl, hb⟩
          replace RS := RS.keep hb
          replace hB := bt hB hb
          clear hb
          have hz41 := hB.size
          replace RS := RS.alloc (.cells #[.int .i64 (0), .int .u64 (0), .int .i64 (0), .int .u64 (0), .int .i64 (0), .int .i64 (0), .int .i64 (0)] 38)
          replace hB := bal hB (.cells #[.int .i64 (0), .int .u64 (0), .int .i64 (0), .int .u64 (0), .int .i64 (0), .int .i64 (0), .int .i64 (0)] 38)
          have S := Blk.new w41 38 #[.int .i64 (0), .int .u64 (0), .int .i64 (0), .int .u64 (0), .int .i64 (0), .int .i64 (0), .int .i64 (0)]
          go_wp2_with fail
          refine (solve_no _ _ _ _ _ RS (by rw [X1.out]; exact H.out)).mono ?_
          rw [X1.out]
          rintro e w42 ⟨rfl, hb⟩
          replace S := S.keep hb
          replace RS := RS.keep hb
          replace hB := bt hB hb
          clear hb
          have hz42 := hB.size
          have l42S := S.lt
          replace S := S.alloc (.cells #[.int .i64 (0), .int .u64 (0), .int .i64 (0), .int .u64 (0), .int .i64 (0), .int .i64 (0), .int .i64 (0)] 38)
          replace RS := RS.alloc (.cells #[.int .i64 (0), .int .u64 (0), .int .i64 (0), .int .u64 (0), .int .i64 (0), .int .i64 (0), .int .i64 (0)] 38)
          replace hB := bal hB (.cells #[.int .i64 (0), .int .u64 (0), .int .i64 (0), .int .u64 (0), .int .i64 (0), .int .i64 (0), .int .i64 (0)] 38)
          have S2 := Blk.new w42 38 #[.int .i64 (0), .int .u64 (0), .int .i64 (0), .int .u64 (0), .int .i64 (0), .int .i64 (0), .int .i64 (0)]
          obtain ⟨c00, c01, c02, c03, c04, c05, c06, c07, c08⟩ := S.open7
          obtain ⟨c10, c11, c12, c13, c14, c15, c16, c17, c18⟩ := S2.open7
          go_wp2_with fail
          go_returns
          exact ⟨rfl, hB⟩
      have hk2_ : decide ((1 : Int) < (k : Int)) = false := decide_eq_false (by omega)
      have hk3 : ¬ (1 : Int) < (k : Int) := by omega
      have RS := own.rd
      replace hB := bt hB hW
      clear own hW
      obtain ⟨t1, t2, t3, t4⟩ := Lq.trn_all (n := k) (r := 0) (M := M) (by omega)
      have X1 := Lib.hid t1
      have X2 := Lib.hid t2
      have X3 := Lib.hid t3
      have X4 := Lib.hid t4
      clear t1 t2 t3 t4
      by_cases h : Lq.er k M = 0
      · have H := Lib.hid h
        clear h
        go_wp2_with fail
        refine (solve_ok _ _ _ _ _ (T.keep hB) H.out).mono ?_
        rintro e w41 ⟨rfl, hb⟩
        replace RS := RS.keep hb
        replace hB := bt hB hb
        clear hb
        have hz41 := hB.size
        replace RS := RS.alloc (.cells #[.int .i64 (Wi.Hq (Lq.sx k M)), .int .u64 (Wi.Lr (Lq.sx k M)), .int .i64 (Wi.Hq (Lq.sy k M)), .int .u64 (Wi.Lr (Lq.sy k M)), .int .i64 (Lq.det k M), .int .i64 (Lq.nr (Lq.sx k M) (Lq.det k M)), .int .i64 (Lq.nr (Lq.sy k M) (Lq.det k M))] 38)
        replace hB := bal hB (.cells #[.int .i64 (Wi.Hq (Lq.sx k M)), .int .u64 (Wi.Lr (Lq.sx k M)), .int .i64 (Wi.Hq (Lq.sy k M)), .int .u64 (Wi.Lr (Lq.sy k M)), .int .i64 (Lq.det k M), .int .i64 (Lq.nr (Lq.sx k M) (Lq.det k M)), .int .i64 (Lq.nr (Lq.sy k M) (Lq.det k M))] 38)
        have S := Blk.new w41 38 #[.int .i64 (Wi.Hq (Lq.sx k M)), .int .u64 (Wi.Lr (Lq.sx k M)), .int .i64 (Wi.Hq (Lq.sy k M)), .int .u64 (Wi.Lr (Lq.sy k M)), .int .i64 (Lq.det k M), .int .i64 (Lq.nr (Lq.sx k M) (Lq.det k M)), .int .i64 (Lq.nr (Lq.sy k M) (Lq.det k M))]
        go_wp2_with fail
        refine (solve_ok _ _ _ _ _ RS (by rw [X1.out]; exact H.out)).mono ?_
        rw [X2.out, X3.out, X4.out]
        rintro e w42 ⟨rfl, hb⟩
        replace S := S.keep hb
        replace RS := RS.keep hb
        replace hB := bt hB hb
        clear hb
        have hz42 := hB.size
        have l42S := S.lt
        replace S := S.alloc (.cells #[.int .i64 (Wi.Hq (Lq.sx k M)), .int .u64 (Wi.Lr (Lq.sx k M)), .int .i64 (Wi.Hq (Lq.sy k M)), .int .u64 (Wi.Lr (Lq.sy k M)), .int .i64 (Lq.det k M), .int .i64 (Lq.nr (Lq.sx k M) (Lq.det k M)), .int .i64 (Lq.nr (Lq.sy k M) (Lq.det k M))] 38)
        replace RS := RS.alloc (.cells #[.int .i64 (Wi.Hq (Lq.sx k M)), .int .u64 (Wi.Lr (Lq.sx k M)), .int .i64 (Wi.Hq (Lq.sy k M)), .int .u64 (Wi.Lr (Lq.sy k M)), .int .i64 (Lq.det k M), .int .i64 (Lq.nr (Lq.sx k M) (Lq.det k M)), .int .i64 (Lq.nr (Lq.sy k M) (Lq.det k M))] 38)
        replace hB := bal hB (.cells #[.int .i64 (Wi.Hq (Lq.sx k M)), .int .u64 (Wi.Lr (Lq.sx k M)), .int .i64 (Wi.Hq (Lq.sy k M)), .int .u64 (Wi.Lr (Lq.sy k M)), .int .i64 (Lq.det k M), .int .i64 (Lq.nr (Lq.sx k M) (Lq.det k M)), .int .i64 (Lq.nr (Lq.sy k M) (Lq.det k M))] 38)
        have S2 := Blk.new w42 38 #[.int .i64 (Wi.Hq (Lq.sx k M)), .int .u64 (Wi.Lr (Lq.sx k M)), .int .i64 (Wi.Hq (Lq.sy k M)), .int .u64 (Wi.Lr (Lq.sy k M)), .int .i64 (Lq.det k M), .int .i64 (Lq.nr (Lq.sx k M) (Lq.det k M)), .int .i64 (Lq.nr (Lq.sy k M) (Lq.det k M))]
        obtain ⟨c00, c01, c02, c03, c04, c05, c06, c07, c08⟩ := S.open7
        obtain ⟨c10, c11, c12, c13, c14, c15, c16, c17, c18⟩ := S2.open7
        go_wp2_with fail
        go_returns
        exact ⟨rfl, hB⟩
      · have H := Lib.hid h
        clear h
        have e1 : (Lq.er k M == Lq.er k M) = true := by simp
        go_wp2_with fail
        refine (solve_no _ _ _ _ _ (T.keep hB) H.out).mono ?_
        rintro e w41 ⟨rfl, hb⟩
        replace RS := RS.keep hb
        replace hB := bt hB hb
        clear hb
        have hz41 := hB.size
        replace RS := RS.alloc (.cells #[.int .i64 (0), .int .u64 (0), .int .i64 (0), .int .u64 (0), .int .i64 (0), .int .i64 (0), .int .i64 (0)] 38)
        replace hB := bal hB (.cells #[.int .i64 (0), .int .u64 (0), .int .i64 (0), .int .u64 (0), .int .i64 (0), .int .i64 (0), .int .i64 (0)] 38)
        have S := Blk.new w41 38 #[.int .i64 (0), .int .u64 (0), .int .i64 (0), .int .u64 (0), .int .i64 (0), .int .i64 (0), .int .i64 (0)]
        go_wp2_with fail
        refine (solve_no _ _ _ _ _ RS (by rw [X1.out]; exact H.out)).mono ?_
        rw [X1.out]
        rintro e w42 ⟨rfl, hb⟩
        replace S := S.keep hb
        replace RS := RS.keep hb
        replace hB := bt hB hb
        clear hb
        have hz42 := hB.size
        have l42S := S.lt
        replace S := S.alloc (.cells #[.int .i64 (0), .int .u64 (0), .int .i64 (0), .int .u64 (0), .int .i64 (0), .int .i64 (0), .int .i64 (0)] 38)
        replace RS := RS.alloc (.cells #[.int .i64 (0), .int .u64 (0), .int .i64 (0), .int .u64 (0), .int .i64 (0), .int .i64 (0), .int .i64 (0)] 38)
        replace hB := bal hB (.cells #[.int .i64 (0), .int .u64 (0), .int .i64 (0), .int .u64 (0), .int .i64 (0), .int .i64 (0), .int .i64 (0)] 38)
        have S2 := Blk.new w42 38 #[.int .i64 (0), .int .u64 (0), .int .i64 (0), .int .u64 (0), .int .i64 (0), .int .i64 (0), .int .i64 (0)]
        obtain ⟨c00, c01, c02, c03, c04, c05, c06, c07, c08⟩ := S.open7
        obtain ⟨c10, c11, c12, c13, c14, c15, c16, c17, c18⟩ := S2.open7
        go_wp2_with fail
        go_returns
        exact ⟨rfl, hB⟩
end Go.Proofs.Ytcgcocingfhleaa
