/-
  Contracts: the reference's quotients.
-/
import Derived.Test.YtclohghongpfkaaI7
import Derived.Test.YtclohghongpfkaaW14
import Derived.Test.YtclohghongpfkaaRd
namespace Go.Proofs.Ytclohghongpfkaa
set_option linter.unusedVariables false
set_option linter.unusedSimpArgs false
open Go.RowKit

theorem rl {i j : Nat} {P : Prop} (q : i = j ∨ P) (h : Nat.beq i j = false := by rfl) : P := q.resolve_left fun e => by subst e; simp at h
theorem infoX : (Try.prog.info? 40).map (fun i => (i.zero, i.size, i.bytes)) = some (some (.agg #[.int .i64 0, .int .u64 0]), 2, 16) := by kernel_rfl
theorem info_px {P : Program} {e : TypeId} {z : Value} {s b : Nat} (h : (P.info? e).map (fun i => (i.zero, i.size, i.bytes)) = some (some z, s, b)) : ∃ i, P.info? e = some i ∧ i.zero = some z ∧ i.size = s ∧ i.bytes = b := by
  cases hi : P.info? e with
  | none => rw [hi] at h; cases h
  | some i =>
    rw [hi] at h
    simp only [Option.map_some, Option.some.injEq, Prod.mk.injEq] at h
    exact ⟨i, rfl, h.1, h.2.1, h.2.2⟩
def Apart (A B : Option Addr) : Prop := ob A = none ∨ ob A ≠ ob B
theorem own_old {w : World} {B0 : Nat} {e : TypeId} {q n c : Nat} {A : Option Addr} {V : Nat → Nat → Value} (h : Own w B0 e q A n c V) : ob A = none ∨ ∃ k, ob A = some k ∧ k < w.heap.size := by
  obtain ⟨_, _, ⟨rfl, _⟩ | ⟨g, rfl, _, hl⟩⟩ := h.form
  · exact .inl rfl
  · exact .inr ⟨g, rfl, hl⟩
theorem Own.base {w : World} {B0 : Nat} {e : TypeId} {q n c : Nat} {A : Option Addr} {V : Nat → Nat → Value} (h : Own w B0 e q A n c V) {g : Nat} (hg : ob A = some g) : B0 ≤ g := by
  obtain ⟨_, _, ⟨rfl, _⟩ | ⟨g', rfl, hb, _⟩⟩ := h.form
  · cases hg
  · have : g' = g := by simpa [ob] using hg
    omega
theorem Own.top {w : World} {B0 : Nat} {e : TypeId} {q n c : Nat} {A : Option Addr} {V : Nat → Nat → Value} (h : Own w B0 e q A n c V) {g : Nat} (hg : ob A = some g) : g < w.heap.size := by
  obtain ⟨_, _, ⟨rfl, _⟩ | ⟨g', rfl, _, hl⟩⟩ := h.form
  · cases hg
  · have : g' = g := by simpa [ob] using hg
    omega
theorem apart_grow {w : World} {B0 : Nat} {e : TypeId} {q n c : Nat} {A1 A' A2 : Option Addr} {V : Nat → Nat → Value} (o2 : Own w B0 e q A2 n c V) (h : Apart A1 A2) (h2 : Apart A2 A1) (hob : ob A' = ob A1 ∨ ob A' = some w.heap.size) : Apart A' A2 ∧ Apart A2 A' := by
  unfold Apart at *
  rcases hob with hob | hob
  · rw [hob]; exact ⟨h, h2⟩
  · rw [hob]
    rcases own_old o2 with h3 | ⟨k, h3, hk⟩
    · rw [h3]; exact ⟨.inr (by simp), .inl rfl⟩
    · rw [h3]
      have : k ≠ w.heap.size := by omega
      exact ⟨.inr (by simpa using this.symm), .inr (by simpa using this)⟩
theorem own_empty (w : World) (base : Nat) (e : TypeId) (q : Nat) (V : Nat → Nat → Value) {H : Nat} (hH : w.heap.size = H) (hb : base ≤ w.heap.size) : Own (w.alloc (.cells #[] e)) base e q (some ⟨H, 0, none⟩) 0 0 V := by
  subst hH
  exact ⟨_, World.ownsRow_lit (size := q) w #[] 0 hb (by rw [maxLen_eq]; omega) (by simp), fun i j hi => absurd hi (by omega)⟩
theorem Blk.grown {w w' : World} {g : Nat} {t : TypeId} {cs : Array Value} {row : Option Nat} (h : Blk w g t cs) (hg : w.grownBy w' row) (hne : row ≠ some g) : Blk w' g t cs := (hg.block g h.lt (fun e => hne e.symm)).trans h
theorem own_snW {w : World} {B0 : Nat} {e : TypeId} {A : Option Addr} {k c : Nat} {F : Nat → Int} {f : Int} (hf : F k = f) (h : Own w B0 e 2 A (k + 1) c (app k (wv F) (wv fun _ => f))) : Own w B0 e 2 A (k + 1) c (wv F) :=
  h.congr fun i j hi _ => by
    unfold app
    split
    · rfl
    · have : i = k := by omega
      subst this
      unfold wv
      rw [hf]
theorem rd1W {w : World} {g : Nat} {t : TypeId} {a : Int} (h : Blk w g t #[.int .i64 (Wi.Hq a), .int .u64 (Wi.Lr a)]) : Rd w 2 (some ⟨g, 0, none⟩) 1 1 (wv fun _ => a) :=
  Rd.of_blk h (by decide) (by decide) fun i j hi hj => by
    match i, j, hi, hj with
    | 0, 0, _, _ => rfl
    | 0, 1, _, _ => rfl

set_option maxRecDepth 100000 in
set_option maxHeartbeats 4000000 in
theorem rquot_c (A B : Option Addr) (n c d : Nat) (N D : Nat → Int) (w : World) (RA : Rd w 2 A n c (wv N)) (RB : Rd w 2 B n d (wv D)) (hn : 0 < n) (hn2 : n ≤ 1000) (hN : ∀ i, i < n → Wi.inW (N i)) (hD : ∀ i, i < n → Wi.inW (D i)) (hq : ∀ i, i < n → D i ≠ 0 ∧ Wi.inW (Wi.dv (N i) (D i) (-1)) ∧ Wi.inW (Wi.dv (N i) (D i) 1)) : Calls Try.prog 63 #[.slice A n c, .slice B n d] w fun e w' =>
    e = .returned (.tuple #[.agg #[.int .i64 (Iv.rs (Iv.mnU (fun i => Wi.dv (N i) (D i) (-1)) n) (Iv.mxU (fun i => Wi.dv (N i) (D i) 1) n)).lo, .int .i64 (Iv.rs (Iv.mnU (fun i => Wi.dv (N i) (D i) (-1)) n) (Iv.mxU (fun i => Wi.dv (N i) (D i) 1) n)).hi], .int .i64 (Iv.rs (Iv.mnU (fun i => Wi.dv (N i) (D i) (-1)) n) (Iv.mxU (fun i => Wi.dv (N i) (D i) 1) n)).er]) ∧ Below w.heap.size w w' := by
  obtain ⟨b, off, rfl, hbl, hcA⟩ := RA.at_ hn
  obtain ⟨b2, off2, rfl, hbl2, hcB⟩ := RB.at_ hn
  clear hcA hcB
  obtain ⟨i0, hi, hz0, hz1, hz2⟩ := info_px infoX
  have HI := Lib.hid hi
  have HZ0 := Lib.hid hz0
  have HZ1 := Lib.hid hz1
  have HZ2 := Lib.hid hz2
  clear hi hz0 hz1 hz2
  have la1 := RA.le
  have la2 := RA.mx
  have lb1 := RB.le
  have lb2 := RB.mx
  have HN := Lib.hid hN
  have HM := Lib.hid hD
  have HQ_ := Lib.hid hq
  have HD := Lib.hid hn
  clear hN hD hq
  go_enter Try.func63, Try.ntmps63
  have R := Blk.new w 23 #[.int .i64 (0), .int .i64 (0)]
  have hB := ba w (.cells #[.int .i64 (0), .int .i64 (0)] 23)
  go_wp2_with fail
  go_loopw [6, 7, 17] (fun s1 s2 i wr => ∃ (k : Nat) (A1 : Option Addr) (c1 : Nat) (A2 : Option Addr) (c2 : Nat), k ≤ n ∧ i = .int .i64 k ∧ s1 = .slice A1 k c1 ∧ s2 = .slice A2 k c2 ∧ Own wr (w.heap.size + 1) 40 2 A1 k c1 (wv (fun i => Wi.dv (N i) (D i) (-1))) ∧ Own wr (w.heap.size + 1) 40 2 A2 k c2 (wv (fun i => Wi.dv (N i) (D i) 1)) ∧ Apart A1 A2 ∧ Apart A2 A1 ∧ Blk wr w.heap.size 23 #[.int .i64 (0), .int .i64 (0)] ∧ Below w.heap.size w wr) (fun _ _ i _ => n - (intOf i).toNat)
  case atStart => exact ⟨0, some ⟨w.heap.size + 1, 0, none⟩, 0, some ⟨w.heap.size + 1 + 1, 0, none⟩, 0, Nat.zero_le _, rfl, rfl, rfl, (own_empty _ _ _ _ _ (by simp) (by simp)).alloc _, own_empty _ _ _ _ _ (by simp) (by simp), .inr (by simp [ob]), .inr (by simp [ob]), (R.alloc _).alloc _, bal (bal hB _) _⟩
  case round =>
    clear R hB
    obtain ⟨k, A1, c1, A2, c2, hk, rfl, rfl, rfl, o1, o2, s12, s21, R, hB⟩ := hrel
    by_cases hlt : k < n
    rotate_left
    · obtain rfl : k = n := by omega
      obtain ⟨c00, c01, c02, c03⟩ := R.open2
      go_wp2_with fail
      refine (made_c _ _ _ _ _ (fun i => Wi.dv (N i) (D i) (-1)) (fun i => Wi.dv (N i) (D i) 1) _ o1.rd o2.rd HD.out (fun i hi => (HQ_.out i hi).2.1) (fun i hi => (HQ_.out i hi).2.2)).mono ?_
      rintro e w1 ⟨rfl, hb⟩
      clear c00 c01 c02 c03
      replace R := R.keep hb
      replace hB := bt hB hb
      clear hb
      obtain ⟨r00, r01, r02, r03⟩ := R.open2
      go_wp2_with fail
      refine bodyPost_ret (by simp [results, Try.results63, go_sem, r00, r01, r02, r03]; try rfl) rfl ?_
      exact ⟨rfl, by repeat (first | exact Below.refl _ _ | (with_reducible assumption) | (with_reducible apply bal) | (with_reducible apply bdr) | (with_reducible apply bdnl) | (with_reducible refine bst ?_ (by first | (simp; done) | (simp; omega) | omega) _) | (with_reducible refine bt ?_ (by with_reducible assumption)))⟩
    have wn := Wi.wd_self (HN.out k hlt)
    have wd_ := Wi.wd_self (HM.out k hlt)
    have hqk := HQ_.out k hlt
    obtain ⟨f, hF⟩ : ∃ f, Hid (Wi.dv (N k) (D k) (-1) = f) := ⟨_, Lib.hid rfl⟩
    obtain ⟨cc, hC⟩ : ∃ f, Hid (Wi.dv (N k) (D k) 1 = f) := ⟨_, Lib.hid rfl⟩
    have ed := Lib.hid (((Wi.dV_n hqk.1 _ _).trans (Wi.rv_yes hqk.2.1)).trans hF.out)
    have eb := Lib.hid ((Wi.dB_n hqk.1 (N k) (-1)).trans (Wi.okb_yes hqk.2.1))
    have ed2 := Lib.hid (((Wi.dV_n hqk.1 _ _).trans (Wi.rv_yes hqk.2.2)).trans hC.out)
    have eb2 := Lib.hid ((Wi.dB_n hqk.1 (N k) 1).trans (Wi.okb_yes hqk.2.2))
    clear hqk
    have RAr := RA.keep hB
    have RBr := RB.keep hB
    have i2 : (0 : Int) ≤ (k : Int) := by omega
    have i3 : (k : Int) < (n : Int) := by omega
    have t1 : ∀ z, ob A1 = some z → z < wr.heap.size := fun z h => o1.top h
    have t2 : ∀ z, ob A2 = some z → z < wr.heap.size := fun z h => o2.top h
    go_wp2_with fail
    refine wp_region_inv (fun L x G wx => Below wr.heap.size wr wx
          ∧ (L 12 → wr.heap.size ≤ G 12 ∧ G 12 < wx.heap.size)
          ∧ (L 12 → ¬ L 13 → Blk wx (G 12) 40 #[.int .i64 (0), .int .u64 (0)])
          ∧ (L 13 → Blk wx (G 12) 40 #[.int .i64 (Wi.Hq (f)), .int .u64 (Wi.Lr (f))])
          ∧ (L 13 → L 12)
          ∧ (L 0 → x 21 = .slice (some ⟨b, off, none⟩) n c)
          ∧ (L 1 → x 22 = .int .i64 ((k : Int)))
          ∧ (L 2 → x 23 = .pointer (some ⟨b, off + k * 2, none⟩))
          ∧ (L 3 → x 24 = .agg #[.int .i64 (Wi.Hq (N k)), .int .u64 (Wi.Lr (N k))])
          ∧ (L 4 → x 25 = .slice (some ⟨b2, off2, none⟩) n d)
          ∧ (L 5 → x 26 = .int .i64 ((k : Int)))
          ∧ (L 6 → x 27 = .pointer (some ⟨b2, off2 + k * 2, none⟩))
          ∧ (L 7 → x 28 = .agg #[.int .i64 (Wi.Hq (D k)), .int .u64 (Wi.Lr (D k))])
          ∧ (L 8 → x 29 = .tuple #[.agg #[.int .i64 (Wi.Hq (f)), .int .u64 (Wi.Lr (f))], .bool (true)])
          ∧ (L 9 → x 20 = .tuple #[.agg #[.int .i64 (Wi.Hq (f)), .int .u64 (Wi.Lr (f))], .bool (true)])
          ∧ (L 10 → x 30 = .agg #[.int .i64 (Wi.Hq (f)), .int .u64 (Wi.Lr (f))])
          ∧ (L 11 → x 31 = .bool (true))
          ∧ (L 12 → x 9 = .pointer (some ⟨G 12, 0, none⟩))
          ∧ (L 14 → x 10 = .bool (true))) [21, 22, 23, 24, 25, 26, 27, 28, 29, 20, 30, 31, 9, 10] 15 (by kernel_rfl) (by kernel_rfl) (by kernel_rfl) ?h0 ?st ?fin
    case h0 =>
      exact ⟨bdr (Below.refl _ _), fun q => q.elim, fun q => q.elim, fun q => q.elim, fun q => q.elim, fun q => q.elim, fun q => q.elim, fun q => q.elim, fun q => q.elim, fun q => q.elim, fun q => q.elim, fun q => q.elim, fun q => q.elim, fun q => q.elim, fun q => q.elim, fun q => q.elim, fun q => q.elim, fun q => q.elim, fun q => q.elim⟩
    case st =>
      refine StepsOk.cons (i := 0) rfl (fun L x G w1 K Q hn hp hJ hK => ?_) ?_
      · skip
        simp only [putAll, Act.put, List.setIfInBounds_toArray, List.set_cons_zero, List.set_cons_succ]
        go_simp
        refine hK _ G _ (by kernel_rfl) ?_
        exact ⟨(hJ.1),
          fun q => (hJ.2.1) (q.resolve_left (by decide)),
          fun q n => (hJ.2.2.1) (q.resolve_left (by decide)) (fun m => n (.inr m)),
          fun q => (hJ.2.2.2.1) (q.resolve_left (by decide)),
          fun q => .inr ((hJ.2.2.2.2.1) (q.resolve_left (by decide))),
          fun _ => rfl,
          fun q => (hJ.2.2.2.2.2.2.1) (q.resolve_left (by decide)),
          fun q => (hJ.2.2.2.2.2.2.2.1) (q.resolve_left (by decide)),
          fun q => (hJ.2.2.2.2.2.2.2.2.1) (q.resolve_left (by decide)),
          fun q => (hJ.2.2.2.2.2.2.2.2.2.1) (q.resolve_left (by decide)),
          fun q => (hJ.2.2.2.2.2.2.2.2.2.2.1) (q.resolve_left (by decide)),
          fun q => (hJ.2.2.2.2.2.2.2.2.2.2.2.1) (q.resolve_left (by decide)),
          fun q => (hJ.2.2.2.2.2.2.2.2.2.2.2.2.1) (q.resolve_left (by decide)),
          fun q => (hJ.2.2.2.2.2.2.2.2.2.2.2.2.2.1) (q.resolve_left (by decide)),
          fun q => (hJ.2.2.2.2.2.2.2.2.2.2.2.2.2.2.1) (q.resolve_left (by decide)),
          fun q => (hJ.2.2.2.2.2.2.2.2.2.2.2.2.2.2.2.1) (q.resolve_left (by decide)),
          fun q => (hJ.2.2.2.2.2.2.2.2.2.2.2.2.2.2.2.2.1) (q.resolve_left (by decide)),
          fun q => (hJ.2.2.2.2.2.2.2.2.2.2.2.2.2.2.2.2.2.1) (q.resolve_left (by decide)),
          fun q => (hJ.2.2.2.2.2.2.2.2.2.2.2.2.2.2.2.2.2.2) (q.resolve_left (by decide))⟩
      refine StepsOk.cons (i := 1) rfl (fun L x G w1 K Q hn hp hJ hK => ?_) ?_
      · skip
        simp only [putAll, Act.put, List.setIfInBounds_toArray, List.set_cons_zero, List.set_cons_succ]
        go_simp
        refine hK _ G _ (by kernel_rfl) ?_
        exact ⟨(hJ.1),
          fun q => (hJ.2.1) (q.resolve_left (by decide)),
          fun q n => (hJ.2.2.1) (q.resolve_left (by decide)) (fun m => n (.inr m)),
          fun q => (hJ.2.2.2.1) (q.resolve_left (by decide)),
          fun q => .inr ((hJ.2.2.2.2.1) (q.resolve_left (by decide))),
          fun q => (hJ.2.2.2.2.2.1) (q.resolve_left (by decide)),
          fun _ => rfl,
          fun q => (hJ.2.2.2.2.2.2.2.1) (q.resolve_left (by decide)),
          fun q => (hJ.2.2.2.2.2.2.2.2.1) (q.resolve_left (by decide)),
          fun q => (hJ.2.2.2.2.2.2.2.2.2.1) (q.resolve_left (by decide)),
          fun q => (hJ.2.2.2.2.2.2.2.2.2.2.1) (q.resolve_left (by decide)),
          fun q => (hJ.2.2.2.2.2.2.2.2.2.2.2.1) (q.resolve_left (by decide)),
          fun q => (hJ.2.2.2.2.2.2.2.2.2.2.2.2.1) (q.resolve_left (by decide)),
          fun q => (hJ.2.2.2.2.2.2.2.2.2.2.2.2.2.1) (q.resolve_left (by decide)),
          fun q => (hJ.2.2.2.2.2.2.2.2.2.2.2.2.2.2.1) (q.resolve_left (by decide)),
          fun q => (hJ.2.2.2.2.2.2.2.2.2.2.2.2.2.2.2.1) (q.resolve_left (by decide)),
          fun q => (hJ.2.2.2.2.2.2.2.2.2.2.2.2.2.2.2.2.1) (q.resolve_left (by decide)),
          fun q => (hJ.2.2.2.2.2.2.2.2.2.2.2.2.2.2.2.2.2.1) (q.resolve_left (by decide)),
          fun q => (hJ.2.2.2.2.2.2.2.2.2.2.2.2.2.2.2.2.2.2) (q.resolve_left (by decide))⟩
      refine StepsOk.cons (i := 2) rfl (fun L x G w1 K Q hn hp hJ hK => ?_) ?_
      · skip
        have p0 : L 0 := hp ⟨0, .data⟩ (by simp) rfl
        have e0 := (hJ.2.2.2.2.2.1) p0
        have p1 : L 1 := hp ⟨1, .data⟩ (by simp) rfl
        have e1 := (hJ.2.2.2.2.2.2.1) p1
        simp only [putAll, Act.put, List.setIfInBounds_toArray, List.set_cons_zero, List.set_cons_succ]
        go_simp
        refine hK _ G _ (by kernel_rfl) ?_
        exact ⟨(hJ.1),
          fun q => (hJ.2.1) (q.resolve_left (by decide)),
          fun q n => (hJ.2.2.1) (q.resolve_left (by decide)) (fun m => n (.inr m)),
          fun q => (hJ.2.2.2.1) (q.resolve_left (by decide)),
          fun q => .inr ((hJ.2.2.2.2.1) (q.resolve_left (by decide))),
          fun _ => by first | exact rfl | exact e0,
          fun _ => by first | exact rfl | exact e1,
          fun _ => rfl,
          fun q => (hJ.2.2.2.2.2.2.2.2.1) (q.resolve_left (by decide)),
          fun q => (hJ.2.2.2.2.2.2.2.2.2.1) (q.resolve_left (by decide)),
          fun q => (hJ.2.2.2.2.2.2.2.2.2.2.1) (q.resolve_left (by decide)),
          fun q => (hJ.2.2.2.2.2.2.2.2.2.2.2.1) (q.resolve_left (by decide)),
          fun q => (hJ.2.2.2.2.2.2.2.2.2.2.2.2.1) (q.resolve_left (by decide)),
          fun q => (hJ.2.2.2.2.2.2.2.2.2.2.2.2.2.1) (q.resolve_left (by decide)),
          fun q => (hJ.2.2.2.2.2.2.2.2.2.2.2.2.2.2.1) (q.resolve_left (by decide)),
          fun q => (hJ.2.2.2.2.2.2.2.2.2.2.2.2.2.2.2.1) (q.resolve_left (by decide)),
          fun q => (hJ.2.2.2.2.2.2.2.2.2.2.2.2.2.2.2.2.1) (q.resolve_left (by decide)),
          fun q => (hJ.2.2.2.2.2.2.2.2.2.2.2.2.2.2.2.2.2.1) (q.resolve_left (by decide)),
          fun q => (hJ.2.2.2.2.2.2.2.2.2.2.2.2.2.2.2.2.2.2) (q.resolve_left (by decide))⟩
      refine StepsOk.cons (i := 3) rfl (fun L x G w1 K Q hn hp hJ hK => ?_) ?_
      · skip
        have p2 : L 2 := hp ⟨2, .data⟩ (by simp) rfl
        have e2 := (hJ.2.2.2.2.2.2.2.1) p2
        have hr := Rd.atW (RAr.keep (hJ.1)) hlt
        have c0 := hr.2.1
        have c1 := hr.2.2
        clear hr
        simp only [putAll, Act.put, List.setIfInBounds_toArray, List.set_cons_zero, List.set_cons_succ]
        go_simp
        refine hK _ G _ (by kernel_rfl) ?_
        exact ⟨(hJ.1),
          fun q => (hJ.2.1) (q.resolve_left (by decide)),
          fun q n => (hJ.2.2.1) (q.resolve_left (by decide)) (fun m => n (.inr m)),
          fun q => (hJ.2.2.2.1) (q.resolve_left (by decide)),
          fun q => .inr ((hJ.2.2.2.2.1) (q.resolve_left (by decide))),
          fun q => (hJ.2.2.2.2.2.1) (q.resolve_left (by decide)),
          fun q => (hJ.2.2.2.2.2.2.1) (q.resolve_left (by decide)),
          fun _ => by first | exact rfl | exact e2,
          fun _ => rfl,
          fun q => (hJ.2.2.2.2.2.2.2.2.2.1) (q.resolve_left (by decide)),
          fun q => (hJ.2.2.2.2.2.2.2.2.2.2.1) (q.resolve_left (by decide)),
          fun q => (hJ.2.2.2.2.2.2.2.2.2.2.2.1) (q.resolve_left (by decide)),
          fun q => (hJ.2.2.2.2.2.2.2.2.2.2.2.2.1) (q.resolve_left (by decide)),
          fun q => (hJ.2.2.2.2.2.2.2.2.2.2.2.2.2.1) (q.resolve_left (by decide)),
          fun q => (hJ.2.2.2.2.2.2.2.2.2.2.2.2.2.2.1) (q.resolve_left (by decide)),
          fun q => (hJ.2.2.2.2.2.2.2.2.2.2.2.2.2.2.2.1) (q.resolve_left (by decide)),
          fun q => (hJ.2.2.2.2.2.2.2.2.2.2.2.2.2.2.2.2.1) (q.resolve_left (by decide)),
          fun q => (hJ.2.2.2.2.2.2.2.2.2.2.2.2.2.2.2.2.2.1) (q.resolve_left (by decide)),
          fun q => (hJ.2.2.2.2.2.2.2.2.2.2.2.2.2.2.2.2.2.2) (q.resolve_left (by decide))⟩
      refine StepsOk.cons (i := 4) rfl (fun L x G w1 K Q hn hp hJ hK => ?_) ?_
      · skip
        simp only [putAll, Act.put, List.setIfInBounds_toArray, List.set_cons_zero, List.set_cons_succ]
        go_simp
        refine hK _ G _ (by kernel_rfl) ?_
        exact ⟨(hJ.1),
          fun q => (hJ.2.1) (q.resolve_left (by decide)),
          fun q n => (hJ.2.2.1) (q.resolve_left (by decide)) (fun m => n (.inr m)),
          fun q => (hJ.2.2.2.1) (q.resolve_left (by decide)),
          fun q => .inr ((hJ.2.2.2.2.1) (q.resolve_left (by decide))),
          fun q => (hJ.2.2.2.2.2.1) (q.resolve_left (by decide)),
          fun q => (hJ.2.2.2.2.2.2.1) (q.resolve_left (by decide)),
          fun q => (hJ.2.2.2.2.2.2.2.1) (q.resolve_left (by decide)),
          fun q => (hJ.2.2.2.2.2.2.2.2.1) (q.resolve_left (by decide)),
          fun _ => rfl,
          fun q => (hJ.2.2.2.2.2.2.2.2.2.2.1) (q.resolve_left (by decide)),
          fun q => (hJ.2.2.2.2.2.2.2.2.2.2.2.1) (q.resolve_left (by decide)),
          fun q => (hJ.2.2.2.2.2.2.2.2.2.2.2.2.1) (q.resolve_left (by decide)),
          fun q => (hJ.2.2.2.2.2.2.2.2.2.2.2.2.2.1) (q.resolve_left (by decide)),
          fun q => (hJ.2.2.2.2.2.2.2.2.2.2.2.2.2.2.1) (q.resolve_left (by decide)),
          fun q => (hJ.2.2.2.2.2.2.2.2.2.2.2.2.2.2.2.1) (q.resolve_left (by decide)),
          fun q => (hJ.2.2.2.2.2.2.2.2.2.2.2.2.2.2.2.2.1) (q.resolve_left (by decide)),
          fun q => (hJ.2.2.2.2.2.2.2.2.2.2.2.2.2.2.2.2.2.1) (q.resolve_left (by decide)),
          fun q => (hJ.2.2.2.2.2.2.2.2.2.2.2.2.2.2.2.2.2.2) (q.resolve_left (by decide))⟩
      refine StepsOk.cons (i := 5) rfl (fun L x G w1 K Q hn hp hJ hK => ?_) ?_
      · skip
        simp only [putAll, Act.put, List.setIfInBounds_toArray, List.set_cons_zero, List.set_cons_succ]
        go_simp
        refine hK _ G _ (by kernel_rfl) ?_
        exact ⟨(hJ.1),
          fun q => (hJ.2.1) (q.resolve_left (by decide)),
          fun q n => (hJ.2.2.1) (q.resolve_left (by decide)) (fun m => n (.inr m)),
          fun q => (hJ.2.2.2.1) (q.resolve_left (by decide)),
          fun q => .inr ((hJ.2.2.2.2.1) (q.resolve_left (by decide))),
          fun q => (hJ.2.2.2.2.2.1) (q.resolve_left (by decide)),
          fun q => (hJ.2.2.2.2.2.2.1) (q.resolve_left (by decide)),
          fun q => (hJ.2.2.2.2.2.2.2.1) (q.resolve_left (by decide)),
          fun q => (hJ.2.2.2.2.2.2.2.2.1) (q.resolve_left (by decide)),
          fun q => (hJ.2.2.2.2.2.2.2.2.2.1) (q.resolve_left (by decide)),
          fun _ => rfl,
          fun q => (hJ.2.2.2.2.2.2.2.2.2.2.2.1) (q.resolve_left (by decide)),
          fun q => (hJ.2.2.2.2.2.2.2.2.2.2.2.2.1) (q.resolve_left (by decide)),
          fun q => (hJ.2.2.2.2.2.2.2.2.2.2.2.2.2.1) (q.resolve_left (by decide)),
          fun q => (hJ.2.2.2.2.2.2.2.2.2.2.2.2.2.2.1) (q.resolve_left (by decide)),
          fun q => (hJ.2.2.2.2.2.2.2.2.2.2.2.2.2.2.2.1) (q.resolve_left (by decide)),
          fun q => (hJ.2.2.2.2.2.2.2.2.2.2.2.2.2.2.2.2.1) (q.resolve_left (by decide)),
          fun q => (hJ.2.2.2.2.2.2.2.2.2.2.2.2.2.2.2.2.2.1) (q.resolve_left (by decide)),
          fun q => (hJ.2.2.2.2.2.2.2.2.2.2.2.2.2.2.2.2.2.2) (q.resolve_left (by decide))⟩
      refine StepsOk.cons (i := 6) rfl (fun L x G w1 K Q hn hp hJ hK => ?_) ?_
      · skip
        have p4 : L 4 := hp ⟨4, .data⟩ (by simp) rfl
        have e4 := (hJ.2.2.2.2.2.2.2.2.2.1) p4
        have p5 : L 5 := hp ⟨5, .data⟩ (by simp) rfl
        have e5 := (hJ.2.2.2.2.2.2.2.2.2.2.1) p5
        simp only [putAll, Act.put, List.setIfInBounds_toArray, List.set_cons_zero, List.set_cons_succ]
        go_simp
        refine hK _ G _ (by kernel_rfl) ?_
        exact ⟨(hJ.1),
          fun q => (hJ.2.1) (q.resolve_left (by decide)),
          fun q n => (hJ.2.2.1) (q.resolve_left (by decide)) (fun m => n (.inr m)),
          fun q => (hJ.2.2.2.1) (q.resolve_left (by decide)),
          fun q => .inr ((hJ.2.2.2.2.1) (q.resolve_left (by decide))),
          fun q => (hJ.2.2.2.2.2.1) (q.resolve_left (by decide)),
          fun q => (hJ.2.2.2.2.2.2.1) (q.resolve_left (by decide)),
          fun q => (hJ.2.2.2.2.2.2.2.1) (q.resolve_left (by decide)),
          fun q => (hJ.2.2.2.2.2.2.2.2.1) (q.resolve_left (by decide)),
          fun _ => by first | exact rfl | exact e4,
          fun _ => by first | exact rfl | exact e5,
          fun _ => rfl,
          fun q => (hJ.2.2.2.2.2.2.2.2.2.2.2.2.1) (q.resolve_left (by decide)),
          fun q => (hJ.2.2.2.2.2.2.2.2.2.2.2.2.2.1) (q.resolve_left (by decide)),
          fun q => (hJ.2.2.2.2.2.2.2.2.2.2.2.2.2.2.1) (q.resolve_left (by decide)),
          fun q => (hJ.2.2.2.2.2.2.2.2.2.2.2.2.2.2.2.1) (q.resolve_left (by decide)),
          fun q => (hJ.2.2.2.2.2.2.2.2.2.2.2.2.2.2.2.2.1) (q.resolve_left (by decide)),
          fun q => (hJ.2.2.2.2.2.2.2.2.2.2.2.2.2.2.2.2.2.1) (q.resolve_left (by decide)),
          fun q => (hJ.2.2.2.2.2.2.2.2.2.2.2.2.2.2.2.2.2.2) (q.resolve_left (by decide))⟩
      refine StepsOk.cons (i := 7) rfl (fun L x G w1 K Q hn hp hJ hK => ?_) ?_
      · skip
        have p6 : L 6 := hp ⟨6, .data⟩ (by simp) rfl
        have e6 := (hJ.2.2.2.2.2.2.2.2.2.2.2.1) p6
        have hr := Rd.atW (RBr.keep (hJ.1)) hlt
        have c0 := hr.2.1
        have c1 := hr.2.2
        clear hr
        simp only [putAll, Act.put, List.setIfInBounds_toArray, List.set_cons_zero, List.set_cons_succ]
        go_simp
        refine hK _ G _ (by kernel_rfl) ?_
        exact ⟨(hJ.1),
          fun q => (hJ.2.1) (q.resolve_left (by decide)),
          fun q n => (hJ.2.2.1) (q.resolve_left (by decide)) (fun m => n (.inr m)),
          fun q => (hJ.2.2.2.1) (q.resolve_left (by decide)),
          fun q => .inr ((hJ.2.2.2.2.1) (q.resolve_left (by decide))),
          fun q => (hJ.2.2.2.2.2.1) (q.resolve_left (by decide)),
          fun q => (hJ.2.2.2.2.2.2.1) (q.resolve_left (by decide)),
          fun q => (hJ.2.2.2.2.2.2.2.1) (q.resolve_left (by decide)),
          fun q => (hJ.2.2.2.2.2.2.2.2.1) (q.resolve_left (by decide)),
          fun q => (hJ.2.2.2.2.2.2.2.2.2.1) (q.resolve_left (by decide)),
          fun q => (hJ.2.2.2.2.2.2.2.2.2.2.1) (q.resolve_left (by decide)),
          fun _ => by first | exact rfl | exact e6,
          fun _ => rfl,
          fun q => (hJ.2.2.2.2.2.2.2.2.2.2.2.2.2.1) (q.resolve_left (by decide)),
          fun q => (hJ.2.2.2.2.2.2.2.2.2.2.2.2.2.2.1) (q.resolve_left (by decide)),
          fun q => (hJ.2.2.2.2.2.2.2.2.2.2.2.2.2.2.2.1) (q.resolve_left (by decide)),
          fun q => (hJ.2.2.2.2.2.2.2.2.2.2.2.2.2.2.2.2.1) (q.resolve_left (by decide)),
          fun q => (hJ.2.2.2.2.2.2.2.2.2.2.2.2.2.2.2.2.2.1) (q.resolve_left (by decide)),
          fun q => (hJ.2.2.2.2.2.2.2.2.2.2.2.2.2.2.2.2.2.2) (q.resolve_left (by decide))⟩
      refine StepsOk.cons (i := 8) rfl (fun L x G w1 K Q hn hp hJ hK => ?_) ?_
      · skip
        have p3 : L 3 := hp ⟨3, .data⟩ (by simp) rfl
        have e3 := (hJ.2.2.2.2.2.2.2.2.1) p3
        have p7 : L 7 := hp ⟨7, .data⟩ (by simp) rfl
        have e7 := (hJ.2.2.2.2.2.2.2.2.2.2.2.2.1) p7
        simp only [putAll, Act.put, List.setIfInBounds_toArray, List.set_cons_zero, List.set_cons_succ]
        go_simp
        refine (rdiv_c _ _ _ _ _ _ _ wn wd_).mono ?_
        rw [ed.out, eb.out]
        rintro e w2 ⟨rfl, hb⟩
        have hz := hb.size
        try go_simp
        refine hK _ G _ (by kernel_rfl) ?_
        exact ⟨bt (hJ.1) hb,
          fun q => ⟨((hJ.2.1) (q.resolve_left (by decide))).1, by have := ((hJ.2.1) (q.resolve_left (by decide))).2; omega⟩,
          fun q n => Blk.keep ((hJ.2.2.1) (q.resolve_left (by decide)) (fun m => n (.inr m))) hb,
          fun q => Blk.keep ((hJ.2.2.2.1) (q.resolve_left (by decide))) hb,
          fun q => .inr ((hJ.2.2.2.2.1) (q.resolve_left (by decide))),
          fun q => (hJ.2.2.2.2.2.1) (q.resolve_left (by decide)),
          fun q => (hJ.2.2.2.2.2.2.1) (q.resolve_left (by decide)),
          fun q => (hJ.2.2.2.2.2.2.2.1) (q.resolve_left (by decide)),
          fun _ => by first | exact rfl | exact e3,
          fun q => (hJ.2.2.2.2.2.2.2.2.2.1) (q.resolve_left (by decide)),
          fun q => (hJ.2.2.2.2.2.2.2.2.2.2.1) (q.resolve_left (by decide)),
          fun q => (hJ.2.2.2.2.2.2.2.2.2.2.2.1) (q.resolve_left (by decide)),
          fun _ => by first | exact rfl | exact e7,
          fun _ => rfl,
          fun q => (hJ.2.2.2.2.2.2.2.2.2.2.2.2.2.2.1) (q.resolve_left (by decide)),
          fun q => (hJ.2.2.2.2.2.2.2.2.2.2.2.2.2.2.2.1) (q.resolve_left (by decide)),
          fun q => (hJ.2.2.2.2.2.2.2.2.2.2.2.2.2.2.2.2.1) (q.resolve_left (by decide)),
          fun q => (hJ.2.2.2.2.2.2.2.2.2.2.2.2.2.2.2.2.2.1) (q.resolve_left (by decide)),
          fun q => (hJ.2.2.2.2.2.2.2.2.2.2.2.2.2.2.2.2.2.2) (q.resolve_left (by decide))⟩
      refine StepsOk.cons (i := 9) rfl (fun L x G w1 K Q hn hp hJ hK => ?_) ?_
      · skip
        have p8 : L 8 := hp ⟨8, .data⟩ (by simp) rfl
        have e8 := (hJ.2.2.2.2.2.2.2.2.2.2.2.2.2.1) p8
        simp only [putAll, Act.put, List.setIfInBounds_toArray, List.set_cons_zero, List.set_cons_succ]
        go_simp
        refine hK _ G _ (by kernel_rfl) ?_
        exact ⟨(hJ.1),
          fun q => (hJ.2.1) (q.resolve_left (by decide)),
          fun q n => (hJ.2.2.1) (q.resolve_left (by decide)) (fun m => n (.inr m)),
          fun q => (hJ.2.2.2.1) (q.resolve_left (by decide)),
          fun q => .inr ((hJ.2.2.2.2.1) (q.resolve_left (by decide))),
          fun q => (hJ.2.2.2.2.2.1) (q.resolve_left (by decide)),
          fun q => (hJ.2.2.2.2.2.2.1) (q.resolve_left (by decide)),
          fun q => (hJ.2.2.2.2.2.2.2.1) (q.resolve_left (by decide)),
          fun q => (hJ.2.2.2.2.2.2.2.2.1) (q.resolve_left (by decide)),
          fun q => (hJ.2.2.2.2.2.2.2.2.2.1) (q.resolve_left (by decide)),
          fun q => (hJ.2.2.2.2.2.2.2.2.2.2.1) (q.resolve_left (by decide)),
          fun q => (hJ.2.2.2.2.2.2.2.2.2.2.2.1) (q.resolve_left (by decide)),
          fun q => (hJ.2.2.2.2.2.2.2.2.2.2.2.2.1) (q.resolve_left (by decide)),
          fun _ => by first | exact rfl | exact e8,
          fun _ => rfl,
          fun q => (hJ.2.2.2.2.2.2.2.2.2.2.2.2.2.2.2.1) (q.resolve_left (by decide)),
          fun q => (hJ.2.2.2.2.2.2.2.2.2.2.2.2.2.2.2.2.1) (q.resolve_left (by decide)),
          fun q => (hJ.2.2.2.2.2.2.2.2.2.2.2.2.2.2.2.2.2.1) (q.resolve_left (by decide)),
          fun q => (hJ.2.2.2.2.2.2.2.2.2.2.2.2.2.2.2.2.2.2) (q.resolve_left (by decide))⟩
      refine StepsOk.cons (i := 10) rfl (fun L x G w1 K Q hn hp hJ hK => ?_) ?_
      · skip
        have p9 : L 9 := hp ⟨9, .data⟩ (by simp) rfl
        have e9 := (hJ.2.2.2.2.2.2.2.2.2.2.2.2.2.2.1) p9
        simp only [putAll, Act.put, List.setIfInBounds_toArray, List.set_cons_zero, List.set_cons_succ]
        go_simp
        refine hK _ G _ (by kernel_rfl) ?_
        exact ⟨(hJ.1),
          fun q => (hJ.2.1) (q.resolve_left (by decide)),
          fun q n => (hJ.2.2.1) (q.resolve_left (by decide)) (fun m => n (.inr m)),
          fun q => (hJ.2.2.2.1) (q.resolve_left (by decide)),
          fun q => .inr ((hJ.2.2.2.2.1) (q.resolve_left (by decide))),
          fun q => (hJ.2.2.2.2.2.1) (q.resolve_left (by decide)),
          fun q => (hJ.2.2.2.2.2.2.1) (q.resolve_left (by decide)),
          fun q => (hJ.2.2.2.2.2.2.2.1) (q.resolve_left (by decide)),
          fun q => (hJ.2.2.2.2.2.2.2.2.1) (q.resolve_left (by decide)),
          fun q => (hJ.2.2.2.2.2.2.2.2.2.1) (q.resolve_left (by decide)),
          fun q => (hJ.2.2.2.2.2.2.2.2.2.2.1) (q.resolve_left (by decide)),
          fun q => (hJ.2.2.2.2.2.2.2.2.2.2.2.1) (q.resolve_left (by decide)),
          fun q => (hJ.2.2.2.2.2.2.2.2.2.2.2.2.1) (q.resolve_left (by decide)),
          fun q => (hJ.2.2.2.2.2.2.2.2.2.2.2.2.2.1) (q.resolve_left (by decide)),
          fun _ => by first | exact rfl | exact e9,
          fun _ => rfl,
          fun q => (hJ.2.2.2.2.2.2.2.2.2.2.2.2.2.2.2.2.1) (q.resolve_left (by decide)),
          fun q => (hJ.2.2.2.2.2.2.2.2.2.2.2.2.2.2.2.2.2.1) (q.resolve_left (by decide)),
          fun q => (hJ.2.2.2.2.2.2.2.2.2.2.2.2.2.2.2.2.2.2) (q.resolve_left (by decide))⟩
      refine StepsOk.cons (i := 11) rfl (fun L x G w1 K Q hn hp hJ hK => ?_) ?_
      · skip
        have p9 : L 9 := hp ⟨9, .data⟩ (by simp) rfl
        have e9 := (hJ.2.2.2.2.2.2.2.2.2.2.2.2.2.2.1) p9
        simp only [putAll, Act.put, List.setIfInBounds_toArray, List.set_cons_zero, List.set_cons_succ]
        go_simp
        refine hK _ G _ (by kernel_rfl) ?_
        exact ⟨(hJ.1),
          fun q => (hJ.2.1) (q.resolve_left (by decide)),
          fun q n => (hJ.2.2.1) (q.resolve_left (by decide)) (fun m => n (.inr m)),
          fun q => (hJ.2.2.2.1) (q.resolve_left (by decide)),
          fun q => .inr ((hJ.2.2.2.2.1) (q.resolve_left (by decide))),
          fun q => (hJ.2.2.2.2.2.1) (q.resolve_left (by decide)),
          fun q => (hJ.2.2.2.2.2.2.1) (q.resolve_left (by decide)),
          fun q => (hJ.2.2.2.2.2.2.2.1) (q.resolve_left (by decide)),
          fun q => (hJ.2.2.2.2.2.2.2.2.1) (q.resolve_left (by decide)),
          fun q => (hJ.2.2.2.2.2.2.2.2.2.1) (q.resolve_left (by decide)),
          fun q => (hJ.2.2.2.2.2.2.2.2.2.2.1) (q.resolve_left (by decide)),
          fun q => (hJ.2.2.2.2.2.2.2.2.2.2.2.1) (q.resolve_left (by decide)),
          fun q => (hJ.2.2.2.2.2.2.2.2.2.2.2.2.1) (q.resolve_left (by decide)),
          fun q => (hJ.2.2.2.2.2.2.2.2.2.2.2.2.2.1) (q.resolve_left (by decide)),
          fun _ => by first | exact rfl | exact e9,
          fun q => (hJ.2.2.2.2.2.2.2.2.2.2.2.2.2.2.2.1) (q.resolve_left (by decide)),
          fun _ => rfl,
          fun q => (hJ.2.2.2.2.2.2.2.2.2.2.2.2.2.2.2.2.2.1) (q.resolve_left (by decide)),
          fun q => (hJ.2.2.2.2.2.2.2.2.2.2.2.2.2.2.2.2.2.2) (q.resolve_left (by decide))⟩
      refine StepsOk.cons (i := 12) rfl (fun L x G w1 K Q hn hp hJ hK => ?_) ?_
      · skip
        simp only [putAll, Act.put, List.setIfInBounds_toArray, List.set_cons_zero, List.set_cons_succ]
        go_simp
        refine hK _ (fun t => if t = 12 then w1.heap.size else G t) _ (by kernel_rfl) ?_
        exact ⟨bal (hJ.1) _,
          fun _ => ⟨(hJ.1).size, by simp⟩,
          fun _ _ => Blk.new w1 _ _,
          fun q => absurd ((hJ.2.2.2.2.1) (q.resolve_left (by decide))) hn,
          fun q => .inr ((hJ.2.2.2.2.1) (q.resolve_left (by decide))),
          fun q => (hJ.2.2.2.2.2.1) (q.resolve_left (by decide)),
          fun q => (hJ.2.2.2.2.2.2.1) (q.resolve_left (by decide)),
          fun q => (hJ.2.2.2.2.2.2.2.1) (q.resolve_left (by decide)),
          fun q => (hJ.2.2.2.2.2.2.2.2.1) (q.resolve_left (by decide)),
          fun q => (hJ.2.2.2.2.2.2.2.2.2.1) (q.resolve_left (by decide)),
          fun q => (hJ.2.2.2.2.2.2.2.2.2.2.1) (q.resolve_left (by decide)),
          fun q => (hJ.2.2.2.2.2.2.2.2.2.2.2.1) (q.resolve_left (by decide)),
          fun q => (hJ.2.2.2.2.2.2.2.2.2.2.2.2.1) (q.resolve_left (by decide)),
          fun q => (hJ.2.2.2.2.2.2.2.2.2.2.2.2.2.1) (q.resolve_left (by decide)),
          fun q => (hJ.2.2.2.2.2.2.2.2.2.2.2.2.2.2.1) (q.resolve_left (by decide)),
          fun q => (hJ.2.2.2.2.2.2.2.2.2.2.2.2.2.2.2.1) (q.resolve_left (by decide)),
          fun q => (hJ.2.2.2.2.2.2.2.2.2.2.2.2.2.2.2.2.1) (q.resolve_left (by decide)),
          fun _ => rfl,
          fun q => (hJ.2.2.2.2.2.2.2.2.2.2.2.2.2.2.2.2.2.2) (q.resolve_left (by decide))⟩
      refine StepsOk.cons (i := 13) rfl (fun L x G w1 K Q hn hp hJ hK => ?_) ?_
      · skip
        have p10 : L 10 := hp ⟨10, .data⟩ (by simp) rfl
        have e10 := (hJ.2.2.2.2.2.2.2.2.2.2.2.2.2.2.2.1) p10
        have p12 : L 12 := hp ⟨12, .data⟩ (by simp) rfl
        have e12 := (hJ.2.2.2.2.2.2.2.2.2.2.2.2.2.2.2.2.2.1) p12
        have hc := Blk.open2 (((hJ.2.2.1) p12 hn))
        have c0 := hc.1
        have c1 := hc.2.1
        have c2 := hc.2.2.1
        have c3 := hc.2.2.2
        clear hc
        simp only [putAll, Act.put, List.setIfInBounds_toArray, List.set_cons_zero, List.set_cons_succ]
        go_simp
        refine hK _ G _ (by kernel_rfl) ?_
        exact ⟨bst (bst ((hJ.1)) (p := ⟨G 12, 0, none⟩) ((hJ.2.1) p12).1 (.int .i64 (Wi.Hq (f)))) (p := ⟨G 12, 1, none⟩) ((hJ.2.1) p12).1 (.int .u64 (Wi.Lr (f))),
          fun q => ⟨((hJ.2.1) (q.resolve_left (by decide))).1, by have := ((hJ.2.1) (q.resolve_left (by decide))).2; simpa using this⟩,
          fun _ n => absurd (.inl rfl) n,
          fun _ => by simpa using Blk.set_ (Blk.set_ (((hJ.2.2.1) p12 hn)) 0 (.int .i64 (Wi.Hq (f)))) 1 (.int .u64 (Wi.Lr (f))),
          fun _ => .inr p12,
          fun q => (hJ.2.2.2.2.2.1) (q.resolve_left (by decide)),
          fun q => (hJ.2.2.2.2.2.2.1) (q.resolve_left (by decide)),
          fun q => (hJ.2.2.2.2.2.2.2.1) (q.resolve_left (by decide)),
          fun q => (hJ.2.2.2.2.2.2.2.2.1) (q.resolve_left (by decide)),
          fun q => (hJ.2.2.2.2.2.2.2.2.2.1) (q.resolve_left (by decide)),
          fun q => (hJ.2.2.2.2.2.2.2.2.2.2.1) (q.resolve_left (by decide)),
          fun q => (hJ.2.2.2.2.2.2.2.2.2.2.2.1) (q.resolve_left (by decide)),
          fun q => (hJ.2.2.2.2.2.2.2.2.2.2.2.2.1) (q.resolve_left (by decide)),
          fun q => (hJ.2.2.2.2.2.2.2.2.2.2.2.2.2.1) (q.resolve_left (by decide)),
          fun q => (hJ.2.2.2.2.2.2.2.2.2.2.2.2.2.2.1) (q.resolve_left (by decide)),
          fun _ => by first | exact rfl | exact e10,
          fun q => (hJ.2.2.2.2.2.2.2.2.2.2.2.2.2.2.2.2.1) (q.resolve_left (by decide)),
          fun _ => by first | exact rfl | exact e12,
          fun q => (hJ.2.2.2.2.2.2.2.2.2.2.2.2.2.2.2.2.2.2) (q.resolve_left (by decide))⟩
      refine StepsOk.cons (i := 14) rfl (fun L x G w1 K Q hn hp hJ hK => ?_) ?_
      · skip
        have p11 : L 11 := hp ⟨11, .data⟩ (by simp) rfl
        have e11 := (hJ.2.2.2.2.2.2.2.2.2.2.2.2.2.2.2.2.1) p11
        simp only [putAll, Act.put, List.setIfInBounds_toArray, List.set_cons_zero, List.set_cons_succ]
        go_simp
        refine hK _ G _ (by kernel_rfl) ?_
        exact ⟨(hJ.1),
          fun q => (hJ.2.1) (q.resolve_left (by decide)),
          fun q n => (hJ.2.2.1) (q.resolve_left (by decide)) (fun m => n (.inr m)),
          fun q => (hJ.2.2.2.1) (q.resolve_left (by decide)),
          fun q => .inr ((hJ.2.2.2.2.1) (q.resolve_left (by decide))),
          fun q => (hJ.2.2.2.2.2.1) (q.resolve_left (by decide)),
          fun q => (hJ.2.2.2.2.2.2.1) (q.resolve_left (by decide)),
          fun q => (hJ.2.2.2.2.2.2.2.1) (q.resolve_left (by decide)),
          fun q => (hJ.2.2.2.2.2.2.2.2.1) (q.resolve_left (by decide)),
          fun q => (hJ.2.2.2.2.2.2.2.2.2.1) (q.resolve_left (by decide)),
          fun q => (hJ.2.2.2.2.2.2.2.2.2.2.1) (q.resolve_left (by decide)),
          fun q => (hJ.2.2.2.2.2.2.2.2.2.2.2.1) (q.resolve_left (by decide)),
          fun q => (hJ.2.2.2.2.2.2.2.2.2.2.2.2.1) (q.resolve_left (by decide)),
          fun q => (hJ.2.2.2.2.2.2.2.2.2.2.2.2.2.1) (q.resolve_left (by decide)),
          fun q => (hJ.2.2.2.2.2.2.2.2.2.2.2.2.2.2.1) (q.resolve_left (by decide)),
          fun q => (hJ.2.2.2.2.2.2.2.2.2.2.2.2.2.2.2.1) (q.resolve_left (by decide)),
          fun _ => by first | exact rfl | exact e11,
          fun q => (hJ.2.2.2.2.2.2.2.2.2.2.2.2.2.2.2.2.2.1) (q.resolve_left (by decide)),
          fun _ => rfl⟩
      exact StepsOk.nil
    case fin =>
      intro L x G w1 hall hJ
      obtain ⟨haPA, hlPA⟩ := (hJ.2.1) (hall 12 (by decide))
      have PA := (hJ.2.2.2.1) (hall 13 (by decide))
      have u0 := hJ.2.2.2.2.2.1 (hall 0 (by decide))
      have u1 := hJ.2.2.2.2.2.2.1 (hall 1 (by decide))
      have u2 := hJ.2.2.2.2.2.2.2.1 (hall 2 (by decide))
      have u3 := hJ.2.2.2.2.2.2.2.2.1 (hall 3 (by decide))
      have u4 := hJ.2.2.2.2.2.2.2.2.2.1 (hall 4 (by decide))
      have u5 := hJ.2.2.2.2.2.2.2.2.2.2.1 (hall 5 (by decide))
      have u6 := hJ.2.2.2.2.2.2.2.2.2.2.2.1 (hall 6 (by decide))
      have u7 := hJ.2.2.2.2.2.2.2.2.2.2.2.2.1 (hall 7 (by decide))
      have u8 := hJ.2.2.2.2.2.2.2.2.2.2.2.2.2.1 (hall 8 (by decide))
      have u9 := hJ.2.2.2.2.2.2.2.2.2.2.2.2.2.2.1 (hall 9 (by decide))
      have u10 := hJ.2.2.2.2.2.2.2.2.2.2.2.2.2.2.2.1 (hall 10 (by decide))
      have u11 := hJ.2.2.2.2.2.2.2.2.2.2.2.2.2.2.2.2.1 (hall 11 (by decide))
      have u12 := hJ.2.2.2.2.2.2.2.2.2.2.2.2.2.2.2.2.2.1 (hall 12 (by decide))
      have u14 := hJ.2.2.2.2.2.2.2.2.2.2.2.2.2.2.2.2.2.2 (hall 14 (by decide))
      have hr_ := hJ.1
      replace R := R.keep hr_
      replace o1 := o1.keep hr_
      replace o2 := o2.keep hr_
      replace RAr := RAr.keep hr_
      replace RBr := RBr.keep hr_
      replace hB := bt hB hr_
      have sz1 := hr_.size
      clear hr_
      simp only [putAll, Act.put, List.setIfInBounds_toArray, List.set_cons_zero, List.set_cons_succ]
      simp only [u0, u1, u2, u3, u4, u5, u6, u7, u8, u9, u10, u11, u12, u14]
      clear hall hJ u0 u1 u2 u3 u4 u5 u6 u7 u8 u9 u10 u11 u12 u14
      generalize G 12 = gPA at *
      go_wp2_with fail
      refine wp_region_inv (fun L x G wx => Below w1.heap.size w1 wx
            ∧ (L 12 → w1.heap.size ≤ G 12 ∧ G 12 < wx.heap.size)
            ∧ (L 12 → ¬ L 13 → Blk wx (G 12) 40 #[.int .i64 (0), .int .u64 (0)])
            ∧ (L 13 → Blk wx (G 12) 40 #[.int .i64 (Wi.Hq (cc)), .int .u64 (Wi.Lr (cc))])
            ∧ (L 13 → L 12)
            ∧ (L 0 → x 33 = .slice (some ⟨b, off, none⟩) n c)
            ∧ (L 1 → x 34 = .int .i64 ((k : Int)))
            ∧ (L 2 → x 35 = .pointer (some ⟨b, off + k * 2, none⟩))
            ∧ (L 3 → x 36 = .agg #[.int .i64 (Wi.Hq (N k)), .int .u64 (Wi.Lr (N k))])
            ∧ (L 4 → x 37 = .slice (some ⟨b2, off2, none⟩) n d)
            ∧ (L 5 → x 38 = .int .i64 ((k : Int)))
            ∧ (L 6 → x 39 = .pointer (some ⟨b2, off2 + k * 2, none⟩))
            ∧ (L 7 → x 40 = .agg #[.int .i64 (Wi.Hq (D k)), .int .u64 (Wi.Lr (D k))])
            ∧ (L 8 → x 41 = .tuple #[.agg #[.int .i64 (Wi.Hq (cc)), .int .u64 (Wi.Lr (cc))], .bool (true)])
            ∧ (L 9 → x 32 = .tuple #[.agg #[.int .i64 (Wi.Hq (cc)), .int .u64 (Wi.Lr (cc))], .bool (true)])
            ∧ (L 10 → x 42 = .agg #[.int .i64 (Wi.Hq (cc)), .int .u64 (Wi.Lr (cc))])
            ∧ (L 11 → x 43 = .bool (true))
            ∧ (L 12 → x 11 = .pointer (some ⟨G 12, 0, none⟩))
            ∧ (L 14 → x 12 = .bool (true))) [33, 34, 35, 36, 37, 38, 39, 40, 41, 32, 42, 43, 11, 12] 15 (by kernel_rfl) (by kernel_rfl) (by kernel_rfl) ?h0 ?st ?fin
      case h0 =>
        exact ⟨bdr (Below.refl _ _), fun q => q.elim, fun q => q.elim, fun q => q.elim, fun q => q.elim, fun q => q.elim, fun q => q.elim, fun q => q.elim, fun q => q.elim, fun q => q.elim, fun q => q.elim, fun q => q.elim, fun q => q.elim, fun q => q.elim, fun q => q.elim, fun q => q.elim, fun q => q.elim, fun q => q.elim, fun q => q.elim⟩
      case st =>
        refine StepsOk.cons (i := 0) rfl (fun L x G w1 K Q hn hp hJ hK => ?_) ?_
        · skip
          simp only [putAll, Act.put, List.setIfInBounds_toArray, List.set_cons_zero, List.set_cons_succ]
          go_simp
          refine hK _ G _ (by kernel_rfl) ?_
          exact ⟨(hJ.1),
            fun q => (hJ.2.1) (q.resolve_left (by decide)),
            fun q n => (hJ.2.2.1) (q.resolve_left (by decide)) (fun m => n (.inr m)),
            fun q => (hJ.2.2.2.1) (q.resolve_left (by decide)),
            fun q => .inr ((hJ.2.2.2.2.1) (q.resolve_left (by decide))),
            fun _ => rfl,
            fun q => (hJ.2.2.2.2.2.2.1) (q.resolve_left (by decide)),
            fun q => (hJ.2.2.2.2.2.2.2.1) (q.resolve_left (by decide)),
            fun q => (hJ.2.2.2.2.2.2.2.2.1) (q.resolve_left (by decide)),
            fun q => (hJ.2.2.2.2.2.2.2.2.2.1) (q.resolve_left (by decide)),
            fun q => (hJ.2.2.2.2.2.2.2.2.2.2.1) (q.resolve_left (by decide)),
            fun q => (hJ.2.2.2.2.2.2.2.2.2.2.2.1) (q.resolve_left (by decide)),
            fun q => (hJ.2.2.2.2.2.2.2.2.2.2.2.2.1) (q.resolve_left (by decide)),
            fun q => (hJ.2.2.2.2.2.2.2.2.2.2.2.2.2.1) (q.resolve_left (by decide)),
            fun q => (hJ.2.2.2.2.2.2.2.2.2.2.2.2.2.2.1) (q.resolve_left (by decide)),
            fun q => (hJ.2.2.2.2.2.2.2.2.2.2.2.2.2.2.2.1) (q.resolve_left (by decide)),
            fun q => (hJ.2.2.2.2.2.2.2.2.2.2.2.2.2.2.2.2.1) (q.resolve_left (by decide)),
            fun q => (hJ.2.2.2.2.2.2.2.2.2.2.2.2.2.2.2.2.2.1) (q.resolve_left (by decide)),
            fun q => (hJ.2.2.2.2.2.2.2.2.2.2.2.2.2.2.2.2.2.2) (q.resolve_left (by decide))⟩
        refine StepsOk.cons (i := 1) rfl (fun L x G w1 K Q hn hp hJ hK => ?_) ?_
        · skip
          simp only [putAll, Act.put, List.setIfInBounds_toArray, List.set_cons_zero, List.set_cons_succ]
          go_simp
          refine hK _ G _ (by kernel_rfl) ?_
          exact ⟨(hJ.1),
            fun q => (hJ.2.1) (q.resolve_left (by decide)),
            fun q n => (hJ.2.2.1) (q.resolve_left (by decide)) (fun m => n (.inr m)),
            fun q => (hJ.2.2.2.1) (q.resolve_left (by decide)),
            fun q => .inr ((hJ.2.2.2.2.1) (q.resolve_left (by decide))),
            fun q => (hJ.2.2.2.2.2.1) (q.resolve_left (by decide)),
            fun _ => rfl,
            fun q => (hJ.2.2.2.2.2.2.2.1) (q.resolve_left (by decide)),
            fun q => (hJ.2.2.2.2.2.2.2.2.1) (q.resolve_left (by decide)),
            fun q => (hJ.2.2.2.2.2.2.2.2.2.1) (q.resolve_left (by decide)),
            fun q => (hJ.2.2.2.2.2.2.2.2.2.2.1) (q.resolve_left (by decide)),
            fun q => (hJ.2.2.2.2.2.2.2.2.2.2.2.1) (q.resolve_left (by decide)),
            fun q => (hJ.2.2.2.2.2.2.2.2.2.2.2.2.1) (q.resolve_left (by decide)),
            fun q => (hJ.2.2.2.2.2.2.2.2.2.2.2.2.2.1) (q.resolve_left (by decide)),
            fun q => (hJ.2.2.2.2.2.2.2.2.2.2.2.2.2.2.1) (q.resolve_left (by decide)),
            fun q => (hJ.2.2.2.2.2.2.2.2.2.2.2.2.2.2.2.1) (q.resolve_left (by decide)),
            fun q => (hJ.2.2.2.2.2.2.2.2.2.2.2.2.2.2.2.2.1) (q.resolve_left (by decide)),
            fun q => (hJ.2.2.2.2.2.2.2.2.2.2.2.2.2.2.2.2.2.1) (q.resolve_left (by decide)),
            fun q => (hJ.2.2.2.2.2.2.2.2.2.2.2.2.2.2.2.2.2.2) (q.resolve_left (by decide))⟩
        refine StepsOk.cons (i := 2) rfl (fun L x G w1 K Q hn hp hJ hK => ?_) ?_
        · skip
          have p0 : L 0 := hp ⟨0, .data⟩ (by simp) rfl
          have e0 := (hJ.2.2.2.2.2.1) p0
          have p1 : L 1 := hp ⟨1, .data⟩ (by simp) rfl
          have e1 := (hJ.2.2.2.2.2.2.1) p1
          simp only [putAll, Act.put, List.setIfInBounds_toArray, List.set_cons_zero, List.set_cons_succ]
          go_simp
          refine hK _ G _ (by kernel_rfl) ?_
          exact ⟨(hJ.1),
            fun q => (hJ.2.1) (q.resolve_left (by decide)),
            fun q n => (hJ.2.2.1) (q.resolve_left (by decide)) (fun m => n (.inr m)),
            fun q => (hJ.2.2.2.1) (q.resolve_left (by decide)),
            fun q => .inr ((hJ.2.2.2.2.1) (q.resolve_left (by decide))),
            fun _ => by first | exact rfl | exact e0,
            fun _ => by first | exact rfl | exact e1,
            fun _ => rfl,
            fun q => (hJ.2.2.2.2.2.2.2.2.1) (q.resolve_left (by decide)),
            fun q => (hJ.2.2.2.2.2.2.2.2.2.1) (q.resolve_left (by decide)),
            fun q => (hJ.2.2.2.2.2.2.2.2.2.2.1) (q.resolve_left (by decide)),
            fun q => (hJ.2.2.2.2.2.2.2.2.2.2.2.1) (q.resolve_left (by decide)),
            fun q => (hJ.2.2.2.2.2.2.2.2.2.2.2.2.1) (q.resolve_left (by decide)),
            fun q => (hJ.2.2.2.2.2.2.2.2.2.2.2.2.2.1) (q.resolve_left (by decide)),
            fun q => (hJ.2.2.2.2.2.2.2.2.2.2.2.2.2.2.1) (q.resolve_left (by decide)),
            fun q => (hJ.2.2.2.2.2.2.2.2.2.2.2.2.2.2.2.1) (q.resolve_left (by decide)),
            fun q => (hJ.2.2.2.2.2.2.2.2.2.2.2.2.2.2.2.2.1) (q.resolve_left (by decide)),
            fun q => (hJ.2.2.2.2.2.2.2.2.2.2.2.2.2.2.2.2.2.1) (q.resolve_left (by decide)),
            fun q => (hJ.2.2.2.2.2.2.2.2.2.2.2.2.2.2.2.2.2.2) (q.resolve_left (by decide))⟩
        refine StepsOk.cons (i := 3) rfl (fun L x G w1 K Q hn hp hJ hK => ?_) ?_
        · skip
          have p2 : L 2 := hp ⟨2, .data⟩ (by simp) rfl
          have e2 := (hJ.2.2.2.2.2.2.2.1) p2
          have hr := Rd.atW (RAr.keep (hJ.1)) hlt
          have c0 := hr.2.1
          have c1 := hr.2.2
          clear hr
          simp only [putAll, Act.put, List.setIfInBounds_toArray, List.set_cons_zero, List.set_cons_succ]
          go_simp
          refine hK _ G _ (by kernel_rfl) ?_
          exact ⟨(hJ.1),
            fun q => (hJ.2.1) (q.resolve_left (by decide)),
            fun q n => (hJ.2.2.1) (q.resolve_left (by decide)) (fun m => n (.inr m)),
            fun q => (hJ.2.2.2.1) (q.resolve_left (by decide)),
            fun q => .inr ((hJ.2.2.2.2.1) (q.resolve_left (by decide))),
            fun q => (hJ.2.2.2.2.2.1) (q.resolve_left (by decide)),
            fun q => (hJ.2.2.2.2.2.2.1) (q.resolve_left (by decide)),
            fun _ => by first | exact rfl | exact e2,
            fun _ => rfl,
            fun q => (hJ.2.2.2.2.2.2.2.2.2.1) (q.resolve_left (by decide)),
            fun q => (hJ.2.2.2.2.2.2.2.2.2.2.1) (q.resolve_left (by decide)),
            fun q => (hJ.2.2.2.2.2.2.2.2.2.2.2.1) (q.resolve_left (by decide)),
            fun q => (hJ.2.2.2.2.2.2.2.2.2.2.2.2.1) (q.resolve_left (by decide)),
            fun q => (hJ.2.2.2.2.2.2.2.2.2.2.2.2.2.1) (q.resolve_left (by decide)),
            fun q => (hJ.2.2.2.2.2.2.2.2.2.2.2.2.2.2.1) (q.resolve_left (by decide)),
            fun q => (hJ.2.2.2.2.2.2.2.2.2.2.2.2.2.2.2.1) (q.resolve_left (by decide)),
            fun q => (hJ.2.2.2.2.2.2.2.2.2.2.2.2.2.2.2.2.1) (q.resolve_left (by decide)),
            fun q => (hJ.2.2.2.2.2.2.2.2.2.2.2.2.2.2.2.2.2.1) (q.resolve_left (by decide)),
            fun q => (hJ.2.2.2.2.2.2.2.2.2.2.2.2.2.2.2.2.2.2) (q.resolve_left (by decide))⟩
        refine StepsOk.cons (i := 4) rfl (fun L x G w1 K Q hn hp hJ hK => ?_) ?_
        · skip
          simp only [putAll, Act.put, List.setIfInBounds_toArray, List.set_cons_zero, List.set_cons_succ]
          go_simp
          refine hK _ G _ (by kernel_rfl) ?_
          exact ⟨(hJ.1),
            fun q => (hJ.2.1) (q.resolve_left (by decide)),
            fun q n => (hJ.2.2.1) (q.resolve_left (by decide)) (fun m => n (.inr m)),
            fun q => (hJ.2.2.2.1) (q.resolve_left (by decide)),
            fun q => .inr ((hJ.2.2.2.2.1) (q.resolve_left (by decide))),
            fun q => (hJ.2.2.2.2.2.1) (q.resolve_left (by decide)),
            fun q => (hJ.2.2.2.2.2.2.1) (q.resolve_left (by decide)),
            fun q => (hJ.2.2.2.2.2.2.2.1) (q.resolve_left (by decide)),
            fun q => (hJ.2.2.2.2.2.2.2.2.1) (q.resolve_left (by decide)),
            fun _ => rfl,
            fun q => (hJ.2.2.2.2.2.2.2.2.2.2.1) (q.resolve_left (by decide)),
            fun q => (hJ.2.2.2.2.2.2.2.2.2.2.2.1) (q.resolve_left (by decide)),
            fun q => (hJ.2.2.2.2.2.2.2.2.2.2.2.2.1) (q.resolve_left (by decide)),
            fun q => (hJ.2.2.2.2.2.2.2.2.2.2.2.2.2.1) (q.resolve_left (by decide)),
            fun q => (hJ.2.2.2.2.2.2.2.2.2.2.2.2.2.2.1) (q.resolve_left (by decide)),
            fun q => (hJ.2.2.2.2.2.2.2.2.2.2.2.2.2.2.2.1) (q.resolve_left (by decide)),
            fun q => (hJ.2.2.2.2.2.2.2.2.2.2.2.2.2.2.2.2.1) (q.resolve_left (by decide)),
            fun q => (hJ.2.2.2.2.2.2.2.2.2.2.2.2.2.2.2.2.2.1) (q.resolve_left (by decide)),
            fun q => (hJ.2.2.2.2.2.2.2.2.2.2.2.2.2.2.2.2.2.2) (q.resolve_left (by decide))⟩
        refine StepsOk.cons (i := 5) rfl (fun L x G w1 K Q hn hp hJ hK => ?_) ?_
        · skip
          simp only [putAll, Act.put, List.setIfInBounds_toArray, List.set_cons_zero, List.set_cons_succ]
          go_simp
          refine hK _ G _ (by kernel_rfl) ?_
          exact ⟨(hJ.1),
            fun q => (hJ.2.1) (q.resolve_left (by decide)),
            fun q n => (hJ.2.2.1) (q.resolve_left (by decide)) (fun m => n (.inr m)),
            fun q => (hJ.2.2.2.1) (q.resolve_left (by decide)),
            fun q => .inr ((hJ.2.2.2.2.1) (q.resolve_left (by decide))),
            fun q => (hJ.2.2.2.2.2.1) (q.resolve_left (by decide)),
            fun q => (hJ.2.2.2.2.2.2.1) (q.resolve_left (by decide)),
            fun q => (hJ.2.2.2.2.2.2.2.1) (q.resolve_left (by decide)),
            fun q => (hJ.2.2.2.2.2.2.2.2.1) (q.resolve_left (by decide)),
            fun q => (hJ.2.2.2.2.2.2.2.2.2.1) (q.resolve_left (by decide)),
            fun _ => rfl,
            fun q => (hJ.2.2.2.2.2.2.2.2.2.2.2.1) (q.resolve_left (by decide)),
            fun q => (hJ.2.2.2.2.2.2.2.2.2.2.2.2.1) (q.resolve_left (by decide)),
            fun q => (hJ.2.2.2.2.2.2.2.2.2.2.2.2.2.1) (q.resolve_left (by decide)),
            fun q => (hJ.2.2.2.2.2.2.2.2.2.2.2.2.2.2.1) (q.resolve_left (by decide)),
            fun q => (hJ.2.2.2.2.2.2.2.2.2.2.2.2.2.2.2.1) (q.resolve_left (by decide)),
            fun q => (hJ.2.2.2.2.2.2.2.2.2.2.2.2.2.2.2.2.1) (q.resolve_left (by decide)),
            fun q => (hJ.2.2.2.2.2.2.2.2.2.2.2.2.2.2.2.2.2.1) (q.resolve_left (by decide)),
            fun q => (hJ.2.2.2.2.2.2.2.2.2.2.2.2.2.2.2.2.2.2) (q.resolve_left (by decide))⟩
        refine StepsOk.cons (i := 6) rfl (fun L x G w1 K Q hn hp hJ hK => ?_) ?_
        · skip
          have p4 : L 4 := hp ⟨4, .data⟩ (by simp) rfl
          have e4 := (hJ.2.2.2.2.2.2.2.2.2.1) p4
          have p5 : L 5 := hp ⟨5, .data⟩ (by simp) rfl
          have e5 := (hJ.2.2.2.2.2.2.2.2.2.2.1) p5
          simp only [putAll, Act.put, List.setIfInBounds_toArray, List.set_cons_zero, List.set_cons_succ]
          go_simp
          refine hK _ G _ (by kernel_rfl) ?_
          exact ⟨(hJ.1),
            fun q => (hJ.2.1) (q.resolve_left (by decide)),
            fun q n => (hJ.2.2.1) (q.resolve_left (by decide)) (fun m => n (.inr m)),
            fun q => (hJ.2.2.2.1) (q.resolve_left (by decide)),
            fun q => .inr ((hJ.2.2.2.2.1) (q.resolve_left (by decide))),
            fun q => (hJ.2.2.2.2.2.1) (q.resolve_left (by decide)),
            fun q => (hJ.2.2.2.2.2.2.1) (q.resolve_left (by decide)),
            fun q => (hJ.2.2.2.2.2.2.2.1) (q.resolve_left (by decide)),
            fun q => (hJ.2.2.2.2.2.2.2.2.1) (q.resolve_left (by decide)),
            fun _ => by first | exact rfl | exact e4,
            fun _ => by first | exact rfl | exact e5,
            fun _ => rfl,
            fun q => (hJ.2.2.2.2.2.2.2.2.2.2.2.2.1) (q.resolve_left (by decide)),
            fun q => (hJ.2.2.2.2.2.2.2.2.2.2.2.2.2.1) (q.resolve_left (by decide)),
            fun q => (hJ.2.2.2.2.2.2.2.2.2.2.2.2.2.2.1) (q.resolve_left (by decide)),
            fun q => (hJ.2.2.2.2.2.2.2.2.2.2.2.2.2.2.2.1) (q.resolve_left (by decide)),
            fun q => (hJ.2.2.2.2.2.2.2.2.2.2.2.2.2.2.2.2.1) (q.resolve_left (by decide)),
            fun q => (hJ.2.2.2.2.2.2.2.2.2.2.2.2.2.2.2.2.2.1) (q.resolve_left (by decide)),
            fun q => (hJ.2.2.2.2.2.2.2.2.2.2.2.2.2.2.2.2.2.2) (q.resolve_left (by decide))⟩
        refine StepsOk.cons (i := 7) rfl (fun L x G w1 K Q hn hp hJ hK => ?_) ?_
        · skip
          have p6 : L 6 := hp ⟨6, .data⟩ (by simp) rfl
          have e6 := (hJ.2.2.2.2.2.2.2.2.2.2.2.1) p6
          have hr := Rd.atW (RBr.keep (hJ.1)) hlt
          have c0 := hr.2.1
          have c1 := hr.2.2
          clear hr
          simp only [putAll, Act.put, List.setIfInBounds_toArray, List.set_cons_zero, List.set_cons_succ]
          go_simp
          refine hK _ G _ (by kernel_rfl) ?_
          exact ⟨(hJ.1),
            fun q => (hJ.2.1) (q.resolve_left (by decide)),
            fun q n => (hJ.2.2.1) (q.resolve_left (by decide)) (fun m => n (.inr m)),
            fun q => (hJ.2.2.2.1) (q.resolve_left (by decide)),
            fun q => .inr ((hJ.2.2.2.2.1) (q.resolve_left (by decide))),
            fun q => (hJ.2.2.2.2.2.1) (q.resolve_left (by decide)),
            fun q => (hJ.2.2.2.2.2.2.1) (q.resolve_left (by decide)),
            fun q => (hJ.2.2.2.2.2.2.2.1) (q.resolve_left (by decide)),
            fun q => (hJ.2.2.2.2.2.2.2.2.1) (q.resolve_left (by decide)),
            fun q => (hJ.2.2.2.2.2.2.2.2.2.1) (q.resolve_left (by decide)),
            fun q => (hJ.2.2.2.2.2.2.2.2.2.2.1) (q.resolve_left (by decide)),
            fun _ => by first | exact rfl | exact e6,
            fun _ => rfl,
            fun q => (hJ.2.2.2.2.2.2.2.2.2.2.2.2.2.1) (q.resolve_left (by decide)),
            fun q => (hJ.2.2.2.2.2.2.2.2.2.2.2.2.2.2.1) (q.resolve_left (by decide)),
            fun q => (hJ.2.2.2.2.2.2.2.2.2.2.2.2.2.2.2.1) (q.resolve_left (by decide)),
            fun q => (hJ.2.2.2.2.2.2.2.2.2.2.2.2.2.2.2.2.1) (q.resolve_left (by decide)),
            fun q => (hJ.2.2.2.2.2.2.2.2.2.2.2.2.2.2.2.2.2.1) (q.resolve_left (by decide)),
            fun q => (hJ.2.2.2.2.2.2.2.2.2.2.2.2.2.2.2.2.2.2) (q.resolve_left (by decide))⟩
        refine StepsOk.cons (i := 8) rfl (fun L x G w1 K Q hn hp hJ hK => ?_) ?_
        · skip
          have p3 : L 3 := hp ⟨3, .data⟩ (by simp) rfl
          have e3 := (hJ.2.2.2.2.2.2.2.2.1) p3
          have p7 : L 7 := hp ⟨7, .data⟩ (by simp) rfl
          have e7 := (hJ.2.2.2.2.2.2.2.2.2.2.2.2.1) p7
          simp only [putAll, Act.put, List.setIfInBounds_toArray, List.set_cons_zero, List.set_cons_succ]
          go_simp
          refine (rdivup_c _ _ _ _ _ _ _ wn wd_).mono ?_
          rw [ed2.out, eb2.out]
          rintro e w2 ⟨rfl, hb⟩
          have hz := hb.size
          try go_simp
          refine hK _ G _ (by kernel_rfl) ?_
          exact ⟨bt (hJ.1) hb,
            fun q => ⟨((hJ.2.1) (q.resolve_left (by decide))).1, by have := ((hJ.2.1) (q.resolve_left (by decide))).2; omega⟩,
            fun q n => Blk.keep ((hJ.2.2.1) (q.resolve_left (by decide)) (fun m => n (.inr m))) hb,
            fun q => Blk.keep ((hJ.2.2.2.1) (q.resolve_left (by decide))) hb,
            fun q => .inr ((hJ.2.2.2.2.1) (q.resolve_left (by decide))),
            fun q => (hJ.2.2.2.2.2.1) (q.resolve_left (by decide)),
            fun q => (hJ.2.2.2.2.2.2.1) (q.resolve_left (by decide)),
            fun q => (hJ.2.2.2.2.2.2.2.1) (q.resolve_left (by decide)),
            fun _ => by first | exact rfl | exact e3,
            fun q => (hJ.2.2.2.2.2.2.2.2.2.1) (q.resolve_left (by decide)),
            fun q => (hJ.2.2.2.2.2.2.2.2.2.2.1) (q.resolve_left (by decide)),
            fun q => (hJ.2.2.2.2.2.2.2.2.2.2.2.1) (q.resolve_left (by decide)),
            fun _ => by first | exact rfl | exact e7,
            fun _ => rfl,
            fun q => (hJ.2.2.2.2.2.2.2.2.2.2.2.2.2.2.1) (q.resolve_left (by decide)),
            fun q => (hJ.2.2.2.2.2.2.2.2.2.2.2.2.2.2.2.1) (q.resolve_left (by decide)),
            fun q => (hJ.2.2.2.2.2.2.2.2.2.2.2.2.2.2.2.2.1) (q.resolve_left (by decide)),
            fun q => (hJ.2.2.2.2.2.2.2.2.2.2.2.2.2.2.2.2.2.1) (q.resolve_left (by decide)),
            fun q => (hJ.2.2.2.2.2.2.2.2.2.2.2.2.2.2.2.2.2.2) (q.resolve_left (by decide))⟩
        refine StepsOk.cons (i := 9) rfl (fun L x G w1 K Q hn hp hJ hK => ?_) ?_
        · skip
          have p8 : L 8 := hp ⟨8, .data⟩ (by simp) rfl
          have e8 := (hJ.2.2.2.2.2.2.2.2.2.2.2.2.2.1) p8
          simp only [putAll, Act.put, List.setIfInBounds_toArray, List.set_cons_zero, List.set_cons_succ]
          go_simp
          refine hK _ G _ (by kernel_rfl) ?_
          exact ⟨(hJ.1),
            fun q => (hJ.2.1) (q.resolve_left (by decide)),
            fun q n => (hJ.2.2.1) (q.resolve_left (by decide)) (fun m => n (.inr m)),
            fun q => (hJ.2.2.2.1) (q.resolve_left (by decide)),
            fun q => .inr ((hJ.2.2.2.2.1) (q.resolve_left (by decide))),
            fun q => (hJ.2.2.2.2.2.1) (q.resolve_left (by decide)),
            fun q => (hJ.2.2.2.2.2.2.1) (q.resolve_left (by decide)),
            fun q => (hJ.2.2.2.2.2.2.2.1) (q.resolve_left (by decide)),
            fun q => (hJ.2.2.2.2.2.2.2.2.1) (q.resolve_left (by decide)),
            fun q => (hJ.2.2.2.2.2.2.2.2.2.1) (q.resolve_left (by decide)),
            fun q => (hJ.2.2.2.2.2.2.2.2.2.2.1) (q.resolve_left (by decide)),
            fun q => (hJ.2.2.2.2.2.2.2.2.2.2.2.1) (q.resolve_left (by decide)),
            fun q => (hJ.2.2.2.2.2.2.2.2.2.2.2.2.1) (q.resolve_left (by decide)),
            fun _ => by first | exact rfl | exact e8,
            fun _ => rfl,
            fun q => (hJ.2.2.2.2.2.2.2.2.2.2.2.2.2.2.2.1) (q.resolve_left (by decide)),
            fun q => (hJ.2.2.2.2.2.2.2.2.2.2.2.2.2.2.2.2.1) (q.resolve_left (by decide)),
            fun q => (hJ.2.2.2.2.2.2.2.2.2.2.2.2.2.2.2.2.2.1) (q.resolve_left (by decide)),
            fun q => (hJ.2.2.2.2.2.2.2.2.2.2.2.2.2.2.2.2.2.2) (q.resolve_left (by decide))⟩
        refine StepsOk.cons (i := 10) rfl (fun L x G w1 K Q hn hp hJ hK => ?_) ?_
        · skip
          have p9 : L 9 := hp ⟨9, .data⟩ (by simp) rfl
          have e9 := (hJ.2.2.2.2.2.2.2.2.2.2.2.2.2.2.1) p9
          simp only [putAll, Act.put, List.setIfInBounds_toArray, List.set_cons_zero, List.set_cons_succ]
          go_simp
          refine hK _ G _ (by kernel_rfl) ?_
          exact ⟨(hJ.1),
            fun q => (hJ.2.1) (q.resolve_left (by decide)),
            fun q n => (hJ.2.2.1) (q.resolve_left (by decide)) (fun m => n (.inr m)),
            fun q => (hJ.2.2.2.1) (q.resolve_left (by decide)),
            fun q => .inr ((hJ.2.2.2.2.1) (q.resolve_left (by decide))),
            fun q => (hJ.2.2.2.2.2.1) (q.resolve_left (by decide)),
            fun q => (hJ.2.2.2.2.2.2.1) (q.resolve_left (by decide)),
            fun q => (hJ.2.2.2.2.2.2.2.1) (q.resolve_left (by decide)),
            fun q => (hJ.2.2.2.2.2.2.2.2.1) (q.resolve_left (by decide)),
            fun q => (hJ.2.2.2.2.2.2.2.2.2.1) (q.resolve_left (by decide)),
            fun q => (hJ.2.2.2.2.2.2.2.2.2.2.1) (q.resolve_left (by decide)),
            fun q => (hJ.2.2.2.2.2.2.2.2.2.2.2.1) (q.resolve_left (by decide)),
            fun q => (hJ.2.2.2.2.2.2.2.2.2.2.2.2.1) (q.resolve_left (by decide)),
            fun q => (hJ.2.2.2.2.2.2.2.2.2.2.2.2.2.1) (q.resolve_left (by decide)),
            fun _ => by first | exact rfl | exact e9,
            fun _ => rfl,
            fun q => (hJ.2.2.2.2.2.2.2.2.2.2.2.2.2.2.2.2.1) (q.resolve_left (by decide)),
            fun q => (hJ.2.2.2.2.2.2.2.2.2.2.2.2.2.2.2.2.2.1) (q.resolve_left (by decide)),
            fun q => (hJ.2.2.2.2.2.2.2.2.2.2.2.2.2.2.2.2.2.2) (q.resolve_left (by decide))⟩
        refine StepsOk.cons (i := 11) rfl (fun L x G w1 K Q hn hp hJ hK => ?_) ?_
        · skip
          have p9 : L 9 := hp ⟨9, .data⟩ (by simp) rfl
          have e9 := (hJ.2.2.2.2.2.2.2.2.2.2.2.2.2.2.1) p9
          simp only [putAll, Act.put, List.setIfInBounds_toArray, List.set_cons_zero, List.set_cons_succ]
          go_simp
          refine hK _ G _ (by kernel_rfl) ?_
          exact ⟨(hJ.1),
            fun q => (hJ.2.1) (q.resolve_left (by decide)),
            fun q n => (hJ.2.2.1) (q.resolve_left (by decide)) (fun m => n (.inr m)),
            fun q => (hJ.2.2.2.1) (q.resolve_left (by decide)),
            fun q => .inr ((hJ.2.2.2.2.1) (q.resolve_left (by decide))),
            fun q => (hJ.2.2.2.2.2.1) (q.resolve_left (by decide)),
            fun q => (hJ.2.2.2.2.2.2.1) (q.resolve_left (by decide)),
            fun q => (hJ.2.2.2.2.2.2.2.1) (q.resolve_left (by decide)),
            fun q => (hJ.2.2.2.2.2.2.2.2.1) (q.resolve_left (by decide)),
            fun q => (hJ.2.2.2.2.2.2.2.2.2.1) (q.resolve_left (by decide)),
            fun q => (hJ.2.2.2.2.2.2.2.2.2.2.1) (q.resolve_left (by decide)),
            fun q => (hJ.2.2.2.2.2.2.2.2.2.2.2.1) (q.resolve_left (by decide)),
            fun q => (hJ.2.2.2.2.2.2.2.2.2.2.2.2.1) (q.resolve_left (by decide)),
            fun q => (hJ.2.2.2.2.2.2.2.2.2.2.2.2.2.1) (q.resolve_left (by decide)),
            fun _ => by first | exact rfl | exact e9,
            fun q => (hJ.2.2.2.2.2.2.2.2.2.2.2.2.2.2.2.1) (q.resolve_left (by decide)),
            fun _ => rfl,
            fun q => (hJ.2.2.2.2.2.2.2.2.2.2.2.2.2.2.2.2.2.1) (q.resolve_left (by decide)),
            fun q => (hJ.2.2.2.2.2.2.2.2.2.2.2.2.2.2.2.2.2.2) (q.resolve_left (by decide))⟩
        refine StepsOk.cons (i := 12) rfl (fun L x G w1 K Q hn hp hJ hK => ?_) ?_
        · skip
          simp only [putAll, Act.put, List.setIfInBounds_toArray, List.set_cons_zero, List.set_cons_succ]
          go_simp
          refine hK _ (fun t => if t = 12 then w1.heap.size else G t) _ (by kernel_rfl) ?_
          exact ⟨bal (hJ.1) _,
            fun _ => ⟨(hJ.1).size, by simp⟩,
            fun _ _ => Blk.new w1 _ _,
            fun q => absurd ((hJ.2.2.2.2.1) (q.resolve_left (by decide))) hn,
            fun q => .inr ((hJ.2.2.2.2.1) (q.resolve_left (by decide))),
            fun q => (hJ.2.2.2.2.2.1) (q.resolve_left (by decide)),
            fun q => (hJ.2.2.2.2.2.2.1) (q.resolve_left (by decide)),
            fun q => (hJ.2.2.2.2.2.2.2.1) (q.resolve_left (by decide)),
            fun q => (hJ.2.2.2.2.2.2.2.2.1) (q.resolve_left (by decide)),
            fun q => (hJ.2.2.2.2.2.2.2.2.2.1) (q.resolve_left (by decide)),
            fun q => (hJ.2.2.2.2.2.2.2.2.2.2.1) (q.resolve_left (by decide)),
            fun q => (hJ.2.2.2.2.2.2.2.2.2.2.2.1) (q.resolve_left (by decide)),
            fun q => (hJ.2.2.2.2.2.2.2.2.2.2.2.2.1) (q.resolve_left (by decide)),
            fun q => (hJ.2.2.2.2.2.2.2.2.2.2.2.2.2.1) (q.resolve_left (by decide)),
            fun q => (hJ.2.2.2.2.2.2.2.2.2.2.2.2.2.2.1) (q.resolve_left (by decide)),
            fun q => (hJ.2.2.2.2.2.2.2.2.2.2.2.2.2.2.2.1) (q.resolve_left (by decide)),
            fun q => (hJ.2.2.2.2.2.2.2.2.2.2.2.2.2.2.2.2.1) (q.resolve_left (by decide)),
            fun _ => rfl,
            fun q => (hJ.2.2.2.2.2.2.2.2.2.2.2.2.2.2.2.2.2.2) (q.resolve_left (by decide))⟩
        refine StepsOk.cons (i := 13) rfl (fun L x G w1 K Q hn hp hJ hK => ?_) ?_
        · skip
          have p10 : L 10 := hp ⟨10, .data⟩ (by simp) rfl
          have e10 := (hJ.2.2.2.2.2.2.2.2.2.2.2.2.2.2.2.1) p10
          have p12 : L 12 := hp ⟨12, .data⟩ (by simp) rfl
          have e12 := (hJ.2.2.2.2.2.2.2.2.2.2.2.2.2.2.2.2.2.1) p12
          have hc := Blk.open2 (((hJ.2.2.1) p12 hn))
          have c0 := hc.1
          have c1 := hc.2.1
          have c2 := hc.2.2.1
          have c3 := hc.2.2.2
          clear hc
          simp only [putAll, Act.put, List.setIfInBounds_toArray, List.set_cons_zero, List.set_cons_succ]
          go_simp
          refine hK _ G _ (by kernel_rfl) ?_
          exact ⟨bst (bst ((hJ.1)) (p := ⟨G 12, 0, none⟩) ((hJ.2.1) p12).1 (.int .i64 (Wi.Hq (cc)))) (p := ⟨G 12, 1, none⟩) ((hJ.2.1) p12).1 (.int .u64 (Wi.Lr (cc))),
            fun q => ⟨((hJ.2.1) (q.resolve_left (by decide))).1, by have := ((hJ.2.1) (q.resolve_left (by decide))).2; simpa using this⟩,
            fun _ n => absurd (.inl rfl) n,
            fun _ => by simpa using Blk.set_ (Blk.set_ (((hJ.2.2.1) p12 hn)) 0 (.int .i64 (Wi.Hq (cc)))) 1 (.int .u64 (Wi.Lr (cc))),
            fun _ => .inr p12,
            fun q => (hJ.2.2.2.2.2.1) (q.resolve_left (by decide)),
            fun q => (hJ.2.2.2.2.2.2.1) (q.resolve_left (by decide)),
            fun q => (hJ.2.2.2.2.2.2.2.1) (q.resolve_left (by decide)),
            fun q => (hJ.2.2.2.2.2.2.2.2.1) (q.resolve_left (by decide)),
            fun q => (hJ.2.2.2.2.2.2.2.2.2.1) (q.resolve_left (by decide)),
            fun q => (hJ.2.2.2.2.2.2.2.2.2.2.1) (q.resolve_left (by decide)),
            fun q => (hJ.2.2.2.2.2.2.2.2.2.2.2.1) (q.resolve_left (by decide)),
            fun q => (hJ.2.2.2.2.2.2.2.2.2.2.2.2.1) (q.resolve_left (by decide)),
            fun q => (hJ.2.2.2.2.2.2.2.2.2.2.2.2.2.1) (q.resolve_left (by decide)),
            fun q => (hJ.2.2.2.2.2.2.2.2.2.2.2.2.2.2.1) (q.resolve_left (by decide)),
            fun _ => by first | exact rfl | exact e10,
            fun q => (hJ.2.2.2.2.2.2.2.2.2.2.2.2.2.2.2.2.1) (q.resolve_left (by decide)),
            fun _ => by first | exact rfl | exact e12,
            fun q => (hJ.2.2.2.2.2.2.2.2.2.2.2.2.2.2.2.2.2.2) (q.resolve_left (by decide))⟩
        refine StepsOk.cons (i := 14) rfl (fun L x G w1 K Q hn hp hJ hK => ?_) ?_
        · skip
          have p11 : L 11 := hp ⟨11, .data⟩ (by simp) rfl
          have e11 := (hJ.2.2.2.2.2.2.2.2.2.2.2.2.2.2.2.2.1) p11
          simp only [putAll, Act.put, List.setIfInBounds_toArray, List.set_cons_zero, List.set_cons_succ]
          go_simp
          refine hK _ G _ (by kernel_rfl) ?_
          exact ⟨(hJ.1),
            fun q => (hJ.2.1) (q.resolve_left (by decide)),
            fun q n => (hJ.2.2.1) (q.resolve_left (by decide)) (fun m => n (.inr m)),
            fun q => (hJ.2.2.2.1) (q.resolve_left (by decide)),
            fun q => .inr ((hJ.2.2.2.2.1) (q.resolve_left (by decide))),
            fun q => (hJ.2.2.2.2.2.1) (q.resolve_left (by decide)),
            fun q => (hJ.2.2.2.2.2.2.1) (q.resolve_left (by decide)),
            fun q => (hJ.2.2.2.2.2.2.2.1) (q.resolve_left (by decide)),
            fun q => (hJ.2.2.2.2.2.2.2.2.1) (q.resolve_left (by decide)),
            fun q => (hJ.2.2.2.2.2.2.2.2.2.1) (q.resolve_left (by decide)),
            fun q => (hJ.2.2.2.2.2.2.2.2.2.2.1) (q.resolve_left (by decide)),
            fun q => (hJ.2.2.2.2.2.2.2.2.2.2.2.1) (q.resolve_left (by decide)),
            fun q => (hJ.2.2.2.2.2.2.2.2.2.2.2.2.1) (q.resolve_left (by decide)),
            fun q => (hJ.2.2.2.2.2.2.2.2.2.2.2.2.2.1) (q.resolve_left (by decide)),
            fun q => (hJ.2.2.2.2.2.2.2.2.2.2.2.2.2.2.1) (q.resolve_left (by decide)),
            fun q => (hJ.2.2.2.2.2.2.2.2.2.2.2.2.2.2.2.1) (q.resolve_left (by decide)),
            fun _ => by first | exact rfl | exact e11,
            fun q => (hJ.2.2.2.2.2.2.2.2.2.2.2.2.2.2.2.2.2.1) (q.resolve_left (by decide)),
            fun _ => rfl⟩
        exact StepsOk.nil
      case fin =>
        intro L x G w2 hall hJ
        obtain ⟨haPB, hlPB⟩ := (hJ.2.1) (hall 12 (by decide))
        have PB := (hJ.2.2.2.1) (hall 13 (by decide))
        have u0 := hJ.2.2.2.2.2.1 (hall 0 (by decide))
        have u1 := hJ.2.2.2.2.2.2.1 (hall 1 (by decide))
        have u2 := hJ.2.2.2.2.2.2.2.1 (hall 2 (by decide))
        have u3 := hJ.2.2.2.2.2.2.2.2.1 (hall 3 (by decide))
        have u4 := hJ.2.2.2.2.2.2.2.2.2.1 (hall 4 (by decide))
        have u5 := hJ.2.2.2.2.2.2.2.2.2.2.1 (hall 5 (by decide))
        have u6 := hJ.2.2.2.2.2.2.2.2.2.2.2.1 (hall 6 (by decide))
        have u7 := hJ.2.2.2.2.2.2.2.2.2.2.2.2.1 (hall 7 (by decide))
        have u8 := hJ.2.2.2.2.2.2.2.2.2.2.2.2.2.1 (hall 8 (by decide))
        have u9 := hJ.2.2.2.2.2.2.2.2.2.2.2.2.2.2.1 (hall 9 (by decide))
        have u10 := hJ.2.2.2.2.2.2.2.2.2.2.2.2.2.2.2.1 (hall 10 (by decide))
        have u11 := hJ.2.2.2.2.2.2.2.2.2.2.2.2.2.2.2.2.1 (hall 11 (by decide))
        have u12 := hJ.2.2.2.2.2.2.2.2.2.2.2.2.2.2.2.2.2.1 (hall 12 (by decide))
        have u14 := hJ.2.2.2.2.2.2.2.2.2.2.2.2.2.2.2.2.2.2 (hall 14 (by decide))
        have hr_ := hJ.1
        replace R := R.keep hr_
        replace PA := PA.keep hr_
        replace o1 := o1.keep hr_
        replace o2 := o2.keep hr_
        replace RAr := RAr.keep hr_
        replace RBr := RBr.keep hr_
        replace hB := bt hB hr_
        have sz2 := hr_.size
        clear hr_
        simp only [putAll, Act.put, List.setIfInBounds_toArray, List.set_cons_zero, List.set_cons_succ]
        simp only [u0, u1, u2, u3, u4, u5, u6, u7, u8, u9, u10, u11, u12, u14]
        clear hall hJ u0 u1 u2 u3 u4 u5 u6 u7 u8 u9 u10 u11 u12 u14
        generalize G 12 = gPB at *
        have nR1 : ob A1 ≠ some w.heap.size := fun z => by have := o1.base z; omega
        have nR2 : ob A2 ≠ some w.heap.size := fun z => by have := o2.base z; omega
        have nPA1 : ob A1 ≠ some gPA := fun z => by have := t1 _ z; omega
        have nPA2 : ob A2 ≠ some gPA := fun z => by have := t2 _ z; omega
        have nPB1 : ob A1 ≠ some gPB := fun z => by have := t1 _ z; omega
        have nPB2 : ob A2 ≠ some gPB := fun z => by have := t2 _ z; omega
        have bA1 : ∀ g, ob A1 = some g → g < w2.heap.size := fun g z => o1.top z
        go_wp2_with fail
        refine wp_region_inv (fun L x G wx => Below w.heap.size w wx
              ∧ w2.heap.size ≤ wx.heap.size
              ∧ Blk wx w.heap.size 23 #[.int .i64 (0), .int .i64 (0)]
              ∧ Blk wx (gPA) 40 #[.int .i64 (Wi.Hq (f)), .int .u64 (Wi.Lr (f))]
              ∧ Blk wx (gPB) 40 #[.int .i64 (Wi.Hq (cc)), .int .u64 (Wi.Lr (cc))]
              ∧ (L 2 → ¬ L 3 → Blk wx (G 2) 40 #[.int .i64 (Wi.Hq (f)), .int .u64 (Wi.Lr (f))])
              ∧ (L 6 → ¬ L 7 → Blk wx (G 6) 40 #[.int .i64 (Wi.Hq (cc)), .int .u64 (Wi.Lr (cc))])
              ∧ (L 6 → w2.heap.size ≤ G 6)
              ∧ (¬ L 3 → Own wx (w.heap.size + 1) 40 2 A1 k c1 (wv (fun i => Wi.dv (N i) (D i) (-1))))
              ∧ (L 3 → Own wx (w.heap.size + 1) 40 2 (some ⟨G 3, 0, none⟩) (k + 1) (G 13) (wv (fun i => Wi.dv (N i) (D i) (-1))))
              ∧ (¬ L 7 → Own wx (w.heap.size + 1) 40 2 A2 k c2 (wv (fun i => Wi.dv (N i) (D i) 1)))
              ∧ (L 7 → Own wx (w.heap.size + 1) 40 2 (some ⟨G 7, 0, none⟩) (k + 1) (G 17) (wv (fun i => Wi.dv (N i) (D i) 1)))
              ∧ (L 3 → ¬ L 7 → Apart (some ⟨G 3, 0, none⟩) A2 ∧ Apart A2 (some ⟨G 3, 0, none⟩))
              ∧ (L 7 → Apart (some ⟨G 3, 0, none⟩) (some ⟨G 7, 0, none⟩) ∧ Apart (some ⟨G 7, 0, none⟩) (some ⟨G 3, 0, none⟩))
              ∧ (L 7 → L 3)
              ∧ (L 8 → L 0 ∧ L 3)
              ∧ (L 9 → L 4 ∧ L 7)
              ∧ (¬ L 8 → x 6 = .slice A1 k c1)
              ∧ (¬ L 9 → x 7 = .slice A2 k c2)
              ∧ (L 0 → x 44 = .slice A1 k c1)
              ∧ (L 1 → x 45 = .agg #[.int .i64 (Wi.Hq (f)), .int .u64 (Wi.Lr (f))])
              ∧ (L 2 → x 46 = .slice (some ⟨G 2, 0, none⟩) 1 1)
              ∧ (L 3 → x 47 = .slice (some ⟨G 3, 0, none⟩) (k + 1) (G 13))
              ∧ (L 4 → x 48 = .slice A2 k c2)
              ∧ (L 5 → x 49 = .agg #[.int .i64 (Wi.Hq (cc)), .int .u64 (Wi.Lr (cc))])
              ∧ (L 6 → x 50 = .slice (some ⟨G 6, 0, none⟩) 1 1)
              ∧ (L 7 → x 51 = .slice (some ⟨G 7, 0, none⟩) (k + 1) (G 17))
              ∧ (L 8 → x 6 = .slice (some ⟨G 3, 0, none⟩) (k + 1) (G 13))
              ∧ (L 9 → x 7 = .slice (some ⟨G 7, 0, none⟩) (k + 1) (G 17))) [44, 45, 46, 47, 48, 49, 50, 51, 6, 7] 10 (by kernel_rfl) (by kernel_rfl) (by kernel_rfl) ?h0 ?st ?fin
        case h0 =>
          exact ⟨bdr hB, Nat.le_refl _, R.drew, PA.drew, PB.drew, fun q => q.elim, fun q => q.elim, fun q => q.elim, fun _ => o1.drew, fun q => q.elim, fun _ => o2.drew, fun q => q.elim, fun q => q.elim, fun q => q.elim, fun q => q.elim, fun q => q.elim, fun q => q.elim, fun _ => rfl, fun _ => rfl, fun q => q.elim, fun q => q.elim, fun q => q.elim, fun q => q.elim, fun q => q.elim, fun q => q.elim, fun q => q.elim, fun q => q.elim, fun q => q.elim, fun q => q.elim⟩
        case st =>
          refine StepsOk.cons (i := 0) rfl (fun L x G w1 K Q hn hp hJ hK => ?_) ?_
          · skip
            have e60 := (hJ.2.2.2.2.2.2.2.2.2.2.2.2.2.2.2.2.2.1) (fun z => hn ((hJ.2.2.2.2.2.2.2.2.2.2.2.2.2.2.2.1) z).1)
            simp only [putAll, Act.put, List.setIfInBounds_toArray, List.set_cons_zero, List.set_cons_succ]
            go_simp
            refine hK _ G _ (by kernel_rfl) ?_
            exact ⟨(hJ.1),
              (hJ.2.1),
              (hJ.2.2.1),
              (hJ.2.2.2.1),
              (hJ.2.2.2.2.1),
              fun q n => (hJ.2.2.2.2.2.1) (q.resolve_left (by decide)) (fun m => n (.inr m)),
              fun q n => (hJ.2.2.2.2.2.2.1) (q.resolve_left (by decide)) (fun m => n (.inr m)),
              fun q => (hJ.2.2.2.2.2.2.2.1) (q.resolve_left (by decide)),
              fun n => (hJ.2.2.2.2.2.2.2.2.1) (fun m => n (.inr m)),
              fun q => (hJ.2.2.2.2.2.2.2.2.2.1) (q.resolve_left (by decide)),
              fun n => (hJ.2.2.2.2.2.2.2.2.2.2.1) (fun m => n (.inr m)),
              fun q => (hJ.2.2.2.2.2.2.2.2.2.2.2.1) (q.resolve_left (by decide)),
              fun q n => (hJ.2.2.2.2.2.2.2.2.2.2.2.2.1) (q.resolve_left (by decide)) (fun m => n (.inr m)),
              fun q => (hJ.2.2.2.2.2.2.2.2.2.2.2.2.2.1) (q.resolve_left (by decide)),
              fun q => .inr ((hJ.2.2.2.2.2.2.2.2.2.2.2.2.2.2.1) (q.resolve_left (by decide))),
              fun q => ⟨.inr ((hJ.2.2.2.2.2.2.2.2.2.2.2.2.2.2.2.1) (q.resolve_left (by decide))).1, .inr ((hJ.2.2.2.2.2.2.2.2.2.2.2.2.2.2.2.1) (q.resolve_left (by decide))).2⟩,
              fun q => ⟨.inr ((hJ.2.2.2.2.2.2.2.2.2.2.2.2.2.2.2.2.1) (q.resolve_left (by decide))).1, .inr ((hJ.2.2.2.2.2.2.2.2.2.2.2.2.2.2.2.2.1) (q.resolve_left (by decide))).2⟩,
              fun n => by first | exact rfl | exact e60,
              fun n => (hJ.2.2.2.2.2.2.2.2.2.2.2.2.2.2.2.2.2.2.1) (fun m => n (.inr m)),
              fun _ => rfl,
              fun q => (hJ.2.2.2.2.2.2.2.2.2.2.2.2.2.2.2.2.2.2.2.2.1) (q.resolve_left (by decide)),
              fun q => (hJ.2.2.2.2.2.2.2.2.2.2.2.2.2.2.2.2.2.2.2.2.2.1) (q.resolve_left (by decide)),
              fun q => (hJ.2.2.2.2.2.2.2.2.2.2.2.2.2.2.2.2.2.2.2.2.2.2.1) (q.resolve_left (by decide)),
              fun q => (hJ.2.2.2.2.2.2.2.2.2.2.2.2.2.2.2.2.2.2.2.2.2.2.2.1) (q.resolve_left (by decide)),
              fun q => (hJ.2.2.2.2.2.2.2.2.2.2.2.2.2.2.2.2.2.2.2.2.2.2.2.2.1) (q.resolve_left (by decide)),
              fun q => (hJ.2.2.2.2.2.2.2.2.2.2.2.2.2.2.2.2.2.2.2.2.2.2.2.2.2.1) (q.resolve_left (by decide)),
              fun q => (hJ.2.2.2.2.2.2.2.2.2.2.2.2.2.2.2.2.2.2.2.2.2.2.2.2.2.2.1) (q.resolve_left (by decide)),
              fun q => absurd ((hJ.2.2.2.2.2.2.2.2.2.2.2.2.2.2.2.1) (q.resolve_left (by decide))).1 hn,
              fun q => (hJ.2.2.2.2.2.2.2.2.2.2.2.2.2.2.2.2.2.2.2.2.2.2.2.2.2.2.2.2) (q.resolve_left (by decide))⟩
          refine StepsOk.cons (i := 1) rfl (fun L x G w1 K Q hn hp hJ hK => ?_) ?_
          · skip
            have hc := Blk.open2 (hJ.2.2.2.1)
            have c0_ := hc.1
            have c1_ := hc.2.1
            have c2_ := hc.2.2.1
            have c3_ := hc.2.2.2
            clear hc
            simp only [putAll, Act.put, List.setIfInBounds_toArray, List.set_cons_zero, List.set_cons_succ]
            go_simp
            refine hK _ G _ (by kernel_rfl) ?_
            exact ⟨(hJ.1),
              (hJ.2.1),
              (hJ.2.2.1),
              (hJ.2.2.2.1),
              (hJ.2.2.2.2.1),
              fun q n => (hJ.2.2.2.2.2.1) (q.resolve_left (by decide)) (fun m => n (.inr m)),
              fun q n => (hJ.2.2.2.2.2.2.1) (q.resolve_left (by decide)) (fun m => n (.inr m)),
              fun q => (hJ.2.2.2.2.2.2.2.1) (q.resolve_left (by decide)),
              fun n => (hJ.2.2.2.2.2.2.2.2.1) (fun m => n (.inr m)),
              fun q => (hJ.2.2.2.2.2.2.2.2.2.1) (q.resolve_left (by decide)),
              fun n => (hJ.2.2.2.2.2.2.2.2.2.2.1) (fun m => n (.inr m)),
              fun q => (hJ.2.2.2.2.2.2.2.2.2.2.2.1) (q.resolve_left (by decide)),
              fun q n => (hJ.2.2.2.2.2.2.2.2.2.2.2.2.1) (q.resolve_left (by decide)) (fun m => n (.inr m)),
              fun q => (hJ.2.2.2.2.2.2.2.2.2.2.2.2.2.1) (q.resolve_left (by decide)),
              fun q => .inr ((hJ.2.2.2.2.2.2.2.2.2.2.2.2.2.2.1) (q.resolve_left (by decide))),
              fun q => ⟨.inr ((hJ.2.2.2.2.2.2.2.2.2.2.2.2.2.2.2.1) (q.resolve_left (by decide))).1, .inr ((hJ.2.2.2.2.2.2.2.2.2.2.2.2.2.2.2.1) (q.resolve_left (by decide))).2⟩,
              fun q => ⟨.inr ((hJ.2.2.2.2.2.2.2.2.2.2.2.2.2.2.2.2.1) (q.resolve_left (by decide))).1, .inr ((hJ.2.2.2.2.2.2.2.2.2.2.2.2.2.2.2.2.1) (q.resolve_left (by decide))).2⟩,
              fun n => (hJ.2.2.2.2.2.2.2.2.2.2.2.2.2.2.2.2.2.1) (fun m => n (.inr m)),
              fun n => (hJ.2.2.2.2.2.2.2.2.2.2.2.2.2.2.2.2.2.2.1) (fun m => n (.inr m)),
              fun q => (hJ.2.2.2.2.2.2.2.2.2.2.2.2.2.2.2.2.2.2.2.1) (q.resolve_left (by decide)),
              fun _ => rfl,
              fun q => (hJ.2.2.2.2.2.2.2.2.2.2.2.2.2.2.2.2.2.2.2.2.2.1) (q.resolve_left (by decide)),
              fun q => (hJ.2.2.2.2.2.2.2.2.2.2.2.2.2.2.2.2.2.2.2.2.2.2.1) (q.resolve_left (by decide)),
              fun q => (hJ.2.2.2.2.2.2.2.2.2.2.2.2.2.2.2.2.2.2.2.2.2.2.2.1) (q.resolve_left (by decide)),
              fun q => (hJ.2.2.2.2.2.2.2.2.2.2.2.2.2.2.2.2.2.2.2.2.2.2.2.2.1) (q.resolve_left (by decide)),
              fun q => (hJ.2.2.2.2.2.2.2.2.2.2.2.2.2.2.2.2.2.2.2.2.2.2.2.2.2.1) (q.resolve_left (by decide)),
              fun q => (hJ.2.2.2.2.2.2.2.2.2.2.2.2.2.2.2.2.2.2.2.2.2.2.2.2.2.2.1) (q.resolve_left (by decide)),
              fun q => (hJ.2.2.2.2.2.2.2.2.2.2.2.2.2.2.2.2.2.2.2.2.2.2.2.2.2.2.2.1) (q.resolve_left (by decide)),
              fun q => (hJ.2.2.2.2.2.2.2.2.2.2.2.2.2.2.2.2.2.2.2.2.2.2.2.2.2.2.2.2) (q.resolve_left (by decide))⟩
          refine StepsOk.cons (i := 2) rfl (fun L x G w1 K Q hn hp hJ hK => ?_) ?_
          · skip
            have p1 : L 1 := hp ⟨1, .data⟩ (by simp) rfl
            have e1 := (hJ.2.2.2.2.2.2.2.2.2.2.2.2.2.2.2.2.2.2.2.2.1) p1
            simp only [putAll, Act.put, List.setIfInBounds_toArray, List.set_cons_zero, List.set_cons_succ]
            go_simp
            refine hK _ (fun t => if t = 2 then w1.heap.size else G t) _ (by kernel_rfl) ?_
            exact ⟨bal (hJ.1) _,
              Nat.le_trans (hJ.2.1) (by simp),
              Blk.alloc ((hJ.2.2.1)) _,
              Blk.alloc ((hJ.2.2.2.1)) _,
              Blk.alloc ((hJ.2.2.2.2.1)) _,
              fun _ _ => Blk.new w1 _ _,
              fun q n => Blk.alloc ((hJ.2.2.2.2.2.2.1) (q.resolve_left (by decide)) (fun m => n (.inr m))) _,
              fun q => (hJ.2.2.2.2.2.2.2.1) (q.resolve_left (by decide)),
              fun n => Own.alloc ((hJ.2.2.2.2.2.2.2.2.1) (fun m => n (.inr m))) _,
              fun q => Own.alloc ((hJ.2.2.2.2.2.2.2.2.2.1) (q.resolve_left (by decide))) _,
              fun n => Own.alloc ((hJ.2.2.2.2.2.2.2.2.2.2.1) (fun m => n (.inr m))) _,
              fun q => Own.alloc ((hJ.2.2.2.2.2.2.2.2.2.2.2.1) (q.resolve_left (by decide))) _,
              fun q n => (hJ.2.2.2.2.2.2.2.2.2.2.2.2.1) (q.resolve_left (by decide)) (fun m => n (.inr m)),
              fun q => (hJ.2.2.2.2.2.2.2.2.2.2.2.2.2.1) (q.resolve_left (by decide)),
              fun q => .inr ((hJ.2.2.2.2.2.2.2.2.2.2.2.2.2.2.1) (q.resolve_left (by decide))),
              fun q => ⟨.inr ((hJ.2.2.2.2.2.2.2.2.2.2.2.2.2.2.2.1) (q.resolve_left (by decide))).1, .inr ((hJ.2.2.2.2.2.2.2.2.2.2.2.2.2.2.2.1) (q.resolve_left (by decide))).2⟩,
              fun q => ⟨.inr ((hJ.2.2.2.2.2.2.2.2.2.2.2.2.2.2.2.2.1) (q.resolve_left (by decide))).1, .inr ((hJ.2.2.2.2.2.2.2.2.2.2.2.2.2.2.2.2.1) (q.resolve_left (by decide))).2⟩,
              fun n => (hJ.2.2.2.2.2.2.2.2.2.2.2.2.2.2.2.2.2.1) (fun m => n (.inr m)),
              fun n => (hJ.2.2.2.2.2.2.2.2.2.2.2.2.2.2.2.2.2.2.1) (fun m => n (.inr m)),
              fun q => (hJ.2.2.2.2.2.2.2.2.2.2.2.2.2.2.2.2.2.2.2.1) (q.resolve_left (by decide)),
              fun _ => by first | exact rfl | exact e1,
              fun _ => rfl,
              fun q => (hJ.2.2.2.2.2.2.2.2.2.2.2.2.2.2.2.2.2.2.2.2.2.2.1) (q.resolve_left (by decide)),
              fun q => (hJ.2.2.2.2.2.2.2.2.2.2.2.2.2.2.2.2.2.2.2.2.2.2.2.1) (q.resolve_left (by decide)),
              fun q => (hJ.2.2.2.2.2.2.2.2.2.2.2.2.2.2.2.2.2.2.2.2.2.2.2.2.1) (q.resolve_left (by decide)),
              fun q => (hJ.2.2.2.2.2.2.2.2.2.2.2.2.2.2.2.2.2.2.2.2.2.2.2.2.2.1) (q.resolve_left (by decide)),
              fun q => (hJ.2.2.2.2.2.2.2.2.2.2.2.2.2.2.2.2.2.2.2.2.2.2.2.2.2.2.1) (q.resolve_left (by decide)),
              fun q => (hJ.2.2.2.2.2.2.2.2.2.2.2.2.2.2.2.2.2.2.2.2.2.2.2.2.2.2.2.1) (q.resolve_left (by decide)),
              fun q => (hJ.2.2.2.2.2.2.2.2.2.2.2.2.2.2.2.2.2.2.2.2.2.2.2.2.2.2.2.2) (q.resolve_left (by decide))⟩
          refine StepsOk.cons (i := 3) rfl (fun L x G w1 K Q hn hp hJ hK => ?_) ?_
          · skip
            have p0 : L 0 := hp ⟨0, .data⟩ (by simp) rfl
            have e0 := (hJ.2.2.2.2.2.2.2.2.2.2.2.2.2.2.2.2.2.2.2.1) p0
            have p2 : L 2 := hp ⟨2, .data⟩ (by simp) rfl
            have e2 := (hJ.2.2.2.2.2.2.2.2.2.2.2.2.2.2.2.2.2.2.2.2.2.1) p2
            simp only [putAll, Act.put, List.setIfInBounds_toArray, List.set_cons_zero, List.set_cons_succ]
            simp only [e0, e2]
            have own0 := (hJ.2.2.2.2.2.2.2.2.1) hn
            have src0 := rd1W ((hJ.2.2.2.2.2.1) p2 hn)
            have hBs := (hJ.1).size
            have hRl := (hJ.2.2.1).lt
            refine wp_append_Rd _ _ _ 67 rfl (w.heap.size + 1) 40 i0 _ 2 16 Try.underlying67 HI.out HZ0.out HZ1.out HZ2.out rfl (by decide) rfl own0 rfl src0 (one_wv _) (by omega) (by omega) (by omega) ?_
            intro A9 c9 w2 own9 hg hob
            refine Exists.elim (own9.pos (by omega)) fun g9 hp9 => ?_
            have e9 := hp9.1
            subst e9
            simp only [Act.put, List.setIfInBounds_toArray, List.set_cons_zero, List.set_cons_succ]
            refine hK _ (fun t => if t = 3 then g9 else if t = 13 then c9 else G t) _ (by kernel_rfl) ?_
            exact ⟨(hJ.1).trans (below_grown hg (fun g h => by have := own0.base h; omega) hBs),
              Nat.le_trans (hJ.2.1) hg.size,
              Blk.grown ((hJ.2.2.1)) hg nR1,
              Blk.grown ((hJ.2.2.2.1)) hg nPA1,
              Blk.grown ((hJ.2.2.2.2.1)) hg nPB1,
              fun _ n => absurd (.inl rfl) n,
              fun q n => Blk.grown ((hJ.2.2.2.2.2.2.1) (q.resolve_left (by decide)) (fun m => n (.inr m))) hg (fun z => by have := bA1 (G 6) z; have := (hJ.2.2.2.2.2.2.2.1) (q.resolve_left (by decide)); omega),
              fun q => (hJ.2.2.2.2.2.2.2.1) (q.resolve_left (by decide)),
              fun n => absurd (.inl rfl) n,
              fun _ => own_snW hF.out own9,
              fun n => Own.kept ((hJ.2.2.2.2.2.2.2.2.2.2.1) (fun m => n (.inr m))) hg s21,
              fun q => absurd ((hJ.2.2.2.2.2.2.2.2.2.2.2.2.2.2.1) (q.resolve_left (by decide))) hn,
              fun _ n => apart_grow ((hJ.2.2.2.2.2.2.2.2.2.2.1) (fun m => n (.inr m))) s12 s21 hob,
              fun q => absurd ((hJ.2.2.2.2.2.2.2.2.2.2.2.2.2.2.1) (q.resolve_left (by decide))) hn,
              fun _ => .inl rfl,
              fun q => ⟨.inr ((hJ.2.2.2.2.2.2.2.2.2.2.2.2.2.2.2.1) (q.resolve_left (by decide))).1, .inr ((hJ.2.2.2.2.2.2.2.2.2.2.2.2.2.2.2.1) (q.resolve_left (by decide))).2⟩,
              fun q => ⟨.inr ((hJ.2.2.2.2.2.2.2.2.2.2.2.2.2.2.2.2.1) (q.resolve_left (by decide))).1, .inr ((hJ.2.2.2.2.2.2.2.2.2.2.2.2.2.2.2.2.1) (q.resolve_left (by decide))).2⟩,
              fun n => (hJ.2.2.2.2.2.2.2.2.2.2.2.2.2.2.2.2.2.1) (fun m => n (.inr m)),
              fun n => (hJ.2.2.2.2.2.2.2.2.2.2.2.2.2.2.2.2.2.2.1) (fun m => n (.inr m)),
              fun _ => by first | exact rfl | exact e0,
              fun q => (hJ.2.2.2.2.2.2.2.2.2.2.2.2.2.2.2.2.2.2.2.2.1) (q.resolve_left (by decide)),
              fun _ => by first | exact rfl | exact e2,
              fun _ => rfl,
              fun q => (hJ.2.2.2.2.2.2.2.2.2.2.2.2.2.2.2.2.2.2.2.2.2.2.2.1) (q.resolve_left (by decide)),
              fun q => (hJ.2.2.2.2.2.2.2.2.2.2.2.2.2.2.2.2.2.2.2.2.2.2.2.2.1) (q.resolve_left (by decide)),
              fun q => (hJ.2.2.2.2.2.2.2.2.2.2.2.2.2.2.2.2.2.2.2.2.2.2.2.2.2.1) (q.resolve_left (by decide)),
              fun q => (hJ.2.2.2.2.2.2.2.2.2.2.2.2.2.2.2.2.2.2.2.2.2.2.2.2.2.2.1) (q.resolve_left (by decide)),
              fun q => absurd ((hJ.2.2.2.2.2.2.2.2.2.2.2.2.2.2.2.1) (q.resolve_left (by decide))).2 hn,
              fun q => (hJ.2.2.2.2.2.2.2.2.2.2.2.2.2.2.2.2.2.2.2.2.2.2.2.2.2.2.2.2) (q.resolve_left (by decide))⟩
          refine StepsOk.cons (i := 4) rfl (fun L x G w1 K Q hn hp hJ hK => ?_) ?_
          · skip
            have e70 := (hJ.2.2.2.2.2.2.2.2.2.2.2.2.2.2.2.2.2.2.1) (fun z => hn ((hJ.2.2.2.2.2.2.2.2.2.2.2.2.2.2.2.2.1) z).1)
            simp only [putAll, Act.put, List.setIfInBounds_toArray, List.set_cons_zero, List.set_cons_succ]
            go_simp
            refine hK _ G _ (by kernel_rfl) ?_
            exact ⟨(hJ.1),
              (hJ.2.1),
              (hJ.2.2.1),
              (hJ.2.2.2.1),
              (hJ.2.2.2.2.1),
              fun q n => (hJ.2.2.2.2.2.1) (q.resolve_left (by decide)) (fun m => n (.inr m)),
              fun q n => (hJ.2.2.2.2.2.2.1) (q.resolve_left (by decide)) (fun m => n (.inr m)),
              fun q => (hJ.2.2.2.2.2.2.2.1) (q.resolve_left (by decide)),
              fun n => (hJ.2.2.2.2.2.2.2.2.1) (fun m => n (.inr m)),
              fun q => (hJ.2.2.2.2.2.2.2.2.2.1) (q.resolve_left (by decide)),
              fun n => (hJ.2.2.2.2.2.2.2.2.2.2.1) (fun m => n (.inr m)),
              fun q => (hJ.2.2.2.2.2.2.2.2.2.2.2.1) (q.resolve_left (by decide)),
              fun q n => (hJ.2.2.2.2.2.2.2.2.2.2.2.2.1) (q.resolve_left (by decide)) (fun m => n (.inr m)),
              fun q => (hJ.2.2.2.2.2.2.2.2.2.2.2.2.2.1) (q.resolve_left (by decide)),
              fun q => .inr ((hJ.2.2.2.2.2.2.2.2.2.2.2.2.2.2.1) (q.resolve_left (by decide))),
              fun q => ⟨.inr ((hJ.2.2.2.2.2.2.2.2.2.2.2.2.2.2.2.1) (q.resolve_left (by decide))).1, .inr ((hJ.2.2.2.2.2.2.2.2.2.2.2.2.2.2.2.1) (q.resolve_left (by decide))).2⟩,
              fun q => ⟨.inr ((hJ.2.2.2.2.2.2.2.2.2.2.2.2.2.2.2.2.1) (q.resolve_left (by decide))).1, .inr ((hJ.2.2.2.2.2.2.2.2.2.2.2.2.2.2.2.2.1) (q.resolve_left (by decide))).2⟩,
              fun n => (hJ.2.2.2.2.2.2.2.2.2.2.2.2.2.2.2.2.2.1) (fun m => n (.inr m)),
              fun n => by first | exact rfl | exact e70,
              fun q => (hJ.2.2.2.2.2.2.2.2.2.2.2.2.2.2.2.2.2.2.2.1) (q.resolve_left (by decide)),
              fun q => (hJ.2.2.2.2.2.2.2.2.2.2.2.2.2.2.2.2.2.2.2.2.1) (q.resolve_left (by decide)),
              fun q => (hJ.2.2.2.2.2.2.2.2.2.2.2.2.2.2.2.2.2.2.2.2.2.1) (q.resolve_left (by decide)),
              fun q => (hJ.2.2.2.2.2.2.2.2.2.2.2.2.2.2.2.2.2.2.2.2.2.2.1) (q.resolve_left (by decide)),
              fun _ => rfl,
              fun q => (hJ.2.2.2.2.2.2.2.2.2.2.2.2.2.2.2.2.2.2.2.2.2.2.2.2.1) (q.resolve_left (by decide)),
              fun q => (hJ.2.2.2.2.2.2.2.2.2.2.2.2.2.2.2.2.2.2.2.2.2.2.2.2.2.1) (q.resolve_left (by decide)),
              fun q => (hJ.2.2.2.2.2.2.2.2.2.2.2.2.2.2.2.2.2.2.2.2.2.2.2.2.2.2.1) (q.resolve_left (by decide)),
              fun q => (hJ.2.2.2.2.2.2.2.2.2.2.2.2.2.2.2.2.2.2.2.2.2.2.2.2.2.2.2.1) (q.resolve_left (by decide)),
              fun q => absurd ((hJ.2.2.2.2.2.2.2.2.2.2.2.2.2.2.2.2.1) (q.resolve_left (by decide))).1 hn⟩
          refine StepsOk.cons (i := 5) rfl (fun L x G w1 K Q hn hp hJ hK => ?_) ?_
          · skip
            have hc := Blk.open2 (hJ.2.2.2.2.1)
            have c0_ := hc.1
            have c1_ := hc.2.1
            have c2_ := hc.2.2.1
            have c3_ := hc.2.2.2
            clear hc
            simp only [putAll, Act.put, List.setIfInBounds_toArray, List.set_cons_zero, List.set_cons_succ]
            go_simp
            refine hK _ G _ (by kernel_rfl) ?_
            exact ⟨(hJ.1),
              (hJ.2.1),
              (hJ.2.2.1),
              (hJ.2.2.2.1),
              (hJ.2.2.2.2.1),
              fun q n => (hJ.2.2.2.2.2.1) (q.resolve_left (by decide)) (fun m => n (.inr m)),
              fun q n => (hJ.2.2.2.2.2.2.1) (q.resolve_left (by decide)) (fun m => n (.inr m)),
              fun q => (hJ.2.2.2.2.2.2.2.1) (q.resolve_left (by decide)),
              fun n => (hJ.2.2.2.2.2.2.2.2.1) (fun m => n (.inr m)),
              fun q => (hJ.2.2.2.2.2.2.2.2.2.1) (q.resolve_left (by decide)),
              fun n => (hJ.2.2.2.2.2.2.2.2.2.2.1) (fun m => n (.inr m)),
              fun q => (hJ.2.2.2.2.2.2.2.2.2.2.2.1) (q.resolve_left (by decide)),
              fun q n => (hJ.2.2.2.2.2.2.2.2.2.2.2.2.1) (q.resolve_left (by decide)) (fun m => n (.inr m)),
              fun q => (hJ.2.2.2.2.2.2.2.2.2.2.2.2.2.1) (q.resolve_left (by decide)),
              fun q => .inr ((hJ.2.2.2.2.2.2.2.2.2.2.2.2.2.2.1) (q.resolve_left (by decide))),
              fun q => ⟨.inr ((hJ.2.2.2.2.2.2.2.2.2.2.2.2.2.2.2.1) (q.resolve_left (by decide))).1, .inr ((hJ.2.2.2.2.2.2.2.2.2.2.2.2.2.2.2.1) (q.resolve_left (by decide))).2⟩,
              fun q => ⟨.inr ((hJ.2.2.2.2.2.2.2.2.2.2.2.2.2.2.2.2.1) (q.resolve_left (by decide))).1, .inr ((hJ.2.2.2.2.2.2.2.2.2.2.2.2.2.2.2.2.1) (q.resolve_left (by decide))).2⟩,
              fun n => (hJ.2.2.2.2.2.2.2.2.2.2.2.2.2.2.2.2.2.1) (fun m => n (.inr m)),
              fun n => (hJ.2.2.2.2.2.2.2.2.2.2.2.2.2.2.2.2.2.2.1) (fun m => n (.inr m)),
              fun q => (hJ.2.2.2.2.2.2.2.2.2.2.2.2.2.2.2.2.2.2.2.1) (q.resolve_left (by decide)),
              fun q => (hJ.2.2.2.2.2.2.2.2.2.2.2.2.2.2.2.2.2.2.2.2.1) (q.resolve_left (by decide)),
              fun q => (hJ.2.2.2.2.2.2.2.2.2.2.2.2.2.2.2.2.2.2.2.2.2.1) (q.resolve_left (by decide)),
              fun q => (hJ.2.2.2.2.2.2.2.2.2.2.2.2.2.2.2.2.2.2.2.2.2.2.1) (q.resolve_left (by decide)),
              fun q => (hJ.2.2.2.2.2.2.2.2.2.2.2.2.2.2.2.2.2.2.2.2.2.2.2.1) (q.resolve_left (by decide)),
              fun _ => rfl,
              fun q => (hJ.2.2.2.2.2.2.2.2.2.2.2.2.2.2.2.2.2.2.2.2.2.2.2.2.2.1) (q.resolve_left (by decide)),
              fun q => (hJ.2.2.2.2.2.2.2.2.2.2.2.2.2.2.2.2.2.2.2.2.2.2.2.2.2.2.1) (q.resolve_left (by decide)),
              fun q => (hJ.2.2.2.2.2.2.2.2.2.2.2.2.2.2.2.2.2.2.2.2.2.2.2.2.2.2.2.1) (q.resolve_left (by decide)),
              fun q => (hJ.2.2.2.2.2.2.2.2.2.2.2.2.2.2.2.2.2.2.2.2.2.2.2.2.2.2.2.2) (q.resolve_left (by decide))⟩
          refine StepsOk.cons (i := 6) rfl (fun L x G w1 K Q hn hp hJ hK => ?_) ?_
          · skip
            have p5 : L 5 := hp ⟨5, .data⟩ (by simp) rfl
            have e5 := (hJ.2.2.2.2.2.2.2.2.2.2.2.2.2.2.2.2.2.2.2.2.2.2.2.2.1) p5
            simp only [putAll, Act.put, List.setIfInBounds_toArray, List.set_cons_zero, List.set_cons_succ]
            go_simp
            refine hK _ (fun t => if t = 6 then w1.heap.size else G t) _ (by kernel_rfl) ?_
            exact ⟨bal (hJ.1) _,
              Nat.le_trans (hJ.2.1) (by simp),
              Blk.alloc ((hJ.2.2.1)) _,
              Blk.alloc ((hJ.2.2.2.1)) _,
              Blk.alloc ((hJ.2.2.2.2.1)) _,
              fun q n => Blk.alloc ((hJ.2.2.2.2.2.1) (q.resolve_left (by decide)) (fun m => n (.inr m))) _,
              fun _ _ => Blk.new w1 _ _,
              fun _ => (hJ.2.1),
              fun n => Own.alloc ((hJ.2.2.2.2.2.2.2.2.1) (fun m => n (.inr m))) _,
              fun q => Own.alloc ((hJ.2.2.2.2.2.2.2.2.2.1) (q.resolve_left (by decide))) _,
              fun n => Own.alloc ((hJ.2.2.2.2.2.2.2.2.2.2.1) (fun m => n (.inr m))) _,
              fun q => Own.alloc ((hJ.2.2.2.2.2.2.2.2.2.2.2.1) (q.resolve_left (by decide))) _,
              fun q n => (hJ.2.2.2.2.2.2.2.2.2.2.2.2.1) (q.resolve_left (by decide)) (fun m => n (.inr m)),
              fun q => (hJ.2.2.2.2.2.2.2.2.2.2.2.2.2.1) (q.resolve_left (by decide)),
              fun q => .inr ((hJ.2.2.2.2.2.2.2.2.2.2.2.2.2.2.1) (q.resolve_left (by decide))),
              fun q => ⟨.inr ((hJ.2.2.2.2.2.2.2.2.2.2.2.2.2.2.2.1) (q.resolve_left (by decide))).1, .inr ((hJ.2.2.2.2.2.2.2.2.2.2.2.2.2.2.2.1) (q.resolve_left (by decide))).2⟩,
              fun q => ⟨.inr ((hJ.2.2.2.2.2.2.2.2.2.2.2.2.2.2.2.2.1) (q.resolve_left (by decide))).1, .inr ((hJ.2.2.2.2.2.2.2.2.2.2.2.2.2.2.2.2.1) (q.resolve_left (by decide))).2⟩,
              fun n => (hJ.2.2.2.2.2.2.2.2.2.2.2.2.2.2.2.2.2.1) (fun m => n (.inr m)),
              fun n => (hJ.2.2.2.2.2.2.2.2.2.2.2.2.2.2.2.2.2.2.1) (fun m => n (.inr m)),
              fun q => (hJ.2.2.2.2.2.2.2.2.2.2.2.2.2.2.2.2.2.2.2.1) (q.resolve_left (by decide)),
              fun q => (hJ.2.2.2.2.2.2.2.2.2.2.2.2.2.2.2.2.2.2.2.2.1) (q.resolve_left (by decide)),
              fun q => (hJ.2.2.2.2.2.2.2.2.2.2.2.2.2.2.2.2.2.2.2.2.2.1) (q.resolve_left (by decide)),
              fun q => (hJ.2.2.2.2.2.2.2.2.2.2.2.2.2.2.2.2.2.2.2.2.2.2.1) (q.resolve_left (by decide)),
              fun q => (hJ.2.2.2.2.2.2.2.2.2.2.2.2.2.2.2.2.2.2.2.2.2.2.2.1) (q.resolve_left (by decide)),
              fun _ => by first | exact rfl | exact e5,
              fun _ => rfl,
              fun q => (hJ.2.2.2.2.2.2.2.2.2.2.2.2.2.2.2.2.2.2.2.2.2.2.2.2.2.2.1) (q.resolve_left (by decide)),
              fun q => (hJ.2.2.2.2.2.2.2.2.2.2.2.2.2.2.2.2.2.2.2.2.2.2.2.2.2.2.2.1) (q.resolve_left (by decide)),
              fun q => (hJ.2.2.2.2.2.2.2.2.2.2.2.2.2.2.2.2.2.2.2.2.2.2.2.2.2.2.2.2) (q.resolve_left (by decide))⟩
          refine StepsOk.cons (i := 7) rfl (fun L x G w1 K Q hn hp hJ hK => ?_) ?_
          · skip
            have p4 : L 4 := hp ⟨4, .data⟩ (by simp) rfl
            have e4 := (hJ.2.2.2.2.2.2.2.2.2.2.2.2.2.2.2.2.2.2.2.2.2.2.2.1) p4
            have p6 : L 6 := hp ⟨6, .data⟩ (by simp) rfl
            have e6 := (hJ.2.2.2.2.2.2.2.2.2.2.2.2.2.2.2.2.2.2.2.2.2.2.2.2.2.1) p6
            have p3 : L 3 := hp ⟨3, .chain⟩ (by simp) rfl
            simp only [putAll, Act.put, List.setIfInBounds_toArray, List.set_cons_zero, List.set_cons_succ]
            simp only [e4, e6]
            have own0 := (hJ.2.2.2.2.2.2.2.2.2.2.1) hn
            have src0 := rd1W ((hJ.2.2.2.2.2.2.1) p6 hn)
            have hBs := (hJ.1).size
            have hRl := (hJ.2.2.1).lt
            refine wp_append_Rd _ _ _ 67 rfl (w.heap.size + 1) 40 i0 _ 2 16 Try.underlying67 HI.out HZ0.out HZ1.out HZ2.out rfl (by decide) rfl own0 rfl src0 (one_wv _) (by omega) (by omega) (by omega) ?_
            intro A9 c9 w2 own9 hg hob
            refine Exists.elim (own9.pos (by omega)) fun g9 hp9 => ?_
            have e9 := hp9.1
            subst e9
            simp only [Act.put, List.setIfInBounds_toArray, List.set_cons_zero, List.set_cons_succ]
            refine hK _ (fun t => if t = 7 then g9 else if t = 17 then c9 else G t) _ (by kernel_rfl) ?_
            exact ⟨(hJ.1).trans (below_grown hg (fun g h => by have := own0.base h; omega) hBs),
              Nat.le_trans (hJ.2.1) hg.size,
              Blk.grown ((hJ.2.2.1)) hg nR2,
              Blk.grown ((hJ.2.2.2.1)) hg nPA2,
              Blk.grown ((hJ.2.2.2.2.1)) hg nPB2,
              fun _ n => absurd (.inr p3) n,
              fun _ n => absurd (.inl rfl) n,
              fun q => (hJ.2.2.2.2.2.2.2.1) (q.resolve_left (by decide)),
              fun n => absurd (.inr p3) n,
              fun _ => Own.kept ((hJ.2.2.2.2.2.2.2.2.2.1) p3) hg ((hJ.2.2.2.2.2.2.2.2.2.2.2.2.1) p3 hn).1,
              fun n => absurd (.inl rfl) n,
              fun _ => own_snW hC.out own9,
              fun _ n => absurd (.inl rfl) n,
              fun _ => (fun r => And.intro r.2 r.1) (apart_grow ((hJ.2.2.2.2.2.2.2.2.2.1) p3) ((hJ.2.2.2.2.2.2.2.2.2.2.2.2.1) p3 hn).2 ((hJ.2.2.2.2.2.2.2.2.2.2.2.2.1) p3 hn).1 hob),
              fun _ => .inr p3,
              fun q => ⟨.inr ((hJ.2.2.2.2.2.2.2.2.2.2.2.2.2.2.2.1) (q.resolve_left (by decide))).1, .inr ((hJ.2.2.2.2.2.2.2.2.2.2.2.2.2.2.2.1) (q.resolve_left (by decide))).2⟩,
              fun q => ⟨.inr ((hJ.2.2.2.2.2.2.2.2.2.2.2.2.2.2.2.2.1) (q.resolve_left (by decide))).1, .inr ((hJ.2.2.2.2.2.2.2.2.2.2.2.2.2.2.2.2.1) (q.resolve_left (by decide))).2⟩,
              fun n => (hJ.2.2.2.2.2.2.2.2.2.2.2.2.2.2.2.2.2.1) (fun m => n (.inr m)),
              fun n => (hJ.2.2.2.2.2.2.2.2.2.2.2.2.2.2.2.2.2.2.1) (fun m => n (.inr m)),
              fun q => (hJ.2.2.2.2.2.2.2.2.2.2.2.2.2.2.2.2.2.2.2.1) (q.resolve_left (by decide)),
              fun q => (hJ.2.2.2.2.2.2.2.2.2.2.2.2.2.2.2.2.2.2.2.2.1) (q.resolve_left (by decide)),
              fun q => (hJ.2.2.2.2.2.2.2.2.2.2.2.2.2.2.2.2.2.2.2.2.2.1) (q.resolve_left (by decide)),
              fun q => (hJ.2.2.2.2.2.2.2.2.2.2.2.2.2.2.2.2.2.2.2.2.2.2.1) (q.resolve_left (by decide)),
              fun _ => by first | exact rfl | exact e4,
              fun q => (hJ.2.2.2.2.2.2.2.2.2.2.2.2.2.2.2.2.2.2.2.2.2.2.2.2.1) (q.resolve_left (by decide)),
              fun _ => by first | exact rfl | exact e6,
              fun _ => rfl,
              fun q => (hJ.2.2.2.2.2.2.2.2.2.2.2.2.2.2.2.2.2.2.2.2.2.2.2.2.2.2.2.1) (q.resolve_left (by decide)),
              fun q => absurd ((hJ.2.2.2.2.2.2.2.2.2.2.2.2.2.2.2.2.1) (q.resolve_left (by decide))).2 hn⟩
          refine StepsOk.cons (i := 8) rfl (fun L x G w1 K Q hn hp hJ hK => ?_) ?_
          · skip
            have p3 : L 3 := hp ⟨3, .data⟩ (by simp) rfl
            have e3 := (hJ.2.2.2.2.2.2.2.2.2.2.2.2.2.2.2.2.2.2.2.2.2.2.1) p3
            simp only [putAll, Act.put, List.setIfInBounds_toArray, List.set_cons_zero, List.set_cons_succ]
            go_simp
            refine hK _ G _ (by kernel_rfl) ?_
            exact ⟨(hJ.1),
              (hJ.2.1),
              (hJ.2.2.1),
              (hJ.2.2.2.1),
              (hJ.2.2.2.2.1),
              fun q n => (hJ.2.2.2.2.2.1) (q.resolve_left (by decide)) (fun m => n (.inr m)),
              fun q n => (hJ.2.2.2.2.2.2.1) (q.resolve_left (by decide)) (fun m => n (.inr m)),
              fun q => (hJ.2.2.2.2.2.2.2.1) (q.resolve_left (by decide)),
              fun n => (hJ.2.2.2.2.2.2.2.2.1) (fun m => n (.inr m)),
              fun q => (hJ.2.2.2.2.2.2.2.2.2.1) (q.resolve_left (by decide)),
              fun n => (hJ.2.2.2.2.2.2.2.2.2.2.1) (fun m => n (.inr m)),
              fun q => (hJ.2.2.2.2.2.2.2.2.2.2.2.1) (q.resolve_left (by decide)),
              fun q n => (hJ.2.2.2.2.2.2.2.2.2.2.2.2.1) (q.resolve_left (by decide)) (fun m => n (.inr m)),
              fun q => (hJ.2.2.2.2.2.2.2.2.2.2.2.2.2.1) (q.resolve_left (by decide)),
              fun q => .inr ((hJ.2.2.2.2.2.2.2.2.2.2.2.2.2.2.1) (q.resolve_left (by decide))),
              fun _ => ⟨.inr (hp ⟨0, .phase⟩ (by simp) rfl), .inr p3⟩,
              fun q => ⟨.inr ((hJ.2.2.2.2.2.2.2.2.2.2.2.2.2.2.2.2.1) (q.resolve_left (by decide))).1, .inr ((hJ.2.2.2.2.2.2.2.2.2.2.2.2.2.2.2.2.1) (q.resolve_left (by decide))).2⟩,
              fun n => absurd (.inl rfl) n,
              fun n => (hJ.2.2.2.2.2.2.2.2.2.2.2.2.2.2.2.2.2.2.1) (fun m => n (.inr m)),
              fun q => (hJ.2.2.2.2.2.2.2.2.2.2.2.2.2.2.2.2.2.2.2.1) (q.resolve_left (by decide)),
              fun q => (hJ.2.2.2.2.2.2.2.2.2.2.2.2.2.2.2.2.2.2.2.2.1) (q.resolve_left (by decide)),
              fun q => (hJ.2.2.2.2.2.2.2.2.2.2.2.2.2.2.2.2.2.2.2.2.2.1) (q.resolve_left (by decide)),
              fun _ => by first | exact rfl | exact e3,
              fun q => (hJ.2.2.2.2.2.2.2.2.2.2.2.2.2.2.2.2.2.2.2.2.2.2.2.1) (q.resolve_left (by decide)),
              fun q => (hJ.2.2.2.2.2.2.2.2.2.2.2.2.2.2.2.2.2.2.2.2.2.2.2.2.1) (q.resolve_left (by decide)),
              fun q => (hJ.2.2.2.2.2.2.2.2.2.2.2.2.2.2.2.2.2.2.2.2.2.2.2.2.2.1) (q.resolve_left (by decide)),
              fun q => (hJ.2.2.2.2.2.2.2.2.2.2.2.2.2.2.2.2.2.2.2.2.2.2.2.2.2.2.1) (q.resolve_left (by decide)),
              fun _ => rfl,
              fun q => (hJ.2.2.2.2.2.2.2.2.2.2.2.2.2.2.2.2.2.2.2.2.2.2.2.2.2.2.2.2) (q.resolve_left (by decide))⟩
          refine StepsOk.cons (i := 9) rfl (fun L x G w1 K Q hn hp hJ hK => ?_) ?_
          · skip
            have p7 : L 7 := hp ⟨7, .data⟩ (by simp) rfl
            have e7 := (hJ.2.2.2.2.2.2.2.2.2.2.2.2.2.2.2.2.2.2.2.2.2.2.2.2.2.2.1) p7
            simp only [putAll, Act.put, List.setIfInBounds_toArray, List.set_cons_zero, List.set_cons_succ]
            go_simp
            refine hK _ G _ (by kernel_rfl) ?_
            exact ⟨(hJ.1),
              (hJ.2.1),
              (hJ.2.2.1),
              (hJ.2.2.2.1),
              (hJ.2.2.2.2.1),
              fun q n => (hJ.2.2.2.2.2.1) (q.resolve_left (by decide)) (fun m => n (.inr m)),
              fun q n => (hJ.2.2.2.2.2.2.1) (q.resolve_left (by decide)) (fun m => n (.inr m)),
              fun q => (hJ.2.2.2.2.2.2.2.1) (q.resolve_left (by decide)),
              fun n => (hJ.2.2.2.2.2.2.2.2.1) (fun m => n (.inr m)),
              fun q => (hJ.2.2.2.2.2.2.2.2.2.1) (q.resolve_left (by decide)),
              fun n => (hJ.2.2.2.2.2.2.2.2.2.2.1) (fun m => n (.inr m)),
              fun q => (hJ.2.2.2.2.2.2.2.2.2.2.2.1) (q.resolve_left (by decide)),
              fun q n => (hJ.2.2.2.2.2.2.2.2.2.2.2.2.1) (q.resolve_left (by decide)) (fun m => n (.inr m)),
              fun q => (hJ.2.2.2.2.2.2.2.2.2.2.2.2.2.1) (q.resolve_left (by decide)),
              fun q => .inr ((hJ.2.2.2.2.2.2.2.2.2.2.2.2.2.2.1) (q.resolve_left (by decide))),
              fun q => ⟨.inr ((hJ.2.2.2.2.2.2.2.2.2.2.2.2.2.2.2.1) (q.resolve_left (by decide))).1, .inr ((hJ.2.2.2.2.2.2.2.2.2.2.2.2.2.2.2.1) (q.resolve_left (by decide))).2⟩,
              fun _ => ⟨.inr (hp ⟨4, .phase⟩ (by simp) rfl), .inr p7⟩,
              fun n => (hJ.2.2.2.2.2.2.2.2.2.2.2.2.2.2.2.2.2.1) (fun m => n (.inr m)),
              fun n => absurd (.inl rfl) n,
              fun q => (hJ.2.2.2.2.2.2.2.2.2.2.2.2.2.2.2.2.2.2.2.1) (q.resolve_left (by decide)),
              fun q => (hJ.2.2.2.2.2.2.2.2.2.2.2.2.2.2.2.2.2.2.2.2.1) (q.resolve_left (by decide)),
              fun q => (hJ.2.2.2.2.2.2.2.2.2.2.2.2.2.2.2.2.2.2.2.2.2.1) (q.resolve_left (by decide)),
              fun q => (hJ.2.2.2.2.2.2.2.2.2.2.2.2.2.2.2.2.2.2.2.2.2.2.1) (q.resolve_left (by decide)),
              fun q => (hJ.2.2.2.2.2.2.2.2.2.2.2.2.2.2.2.2.2.2.2.2.2.2.2.1) (q.resolve_left (by decide)),
              fun q => (hJ.2.2.2.2.2.2.2.2.2.2.2.2.2.2.2.2.2.2.2.2.2.2.2.2.1) (q.resolve_left (by decide)),
              fun q => (hJ.2.2.2.2.2.2.2.2.2.2.2.2.2.2.2.2.2.2.2.2.2.2.2.2.2.1) (q.resolve_left (by decide)),
              fun _ => by first | exact rfl | exact e7,
              fun q => (hJ.2.2.2.2.2.2.2.2.2.2.2.2.2.2.2.2.2.2.2.2.2.2.2.2.2.2.2.1) (q.resolve_left (by decide)),
              fun _ => rfl⟩
          exact StepsOk.nil
        case fin =>
          intro L x G wf hall hJ
          replace R := hJ.2.2.1
          replace hB := hJ.1
          have q1 := hJ.2.2.2.2.2.2.2.2.2.1 (hall 3 (by decide))
          have q2 := hJ.2.2.2.2.2.2.2.2.2.2.2.1 (hall 7 (by decide))
          have q3 := hJ.2.2.2.2.2.2.2.2.2.2.2.2.2.1 (hall 7 (by decide))
          have y0 := hJ.2.2.2.2.2.2.2.2.2.2.2.2.2.2.2.2.2.2.2.1 (hall 0 (by decide))
          have y1 := hJ.2.2.2.2.2.2.2.2.2.2.2.2.2.2.2.2.2.2.2.2.1 (hall 1 (by decide))
          have y2 := hJ.2.2.2.2.2.2.2.2.2.2.2.2.2.2.2.2.2.2.2.2.2.1 (hall 2 (by decide))
          have y3 := hJ.2.2.2.2.2.2.2.2.2.2.2.2.2.2.2.2.2.2.2.2.2.2.1 (hall 3 (by decide))
          have y4 := hJ.2.2.2.2.2.2.2.2.2.2.2.2.2.2.2.2.2.2.2.2.2.2.2.1 (hall 4 (by decide))
          have y5 := hJ.2.2.2.2.2.2.2.2.2.2.2.2.2.2.2.2.2.2.2.2.2.2.2.2.1 (hall 5 (by decide))
          have y6 := hJ.2.2.2.2.2.2.2.2.2.2.2.2.2.2.2.2.2.2.2.2.2.2.2.2.2.1 (hall 6 (by decide))
          have y7 := hJ.2.2.2.2.2.2.2.2.2.2.2.2.2.2.2.2.2.2.2.2.2.2.2.2.2.2.1 (hall 7 (by decide))
          have y8 := hJ.2.2.2.2.2.2.2.2.2.2.2.2.2.2.2.2.2.2.2.2.2.2.2.2.2.2.2.1 (hall 8 (by decide))
          have y9 := hJ.2.2.2.2.2.2.2.2.2.2.2.2.2.2.2.2.2.2.2.2.2.2.2.2.2.2.2.2 (hall 9 (by decide))
          simp only [putAll, Act.put, List.setIfInBounds_toArray, List.set_cons_zero, List.set_cons_succ]
          simp only [y0, y1, y2, y3, y4, y5, y6, y7, y8, y9]
          clear hall hJ y0 y1 y2 y3 y4 y5 y6 y7 y8 y9
          go_wp2_with fail
          go_roundw
          case rel => exact ⟨k + 1, some ⟨G 3, 0, none⟩, G 13, some ⟨G 7, 0, none⟩, G 17, by omega, by go_num, rfl, rfl, q1, q2, q3.1, q3.2, R, hB⟩
          case measure => simp [intOf]; omega
end Go.Proofs.Ytclohghongpfkaa
