/-
  The walk of ConstraintMirror.
-/
import Derived.Test.YtgfmheaijdcgoaaW18
namespace Go.Proofs.Ytgfmheaijdcgoaa
set_option linter.unusedVariables false
set_option linter.unusedSimpArgs false
open Go.RowKit

theorem infoS : (Try.prog.info? 50).map (fun i => (i.zero, i.size, i.bytes)) = some (some (.agg #[.int .i64 0, .int .i64 0]), 2, 16) := by kernel_rfl
theorem mk_steps (n : Nat) (hn : n ≤ 8796093022207) : ∀ W : World, (Instr.makeSlice 23 (.int .i64 (n : Int)) (.int .i64 (n : Int))).run Try.prog W = .ok (.slice (some ⟨W.heap.size, 0, none⟩) n n) (W.alloc (.cells (madeCells #[.int .i64 0, .int .i64 0] (n * 2)) 50)) := by
  obtain ⟨i0, hi, hz0, hz1, hz2⟩ := info_parts infoS
  exact fun W => run_make_n (P := Try.prog) Try.underlying23 hi hz0 hz1 hz2 n (by omega) (by omega) W
theorem own_steps (w : World) (base n : Nat) (hn : n ≤ 8796093022207) (hb : base ≤ w.heap.size) : Own (w.alloc (.cells (madeCells #[.int .i64 0, .int .i64 0] (n * 2)) 50)) base 50 2 (some ⟨w.heap.size, 0, none⟩) n n (iv fun _ _ => 0) :=
  Own.made (z := #[.int .i64 0, .int .i64 0]) (q := 2) (V := iv fun _ _ => 0) w 50 n rfl (by omega) (by omega) hb fun i j hi hj => by
    match j, hj with
    | 0, _ => rfl
    | 1, _ => rfl
/-- The mirrored rows as far as they are laid. -/
def mrK (n k : Nat) (M : Nat → Nat → Int) : Nat → Nat → Int := fun a f => if n - k ≤ a then M a f else 0
theorem mrK_step {n k : Nat} {M : Nat → Nat → Int} (hk : k < n) (a f : Nat) (hf : f < 2) : Co.setW (mrK n k M) (n - 1 - k) (M (n - 1 - k) 0) (M (n - 1 - k) 1) a f = mrK n (k + 1) M a f := by
  unfold Co.setW mrK
  by_cases e : a = n - 1 - k
  · subst e
    rw [if_pos rfl, if_pos (show n - (k + 1) ≤ n - 1 - k by omega)]
    match f, hf with
    | 0, _ => rfl
    | 1, _ => rfl
  · simp only [if_neg e, show (n - k ≤ a) = (n - (k + 1) ≤ a) from propext (by omega)]

set_option maxRecDepth 100000 in
set_option maxHeartbeats 4000000 in
theorem law_mirror (A B : Option Addr) (n c m d : Nat) (N S : Nat → Nat → Int) (w : World) (R : Rd w 2 A n c (iv N)) (T : Rd w 2 B m d (iv S)) (hn : n ≤ 8796093022207) (hm : m ≤ 8796093022207) :
    Calls Try.prog 9 #[.slice A n c, .slice B m d] w fun e w' => e = .returned (.bool true) ∧ Below w.heap.size w w' := by
  have hmk := mk_wins n hn
  go_enter Try.func9, Try.ntmps9
  go_wp2_with fail
  refine (awake_c _).mono ?_
  rintro e w1 ⟨rfl, h1⟩
  go_wp2
  have own := own_wins w1 w1.heap.size n hn (Nat.le_refl _)
  have hgw : w.heap.size ≤ w1.heap.size := h1.size
  replace h1 := bal h1 (.cells (madeCells #[.int .i64 0, .int .i64 0] (n * 2)) 44)
  replace own := own.more hgw
  generalize World.alloc w1 _ = w2 at own h1 ⊢
  generalize hg : w1.heap.size = g at own hgw ⊢
  clear hg hmk
  go_loopw [25] (fun q wr => ∃ k : Nat, k ≤ n ∧ q = .int .i64 k ∧ Own wr w.heap.size 44 2 (some ⟨g, 0, none⟩) n n (iv (mrK n k (Co.mrN n N))) ∧ Below w.heap.size w wr) (fun q _ => n - (intOf q).toNat)
  case atStart => exact ⟨0, Nat.zero_le _, rfl, own.congr (fun a f ha _ => by unfold iv mrK; rw [if_neg (by omega)]), h1⟩
  case round =>
    clear own h1
    obtain ⟨k, hk, rfl, own, hB⟩ := hrel
    by_cases hlt : k < n
    · obtain ⟨b, off, eA, hbl, v0, v1⟩ := (R.keep hB).at2 hlt
      have HA := Lib.hid eA
      rw [HA.out]
      clear eA
      obtain ⟨r, hr⟩ : ∃ r, n - 1 - k = r := ⟨_, rfl⟩
      have hrn : r < n := by omega
      have hri : (n : Int) - 1 - k = (r : Int) := by omega
      have hgl : g < wr.heap.size := by obtain ⟨g', e, _, hl⟩ := own.pos (by omega); simp at e; omega
      obtain ⟨y0, y1, y2⟩ := own.two hrn
      have own2 := (own.set2 hrn (N k 0) (N k 1)).congr (V' := iv (mrK n (k + 1) (Co.mrN n N))) (fun a f _ hf => by
        unfold iv; rw [← mrK_step hlt a f hf, hr]; unfold Co.mrN; rw [show n - 1 - r = k from by omega])
      have OWN2 := Lib.hid own2
      clear own2
      have HR := Lib.hid hr
      clear hr
      go_wp2
      go_roundw
      case rel => exact ⟨k + 1, by omega, by go_num, by first | exact OWN2.out.alloc _ | exact OWN2.out, by first | exact bal (bst (bst hB hgw _) hgw _) _ | exact bst (bst (bal hB _) hgw _) hgw _⟩
      case measure => simp [intOf]; omega
    · have ek : (k : Int) = (n : Int) := by omega
      rw [ek]
      obtain rfl : k = n := by omega
      clear ek
      have P1 := (own.congr (V' := iv (Co.mrN k N)) (fun a f _ _ => by unfold iv mrK; rw [if_pos (by omega)])).rd
      clear own
      have hmk := mk_steps m hm
      go_wp2
      have own := own_steps wr wr.heap.size m hm (Nat.le_refl _)
      have hb := ba wr (.cells (madeCells #[.int .i64 0, .int .i64 0] (m * 2)) 50)
      generalize World.alloc wr _ = w3 at own hb ⊢
      generalize hwA : wr = wA at P1 hB hb own ⊢
      clear hwA hmk
      go_loopw [43] (fun q wr => ∃ j : Nat, j ≤ m ∧ q = .int .i64 j ∧ Own wr wA.heap.size 50 2 (some ⟨wA.heap.size, 0, none⟩) m m (iv (mrK m j (Co.mrS m S))) ∧ Below wA.heap.size wA wr) (fun q _ => m - (intOf q).toNat)
      case atStart => exact ⟨0, Nat.zero_le _, rfl, own.congr (fun a f ha _ => by unfold iv mrK; rw [if_neg (by omega)]), hb⟩
      case round =>
        clear own hb
        obtain ⟨j, hj, rfl, own, hb⟩ := hrel
        by_cases hlj : j < m
        · obtain ⟨b, off, eA, hbl, v0, v1⟩ := (T.keep (bt hB hb)).at2 hlj
          have HA := Lib.hid eA
          rw [HA.out]
          clear eA
          obtain ⟨r, hr⟩ : ∃ r, m - 1 - j = r := ⟨_, rfl⟩
          have hrn : r < m := by omega
          have hri : (m : Int) - 1 - j = (r : Int) := by omega
          have hgl : wA.heap.size < wr.heap.size := by obtain ⟨g', e, _, hl⟩ := own.pos (by omega); simp at e; omega
          obtain ⟨y0, y1, y2⟩ := own.two hrn
          have own2 := (own.set2 hrn (S j 1) (S j 0)).congr (V' := iv (mrK m (j + 1) (Co.mrS m S))) (fun a f _ hf => by
            unfold iv; rw [← mrK_step hlj a f hf, hr]; unfold Co.mrS; rw [show m - 1 - r = j from by omega]; simp)
          have OWN2 := Lib.hid own2
          clear own2
          have HR := Lib.hid hr
          clear hr
          go_wp2
          go_roundw
          case rel => exact ⟨j + 1, by omega, by go_num, by first | exact OWN2.out.alloc _ | exact OWN2.out, by first | exact bal (bst (bst hb (Nat.le_refl _) _) (Nat.le_refl _) _) _ | exact bst (bst (bal hb _) (Nat.le_refl _) _) (Nat.le_refl _) _⟩
          case measure => simp [intOf]; omega
        · have ek : (j : Int) = (m : Int) := by omega
          rw [ek]
          obtain rfl : j = m := by omega
          clear ek
          have P2 := (own.congr (V' := iv (Co.mrS j S)) (fun a f _ _ => by unfold iv mrK; rw [if_pos (by omega)])).rd
          replace P1 := P1.keep hb
          replace hB := bt hB hb
          clear own hb
          have M1 := Lib.hid (Co.mr_tgE k N j S)
          have M2 := Lib.hid (show Co.tgL k (Co.mrN k N) j (Co.mrS j S) = Co.tgL k N j S by unfold Co.tgL; rw [Co.mr_tgE])
          go_wp2_with fail
          refine (tighten_c _ _ _ _ _ _ _ _ _ (R.keep hB) (T.keep hB)).mono ?_
          rintro e w4 ⟨A1, c1, rfl, o1, h4⟩
          replace P1 := P1.keep h4
          replace P2 := P2.keep h4
          replace hB := bt hB h4
          clear h4
          go_wp2_with fail
          refine (tighten_c _ _ _ _ _ _ _ _ _ P1 P2).mono ?_
          rintro e w5 ⟨A2, c2, rfl, o2, h5⟩
          replace o1 := o1.keep h5
          replace hB := bt hB h5
          clear h5 P1 P2
          rw [M1.out, M2.out]
          rw [M2.out] at o2
          have Q1 := o1.rd
          have Q2 := o2.rd
          clear o1 o2
          have hfin : ∀ x, x < Co.tgL k N j S → Co.tt k (Co.mrN k N) (Co.mrS j S) (Co.tgL k N j S - 1 - x) 0 = Co.tt k N S x 0 ∧ Co.tt k (Co.mrN k N) (Co.mrS j S) (Co.tgL k N j S - 1 - x) 1 = Co.tt k N S x 1 := by
            intro x hx
            have h0 : Co.tgE k N j S = 0 := by
              unfold Co.tgL at hx
              split at hx
              · assumption
              · omega
            have hL : Co.tgL k N j S = k := if_pos h0
            have hck : Co.ck k N j S = 0 := by unfold Co.tgE at h0; split at h0 <;> omega
            have O := Co.ck_ok.1 hck
            rw [hL] at hx ⊢
            have hjm := O.hm
            subst hjm
            unfold Co.tt
            simp only [if_true, if_neg (show ¬ (1 : Nat) = 0 by omega)]
            exact ⟨Co.mr_tlo O.pos hx, Co.mr_thi O.pos hx⟩
          have HF := Lib.hid hfin
          have hL64 : Co.tgL k N j S ≤ 64 := by
            unfold Co.tgL
            split
            · rename_i h0
              have hck : Co.ck k N j S = 0 := by unfold Co.tgE at h0; split at h0 <;> omega
              exact (Co.ck_ok.1 hck).hn
            · omega
          clear hfin
          generalize Co.tgL k N j S = L at Q1 Q2 HF hL64 ⊢
          go_wp2
          go_loopw [85] (fun q wr => ∃ x : Nat, x ≤ L ∧ q = .int .i64 x ∧ Below w5.heap.size w5 wr) (fun q _ => L - (intOf q).toNat)
          case atStart => exact ⟨0, Nat.zero_le _, rfl, Below.refl _ _⟩
          case round =>
            obtain ⟨x, hx, rfl, hb⟩ := hrel
            by_cases hlx : x < L
            · obtain ⟨r, hr⟩ : ∃ r, L - 1 - x = r := ⟨_, rfl⟩
              have hrn : r < L := by omega
              have hri : (L : Int) - 1 - x = (r : Int) := by omega
              have hf := HF.out x hlx
              rw [hr] at hf
              clear hr
              obtain ⟨b, off, eA, hbl, u0, u1⟩ := (Q1.keep hb).at2 hlx
              obtain ⟨b2, off2, eB, hbl2, v0, v1⟩ := (Q2.keep hb).at2 hrn
              rw [hf.1] at v0
              rw [hf.2] at v1
              have HA := Lib.hid eA
              have HB := Lib.hid eB
              rw [HA.out, HB.out]
              clear eA eB hf
              generalize Co.tt k N S x 0 = p at u0 v0
              generalize Co.tt k N S x 1 = q at u1 v1
              have i1 : (0 : Int) ≤ (x : Int) := by omega
              have i2 : (x : Int) < (L : Int) := by omega
              have i3 : (0 : Int) ≤ (r : Int) := by omega
              have i4 : (r : Int) < (L : Int) := by omega
              have q1 : IntKind.i64.wrap ((L : Int) - 1) = (L : Int) - 1 := IntWalk.i64_in _ (by omega)
              have q2 : IntKind.i64.wrap (r : Int) = (r : Int) := IntWalk.i64_in _ (by omega)
              go_wp2
              go_quiet (fail)
              go_wp2
              go_roundw
              case rel => exact ⟨x + 1, by omega, by go_num, bdnl hb _⟩
              case measure => simp [intOf]; omega
            · obtain rfl : x = L := by omega
              go_wp2
              go_returns
              exact ⟨rfl, bt hB hb⟩
end Go.Proofs.Ytgfmheaijdcgoaa
