/-
  Contracts: the reference's Parse.
-/
import Derived.Test.YtnkgoojjnikaeaaW9
import Derived.Test.YtnkgoojjnikaeaaW20
namespace Go.Proofs.Ytnkgoojjnikaeaa
set_option linter.unusedVariables false
set_option linter.unusedSimpArgs false
open Go.RowKit Go.PlainAid

/-- Out of range so far, out of range in the end. -/
theorem tn_out {t : ByteArray} {n : Bool} (h : Wi.digs (PlainAid.bt t) t.size) {k : Nat} (hk : k ≤ t.size) {x : Int} (h0 : 0 ≤ x) (hx : x ≤ Wi.nm (PlainAid.bt t) k) (hb : ¬ Wi.inW (Wi.sg x n)) : ¬ Wi.inW (Wi.tN t n) := by
  have a := Wi.nm_le h hk
  intro q
  apply hb
  unfold Wi.tN Wi.inW at *
  cases n <;> simp only [Wi.sg_t, Wi.sg_f] at * <;> omega
theorem sg_mul (x : Int) (n : Bool) : Wi.sg x n * 10 = Wi.sg (10 * x) n := by cases n <;> simp only [Wi.sg_t, Wi.sg_f] <;> omega
theorem tn_39 {t : ByteArray} {n : Bool} (h : Wi.tF t n) (hs : 39 < t.size) : ¬ Wi.inW (Wi.tN t n) := by
  have a := Wi.nm_40 h.2.2 (fun q => by have := (h.2.1 q).1; omega) hs
  unfold Wi.tN Wi.inW
  cases n <;> simp only [Wi.sg_t, Wi.sg_f] <;> omega
set_option maxRecDepth 100000 in
set_option maxHeartbeats 3000000 in
theorem rparse_c (s : ByteArray) (w : World) (hs : s.size ≤ 9223372036854775807) : Calls Try.prog 27 #[.string s] w fun e w' =>
    e = .returned (.tuple #[.agg #[.int .i64 (Wi.Hq (Wi.pV s)), .int .u64 (Wi.Lr (Wi.pV s))], .int .i64 (Wi.pE s)]) ∧ Below w.heap.size w w' := by
  have hsz := Wi.ptx_size s
  unfold Wi.pE Wi.pV
  generalize het : Wi.ptx s = t at *
  generalize hen : Wi.png s = ng
  have ET := Lib.hid het
  have EN := Lib.hid hen
  clear het hen
  have hb := get_bt s
  go_enter Try.func27, Try.ntmps27
  go_upto_region 1 with fail
  go_cut [4] (fun v4 wx => v4 = .bool ng ∧ w.alloc (.cells #[.int .i64 0, .int .u64 0] 24) = wx)
  case first =>
    by_cases h0 : 0 < s.size
    · by_cases h1 : PlainAid.bt s 0 = 45
      · have HP := Lib.hid (show ng = true from EN.out.symm.trans (decide_eq_true ⟨h0, h1⟩))
        have h2 : (PlainAid.bt s 0 == 45) = true := by simp [h1]
        clear h1
        go_wp2_with fail
        go_meet
        exact ⟨by rw [HP.out], rfl⟩
      · have HP := Lib.hid (show ng = false from EN.out.symm.trans (decide_eq_false (fun q => h1 q.2)))
        have h2 : (PlainAid.bt s 0 == 45) = false := by simp [h1]
        clear h1
        go_wp2_with fail
        go_meet
        exact ⟨by rw [HP.out], rfl⟩
    · have HP := Lib.hid (show ng = false from EN.out.symm.trans (decide_eq_false (fun q => h0 q.1)))
      go_wp2_with fail
      go_meet
      exact ⟨by rw [HP.out], rfl⟩
  obtain ⟨rfl, rfl⟩ := hcut
  go_upto_if 20 with fail
  go_cut [5] (fun v5 wx => v5 = .string t ∧ w.alloc (.cells #[.int .i64 0, .int .u64 0] 24) = wx)
  case first =>
    cases ng with
    | false =>
      have HT := Lib.hid (show t = s from ET.out.symm.trans (if_neg (by rw [EN.out]; decide)))
      go_wp2_with fail
      go_meet
      exact ⟨by rw [HT.out], rfl⟩
    | true =>
      have HT := Lib.hid (show t = s.extract 1 s.size from ET.out.symm.trans (if_pos EN.out))
      have h0 : 0 < s.size := (of_decide_eq_true EN.out).1
      go_wp2_with fail
      go_meet
      exact ⟨by rw [HT.out], rfl⟩
  obtain ⟨rfl, rfl⟩ := hcut
  clear hb
  have ht2 : t.size ≤ 9223372036854775807 := by omega
  have hb := get_bt t
  clear hsz hs
  go_upto_region 5 with fail
  go_cut [38] (fun v38 wx => v38 = .bool (hdb t ng) ∧ w.alloc (.cells #[.int .i64 0, .int .u64 0] 24) = wx)
  case first =>
    by_cases h0 : t.size = 0
    · have HP := Lib.hid (show hdb t ng = true from decide_eq_true (Or.inl h0))
      have h1 := em_yes h0
      have h00 : ((t.size : Int) == 0) = true := by simp [h0]
      clear h0
      go_wp2_with fail
      go_meet
      exact ⟨by rw [HP.out], rfl⟩
    · have h1 := em_no (t := t) (by omega)
      have h00 : ((t.size : Int) == 0) = false := beq_eq_false_iff_ne.2 (by omega)
      have h2 : 0 < t.size := by omega
      by_cases h3 : PlainAid.bt t 0 = 48
      · have h4 : (PlainAid.bt t 0 == 48) = true := by simp [h3]
        cases ng with
        | true =>
          have HP := Lib.hid (show hdb t true = true from decide_eq_true (Or.inr ⟨h3, Or.inr rfl⟩))
          clear h3 h0
          go_wp2_with fail
          go_meet
          exact ⟨by first | (rw [HP.out]; done) | (rw [HP.out]; exact congrArg Value.bool (decide_eq_true (by omega))) | (rw [HP.out]; exact congrArg Value.bool (decide_eq_false (by omega))), rfl⟩
        | false =>
          by_cases h5 : 1 < t.size
          · have HP := Lib.hid (show hdb t false = true from decide_eq_true (Or.inr ⟨h3, Or.inl h5⟩))
            clear h3 h0
            go_wp2_with fail
            go_meet
            exact ⟨by first | (rw [HP.out]; done) | (rw [HP.out]; exact congrArg Value.bool (decide_eq_true (by omega))) | (rw [HP.out]; exact congrArg Value.bool (decide_eq_false (by omega))), rfl⟩
          · have HP := Lib.hid (show hdb t false = false from decide_eq_false (fun q => by rcases q with q | ⟨_, q | q⟩ <;> first | omega | cases q))
            clear h3 h0
            go_wp2_with fail
            go_meet
            exact ⟨by first | (rw [HP.out]; done) | (rw [HP.out]; exact congrArg Value.bool (decide_eq_true (by omega))) | (rw [HP.out]; exact congrArg Value.bool (decide_eq_false (by omega))), rfl⟩
      · have h4 : (PlainAid.bt t 0 == 48) = false := by simp [h3]
        have HP := Lib.hid (show hdb t ng = false from decide_eq_false (fun q => by rcases q with q | ⟨q, _⟩ <;> first | omega | exact h3 q))
        clear h3 h0
        go_wp2_with fail
        go_meet
        exact ⟨by rw [HP.out], rfl⟩
  obtain ⟨rfl, rfl⟩ := hcut
  rcases hh : hdb t ng with _ | _
  rotate_left
  · have E := Lib.hid (Wi.te_form (t := t) (n := ng) (fun q => by
      rcases of_decide_eq_true hh with a | ⟨a, b⟩
      · have := q.1; omega
      · obtain ⟨c, d⟩ := q.2.1 a
        rcases b with b | b
        · omega
        · rw [d] at b; cases b))
    go_wp2_with fail
    go_returns
    exact ⟨ret_we (zero_we ⟨rfl, rfl⟩ E.out.2) E.out.1.symm, by go_grown⟩
  have hF : Hid (1 ≤ t.size ∧ (PlainAid.bt t 0 = 48 → t.size = 1 ∧ ng = false)) := Lib.hid (by
    have := of_decide_eq_false hh
    refine ⟨by rcases Nat.eq_zero_or_pos t.size with q | q; exact absurd (Or.inl q) this; exact q, fun q => ?_⟩
    by_cases a : 1 < t.size
    · exact absurd (Or.inr ⟨q, Or.inl a⟩) this
    · refine ⟨by rcases Nat.eq_zero_or_pos t.size with q | q; exact absurd (Or.inl q) this; omega, ?_⟩
      cases ng
      · rfl
      · exact absurd (Or.inr ⟨q, Or.inr rfl⟩) this)
  go_wp2_with fail
  go_loop [6] (fun v6 => ∃ i : Nat, i ≤ t.size ∧ v6 = .int .i64 i ∧ Hid (Wi.digs (PlainAid.bt t) i)) (fun v6 => t.size - (intOf v6).toNat)
  case atStart => exact ⟨0, Nat.zero_le _, rfl, Lib.hid (fun k hk => by omega)⟩
  case round =>
    obtain ⟨i, hi, rfl, hD⟩ := hrel
    by_cases hlt : i < t.size
    · obtain ⟨c, hc⟩ : ∃ c : Int, PlainAid.bt t i = c := ⟨_, rfl⟩
      have c0 : 0 ≤ c := by rw [← hc]; exact bt_nonneg t i
      have c1 : c ≤ 255 := by rw [← hc]; exact bt_le t i
      have hci : (t[i].toNat : Int) = c := (hb i hlt).trans hc
      have HC := Lib.hid hc
      clear hc hb
      by_cases d0 : c < 48
      · have E := Lib.hid (Wi.te_form (t := t) (n := ng) (fun q => by have a := (q.2.2 i hlt).1; have b := HC.out; omega))
        go_wp2_with fail
        go_returns
        exact ⟨ret_we (zero_we ⟨rfl, rfl⟩ E.out.2) E.out.1.symm, by go_grown⟩
      by_cases d1 : 57 < c
      · have E := Lib.hid (Wi.te_form (t := t) (n := ng) (fun q => by have a := (q.2.2 i hlt).2; have b := HC.out; omega))
        go_wp2_with fail
        go_returns
        exact ⟨ret_we (zero_we ⟨rfl, rfl⟩ E.out.2) E.out.1.symm, by go_grown⟩
      have HD2 : Hid (Wi.digs (PlainAid.bt t) (i + 1)) := Lib.hid (fun k hk => by
        by_cases e : k = i
        · subst e; have b := HC.out; omega
        · exact hD.out k (by omega))
      go_wp2_with fail
      go_round
      case rel => exact ⟨i + 1, by omega, by go_num, HD2⟩
      case measure => first | (simp [intOf]; done) | (simp [intOf]; omega)
    · obtain rfl : i = t.size := by omega
      have hFF : Wi.tF t ng := ⟨hF.out.1, hF.out.2, hD.out⟩
      have HF := Lib.hid hFF
      clear hFF hF hh
      by_cases h39 : 39 < t.size
      · have E := Lib.hid (Wi.te_no HF.out (tn_39 HF.out h39))
        go_wp2_with fail
        go_returns
        exact ⟨ret_we (zero_we ⟨rfl, rfl⟩ E.out.2) E.out.1.symm, by go_grown⟩
      go_wp2_with fail
      go_loopw [8, 9] (fun v8 v9 wr => ∃ (i : Nat) (ok : Bool) (x : Int), i ≤ t.size ∧ v9 = .int .i64 i ∧ v8 = .bool ok ∧ Wi.inW x ∧ Hid (ok = true → x = Wi.sg (Wi.nm (PlainAid.bt t) i) ng) ∧ Hid (ok = false → ¬ Wi.inW (Wi.tN t ng)) ∧ Blk wr w.heap.size 24 #[.int .i64 0, .int .u64 0] ∧
        Blk wr (w.heap.size + 1) 24 #[.int .i64 (Wi.Hq x), .int .u64 (Wi.Lr x)] ∧ Below w.heap.size w wr) (fun v8 v9 _ => t.size - (intOf v9).toNat)
      case atStart => exact ⟨0, true, 0, Nat.zero_le _, rfl, rfl, by unfold Wi.inW; omega, Lib.hid (fun _ => by cases ng <;> rfl), Lib.hid (fun q => by cases q), (Blk.new w _ _).alloc _, Blk.new1 w _ _ _, by go_grown⟩
      case round =>
        rename_i wr
        obtain ⟨i, ok, x, hi, rfl, rfl, hxW, hok, hno, BR, BN, hB⟩ := hrel
        obtain ⟨r0, r1, r2, r3⟩ := BR.open2
        obtain ⟨s0, s1, s2, s3⟩ := BN.open2
        cases ok with
        | false =>
          have E := Lib.hid (Wi.te_no HF.out (hno.out rfl))
          go_wp2_with fail
          refine bodyPost_ret (by simp [results, Try.results27, go_sem, r0, r1, r2, r3]; try rfl) rfl ?_
          exact ⟨ret_we (zero_we ⟨rfl, rfl⟩ E.out.2) E.out.1.symm, by repeat (first | exact Below.refl _ _ | (with_reducible assumption) | (with_reducible apply bal) | (with_reducible apply bdr) | (with_reducible apply bdnl) | (with_reducible refine bst ?_ (by first | (simp; done) | (simp; omega) | omega) _) | (with_reducible refine bt ?_ (by with_reducible assumption)))⟩
        | true =>
          have hx := Lib.hid (hok.out rfl)
          clear hok hno
          by_cases hlt : i < t.size
          rotate_left
          · obtain rfl : i = t.size := by omega
            have hin : Wi.inW (Wi.tN t ng) := by have := hx.out; unfold Wi.tN; rw [← this]; exact hxW
            have E := Lib.hid (Wi.te_yes HF.out hin)
            have EX := Lib.hid (show Wi.rv (Wi.tN t ng) = x from by rw [Wi.rv_yes hin]; exact hx.out.symm)
            clear hin
            go_wp2_with fail
            refine bodyPost_ret (by simp [results, Try.results27, go_sem, r0, r1, r2, r3, s0, s1, s2, s3]; try rfl) rfl ?_
            exact ⟨ret_we ⟨by rw [E.out.2, EX.out], by rw [E.out.2, EX.out]⟩ E.out.1.symm, by repeat (first | exact Below.refl _ _ | (with_reducible assumption) | (with_reducible apply bal) | (with_reducible apply bdr) | (with_reducible apply bdnl) | (with_reducible refine bst ?_ (by first | (simp; done) | (simp; omega) | omega) _) | (with_reducible refine bt ?_ (by with_reducible assumption)))⟩
          obtain ⟨c, hc⟩ : ∃ c : Int, PlainAid.bt t i = c := ⟨_, rfl⟩
          have cd := HF.out.2.2 i hlt
          rw [hc] at cd
          obtain ⟨c0, c1⟩ := cd
          have hci : (t[i].toNat : Int) = c := (hb i hlt).trans hc
          have HC := Lib.hid hc
          clear hc hb
          have NX : Hid (Wi.nm (PlainAid.bt t) (i + 1) = 10 * Wi.nm (PlainAid.bt t) i + (c - 48)) := Lib.hid (by rw [← HC.out]; rfl)
          have N0 := Wi.nm_nonneg (Wi.digs_le HF.out.2.2 hi)
          go_wp2_with fail
          refine (rtimes_c _ _ _ _ _ (Wi.wd_self hxW) (by omega) (by omega)).mono ?_
          rintro e w2 ⟨rfl, hb2⟩
          clear r0 r1 r2 r3 s0 s1 s2 s3
          replace BR := BR.keep hb2
          replace BN := BN.keep hb2
          replace hB := bt hB hb2
          clear hb2
          obtain ⟨s0, s1, s2, s3⟩ := BN.open2
          have hx10 : Hid (x * 10 = Wi.sg (10 * Wi.nm (PlainAid.bt t) i) ng) := Lib.hid (by rw [hx.out, sg_mul])
          by_cases hi10 : Wi.inW (x * 10)
          · have ho := Wi.okb_yes hi10
            have hrv := Wi.rv_yes hi10
            have hX := Wi.wd_self hi10
            have hD := Wi.wd_self (show Wi.inW (c - 48) from by unfold Wi.inW; omega)
            have HI := Lib.hid hi10
            clear hi10
            cases ng with
            | true =>
              go_wp2_with fail
              have BN2 := (BN.set_ 0 (.int .i64 (Wi.Hq (x * 10)))).set_ 1 (.int .u64 (Wi.Lr (x * 10)))
              have BR2 := (BR.far (p := ⟨w.heap.size + 1, 0, none⟩) (by first | (simp; done) | (simp; omega)) (.int .i64 (Wi.Hq (x * 10)))).far (p := ⟨w.heap.size + 1, 1, none⟩) (by first | (simp; done) | (simp; omega)) (.int .u64 (Wi.Lr (x * 10)))
              have hB2 := bst (bst hB (p := ⟨w.heap.size + 1, 0, none⟩) (by first | (simp; done) | (simp; omega)) (.int .i64 (Wi.Hq (x * 10)))) (p := ⟨w.heap.size + 1, 1, none⟩) (by first | (simp; done) | (simp; omega)) (.int .u64 (Wi.Lr (x * 10)))
              simp only [List.setIfInBounds_toArray, List.set_cons_zero, List.set_cons_succ] at BN2
              clear s0 s1 s2 s3 BN BR hB
              generalize World.setCell (World.setCell _ _ _) _ _ = W0 at BN2 BR2 hB2 ⊢
              obtain ⟨s0, s1, s2, s3⟩ := BN2.open2
              go_region_with (first | (go_at_call 44; refine (rof_c _ _ (by omega) (by omega)).mono ?_; rintro e wn ⟨rfl, hbn⟩; have BN3 := Blk.keep (by first | exact BN2 | exact BN2.drew) hbn; have BR3 := Blk.keep (by first | exact BR2 | exact BR2.drew) hbn; have hB3 := bt (by first | exact hB2 | exact bdr hB2) hbn; obtain ⟨t0, t1, t2, t3⟩ := BN3.open2) | (go_at_call 31; refine (rsub_c _ _ _ _ _ _ _ hX hD).mono ?_; rintro e wm ⟨rfl, hbm⟩; have BN4 := BN3.keep hbm; have BR4 := BR3.keep hbm; have hB4 := bt hB3 hbm; obtain ⟨z0, z1, z2, z3⟩ := BN4.open2))
              all_goals
                have HV : Hid (x * 10 - (c - 48) = Wi.sg (Wi.nm (PlainAid.bt t) (i + 1)) true) := Lib.hid (by rw [hx10.out, NX.out]; first | (simp only [Wi.sg_t]; omega) | (simp only [Wi.sg_f]; done) | (simp only [Wi.sg_f]; omega))
                have K1 : Hid (Wi.okb (x * 10 - (c - 48)) = true → Wi.rv (x * 10 - (c - 48)) = Wi.sg (Wi.nm (PlainAid.bt t) (i + 1)) true) := Lib.hid (fun q => by rw [Wi.rv_yes (of_decide_eq_true q), HV.out])
                have K2 : Hid (Wi.okb (x * 10 - (c - 48)) = false → ¬ Wi.inW (Wi.tN t true)) := Lib.hid (fun q => tn_out HF.out.2.2 (show i + 1 ≤ t.size by omega) (show 0 ≤ Wi.nm (PlainAid.bt t) (i + 1) by rw [NX.out]; omega) (Int.le_refl _) (by rw [← HV.out]; exact of_decide_eq_false q))
                have BN5 := (BN4.set_ 0 (.int .i64 (Wi.Hq (Wi.rv (x * 10 - (c - 48)))))).set_ 1 (.int .u64 (Wi.Lr (Wi.rv (x * 10 - (c - 48)))))
                have BR5 := (BR4.far (p := ⟨w.heap.size + 1, 0, none⟩) (by first | (simp; done) | (simp; omega)) (.int .i64 (Wi.Hq (Wi.rv (x * 10 - (c - 48)))))).far (p := ⟨w.heap.size + 1, 1, none⟩) (by first | (simp; done) | (simp; omega)) (.int .u64 (Wi.Lr (Wi.rv (x * 10 - (c - 48)))))
                have hB5 := bst (bst hB4 (p := ⟨w.heap.size + 1, 0, none⟩) (by first | (simp; done) | (simp; omega)) (.int .i64 (Wi.Hq (Wi.rv (x * 10 - (c - 48)))))) (p := ⟨w.heap.size + 1, 1, none⟩) (by first | (simp; done) | (simp; omega)) (.int .u64 (Wi.Lr (Wi.rv (x * 10 - (c - 48)))))
                simp only [List.setIfInBounds_toArray, List.set_cons_zero, List.set_cons_succ] at BN5
                go_wp2_with fail
                go_roundw
                case rel => exact ⟨i + 1, _, _, by omega, by go_num, rfl, Wi.in_rv _, K1, K2, by first | exact BR5 | exact BR5.drew, by first | exact BN5 | exact BN5.drew, by first | exact hB5 | exact bdr hB5⟩
                case measure => first | (simp [intOf]; done) | (simp [intOf]; omega)
            | false =>
              go_wp2_with fail
              have BN2 := (BN.set_ 0 (.int .i64 (Wi.Hq (x * 10)))).set_ 1 (.int .u64 (Wi.Lr (x * 10)))
              have BR2 := (BR.far (p := ⟨w.heap.size + 1, 0, none⟩) (by first | (simp; done) | (simp; omega)) (.int .i64 (Wi.Hq (x * 10)))).far (p := ⟨w.heap.size + 1, 1, none⟩) (by first | (simp; done) | (simp; omega)) (.int .u64 (Wi.Lr (x * 10)))
              have hB2 := bst (bst hB (p := ⟨w.heap.size + 1, 0, none⟩) (by first | (simp; done) | (simp; omega)) (.int .i64 (Wi.Hq (x * 10)))) (p := ⟨w.heap.size + 1, 1, none⟩) (by first | (simp; done) | (simp; omega)) (.int .u64 (Wi.Lr (x * 10)))
              simp only [List.setIfInBounds_toArray, List.set_cons_zero, List.set_cons_succ] at BN2
              clear s0 s1 s2 s3 BN BR hB
              generalize World.setCell (World.setCell _ _ _) _ _ = W0 at BN2 BR2 hB2 ⊢
              obtain ⟨s0, s1, s2, s3⟩ := BN2.open2
              go_region_with (first | (go_at_call 44; refine (rof_c _ _ (by omega) (by omega)).mono ?_; rintro e wn ⟨rfl, hbn⟩; have BN3 := Blk.keep (by first | exact BN2 | exact BN2.drew) hbn; have BR3 := Blk.keep (by first | exact BR2 | exact BR2.drew) hbn; have hB3 := bt (by first | exact hB2 | exact bdr hB2) hbn; obtain ⟨t0, t1, t2, t3⟩ := BN3.open2) | (go_at_call 29; refine (radd_c _ _ _ _ _ _ _ hX hD).mono ?_; rintro e wm ⟨rfl, hbm⟩; have BN4 := BN3.keep hbm; have BR4 := BR3.keep hbm; have hB4 := bt hB3 hbm; obtain ⟨z0, z1, z2, z3⟩ := BN4.open2))
              all_goals
                have HV : Hid (x * 10 + (c - 48) = Wi.sg (Wi.nm (PlainAid.bt t) (i + 1)) false) := Lib.hid (by rw [hx10.out, NX.out]; first | (simp only [Wi.sg_t]; omega) | (simp only [Wi.sg_f]; done) | (simp only [Wi.sg_f]; omega))
                have K1 : Hid (Wi.okb (x * 10 + (c - 48)) = true → Wi.rv (x * 10 + (c - 48)) = Wi.sg (Wi.nm (PlainAid.bt t) (i + 1)) false) := Lib.hid (fun q => by rw [Wi.rv_yes (of_decide_eq_true q), HV.out])
                have K2 : Hid (Wi.okb (x * 10 + (c - 48)) = false → ¬ Wi.inW (Wi.tN t false)) := Lib.hid (fun q => tn_out HF.out.2.2 (show i + 1 ≤ t.size by omega) (show 0 ≤ Wi.nm (PlainAid.bt t) (i + 1) by rw [NX.out]; omega) (Int.le_refl _) (by rw [← HV.out]; exact of_decide_eq_false q))
                have BN5 := (BN4.set_ 0 (.int .i64 (Wi.Hq (Wi.rv (x * 10 + (c - 48)))))).set_ 1 (.int .u64 (Wi.Lr (Wi.rv (x * 10 + (c - 48)))))
                have BR5 := (BR4.far (p := ⟨w.heap.size + 1, 0, none⟩) (by first | (simp; done) | (simp; omega)) (.int .i64 (Wi.Hq (Wi.rv (x * 10 + (c - 48)))))).far (p := ⟨w.heap.size + 1, 1, none⟩) (by first | (simp; done) | (simp; omega)) (.int .u64 (Wi.Lr (Wi.rv (x * 10 + (c - 48)))))
                have hB5 := bst (bst hB4 (p := ⟨w.heap.size + 1, 0, none⟩) (by first | (simp; done) | (simp; omega)) (.int .i64 (Wi.Hq (Wi.rv (x * 10 + (c - 48)))))) (p := ⟨w.heap.size + 1, 1, none⟩) (by first | (simp; done) | (simp; omega)) (.int .u64 (Wi.Lr (Wi.rv (x * 10 + (c - 48)))))
                simp only [List.setIfInBounds_toArray, List.set_cons_zero, List.set_cons_succ] at BN5
                go_wp2_with fail
                go_roundw
                case rel => exact ⟨i + 1, _, _, by omega, by go_num, rfl, Wi.in_rv _, K1, K2, by first | exact BR5 | exact BR5.drew, by first | exact BN5 | exact BN5.drew, by first | exact hB5 | exact bdr hB5⟩
                case measure => first | (simp [intOf]; done) | (simp [intOf]; omega)
          · have ho := Wi.okb_no hi10
            have hout := Lib.hid (tn_out HF.out.2.2 (show i + 1 ≤ t.size by omega) (show 0 ≤ 10 * Wi.nm (PlainAid.bt t) i by omega) (by rw [NX.out]; omega) (by rw [← hx10.out]; exact hi10))
            have hrvW := Wi.in_rv (x * 10)
            have hrv := Lib.hid hrvW
            clear hi10
            go_wp2_with fail
            have BN2 := (BN.set_ 0 (.int .i64 (Wi.Hq (Wi.rv (x * 10))))).set_ 1 (.int .u64 (Wi.Lr (Wi.rv (x * 10))))
            have BR2 := (BR.far (p := ⟨w.heap.size + 1, 0, none⟩) (by first | (simp; done) | (simp; omega)) (.int .i64 (Wi.Hq (Wi.rv (x * 10))))).far (p := ⟨w.heap.size + 1, 1, none⟩) (by first | (simp; done) | (simp; omega)) (.int .u64 (Wi.Lr (Wi.rv (x * 10))))
            have hB2 := bst (bst hB (p := ⟨w.heap.size + 1, 0, none⟩) (by first | (simp; done) | (simp; omega)) (.int .i64 (Wi.Hq (Wi.rv (x * 10))))) (p := ⟨w.heap.size + 1, 1, none⟩) (by first | (simp; done) | (simp; omega)) (.int .u64 (Wi.Lr (Wi.rv (x * 10))))
            simp only [List.setIfInBounds_toArray, List.set_cons_zero, List.set_cons_succ] at BN2
            go_roundw
            case rel => exact ⟨i + 1, false, Wi.rv (x * 10), by omega, by go_num, rfl, hrv.out, Lib.hid (fun q => by cases q), Lib.hid (fun _ => hout.out), BR2, BN2, hB2⟩
            case measure => first | (simp [intOf]; done) | (simp [intOf]; omega)
end Go.Proofs.Ytnkgoojjnikaeaa
