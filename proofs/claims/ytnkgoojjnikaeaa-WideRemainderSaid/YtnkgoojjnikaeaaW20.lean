/-
  Contracts: Parse.
-/
import Derived.Test.YtnkgoojjnikaeaaW6
import Derived.Test.YtnkgoojjnikaeaaPlain7
import Derived.Deep.DeepCutAuto
namespace Go.Proofs.Ytnkgoojjnikaeaa
set_option linter.unusedVariables false
set_option linter.unusedSimpArgs false
open Go.RowKit Go.PlainAid

theorem ret_we {h l e h' l' e' : Int} (a : h = h' ∧ l = l') (b : e = e') :
    Ending.returned (.tuple #[.agg #[.int .i64 h, .int .u64 l], .int .i64 e]) = .returned (.tuple #[.agg #[.int .i64 h', .int .u64 l'], .int .i64 e']) := by rw [a.1, a.2, b]
/-- The head of the digits is bad: none, or a nought ahead of others or behind a sign. -/
def hdb (t : ByteArray) (n : Bool) : Bool := decide (t.size = 0 ∨ (PlainAid.bt t 0 = 48 ∧ (1 < t.size ∨ n = true)))
theorem em_no {t : ByteArray} (h : 0 < t.size) : t.toList.isEmpty = false := by
  rw [List.isEmpty_eq_false_iff]
  intro q
  have q2 : t.toList.length = 0 := by rw [q]; rfl
  rw [ByteArray.toList_eq] at q2
  have q3 : t.data.toList.length = t.size := rfl
  omega
theorem em_yes {t : ByteArray} (h : t.size = 0) : t.toList.isEmpty = true := by
  rw [ByteArray.toList_eq]
  have : t.data.toList.length = 0 := h
  rw [List.isEmpty_iff]; exact List.eq_nil_of_length_eq_zero this
theorem zero_we {h l : Int} (e : h = 0 ∧ l = 0) {v : Int} (hv : v = 0) : h = Wi.Hq v ∧ l = Wi.Lr v := by subst hv; exact e
set_option maxRecDepth 100000 in
set_option maxHeartbeats 2000000 in
theorem parse_c (s : ByteArray) (w : World) (hs : s.size ≤ 9223372036854775807) : Calls Try.prog 25 #[.string s] w fun e w' =>
    e = .returned (.tuple #[.agg #[.int .i64 (Wi.Hq (Wi.pV s)), .int .u64 (Wi.Lr (Wi.pV s))], .int .i64 (Wi.pE s)]) ∧ Below w.heap.size w w' := by
  have hsz := Wi.ptx_size s
  unfold Wi.pE Wi.pV
  generalize het : Wi.ptx s = t at *
  generalize hen : Wi.png s = ng
  have ET := Lib.hid het
  have EN := Lib.hid hen
  clear het hen
  have hb := get_bt s
  go_enter Try.func25, Try.ntmps25
  go_upto_region 2 with fail
  go_cut [27] (fun v27 wx => v27 = .bool ng ∧ w.alloc (.cells #[.int .i64 0, .int .u64 0] 24) = wx)
  case first =>
    by_cases h0 : 0 < s.size
    · by_cases h1 : PlainAid.bt s 0 = 45
      · have HP := Lib.hid (show ng = true from EN.out.symm.trans (decide_eq_true ⟨h0, h1⟩))
        have h2 : (PlainAid.bt s 0 == 45) = true := by simp [h1]
        clear h1
        go_wp2_with fail
        go_meet
        exact ⟨by rw [HP.out], rfl⟩
      · have HP := Lib.hid (show ng = false from EN.out.symm.trans (decide_eq_false (fun q => h1 q.2)))
        have h2 : (PlainAid.bt s 0 == 45) = false := by simp [h1]
        clear h1
        go_wp2_with fail
        go_meet
        exact ⟨by rw [HP.out], rfl⟩
    · have HP := Lib.hid (show ng = false from EN.out.symm.trans (decide_eq_false (fun q => h0 q.1)))
      go_wp2_with fail
      go_meet
      exact ⟨by rw [HP.out], rfl⟩
  obtain ⟨rfl, rfl⟩ := hcut
  go_upto_if 27 with fail
  go_cut [4, 5] (fun v4 v5 wx => v4 = .string t ∧ v5 = .bool ng ∧ w.alloc (.cells #[.int .i64 0, .int .u64 0] 24) = wx)
  case first =>
    cases ng with
    | false =>
      have HT := Lib.hid (show t = s from ET.out.symm.trans (if_neg (by rw [EN.out]; decide)))
      go_wp2_with fail
      go_meet
      exact ⟨by rw [HT.out], rfl, rfl⟩
    | true =>
      have HT := Lib.hid (show t = s.extract 1 s.size from ET.out.symm.trans (if_pos EN.out))
      have h0 : 0 < s.size := (of_decide_eq_true EN.out).1
      go_wp2_with fail
      go_meet
      exact ⟨by rw [HT.out], rfl, rfl⟩
  obtain ⟨rfl, rfl, rfl⟩ := hcut
  clear hb
  have ht2 : t.size ≤ 9223372036854775807 := by omega
  have hb := get_bt t
  clear hsz hs
  go_upto_region 4 with fail
  go_cut [44] (fun v44 wx => v44 = .bool (hdb t ng) ∧ w.alloc (.cells #[.int .i64 0, .int .u64 0] 24) = wx)
  case first =>
    by_cases h0 : t.size = 0
    · have HP := Lib.hid (show hdb t ng = true from decide_eq_true (Or.inl h0))
      have h1 := em_yes h0
      clear h0
      go_wp2_with fail
      go_meet
      exact ⟨by rw [HP.out], rfl⟩
    · have h1 := em_no (t := t) (by omega)
      have h2 : 0 < t.size := by omega
      by_cases h3 : PlainAid.bt t 0 = 48
      · have h4 : (PlainAid.bt t 0 == 48) = true := by simp [h3]
        by_cases h5 : 1 < t.size
        · have HP := Lib.hid (show hdb t ng = true from decide_eq_true (Or.inr ⟨h3, Or.inl h5⟩))
          clear h3 h0
          go_wp2_with fail
          go_meet
          exact ⟨by rw [HP.out], rfl⟩
        · cases ng with
          | true =>
            have HP := Lib.hid (show hdb t true = true from decide_eq_true (Or.inr ⟨h3, Or.inr rfl⟩))
            clear h3 h0
            go_wp2_with fail
            go_meet
            exact ⟨by rw [HP.out], rfl⟩
          | false =>
            have HP := Lib.hid (show hdb t false = false from decide_eq_false (fun q => by rcases q with q | ⟨_, q | q⟩ <;> first | omega | cases q))
            clear h3 h0
            go_wp2_with fail
            go_meet
            exact ⟨by rw [HP.out]; exact congrArg Value.bool (decide_eq_false (by omega)), rfl⟩
      · have h4 : (PlainAid.bt t 0 == 48) = false := by simp [h3]
        have HP := Lib.hid (show hdb t ng = false from decide_eq_false (fun q => by rcases q with q | ⟨q, _⟩ <;> first | omega | exact h3 q))
        clear h3 h0
        go_wp2_with fail
        go_meet
        exact ⟨by rw [HP.out], rfl⟩
  obtain ⟨rfl, rfl⟩ := hcut
  rcases hh : hdb t ng with _ | _
  rotate_left
  · have E := Lib.hid (Wi.te_form (t := t) (n := ng) (fun q => by
      rcases of_decide_eq_true hh with a | ⟨a, b⟩
      · have := q.1; omega
      · obtain ⟨c, d⟩ := q.2.1 a
        rcases b with b | b
        · omega
        · rw [d] at b; cases b))
    go_wp2_with fail
    go_returns
    exact ⟨ret_we (zero_we ⟨rfl, rfl⟩ E.out.2) E.out.1.symm, by go_grown⟩
  have hF : Hid (1 ≤ t.size ∧ (PlainAid.bt t 0 = 48 → t.size = 1 ∧ ng = false)) := Lib.hid (by
    have := of_decide_eq_false hh
    refine ⟨by rcases Nat.eq_zero_or_pos t.size with q | q; exact absurd (Or.inl q) this; exact q, fun q => ?_⟩
    by_cases a : 1 < t.size
    · exact absurd (Or.inr ⟨q, Or.inl a⟩) this
    · refine ⟨by rcases Nat.eq_zero_or_pos t.size with q | q; exact absurd (Or.inl q) this; omega, ?_⟩
      cases ng
      · rfl
      · exact absurd (Or.inr ⟨q, Or.inr rfl⟩) this)
  go_wp2_with fail
  go_loop [48] (fun v48 => ∃ i : Nat, i ≤ t.size ∧ v48 = .int .i64 i ∧ Hid (Wi.digs (PlainAid.bt t) i)) (fun v48 => t.size - (intOf v48).toNat)
  case atStart => exact ⟨0, Nat.zero_le _, rfl, Lib.hid (fun k hk => by omega)⟩
  case round =>
    obtain ⟨i, hi, rfl, hD⟩ := hrel
    by_cases hlt : i < t.size
    · obtain ⟨c, hc⟩ : ∃ c : Int, PlainAid.bt t i = c := ⟨_, rfl⟩
      have c0 : 0 ≤ c := by rw [← hc]; exact bt_nonneg t i
      have c1 : c ≤ 255 := by rw [← hc]; exact bt_le t i
      have hci : (t[i].toNat : Int) = c := (hb i hlt).trans hc
      have HC := Lib.hid hc
      clear hc hb
      by_cases d0 : c < 48
      · have E := Lib.hid (Wi.te_form (t := t) (n := ng) (fun q => by have a := (q.2.2 i hlt).1; have b := HC.out; omega))
        go_wp2_with fail
        go_returns
        exact ⟨ret_we (zero_we ⟨rfl, rfl⟩ E.out.2) E.out.1.symm, by go_grown⟩
      by_cases d1 : 57 < c
      · have E := Lib.hid (Wi.te_form (t := t) (n := ng) (fun q => by have a := (q.2.2 i hlt).2; have b := HC.out; omega))
        go_wp2_with fail
        go_returns
        exact ⟨ret_we (zero_we ⟨rfl, rfl⟩ E.out.2) E.out.1.symm, by go_grown⟩
      have HD2 : Hid (Wi.digs (PlainAid.bt t) (i + 1)) := Lib.hid (fun k hk => by
        by_cases e : k = i
        · subst e; have b := HC.out; omega
        · exact hD.out k (by omega))
      go_wp2_with fail
      go_round
      case rel => exact ⟨i + 1, by omega, by go_num, HD2⟩
      case measure => first | (simp [intOf]; done) | (simp [intOf]; omega)
    · obtain rfl : i = t.size := by omega
      have hFF : Wi.tF t ng := ⟨hF.out.1, hF.out.2, hD.out⟩
      have HF := Lib.hid hFF
      clear hFF hF hh
      go_wp2_with fail
      go_loopw [65] (fun v65 wr => ∃ i : Nat, i ≤ t.size ∧ v65 = .int .i64 i ∧ Wi.inS (Wi.nm (PlainAid.bt t) i) ∧ Blk wr w.heap.size 24 #[.int .i64 0, .int .u64 0] ∧
        Blk wr (w.heap.size + 1) 54 #[.int .u64 (Wi.Hq (Wi.nm (PlainAid.bt t) i)), .int .u64 (Wi.Lr (Wi.nm (PlainAid.bt t) i))] ∧ Below w.heap.size w wr) (fun v65 _ => t.size - (intOf v65).toNat)
      case atStart => exact ⟨0, Nat.zero_le _, rfl, ⟨by show (0 : Int) ≤ 0; omega, by show (0 : Int) < _; omega⟩, (Blk.new w _ _).alloc _, Blk.new1 w _ _ _, by go_grown⟩
      case round =>
        rename_i wr
        obtain ⟨i, hi, rfl, hyS, BR, BN, hB⟩ := hrel
        obtain ⟨r0, r1, r2, r3⟩ := BR.open2
        obtain ⟨s0, s1, s2, s3⟩ := BN.open2
        by_cases hlt : i < t.size
        · obtain ⟨c, hc⟩ : ∃ c : Int, PlainAid.bt t i = c := ⟨_, rfl⟩
          have cd := HF.out.2.2 i hlt
          rw [hc] at cd
          obtain ⟨c0, c1⟩ := cd
          have hci : (t[i].toNat : Int) = c := (hb i hlt).trans hc
          have HC := Lib.hid hc
          clear hc hb
          obtain ⟨y, hy⟩ : ∃ y : Int, Hid (Wi.nm (PlainAid.bt t) i = y) := ⟨_, Lib.hid rfl⟩
          rw [hy.out] at hyS BN s0 s1
          obtain ⟨y1, y2, y3, y4, yv⟩ := (Wi.sz_self hyS).bd
          have YV := Lib.hid yv
          clear yv
          generalize Wi.Hq y = yh at *
          generalize Wi.Lr y = yl at *
          obtain ⟨m1, m2, m3, m4, mv⟩ := (Wi.sz_self (mul_in y3 y4 (show (0 : Int) ≤ 10 by omega) (by omega))).bd
          obtain ⟨p1, p2, p3, p4, pv⟩ := (Wi.sz_self (mul_in y1 y2 (show (0 : Int) ≤ 10 by omega) (by omega))).bd
          have MV := Lib.hid mv
          have PV := Lib.hid pv
          have p5 : Wi.Hq (yh * 10) ≤ 9 := by omega
          clear mv pv
          obtain ⟨a1, k1, b1, b2, b3, b4, e1, q1⟩ := add_ex (Wi.Hq (yl * 10)) (Wi.Lr (yh * 10)) 0 m1 m2 p3 p4 (by omega) (by omega)
          obtain ⟨a2, k2, b5, b6, b7, b8, e2, q2⟩ := add_ex (Wi.Lr (yl * 10)) (c - 48) 0 m3 m4 (by omega) (by omega) (by omega) (by omega)
          obtain ⟨a3, k3, b9, b10, b11, b12, e3, q3⟩ := add_ex a1 0 k2 b1 b2 (by omega) (by omega) b7 b8
          have EQ : Hid (10 * y + (c - 48) = (Wi.Hq (yh * 10) + k1 + k3) * 340282366920938463463374607431768211456 + (a3 * 18446744073709551616 + a2)) := Lib.hid (by
            have := YV.out; have := MV.out; have := PV.out; have := e1.out; have := e2.out; have := e3.out; omega)
          have NX : Hid (Wi.nm (PlainAid.bt t) (i + 1) = 10 * y + (c - 48)) := Lib.hid (by rw [← hy.out, ← HC.out]; rfl)
          go_wp2_with fail
          refine (mul64_c _ _ _ y3 y4 (by omega) (by omega)).mono ?_
          rintro e w2 ⟨rfl, hw⟩
          rw [← hw]
          clear hw w2
          go_wp2_with fail
          refine (mul64_c _ _ _ y1 y2 (by omega) (by omega)).mono ?_
          rintro e w2 ⟨rfl, hw⟩
          rw [← hw]
          clear hw w2
          by_cases ov : 0 < Wi.Hq (yh * 10) + k1 + k3
          · have E := Lib.hid (Wi.te_no HF.out (Wi.tn_big HF.out.2.2 (show i + 1 ≤ t.size by omega) (by rw [NX.out, EQ.out]; omega)))
            go_wp2_with (first | simp only [q1] | simp only [q2] | simp only [q3])
            refine bodyPost_ret (by simp [results, Try.results25, go_sem, r0, r1, r2, r3]; try rfl) rfl ?_
            exact ⟨ret_we (zero_we ⟨rfl, rfl⟩ E.out.2) E.out.1.symm, by repeat (first | exact Below.refl _ _ | (with_reducible assumption) | (with_reducible apply bal) | (with_reducible apply bdr) | (with_reducible apply bdnl) | (with_reducible refine bst ?_ (by first | (simp; done) | (simp; omega) | omega) _) | (with_reducible refine bt ?_ (by with_reducible assumption)))⟩
          · have o1 : Wi.Hq (yh * 10) = 0 := by omega
            have o2 : k1 = 0 := by omega
            have o3 : k3 = 0 := by omega
            subst o2 o3
            have HZ : Wi.Sz a3 a2 (Wi.nm (PlainAid.bt t) (i + 1)) := Wi.sz_of b9 b10 b5 b6 (by rw [NX.out, EQ.out, o1]; omega)
            clear o1
            go_wp2_with (first | simp only [q1] | simp only [q2] | simp only [q3])
            have BN2 := (BN.set_ 0 (.int .u64 a3)).set_ 1 (.int .u64 a2)
            have BR2 := (BR.far (p := ⟨w.heap.size + 1, 0, none⟩) (by first | (simp; done) | (simp; omega)) (.int .u64 a3)).far (p := ⟨w.heap.size + 1, 1, none⟩) (by first | (simp; done) | (simp; omega)) (.int .u64 a2)
            have hB2 := bst (bst hB (p := ⟨w.heap.size + 1, 0, none⟩) (by first | (simp; done) | (simp; omega)) (.int .u64 a3)) (p := ⟨w.heap.size + 1, 1, none⟩) (by first | (simp; done) | (simp; omega)) (.int .u64 a2)
            simp only [List.setIfInBounds_toArray, List.set_cons_zero, List.set_cons_succ] at BN2
            go_roundw
            case rel => exact ⟨i + 1, by omega, by go_num, HZ.hv, BR2, by rw [← HZ.hh, ← HZ.hl]; exact BN2, hB2⟩
            case measure => first | (simp [intOf]; done) | (simp [intOf]; omega)
        · obtain rfl : i = t.size := by omega
          have HN : Hid (Wi.sg (Wi.nm (PlainAid.bt t) t.size) ng = Wi.tN t ng) := Lib.hid rfl
          go_wp2_with fail
          refine (join_c _ _ _ _ _ (Wi.sz_self hyS)).mono ?_
          rw [HN.out]
          rintro e w3 ⟨rfl, hb3⟩
          by_cases hin : Wi.inW (Wi.tN t ng)
          · have E := Lib.hid (Wi.te_yes HF.out hin)
            have hok := Wi.okb_yes hin
            clear r0 r1 r2 r3 s0 s1 s2 s3 hin
            replace BR := BR.keep hb3
            replace hB := bt hB hb3
            clear hb3
            obtain ⟨r0, r1, r2, r3⟩ := BR.open2
            go_wp2_with fail
            refine bodyPost_ret (by simp [results, Try.results25, go_sem, r0, r1, r2, r3]; try rfl) rfl ?_
            exact ⟨ret_we ⟨by rw [E.out.2], by rw [E.out.2]⟩ E.out.1.symm, by repeat (first | exact Below.refl _ _ | (with_reducible assumption) | (with_reducible apply bal) | (with_reducible apply bdr) | (with_reducible apply bdnl) | (with_reducible refine bst ?_ (by first | (simp; done) | (simp; omega) | omega) _) | (with_reducible refine bt ?_ (by with_reducible assumption)))⟩
          · have E := Lib.hid (Wi.te_no HF.out hin)
            have hok := Wi.okb_no hin
            clear r0 r1 r2 r3 s0 s1 s2 s3 hin
            replace BR := BR.keep hb3
            replace hB := bt hB hb3
            clear hb3
            obtain ⟨r0, r1, r2, r3⟩ := BR.open2
            go_wp2_with fail
            refine bodyPost_ret (by simp [results, Try.results25, go_sem, r0, r1, r2, r3]; try rfl) rfl ?_
            exact ⟨ret_we (zero_we ⟨rfl, rfl⟩ E.out.2) E.out.1.symm, by repeat (first | exact Below.refl _ _ | (with_reducible assumption) | (with_reducible apply bal) | (with_reducible apply bdr) | (with_reducible apply bdnl) | (with_reducible refine bst ?_ (by first | (simp; done) | (simp; omega) | omega) _) | (with_reducible refine bt ?_ (by with_reducible assumption)))⟩
end Go.Proofs.Ytnkgoojjnikaeaa
