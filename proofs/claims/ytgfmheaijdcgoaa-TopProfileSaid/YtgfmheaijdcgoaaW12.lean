/-
  Contracts: the reference's All, Conflicts and Excess.
-/
import Derived.Test.YtgfmheaijdcgoaaW11
namespace Go.Proofs.Ytgfmheaijdcgoaa
set_option linter.unusedVariables false
set_option linter.unusedSimpArgs false
open Go.RowKit

/-- The list that is gathered. -/
structure One (B0 : Nat) (l : List (Nat × Nat)) (v : Value) (wr : World) : Prop where
  h : ∃ A c, v = .slice A l.length c ∧ Own wr B0 30 2 A l.length c (iv (Co.cf l))
theorem One.nil (B0 : Nat) (w : World) : One B0 [] (.slice none 0 0) w := ⟨none, 0, rfl, Own.nil _ _ _ _ _⟩
theorem One.to {B0 : Nat} {l l' : List (Nat × Nat)} {v : Value} {w : World} (h : One B0 l v w) (e : l = l') : One B0 l' v w := e ▸ h
theorem One.keep {B0 : Nat} {l : List (Nat × Nat)} {v : Value} {w w' : World} (h : One B0 l v w) (hb : Below w.heap.size w w') : One B0 l v w' := by
  obtain ⟨A, c, e, o⟩ := h.h
  exact ⟨A, c, e, o.keep hb⟩

set_option maxRecDepth 100000 in
set_option maxHeartbeats 4000000 in
theorem rall_c (A B : Option Addr) (n c m d : Nat) (N S : Nat → Nat → Int) (w : World) (R : Rd w 2 A n c (iv N)) (T : Rd w 2 B m d (iv S)) :
    Calls Try.prog 18 #[.slice A n c, .slice B m d] w (AllPost n N m S w) := by
  by_cases hck : Co.ck n N m S = 0
  rotate_left
  · have h3 : (Co.ck n N m S != 0) = true := by simpa using hck
    have e2 := Lib.hid (show Co.cfl n N m S = [] from if_neg hck)
    clear hck
    go_enter Try.func18, Try.ntmps18
    go_wp2_with fail
    refine (rcheck_c _ _ _ _ _ _ _ _ _ R T).mono ?_
    rintro e w1 ⟨rfl, hb⟩
    go_wp2
    go_returns
    refine ⟨none, 0, ?_, ?_, hb⟩
    · rw [e2.out]; rfl
    · rw [e2.out]; exact Own.nil _ _ _ _ _
  have O := Co.ck_ok.1 hck
  have hn := O.hn
  have r1 := R.le
  have hc := Lib.hid hck
  have e2 := Lib.hid (show Co.cfl n N m S = Co.cfs n N S from if_pos hck)
  clear hck
  obtain ⟨i0, hi, hz0, hz1, hz2⟩ := info_parts infoC
  have HI := Lib.hid hi
  have HZ0 := Lib.hid hz0
  have HZ1 := Lib.hid hz1
  have HZ2 := Lib.hid hz2
  clear hi hz0 hz1 hz2
  go_enter Try.func18, Try.ntmps18
  go_wp2_with fail
  refine (rcheck_c _ _ _ _ _ _ _ _ _ R T).mono ?_
  rw [hc.out]
  rintro e w1 ⟨rfl, hb⟩
  go_wp2
  go_loopw [7, 19] (fun s i wr => ∃ k : Nat, k ≤ n ∧ i = .int .i64 k ∧ One w.heap.size (Co.sgl N S k) s wr ∧ Below w.heap.size w wr) (fun _ i _ => n - (intOf i).toNat)
  case atStart => exact ⟨0, Nat.zero_le _, rfl, One.nil _ _, hb⟩
  case round =>
    clear hb
    obtain ⟨k, hk, rfl, hT, hB⟩ := hrel
    by_cases hlt : k < n
    · have hz := hB.size
      obtain ⟨A1, c1, rfl, o1⟩ := hT.h
      by_cases hx : Co.ex N S k k ≤ 0
      · have hN := Lib.hid (show Co.sgl N S (k + 1) = Co.sgl N S k by rw [Co.sgl, if_neg (by omega), List.append_nil])
        go_wp2_with fail
        refine (rex_c _ _ _ _ _ _ _ _ _ _ _ (R.keep hB) (T.keep hB) O (Nat.le_refl _) hlt).mono ?_
        rintro e w2 ⟨rfl, hb2⟩
        go_wp2
        go_roundw
        case rel => exact ⟨k + 1, by omega, by go_num, by rw [hN.out]; exact hT.keep hb2, bt hB hb2⟩
        case measure => simp [intOf]; omega
      · have hN := Lib.hid (show Co.sgl N S (k + 1) = Co.sgl N S k ++ [(k, k)] by rw [Co.sgl, if_pos (by omega)])
        have hL := Co.sgl_len N S k
        go_wp2_with fail
        refine (rex_c _ _ _ _ _ _ _ _ _ _ _ (R.keep hB) (T.keep hB) O (Nat.le_refl _) hlt).mono ?_
        rintro e w2 ⟨rfl, hb2⟩
        have p1 := o1.keep hb2
        have hz2 := hb2.size
        go_wp2_with (at_builtin; refine wpList_append_Rd _ rfl _ _ 31 rfl w.heap.size 30 i0 _ 2 16 Try.underlying31 HI.out HZ0.out HZ1.out HZ2.out rfl (by decide) rfl (p1.alloc _) rfl (rd_pair _ _ _ _) (one_iv _) (by omega) (by omega) (by simp; omega) ?_; intro A' c' w3 own' hgr hob)
        have own2 := own_snoc own'
        have hB3 : Below w.heap.size w w3 := (bal (bt hB hb2) _).trans (below_grown hgr (fun g hg => p1.base hg) (by simp; omega))
        clear p1 own' hgr hob o1
        go_wp2
        go_roundw
        case rel => exact ⟨k + 1, by omega, by go_num, by rw [hN.out]; exact ⟨A', c', by simp, own2⟩, hB3⟩
        case measure => simp [intOf]; omega
    · obtain rfl : k = n := by omega
      have hT2 := hT.to (show Co.sgl N S k = Co.sgl N S k ++ Co.prs N S k 0 by rw [Co.prs, List.append_nil])
      clear hT
      have hLs := Co.sgl_len N S k
      go_wp2
      go_loopw [7, 37] (fun s i wr => ∃ j : Nat, j ≤ k ∧ i = .int .i64 j ∧ One w.heap.size (Co.sgl N S k ++ Co.prs N S k j) s wr ∧ Below w.heap.size w wr) (fun _ i _ => k - (intOf i).toNat)
      case atStart => exact ⟨0, Nat.zero_le _, rfl, hT2, hB⟩
      case round =>
        clear hT2 hB
        obtain ⟨j, hj, rfl, hT, hB⟩ := hrel
        by_cases hlj : j < k
        · have hT2 := hT.to (show Co.sgl N S k ++ Co.prs N S k j = Co.sgl N S k ++ (Co.prs N S k j ++ Co.prr N S j 0) by rw [Co.prr, List.append_nil])
          clear hT
          have hLp := Co.prs_len k N S j
          have hLm := Co.mul64 (show j ≤ 64 by omega) hn
          go_wp2
          go_loopw [7, 10] (fun s i wq => ∃ t : Nat, j + 1 + t ≤ k ∧ i = .int .i64 ((j : Int) + 1 + t) ∧ One w.heap.size (Co.sgl N S k ++ (Co.prs N S k j ++ Co.prr N S j t)) s wq ∧ Below w.heap.size w wq) (fun _ i _ => k - (intOf i).toNat)
          case atStart => exact ⟨0, by omega, by go_num, hT2, hB⟩
          case round =>
            clear hT2 hB
            obtain ⟨t, ht, rfl, hT, hB⟩ := hrel
            by_cases hlq : j + 1 + t < k
            · obtain ⟨q, eq_⟩ : ∃ q, j + 1 + t = q := ⟨_, rfl⟩
              have eq2 : (j : Int) + 1 + t = (q : Int) := by omega
              rw [eq2]
              have EQ := Lib.hid eq2
              have EN := Lib.hid eq_
              have hqk : q < k := by omega
              have hjq : j ≤ q := by omega
              clear eq_ eq2
              have hz := hB.size
              have hLr := Co.prr_len N S j t
              have hL : (Co.sgl N S k ++ (Co.prs N S k j ++ Co.prr N S j t)).length ≤ 5000 := by rw [List.length_append, List.length_append]; omega
              generalize hl : Co.sgl N S k ++ (Co.prs N S k j ++ Co.prr N S j t) = l at hT hL
              have HL := Lib.hid hl
              clear hl
              obtain ⟨A1, c1, rfl, o1⟩ := hT.h
              by_cases hx : Co.ex N S j q ≤ 0
              · have hN := Lib.hid (show Co.prr N S j (t + 1) = Co.prr N S j t by rw [Co.prr, EN.out, if_neg (by omega), List.append_nil])
                go_wp2_with fail
                refine (rex_c _ _ _ _ _ _ _ _ _ _ _ (R.keep hB) (T.keep hB) O hjq hqk).mono ?_
                rintro e w2 ⟨rfl, hb2⟩
                go_wp2
                go_roundw
                case rel => exact ⟨t + 1, by omega, by rw [← EQ.out]; go_num, by rw [hN.out, HL.out]; exact hT.keep hb2, bt hB hb2⟩
                case measure => simp [intOf]; omega
              · have hN := Lib.hid (show Co.prr N S j (t + 1) = Co.prr N S j t ++ [(j, q)] by rw [Co.prr, EN.out, if_pos (by omega)])
                go_wp2_with fail
                refine (rex_c _ _ _ _ _ _ _ _ _ _ _ (R.keep hB) (T.keep hB) O hjq hqk).mono ?_
                rintro e w2 ⟨rfl, hb2⟩
                have p1 := o1.keep hb2
                have hz2 := hb2.size
                go_wp2_with (at_builtin; refine wpList_append_Rd _ rfl _ _ 31 rfl w.heap.size 30 i0 _ 2 16 Try.underlying31 HI.out HZ0.out HZ1.out HZ2.out rfl (by decide) rfl (p1.alloc _) rfl (rd_pair _ _ _ _) (one_iv _) (by omega) (by omega) (by simp; omega) ?_; intro A' c' w3 own' hgr hob)
                have own2 := own_snoc own'
                have hB3 : Below w.heap.size w w3 := (bal (bt hB hb2) _).trans (below_grown hgr (fun g hg => p1.base hg) (by simp; omega))
                clear p1 own' hgr hob o1
                go_wp2
                go_roundw
                case rel => exact ⟨t + 1, by omega, by rw [← EQ.out]; go_num, by rw [hN.out, ← List.append_assoc, ← List.append_assoc, List.append_assoc (Co.sgl N S k), HL.out]; exact ⟨A', c', by simp, own2⟩, hB3⟩
                case measure => simp [intOf]; omega
            · have eq2 : (j : Int) + 1 + t = (k : Int) := by omega
              rw [eq2]
              clear eq2
              have hN := Lib.hid (show Co.prs N S k (j + 1) = Co.prs N S k j ++ Co.prr N S j t by rw [Co.prs, show k - (j + 1) = t from by omega])
              go_wp2
              go_roundw
              case rel => exact ⟨j + 1, by omega, by go_num, by rw [hN.out]; exact hT, hB⟩
              case measure => simp [intOf]; omega
        · obtain rfl : j = k := by omega
          obtain ⟨A1, c1, rfl, o1⟩ := hT.h
          go_wp2
          go_returns
          refine ⟨A1, c1, ?_, ?_, hB⟩
          · rw [e2.out, hc.out]; first | rfl | (unfold Co.cfs; simp)
          · rw [e2.out]; exact o1

set_option maxHeartbeats 1000000 in
theorem rconflicts_c (A B : Option Addr) (n c m d : Nat) (N S : Nat → Nat → Int) (w : World) (R : Rd w 2 A n c (iv N)) (T : Rd w 2 B m d (iv S)) :
    Calls Try.prog 20 #[.slice A n c, .slice B m d] w fun e w' => e = .returned (.tuple #[.agg #[.int .i64 (Co.fI n N m S), .int .i64 (Co.fJ n N m S)], .bool (Co.fB n N m S), .int .i64 (Co.ck n N m S)]) ∧ Below w.heap.size w w' := by
  rcases Co.cfl_cases n N m S with ⟨eL, hno⟩ | ⟨a, b, l, eL, h0, h1, h2, h3⟩
  · obtain ⟨f1, f2, f3⟩ := Co.f_no hno
    have EL := Lib.hid eL
    clear eL
    rcases hno with hno | ⟨hno, _⟩
    · have h3 : (Co.ck n N m S != 0) = true := by simpa using hno
      clear hno
      rw [f1, f2, f3]
      go_enter Try.func20, Try.ntmps20
      go_wp2_with fail
      refine (rall_c _ _ _ _ _ _ _ _ _ (R.alloc _) (T.alloc _)).mono ?_
      rintro e w1 ⟨A1, c1, rfl, own, hb⟩
      rw [EL.out]
      obtain ⟨z0, z1, z2, z3⟩ := ((Blk.new w 30 #[.int .i64 0, .int .i64 0]).keep hb).open2
      go_wp2
      refine bodyPost_ret (by simp [results, Try.results20, go_sem, z0, z1, z2, z3]; try rfl) rfl ?_
      exact ⟨rfl, by repeat (first | exact Below.refl _ _ | (with_reducible assumption) | (with_reducible apply bal) | (with_reducible apply bdr) | (with_reducible apply bdnl) | (with_reducible refine bst ?_ (by first | (simp; done) | (simp; omega) | omega) _) | (with_reducible refine bt ?_ (by with_reducible assumption)))⟩
    · have H0 := Lib.hid hno
      clear hno
      rw [f1, f2, f3, H0.out]
      go_enter Try.func20, Try.ntmps20
      go_wp2_with fail
      refine (rall_c _ _ _ _ _ _ _ _ _ (R.alloc _) (T.alloc _)).mono ?_
      rintro e w1 ⟨A1, c1, rfl, own, hb⟩
      rw [EL.out, H0.out]
      obtain ⟨z0, z1, z2, z3⟩ := ((Blk.new w 30 #[.int .i64 0, .int .i64 0]).keep hb).open2
      go_wp2
      refine bodyPost_ret (by simp [results, Try.results20, go_sem, z0, z1, z2, z3]; try rfl) rfl ?_
      exact ⟨rfl, by repeat (first | exact Below.refl _ _ | (with_reducible assumption) | (with_reducible apply bal) | (with_reducible apply bdr) | (with_reducible apply bdnl) | (with_reducible refine bst ?_ (by first | (simp; done) | (simp; omega) | omega) _) | (with_reducible refine bt ?_ (by with_reducible assumption)))⟩
  · obtain ⟨f1, f2, f3⟩ := Co.f_yes h0 h1
    rw [h2] at f2
    rw [h3] at f3
    have EL := Lib.hid eL
    clear eL h1 h2 h3
    rw [f1, f2, f3, h0]
    have H0 := Lib.hid h0
    clear h0
    go_enter Try.func20, Try.ntmps20
    go_wp2_with fail
    refine (rall_c _ _ _ _ _ _ _ _ _ (R.alloc _) (T.alloc _)).mono ?_
    rintro e w1 ⟨A1, c1, rfl, own, hb⟩
    rw [EL.out, H0.out]
    rw [EL.out] at own
    obtain ⟨g, rfl, hg1, hg2⟩ := own.pos (by simp)
    have u0 : w1.cell? ⟨g, 0, none⟩ = some (.int .i64 (a : Int)) := own.cell (i := 0) (j := 0) (by simp) (by omega)
    have u1 : w1.cell? ⟨g, 1, none⟩ = some (.int .i64 (b : Int)) := own.cell (i := 0) (j := 1) (by simp) (by omega)
    obtain ⟨z0, z1, z2, z3⟩ := ((Blk.new w 30 #[.int .i64 0, .int .i64 0]).keep hb).open2
    go_wp2
    refine bodyPost_ret (by simp [results, Try.results20, go_sem, z0, z1, z2, z3]; try rfl) rfl ?_
    exact ⟨rfl, by repeat (first | exact Below.refl _ _ | (with_reducible assumption) | (with_reducible apply bal) | (with_reducible apply bdr) | (with_reducible apply bdnl) | (with_reducible refine bst ?_ (by first | (simp; done) | (simp; omega) | omega) _) | (with_reducible refine bt ?_ (by with_reducible assumption)))⟩

set_option maxHeartbeats 1000000 in
theorem rexcess_c (A B : Option Addr) (n c m d : Nat) (N S : Nat → Nat → Int) (I J : Int) (w : World) (R : Rd w 2 A n c (iv N)) (T : Rd w 2 B m d (iv S)) :
    Calls Try.prog 22 #[.slice A n c, .slice B m d, .agg #[.int .i64 I, .int .i64 J]] w fun e w' => e = .returned (.tuple #[.int .i64 (Co.xsV n N m S I J), .int .i64 (Co.xsE n N m S I J)]) ∧ Below w.heap.size w w' := by
  have r1 := R.le
  have r2 := R.mx
  by_cases hck : Co.ck n N m S = 0
  rotate_left
  · have h3 : (Co.ck n N m S != 0) = true := by simpa using hck
    have e1 : Co.xsE n N m S I J = Co.ck n N m S := by unfold Co.xsE; rw [if_pos hck]
    have e2 : Co.xsV n N m S I J = 0 := by unfold Co.xsV; rw [e1, if_neg hck]
    rw [e1, e2]
    clear hck e1 e2
    go_enter Try.func22, Try.ntmps22
    go_wp2_with fail
    refine (rcheck_c _ _ _ _ _ _ _ _ _ (R.alloc _) (T.alloc _)).mono ?_
    rintro e w1 ⟨rfl, hb⟩
    go_wp2
    go_returns
    exact ⟨rfl, by repeat (first | exact Below.refl _ _ | (with_reducible assumption) | (with_reducible apply bal) | (with_reducible apply bdr) | (with_reducible apply bdnl) | (with_reducible refine bst ?_ (by first | (simp; done) | (simp; omega) | omega) _) | (with_reducible refine bt ?_ (by with_reducible assumption)))⟩
  have O := Co.ck_ok.1 hck
  have hc := Lib.hid hck
  by_cases hb : I < 0 ∨ J < I ∨ (n : Int) ≤ J
  · have e1 : Co.xsE n N m S I J = 1 := by unfold Co.xsE; rw [if_neg (by omega), if_pos hb]
    have e2 : Co.xsV n N m S I J = 0 := by unfold Co.xsV; rw [e1]; rfl
    rw [e1, e2]
    clear hck e1 e2
    rcases (show I < 0 ∨ (0 ≤ I ∧ J < I) ∨ (0 ≤ I ∧ I ≤ J ∧ (n : Int) ≤ J) from by omega) with q | ⟨q1, q⟩ | ⟨q1, q2, q⟩
    all_goals
      clear hb
      go_enter Try.func22, Try.ntmps22
      go_wp2_with fail
      refine (rcheck_c _ _ _ _ _ _ _ _ _ (R.alloc _) (T.alloc _)).mono ?_
      rw [hc.out]
      rintro e w1 ⟨rfl, hb⟩
      obtain ⟨hc1, hf1⟩ := bcell hb
      have hz : w.heap.size < w1.heap.size := by have := hb.size; simp at this; omega
      go_wp2
      go_returns
      exact ⟨rfl, by repeat (first | exact Below.refl _ _ | (with_reducible assumption) | (with_reducible apply bal) | (with_reducible apply bdr) | (with_reducible apply bdnl) | (with_reducible refine bst ?_ (by first | (simp; done) | (simp; omega) | omega) _) | (with_reducible refine bt ?_ (by with_reducible assumption)))⟩
  · obtain ⟨i, rfl⟩ : ∃ i : Nat, I = i := ⟨I.toNat, by omega⟩
    obtain ⟨j, rfl⟩ : ∃ j : Nat, J = j := ⟨J.toNat, by omega⟩
    have hij : i ≤ j := by omega
    have hj : j < n := by omega
    by_cases hx : Co.ex N S i j ≤ 0
    · have e1 : Co.xsE n N m S i j = 6 := by unfold Co.xsE; rw [if_neg (by omega), if_neg hb, if_pos (by simpa using hx)]
      have e2 : Co.xsV n N m S i j = 0 := by unfold Co.xsV; rw [e1]; rfl
      rw [e1, e2]
      clear hck e1 e2 hb
      go_enter Try.func22, Try.ntmps22
      go_wp2_with fail
      refine (rcheck_c _ _ _ _ _ _ _ _ _ (R.alloc _) (T.alloc _)).mono ?_
      rw [hc.out]
      rintro e w1 ⟨rfl, hb⟩
      obtain ⟨hc1, hf1⟩ := bcell hb
      have hz : w.heap.size < w1.heap.size := by have := hb.size; simp at this; omega
      go_wp2_with fail
      refine (rex_c _ _ _ _ _ _ _ _ _ _ _ ((R.alloc _).keep hb) ((T.alloc _).keep hb) O hij hj).mono ?_
      rintro e w2 ⟨rfl, hb2⟩
      go_wp2
      go_returns
      exact ⟨rfl, by repeat (first | exact Below.refl _ _ | (with_reducible assumption) | (with_reducible apply bal) | (with_reducible apply bdr) | (with_reducible apply bdnl) | (with_reducible refine bst ?_ (by first | (simp; done) | (simp; omega) | omega) _) | (with_reducible refine bt ?_ (by with_reducible assumption)))⟩
    · have e1 : Co.xsE n N m S i j = 0 := by unfold Co.xsE; rw [if_neg (by omega), if_neg hb, if_neg (by simpa using hx)]
      have e2 : Co.xsV n N m S i j = Co.ex N S i j := by unfold Co.xsV; rw [e1]; simp
      rw [e1, e2]
      clear hck e1 e2 hb
      go_enter Try.func22, Try.ntmps22
      go_wp2_with fail
      refine (rcheck_c _ _ _ _ _ _ _ _ _ (R.alloc _) (T.alloc _)).mono ?_
      rw [hc.out]
      rintro e w1 ⟨rfl, hb⟩
      obtain ⟨hc1, hf1⟩ := bcell hb
      have hz : w.heap.size < w1.heap.size := by have := hb.size; simp at this; omega
      go_wp2_with fail
      refine (rex_c _ _ _ _ _ _ _ _ _ _ _ ((R.alloc _).keep hb) ((T.alloc _).keep hb) O hij hj).mono ?_
      rintro e w2 ⟨rfl, hb2⟩
      go_wp2
      go_returns
      exact ⟨rfl, by repeat (first | exact Below.refl _ _ | (with_reducible assumption) | (with_reducible apply bal) | (with_reducible apply bdr) | (with_reducible apply bdnl) | (with_reducible refine bst ?_ (by first | (simp; done) | (simp; omega) | omega) _) | (with_reducible refine bt ?_ (by with_reducible assumption)))⟩
end Go.Proofs.Ytgfmheaijdcgoaa
