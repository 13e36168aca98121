/-
  Contract: the program's All.
-/
import Derived.Test.YtpipjpgcnbpllaaW8
namespace Go.Proofs.Ytpipjpgcnbpllaa
set_option linter.unusedVariables false
set_option linter.unusedSimpArgs false
open Go.RowKit

set_option maxRecDepth 100000 in
set_option maxHeartbeats 4000000 in
theorem all_c (A B : Option Addr) (n c m d : Nat) (N S : Nat → Nat → Int) (w : World) (R : Rd w 2 A n c (iv N)) (T : Rd w 2 B m d (iv S)) :
    Calls Try.prog 15 #[.slice A n c, .slice B m d] w (AllPost n N m S w) := by
  by_cases hck : Co.ck n N m S = 0
  rotate_left
  · have h3 : (Co.ck n N m S != 0) = true := by simpa using hck
    have e2 := Lib.hid (show Co.cfl n N m S = [] from if_neg hck)
    clear hck
    go_enter Try.func15, Try.ntmps15
    go_wp2_with fail
    refine (check_c _ _ _ _ _ _ _ _ _ R T).mono ?_
    rintro e w1 ⟨rfl, hb⟩
    go_wp2
    go_returns
    refine ⟨none, 0, ?_, ?_, hb⟩
    · rw [e2.out]; rfl
    · rw [e2.out]; exact Own.nil _ _ _ _ _
  have O := Co.ck_ok.1 hck
  have hn := O.hn
  have r1 := R.le
  have hc := Lib.hid hck
  have e2 := Lib.hid (show Co.cfl n N m S = Co.cfs n N S from if_pos hck)
  clear hck
  obtain ⟨i0, hi, hz0, hz1, hz2⟩ := info_parts infoC
  have HI := Lib.hid hi
  have HZ0 := Lib.hid hz0
  have HZ1 := Lib.hid hz1
  have HZ2 := Lib.hid hz2
  clear hi hz0 hz1 hz2
  go_enter Try.func15, Try.ntmps15
  go_wp2_with fail
  refine (check_c _ _ _ _ _ _ _ _ _ R T).mono ?_
  rw [hc.out]
  rintro e w1 ⟨rfl, hb⟩
  go_wp2
  go_loopw [7, 8, 19] (fun s p i wr => ∃ k : Nat, k ≤ n ∧ i = .int .i64 k ∧ Two w.heap.size (Co.sgl N S k) (Co.prs N S n k) s p wr ∧ Below w.heap.size w wr) (fun _ _ i _ => n - (intOf i).toNat)
  case atStart => exact ⟨0, Nat.zero_le _, rfl, Two.nil _ _, hb⟩
  case round =>
    clear hb
    rename_i wr
    obtain ⟨k, hk, rfl, hT, hB⟩ := hrel
    by_cases hlt : k < n
    · obtain ⟨wo, rfl⟩ : ∃ wo : World, wo = wr := ⟨_, rfl⟩
      rw [← Co.sI_start N S k, ← Co.pI_start n N S k] at hT
      go_wp2
      go_loopw [7, 8, 10] (fun s p i wq => ∃ j : Nat, k ≤ j ∧ j ≤ n ∧ i = .int .i64 j ∧ Two w.heap.size (Co.sI N S k j) (Co.pI n N S k j) s p wq ∧ Below w.heap.size w wq) (fun _ _ i _ => n - (intOf i).toNat)
      case atStart => exact ⟨k, Nat.le_refl _, hk, rfl, hT, hB⟩
      case round =>
        clear hT hB
        rename_i wr
        obtain ⟨j, hkj, hj, rfl, hT, hB⟩ := hrel
        obtain ⟨A1, c1, A2, c2, rfl, rfl, o1, o2, s1, s2⟩ := hT.h
        by_cases hlj : j < n
        · by_cases hx : Co.ex N S k j ≤ 0
          · have hN := Lib.hid (Co.none_step (n := n) hkj hx)
            go_wp2_with fail
            refine (ex_c _ _ _ _ _ _ _ _ _ _ _ (R.keep hB) (T.keep hB) O hkj hlj).mono ?_
            rintro e w2 ⟨rfl, hb2⟩
            go_wp2
            go_roundw
            case rel => exact ⟨j + 1, by omega, by omega, by go_num, by rw [hN.out.1, hN.out.2]; exact hT.keep hb2, bt hB hb2⟩
            case measure => simp [intOf]; omega
          · have hz := hB.size
            by_cases hjk : j = k
            · subst hjk
              have hN := Lib.hid (Co.one_step (n := n) (show 0 < Co.ex N S j j by omega))
              have hL := Co.sI_len N S j j
              go_wp2_with fail
              refine (ex_c _ _ _ _ _ _ _ _ _ _ _ (R.keep hB) (T.keep hB) O hkj hlj).mono ?_
              rintro e w2 ⟨rfl, hb2⟩
              have p1 := o1.keep hb2
              have p2 := o2.keep hb2
              have hz2 := hb2.size
              go_wp2_with (at_builtin; refine wpList_append_Rd _ rfl _ _ 53 rfl w.heap.size 42 i0 _ 2 16 Try.underlying53 HI.out HZ0.out HZ1.out HZ2.out rfl (by decide) rfl (p1.alloc _) rfl (rd_pair _ _ _ _) (one_iv _) (by omega) (by omega) (by simp; omega) ?_; intro A' c' w3 own' hgr hob)
              have hz3 := hgr.size
              obtain ⟨t1, t2⟩ := apart_grow (p2.alloc _) s1 s2 hob
              have q2 := (p2.alloc (.cells #[.int .i64 j, .int .i64 j] 42)).kept hgr s2
              have own2 := own_snoc own'
              have hB3 : Below w.heap.size w w3 := (bal (bt hB hb2) _).trans (below_grown hgr (fun g hg => p1.base hg) (by simp; omega))
              clear p1 p2 own' hgr hob s1 s2 o1 o2
              go_wp2
              go_roundw
              case rel => exact ⟨j + 1, by omega, by omega, by go_num, by rw [hN.out.1, hN.out.2]; exact ⟨A', c', _, _, by simp, rfl, own2, q2, t1, t2⟩, hB3⟩
              case measure => simp [intOf]; omega
            · have hN := Lib.hid (Co.pair_step (n := n) (show k < j by omega) (show 0 < Co.ex N S k j by omega))
              have g0 : ((k : Int) == (j : Int)) = false := by simp; omega
              have hL := Co.pI_len N S (k := k) (j := j) (n := n) (by omega) (by omega) (by omega)
              go_wp2_with fail
              refine (ex_c _ _ _ _ _ _ _ _ _ _ _ (R.keep hB) (T.keep hB) O hkj hlj).mono ?_
              rintro e w2 ⟨rfl, hb2⟩
              have p1 := o1.keep hb2
              have p2 := o2.keep hb2
              have hz2 := hb2.size
              go_wp2_with (at_builtin; refine wpList_append_Rd _ rfl _ _ 53 rfl w.heap.size 42 i0 _ 2 16 Try.underlying53 HI.out HZ0.out HZ1.out HZ2.out rfl (by decide) rfl (p2.alloc _) rfl (rd_pair _ _ _ _) (one_iv _) (by omega) (by omega) (by simp; omega) ?_; intro A' c' w3 own' hgr hob)
              have hz3 := hgr.size
              obtain ⟨t1, t2⟩ := apart_grow (p1.alloc _) s2 s1 hob
              have q1 := (p1.alloc (.cells #[.int .i64 k, .int .i64 j] 42)).kept hgr s1
              have own2 := own_snoc own'
              have hB3 : Below w.heap.size w w3 := (bal (bt hB hb2) _).trans (below_grown hgr (fun g hg => p2.base hg) (by simp; omega))
              clear p1 p2 own' hgr hob s1 s2 o1 o2
              go_wp2
              go_roundw
              case rel => exact ⟨j + 1, by omega, by omega, by go_num, by rw [hN.out.1, hN.out.2]; exact ⟨_, _, A', c', rfl, by simp, q1, own2, t2, t1⟩, hB3⟩
              case measure => simp [intOf]; omega
        · obtain rfl : j = n := by omega
          have hN := Lib.hid (Co.end_step (N := N) (S := S) hlt)
          go_wp2
          go_roundw
          case rel => exact ⟨k + 1, by omega, by go_num, by rw [← hN.out.1, ← hN.out.2]; exact hT, hB⟩
          case measure => simp [intOf]; omega
    · obtain rfl : k = n := by omega
      obtain ⟨A1, c1, A2, c2, rfl, rfl, o1, o2, s1, s2⟩ := hT.h
      have hz := hB.size
      have hL1 := Co.sgl_len N S k
      have hL2 := Co.prs_len k N S k
      have hL3 := Co.mul64 hn hn
      go_wp2_with (at_builtin; refine wpList_append_Rd _ rfl _ _ 53 rfl w.heap.size 42 i0 _ 2 16 Try.underlying53 HI.out HZ0.out HZ1.out HZ2.out rfl (by decide) rfl o1 rfl o2.rd (one_iv _) (by omega) (by omega) (by omega) ?_; intro A' c' w3 own' hgr hob)
      have own2 := own_join own'
      have hB3 : Below w.heap.size w w3 := hB.trans (below_grown hgr (fun g hg => o1.base hg) (by omega))
      clear own' hgr hob s1 s2 o1 o2
      go_wp2
      go_returns
      refine ⟨A', c', ?_, ?_, hB3⟩
      · rw [e2.out, hc.out]; unfold Co.cfs; rw [List.length_append]; first | rfl | simp
      · rw [e2.out]; exact own2
end Go.Proofs.Ytpipjpgcnbpllaa
