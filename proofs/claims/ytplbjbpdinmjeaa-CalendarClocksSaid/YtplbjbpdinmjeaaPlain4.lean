/-
  Plain texts of the calendar: digits, numbers; no program in sight.
-/
import Derived.Test.YtplbjbpdinmjeaaPlain3
namespace Go.Proofs.Ytplbjbpdinmjeaa
set_option linter.unusedVariables false
namespace Cal
def dg (n : Int) : UInt8 := UInt8.ofNat (48 + n % 10).toNat
def D2 (n : Int) : ByteArray := ⟨#[dg (n / 10), dg n]⟩
def D4 (n : Int) : ByteArray := ⟨#[dg (n / 10 / 10 / 10), dg (n / 10 / 10), dg (n / 10), dg n]⟩
def isd (c : UInt8) : Bool := decide (48 ≤ c.toNat ∧ c.toNat ≤ 57)
def nv (l : List UInt8) : Int := l.foldl (fun a c => 10 * a + ((c.toNat : Int) - 48)) 0
def nok (l : List UInt8) : Bool := l.all isd
/-- What 'number' hands back: the number, and whether it is one. -/
def nV (s : ByteArray) : Int := if nok s.data.toList = true then nv s.data.toList else 0
def nR (s : ByteArray) : Int := if nok s.data.toList = true then nv s.data.toList else -1
def nb (s : ByteArray) : Int := nv s.data.toList
def nB (s : ByteArray) : Bool := nok s.data.toList

theorem dg_nat (n : Int) : ((dg n).toNat : Int) = 48 + n % 10 := by
  unfold dg
  rw [UInt8.toNat_ofNat']
  omega
theorem dg_isd (n : Int) : isd (dg n) = true := by
  have := dg_nat n
  unfold isd; exact decide_eq_true (by omega)
theorem D2_size (n : Int) : (D2 n).size = 2 := rfl
theorem D4_size (n : Int) : (D4 n).size = 4 := rfl
theorem nv_snoc (l : List UInt8) (c : UInt8) : nv (l ++ [c]) = 10 * nv l + ((c.toNat : Int) - 48) := by simp [nv]
theorem nok_snoc (l : List UInt8) (c : UInt8) : nok (l ++ [c]) = (nok l && isd c) := by simp [nok]
theorem nv_bd (k : Nat) : ∀ l : List UInt8, l.length = k → nok l = true → 0 ≤ nv l ∧ nv l < 10 ^ k := by
  induction k with
  | zero => intro l hl _; have := List.eq_nil_of_length_eq_zero hl; subst this; simp [nv]
  | succ k ih =>
    intro l hl h
    have hne : l ≠ [] := by intro h0; subst h0; simp at hl
    have e := List.dropLast_concat_getLast hne
    rw [← e, nok_snoc, Bool.and_eq_true] at h
    have a := ih l.dropLast (by simp [hl]) h.1
    rw [← e, nv_snoc]
    have b := of_decide_eq_true h.2
    rw [Int.pow_succ]
    omega
theorem nv_bd18 (l : List UInt8) (hl : l.length ≤ 18) (h : nok l = true) : 0 ≤ nv l ∧ nv l < 1000000000000000000 := by
  have a := nv_bd l.length l rfl h
  have b : (10 : Int) ^ l.length ≤ 10 ^ 18 := by
    have : (10 : Nat) ^ l.length ≤ 10 ^ 18 := Nat.pow_le_pow_right (by omega) hl
    exact_mod_cast this
  have c : (10 : Int) ^ 18 = 1000000000000000000 := by decide
  omega
theorem take_snoc (s : ByteArray) (k : Nat) (h : k < s.size) : s.data.toList.take (k + 1) = s.data.toList.take k ++ [s[k]] := by
  rw [List.take_succ_eq_append_getElem (by simpa using h)]; rfl
theorem take_all (s : ByteArray) : s.data.toList.take s.size = s.data.toList := List.take_of_length_le (by simp)
theorem nok_false (s : ByteArray) (k : Nat) (h : k < s.size) (hd : isd s[k] = false) : nok s.data.toList = false := by
  unfold nok
  rw [List.all_eq_false]
  refine ⟨s[k], ?_, by simp [hd]⟩
  have : s[k] = s.data.toList[k]'(by simpa using h) := rfl
  rw [this]; exact List.getElem_mem _
theorem isd_lo (c : UInt8) (h : (c.toNat : Int) < 48) : isd c = false := decide_eq_false (by omega)
theorem isd_hi (c : UInt8) (h : 57 < (c.toNat : Int)) : isd c = false := decide_eq_false (by omega)
theorem isd_in (c : UInt8) (h : ¬ (c.toNat : Int) < 48) (h2 : ¬ 57 < (c.toNat : Int)) : isd c = true := decide_eq_true (by omega)

/-! Dates and times of day as texts -/
def dash : ByteArray := ⟨#[45]⟩
def colon : ByteArray := ⟨#[58]⟩
def dateB (day : Int) : ByteArray := if inDay day = true then D4 (yr day) ++ dash ++ D2 (mo day) ++ dash ++ D2 (dom day) else ByteArray.empty
def clockB (c : Int) : ByteArray := D2 (c / 6000) ++ colon ++ D2 (c % 6000 / 100)
def pdOk (s : ByteArray) : Bool :=
  if h : s.size = 10 then decide ((s[4].toNat : Int) = 45) && decide ((s[7].toNat : Int) = 45) && nB (s.extract 0 4) && nB (s.extract 5 7) && nB (s.extract 8 10) else false
def pdV (s : ByteArray) : Int := if pdOk s = true then daysV (nb (s.extract 0 4)) (nb (s.extract 5 7)) (nb (s.extract 8 10)) else 0
def pdE (s : ByteArray) : Int := if pdOk s = true then daysE (nb (s.extract 0 4)) (nb (s.extract 5 7)) (nb (s.extract 8 10)) else 4
def pcOk (s : ByteArray) : Bool :=
  if h : s.size = 5 then decide ((s[2].toNat : Int) = 58) && nB (s.extract 0 2) && nB (s.extract 3 5) else false
def hmOk (h m : Int) : Bool := decide (h ≤ 23 ∧ m ≤ 59)
def pcV (s : ByteArray) : Int := if pcOk s = true ∧ hmOk (nb (s.extract 0 2)) (nb (s.extract 3 5)) = true then nb (s.extract 0 2) * 6000 + nb (s.extract 3 5) * 100 else 0
def pcE (s : ByteArray) : Int := if pcOk s = true then (if hmOk (nb (s.extract 0 2)) (nb (s.extract 3 5)) = true then 0 else 2) else 4
def pyOk (s : ByteArray) : Bool := if s.size = 4 then nB s else false
def pyV (s : ByteArray) : Int := if pyOk s = true ∧ cok (nb s) = true then nb s else 0
def pyE (s : ByteArray) : Int := if pyOk s = true then cdE (nb s) else 4

theorem pd_bad (s : ByteArray) (h : pdOk s = false) : pdV s = 0 ∧ pdE s = 4 := by
  unfold pdV pdE; rw [if_neg (by simp [h]), if_neg (by simp [h])]; exact ⟨rfl, rfl⟩
theorem pd_good (s : ByteArray) (h : pdOk s = true) : pdV s = daysV (nb (s.extract 0 4)) (nb (s.extract 5 7)) (nb (s.extract 8 10)) ∧
    pdE s = daysE (nb (s.extract 0 4)) (nb (s.extract 5 7)) (nb (s.extract 8 10)) := by
  unfold pdV pdE; rw [if_pos h, if_pos h]; exact ⟨rfl, rfl⟩
theorem pd_len (s : ByteArray) (h : ¬ s.size = 10) : pdOk s = false := by unfold pdOk; rw [dif_neg h]
theorem pd_at (s : ByteArray) (h : s.size = 10) : pdOk s = (decide ((s[4].toNat : Int) = 45) && decide ((s[7].toNat : Int) = 45) && nB (s.extract 0 4) && nB (s.extract 5 7) && nB (s.extract 8 10)) := by
  unfold pdOk; rw [dif_pos h]
theorem pc_bad (s : ByteArray) (h : pcOk s = false) : pcV s = 0 ∧ pcE s = 4 := by
  unfold pcV pcE; rw [if_neg (by simp [h]), if_neg (by simp [h])]; exact ⟨rfl, rfl⟩
theorem pc_range (s : ByteArray) (h : pcOk s = true) (h2 : hmOk (nb (s.extract 0 2)) (nb (s.extract 3 5)) = false) : pcV s = 0 ∧ pcE s = 2 := by
  have h2' : ¬ hmOk (nb (s.extract 0 2)) (nb (s.extract 3 5)) = true := by rw [h2]; decide
  unfold pcV pcE; rw [if_neg (fun q => h2' q.2), if_pos h, if_neg h2']; exact ⟨rfl, rfl⟩
theorem pc_good (s : ByteArray) (h : pcOk s = true) (h2 : hmOk (nb (s.extract 0 2)) (nb (s.extract 3 5)) = true) :
    pcV s = nb (s.extract 0 2) * 6000 + nb (s.extract 3 5) * 100 ∧ pcE s = 0 := by
  unfold pcV pcE; rw [if_pos ⟨h, h2⟩, if_pos h, if_pos h2]; exact ⟨rfl, rfl⟩
theorem pc_len (s : ByteArray) (h : ¬ s.size = 5) : pcOk s = false := by unfold pcOk; rw [dif_neg h]
theorem pc_at (s : ByteArray) (h : s.size = 5) : pcOk s = (decide ((s[2].toNat : Int) = 58) && nB (s.extract 0 2) && nB (s.extract 3 5)) := by
  unfold pcOk; rw [dif_pos h]
theorem py_bad (s : ByteArray) (h : pyOk s = false) : pyV s = 0 ∧ pyE s = 4 := by
  unfold pyV pyE; rw [if_neg (by simp [h]), if_neg (by simp [h])]; exact ⟨rfl, rfl⟩
theorem py_none (s : ByteArray) (h : pyOk s = true) (h2 : cok (nb s) = false) : pyV s = 0 ∧ pyE s = cdE (nb s) := by
  unfold pyV pyE; rw [if_neg (by simp [h2]), if_pos h]; exact ⟨rfl, rfl⟩
theorem py_good (s : ByteArray) (h : pyOk s = true) (h2 : cok (nb s) = true) : pyV s = nb s ∧ pyE s = 0 := by
  unfold pyV pyE; rw [if_pos ⟨h, h2⟩, if_pos h, (cd_yes _ h2).2.2]; exact ⟨rfl, rfl⟩
theorem py_at (s : ByteArray) (h : s.size = 4) : pyOk s = nB s := by unfold pyOk; rw [if_pos h]
theorem py_len (s : ByteArray) (h : ¬ s.size = 4) : pyOk s = false := by unfold pyOk; rw [if_neg h]
theorem nv_len (l : List UInt8) (k : Nat) (hl : l.length = k) (h : nok l = true) (hk : k ≤ 4) : 0 ≤ nv l ∧ nv l ≤ 9999 := by
  have a := nv_bd k l hl h
  have hk' : k = 0 ∨ k = 1 ∨ k = 2 ∨ k = 3 ∨ k = 4 := by omega
  rcases hk' with rfl | rfl | rfl | rfl | rfl <;> (simp at a; omega)

theorem D2_list (n : Int) : (D2 n).data.toList = [dg (n / 10), dg n] := rfl
theorem D4_list (n : Int) : (D4 n).data.toList = [dg (n / 10 / 10 / 10), dg (n / 10 / 10), dg (n / 10), dg n] := rfl
theorem nok_D2 (n : Int) : nB (D2 n) = true := by simp [nB, D2_list, nok, dg_isd]
theorem nok_D4 (n : Int) : nB (D4 n) = true := by simp [nB, D4_list, nok, dg_isd]
theorem nv_D2 (n : Int) (h1 : 0 ≤ n) (h2 : n ≤ 99) : nb (D2 n) = n := by
  simp only [nb, D2_list, nv, List.foldl_cons, List.foldl_nil, dg_nat]; omega
theorem nv_D4 (n : Int) (h1 : 0 ≤ n) (h2 : n ≤ 9999) : nb (D4 n) = n := by
  simp only [nb, D4_list, nv, List.foldl_cons, List.foldl_nil, dg_nat]; omega

theorem date_bytes (y m d : Int) : D4 y ++ dash ++ D2 m ++ dash ++ D2 d = ⟨#[dg (y / 10 / 10 / 10), dg (y / 10 / 10), dg (y / 10), dg y, 45, dg (m / 10), dg m, 45, dg (d / 10), dg d]⟩ := by
  apply ByteArray.ext
  simp [D4, D2, dash, ByteArray.data_append]
theorem clock_bytes (h m : Int) : D2 h ++ colon ++ D2 m = ⟨#[dg (h / 10), dg h, 58, dg (m / 10), dg m]⟩ := by
  apply ByteArray.ext
  simp [D2, colon, ByteArray.data_append]
theorem date_yes (day : Int) (h1 : 0 ≤ day) (h2 : day ≤ 36524) : dateB day = D4 (yr day) ++ dash ++ D2 (mo day) ++ dash ++ D2 (dom day) := by
  unfold dateB; rw [if_pos (show inDay day = true from decide_eq_true ⟨h1, h2⟩)]
theorem date_back (day : Int) (h1 : 0 ≤ day) (h2 : day ≤ 36524) : pdV (dateB day) = day ∧ pdE (dateB day) = 0 ∧ (dateB day).size = 10 := by
  have a := yr_bd day h1 h2
  have b := mo_bd day
  have c := dom_bd day h1 h2
  have d := md_bd (yr day) (mo day)
  have e := days_date day h1 h2
  rw [date_yes day h1 h2, date_bytes]
  generalize hs : (⟨#[dg (yr day / 10 / 10 / 10), dg (yr day / 10 / 10), dg (yr day / 10), dg (yr day), 45, dg (mo day / 10), dg (mo day), 45, dg (dom day / 10), dg (dom day)]⟩ : ByteArray) = s
  have hsz : s.size = 10 := by subst hs; rfl
  have x1 : s.extract 0 4 = D4 (yr day) := by subst hs; apply ByteArray.ext; rfl
  have x2 : s.extract 5 7 = D2 (mo day) := by subst hs; apply ByteArray.ext; rfl
  have x3 : s.extract 8 10 = D2 (dom day) := by subst hs; apply ByteArray.ext; rfl
  have y1 : (s[4].toNat : Int) = 45 := by subst hs; rfl
  have y2 : (s[7].toNat : Int) = 45 := by subst hs; rfl
  have ok : pdOk s = true := by rw [pd_at s hsz, x1, x2, x3, nok_D4, nok_D2, nok_D2]; simp [y1, y2]
  obtain ⟨g1, g2⟩ := pd_good s ok
  rw [g1, g2, x1, x2, x3, nv_D4 _ (by omega) (by omega), nv_D2 _ (by omega) (by omega), nv_D2 _ (by omega) (by omega)]
  exact ⟨e.1, e.2, hsz⟩
theorem clock_back (c : Int) (h1 : 0 ≤ c) (h2 : c < 144000) : pcV (clockB c) = c / 6000 * 6000 + c % 6000 / 100 * 100 ∧ pcE (clockB c) = 0 ∧ (clockB c).size = 5 := by
  unfold clockB
  rw [clock_bytes]
  generalize hs : (⟨#[dg (c / 6000 / 10), dg (c / 6000), 58, dg (c % 6000 / 100 / 10), dg (c % 6000 / 100)]⟩ : ByteArray) = s
  have hsz : s.size = 5 := by subst hs; rfl
  have x1 : s.extract 0 2 = D2 (c / 6000) := by subst hs; apply ByteArray.ext; rfl
  have x2 : s.extract 3 5 = D2 (c % 6000 / 100) := by subst hs; apply ByteArray.ext; rfl
  have y1 : (s[2].toNat : Int) = 58 := by subst hs; rfl
  have ok : pcOk s = true := by rw [pc_at s hsz, x1, x2, nok_D2, nok_D2]; simp [y1]
  have n1 := nv_D2 (c / 6000) (by omega) (by omega)
  have n2 := nv_D2 (c % 6000 / 100) (by omega) (by omega)
  obtain ⟨g1, g2⟩ := pc_good s ok (by rw [x1, x2, n1, n2]; exact decide_eq_true (by omega))
  rw [g1, g2, x1, x2, n1, n2]
  exact ⟨rfl, rfl, hsz⟩
theorem num_back (n : Int) (h : cok n = true) : pyV (D4 n) = n ∧ pyE (D4 n) = 0 := by
  have a := cok_parts n h
  have e := nv_D4 n (by omega) (by omega)
  have ok : pyOk (D4 n) = true := by rw [py_at _ rfl, nok_D4]
  obtain ⟨g1, g2⟩ := py_good (D4 n) ok (by rw [e]; exact h)
  rw [g1, g2, e]
  exact ⟨rfl, rfl⟩
end Cal
end Go.Proofs.Ytplbjbpdinmjeaa
