/-
  Plain arithmetic of cycles, instants; no program in sight.
-/
import Derived.Test.YtplbjbpdinmjeaaPlain
namespace Go.Proofs.Ytplbjbpdinmjeaa
set_option linter.unusedVariables false
namespace Cal
def fo (y : Int) : Int := if jan y ≤ 26 then 26 else 26 + (jan y - 26 + 27) / 28 * 28
def nof (f : Int) : Int := yr f % 100 * 100 + (f - fo (yr f)) / 28 + 1
def cf (n : Int) : Int := fo (2000 + n / 100) + (n % 100 - 1) * 28
def cok (n : Int) : Bool := decide (0 ≤ n ∧ n ≤ 9999 ∧ n % 100 ≠ 0 ∧ cf n ≤ 36524 ∧ yr (cf n) = 2000 + n / 100)
def cdA (n : Int) : Int := if cok n = true then cf n else 0
def cdB (n : Int) : Int := if cok n = true then cf n + 28 else 0
def cdE (n : Int) : Int := if n < 0 ∨ 9999 < n then 2 else if cok n = true then 0 else 6
def cyOk (day : Int) : Bool := decide (26 ≤ day ∧ day ≤ 36524)
def cyF (day : Int) : Int := day - (day - 26) % 28
def laOk (number n : Int) : Bool := decide (-2000 ≤ n ∧ n ≤ 2000 ∧ 26 ≤ cf number + 28 * n ∧ cf number + 28 * n ≤ 36524)
def laV (number n : Int) : Int := if cok number = true ∧ laOk number n = true then nof (cf number + 28 * n) else 0
def laE (number n : Int) : Int := if number < 0 ∨ 9999 < number then 2 else if cok number = true then (if laOk number n = true then 0 else 2) else 6
def spOk (t : Int) : Bool := decide (0 ≤ t ∧ t / 144000 ≤ 36524)
def spA (t : Int) : Int := if spOk t = true then t / 144000 else 0
def spB (t : Int) : Int := if spOk t = true then t % 144000 else 0
def spE (t : Int) : Int := if spOk t = true then 0 else 2
def jnOk (d c : Int) : Bool := decide (0 ≤ d ∧ d ≤ 36524 ∧ 0 ≤ c ∧ c < 144000)
def jnV (d c : Int) : Int := if jnOk d c = true then d * 144000 + c else 0
def jnE (d c : Int) : Int := if jnOk d c = true then 0 else 2

theorem fo_bd (y : Int) (h1 : 2000 ≤ y) (h2 : y ≤ 2099) : 26 ≤ fo y ∧ jan y ≤ fo y ∧ fo y < jan y + 28 + 26 ∧ fo y % 28 = 26 ∧ fo y ≤ 36525 + 28 := by
  have := jan_bd y h1 (by omega)
  unfold fo; split <;> omega
theorem fo_le (y f : Int) (h3 : jan y ≤ f) (h4 : 26 ≤ f) (h5 : f % 28 = 26) : fo y ≤ f := by
  unfold fo; split <;> omega
theorem fo_lt (y f : Int) (h1 : 2000 ≤ y) (h2 : y ≤ 2099) (h4 : f < jan (y + 1)) : f < fo y + 366 := by
  have := jan_bd y h1 (by omega)
  have := jan_succ y
  have := lp_01 y
  unfold fo; split <;> omega
theorem nof_parts (f : Int) (h1 : 26 ≤ f) (h2 : f ≤ 36524) (h3 : f % 28 = 26) :
    2000 ≤ yr f ∧ yr f ≤ 2099 ∧ fo (yr f) ≤ f ∧ f - fo (yr f) < 366 ∧ nof f = (yr f - 2000) * 100 + (f - fo (yr f)) / 28 + 1 ∧ (f - fo (yr f)) % 28 = 0 := by
  have a := yr_bd f (by omega) h2
  have b := fo_le (yr f) f (by omega) h1 h3
  have c := fo_lt (yr f) f (by omega) (by omega) (by omega)
  have d := fo_bd (yr f) (by omega) (by omega)
  unfold nof
  refine ⟨by omega, by omega, b, by omega, by omega, by omega⟩
theorem nof_bd (f : Int) (h1 : 26 ≤ f) (h2 : f ≤ 36524) (h3 : f % 28 = 26) : 0 ≤ nof f ∧ nof f ≤ 9999 := by
  have := nof_parts f h1 h2 h3; omega
theorem nof_quot (f : Int) (h1 : 26 ≤ f) (h2 : f ≤ 36524) (h3 : f % 28 = 26) : nof f / 100 = yr f - 2000 ∧ nof f % 100 = (f - fo (yr f)) / 28 + 1 := by
  have := nof_parts f h1 h2 h3; omega
theorem cf_nof (f : Int) (h1 : 26 ≤ f) (h2 : f ≤ 36524) (h3 : f % 28 = 26) : cf (nof f) = f := by
  have a := nof_parts f h1 h2 h3
  obtain ⟨b, c⟩ := nof_quot f h1 h2 h3
  unfold cf
  rw [b, c, show 2000 + (yr f - 2000) = yr f by omega]; omega
theorem cok_nof (f : Int) (h1 : 26 ≤ f) (h2 : f ≤ 36524) (h3 : f % 28 = 26) : cok (nof f) = true := by
  have a := nof_parts f h1 h2 h3
  obtain ⟨b, c⟩ := nof_quot f h1 h2 h3
  have d := cf_nof f h1 h2 h3
  have e := nof_bd f h1 h2 h3
  unfold cok
  rw [d]
  exact decide_eq_true ⟨by omega, by omega, by omega, by omega, by omega⟩
theorem cf_mod (n : Int) (h1 : 0 ≤ n) (h2 : n ≤ 9999) : cf n % 28 = 26 := by
  have := fo_bd (2000 + n / 100) (by omega) (by omega)
  unfold cf; omega
theorem cf_bd (n : Int) (h1 : 0 ≤ n) (h2 : n ≤ 9999) (h3 : n % 100 ≠ 0) : 26 ≤ cf n ∧ cf n ≤ 40000 := by
  have := fo_bd (2000 + n / 100) (by omega) (by omega)
  unfold cf; omega
theorem nof_cf (n : Int) (h1 : 0 ≤ n) (h2 : n ≤ 9999) (h3 : n % 100 ≠ 0) (h4 : cf n ≤ 36524) : (nof (cf n) = n ↔ yr (cf n) = 2000 + n / 100) := by
  have a := cf_bd n h1 h2 h3
  have m := cf_mod n h1 h2
  have b := nof_parts (cf n) a.1 h4 m
  constructor
  · intro h; omega
  · intro h
    rw [h] at b
    have e : cf n - fo (2000 + n / 100) = (n % 100 - 1) * 28 := by unfold cf; omega
    rw [e] at b
    omega
theorem cok_parts (n : Int) (h : cok n = true) : 0 ≤ n ∧ n ≤ 9999 ∧ n % 100 ≠ 0 ∧ 26 ≤ cf n ∧ cf n ≤ 36524 ∧ cf n % 28 = 26 ∧ nof (cf n) = n ∧ yr (cf n) = 2000 + n / 100 := by
  unfold cok at h
  have h := of_decide_eq_true h
  exact ⟨h.1, h.2.1, h.2.2.1, (cf_bd n h.1 h.2.1 h.2.2.1).1, h.2.2.2.1, cf_mod n h.1 h.2.1, (nof_cf n h.1 h.2.1 h.2.2.1 h.2.2.2.1).2 h.2.2.2.2, h.2.2.2.2⟩
theorem cyF_parts (day : Int) (h1 : 26 ≤ day) (h2 : day ≤ 36524) : 26 ≤ cyF day ∧ cyF day ≤ 36524 ∧ cyF day % 28 = 26 ∧ cyF day ≤ day ∧ day < cyF day + 28 := by
  unfold cyF; omega
theorem sp_yes (t : Int) (h1 : 0 ≤ t) (h2 : t / 144000 ≤ 36524) : spOk t = true := decide_eq_true ⟨h1, h2⟩
theorem sp_no (t : Int) (h : t < 0 ∨ 36524 < t / 144000) : spOk t = false := decide_eq_false (by omega)
theorem jn_yes (d c : Int) (h : 0 ≤ d ∧ d ≤ 36524 ∧ 0 ≤ c ∧ c < 144000) : jnOk d c = true := decide_eq_true h
theorem jn_no (d c : Int) (h : ¬ (0 ≤ d ∧ d ≤ 36524 ∧ 0 ≤ c ∧ c < 144000)) : jnOk d c = false := decide_eq_false h
theorem cd_yes (n : Int) (h : cok n = true) : cdA n = cf n ∧ cdB n = cf n + 28 ∧ cdE n = 0 := by
  have := cok_parts n h
  unfold cdA cdB cdE; rw [if_pos h, if_pos h, if_neg (by omega), if_pos h]; exact ⟨rfl, rfl, rfl⟩
theorem cd_none (n : Int) (h1 : 0 ≤ n) (h2 : n ≤ 9999) (h : cok n = false) : cdA n = 0 ∧ cdB n = 0 ∧ cdE n = 6 := by
  have h' : ¬ cok n = true := by simp [h]
  unfold cdA cdB cdE; rw [if_neg h', if_neg h', if_neg (by omega), if_neg h']; exact ⟨rfl, rfl, rfl⟩
theorem cok_out (n : Int) (h : n < 0 ∨ 9999 < n) : cok n = false := decide_eq_false (by omega)
theorem cd_range (n : Int) (h : n < 0 ∨ 9999 < n) : cdA n = 0 ∧ cdB n = 0 ∧ cdE n = 2 := by
  have h' : ¬ cok n = true := by simp [cok_out n h]
  unfold cdA cdB cdE; rw [if_neg h', if_neg h', if_pos h]; exact ⟨rfl, rfl, rfl⟩
theorem cok_false (n : Int) (h1 : 0 ≤ n) (h2 : n ≤ 9999) (h : n % 100 = 0 ∨ 36524 < cf n ∨ yr (cf n) ≠ 2000 + n / 100) : cok n = false := decide_eq_false (by omega)
theorem cok_true (n : Int) (h1 : 0 ≤ n) (h2 : n ≤ 9999) (h3 : n % 100 ≠ 0) (h4 : cf n ≤ 36524) (h5 : yr (cf n) = 2000 + n / 100) : cok n = true := decide_eq_true ⟨h1, h2, h3, h4, h5⟩
end Cal
end Go.Proofs.Ytplbjbpdinmjeaa
