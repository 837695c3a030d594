/- lex's and the document's functions on bytes, by walks. -/
import Derived.Test.YtfdbmpcfphlmoaaDoorShelf
import Derived.Test.YtfdbmpcfphlmoaaDoorM
import Derived.Test.YtfdbmpcfphlmoaaDoorK
import Derived.Deep.LoopGhost
namespace Go.Proofs.YtfdbmpcfphlmoaaDoor
set_option linter.unusedVariables false
set_option linter.unusedSimpArgs false
open Go.RowKit

set_option maxRecDepth 100000 in
theorem letter_calls (c : UInt8) (w : World) : Calls Tryd.prog 29 #[.int .u8 (c.toNat : Int)] w fun e w' => e = .returned (.bool (letterB c)) ∧ w = w' := by
  have HL : Hd (letterB c = (decide (97 ≤ c.toNat) && decide (c.toNat ≤ 122))) := ⟨rfl⟩
  obtain ⟨n, hn⟩ : ∃ n, c.toNat = n := ⟨_, rfl⟩
  rw [hn] at HL ⊢
  clear hn
  by_cases h1 : 97 ≤ n
  · by_cases h2 : n ≤ 122
    · have e : letterB c = true := by rw [HL.out]; simp [h1, h2]
      have d2 : decide ((n : Int) ≤ 122) = true := decide_eq_true (by omega)
      rw [e]
      clear e
      go_enter Tryd.func29, Tryd.ntmps29
      go_wp2
      go_ret
      exact ⟨by simp [d2], rfl⟩
    · have e : letterB c = false := by rw [HL.out]; simp [h2]
      have d2 : decide ((n : Int) ≤ 122) = false := decide_eq_false (by omega)
      rw [e]
      clear e
      go_enter Tryd.func29, Tryd.ntmps29
      go_wp2
      go_ret
      exact ⟨by simp [d2], rfl⟩
  · have e : letterB c = false := by rw [HL.out]; simp [h1]
    rw [e]
    clear e
    go_enter Tryd.func29, Tryd.ntmps29
    go_wp2
    go_ret
    exact ⟨rfl, rfl⟩

set_option maxRecDepth 100000 in
theorem digit_calls (c : UInt8) (w : World) : Calls Tryd.prog 39 #[.int .u8 (c.toNat : Int)] w fun e w' => e = .returned (.bool (digitB c)) ∧ w = w' := by
  have HL : Hd (digitB c = (decide (48 ≤ c.toNat) && decide (c.toNat ≤ 57))) := ⟨rfl⟩
  obtain ⟨n, hn⟩ : ∃ n, c.toNat = n := ⟨_, rfl⟩
  rw [hn] at HL ⊢
  clear hn
  by_cases h1 : 48 ≤ n
  · by_cases h2 : n ≤ 57
    · have e : digitB c = true := by rw [HL.out]; simp [h1, h2]
      have d2 : decide ((n : Int) ≤ 57) = true := decide_eq_true (by omega)
      rw [e]
      clear e
      go_enter Tryd.func39, Tryd.ntmps39
      go_wp2
      go_ret
      exact ⟨by simp [d2], rfl⟩
    · have e : digitB c = false := by rw [HL.out]; simp [h2]
      have d2 : decide ((n : Int) ≤ 57) = false := decide_eq_false (by omega)
      rw [e]
      clear e
      go_enter Tryd.func39, Tryd.ntmps39
      go_wp2
      go_ret
      exact ⟨by simp [d2], rfl⟩
  · have e : digitB c = false := by rw [HL.out]; simp [h1]
    rw [e]
    clear e
    go_enter Tryd.func39, Tryd.ntmps39
    go_wp2
    go_ret
    exact ⟨rfl, rfl⟩

set_option maxRecDepth 100000 in
theorem rletter_calls (c : UInt8) (w : World) : Calls Tryd.prog 42 #[.int .u8 (c.toNat : Int)] w fun e w' => e = .returned (.bool (letterB c)) ∧ w = w' := by
  have HL : Hd (letterB c = (decide (97 ≤ c.toNat) && decide (c.toNat ≤ 122))) := ⟨rfl⟩
  obtain ⟨n, hn⟩ : ∃ n, c.toNat = n := ⟨_, rfl⟩
  rw [hn] at HL ⊢
  clear hn
  by_cases h1 : 97 ≤ n
  · by_cases h2 : n ≤ 122
    · have e : letterB c = true := by rw [HL.out]; simp [h1, h2]
      have d2 : decide ((n : Int) ≤ 122) = true := decide_eq_true (by omega)
      rw [e]
      clear e
      go_enter Tryd.func42, Tryd.ntmps42
      go_wp2
      go_ret
      exact ⟨by simp [d2], rfl⟩
    · have e : letterB c = false := by rw [HL.out]; simp [h2]
      have d2 : decide ((n : Int) ≤ 122) = false := decide_eq_false (by omega)
      rw [e]
      clear e
      go_enter Tryd.func42, Tryd.ntmps42
      go_wp2
      go_ret
      exact ⟨by simp [d2], rfl⟩
  · have e : letterB c = false := by rw [HL.out]; simp [h1]
    rw [e]
    clear e
    go_enter Tryd.func42, Tryd.ntmps42
    go_wp2
    go_ret
    exact ⟨rfl, rfl⟩

set_option maxRecDepth 100000 in
theorem rdigit_calls (c : UInt8) (w : World) : Calls Tryd.prog 43 #[.int .u8 (c.toNat : Int)] w fun e w' => e = .returned (.bool (digitB c)) ∧ w = w' := by
  have HL : Hd (digitB c = (decide (48 ≤ c.toNat) && decide (c.toNat ≤ 57))) := ⟨rfl⟩
  obtain ⟨n, hn⟩ : ∃ n, c.toNat = n := ⟨_, rfl⟩
  rw [hn] at HL ⊢
  clear hn
  by_cases h1 : 48 ≤ n
  · by_cases h2 : n ≤ 57
    · have e : digitB c = true := by rw [HL.out]; simp [h1, h2]
      have d2 : decide ((n : Int) ≤ 57) = true := decide_eq_true (by omega)
      rw [e]
      clear e
      go_enter Tryd.func43, Tryd.ntmps43
      go_wp2
      go_ret
      exact ⟨by simp [d2], rfl⟩
    · have e : digitB c = false := by rw [HL.out]; simp [h2]
      have d2 : decide ((n : Int) ≤ 57) = false := decide_eq_false (by omega)
      rw [e]
      clear e
      go_enter Tryd.func43, Tryd.ntmps43
      go_wp2
      go_ret
      exact ⟨by simp [d2], rfl⟩
  · have e : digitB c = false := by rw [HL.out]; simp [h1]
    rw [e]
    clear e
    go_enter Tryd.func43, Tryd.ntmps43
    go_wp2
    go_ret
    exact ⟨rfl, rfl⟩

set_option maxRecDepth 100000 in
theorem inner_calls (c : UInt8) (w : World) : Calls Tryd.prog 31 #[.int .u8 (c.toNat : Int)] w fun e w' => e = .returned (.bool (innerB c)) ∧ w = w' := by
  have H1 : Hd (∀ w, Calls Tryd.prog 29 #[.int .u8 (c.toNat : Int)] w fun e w' => e = .returned (.bool (letterB c)) ∧ w = w') := ⟨letter_calls c⟩
  have H2 : Hd (∀ w, Calls Tryd.prog 39 #[.int .u8 (c.toNat : Int)] w fun e w' => e = .returned (.bool (digitB c)) ∧ w = w') := ⟨digit_calls c⟩
  have HI : Hd (innerB c = (letterB c || digitB c || decide (c.toNat = 95))) := ⟨rfl⟩
  obtain ⟨n, hn⟩ : ∃ n, c.toNat = n := ⟨_, rfl⟩
  obtain ⟨r, hr⟩ : ∃ r, innerB c = r := ⟨_, rfl⟩
  rw [hn] at H1 H2 HI ⊢
  rw [hr] at HI ⊢
  cases h1 : letterB c with
  | true =>
    rw [h1] at H1 HI
    have HR : Hd (r = true) := ⟨by rw [HI.out]; rfl⟩
    clear hn hr h1
    go_enter Tryd.func31, Tryd.ntmps31
    go_wp2_with fail
    refine (H1.out _).mono ?_
    rintro e w2 ⟨rfl, rfl⟩
    go_wp2
    go_ret
    exact ⟨by rw [HR.out]; rfl, rfl⟩
  | false =>
    rw [h1] at H1 HI
    cases h2 : digitB c with
    | true =>
      rw [h2] at H2 HI
      have HR : Hd (r = true) := ⟨by rw [HI.out]; rfl⟩
      clear hn hr h1 h2
      go_enter Tryd.func31, Tryd.ntmps31
      go_wp2_with fail
      refine (H1.out _).mono ?_
      rintro e w2 ⟨rfl, rfl⟩
      go_wp2_with fail
      refine (H2.out _).mono ?_
      rintro e w2 ⟨rfl, rfl⟩
      go_wp2
      go_ret
      exact ⟨by rw [HR.out]; rfl, rfl⟩
    | false =>
      rw [h2] at H2 HI
      have HR : Hd (r = decide (n = 95)) := ⟨by rw [HI.out]; rfl⟩
      clear hn hr h1 h2
      go_enter Tryd.func31, Tryd.ntmps31
      go_wp2_with fail
      refine (H1.out _).mono ?_
      rintro e w2 ⟨rfl, rfl⟩
      go_wp2_with fail
      refine (H2.out _).mono ?_
      rintro e w2 ⟨rfl, rfl⟩
      go_wp2
      go_ret
      refine ⟨?_, rfl⟩
      rw [HR.out]
      by_cases h95 : n = 95
      · subst h95; rfl
      · have h95' : ¬ (n : Int) = 95 := by omega
        simp [h95, h95']
end Go.Proofs.YtfdbmpcfphlmoaaDoor
