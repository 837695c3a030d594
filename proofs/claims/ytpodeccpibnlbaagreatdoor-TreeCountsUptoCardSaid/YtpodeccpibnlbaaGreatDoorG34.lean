/- A number's digits. No program in sight. The reference's digits and Number, walked. -/
import Derived.Test.YtpodeccpibnlbaaGreatDoorG01
import Derived.Test.YtpodeccpibnlbaaGreatDoorProg
import Derived.Deep.LoopGhost
namespace Go.Proofs.YtpodeccpibnlbaaGreatDoor
set_option linter.unusedVariables false
set_option linter.unusedSimpArgs false
open Go.RowKit

/-- A number's digits. -/
def digL (n : Nat) : List UInt8 := if n < 10 then [UInt8.ofNat (48 + n)] else digL (n / 10) ++ [UInt8.ofNat (48 + n % 10)]
termination_by n
decreasing_by omega
def numberL (k : Int) : List UInt8 := if k < 0 then 45 :: digL k.natAbs else digL k.natAbs
def isDig (c : UInt8) : Bool := decide (48 ≤ c.toNat) && decide (c.toNat ≤ 57)
theorem dig_char (k : Nat) (h : k < 10) : (UInt8.ofNat (48 + k)).toNat = 48 + k := by
  rw [UInt8.toNat_ofNat']; omega
theorem digL_lt {n : Nat} (h : n < 10) : digL n = [UInt8.ofNat (48 + n)] := by rw [digL, if_pos h]
theorem digL_ge {n : Nat} (h : ¬ n < 10) : digL n = digL (n / 10) ++ [UInt8.ofNat (48 + n % 10)] := by rw [digL, if_neg h]
theorem digL_dig (n : Nat) : ∀ c ∈ digL n, isDig c = true := by
  induction n using Nat.strongRecOn with
  | _ n ih =>
    intro c hc
    by_cases h : n < 10
    · rw [digL_lt h] at hc
      simp only [List.mem_singleton] at hc
      subst hc
      unfold isDig
      rw [dig_char n h, Bool.and_eq_true, decide_eq_true_iff, decide_eq_true_iff]
      omega
    · rw [digL_ge h] at hc
      rcases List.mem_append.1 hc with hc | hc
      · exact ih (n / 10) (by omega) c hc
      · simp only [List.mem_singleton] at hc
        subst hc
        unfold isDig
        rw [dig_char (n % 10) (by omega), Bool.and_eq_true, decide_eq_true_iff, decide_eq_true_iff]
        omega
def valL (l : List UInt8) : Nat := l.foldl (fun a c => a * 10 + (c.toNat - 48)) 0
theorem digL_val (n : Nat) : valL (digL n) = n := by
  induction n using Nat.strongRecOn with
  | _ n ih =>
    by_cases h : n < 10
    · rw [digL_lt h]
      simp only [valL, List.foldl_cons, List.foldl_nil, dig_char n h]
      omega
    · rw [digL_ge h]
      have := ih (n / 10) (by omega)
      simp only [valL] at this
      simp only [valL, List.foldl_append, List.foldl_cons, List.foldl_nil, this, dig_char (n % 10) (by omega)]
      omega
theorem digL_inj {m n : Nat} (h : digL m = digL n) : m = n := by rw [← digL_val m, h, digL_val]
theorem split_sep (p : UInt8 → Bool) {c d : UInt8} (hc : p c = false) (hd : p d = false) : ∀ (a b : List UInt8) {r s : List UInt8}, (∀ x ∈ a, p x = true) → (∀ x ∈ b, p x = true) → a ++ c :: r = b ++ d :: s → a = b ∧ c = d ∧ r = s
  | [], [], _, _, _, _, h => by
    simp only [List.nil_append, List.cons.injEq] at h
    exact ⟨rfl, h⟩
  | [], y :: b, _, _, _, hb, h => by
    simp only [List.nil_append, List.cons_append, List.cons.injEq] at h
    have := hb y (by simp)
    rw [← h.1, hc] at this
    cases this
  | x :: a, [], _, _, ha, _, h => by
    simp only [List.nil_append, List.cons_append, List.cons.injEq] at h
    have := ha x (by simp)
    rw [h.1, hd] at this
    cases this
  | x :: a, y :: b, _, _, ha, hb, h => by
    simp only [List.cons_append, List.cons.injEq] at h
    obtain ⟨h1, h2, h3⟩ := split_sep p hc hd a b (fun z hz => ha z (by simp [hz])) (fun z hz => hb z (by simp [hz])) h.2
    exact ⟨by rw [h.1, h1], h2, h3⟩
theorem dig_sep {c : UInt8} (hc : isDig c = false) {m n : Nat} {r s : List UInt8} (h : digL m ++ c :: r = digL n ++ c :: s) : m = n ∧ r = s := by
  obtain ⟨h1, _, h3⟩ := split_sep isDig hc hc _ _ (digL_dig m) (digL_dig n) h
  exact ⟨digL_inj h1, h3⟩

def isNum (c : UInt8) : Bool := isDig c || c == 45
theorem dig_not45 {c : UInt8} (h : isDig c = true) : c ≠ 45 := by
  rintro rfl
  revert h
  decide
theorem numberL_num (k : Int) : ∀ c ∈ numberL k, isNum c = true := by
  intro c hc
  unfold numberL at hc
  unfold isNum
  split at hc
  · rcases List.mem_cons.1 hc with rfl | hc
    · rfl
    · rw [digL_dig _ c hc]; rfl
  · rw [digL_dig _ c hc]; rfl
theorem digL_ne (n : Nat) (l : List UInt8) : digL n ≠ 45 :: l := by
  intro h
  have := digL_dig n 45 (by rw [h]; simp)
  exact dig_not45 this rfl
theorem numberL_inj {k j : Int} (h : numberL k = numberL j) : k = j := by
  unfold numberL at h
  split at h <;> split at h
  · simp only [List.cons.injEq, true_and] at h
    have := digL_inj h
    omega
  · exact absurd h.symm (digL_ne _ _)
  · exact absurd h (digL_ne _ _)
  · have := digL_inj h
    omega
theorem num_sep {c : UInt8} (hc : isNum c = false) {k j : Int} {r s : List UInt8} (h : numberL k ++ c :: r = numberL j ++ c :: s) : k = j ∧ r = s := by
  obtain ⟨h1, _, h3⟩ := split_sep isNum hc hc _ _ (numberL_num k) (numberL_num j) h
  exact ⟨numberL_inj h1, h3⟩
theorem digL_1 : digL 1 = [49] := by rw [digL_lt (by omega)]; rfl
/-- A number with a row of one place behind it. -/
theorem num_one {k j : Int} {r s : List UInt8} (h : numberL k ++ (49 :: 40 :: r) = numberL j ++ (49 :: 40 :: s)) : k = j ∧ r = s := by
  have h' : (numberL k ++ [49]) ++ 40 :: r = (numberL j ++ [49]) ++ 40 :: s := by simpa using h
  have e : ∀ z : Int, ∀ c ∈ numberL z ++ [49], isNum c = true := by
    intro z c hc
    rcases List.mem_append.1 hc with hc | hc
    · exact numberL_num z c hc
    · simp only [List.mem_singleton] at hc; subst hc; decide
  obtain ⟨h1, _, h3⟩ := split_sep isNum (c := 40) (d := 40) (by decide) (by decide) _ _ (e k) (e j) h'
  exact ⟨numberL_inj (List.append_cancel_right h1), h3⟩

end Go.Proofs.YtpodeccpibnlbaaGreatDoor
namespace Go.Proofs.YtpodeccpibnlbaaGreatDoor
set_option linter.unusedVariables false
set_option linter.unusedSimpArgs false
open Go.RowKit
def bs (l : List UInt8) : ByteArray := ⟨l.toArray⟩
theorem bs_size (l : List UInt8) : (bs l).size = l.length := by simp [bs, ByteArray.size]
theorem bs_toList (l : List UInt8) : (bs l).data.toList = l := by simp [bs]
theorem bs_of {s : ByteArray} {l : List UInt8} (h : s.data.toList = l) : s = bs l := by
  cases s
  subst h
  simp [bs]
theorem digL_len : ∀ (j n : Nat), n < 10 ^ (j + 1) → (digL n).length ≤ j + 1
  | 0, n, h => by rw [digL_lt (by simpa using h)]; simp
  | j + 1, n, h => by
    by_cases h10 : n < 10
    · rw [digL_lt h10]; simp
    · rw [digL_ge h10, List.length_append]
      have := digL_len j (n / 10) (by rw [Nat.div_lt_iff_lt_mul (by omega)]; rw [Nat.pow_succ] at h; exact h)
      simp; omega
theorem digL_len20 {n : Nat} (h : n < 18446744073709551616) : (digL n).length ≤ 20 := digL_len 19 n (by omega)
theorem digL_pos (n : Nat) : 0 < (digL n).length := by
  by_cases h : n < 10
  · rw [digL_lt h]; simp
  · rw [digL_ge h]; simp
theorem dig_cut (k : Nat) : (({ data := #[48, 49, 50, 51, 52, 53, 54, 55, 56, 57] } : ByteArray).extract (k % 10) (k % 10 + 1)).data.toList = [UInt8.ofNat (48 + k % 10)] := by
  have h : k % 10 < 10 := Nat.mod_lt _ (by omega)
  generalize k % 10 = j at h
  have : ∀ j : Fin 10, (({ data := #[48, 49, 50, 51, 52, 53, 54, 55, 56, 57] } : ByteArray).extract j.1 (j.1 + 1)).data.toList = [UInt8.ofNat (48 + j.1)] := by decide +kernel
  exact this ⟨j, h⟩
set_option maxRecDepth 100000 in
set_option maxHeartbeats 4000000 in
theorem digits_q (n : Nat) (h : n < 18446744073709551616) (w : World) : Calls Tryz.prog 54 #[.int .u64 (n : Int)] w fun e w' => e = .returned (.string (bs (digL n))) ∧ w' = w := by
  have HL := digL_len20 h
  go_enter Tryz.func54, Tryz.ntmps54
  go_wp2_with fail
  go_loopg [0, 3] n (fun gk v0 v3 wr => wr = w ∧ ∃ (k : Nat) (s : ByteArray), v0 = .int .u64 (k : Int) ∧ v3 = .string s ∧ k = gk ∧ k < 18446744073709551616 ∧ Hd (digL k ++ s.data.toList = digL n))
  case atStart => exact ⟨rfl, n, { data := #[] }, rfl, rfl, rfl, h, ⟨by simp⟩⟩
  case round =>
    obtain ⟨rfl, k, s, rfl, rfl, rfl, hk, HI⟩ := hrel
    have hl : (digL k).length + s.size = (digL n).length := by
      have := congrArg List.length HI.out
      rw [List.length_append] at this
      exact this
    have hpos := digL_pos k
    have hsz : ¬ 9223372036854775807 < min (k % 10 + 1) 10 - k % 10 + s.size := by omega
    by_cases h0 : k < 10
    · have hc : ((k : Int) / 10 == 0) = true := by rw [beq_iff_eq]; omega
      have HF : Hd (({ data := #[48, 49, 50, 51, 52, 53, 54, 55, 56, 57] } : ByteArray).extract (k % 10) (k % 10 + 1) ++ s = bs (digL n)) := ⟨bs_of (by rw [ByteArray.data_append, Array.toList_append, dig_cut, ← HI.out, digL_lt h0, Nat.mod_eq_of_lt h0])⟩
      clear hl hpos HL
      go_wp2
      go_ret
      exact ⟨by rw [HF.out]; rfl, rfl⟩
    · have hc : ((k : Int) / 10 == 0) = false := by rw [beq_eq_false_iff_ne]; omega
      have HF : Hd (digL (k / 10) ++ (({ data := #[48, 49, 50, 51, 52, 53, 54, 55, 56, 57] } : ByteArray).extract (k % 10) (k % 10 + 1) ++ s).data.toList = digL n) := ⟨by
        rw [ByteArray.data_append, Array.toList_append, dig_cut, ← HI.out, digL_ge h0, List.append_assoc]⟩
      clear hl hpos HL
      go_wp2_with fail
      go_roundg (k / 10)
      case measure => omega
      case rel => exact ⟨rfl, k / 10, _, by go_num, rfl, rfl, by omega, HF⟩
theorem bs_append (a b : List UInt8) : bs a ++ bs b = bs (a ++ b) := bs_of (by rw [ByteArray.data_append, Array.toList_append, bs_toList, bs_toList])
theorem bs_self (s : ByteArray) : bs s.data.toList = s := (bs_of rfl).symm
set_option maxRecDepth 100000 in
set_option maxHeartbeats 4000000 in
theorem key_q (s : ByteArray) (hs : s.size ≤ 1099511627776) (w : World) : Calls Tryz.prog 55 #[.string s] w fun e w' => e = .returned (.string (bs (digL s.size ++ 58 :: s.data.toList))) ∧ w' = w := by
  have HD : Hd _ := ⟨digits_q s.size (by omega) w⟩
  have HF : Hd (bs (digL s.size) ++ ({ data := #[58] } : ByteArray) ++ s = bs (digL s.size ++ 58 :: s.data.toList)) := ⟨bs_of (by
    rw [ByteArray.data_append, Array.toList_append, ByteArray.data_append, Array.toList_append, bs_toList]
    simp)⟩
  have hl := digL_len20 (n := s.size) (by omega)
  rw [← bs_size] at hl
  obtain ⟨d, hd⟩ : ∃ d, bs (digL s.size) = d := ⟨_, rfl⟩
  rw [hd] at HD HF hl
  obtain ⟨r, hr⟩ : ∃ r, bs (digL s.size ++ 58 :: s.data.toList) = r := ⟨_, rfl⟩
  rw [hr] at HF ⊢
  clear hd hr
  have hw : IntKind.u64.wrap (s.size : Int) = (s.size : Int) := by rw [IntKind.wrap_u64]; omega
  go_enter Tryz.func55, Tryz.ntmps55
  go_wp2_with fail
  refine HD.out.mono ?_
  rintro e w1 ⟨rfl, rfl⟩
  go_wp2
  go_ret
  exact ⟨by rw [HF.out]; rfl, rfl⟩
set_option maxRecDepth 100000 in
set_option maxHeartbeats 4000000 in
theorem flag_q (b : Bool) (w : World) : Calls Tryz.prog 56 #[.bool b] w fun e w' => e = .returned (.string (if b then { data := #[49] } else { data := #[48] })) ∧ w' = w := by
  cases b <;>
  · go_enter Tryz.func56, Tryz.ntmps56
    go_wp2
    go_ret
    exact ⟨rfl, rfl⟩
set_option maxRecDepth 100000 in
set_option maxHeartbeats 4000000 in
theorem number_q (k : Int) (h1 : -9223372036854775808 ≤ k) (h2 : k ≤ 9223372036854775807) (w : World) : Calls Tryz.prog 58 #[.int .i64 k] w fun e w' => e = .returned (.string (bs (numberL k))) ∧ w' = w := by
  have HD : Hd _ := ⟨digits_q k.natAbs (by omega) w⟩
  have hl := digL_len20 (n := k.natAbs) (by omega)
  rw [← bs_size] at hl
  obtain ⟨r, hr⟩ : ∃ r, bs (numberL k) = r := ⟨_, rfl⟩
  by_cases hk : k < 0
  · have HF : Hd (({ data := #[45] } : ByteArray) ++ bs (digL k.natAbs) = r) := ⟨by
      rw [← hr, numberL, if_pos hk]
      refine bs_of ?_
      rw [ByteArray.data_append, Array.toList_append, bs_toList]
      simp⟩
    obtain ⟨d, hd⟩ : ∃ d, bs (digL k.natAbs) = d := ⟨_, rfl⟩
    rw [hd] at HD HF hl
    rw [hr]
    clear hd hr
    have e1 : (k.natAbs : Int) = -(k + 1) + 1 := by omega
    rw [e1] at HD
    clear e1
    go_enter Tryz.func58, Tryz.ntmps58
    go_wp2_with fail
    refine HD.out.mono ?_
    rintro e w1 ⟨rfl, rfl⟩
    go_wp2
    go_ret
    exact ⟨by rw [HF.out]; rfl, rfl⟩
  · have HF : Hd (bs (digL k.natAbs) = r) := ⟨by rw [← hr, numberL, if_neg hk]⟩
    rw [HF.out] at HD hl
    rw [hr]
    clear hr
    have e1 : (k.natAbs : Int) = k := by omega
    rw [e1] at HD
    clear e1
    go_enter Tryz.func58, Tryz.ntmps58
    go_wp2_with fail
    refine HD.out.mono ?_
    rintro e w1 ⟨rfl, rfl⟩
    go_wp2
    go_ret
    exact ⟨rfl, rfl⟩
end Go.Proofs.YtpodeccpibnlbaaGreatDoor
