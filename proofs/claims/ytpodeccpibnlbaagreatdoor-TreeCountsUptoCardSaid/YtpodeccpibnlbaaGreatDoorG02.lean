/- lex's and the document's functions on bytes, by walks. lex's span, words, Word, Name, by walks. kind's base, Plain, front, by walks. kind's Kind, Elem, with, Base, Deep, by walks. -/
import Derived.Test.YtpodeccpibnlbaaGreatDoorShelf
import Derived.Test.YtpodeccpibnlbaaGreatDoorG01
import Derived.Deep.LoopGhost
namespace Go.Proofs.YtpodeccpibnlbaaGreatDoor
set_option linter.unusedVariables false
set_option linter.unusedSimpArgs false
open Go.RowKit

set_option maxRecDepth 100000 in
theorem letter_calls (c : UInt8) (w : World) : Calls Tryz.prog 94 #[.int .u8 (c.toNat : Int)] w fun e w' => e = .returned (.bool (letterB c)) ∧ w = w' := by
  have HL : Hd (letterB c = (decide (97 ≤ c.toNat) && decide (c.toNat ≤ 122))) := ⟨rfl⟩
  obtain ⟨n, hn⟩ : ∃ n, c.toNat = n := ⟨_, rfl⟩
  rw [hn] at HL ⊢
  clear hn
  by_cases h1 : 97 ≤ n
  · by_cases h2 : n ≤ 122
    · have e : letterB c = true := by rw [HL.out]; simp [h1, h2]
      have d2 : decide ((n : Int) ≤ 122) = true := decide_eq_true (by omega)
      rw [e]
      clear e
      go_enter Tryz.func94, Tryz.ntmps94
      go_wp2
      go_ret
      exact ⟨by simp [d2], rfl⟩
    · have e : letterB c = false := by rw [HL.out]; simp [h2]
      have d2 : decide ((n : Int) ≤ 122) = false := decide_eq_false (by omega)
      rw [e]
      clear e
      go_enter Tryz.func94, Tryz.ntmps94
      go_wp2
      go_ret
      exact ⟨by simp [d2], rfl⟩
  · have e : letterB c = false := by rw [HL.out]; simp [h1]
    rw [e]
    clear e
    go_enter Tryz.func94, Tryz.ntmps94
    go_wp2
    go_ret
    exact ⟨rfl, rfl⟩

set_option maxRecDepth 100000 in
theorem digit_calls (c : UInt8) (w : World) : Calls Tryz.prog 142 #[.int .u8 (c.toNat : Int)] w fun e w' => e = .returned (.bool (digitB c)) ∧ w = w' := by
  have HL : Hd (digitB c = (decide (48 ≤ c.toNat) && decide (c.toNat ≤ 57))) := ⟨rfl⟩
  obtain ⟨n, hn⟩ : ∃ n, c.toNat = n := ⟨_, rfl⟩
  rw [hn] at HL ⊢
  clear hn
  by_cases h1 : 48 ≤ n
  · by_cases h2 : n ≤ 57
    · have e : digitB c = true := by rw [HL.out]; simp [h1, h2]
      have d2 : decide ((n : Int) ≤ 57) = true := decide_eq_true (by omega)
      rw [e]
      clear e
      go_enter Tryz.func142, Tryz.ntmps142
      go_wp2
      go_ret
      exact ⟨by simp [d2], rfl⟩
    · have e : digitB c = false := by rw [HL.out]; simp [h2]
      have d2 : decide ((n : Int) ≤ 57) = false := decide_eq_false (by omega)
      rw [e]
      clear e
      go_enter Tryz.func142, Tryz.ntmps142
      go_wp2
      go_ret
      exact ⟨by simp [d2], rfl⟩
  · have e : digitB c = false := by rw [HL.out]; simp [h1]
    rw [e]
    clear e
    go_enter Tryz.func142, Tryz.ntmps142
    go_wp2
    go_ret
    exact ⟨rfl, rfl⟩

set_option maxRecDepth 100000 in
theorem rletter_calls (c : UInt8) (w : World) : Calls Tryz.prog 135 #[.int .u8 (c.toNat : Int)] w fun e w' => e = .returned (.bool (letterB c)) ∧ w = w' := by
  have HL : Hd (letterB c = (decide (97 ≤ c.toNat) && decide (c.toNat ≤ 122))) := ⟨rfl⟩
  obtain ⟨n, hn⟩ : ∃ n, c.toNat = n := ⟨_, rfl⟩
  rw [hn] at HL ⊢
  clear hn
  by_cases h1 : 97 ≤ n
  · by_cases h2 : n ≤ 122
    · have e : letterB c = true := by rw [HL.out]; simp [h1, h2]
      have d2 : decide ((n : Int) ≤ 122) = true := decide_eq_true (by omega)
      rw [e]
      clear e
      go_enter Tryz.func135, Tryz.ntmps135
      go_wp2
      go_ret
      exact ⟨by simp [d2], rfl⟩
    · have e : letterB c = false := by rw [HL.out]; simp [h2]
      have d2 : decide ((n : Int) ≤ 122) = false := decide_eq_false (by omega)
      rw [e]
      clear e
      go_enter Tryz.func135, Tryz.ntmps135
      go_wp2
      go_ret
      exact ⟨by simp [d2], rfl⟩
  · have e : letterB c = false := by rw [HL.out]; simp [h1]
    rw [e]
    clear e
    go_enter Tryz.func135, Tryz.ntmps135
    go_wp2
    go_ret
    exact ⟨rfl, rfl⟩

set_option maxRecDepth 100000 in
theorem rdigit_calls (c : UInt8) (w : World) : Calls Tryz.prog 136 #[.int .u8 (c.toNat : Int)] w fun e w' => e = .returned (.bool (digitB c)) ∧ w = w' := by
  have HL : Hd (digitB c = (decide (48 ≤ c.toNat) && decide (c.toNat ≤ 57))) := ⟨rfl⟩
  obtain ⟨n, hn⟩ : ∃ n, c.toNat = n := ⟨_, rfl⟩
  rw [hn] at HL ⊢
  clear hn
  by_cases h1 : 48 ≤ n
  · by_cases h2 : n ≤ 57
    · have e : digitB c = true := by rw [HL.out]; simp [h1, h2]
      have d2 : decide ((n : Int) ≤ 57) = true := decide_eq_true (by omega)
      rw [e]
      clear e
      go_enter Tryz.func136, Tryz.ntmps136
      go_wp2
      go_ret
      exact ⟨by simp [d2], rfl⟩
    · have e : digitB c = false := by rw [HL.out]; simp [h2]
      have d2 : decide ((n : Int) ≤ 57) = false := decide_eq_false (by omega)
      rw [e]
      clear e
      go_enter Tryz.func136, Tryz.ntmps136
      go_wp2
      go_ret
      exact ⟨by simp [d2], rfl⟩
  · have e : digitB c = false := by rw [HL.out]; simp [h1]
    rw [e]
    clear e
    go_enter Tryz.func136, Tryz.ntmps136
    go_wp2
    go_ret
    exact ⟨rfl, rfl⟩

set_option maxRecDepth 100000 in
theorem inner_calls (c : UInt8) (w : World) : Calls Tryz.prog 97 #[.int .u8 (c.toNat : Int)] w fun e w' => e = .returned (.bool (innerB c)) ∧ w = w' := by
  have H1 : Hd (∀ w, Calls Tryz.prog 94 #[.int .u8 (c.toNat : Int)] w fun e w' => e = .returned (.bool (letterB c)) ∧ w = w') := ⟨letter_calls c⟩
  have H2 : Hd (∀ w, Calls Tryz.prog 142 #[.int .u8 (c.toNat : Int)] w fun e w' => e = .returned (.bool (digitB c)) ∧ w = w') := ⟨digit_calls c⟩
  have HI : Hd (innerB c = (letterB c || digitB c || decide (c.toNat = 95))) := ⟨rfl⟩
  obtain ⟨n, hn⟩ : ∃ n, c.toNat = n := ⟨_, rfl⟩
  obtain ⟨r, hr⟩ : ∃ r, innerB c = r := ⟨_, rfl⟩
  rw [hn] at H1 H2 HI ⊢
  rw [hr] at HI ⊢
  cases h1 : letterB c with
  | true =>
    rw [h1] at H1 HI
    have HR : Hd (r = true) := ⟨by rw [HI.out]; rfl⟩
    clear hn hr h1
    go_enter Tryz.func97, Tryz.ntmps97
    go_wp2_with fail
    refine (H1.out _).mono ?_
    rintro e w2 ⟨rfl, rfl⟩
    go_wp2
    go_ret
    exact ⟨by rw [HR.out]; rfl, rfl⟩
  | false =>
    rw [h1] at H1 HI
    cases h2 : digitB c with
    | true =>
      rw [h2] at H2 HI
      have HR : Hd (r = true) := ⟨by rw [HI.out]; rfl⟩
      clear hn hr h1 h2
      go_enter Tryz.func97, Tryz.ntmps97
      go_wp2_with fail
      refine (H1.out _).mono ?_
      rintro e w2 ⟨rfl, rfl⟩
      go_wp2_with fail
      refine (H2.out _).mono ?_
      rintro e w2 ⟨rfl, rfl⟩
      go_wp2
      go_ret
      exact ⟨by rw [HR.out]; rfl, rfl⟩
    | false =>
      rw [h2] at H2 HI
      have HR : Hd (r = decide (n = 95)) := ⟨by rw [HI.out]; rfl⟩
      clear hn hr h1 h2
      go_enter Tryz.func97, Tryz.ntmps97
      go_wp2_with fail
      refine (H1.out _).mono ?_
      rintro e w2 ⟨rfl, rfl⟩
      go_wp2_with fail
      refine (H2.out _).mono ?_
      rintro e w2 ⟨rfl, rfl⟩
      go_wp2
      go_ret
      refine ⟨?_, rfl⟩
      rw [HR.out]
      by_cases h95 : n = 95
      · subst h95; rfl
      · have h95' : ¬ (n : Int) = 95 := by omega
        simp [h95, h95']
end Go.Proofs.YtpodeccpibnlbaaGreatDoor
namespace Go.Proofs.YtpodeccpibnlbaaGreatDoor
set_option linter.unusedVariables false
set_option linter.unusedSimpArgs false
open Go.RowKit

theorem beq_nat (a b : Nat) : ((a : Int) == (b : Int)) = decide (a = b) := by
  rw [Bool.eq_iff_iff, beq_iff_eq, decide_eq_true_iff]
  omega
abbrev lst (s : ByteArray) : Bs := s.data.toList
theorem lst_len (s : ByteArray) : (lst s).length = s.size := (Lib.size_eq s).symm
theorem lst_get {s : ByteArray} {k : Nat} (h : k < s.size) : (lst s)[k]? = some s[k] := by
  have h' : k < (lst s).length := by rw [lst_len]; exact h
  rw [List.getElem?_eq_getElem h']
  rfl
theorem lst_drop {s : ByteArray} {k : Nat} (h : k < s.size) : (lst s).drop k = s[k] :: (lst s).drop (k + 1) := by
  have h' : k < (lst s).length := by rw [lst_len]; exact h
  rw [List.drop_eq_getElem_cons h']
  rfl

def spanB (l : Bs) : Nat := (l.takeWhile innerB).length

set_option maxRecDepth 100000 in
theorem span_calls (s : ByteArray) (hs : s.size ≤ 1048576) (w : World) : Calls Tryz.prog 96 #[.string s, .func (.func 97) #[] #[]] w fun e w' => e = .returned (.int .i64 (spanB (lst s) : Int)) ∧ w = w' := by
  have HI : Hd (∀ (c : UInt8) (w : World), Calls Tryz.prog 97 #[.int .u8 (c.toNat : Int)] w fun e w' => e = .returned (.bool (innerB c)) ∧ w = w') := ⟨inner_calls⟩
  go_enter Tryz.func96, Tryz.ntmps96
  go_wp2_with fail
  go_loopg [5] s.size (fun gk v5 wr => w = wr ∧ ∃ k : Nat, v5 = .int .i64 k ∧ k + gk = s.size ∧ Hd (k + spanB ((lst s).drop k) = spanB (lst s)))
  case atStart => exact ⟨rfl, 0, rfl, by omega, ⟨by simp⟩⟩
  case round =>
    obtain ⟨rfl, k, rfl, hk, HS⟩ := hrel
    by_cases hlt : k < s.size
    · obtain ⟨c, hc⟩ : ∃ c : UInt8, s[k] = c := ⟨_, rfl⟩
      have hd := lst_drop hlt
      rw [hc] at hd
      have HD : Hd _ := ⟨hd⟩
      clear hd
      go_wp2_with fail
      refine (HI.out c _).mono ?_
      rintro e w2 ⟨rfl, rfl⟩
      cases hic : innerB c with
      | true =>
        have HS2 : Hd (k + 1 + spanB ((lst s).drop (k + 1)) = spanB (lst s)) := ⟨by have := HS.out; rw [HD.out] at this; simp only [spanB, List.takeWhile_cons, hic, if_true, List.length_cons] at this ⊢; omega⟩
        clear hic
        go_wp2_with fail
        go_roundg (gk - 1)
        case measure => omega
        case rel => exact ⟨rfl, k + 1, by go_num, by omega, HS2⟩
      | false =>
        have HS2 : Hd (k = spanB (lst s)) := ⟨by have := HS.out; rw [HD.out] at this; simp only [spanB, List.takeWhile_cons, hic, Bool.false_eq_true, if_false, List.length_nil] at this ⊢; omega⟩
        clear hic
        go_wp2
        go_ret
        exact ⟨by rw [← HS2.out]; rfl, rfl⟩
    · have HS2 : Hd (k = spanB (lst s)) := ⟨by have := HS.out; rw [List.drop_eq_nil_of_le (by rw [lst_len]; omega)] at this; simpa [spanB] using this⟩
      go_wp2
      go_ret
      exact ⟨by rw [← HS2.out]; rfl, rfl⟩

/-! ### words -/
/-- The library's table of blanks. -/
def Tab (w : World) : Prop := Lib.TabIs Tryz.prog w "strings.asciiSpace" .u8 Lib.asciiSpaceTab
def wordsText : ByteArray := { data := ([115, 116, 114, 117, 99, 116, 32, 101, 110, 117, 109, 32, 102, 110, 32, 108, 101, 116, 32, 115, 97, 102, 101, 32, 104, 111, 111, 107, 32, 105, 110, 116, 32, 98, 111, 120, 32, 114, 101, 102, 32, 109, 117, 116, 32, 97, 100, 100, 32, 115, 117, 98, 32, 108, 101].append [115, 115, 32, 117, 115, 101, 32, 110, 101, 119, 32, 116, 97, 103, 32, 111, 117, 116, 32, 103, 111, 116, 111, 32, 105, 102, 32, 109, 97, 116, 99, 104, 32, 99, 104, 101, 99, 107, 32, 99, 97, 108, 108, 32, 99, 97, 116, 99, 104, 32, 114, 101, 116, 117, 114, 110]).toArray }
theorem words_fields : Lib.fields wordsText.data.toList = wordsL := by decide +kernel
theorem words_ascii : ∀ (j : Nat) b, wordsText.data.toList[j]? = some b → b.toNat < 128 := by
  have h : wordsText.data.toList.all (fun b => decide (b.toNat < 128)) = true := by decide +kernel
  intro j b hj
  exact of_decide_eq_true (List.all_eq_true.1 h b (List.mem_of_getElem? hj))
def wordCells : Array Value := (wordsL.map fun l => Value.string ⟨l.toArray⟩).toArray

set_option maxRecDepth 100000 in
theorem words_calls (w : World) (hT : Tab w) : Calls Tryz.prog 141 #[] w fun e w' => e = .returned (.slice (some ⟨w.heap.size, 0, none⟩) 24 24) ∧ w' = w.alloc (.cells wordCells 9) := by
  have HT : Hd _ := ⟨hT⟩
  clear hT
  have HC : Hd _ := ⟨Tryz.strings_Fields wordsText w (by decide +kernel) words_ascii HT.out⟩
  rw [words_fields] at HC
  go_enter Tryz.func141, Tryz.ntmps141
  go_wp2_with fail
  refine HC.out.mono ?_
  rintro e w2 ⟨rfl, rfl⟩
  go_wp2
  go_ret
  exact ⟨rfl, rfl⟩

theorem mk_lst (s : ByteArray) : (⟨(lst s).toArray⟩ : ByteArray) = s := by
  cases s with
  | mk a => simp [lst]
theorem lst_mk (l : Bs) : lst ⟨l.toArray⟩ = l := by simp [lst]
def wordBytes : List ByteArray := wordsL.map fun l => ⟨l.toArray⟩
theorem words_len : wordsL.length = 24 := by decide
theorem word_is (s : ByteArray) : Lib.containsS (wordBytes.take 24) s = isWord (lst s) := by
  have h1 : wordBytes.take 24 = wordBytes := List.take_of_length_le (by simp [wordBytes, words_len])
  rw [h1, Bool.eq_iff_iff, Lib.containsS_iff]
  unfold isWord wordBytes
  rw [List.contains_iff_mem, List.mem_map]
  constructor
  · rintro ⟨l, hl, rfl⟩
    rw [lst_mk]; exact hl
  · intro h
    exact ⟨lst s, h, mk_lst s⟩
theorem word_cell (w : World) (j : Nat) (hj : j < wordBytes.length) : (w.alloc (.cells wordCells 9)).cell? ⟨w.heap.size, 0 + j, none⟩ = some (.string (wordBytes.getD j ByteArray.empty)) := by
  have h := World.cell?_alloc_new w wordCells 9 (0 + j)
  rw [h]
  have hj' : j < wordsL.length := by simpa [wordBytes] using hj
  simp [wordCells, wordBytes, List.getD, hj']

set_option maxRecDepth 100000 in
theorem Word_calls (s : ByteArray) (w : World) (hT : Tab w) : Calls Tryz.prog 95 #[.string s] w fun e w' => e = .returned (.bool (isWord (lst s))) ∧ Mod (fun _ => False) w w' := by
  have HT : Hd _ := ⟨words_calls w hT⟩
  have HC : Hd _ := ⟨Tryz.slices_Contains_string w.heap.size 0 24 24 wordBytes s (w.alloc (.cells wordCells 9)) (by simp [wordBytes, words_len]) (by omega) (fun j hj => word_cell w j hj)⟩
  rw [word_is] at HC
  clear hT
  go_enter Tryz.func95, Tryz.ntmps95
  go_wp2_with fail
  refine HT.out.mono ?_
  rintro e w2 ⟨rfl, rfl⟩
  go_wp2_with fail
  refine HC.out.mono ?_
  rintro e w3 ⟨rfl, rfl⟩
  go_wp2
  go_ret
  exact ⟨rfl, Mod.alloc _ _ _⟩

theorem span_all (l : Bs) : decide (spanB l = l.length) = l.all innerB := by
  unfold spanB
  induction l with
  | nil => rfl
  | cons c l ih =>
    cases h : innerB c with
    | true =>
      simp only [List.takeWhile_cons, h, if_true, List.length_cons, List.all_cons, Bool.true_and]
      rw [← ih]
      simp
    | false => simp [List.takeWhile_cons, h]

set_option maxRecDepth 100000 in
theorem Name_calls (s : ByteArray) (hs : s.size ≤ 1048576) (w : World) (hT : Tab w) : Calls Tryz.prog 44 #[.string s] w fun e w' => e = .returned (.bool (isName (lst s))) ∧ Mod (fun _ => False) w w' := by
  have hlen := lst_len s
  have HN : Hd (isName (lst s) = (!(lst s).isEmpty && decide ((lst s).length ≤ 16) && letterB ((lst s).headD 0) && !isWord (lst s) && (lst s).all innerB)) := ⟨rfl⟩
  have HW : Hd _ := ⟨Word_calls s w hT⟩
  have HSP : Hd (∀ w, _) := ⟨span_calls s hs⟩
  obtain ⟨r, hr⟩ : ∃ r, isName (lst s) = r := ⟨_, rfl⟩
  rw [hr] at HN ⊢
  by_cases h0 : s.size = 0
  · have hl : lst s = [] := List.eq_nil_of_length_eq_zero (by omega)
    have HR : Hd (r = false) := ⟨by rw [HN.out, hl]; rfl⟩
    have hE : s.toList.isEmpty = true := by rw [ByteArray.toList_eq, show s.data.toList = [] from hl]; rfl
    clear HN HW HSP hr hlen h0 hl
    go_enter Tryz.func44, Tryz.ntmps44
    go_wp2
    go_ret
    exact ⟨by rw [HR.out]; rfl, Mod.refl _ _⟩
  · obtain ⟨c, t, hl⟩ : ∃ c t, lst s = c :: t := by
      cases h : lst s with
      | nil => rw [h] at hlen; simp at hlen; omega
      | cons c t => exact ⟨c, t, rfl⟩
    have hE : s.toList.isEmpty = false := by rw [ByteArray.toList_eq, show s.data.toList = c :: t from hl]; rfl
    have hpos : 0 < s.size := by omega
    have hc0 : s[0] = c := by
      have := lst_get (s := s) (k := 0) hpos
      rw [hl] at this
      exact (Option.some.inj this).symm
    rw [hl] at HN
    rw [hl] at HW
    rw [hl] at hlen
    have HL : Hd (∀ w, _) := ⟨letter_calls c⟩
    have HSA : Hd (decide (spanB (lst s) = s.size) = (lst s).all innerB) := ⟨by rw [← lst_len s]; exact span_all _⟩
    rw [hl] at HSA HSP
    obtain ⟨sp, hsp⟩ : ∃ sp, spanB (c :: t) = sp := ⟨_, rfl⟩
    rw [hsp] at HSA HSP
    obtain ⟨wd, hwd⟩ : ∃ wd, isWord (c :: t) = wd := ⟨_, rfl⟩
    rw [hwd] at HN HW
    obtain ⟨lt, hlt⟩ : ∃ lt, letterB c = lt := ⟨_, rfl⟩
    simp only [List.headD_cons, hlen, List.isEmpty_cons, Bool.not_false, Bool.true_and, hlt, ← HSA.out] at HN
    rw [hlt] at HL
    clear hr hsp hwd hlt hlen hl HSA
    by_cases h16 : 16 < s.size
    · have HR : Hd (r = false) := ⟨by rw [HN.out]; simp [show ¬ s.size ≤ 16 by omega]⟩
      clear HN HW HSP
      go_enter Tryz.func44, Tryz.ntmps44
      go_wp2
      go_ret
      exact ⟨by rw [HR.out]; rfl, Mod.refl _ _⟩
    · cases lt with
      | false =>
        have HR : Hd (r = false) := ⟨by rw [HN.out]; simp⟩
        clear HN HW HSP
        go_enter Tryz.func44, Tryz.ntmps44
        go_wp2_with fail
        refine (HL.out _).mono ?_
        rintro e w2 ⟨rfl, rfl⟩
        go_wp2
        go_ret
        exact ⟨by rw [HR.out]; rfl, Mod.refl _ _⟩
      | true =>
        cases wd with
        | true =>
          have HR : Hd (r = false) := ⟨by rw [HN.out]; simp⟩
          clear HN HSP
          go_enter Tryz.func44, Tryz.ntmps44
          go_wp2_with fail
          refine (HL.out _).mono ?_
          rintro e w2 ⟨rfl, rfl⟩
          go_wp2_with fail
          refine HW.out.mono ?_
          rintro e w2 ⟨rfl, hM⟩
          have HM : Hd _ := ⟨hM⟩
          clear hM
          go_wp2
          go_ret
          exact ⟨by rw [HR.out]; rfl, HM.out⟩
        | false =>
          have HR : Hd (r = decide (sp = s.size)) := ⟨by rw [HN.out]; simp [show s.size ≤ 16 by omega]⟩
          clear HN
          go_enter Tryz.func44, Tryz.ntmps44
          go_wp2_with fail
          refine (HL.out _).mono ?_
          rintro e w2 ⟨rfl, rfl⟩
          go_wp2_with fail
          refine HW.out.mono ?_
          rintro e w2 ⟨rfl, hM⟩
          have HM : Hd _ := ⟨hM⟩
          clear hM
          go_wp2_with fail
          refine (HSP.out _).mono ?_
          rintro e w3 ⟨rfl, rfl⟩
          go_wp2
          go_ret
          refine ⟨?_, HM.out⟩
          rw [HR.out]
          simp [beq_nat]
end Go.Proofs.YtpodeccpibnlbaaGreatDoor
namespace Go.Proofs.YtpodeccpibnlbaaGreatDoor
set_option linter.unusedVariables false
set_option linter.unusedSimpArgs false
open Go.RowKit

abbrev mk (l : Bs) : ByteArray := ⟨l.toArray⟩
theorem eq_mk (s : ByteArray) : s = mk (lst s) := (mk_lst s).symm

theorem lst_extract (s : ByteArray) (a : Nat) : lst (s.extract a s.size) = (lst s).drop a := by
  have h : s = mk (lst s) := (mk_lst s).symm
  have hl := lst_len s
  rw [h, ByteArray.extract_mk, lst_mk, lst_mk]
  rw [show (mk (lst s)).size = (lst s).length by rw [← h, ← hl]]
  exact List.take_of_length_le (by simp)

set_option maxRecDepth 100000 in
theorem base_calls (s : ByteArray) (hs : s.size ≤ 1048576) (w : World) : Calls Tryz.prog 143 #[.string s] w fun e w' => e = .returned (.tuple #[.string (mk (strip (lst s)).1), .int .i64 ((strip (lst s)).2 : Int)]) ∧ w = w' := by
  go_enter Tryz.func143, Tryz.ntmps143
  go_wp2_with fail
  go_loopg [0, 4] s.size (fun gk v0 v4 wr => w = wr ∧ ∃ (t : ByteArray) (n : Nat), v0 = .string t ∧ v4 = .int .i64 n ∧ t.size ≤ gk ∧ n + gk ≤ s.size ∧ Hd (strip (lst s) = ((strip (lst t)).1, (strip (lst t)).2 + n)))
  case atStart => exact ⟨rfl, s, 0, rfl, rfl, by omega, by omega, ⟨rfl⟩⟩
  case round =>
    obtain ⟨rfl, t, n, rfl, rfl, ht, hn, HS⟩ := hrel
    have HP : Hd _ := ⟨Tryz.strings_HasPrefix t (mk boxB) w⟩
    go_wp2_with fail
    refine HP.out.mono ?_
    rintro e w2 ⟨rfl, rfl⟩
    cases hb : Lib.hasPrefix t.data.toList boxB with
    | true =>
      obtain ⟨t2, hl⟩ := (fronted_iff boxB (lst t)).1 hb
      have hlen := lst_len t
      have h4 : 4 ≤ t.size := by rw [← hlen, hl]; simp [boxB]
      obtain ⟨u, hu⟩ : ∃ u, t.extract 4 t.size = u := ⟨_, rfl⟩
      have hlu : lst u = t2 := by rw [← hu, lst_extract, hl]; rfl
      have hus : u.size + 4 = t.size := by rw [← lst_len u, hlu, ← hlen, hl]; simp [boxB]
      have HS2 : Hd (strip (lst s) = ((strip (lst u)).1, (strip (lst u)).2 + (n + 1))) := ⟨by
        rw [HS.out, hl, strip_box, hlu]
        simp only [Prod.mk.injEq, true_and]
        omega⟩
      clear hb hl hlen hlu
      go_wp2_with fail
      go_roundg (gk - 1)
      case measure => omega
      case rel => exact ⟨rfl, u, n + 1, by simp [hu], by go_num, by omega, by omega, HS2⟩
    | false =>
      have hst := strip_not (l := lst t) hb
      have HS2 : Hd (strip (lst s) = (lst t, n)) := ⟨by rw [HS.out, hst]; simp⟩
      clear hb hst
      go_wp2
      exact bodyPost_ret (v := .tuple #[.string t, .int .i64 (n : Int)]) (by simp [results, Tryz.f143, go_sem]) rfl ⟨by rw [HS2.out, eq_mk t], rfl⟩

theorem strip_len (l : Bs) : (strip l).1.length ≤ l.length := by
  have : ∀ (n : Nat) (l : Bs), l.length ≤ n → (strip l).1.length ≤ l.length := by
    intro n
    induction n with
    | zero => intro l hl; obtain rfl := List.eq_nil_of_length_eq_zero (show l.length = 0 by omega); simp [strip]
    | succ n ih =>
      intro l hl
      cases hb : fronted boxB l with
      | true =>
        obtain ⟨t, rfl⟩ := (fronted_iff _ _).1 hb
        rw [strip_box]
        have := ih t (by simp [boxB] at hl; omega)
        simp [boxB]
        omega
      | false => rw [strip_not hb]; exact Nat.le_refl _
  exact this l.length l (Nat.le_refl _)

theorem strip_num (l : Bs) : (strip l).2 ≤ l.length := by
  have : ∀ (n : Nat) (l : Bs), l.length ≤ n → (strip l).2 ≤ l.length := by
    intro n
    induction n with
    | zero => intro l hl; obtain rfl := List.eq_nil_of_length_eq_zero (show l.length = 0 by omega); simp [strip]
    | succ n ih =>
      intro l hl
      cases hb : fronted boxB l with
      | true =>
        obtain ⟨t, rfl⟩ := (fronted_iff _ _).1 hb
        rw [strip_box]
        have := ih t (by simp [boxB] at hl; omega)
        simp [boxB]
        omega
      | false => rw [strip_not hb]; simp
  exact this l.length l (Nat.le_refl _)

set_option maxRecDepth 100000 in
theorem Plain_calls (s : ByteArray) (hs : s.size ≤ 1048576) (w : World) (hT : Tab w) : Calls Tryz.prog 100 #[.string s] w fun e w' => e = .returned (.bool (plainI (lst s))) ∧ Mod (fun _ => False) w w' := by
  have HB : Hd _ := ⟨base_calls s hs w⟩
  have hn1 := strip_num (lst s)
  have ht1 := strip_len (lst s)
  rw [lst_len] at hn1 ht1
  have HP : Hd (plainI (lst s) = (decide ((strip (lst s)).2 ≤ 8) && goodB (strip (lst s)).1)) := ⟨rfl⟩
  obtain ⟨r, hr⟩ : ∃ r, plainI (lst s) = r := ⟨_, rfl⟩
  rw [hr] at HP ⊢
  obtain ⟨n, hn⟩ : ∃ n, (strip (lst s)).2 = n := ⟨_, rfl⟩
  obtain ⟨tb, htb⟩ : ∃ tb, mk (strip (lst s)).1 = tb := ⟨_, rfl⟩
  have htl : (strip (lst s)).1 = lst tb := by rw [← htb, lst_mk]
  rw [htb, hn] at HB
  rw [hn, htl] at HP
  rw [hn] at hn1
  rw [htl, lst_len] at ht1
  clear hr hn htb htl
  by_cases h8 : n ≤ 8
  · by_cases hi : lst tb = intB
    · have hq : tb = mk intB := (eq_mk tb).trans (by rw [hi])
      have HR : Hd (r = true) := ⟨by rw [HP.out]; simp [h8, goodB, hi]⟩
      subst hq
      clear HP hi
      go_enter Tryz.func100, Tryz.ntmps100
      go_wp2_with fail
      refine HB.out.mono ?_
      rintro e w2 ⟨rfl, rfl⟩
      go_wp2
      go_ret
      exact ⟨by rw [HR.out]; rfl, Mod.refl _ _⟩
    · have hq : ¬ tb = mk intB := fun e => hi (by rw [e])
      have hq2 : (tb.toList == [105, 110, 116]) = false := by
        rw [ByteArray.toList_eq]
        exact beq_false_of_ne hi
      have HR : Hd (r = isName (lst tb)) := ⟨by rw [HP.out]; simp [h8, goodB, hi]⟩
      have HN : Hd (∀ w, Tab w → _) := ⟨fun w h => Name_calls tb (by omega) w h⟩
      obtain ⟨nm, hnm⟩ : ∃ nm, isName (lst tb) = nm := ⟨_, rfl⟩
      rw [hnm] at HR HN
      have HT : Hd _ := ⟨HN.out w hT⟩
      clear HP hi hnm HN hT
      go_enter Tryz.func100, Tryz.ntmps100
      go_wp2_with fail
      refine HB.out.mono ?_
      rintro e w2 ⟨rfl, rfl⟩
      go_wp2_with fail
      refine HT.out.mono ?_
      rintro e w3 ⟨rfl, hM⟩
      have HM : Hd _ := ⟨hM⟩
      clear hM
      go_wp2
      go_ret
      exact ⟨by rw [HR.out]; rfl, HM.out⟩
  · have HR : Hd (r = false) := ⟨by rw [HP.out]; simp [h8]⟩
    clear HP hT
    go_enter Tryz.func100, Tryz.ntmps100
    go_wp2_with fail
    refine HB.out.mono ?_
    rintro e w2 ⟨rfl, rfl⟩
    go_wp2
    go_ret
    exact ⟨by rw [HR.out]; rfl, Mod.refl _ _⟩

theorem Tab.mod {w w' : World} (h : Tab w) (hM : Mod (fun _ => False) w w') : Tab w' := by
  unfold Tab Lib.TabIs World.var? at h ⊢
  cases hg : Tryz.prog.globalNamed "strings.asciiSpace" with
  | none => rw [hg] at h; cases h
  | some g =>
    rw [hg] at h
    simp only [Option.bind_some] at h ⊢
    have hlt : g < w.heap.size := by
      cases hh : w.heap[g]? with
      | none => rw [hh] at h; cases h
      | some o => exact (Array.getElem?_eq_some_iff.1 hh).1
    rw [hM.block g hlt (fun h => h)]
    exact h

theorem cut_calls (s : ByteArray) (p : Bs) (w : World) : Calls Tryz.prog 186 #[.string s, .string (mk p)] w fun e w' => e = .returned (.tuple #[.string (if fronted p (lst s) then mk ((lst s).drop p.length) else s), .bool (fronted p (lst s))]) ∧ w = w' := by
  refine (Tryz.strings_CutPrefix s (mk p) w).mono ?_
  rintro e w' ⟨rfl, rfl⟩
  refine ⟨?_, rfl⟩
  have hm : (mk p).data.toList = p := lst_mk p
  rw [hm]
  unfold Lib.trimPrefix
  have hf : Lib.hasPrefix s.data.toList p = fronted p (lst s) := rfl
  rw [hf]
  cases fronted p (lst s) with
  | true => rfl
  | false =>
    rw [if_neg (by simp), if_neg (by simp), show (⟨s.data.toList.toArray⟩ : ByteArray) = s from mk_lst s]
theorem has_calls (s : ByteArray) (p : Bs) (w : World) : Calls Tryz.prog 168 #[.string s, .string (mk p)] w fun e w' => e = .returned (.bool (fronted p (lst s))) ∧ w = w' := by
  refine (Tryz.strings_HasPrefix s (mk p) w).mono ?_
  rintro e w' ⟨rfl, rfl⟩
  have hm : (mk p).data.toList = p := lst_mk p
  rw [hm]
  exact ⟨rfl, rfl⟩

set_option maxRecDepth 100000 in
theorem front_calls (s : ByteArray) (w : World) : Calls Tryz.prog 169 #[.string s] w fun e w' => e = .returned (.tuple #[.int .i64 ((frontI (lst s)).1 : Int), .string (mk (frontI (lst s)).2)]) ∧ w = w' := by
  have H1 : Hd (∀ w, _) := ⟨fun w => cut_calls s refB w⟩
  have H2 : Hd (∀ w, _) := ⟨fun w => cut_calls s mutB w⟩
  have HF : Hd (frontI (lst s) = if fronted refB (lst s) then (4, (lst s).drop 4) else if fronted mutB (lst s) then (5, (lst s).drop 4) else (0, lst s)) := ⟨rfl⟩
  obtain ⟨f, hf⟩ : ∃ f, frontI (lst s) = f := ⟨_, rfl⟩
  rw [hf] at HF ⊢
  clear hf
  obtain ⟨u, hu⟩ : ∃ u, mk ((lst s).drop 4) = u := ⟨_, rfl⟩
  have HU : Hd _ := ⟨hu⟩
  have h4 : refB.length = 4 := rfl
  have h4' : mutB.length = 4 := rfl
  rw [h4, hu] at H1
  rw [h4', hu] at H2
  clear hu h4 h4'
  cases h1 : fronted refB (lst s) with
  | true =>
    rw [h1, if_pos rfl] at HF H1
    clear h1 H2
    go_enter Tryz.func169, Tryz.ntmps169
    go_wp2_with fail
    refine (H1.out _).mono ?_
    rintro e w2 ⟨rfl, rfl⟩
    go_wp2
    exact bodyPost_ret (v := .tuple #[.int .i64 4, .string u]) (by simp [results, Tryz.f169, go_sem]) rfl ⟨by rw [HF.out, ← HU.out]; rfl, rfl⟩
  | false =>
    rw [h1] at H1 HF
    simp only [Bool.false_eq_true, if_false] at HF H1
    cases h2 : fronted mutB (lst s) with
    | true =>
      rw [h2, if_pos rfl] at HF H2
      clear h1 h2
      go_enter Tryz.func169, Tryz.ntmps169
      go_wp2_with fail
      refine (H1.out _).mono ?_
      rintro e w2 ⟨rfl, rfl⟩
      go_wp2_with fail
      refine (H2.out _).mono ?_
      rintro e w2 ⟨rfl, rfl⟩
      go_wp2
      exact bodyPost_ret (v := .tuple #[.int .i64 5, .string u]) (by simp [results, Tryz.f169, go_sem]) rfl ⟨by rw [HF.out, ← HU.out]; rfl, rfl⟩
    | false =>
      rw [h2] at HF H2
      simp only [Bool.false_eq_true, if_false] at HF H2
      clear h1 h2
      go_enter Tryz.func169, Tryz.ntmps169
      go_wp2_with fail
      refine (H1.out _).mono ?_
      rintro e w2 ⟨rfl, rfl⟩
      go_wp2_with fail
      refine (H2.out _).mono ?_
      rintro e w2 ⟨rfl, rfl⟩
      go_wp2
      exact bodyPost_ret (v := .tuple #[.int .i64 0, .string s]) (by simp [results, Tryz.f169, go_sem]) rfl ⟨by rw [HF.out]; dsimp only; rw [← eq_mk s]; rfl, rfl⟩
end Go.Proofs.YtpodeccpibnlbaaGreatDoor
namespace Go.Proofs.YtpodeccpibnlbaaGreatDoor
set_option linter.unusedVariables false
set_option linter.unusedSimpArgs false
open Go.RowKit

theorem front_len (l : Bs) : (frontI l).2.length ≤ l.length := by
  unfold frontI
  split
  · simp
  · split
    · simp
    · exact Nat.le_refl _
theorem front_num (l : Bs) : (frontI l).1 = 0 ∨ (frontI l).1 = 4 ∨ (frontI l).1 = 5 := by
  unfold frontI
  split
  · exact Or.inr (Or.inl rfl)
  · split
    · exact Or.inr (Or.inr rfl)
    · exact Or.inl rfl

set_option maxRecDepth 100000 in
theorem Kind_calls (s : ByteArray) (hs : s.size ≤ 1048576) (w : World) (hT : Tab w) : Calls Tryz.prog 146 #[.string s] w fun e w' => e = .returned (.int .i64 (kindI (lst s) : Int)) ∧ Mod (fun _ => False) w w' := by
  have HF : Hd _ := ⟨front_calls s w⟩
  have hl := front_len (lst s)
  have hk := front_num (lst s)
  have HK : Hd (kindI (lst s) = if !plainI (frontI (lst s)).2 then 0 else if (frontI (lst s)).1 ≠ 0 then (frontI (lst s)).1 else if (frontI (lst s)).2 = intB then 1 else if fronted boxB (frontI (lst s)).2 then 3 else 2) := ⟨rfl⟩
  obtain ⟨r, hr⟩ : ∃ r, kindI (lst s) = r := ⟨_, rfl⟩
  rw [hr] at HK ⊢
  obtain ⟨k, hkk⟩ : ∃ k, (frontI (lst s)).1 = k := ⟨_, rfl⟩
  obtain ⟨u, hu⟩ : ∃ u, mk (frontI (lst s)).2 = u := ⟨_, rfl⟩
  have hul : (frontI (lst s)).2 = lst u := by rw [← hu, lst_mk]
  rw [hu, hkk] at HF
  rw [hkk, hul] at HK
  rw [hkk] at hk
  rw [hul, lst_len, lst_len] at hl
  have HP : Hd _ := ⟨Plain_calls u (by omega) w hT⟩
  have HB : Hd (∀ w, _) := ⟨fun w => has_calls u boxB w⟩
  obtain ⟨p, hp⟩ : ∃ p, plainI (lst u) = p := ⟨_, rfl⟩
  obtain ⟨fb, hfb⟩ : ∃ fb, fronted boxB (lst u) = fb := ⟨_, rfl⟩
  rw [hp] at HP HK
  rw [hfb] at HB HK
  clear hr hkk hu hul hp hfb hT
  cases p with
  | false =>
    have HR : Hd (r = 0) := ⟨by rw [HK.out]; rfl⟩
    clear HK HB hk
    go_enter Tryz.func146, Tryz.ntmps146
    go_wp2_with fail
    refine HF.out.mono ?_
    rintro e w2 ⟨rfl, rfl⟩
    go_wp2_with fail
    refine HP.out.mono ?_
    rintro e w3 ⟨rfl, hM⟩
    have HM : Hd _ := ⟨hM⟩
    clear hM
    go_wp2
    go_ret
    exact ⟨by rw [HR.out]; rfl, HM.out⟩
  | true =>
    by_cases hk0 : k = 0
    · subst hk0
      by_cases hi : lst u = intB
      · have hq : u = mk intB := (eq_mk u).trans (by rw [hi])
        have HR : Hd (r = 1) := ⟨by rw [HK.out]; simp [hi]⟩
        subst hq
        clear HK HB hk hi
        go_enter Tryz.func146, Tryz.ntmps146
        go_wp2_with fail
        refine HF.out.mono ?_
        rintro e w2 ⟨rfl, rfl⟩
        go_wp2_with fail
        refine HP.out.mono ?_
        rintro e w3 ⟨rfl, hM⟩
        have HM : Hd _ := ⟨hM⟩
        clear hM
        go_wp2
        go_ret
        exact ⟨by rw [HR.out]; rfl, HM.out⟩
      · have hq : ¬ u = mk intB := fun e => hi (by rw [e])
        have hq2 : (u.toList == [105, 110, 116]) = false := by
          rw [ByteArray.toList_eq]
          exact beq_false_of_ne hi
        have HR : Hd (r = if fb then 3 else 2) := ⟨by rw [HK.out]; simp [hi]⟩
        clear HK hk hi
        cases fb with
        | true =>
          go_enter Tryz.func146, Tryz.ntmps146
          go_wp2_with fail
          refine HF.out.mono ?_
          rintro e w2 ⟨rfl, rfl⟩
          go_wp2_with fail
          refine HP.out.mono ?_
          rintro e w3 ⟨rfl, hM⟩
          have HM : Hd _ := ⟨hM⟩
          clear hM
          go_wp2_with fail
          refine (HB.out _).mono ?_
          rintro e w4 ⟨rfl, rfl⟩
          go_wp2
          go_ret
          exact ⟨by rw [HR.out]; rfl, HM.out⟩
        | false =>
          go_enter Tryz.func146, Tryz.ntmps146
          go_wp2_with fail
          refine HF.out.mono ?_
          rintro e w2 ⟨rfl, rfl⟩
          go_wp2_with fail
          refine HP.out.mono ?_
          rintro e w3 ⟨rfl, hM⟩
          have HM : Hd _ := ⟨hM⟩
          clear hM
          go_wp2_with fail
          refine (HB.out _).mono ?_
          rintro e w4 ⟨rfl, rfl⟩
          go_wp2
          go_ret
          exact ⟨by rw [HR.out]; rfl, HM.out⟩
    · have hk1 : ¬ (k : Int) = 0 := by omega
      have HR : Hd (r = k) := ⟨by rw [HK.out]; simp [hk0]⟩
      clear HK HB hk hk0
      go_enter Tryz.func146, Tryz.ntmps146
      go_wp2_with fail
      refine HF.out.mono ?_
      rintro e w2 ⟨rfl, rfl⟩
      go_wp2_with fail
      refine HP.out.mono ?_
      rintro e w3 ⟨rfl, hM⟩
      have HM : Hd _ := ⟨hM⟩
      clear hM
      go_wp2
      go_ret
      exact ⟨by rw [HR.out]; rfl, HM.out⟩

end Go.Proofs.YtpodeccpibnlbaaGreatDoor
