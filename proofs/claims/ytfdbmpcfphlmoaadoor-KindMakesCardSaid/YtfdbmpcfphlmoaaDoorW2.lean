/- lex's span, words, Word, Name, by walks. -/
import Derived.Test.YtfdbmpcfphlmoaaDoorW1
namespace Go.Proofs.YtfdbmpcfphlmoaaDoor
set_option linter.unusedVariables false
set_option linter.unusedSimpArgs false
open Go.RowKit

theorem beq_nat (a b : Nat) : ((a : Int) == (b : Int)) = decide (a = b) := by
  rw [Bool.eq_iff_iff, beq_iff_eq, decide_eq_true_iff]
  omega
abbrev lst (s : ByteArray) : Bs := s.data.toList
theorem lst_len (s : ByteArray) : (lst s).length = s.size := (Lib.size_eq s).symm
theorem lst_get {s : ByteArray} {k : Nat} (h : k < s.size) : (lst s)[k]? = some s[k] := by
  have h' : k < (lst s).length := by rw [lst_len]; exact h
  rw [List.getElem?_eq_getElem h']
  rfl
theorem lst_drop {s : ByteArray} {k : Nat} (h : k < s.size) : (lst s).drop k = s[k] :: (lst s).drop (k + 1) := by
  have h' : k < (lst s).length := by rw [lst_len]; exact h
  rw [List.drop_eq_getElem_cons h']
  rfl

def spanB (l : Bs) : Nat := (l.takeWhile innerB).length

set_option maxRecDepth 100000 in
theorem span_calls (s : ByteArray) (hs : s.size ≤ 1048576) (w : World) : Calls Tryd.prog 30 #[.string s, .func (.func 31) #[] #[]] w fun e w' => e = .returned (.int .i64 (spanB (lst s) : Int)) ∧ w = w' := by
  have HI : Hd (∀ (c : UInt8) (w : World), Calls Tryd.prog 31 #[.int .u8 (c.toNat : Int)] w fun e w' => e = .returned (.bool (innerB c)) ∧ w = w') := ⟨inner_calls⟩
  go_enter Tryd.func30, Tryd.ntmps30
  go_wp2_with fail
  go_loopg [5] s.size (fun gk v5 wr => w = wr ∧ ∃ k : Nat, v5 = .int .i64 k ∧ k + gk = s.size ∧ Hd (k + spanB ((lst s).drop k) = spanB (lst s)))
  case atStart => exact ⟨rfl, 0, rfl, by omega, ⟨by simp⟩⟩
  case round =>
    obtain ⟨rfl, k, rfl, hk, HS⟩ := hrel
    by_cases hlt : k < s.size
    · obtain ⟨c, hc⟩ : ∃ c : UInt8, s[k] = c := ⟨_, rfl⟩
      have hd := lst_drop hlt
      rw [hc] at hd
      have HD : Hd _ := ⟨hd⟩
      clear hd
      go_wp2_with fail
      refine (HI.out c _).mono ?_
      rintro e w2 ⟨rfl, rfl⟩
      cases hic : innerB c with
      | true =>
        have HS2 : Hd (k + 1 + spanB ((lst s).drop (k + 1)) = spanB (lst s)) := ⟨by have := HS.out; rw [HD.out] at this; simp only [spanB, List.takeWhile_cons, hic, if_true, List.length_cons] at this ⊢; omega⟩
        clear hic
        go_wp2_with fail
        go_roundg (gk - 1)
        case measure => omega
        case rel => exact ⟨rfl, k + 1, by go_num, by omega, HS2⟩
      | false =>
        have HS2 : Hd (k = spanB (lst s)) := ⟨by have := HS.out; rw [HD.out] at this; simp only [spanB, List.takeWhile_cons, hic, Bool.false_eq_true, if_false, List.length_nil] at this ⊢; omega⟩
        clear hic
        go_wp2
        go_ret
        exact ⟨by rw [← HS2.out]; rfl, rfl⟩
    · have HS2 : Hd (k = spanB (lst s)) := ⟨by have := HS.out; rw [List.drop_eq_nil_of_le (by rw [lst_len]; omega)] at this; simpa [spanB] using this⟩
      go_wp2
      go_ret
      exact ⟨by rw [← HS2.out]; rfl, rfl⟩

/-! ### words -/
/-- The library's table of blanks. -/
def Tab (w : World) : Prop := Lib.TabIs Tryd.prog w "strings.asciiSpace" .u8 Lib.asciiSpaceTab
def wordsText : ByteArray := { data := ([115, 116, 114, 117, 99, 116, 32, 101, 110, 117, 109, 32, 102, 110, 32, 108, 101, 116, 32, 115, 97, 102, 101, 32, 104, 111, 111, 107, 32, 105, 110, 116, 32, 98, 111, 120, 32, 114, 101, 102, 32, 109, 117, 116, 32, 97, 100, 100, 32, 115, 117, 98, 32, 108, 101].append [115, 115, 32, 117, 115, 101, 32, 110, 101, 119, 32, 116, 97, 103, 32, 111, 117, 116, 32, 103, 111, 116, 111, 32, 105, 102, 32, 109, 97, 116, 99, 104, 32, 99, 104, 101, 99, 107, 32, 99, 97, 108, 108, 32, 99, 97, 116, 99, 104, 32, 114, 101, 116, 117, 114, 110]).toArray }
theorem words_fields : Lib.fields wordsText.data.toList = wordsL := by decide +kernel
theorem words_ascii : ∀ (j : Nat) b, wordsText.data.toList[j]? = some b → b.toNat < 128 := by
  have h : wordsText.data.toList.all (fun b => decide (b.toNat < 128)) = true := by decide +kernel
  intro j b hj
  exact of_decide_eq_true (List.all_eq_true.1 h b (List.mem_of_getElem? hj))
def wordCells : Array Value := (wordsL.map fun l => Value.string ⟨l.toArray⟩).toArray

set_option maxRecDepth 100000 in
theorem words_calls (w : World) (hT : Tab w) : Calls Tryd.prog 33 #[] w fun e w' => e = .returned (.slice (some ⟨w.heap.size, 0, none⟩) 24 24) ∧ w' = w.alloc (.cells wordCells 9) := by
  have HT : Hd _ := ⟨hT⟩
  clear hT
  have HC : Hd _ := ⟨Tryd.strings_Fields wordsText w (by decide +kernel) words_ascii HT.out⟩
  rw [words_fields] at HC
  go_enter Tryd.func33, Tryd.ntmps33
  go_wp2_with fail
  refine HC.out.mono ?_
  rintro e w2 ⟨rfl, rfl⟩
  go_wp2
  go_ret
  exact ⟨rfl, rfl⟩

theorem mk_lst (s : ByteArray) : (⟨(lst s).toArray⟩ : ByteArray) = s := by
  cases s with
  | mk a => simp [lst]
theorem lst_mk (l : Bs) : lst ⟨l.toArray⟩ = l := by simp [lst]
def wordBytes : List ByteArray := wordsL.map fun l => ⟨l.toArray⟩
theorem words_len : wordsL.length = 24 := by decide
theorem word_is (s : ByteArray) : Lib.containsS (wordBytes.take 24) s = isWord (lst s) := by
  have h1 : wordBytes.take 24 = wordBytes := List.take_of_length_le (by simp [wordBytes, words_len])
  rw [h1, Bool.eq_iff_iff, Lib.containsS_iff]
  unfold isWord wordBytes
  rw [List.contains_iff_mem, List.mem_map]
  constructor
  · rintro ⟨l, hl, rfl⟩
    rw [lst_mk]; exact hl
  · intro h
    exact ⟨lst s, h, mk_lst s⟩
theorem word_cell (w : World) (j : Nat) (hj : j < wordBytes.length) : (w.alloc (.cells wordCells 9)).cell? ⟨w.heap.size, 0 + j, none⟩ = some (.string (wordBytes.getD j ByteArray.empty)) := by
  have h := World.cell?_alloc_new w wordCells 9 (0 + j)
  rw [h]
  have hj' : j < wordsL.length := by simpa [wordBytes] using hj
  simp [wordCells, wordBytes, List.getD, hj']

set_option maxRecDepth 100000 in
theorem Word_calls (s : ByteArray) (w : World) (hT : Tab w) : Calls Tryd.prog 19 #[.string s] w fun e w' => e = .returned (.bool (isWord (lst s))) ∧ Mod (fun _ => False) w w' := by
  have HT : Hd _ := ⟨words_calls w hT⟩
  have HC : Hd _ := ⟨Tryd.slices_Contains_string w.heap.size 0 24 24 wordBytes s (w.alloc (.cells wordCells 9)) (by simp [wordBytes, words_len]) (by omega) (fun j hj => word_cell w j hj)⟩
  rw [word_is] at HC
  clear hT
  go_enter Tryd.func19, Tryd.ntmps19
  go_wp2_with fail
  refine HT.out.mono ?_
  rintro e w2 ⟨rfl, rfl⟩
  go_wp2_with fail
  refine HC.out.mono ?_
  rintro e w3 ⟨rfl, rfl⟩
  go_wp2
  go_ret
  exact ⟨rfl, Mod.alloc _ _ _⟩

theorem span_all (l : Bs) : decide (spanB l = l.length) = l.all innerB := by
  unfold spanB
  induction l with
  | nil => rfl
  | cons c l ih =>
    cases h : innerB c with
    | true =>
      simp only [List.takeWhile_cons, h, if_true, List.length_cons, List.all_cons, Bool.true_and]
      rw [← ih]
      simp
    | false => simp [List.takeWhile_cons, h]

set_option maxRecDepth 100000 in
theorem Name_calls (s : ByteArray) (hs : s.size ≤ 1048576) (w : World) (hT : Tab w) : Calls Tryd.prog 18 #[.string s] w fun e w' => e = .returned (.bool (isName (lst s))) ∧ Mod (fun _ => False) w w' := by
  have hlen := lst_len s
  have HN : Hd (isName (lst s) = (!(lst s).isEmpty && decide ((lst s).length ≤ 16) && letterB ((lst s).headD 0) && !isWord (lst s) && (lst s).all innerB)) := ⟨rfl⟩
  have HW : Hd _ := ⟨Word_calls s w hT⟩
  have HSP : Hd (∀ w, _) := ⟨span_calls s hs⟩
  obtain ⟨r, hr⟩ : ∃ r, isName (lst s) = r := ⟨_, rfl⟩
  rw [hr] at HN ⊢
  by_cases h0 : s.size = 0
  · have hl : lst s = [] := List.eq_nil_of_length_eq_zero (by omega)
    have HR : Hd (r = false) := ⟨by rw [HN.out, hl]; rfl⟩
    have hE : s.toList.isEmpty = true := by rw [ByteArray.toList_eq, show s.data.toList = [] from hl]; rfl
    clear HN HW HSP hr hlen h0 hl
    go_enter Tryd.func18, Tryd.ntmps18
    go_wp2
    go_ret
    exact ⟨by rw [HR.out]; rfl, Mod.refl _ _⟩
  · obtain ⟨c, t, hl⟩ : ∃ c t, lst s = c :: t := by
      cases h : lst s with
      | nil => rw [h] at hlen; simp at hlen; omega
      | cons c t => exact ⟨c, t, rfl⟩
    have hE : s.toList.isEmpty = false := by rw [ByteArray.toList_eq, show s.data.toList = c :: t from hl]; rfl
    have hpos : 0 < s.size := by omega
    have hc0 : s[0] = c := by
      have := lst_get (s := s) (k := 0) hpos
      rw [hl] at this
      exact (Option.some.inj this).symm
    rw [hl] at HN
    rw [hl] at HW
    rw [hl] at hlen
    have HL : Hd (∀ w, _) := ⟨letter_calls c⟩
    have HSA : Hd (decide (spanB (lst s) = s.size) = (lst s).all innerB) := ⟨by rw [← lst_len s]; exact span_all _⟩
    rw [hl] at HSA HSP
    obtain ⟨sp, hsp⟩ : ∃ sp, spanB (c :: t) = sp := ⟨_, rfl⟩
    rw [hsp] at HSA HSP
    obtain ⟨wd, hwd⟩ : ∃ wd, isWord (c :: t) = wd := ⟨_, rfl⟩
    rw [hwd] at HN HW
    obtain ⟨lt, hlt⟩ : ∃ lt, letterB c = lt := ⟨_, rfl⟩
    simp only [List.headD_cons, hlen, List.isEmpty_cons, Bool.not_false, Bool.true_and, hlt, ← HSA.out] at HN
    rw [hlt] at HL
    clear hr hsp hwd hlt hlen hl HSA
    by_cases h16 : 16 < s.size
    · have HR : Hd (r = false) := ⟨by rw [HN.out]; simp [show ¬ s.size ≤ 16 by omega]⟩
      clear HN HW HSP
      go_enter Tryd.func18, Tryd.ntmps18
      go_wp2
      go_ret
      exact ⟨by rw [HR.out]; rfl, Mod.refl _ _⟩
    · cases lt with
      | false =>
        have HR : Hd (r = false) := ⟨by rw [HN.out]; simp⟩
        clear HN HW HSP
        go_enter Tryd.func18, Tryd.ntmps18
        go_wp2_with fail
        refine (HL.out _).mono ?_
        rintro e w2 ⟨rfl, rfl⟩
        go_wp2
        go_ret
        exact ⟨by rw [HR.out]; rfl, Mod.refl _ _⟩
      | true =>
        cases wd with
        | true =>
          have HR : Hd (r = false) := ⟨by rw [HN.out]; simp⟩
          clear HN HSP
          go_enter Tryd.func18, Tryd.ntmps18
          go_wp2_with fail
          refine (HL.out _).mono ?_
          rintro e w2 ⟨rfl, rfl⟩
          go_wp2_with fail
          refine HW.out.mono ?_
          rintro e w2 ⟨rfl, hM⟩
          have HM : Hd _ := ⟨hM⟩
          clear hM
          go_wp2
          go_ret
          exact ⟨by rw [HR.out]; rfl, HM.out⟩
        | false =>
          have HR : Hd (r = decide (sp = s.size)) := ⟨by rw [HN.out]; simp [show s.size ≤ 16 by omega]⟩
          clear HN
          go_enter Tryd.func18, Tryd.ntmps18
          go_wp2_with fail
          refine (HL.out _).mono ?_
          rintro e w2 ⟨rfl, rfl⟩
          go_wp2_with fail
          refine HW.out.mono ?_
          rintro e w2 ⟨rfl, hM⟩
          have HM : Hd _ := ⟨hM⟩
          clear hM
          go_wp2_with fail
          refine (HSP.out _).mono ?_
          rintro e w3 ⟨rfl, rfl⟩
          go_wp2
          go_ret
          refine ⟨?_, HM.out⟩
          rw [HR.out]
          simp [beq_nat]
end Go.Proofs.YtfdbmpcfphlmoaaDoor
