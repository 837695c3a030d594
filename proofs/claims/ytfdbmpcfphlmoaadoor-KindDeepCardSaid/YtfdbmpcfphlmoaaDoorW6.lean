/- The document's shaped, Word, Name, by walks. -/
import Derived.Test.YtfdbmpcfphlmoaaDoorW3
namespace Go.Proofs.YtfdbmpcfphlmoaaDoor
set_option linter.unusedVariables false
set_option linter.unusedSimpArgs false
open Go.RowKit

def chk : Nat → Bs → Bool
  | _, [] => true
  | i, c :: l => (letterB c || (!decide (i = 0) && (digitB c || decide (c.toNat = 95)))) && chk (i + 1) l
def shapedB (l : Bs) : Bool := !l.isEmpty && chk 0 l
theorem chk_all : ∀ (l : Bs) (i : Nat), chk (i + 1) l = l.all innerB := by
  intro l
  induction l with
  | nil => intro i; rfl
  | cons c l ih => intro i; rw [chk, ih, List.all_cons]; simp [innerB, Bool.or_assoc]
theorem shaped_name (l : Bs) : (shapedB l && decide (l.length ≤ 16) && !isWord l) = isName l := by
  unfold shapedB isName
  cases l with
  | nil => rfl
  | cons c t =>
    rw [chk, chk_all, List.all_cons]
    have : letterB c = true → innerB c = true := fun h => by unfold innerB; rw [h]; rfl
    cases h : letterB c with
    | false => simp [h]
    | true =>
      rw [this h]
      simp [h, Bool.and_comm, Bool.and_assoc, Bool.and_left_comm]

set_option maxRecDepth 100000 in
theorem shaped_calls (s : ByteArray) (hs : s.size ≤ 1048576) (w : World) : Calls Tryd.prog 35 #[.string s] w fun e w' => e = .returned (.bool (shapedB (lst s))) ∧ w = w' := by
  have HL : Hd (∀ (c : UInt8) (w : World), Calls Tryd.prog 42 #[.int .u8 (c.toNat : Int)] w fun e w' => e = .returned (.bool (letterB c)) ∧ w = w') := ⟨rletter_calls⟩
  have HD : Hd (∀ (c : UInt8) (w : World), Calls Tryd.prog 43 #[.int .u8 (c.toNat : Int)] w fun e w' => e = .returned (.bool (digitB c)) ∧ w = w') := ⟨rdigit_calls⟩
  have HE : Hd (shapedB (lst s) = (!(lst s).isEmpty && chk 0 (lst s))) := ⟨rfl⟩
  obtain ⟨r, hr⟩ : ∃ r, shapedB (lst s) = r := ⟨_, rfl⟩
  rw [hr] at HE ⊢
  clear hr
  go_enter Tryd.func35, Tryd.ntmps35
  go_wp2_with fail
  go_loopg [3] s.size (fun gk v3 wr => w = wr ∧ ∃ k : Nat, v3 = .int .i64 k ∧ k + gk = s.size ∧ Hd (chk 0 (lst s) = chk k ((lst s).drop k)))
  case atStart => exact ⟨rfl, 0, rfl, by omega, ⟨rfl⟩⟩
  case round =>
    obtain ⟨rfl, k, rfl, hk, HS⟩ := hrel
    by_cases hlt : k < s.size
    · obtain ⟨c, hc⟩ : ∃ c : UInt8, s[k] = c := ⟨_, rfl⟩
      have hd := lst_drop hlt
      rw [hc] at hd
      have hs2 := HS.out
      rw [hd, chk] at hs2
      have HS1 : Hd _ := ⟨hs2⟩
      have hne : (lst s).isEmpty = false := by
        cases h : lst s with
        | nil => have := lst_len s; rw [h] at this; simp at this; omega
        | cons a b => rfl
      rw [hne] at HE
      clear hd hs2 HS hne
      go_wp2_with fail
      refine (HL.out c _).mono ?_
      rintro e w2 ⟨rfl, rfl⟩
      cases hl : letterB c with
      | true =>
        have HS2 : Hd (chk 0 (lst s) = chk (k + 1) ((lst s).drop (k + 1))) := ⟨by rw [HS1.out, hl]; simp⟩
        clear hl
        go_wp2_with fail
        go_roundg (gk - 1)
        case measure => omega
        case rel => exact ⟨rfl, k + 1, by go_num, by omega, HS2⟩
      | false =>
        by_cases hk0 : k = 0
        · have HR : Hd (r = false) := ⟨by rw [HE.out, HS1.out, hl]; simp [hk0]⟩
          subst hk0
          clear hl HS1
          go_wp2
          go_ret
          exact ⟨by rw [HR.out]; rfl, rfl⟩
        · have hk1 : ¬ (k : Int) = 0 := by omega
          go_wp2_with fail
          refine (HD.out c _).mono ?_
          rintro e w2 ⟨rfl, rfl⟩
          cases hdg : digitB c with
          | true =>
            have HS2 : Hd (chk 0 (lst s) = chk (k + 1) ((lst s).drop (k + 1))) := ⟨by rw [HS1.out, hl, hdg]; simp [hk0]⟩
            clear hl hdg hk0
            go_wp2_with fail
            go_roundg (gk - 1)
            case measure => omega
            case rel => exact ⟨rfl, k + 1, by go_num, by omega, HS2⟩
          | false =>
            by_cases h95 : c.toNat = 95
            · have HS2 : Hd (chk 0 (lst s) = chk (k + 1) ((lst s).drop (k + 1))) := ⟨by rw [HS1.out, hl, hdg, h95]; simp [hk0]⟩
              have h95' : ((c.toNat : Int) != 95) = false := by rw [h95]; rfl
              clear hl hdg hk0
              go_wp2_with fail
              go_roundg (gk - 1)
              case measure => omega
              case rel => exact ⟨rfl, k + 1, by go_num, by omega, HS2⟩
            · have HR : Hd (r = false) := ⟨by rw [HE.out, HS1.out, hl, hdg]; simp [h95]⟩
              have h95' : ((c.toNat : Int) != 95) = true := by rw [bne_iff_ne]; omega
              clear hl hdg hk0 HS1
              go_wp2
              go_ret
              exact ⟨by rw [HR.out]; rfl, rfl⟩
    · have hch : chk 0 (lst s) = true := by rw [HS.out, List.drop_eq_nil_of_le (by rw [lst_len]; omega)]; rfl
      have HR : Hd (r = !(lst s).isEmpty) := ⟨by rw [HE.out, hch]; simp⟩
      clear hch HS
      by_cases h0 : s.size = 0
      · have hl : lst s = [] := List.eq_nil_of_length_eq_zero (by rw [lst_len]; exact h0)
        have HR2 : Hd (r = false) := ⟨by rw [HR.out, hl]; rfl⟩
        have hd0 : decide ((0 : Int) < (s.size : Int)) = false := decide_eq_false (by omega)
        clear hl HR
        go_wp2
        go_ret
        exact ⟨by rw [HR2.out]; simp [h0], rfl⟩
      · have HR2 : Hd (r = true) := ⟨by
          rw [HR.out]
          cases h : lst s with
          | nil => have := lst_len s; rw [h] at this; simp at this; omega
          | cons a b => rfl⟩
        have hd0 : decide ((0 : Int) < (s.size : Int)) = true := decide_eq_true (by omega)
        clear HR
        go_wp2
        go_ret
        exact ⟨by rw [HR2.out]; simp; omega, rfl⟩

set_option maxRecDepth 100000 in
theorem Words_calls (w : World) : Calls Tryd.prog 45 #[] w fun e w' => e = .returned (.slice (some ⟨w.heap.size, 0, none⟩) 24 24) ∧ w' = w.alloc (.cells wordCells 9) := by
  go_enter Tryd.func45, Tryd.ntmps45
  go_wp2
  go_ret
  exact ⟨rfl, rfl⟩

set_option maxRecDepth 100000 in
theorem Find_calls (s : ByteArray) (b : Nat) (w : World) (hc : ∀ j, j < wordBytes.length → w.cell? ⟨b, j, none⟩ = some (.string (wordBytes.getD j ByteArray.empty))) :
    Calls Tryd.prog 44 #[.slice (some ⟨b, 0, none⟩) 24 24, .string s] w fun e w' => ∃ r : Int, e = .returned (.int .i64 r) ∧ Hd (decide (0 ≤ r) = isWord (lst s)) ∧ w = w' := by
  have HC : Hd _ := ⟨hc⟩
  have HW : Hd (isWord (lst s) = true ↔ s ∈ wordBytes) := ⟨by
    rw [← word_is, List.take_of_length_le (by simp [wordBytes, words_len]), Lib.containsS_iff]⟩
  have hwl : wordBytes.length = 24 := by simp [wordBytes, words_len]
  have HWL : Hd _ := ⟨hwl⟩
  clear hc hwl
  go_enter Tryd.func44, Tryd.ntmps44
  go_wp2_with fail
  go_loopg [5] 24 (fun gk v5 wr => w = wr ∧ ∃ k : Nat, v5 = .int .i64 k ∧ k + gk = 24 ∧ Hd (∀ j, j < k → wordBytes.getD j ByteArray.empty ≠ s))
  case atStart => exact ⟨rfl, 0, rfl, by omega, ⟨fun j hj => by omega⟩⟩
  case round =>
    obtain ⟨rfl, k, rfl, hk, HS⟩ := hrel
    by_cases hlt : k < 24
    · obtain ⟨x, hx⟩ : ∃ x, wordBytes.getD k ByteArray.empty = x := ⟨_, rfl⟩
      have c0 : w.cell? ⟨b, k, none⟩ = some (.string x) := by rw [← hx]; exact HC.out k (by rw [HWL.out]; exact hlt)
      have hmem : x ∈ wordBytes := by
        rw [← hx]
        simp only [List.getD]
        rw [List.getElem?_eq_getElem (by rw [HWL.out]; exact hlt)]
        exact List.getElem_mem _
      by_cases he : x = s
      · have HR : Hd (isWord (lst s) = true) := ⟨HW.out.2 (by rw [← he]; exact hmem)⟩
        subst he
        clear hx hmem
        go_wp2
        go_ret
        exact ⟨(k : Int), rfl, ⟨by rw [HR.out]; exact decide_eq_true (by omega)⟩, rfl⟩
      · have HS2 : Hd (∀ j, j < k + 1 → wordBytes.getD j ByteArray.empty ≠ s) := ⟨fun j hj => by
          by_cases e : j = k
          · rw [e, hx]; exact he
          · exact HS.out j (by omega)⟩
        have he2 : (x.toList == s.toList) = false := by
          rw [ByteArray.toList_eq, ByteArray.toList_eq]
          exact beq_false_of_ne (fun h => he (by rw [eq_mk x, eq_mk s, show lst x = lst s from h]))
        clear hx hmem
        go_wp2_with fail
        go_roundg (gk - 1)
        case measure => omega
        case rel => exact ⟨rfl, k + 1, by go_num, by omega, HS2⟩
    · have HR : Hd (isWord (lst s) = false) := ⟨by
        cases hb : isWord (lst s) with
        | false => rfl
        | true =>
        exfalso
        have hm := HW.out.1 hb
        obtain ⟨j, hj⟩ := List.getElem?_of_mem hm
        have hjl := (List.getElem?_eq_some_iff.1 hj).1
        rw [HWL.out] at hjl
        exact HS.out j (by omega) (by simp [List.getD, hj])⟩
      go_wp2
      go_ret
      exact ⟨-1, rfl, ⟨by rw [HR.out]; rfl⟩, rfl⟩

set_option maxRecDepth 100000 in
theorem rWord_calls (s : ByteArray) (w : World) : Calls Tryd.prog 36 #[.string s] w fun e w' => e = .returned (.bool (isWord (lst s))) ∧ Mod (fun _ => False) w w' := by
  have H1 : Hd _ := ⟨Words_calls w⟩
  have H2 : Hd _ := ⟨Find_calls s w.heap.size (w.alloc (.cells wordCells 9)) (fun j hj => by have := word_cell w j hj; rwa [Nat.zero_add] at this)⟩
  go_enter Tryd.func36, Tryd.ntmps36
  go_wp2_with fail
  refine H1.out.mono ?_
  rintro e w2 ⟨rfl, rfl⟩
  go_wp2_with fail
  refine H2.out.mono ?_
  rintro e w3 ⟨r, rfl, HR, rfl⟩
  go_wp2
  go_ret
  exact ⟨by rw [← HR.out]; rfl, Mod.alloc _ _ _⟩

set_option maxRecDepth 100000 in
theorem rName_calls (s : ByteArray) (hs : s.size ≤ 1048576) (w : World) : Calls Tryd.prog 24 #[.string s] w fun e w' => e = .returned (.bool (isName (lst s))) ∧ Mod (fun _ => False) w w' := by
  have H1 : Hd _ := ⟨shaped_calls s hs w⟩
  have H2 : Hd _ := ⟨rWord_calls s w⟩
  have HN : Hd (isName (lst s) = (shapedB (lst s) && decide (s.size ≤ 16) && !isWord (lst s))) := ⟨by rw [← shaped_name, lst_len]⟩
  obtain ⟨sh, hsh⟩ : ∃ x, shapedB (lst s) = x := ⟨_, rfl⟩
  obtain ⟨wd, hwd⟩ : ∃ x, isWord (lst s) = x := ⟨_, rfl⟩
  obtain ⟨r, hr⟩ : ∃ x, isName (lst s) = x := ⟨_, rfl⟩
  rw [hsh] at H1 HN
  rw [hwd] at H2 HN
  rw [hr] at HN ⊢
  clear hsh hwd hr
  cases sh with
  | false =>
    have HR : Hd (r = false) := ⟨by rw [HN.out]; rfl⟩
    clear HN
    go_enter Tryd.func24, Tryd.ntmps24
    go_wp2_with fail
    refine H1.out.mono ?_
    rintro e w2 ⟨rfl, rfl⟩
    go_wp2
    go_ret
    exact ⟨by rw [HR.out]; rfl, Mod.refl _ _⟩
  | true =>
    by_cases h16 : s.size ≤ 16
    · have HR : Hd (r = !wd) := ⟨by rw [HN.out]; simp [h16]⟩
      clear HN
      go_enter Tryd.func24, Tryd.ntmps24
      go_wp2_with fail
      refine H1.out.mono ?_
      rintro e w2 ⟨rfl, rfl⟩
      go_wp2_with fail
      refine H2.out.mono ?_
      rintro e w3 ⟨rfl, hM⟩
      have HM : Hd _ := ⟨hM⟩
      clear hM
      go_wp2
      go_ret
      exact ⟨by rw [HR.out]; rfl, HM.out⟩
    · have HR : Hd (r = false) := ⟨by rw [HN.out]; simp [h16]⟩
      clear HN
      go_enter Tryd.func24, Tryd.ntmps24
      go_wp2_with fail
      refine H1.out.mono ?_
      rintro e w2 ⟨rfl, rfl⟩
      go_wp2
      go_ret
      exact ⟨by rw [HR.out]; rfl, Mod.refl _ _⟩
end Go.Proofs.YtfdbmpcfphlmoaaDoor
