/- The document's shaped, Word, Name, by walks. The document's rest, Plain, by walks. The document's Kind, Elem, With, Base, Deep, by walks. -/
import Derived.Test.YtpodeccpibnlbaaGreatDoorG02
namespace Go.Proofs.YtpodeccpibnlbaaGreatDoor
set_option linter.unusedVariables false
set_option linter.unusedSimpArgs false
open Go.RowKit

def chk : Nat → Bs → Bool
  | _, [] => true
  | i, c :: l => (letterB c || (!decide (i = 0) && (digitB c || decide (c.toNat = 95)))) && chk (i + 1) l
def shapedB (l : Bs) : Bool := !l.isEmpty && chk 0 l
theorem chk_all : ∀ (l : Bs) (i : Nat), chk (i + 1) l = l.all innerB := by
  intro l
  induction l with
  | nil => intro i; rfl
  | cons c l ih => intro i; rw [chk, ih, List.all_cons]; simp [innerB, Bool.or_assoc]
theorem shaped_name (l : Bs) : (shapedB l && decide (l.length ≤ 16) && !isWord l) = isName l := by
  unfold shapedB isName
  cases l with
  | nil => rfl
  | cons c t =>
    rw [chk, chk_all, List.all_cons]
    have : letterB c = true → innerB c = true := fun h => by unfold innerB; rw [h]; rfl
    cases h : letterB c with
    | false => simp [h]
    | true =>
      rw [this h]
      simp [h, Bool.and_comm, Bool.and_assoc, Bool.and_left_comm]

set_option maxRecDepth 100000 in
theorem shaped_calls (s : ByteArray) (hs : s.size ≤ 1048576) (w : World) : Calls Tryz.prog 90 #[.string s] w fun e w' => e = .returned (.bool (shapedB (lst s))) ∧ w = w' := by
  have HL : Hd (∀ (c : UInt8) (w : World), Calls Tryz.prog 135 #[.int .u8 (c.toNat : Int)] w fun e w' => e = .returned (.bool (letterB c)) ∧ w = w') := ⟨rletter_calls⟩
  have HD : Hd (∀ (c : UInt8) (w : World), Calls Tryz.prog 136 #[.int .u8 (c.toNat : Int)] w fun e w' => e = .returned (.bool (digitB c)) ∧ w = w') := ⟨rdigit_calls⟩
  have HE : Hd (shapedB (lst s) = (!(lst s).isEmpty && chk 0 (lst s))) := ⟨rfl⟩
  obtain ⟨r, hr⟩ : ∃ r, shapedB (lst s) = r := ⟨_, rfl⟩
  rw [hr] at HE ⊢
  clear hr
  go_enter Tryz.func90, Tryz.ntmps90
  go_wp2_with fail
  go_loopg [3] s.size (fun gk v3 wr => w = wr ∧ ∃ k : Nat, v3 = .int .i64 k ∧ k + gk = s.size ∧ Hd (chk 0 (lst s) = chk k ((lst s).drop k)))
  case atStart => exact ⟨rfl, 0, rfl, by omega, ⟨rfl⟩⟩
  case round =>
    obtain ⟨rfl, k, rfl, hk, HS⟩ := hrel
    by_cases hlt : k < s.size
    · obtain ⟨c, hc⟩ : ∃ c : UInt8, s[k] = c := ⟨_, rfl⟩
      have hd := lst_drop hlt
      rw [hc] at hd
      have hs2 := HS.out
      rw [hd, chk] at hs2
      have HS1 : Hd _ := ⟨hs2⟩
      have hne : (lst s).isEmpty = false := by
        cases h : lst s with
        | nil => have := lst_len s; rw [h] at this; simp at this; omega
        | cons a b => rfl
      rw [hne] at HE
      clear hd hs2 HS hne
      go_wp2_with fail
      refine (HL.out c _).mono ?_
      rintro e w2 ⟨rfl, rfl⟩
      cases hl : letterB c with
      | true =>
        have HS2 : Hd (chk 0 (lst s) = chk (k + 1) ((lst s).drop (k + 1))) := ⟨by rw [HS1.out, hl]; simp⟩
        clear hl
        go_wp2_with fail
        go_roundg (gk - 1)
        case measure => omega
        case rel => exact ⟨rfl, k + 1, by go_num, by omega, HS2⟩
      | false =>
        by_cases hk0 : k = 0
        · have HR : Hd (r = false) := ⟨by rw [HE.out, HS1.out, hl]; simp [hk0]⟩
          subst hk0
          clear hl HS1
          go_wp2
          go_ret
          exact ⟨by rw [HR.out]; rfl, rfl⟩
        · have hk1 : ¬ (k : Int) = 0 := by omega
          go_wp2_with fail
          refine (HD.out c _).mono ?_
          rintro e w2 ⟨rfl, rfl⟩
          cases hdg : digitB c with
          | true =>
            have HS2 : Hd (chk 0 (lst s) = chk (k + 1) ((lst s).drop (k + 1))) := ⟨by rw [HS1.out, hl, hdg]; simp [hk0]⟩
            clear hl hdg hk0
            go_wp2_with fail
            go_roundg (gk - 1)
            case measure => omega
            case rel => exact ⟨rfl, k + 1, by go_num, by omega, HS2⟩
          | false =>
            by_cases h95 : c.toNat = 95
            · have HS2 : Hd (chk 0 (lst s) = chk (k + 1) ((lst s).drop (k + 1))) := ⟨by rw [HS1.out, hl, hdg, h95]; simp [hk0]⟩
              have h95' : ((c.toNat : Int) != 95) = false := by rw [h95]; rfl
              clear hl hdg hk0
              go_wp2_with fail
              go_roundg (gk - 1)
              case measure => omega
              case rel => exact ⟨rfl, k + 1, by go_num, by omega, HS2⟩
            · have HR : Hd (r = false) := ⟨by rw [HE.out, HS1.out, hl, hdg]; simp [h95]⟩
              have h95' : ((c.toNat : Int) != 95) = true := by rw [bne_iff_ne]; omega
              clear hl hdg hk0 HS1
              go_wp2
              go_ret
              exact ⟨by rw [HR.out]; rfl, rfl⟩
    · have hch : chk 0 (lst s) = true := by rw [HS.out, List.drop_eq_nil_of_le (by rw [lst_len]; omega)]; rfl
      have HR : Hd (r = !(lst s).isEmpty) := ⟨by rw [HE.out, hch]; simp⟩
      clear hch HS
      by_cases h0 : s.size = 0
      · have hl : lst s = [] := List.eq_nil_of_length_eq_zero (by rw [lst_len]; exact h0)
        have HR2 : Hd (r = false) := ⟨by rw [HR.out, hl]; rfl⟩
        have hd0 : decide ((0 : Int) < (s.size : Int)) = false := decide_eq_false (by omega)
        clear hl HR
        go_wp2
        go_ret
        exact ⟨by rw [HR2.out]; simp [h0], rfl⟩
      · have HR2 : Hd (r = true) := ⟨by
          rw [HR.out]
          cases h : lst s with
          | nil => have := lst_len s; rw [h] at this; simp at this; omega
          | cons a b => rfl⟩
        have hd0 : decide ((0 : Int) < (s.size : Int)) = true := decide_eq_true (by omega)
        clear HR
        go_wp2
        go_ret
        exact ⟨by rw [HR2.out]; simp; omega, rfl⟩

set_option maxRecDepth 100000 in
theorem Words_calls (w : World) : Calls Tryz.prog 138 #[] w fun e w' => e = .returned (.slice (some ⟨w.heap.size, 0, none⟩) 24 24) ∧ w' = w.alloc (.cells wordCells 9) := by
  go_enter Tryz.func138, Tryz.ntmps138
  go_wp2
  go_ret
  exact ⟨rfl, rfl⟩

set_option maxRecDepth 100000 in
theorem Find_calls (s : ByteArray) (b : Nat) (w : World) (hc : ∀ j, j < wordBytes.length → w.cell? ⟨b, j, none⟩ = some (.string (wordBytes.getD j ByteArray.empty))) :
    Calls Tryz.prog 137 #[.slice (some ⟨b, 0, none⟩) 24 24, .string s] w fun e w' => ∃ r : Int, e = .returned (.int .i64 r) ∧ Hd (decide (0 ≤ r) = isWord (lst s)) ∧ w = w' := by
  have HC : Hd _ := ⟨hc⟩
  have HW : Hd (isWord (lst s) = true ↔ s ∈ wordBytes) := ⟨by
    rw [← word_is, List.take_of_length_le (by simp [wordBytes, words_len]), Lib.containsS_iff]⟩
  have hwl : wordBytes.length = 24 := by simp [wordBytes, words_len]
  have HWL : Hd _ := ⟨hwl⟩
  clear hc hwl
  go_enter Tryz.func137, Tryz.ntmps137
  go_wp2_with fail
  go_loopg [5] 24 (fun gk v5 wr => w = wr ∧ ∃ k : Nat, v5 = .int .i64 k ∧ k + gk = 24 ∧ Hd (∀ j, j < k → wordBytes.getD j ByteArray.empty ≠ s))
  case atStart => exact ⟨rfl, 0, rfl, by omega, ⟨fun j hj => by omega⟩⟩
  case round =>
    obtain ⟨rfl, k, rfl, hk, HS⟩ := hrel
    by_cases hlt : k < 24
    · obtain ⟨x, hx⟩ : ∃ x, wordBytes.getD k ByteArray.empty = x := ⟨_, rfl⟩
      have c0 : w.cell? ⟨b, k, none⟩ = some (.string x) := by rw [← hx]; exact HC.out k (by rw [HWL.out]; exact hlt)
      have hmem : x ∈ wordBytes := by
        rw [← hx]
        simp only [List.getD]
        rw [List.getElem?_eq_getElem (by rw [HWL.out]; exact hlt)]
        exact List.getElem_mem _
      by_cases he : x = s
      · have HR : Hd (isWord (lst s) = true) := ⟨HW.out.2 (by rw [← he]; exact hmem)⟩
        subst he
        clear hx hmem
        go_wp2
        go_ret
        exact ⟨(k : Int), rfl, ⟨by rw [HR.out]; exact decide_eq_true (by omega)⟩, rfl⟩
      · have HS2 : Hd (∀ j, j < k + 1 → wordBytes.getD j ByteArray.empty ≠ s) := ⟨fun j hj => by
          by_cases e : j = k
          · rw [e, hx]; exact he
          · exact HS.out j (by omega)⟩
        have he2 : (x.toList == s.toList) = false := by
          rw [ByteArray.toList_eq, ByteArray.toList_eq]
          exact beq_false_of_ne (fun h => he (by rw [eq_mk x, eq_mk s, show lst x = lst s from h]))
        clear hx hmem
        go_wp2_with fail
        go_roundg (gk - 1)
        case measure => omega
        case rel => exact ⟨rfl, k + 1, by go_num, by omega, HS2⟩
    · have HR : Hd (isWord (lst s) = false) := ⟨by
        cases hb : isWord (lst s) with
        | false => rfl
        | true =>
        exfalso
        have hm := HW.out.1 hb
        obtain ⟨j, hj⟩ := List.getElem?_of_mem hm
        have hjl := (List.getElem?_eq_some_iff.1 hj).1
        rw [HWL.out] at hjl
        exact HS.out j (by omega) (by simp [List.getD, hj])⟩
      go_wp2
      go_ret
      exact ⟨-1, rfl, ⟨by rw [HR.out]; rfl⟩, rfl⟩

set_option maxRecDepth 100000 in
theorem rWord_calls (s : ByteArray) (w : World) : Calls Tryz.prog 91 #[.string s] w fun e w' => e = .returned (.bool (isWord (lst s))) ∧ Mod (fun _ => False) w w' := by
  have H1 : Hd _ := ⟨Words_calls w⟩
  have H2 : Hd _ := ⟨Find_calls s w.heap.size (w.alloc (.cells wordCells 9)) (fun j hj => by have := word_cell w j hj; rwa [Nat.zero_add] at this)⟩
  go_enter Tryz.func91, Tryz.ntmps91
  go_wp2_with fail
  refine H1.out.mono ?_
  rintro e w2 ⟨rfl, rfl⟩
  go_wp2_with fail
  refine H2.out.mono ?_
  rintro e w3 ⟨r, rfl, HR, rfl⟩
  go_wp2
  go_ret
  exact ⟨by rw [← HR.out]; rfl, Mod.alloc _ _ _⟩

set_option maxRecDepth 100000 in
theorem rName_calls (s : ByteArray) (hs : s.size ≤ 1048576) (w : World) : Calls Tryz.prog 41 #[.string s] w fun e w' => e = .returned (.bool (isName (lst s))) ∧ Mod (fun _ => False) w w' := by
  have H1 : Hd _ := ⟨shaped_calls s hs w⟩
  have H2 : Hd _ := ⟨rWord_calls s w⟩
  have HN : Hd (isName (lst s) = (shapedB (lst s) && decide (s.size ≤ 16) && !isWord (lst s))) := ⟨by rw [← shaped_name, lst_len]⟩
  obtain ⟨sh, hsh⟩ : ∃ x, shapedB (lst s) = x := ⟨_, rfl⟩
  obtain ⟨wd, hwd⟩ : ∃ x, isWord (lst s) = x := ⟨_, rfl⟩
  obtain ⟨r, hr⟩ : ∃ x, isName (lst s) = x := ⟨_, rfl⟩
  rw [hsh] at H1 HN
  rw [hwd] at H2 HN
  rw [hr] at HN ⊢
  clear hsh hwd hr
  cases sh with
  | false =>
    have HR : Hd (r = false) := ⟨by rw [HN.out]; rfl⟩
    clear HN
    go_enter Tryz.func41, Tryz.ntmps41
    go_wp2_with fail
    refine H1.out.mono ?_
    rintro e w2 ⟨rfl, rfl⟩
    go_wp2
    go_ret
    exact ⟨by rw [HR.out]; rfl, Mod.refl _ _⟩
  | true =>
    by_cases h16 : s.size ≤ 16
    · have HR : Hd (r = !wd) := ⟨by rw [HN.out]; simp [h16]⟩
      clear HN
      go_enter Tryz.func41, Tryz.ntmps41
      go_wp2_with fail
      refine H1.out.mono ?_
      rintro e w2 ⟨rfl, rfl⟩
      go_wp2_with fail
      refine H2.out.mono ?_
      rintro e w3 ⟨rfl, hM⟩
      have HM : Hd _ := ⟨hM⟩
      clear hM
      go_wp2
      go_ret
      exact ⟨by rw [HR.out]; rfl, HM.out⟩
    · have HR : Hd (r = false) := ⟨by rw [HN.out]; simp [h16]⟩
      clear HN
      go_enter Tryz.func41, Tryz.ntmps41
      go_wp2_with fail
      refine H1.out.mono ?_
      rintro e w2 ⟨rfl, rfl⟩
      go_wp2
      go_ret
      exact ⟨by rw [HR.out]; rfl, Mod.refl _ _⟩
end Go.Proofs.YtpodeccpibnlbaaGreatDoor
namespace Go.Proofs.YtpodeccpibnlbaaGreatDoor
set_option linter.unusedVariables false
set_option linter.unusedSimpArgs false
open Go.RowKit

theorem mk_append (a b : Bs) : mk a ++ mk b = mk (a ++ b) := by
  apply ByteArray.ext
  apply Array.ext'
  simp [mk]

theorem lst_front (s : ByteArray) (b : Nat) : lst (s.extract 0 b) = (lst s).take b := by
  conv => lhs; rw [eq_mk s, ByteArray.extract_mk, lst_mk]
  simp

set_option maxRecDepth 100000 in
theorem rest_calls (p : Bs) (hp : p.length = 3) (s : ByteArray) (hs : s.size ≤ 1048576) (w : World) : Calls Tryz.prog 152 #[.string s, .string (mk p)] w fun e w' => e = .returned (.tuple #[.string (mk (restR (lst s) p).1), .bool (restR (lst s) p).2]) ∧ w = w' := by
  have HE : Hd (restR (lst s) p = if 4 < s.size ∧ (lst s).take 4 = p ++ [32] then ((lst s).drop 4, true) else ([], false)) := ⟨by unfold restR; rw [hp, lst_len]⟩
  obtain ⟨r, hr⟩ : ∃ r, restR (lst s) p = r := ⟨_, rfl⟩
  rw [hr] at HE ⊢
  obtain ⟨q, hq⟩ : ∃ q, mk p = q := ⟨_, rfl⟩
  have hqs : q.size = 3 := by rw [← hq, ← lst_len, lst_mk, hp]
  have hqs2 : (q.size : Int) = 3 := by omega
  obtain ⟨y, hy⟩ : ∃ y, q ++ (⟨#[32]⟩ : ByteArray) = y := ⟨_, rfl⟩
  have hyl : lst y = p ++ [32] := by rw [← hy, ← hq]; show lst (mk p ++ mk [32]) = _; rw [mk_append, lst_mk]
  rw [hq]
  clear hr hq hp
  by_cases h4 : 4 < s.size
  · obtain ⟨x, hx⟩ : ∃ x, s.extract 0 4 = x := ⟨_, rfl⟩
    obtain ⟨u, hu⟩ : ∃ u, s.extract 4 s.size = u := ⟨_, rfl⟩
    have hxl : lst x = (lst s).take 4 := by rw [← hx, lst_front]
    have HU : Hd (mk ((lst s).drop 4) = u) := ⟨by rw [← lst_extract, hu]⟩
    rw [← hxl, ← hyl] at HE
    by_cases he : x = y
    · have HR : Hd (r = ((lst s).drop 4, true)) := ⟨by rw [HE.out, if_pos ⟨h4, by rw [he]⟩]⟩
      subst he
      clear HE hyl hxl
      go_enter Tryz.func152, Tryz.ntmps152
      go_wp2
      exact bodyPost_ret (v := .tuple #[.string u, .bool true]) (by simp [results, Tryz.f152, go_sem, hu]) rfl ⟨by rw [HR.out, ← HU.out], rfl⟩
    · have he1 : ¬ lst x = lst y := fun h => he (by rw [eq_mk x, eq_mk y, h])
      have he2 : (x.toList == y.toList) = false := by
        rw [ByteArray.toList_eq, ByteArray.toList_eq]
        exact beq_false_of_ne he1
      have HR : Hd (r = ([], false)) := ⟨by rw [HE.out, if_neg (fun h => he1 h.2)]⟩
      clear HE hyl hxl he1
      go_enter Tryz.func152, Tryz.ntmps152
      go_wp2
      exact bodyPost_ret (v := .tuple #[.string (mk []), .bool false]) (by simp [results, Tryz.f152, go_sem]) rfl ⟨by rw [HR.out], rfl⟩
  · have HR : Hd (r = ([], false)) := ⟨by rw [HE.out, if_neg (fun h => h4 h.1)]⟩
    clear HE hyl
    go_enter Tryz.func152, Tryz.ntmps152
    go_wp2
    exact bodyPost_ret (v := .tuple #[.string (mk []), .bool false]) (by simp [results, Tryz.f152, go_sem]) rfl ⟨by rw [HR.out], rfl⟩

theorem plainR_unfold (l : Bs) : plainR l = if goodB l then (0, true) else if (restR l [98, 111, 120]).2 then (if !(plainR (restR l [98, 111, 120]).1).2 || decide ((plainR (restR l [98, 111, 120]).1).1 = 8) then (0, false) else ((plainR (restR l [98, 111, 120]).1).1 + 1, true)) else (0, false) := by
  rw [plainR]
  split
  · rfl
  · split
    · rename_i s h; rw [h]; rfl
    · rename_i s h; rw [h]; rfl
theorem plainR_le (l : Bs) : (plainR l).1 ≤ 8 := by
  rw [plainR_is]
  cases hp : plainI l with
  | false => simp
  | true =>
    unfold plainI at hp
    simp at hp
    simp [hp.1]
theorem restR_len (l w : Bs) (h : (restR l w).2 = true) : (restR l w).1.length < l.length := restR_lt (l := l) (w := w) (s := (restR l w).1) (by rw [← h])

set_option maxRecDepth 100000 in
theorem rPlain_step (s : ByteArray) (hs : s.size ≤ 1048576) (ih : ∀ u : ByteArray, u.size < s.size → ∀ (w : World), Calls Tryz.prog 108 #[.string u] w fun e w' => e = .returned (.tuple #[.int .i64 ((plainR (lst u)).1 : Int), .bool (plainR (lst u)).2]) ∧ Mod (fun _ => False) w w') (w : World) :
    Calls Tryz.prog 108 #[.string s] w fun e w' => e = .returned (.tuple #[.int .i64 ((plainR (lst s)).1 : Int), .bool (plainR (lst s)).2]) ∧ Mod (fun _ => False) w w' := by
  have HE : Hd _ := ⟨plainR_unfold (lst s)⟩
  have HN : Hd _ := ⟨rName_calls s hs w⟩
  have HR3 : Hd (∀ w, _) := ⟨fun w => rest_calls [98, 111, 120] rfl s hs w⟩
  have hrl := restR_len (lst s) [98, 111, 120]
  rw [lst_len] at hrl
  obtain ⟨r, hr⟩ : ∃ r, plainR (lst s) = r := ⟨_, rfl⟩
  rw [hr] at HE ⊢
  obtain ⟨u, hu⟩ : ∃ u, mk (restR (lst s) [98, 111, 120]).1 = u := ⟨_, rfl⟩
  have hul : (restR (lst s) [98, 111, 120]).1 = lst u := by rw [← hu, lst_mk]
  obtain ⟨ok, hok⟩ : ∃ ok, (restR (lst s) [98, 111, 120]).2 = ok := ⟨_, rfl⟩
  rw [hul, lst_len, hok] at hrl
  rw [hul, hok] at HE
  rw [hu, hok] at HR3
  obtain ⟨nm, hnm⟩ : ∃ nm, isName (lst s) = nm := ⟨_, rfl⟩
  have hg : goodB (lst s) = (decide (lst s = intB) || nm) := by unfold goodB; rw [hnm]
  rw [hnm] at HN
  rw [hg] at HE
  have h8 := plainR_le (lst u)
  obtain ⟨m, hm⟩ : ∃ m, (plainR (lst u)).1 = m := ⟨_, rfl⟩
  obtain ⟨is, his⟩ : ∃ is, (plainR (lst u)).2 = is := ⟨_, rfl⟩
  rw [hm, his] at HE
  rw [hm] at h8
  have HI : Hd (ok = true → ∀ w, Calls Tryz.prog 108 #[.string u] w fun e w' => e = .returned (.tuple #[.int .i64 (m : Int), .bool is]) ∧ Mod (fun _ => False) w w') := ⟨fun h w => by have := ih u (hrl h) w; rw [hm, his] at this; exact this⟩
  clear ih hr hu hul hok hnm hg hm his hrl
  by_cases hi : lst s = intB
  · have hq : s = mk intB := (eq_mk s).trans (by rw [hi])
    have HR : Hd (r = (0, true)) := ⟨by rw [HE.out, hi]; rfl⟩
    clear HE HN HR3 HI hi
    subst hq
    go_enter Tryz.func108, Tryz.ntmps108
    go_wp2
    exact bodyPost_ret (v := .tuple #[.int .i64 0, .bool true]) (by simp [results, Tryz.f108, go_sem]) rfl ⟨by rw [HR.out]; rfl, Mod.refl _ _⟩
  · have hq : ¬ s = mk intB := fun e => hi (by rw [e])
    have hq2 : (s.toList == [105, 110, 116]) = false := by
      rw [ByteArray.toList_eq]
      exact beq_false_of_ne hi
    have HE2 : Hd (r = if nm = true then (0, true) else if ok = true then if (!is || decide (m = 8)) = true then (0, false) else (m + 1, true) else (0, false)) := ⟨by rw [HE.out]; simp [hi]⟩
    clear HE hi
    cases nm with
    | true =>
      have HR : Hd (r = (0, true)) := ⟨by rw [HE2.out]; rfl⟩
      clear HE2 HR3 HI
      go_enter Tryz.func108, Tryz.ntmps108
      go_wp2_with fail
      refine HN.out.mono ?_
      rintro e w2 ⟨rfl, hM⟩
      have HM : Hd _ := ⟨hM⟩
      clear hM
      go_wp2
      exact bodyPost_ret (v := .tuple #[.int .i64 0, .bool true]) (by simp [results, Tryz.f108, go_sem]) rfl ⟨by rw [HR.out]; rfl, HM.out⟩
    | false =>
      cases ok with
      | false =>
        have HR : Hd (r = (0, false)) := ⟨by rw [HE2.out]; rfl⟩
        clear HE2 HI
        go_enter Tryz.func108, Tryz.ntmps108
        go_wp2_with fail
        refine HN.out.mono ?_
        rintro e w2 ⟨rfl, hM⟩
        have HM : Hd _ := ⟨hM⟩
        clear hM
        go_wp2_with fail
        refine (HR3.out _).mono ?_
        rintro e w3 ⟨rfl, rfl⟩
        go_wp2
        exact bodyPost_ret (v := .tuple #[.int .i64 0, .bool false]) (by simp [results, Tryz.f108, go_sem]) rfl ⟨by rw [HR.out]; rfl, HM.out⟩
      | true =>
        cases is with
        | false =>
          have HR : Hd (r = (0, false)) := ⟨by rw [HE2.out]; rfl⟩
          clear HE2
          go_enter Tryz.func108, Tryz.ntmps108
          go_wp2_with fail
          refine HN.out.mono ?_
          rintro e w2 ⟨rfl, hM⟩
          have HM : Hd _ := ⟨hM⟩
          clear hM
          go_wp2_with fail
          refine (HR3.out _).mono ?_
          rintro e w3 ⟨rfl, rfl⟩
          go_wp2_with fail
          refine (HI.out (by simp) _).mono ?_
          rintro e w3 ⟨rfl, hM⟩
          have HM3 : Hd _ := ⟨HM.out.trans hM (fun _ h => Or.inl h)⟩
          clear hM
          go_wp2
          exact bodyPost_ret (v := .tuple #[.int .i64 0, .bool false]) (by simp [results, Tryz.f108, go_sem]) rfl ⟨by rw [HR.out]; rfl, HM3.out⟩
        | true =>
          by_cases h88 : m = 8
          · subst h88
            have HR : Hd (r = (0, false)) := ⟨by rw [HE2.out]; rfl⟩
            clear HE2
            go_enter Tryz.func108, Tryz.ntmps108
            go_wp2_with fail
            refine HN.out.mono ?_
            rintro e w2 ⟨rfl, hM⟩
            have HM : Hd _ := ⟨hM⟩
            clear hM
            go_wp2_with fail
            refine (HR3.out _).mono ?_
            rintro e w3 ⟨rfl, rfl⟩
            go_wp2_with fail
            refine (HI.out (by simp) _).mono ?_
            rintro e w3 ⟨rfl, hM⟩
            have HM3 : Hd _ := ⟨HM.out.trans hM (fun _ h => Or.inl h)⟩
            clear hM
            go_wp2
            exact bodyPost_ret (v := .tuple #[.int .i64 0, .bool false]) (by simp [results, Tryz.f108, go_sem]) rfl ⟨by rw [HR.out]; rfl, HM3.out⟩
          · have h89 : ¬ (m : Int) = 8 := by omega
            have HR : Hd (r = (m + 1, true)) := ⟨by rw [HE2.out]; simp [h88]⟩
            clear HE2 h88
            go_enter Tryz.func108, Tryz.ntmps108
            go_wp2_with fail
            refine HN.out.mono ?_
            rintro e w2 ⟨rfl, hM⟩
            have HM : Hd _ := ⟨hM⟩
            clear hM
            go_wp2_with fail
            refine (HR3.out _).mono ?_
            rintro e w3 ⟨rfl, rfl⟩
            go_wp2_with fail
            refine (HI.out (by simp) _).mono ?_
            rintro e w3 ⟨rfl, hM⟩
            have HM3 : Hd _ := ⟨HM.out.trans hM (fun _ h => Or.inl h)⟩
            clear hM
            go_wp2
            exact bodyPost_ret (v := .tuple #[.int .i64 ((m : Int) + 1), .bool true]) (by simp [results, Tryz.f108, go_sem]) rfl ⟨by rw [HR.out]; rfl, HM3.out⟩

theorem rPlain_calls (s : ByteArray) (hs : s.size ≤ 1048576) (w : World) : Calls Tryz.prog 108 #[.string s] w fun e w' => e = .returned (.tuple #[.int .i64 ((plainR (lst s)).1 : Int), .bool (plainR (lst s)).2]) ∧ Mod (fun _ => False) w w' := by
  have : ∀ (n : Nat) (s : ByteArray), s.size < n → s.size ≤ 1048576 → ∀ (w : World), Calls Tryz.prog 108 #[.string s] w fun e w' => e = .returned (.tuple #[.int .i64 ((plainR (lst s)).1 : Int), .bool (plainR (lst s)).2]) ∧ Mod (fun _ => False) w w' := by
    intro n
    induction n with
    | zero => intro s h; omega
    | succ n ih => intro s h hs w; exact rPlain_step s hs (fun u hu w => ih u (by omega) (by omega) w) w
  exact this (s.size + 1) s (by omega) hs w
end Go.Proofs.YtpodeccpibnlbaaGreatDoor
namespace Go.Proofs.YtpodeccpibnlbaaGreatDoor
set_option linter.unusedVariables false
set_option linter.unusedSimpArgs false
open Go.RowKit

theorem heap_new' (w : World) (o : Obj) : (w.alloc o).heap[w.heap.size]? = some o := heap_alloc_new w o
theorem restR_size (l w : Bs) : (restR l w).1.length ≤ l.length := by
  unfold restR
  split
  · simp
  · simp

def kindRef (l : Bs) : Bool := (restR l [114, 101, 102]).2 && (plainR (restR l [114, 101, 102]).1).2
def kindMut (l : Bs) : Bool := (restR l [109, 117, 116]).2 && (plainR (restR l [109, 117, 116]).1).2

set_option maxRecDepth 100000 in
set_option maxHeartbeats 2000000 in
theorem rKind_calls (s : ByteArray) (hs : s.size ≤ 1048576) (w : World) : Calls Tryz.prog 109 #[.string s] w fun e w' => e = .returned (.int .i64 (kindR (lst s) : Int)) ∧ Mod (fun _ => False) w w' := by
  have HP : Hd _ := ⟨rPlain_calls s hs w⟩
  have HN : Hd (∀ w, _) := ⟨fun w => rName_calls s hs w⟩
  have HE : Hd (kindR (lst s) = if (plainR (lst s)).2 then (if lst s = intB then 1 else if isName (lst s) then 2 else 3) else if ((restR (lst s) [114, 101, 102]).2 && (plainR (restR (lst s) [114, 101, 102]).1).2) = true then 4 else if ((restR (lst s) [109, 117, 116]).2 && (plainR (restR (lst s) [109, 117, 116]).1).2) = true then 5 else 0) := ⟨rfl⟩
  obtain ⟨r, hr⟩ : ∃ r, kindR (lst s) = r := ⟨_, rfl⟩
  rw [hr] at HE ⊢
  obtain ⟨m, hm⟩ : ∃ m, (plainR (lst s)).1 = m := ⟨_, rfl⟩
  obtain ⟨p, hp⟩ : ∃ p, (plainR (lst s)).2 = p := ⟨_, rfl⟩
  rw [hm, hp] at HP
  rw [hp] at HE
  obtain ⟨nm, hnm⟩ : ∃ nm, isName (lst s) = nm := ⟨_, rfl⟩
  rw [hnm] at HN HE
  have HR1 : Hd (∀ w, _) := ⟨fun w => rest_calls [114, 101, 102] rfl s hs w⟩
  have HR2 : Hd (∀ w, _) := ⟨fun w => rest_calls [109, 117, 116] rfl s hs w⟩
  have hz1 := restR_size (lst s) [114, 101, 102]
  have hz2 := restR_size (lst s) [109, 117, 116]
  rw [lst_len] at hz1 hz2
  obtain ⟨u1, hu1⟩ : ∃ u, mk (restR (lst s) [114, 101, 102]).1 = u := ⟨_, rfl⟩
  have hul1 : (restR (lst s) [114, 101, 102]).1 = lst u1 := by rw [← hu1, lst_mk]
  obtain ⟨k1, hk1⟩ : ∃ k, (restR (lst s) [114, 101, 102]).2 = k := ⟨_, rfl⟩
  obtain ⟨u2, hu2⟩ : ∃ u, mk (restR (lst s) [109, 117, 116]).1 = u := ⟨_, rfl⟩
  have hul2 : (restR (lst s) [109, 117, 116]).1 = lst u2 := by rw [← hu2, lst_mk]
  obtain ⟨k2, hk2⟩ : ∃ k, (restR (lst s) [109, 117, 116]).2 = k := ⟨_, rfl⟩
  rw [hul1, lst_len] at hz1
  rw [hul2, lst_len] at hz2
  rw [hul1, hk1, hul2, hk2] at HE
  rw [hu1, hk1] at HR1
  rw [hu2, hk2] at HR2
  have HP1 : Hd (∀ w, _) := ⟨fun w => rPlain_calls u1 (by omega) w⟩
  have HP2 : Hd (∀ w, _) := ⟨fun w => rPlain_calls u2 (by omega) w⟩
  obtain ⟨m1, hm1⟩ : ∃ m, (plainR (lst u1)).1 = m := ⟨_, rfl⟩
  obtain ⟨p1, hp1⟩ : ∃ p, (plainR (lst u1)).2 = p := ⟨_, rfl⟩
  obtain ⟨m2, hm2⟩ : ∃ m, (plainR (lst u2)).1 = m := ⟨_, rfl⟩
  obtain ⟨p2, hp2⟩ : ∃ p, (plainR (lst u2)).2 = p := ⟨_, rfl⟩
  rw [hm1, hp1] at HP1
  rw [hm2, hp2] at HP2
  rw [hp1, hp2] at HE
  clear hr hm hp hnm hu1 hul1 hk1 hu2 hul2 hk2 hm1 hp1 hm2 hp2 hz1 hz2
  cases p with
  | true =>
    clear HR1 HR2 HP1 HP2
    by_cases hi : lst s = intB
    · have hq : s = mk intB := (eq_mk s).trans (by rw [hi])
      have HR : Hd (r = 1) := ⟨by rw [HE.out, if_pos rfl, if_pos hi]⟩
      clear HE HN hi
      subst hq
      go_enter Tryz.func109, Tryz.ntmps109
      go_wp2_with fail
      refine HP.out.mono ?_
      rintro e w2 ⟨rfl, hM⟩
      have HM : Hd _ := ⟨hM⟩
      clear hM
      go_wp2
      go_ret
      exact ⟨by rw [HR.out]; rfl, HM.out⟩
    · have hq : ¬ s = mk intB := fun e => hi (by rw [e])
      have hq2 : (s.toList == [105, 110, 116]) = false := by
        rw [ByteArray.toList_eq]
        exact beq_false_of_ne hi
      have HR : Hd (r = if nm = true then 2 else 3) := ⟨by rw [HE.out, if_pos rfl, if_neg hi]⟩
      clear HE hi
      cases nm with
      | true =>
        go_enter Tryz.func109, Tryz.ntmps109
        go_wp2_with fail
        refine HP.out.mono ?_
        rintro e w2 ⟨rfl, hM⟩
        have HM : Hd _ := ⟨hM⟩
        clear hM
        go_wp2_with fail
        refine (HN.out _).mono ?_
        rintro e w3 ⟨rfl, hM⟩
        have HM3 : Hd _ := ⟨HM.out.trans hM (fun _ h => Or.inl h)⟩
        clear hM
        go_wp2
        go_ret
        exact ⟨by rw [HR.out]; rfl, HM3.out⟩
      | false =>
        go_enter Tryz.func109, Tryz.ntmps109
        go_wp2_with fail
        refine HP.out.mono ?_
        rintro e w2 ⟨rfl, hM⟩
        have HM : Hd _ := ⟨hM⟩
        clear hM
        go_wp2_with fail
        refine (HN.out _).mono ?_
        rintro e w3 ⟨rfl, hM⟩
        have HM3 : Hd _ := ⟨HM.out.trans hM (fun _ h => Or.inl h)⟩
        clear hM
        go_wp2
        go_ret
        exact ⟨by rw [HR.out]; rfl, HM3.out⟩
  | false =>
    have HE2 : Hd (r = if (k1 && p1) = true then 4 else if (k2 && p2) = true then 5 else 0) := ⟨by rw [HE.out]; rfl⟩
    clear HE HN
    go_enter Tryz.func109, Tryz.ntmps109
    go_wp2_with fail
    refine HP.out.mono ?_
    rintro e w2 ⟨rfl, hM⟩
    have HM : Hd _ := ⟨hM⟩
    have hML := hM.size
    clear hM
    go_wp2_with fail
    obtain ⟨b, hb⟩ : ∃ b, w2.heap.size = b := ⟨_, rfl⟩
    have HB : Hd _ := ⟨hb⟩
    rw [hb]
    obtain ⟨wb, hwb⟩ : ∃ wb, w2.alloc (.cells #[.string (mk [114, 101, 102]), .string (mk [109, 117, 116])] 9) = wb := ⟨_, rfl⟩
    have hcb : wb.heap[b]? = some (.cells #[.string (mk [114, 101, 102]), .string (mk [109, 117, 116])] 9 (0, 0)) := by rw [← hwb, ← hb]; exact heap_new' _ _
    have HMB : Hd (Mod (fun _ => False) w wb) := ⟨by rw [← hwb]; exact HM.out.trans (Mod.alloc (fun _ => False) _ _) (fun _ h => Or.inl h)⟩
    have HCB : Hd (∀ w', Mod (fun _ => False) wb w' → w'.cell? ⟨b, 0, none⟩ = some (.string (mk [114, 101, 102])) ∧ w'.cell? ⟨b, 1, none⟩ = some (.string (mk [109, 117, 116]))) := ⟨fun w' hM => by
      have h := (hM.block b (Array.getElem?_eq_some_iff.1 hcb).1 (fun h => h)).trans hcb
      exact ⟨by simp [World.cell?, h], by simp [World.cell?, h]⟩⟩
    show Code.wp _ _ _ _ (w2.alloc (.cells #[.string (mk [114, 101, 102]), .string (mk [109, 117, 116])] 9))
    rw [hwb]
    have HM0 : Hd (Mod (fun _ => False) wb wb) := ⟨Mod.refl _ _⟩
    clear hwb hcb hb
    go_loopg [6] 2 (fun gk v6 wr => ∃ k : Nat, v6 = .int .i64 k ∧ k + gk = 2 ∧ Hd (Mod (fun _ => False) wb wr) ∧ Hd ((1 ≤ k → (k1 && p1) = false) ∧ (2 ≤ k → (k2 && p2) = false)))
    case atStart => exact ⟨0, rfl, rfl, HM0, ⟨⟨fun h => by omega, fun h => by omega⟩⟩⟩
    case round =>
      clear HM0
      obtain ⟨k, rfl, hk, HMR, HS⟩ := hrel
      by_cases hk0 : k = 0
      · subst hk0
        have c0 : wr.cell? ⟨b, 0, none⟩ = some (.string (mk [114, 101, 102])) := (HCB.out wr HMR.out).1
        go_wp2_with fail
        refine (HR1.out _).mono ?_
        rintro e w3 ⟨rfl, rfl⟩
        go_wp2_with fail
        refine (HP1.out _).mono ?_
        rintro e w4 ⟨rfl, hM⟩
        have HM4 : Hd _ := ⟨HMR.out.trans hM (fun _ h => Or.inl h)⟩
        clear hM c0
        cases hkk : k1 with
        | true =>
          cases hpp : p1 with
          | true =>
            have HR : Hd (r = 4) := ⟨by rw [HE2.out, if_pos (by rw [hkk, hpp]; rfl)]⟩
            rw [hkk] at HR1
            rw [hpp] at HP1
            clear hkk hpp
            go_wp2
            go_ret
            exact ⟨by rw [HR.out]; rfl, HMB.out.trans HM4.out (fun _ h => Or.inl h)⟩
          | false =>
            have HS2 : Hd ((k1 && p1) = false) := ⟨by rw [hkk, hpp]; rfl⟩
            clear hkk hpp
            go_wp2_with fail
            go_roundg (gk - 1)
            case measure => omega
            case rel => exact ⟨1, rfl, by omega, HM4, ⟨⟨fun _ => HS2.out, fun h => by omega⟩⟩⟩
        | false =>
          have HS2 : Hd ((k1 && p1) = false) := ⟨by rw [hkk]; rfl⟩
          clear hkk
          go_wp2_with fail
          go_roundg (gk - 1)
          case measure => omega
          case rel => exact ⟨1, rfl, by omega, HM4, ⟨⟨fun _ => HS2.out, fun h => by omega⟩⟩⟩
      by_cases hk1 : k = 1
      · subst hk1
        have HS1 : Hd ((k1 && p1) = false) := ⟨HS.out.1 (by omega)⟩
        have c0 : wr.cell? ⟨b, 1, none⟩ = some (.string (mk [109, 117, 116])) := (HCB.out wr HMR.out).2
        go_wp2_with fail
        refine (HR2.out _).mono ?_
        rintro e w3 ⟨rfl, rfl⟩
        go_wp2_with fail
        refine (HP2.out _).mono ?_
        rintro e w4 ⟨rfl, hM⟩
        have HM4 : Hd _ := ⟨HMR.out.trans hM (fun _ h => Or.inl h)⟩
        clear hM c0
        cases hkk : k2 with
        | true =>
          cases hpp : p2 with
          | true =>
            have HR : Hd (r = 5) := ⟨by rw [HE2.out, if_neg (by rw [HS1.out]; simp), if_pos (by rw [hkk, hpp]; rfl)]⟩
            rw [hkk] at HR2
            rw [hpp] at HP2
            clear hkk hpp
            go_wp2
            go_ret
            exact ⟨by rw [HR.out]; rfl, HMB.out.trans HM4.out (fun _ h => Or.inl h)⟩
          | false =>
            have HS2 : Hd ((k2 && p2) = false) := ⟨by rw [hkk, hpp]; rfl⟩
            clear hkk hpp
            go_wp2_with fail
            go_roundg (gk - 1)
            case measure => omega
            case rel => exact ⟨2, rfl, by omega, HM4, ⟨⟨fun _ => HS1.out, fun _ => HS2.out⟩⟩⟩
        | false =>
          have HS2 : Hd ((k2 && p2) = false) := ⟨by rw [hkk]; rfl⟩
          clear hkk
          go_wp2_with fail
          go_roundg (gk - 1)
          case measure => omega
          case rel => exact ⟨2, rfl, by omega, HM4, ⟨⟨fun _ => HS1.out, fun _ => HS2.out⟩⟩⟩
      have hk2 : k = 2 := by omega
      have HR : Hd (r = 0) := ⟨by rw [HE2.out, HS.out.1 (by omega), HS.out.2 (by omega)]; rfl⟩
      subst hk2
      go_wp2
      go_ret
      exact ⟨by rw [HR.out]; rfl, HMB.out.trans HMR.out (fun _ h => Or.inl h)⟩
end Go.Proofs.YtpodeccpibnlbaaGreatDoor
