/- kind's Kind, Elem, with, Base, Deep, by walks. -/
import Derived.Test.YtfdbmpcfphlmoaaDoorW3
namespace Go.Proofs.YtfdbmpcfphlmoaaDoor
set_option linter.unusedVariables false
set_option linter.unusedSimpArgs false
open Go.RowKit

theorem front_len (l : Bs) : (frontI l).2.length ≤ l.length := by
  unfold frontI
  split
  · simp
  · split
    · simp
    · exact Nat.le_refl _
theorem front_num (l : Bs) : (frontI l).1 = 0 ∨ (frontI l).1 = 4 ∨ (frontI l).1 = 5 := by
  unfold frontI
  split
  · exact Or.inr (Or.inl rfl)
  · split
    · exact Or.inr (Or.inr rfl)
    · exact Or.inl rfl

set_option maxRecDepth 100000 in
theorem Kind_calls (s : ByteArray) (hs : s.size ≤ 1048576) (w : World) (hT : Tab w) : Calls Tryd.prog 13 #[.string s] w fun e w' => e = .returned (.int .i64 (kindI (lst s) : Int)) ∧ Mod (fun _ => False) w w' := by
  have HF : Hd _ := ⟨front_calls s w⟩
  have hl := front_len (lst s)
  have hk := front_num (lst s)
  have HK : Hd (kindI (lst s) = if !plainI (frontI (lst s)).2 then 0 else if (frontI (lst s)).1 ≠ 0 then (frontI (lst s)).1 else if (frontI (lst s)).2 = intB then 1 else if fronted boxB (frontI (lst s)).2 then 3 else 2) := ⟨rfl⟩
  obtain ⟨r, hr⟩ : ∃ r, kindI (lst s) = r := ⟨_, rfl⟩
  rw [hr] at HK ⊢
  obtain ⟨k, hkk⟩ : ∃ k, (frontI (lst s)).1 = k := ⟨_, rfl⟩
  obtain ⟨u, hu⟩ : ∃ u, mk (frontI (lst s)).2 = u := ⟨_, rfl⟩
  have hul : (frontI (lst s)).2 = lst u := by rw [← hu, lst_mk]
  rw [hu, hkk] at HF
  rw [hkk, hul] at HK
  rw [hkk] at hk
  rw [hul, lst_len, lst_len] at hl
  have HP : Hd _ := ⟨Plain_calls u (by omega) w hT⟩
  have HB : Hd (∀ w, _) := ⟨fun w => has_calls u boxB w⟩
  obtain ⟨p, hp⟩ : ∃ p, plainI (lst u) = p := ⟨_, rfl⟩
  obtain ⟨fb, hfb⟩ : ∃ fb, fronted boxB (lst u) = fb := ⟨_, rfl⟩
  rw [hp] at HP HK
  rw [hfb] at HB HK
  clear hr hkk hu hul hp hfb hT
  cases p with
  | false =>
    have HR : Hd (r = 0) := ⟨by rw [HK.out]; rfl⟩
    clear HK HB hk
    go_enter Tryd.func13, Tryd.ntmps13
    go_wp2_with fail
    refine HF.out.mono ?_
    rintro e w2 ⟨rfl, rfl⟩
    go_wp2_with fail
    refine HP.out.mono ?_
    rintro e w3 ⟨rfl, hM⟩
    have HM : Hd _ := ⟨hM⟩
    clear hM
    go_wp2
    go_ret
    exact ⟨by rw [HR.out]; rfl, HM.out⟩
  | true =>
    by_cases hk0 : k = 0
    · subst hk0
      by_cases hi : lst u = intB
      · have hq : u = mk intB := (eq_mk u).trans (by rw [hi])
        have HR : Hd (r = 1) := ⟨by rw [HK.out]; simp [hi]⟩
        subst hq
        clear HK HB hk hi
        go_enter Tryd.func13, Tryd.ntmps13
        go_wp2_with fail
        refine HF.out.mono ?_
        rintro e w2 ⟨rfl, rfl⟩
        go_wp2_with fail
        refine HP.out.mono ?_
        rintro e w3 ⟨rfl, hM⟩
        have HM : Hd _ := ⟨hM⟩
        clear hM
        go_wp2
        go_ret
        exact ⟨by rw [HR.out]; rfl, HM.out⟩
      · have hq : ¬ u = mk intB := fun e => hi (by rw [e])
        have hq2 : (u.toList == [105, 110, 116]) = false := by
          rw [ByteArray.toList_eq]
          exact beq_false_of_ne hi
        have HR : Hd (r = if fb then 3 else 2) := ⟨by rw [HK.out]; simp [hi]⟩
        clear HK hk hi
        cases fb with
        | true =>
          go_enter Tryd.func13, Tryd.ntmps13
          go_wp2_with fail
          refine HF.out.mono ?_
          rintro e w2 ⟨rfl, rfl⟩
          go_wp2_with fail
          refine HP.out.mono ?_
          rintro e w3 ⟨rfl, hM⟩
          have HM : Hd _ := ⟨hM⟩
          clear hM
          go_wp2_with fail
          refine (HB.out _).mono ?_
          rintro e w4 ⟨rfl, rfl⟩
          go_wp2
          go_ret
          exact ⟨by rw [HR.out]; rfl, HM.out⟩
        | false =>
          go_enter Tryd.func13, Tryd.ntmps13
          go_wp2_with fail
          refine HF.out.mono ?_
          rintro e w2 ⟨rfl, rfl⟩
          go_wp2_with fail
          refine HP.out.mono ?_
          rintro e w3 ⟨rfl, hM⟩
          have HM : Hd _ := ⟨hM⟩
          clear hM
          go_wp2_with fail
          refine (HB.out _).mono ?_
          rintro e w4 ⟨rfl, rfl⟩
          go_wp2
          go_ret
          exact ⟨by rw [HR.out]; rfl, HM.out⟩
    · have hk1 : ¬ (k : Int) = 0 := by omega
      have HR : Hd (r = k) := ⟨by rw [HK.out]; simp [hk0]⟩
      clear HK HB hk hk0
      go_enter Tryd.func13, Tryd.ntmps13
      go_wp2_with fail
      refine HF.out.mono ?_
      rintro e w2 ⟨rfl, rfl⟩
      go_wp2_with fail
      refine HP.out.mono ?_
      rintro e w3 ⟨rfl, hM⟩
      have HM : Hd _ := ⟨hM⟩
      clear hM
      go_wp2
      go_ret
      exact ⟨by rw [HR.out]; rfl, HM.out⟩

theorem kind_le (l : Bs) : kindI l ≤ 5 := by
  rcases kind_cases l with h | ⟨h, _⟩ | ⟨h, _⟩ | ⟨h, _⟩ | ⟨h, _⟩ | ⟨h, _⟩ <;> omega
theorem kind_long {l : Bs} (h : 3 ≤ kindI l) : 4 ≤ l.length := by
  rcases kind_cases l with h1 | ⟨h1, _⟩ | ⟨h1, _⟩ | ⟨_, t, rfl, _⟩ | ⟨_, t, rfl, _⟩ | ⟨_, t, rfl, _⟩
  · omega
  · omega
  · omega
  · simp [boxB]
  · simp [refB]
  · simp [mutB]

set_option maxRecDepth 100000 in
theorem Elem_calls (s : ByteArray) (hs : s.size ≤ 1048576) (w : World) (hT : Tab w) : Calls Tryd.prog 9 #[.string s] w fun e w' => e = .returned (.tuple #[.string (mk (elemI (lst s)).1), .bool (elemI (lst s)).2]) ∧ Mod (fun _ => False) w w' := by
  have HK : Hd _ := ⟨Kind_calls s hs w hT⟩
  have HE : Hd (elemI (lst s) = if kindI (lst s) < 3 then ([], false) else ((lst s).drop 4, true)) := ⟨rfl⟩
  have hk5 := kind_le (lst s)
  have hlong := kind_long (l := lst s)
  rw [lst_len] at hlong
  obtain ⟨k, hk⟩ : ∃ k, kindI (lst s) = k := ⟨_, rfl⟩
  rw [hk] at HK HE hk5 hlong
  obtain ⟨r, hr⟩ : ∃ r, elemI (lst s) = r := ⟨_, rfl⟩
  rw [hr] at HE ⊢
  clear hk hr hT
  by_cases h3 : k < 3
  · have HR : Hd (r = ([], false)) := ⟨by rw [HE.out, if_pos h3]⟩
    clear HE hlong
    go_enter Tryd.func9, Tryd.ntmps9
    go_wp2_with fail
    refine HK.out.mono ?_
    rintro e w2 ⟨rfl, hM⟩
    have HM : Hd _ := ⟨hM⟩
    clear hM
    go_wp2
    exact bodyPost_ret (v := .tuple #[.string (mk []), .bool false]) (by simp [results, Tryd.f9, go_sem]) rfl ⟨by rw [HR.out], HM.out⟩
  · have h4 : 4 ≤ s.size := hlong (by omega)
    obtain ⟨u, hu⟩ : ∃ u, s.extract 4 s.size = u := ⟨_, rfl⟩
    have HU : Hd (mk ((lst s).drop 4) = u) := ⟨by rw [← lst_extract, hu]⟩
    have HR : Hd (r = ((lst s).drop 4, true)) := ⟨by rw [HE.out, if_neg h3]⟩
    clear HE hlong
    go_enter Tryd.func9, Tryd.ntmps9
    go_wp2_with fail
    refine HK.out.mono ?_
    rintro e w2 ⟨rfl, hM⟩
    have HM : Hd _ := ⟨hM⟩
    clear hM
    go_wp2
    exact bodyPost_ret (v := .tuple #[.string u, .bool true]) (by simp [results, Tryd.f9, go_sem, hu]) rfl ⟨by rw [HR.out, ← HU.out], HM.out⟩

set_option maxRecDepth 100000 in
theorem Base_calls (s : ByteArray) (hs : s.size ≤ 1048576) (w : World) (hT : Tab w) : Calls Tryd.prog 11 #[.string s] w fun e w' => e = .returned (.tuple #[.string (mk (baseI (lst s)).1), .bool (baseI (lst s)).2]) ∧ Mod (fun _ => False) w w' := by
  have HK : Hd _ := ⟨Kind_calls s hs w hT⟩
  have HF : Hd (∀ w, _) := ⟨fun w => front_calls s w⟩
  have hl := front_len (lst s)
  have HE : Hd (baseI (lst s) = if kindI (lst s) = 0 then ([], false) else ((strip (frontI (lst s)).2).1, true)) := ⟨rfl⟩
  obtain ⟨k, hk⟩ : ∃ k, kindI (lst s) = k := ⟨_, rfl⟩
  rw [hk] at HK HE
  obtain ⟨r, hr⟩ : ∃ r, baseI (lst s) = r := ⟨_, rfl⟩
  rw [hr] at HE ⊢
  obtain ⟨u, hu⟩ : ∃ u, mk (frontI (lst s)).2 = u := ⟨_, rfl⟩
  have hul : (frontI (lst s)).2 = lst u := by rw [← hu, lst_mk]
  rw [hul, lst_len, lst_len] at hl
  have HB : Hd (∀ w, _) := ⟨fun w => base_calls u (by omega) w⟩
  rw [hu] at HF
  rw [hul] at HE
  obtain ⟨b, hb⟩ : ∃ b, mk (strip (lst u)).1 = b := ⟨_, rfl⟩
  have HBB : Hd _ := ⟨hb⟩
  rw [hb] at HB
  clear hk hr hT hu hul hb hl
  by_cases h0 : k = 0
  · have HR : Hd (r = ([], false)) := ⟨by rw [HE.out, if_pos h0]⟩
    subst h0
    clear HE HF HB
    go_enter Tryd.func11, Tryd.ntmps11
    go_wp2_with fail
    refine HK.out.mono ?_
    rintro e w2 ⟨rfl, hM⟩
    have HM : Hd _ := ⟨hM⟩
    clear hM
    go_wp2
    exact bodyPost_ret (v := .tuple #[.string (mk []), .bool false]) (by simp [results, Tryd.f11, go_sem]) rfl ⟨by rw [HR.out], HM.out⟩
  · have HR : Hd (r = ((strip (lst u)).1, true)) := ⟨by rw [HE.out, if_neg h0]⟩
    have h1 : ¬ (k : Int) = 0 := by omega
    clear HE h0
    go_enter Tryd.func11, Tryd.ntmps11
    go_wp2_with fail
    refine HK.out.mono ?_
    rintro e w2 ⟨rfl, hM⟩
    have HM : Hd _ := ⟨hM⟩
    clear hM
    go_wp2_with fail
    refine (HF.out _).mono ?_
    rintro e w3 ⟨rfl, rfl⟩
    go_wp2_with fail
    refine (HB.out _).mono ?_
    rintro e w3 ⟨rfl, rfl⟩
    go_wp2
    exact bodyPost_ret (v := .tuple #[.string b, .bool true]) (by simp [results, Tryd.f11, go_sem]) rfl ⟨by rw [HR.out, ← HBB.out], HM.out⟩

set_option maxRecDepth 100000 in
theorem Deep_calls (s : ByteArray) (hs : s.size ≤ 1048576) (w : World) (hT : Tab w) : Calls Tryd.prog 16 #[.string s] w fun e w' => e = .returned (.int .i64 (deepI (lst s) : Int)) ∧ Mod (fun _ => False) w w' := by
  have HK : Hd _ := ⟨Kind_calls s hs w hT⟩
  have HF : Hd (∀ w, _) := ⟨fun w => front_calls s w⟩
  have hl := front_len (lst s)
  have HE : Hd (deepI (lst s) = if kindI (lst s) = 0 then 0 else (strip (frontI (lst s)).2).2) := ⟨rfl⟩
  obtain ⟨k, hk⟩ : ∃ k, kindI (lst s) = k := ⟨_, rfl⟩
  rw [hk] at HK HE
  obtain ⟨r, hr⟩ : ∃ r, deepI (lst s) = r := ⟨_, rfl⟩
  rw [hr] at HE ⊢
  obtain ⟨u, hu⟩ : ∃ u, mk (frontI (lst s)).2 = u := ⟨_, rfl⟩
  have hul : (frontI (lst s)).2 = lst u := by rw [← hu, lst_mk]
  rw [hul, lst_len, lst_len] at hl
  have HB : Hd (∀ w, _) := ⟨fun w => base_calls u (by omega) w⟩
  rw [hu] at HF
  rw [hul] at HE
  obtain ⟨d, hd⟩ : ∃ d, (strip (lst u)).2 = d := ⟨_, rfl⟩
  rw [hd] at HB HE
  clear hk hr hT hu hul hd hl
  by_cases h0 : k = 0
  · have HR : Hd (r = 0) := ⟨by rw [HE.out, if_pos h0]⟩
    subst h0
    clear HE HF HB
    go_enter Tryd.func16, Tryd.ntmps16
    go_wp2_with fail
    refine HK.out.mono ?_
    rintro e w2 ⟨rfl, hM⟩
    have HM : Hd _ := ⟨hM⟩
    clear hM
    go_wp2
    go_ret
    exact ⟨by rw [HR.out]; rfl, HM.out⟩
  · have HR : Hd (r = d) := ⟨by rw [HE.out, if_neg h0]⟩
    have h1 : ¬ (k : Int) = 0 := by omega
    clear HE h0
    go_enter Tryd.func16, Tryd.ntmps16
    go_wp2_with fail
    refine HK.out.mono ?_
    rintro e w2 ⟨rfl, hM⟩
    have HM : Hd _ := ⟨hM⟩
    clear hM
    go_wp2_with fail
    refine (HF.out _).mono ?_
    rintro e w3 ⟨rfl, rfl⟩
    go_wp2_with fail
    refine (HB.out _).mono ?_
    rintro e w3 ⟨rfl, rfl⟩
    go_wp2
    go_ret
    exact ⟨by rw [HR.out]; rfl, HM.out⟩
end Go.Proofs.YtfdbmpcfphlmoaaDoor
