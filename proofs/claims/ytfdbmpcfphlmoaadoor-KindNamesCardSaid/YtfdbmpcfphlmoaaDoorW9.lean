/- The document's Elem, With, Base, Deep, by walks. -/
import Derived.Test.YtfdbmpcfphlmoaaDoorW8
namespace Go.Proofs.YtfdbmpcfphlmoaaDoor
set_option linter.unusedVariables false
set_option linter.unusedSimpArgs false
open Go.RowKit

set_option maxRecDepth 100000 in
theorem rElem_calls (s : ByteArray) (hs : s.size ≤ 1048576) (w : World) : Calls Tryd.prog 10 #[.string s] w fun e w' => e = .returned (.tuple #[.string (mk (elemI (lst s)).1), .bool (elemI (lst s)).2]) ∧ Mod (fun _ => False) w w' := by
  have HK : Hd _ := ⟨rKind_calls s hs w⟩
  rw [kindR_eq] at HK
  have HE : Hd (elemI (lst s) = if kindI (lst s) < 3 then ([], false) else ((lst s).drop 4, true)) := ⟨rfl⟩
  have hk5 := kind_le (lst s)
  have hlong := kind_long (l := lst s)
  rw [lst_len] at hlong
  obtain ⟨k, hk⟩ : ∃ k, kindI (lst s) = k := ⟨_, rfl⟩
  rw [hk] at HK HE hk5 hlong
  obtain ⟨r, hr⟩ : ∃ r, elemI (lst s) = r := ⟨_, rfl⟩
  rw [hr] at HE ⊢
  clear hk hr
  by_cases h3 : k < 3
  · have HR : Hd (r = ([], false)) := ⟨by rw [HE.out, if_pos h3]⟩
    clear HE hlong
    go_enter Tryd.func10, Tryd.ntmps10
    go_wp2_with fail
    refine HK.out.mono ?_
    rintro e w2 ⟨rfl, hM⟩
    have HM : Hd _ := ⟨hM⟩
    clear hM
    go_wp2
    exact bodyPost_ret (v := .tuple #[.string (mk []), .bool false]) (by simp [results, Tryd.f10, go_sem]) rfl ⟨by rw [HR.out], HM.out⟩
  · have h4 : 4 ≤ s.size := hlong (by omega)
    obtain ⟨u, hu⟩ : ∃ u, s.extract 4 s.size = u := ⟨_, rfl⟩
    have HU : Hd (mk ((lst s).drop 4) = u) := ⟨by rw [← lst_extract, hu]⟩
    have HR : Hd (r = ((lst s).drop 4, true)) := ⟨by rw [HE.out, if_neg h3]⟩
    clear HE hlong
    go_enter Tryd.func10, Tryd.ntmps10
    go_wp2_with fail
    refine HK.out.mono ?_
    rintro e w2 ⟨rfl, hM⟩
    have HM : Hd _ := ⟨hM⟩
    clear hM
    go_wp2
    exact bodyPost_ret (v := .tuple #[.string u, .bool true]) (by simp [results, Tryd.f10, go_sem, hu]) rfl ⟨by rw [HR.out, ← HU.out], HM.out⟩

theorem kind_tail (l : Bs) (h : 3 ≤ kindI l) : plainI (l.drop 4) = true := by
  rcases kind_cases l with h1 | ⟨h1, _⟩ | ⟨h1, _⟩ | ⟨_, t, rfl, hp⟩ | ⟨_, t, rfl, hp⟩ | ⟨_, t, rfl, hp⟩
  · omega
  · omega
  · omega
  · exact plain_of_box hp
  · exact hp
  · exact hp

set_option maxRecDepth 100000 in
theorem rBase_calls (s : ByteArray) (hs : s.size ≤ 1048576) (w : World) : Calls Tryd.prog 12 #[.string s] w fun e w' => e = .returned (.tuple #[.string (mk (baseR (lst s)).1), .bool (baseR (lst s)).2]) ∧ Mod (fun _ => False) w w' := by
  have HK : Hd _ := ⟨rKind_calls s hs w⟩
  have HE : Hd (baseR (lst s) = if kindR (lst s) = 0 then ([], false) else (baseLoop s.size (lst s), true)) := ⟨by unfold baseR; rw [lst_len]⟩
  obtain ⟨k, hk⟩ : ∃ k, kindR (lst s) = k := ⟨_, rfl⟩
  rw [hk] at HK HE
  obtain ⟨r, hr⟩ : ∃ r, baseR (lst s) = r := ⟨_, rfl⟩
  rw [hr] at HE ⊢
  clear hk hr
  by_cases h0 : k = 0
  · have HR : Hd (r = ([], false)) := ⟨by rw [HE.out, if_pos h0]⟩
    subst h0
    clear HE
    go_enter Tryd.func12, Tryd.ntmps12
    go_wp2_with fail
    refine HK.out.mono ?_
    rintro e w2 ⟨rfl, hM⟩
    have HM : Hd _ := ⟨hM⟩
    clear hM
    go_wp2
    exact bodyPost_ret (v := .tuple #[.string (mk []), .bool false]) (by simp [results, Tryd.f12, go_sem]) rfl ⟨by rw [HR.out], HM.out⟩
  · have h1 : ((k : Int) == 0) = false := by rw [beq_eq_false_iff_ne]; omega
    have HR : Hd (r = (baseLoop s.size (lst s), true)) := ⟨by rw [HE.out, if_neg h0]⟩
    clear HE h0
    go_enter Tryd.func12, Tryd.ntmps12
    go_wp2_with fail
    refine HK.out.mono ?_
    rintro e w2 ⟨rfl, hM⟩
    have HM : Hd _ := ⟨hM⟩
    clear hM
    go_wp2_with fail
    go_loopg [0] s.size (fun gk v0 wr => ∃ t : ByteArray, v0 = .string t ∧ t.size ≤ gk ∧ t.size ≤ s.size ∧ Hd (baseLoop s.size (lst s) = baseLoop gk (lst t)) ∧ Hd (Mod (fun _ => False) w wr))
    case atStart => exact ⟨s, rfl, Nat.le_refl _, Nat.le_refl _, ⟨rfl⟩, HM⟩
    case round =>
      clear HM
      obtain ⟨t, rfl, ht, hts, HS, HM⟩ := hrel
      have HKT : Hd (∀ w, _) := ⟨fun w => rKind_calls t (by omega) w⟩
      have hlong := kind_long (l := lst t)
      rw [← kindR_eq, lst_len] at hlong
      obtain ⟨q, hq⟩ : ∃ q, kindR (lst t) = q := ⟨_, rfl⟩
      rw [hq] at HKT hlong
      by_cases h3 : 3 ≤ q
      · have h4 := hlong h3
        obtain ⟨u, hu⟩ : ∃ u, t.extract 4 t.size = u := ⟨_, rfl⟩
        have hul : lst u = (lst t).drop 4 := by rw [← hu, lst_extract]
        have hus : u.size + 4 = t.size := by rw [← lst_len u, hul, List.length_drop, lst_len]; omega
        have HS2 : Hd (baseLoop s.size (lst s) = baseLoop (gk - 1) (lst u)) := ⟨by
          rw [HS.out, hul]
          obtain ⟨g, hg⟩ : ∃ g, gk = g + 1 := ⟨gk - 1, by omega⟩
          rw [hg, baseLoop, hq, if_pos h3]
          rfl⟩
        clear hq hul hlong
        go_wp2_with fail
        refine (HKT.out _).mono ?_
        rintro e w3 ⟨rfl, hM⟩
        have HM3 : Hd _ := ⟨HM.out.trans hM (fun _ h => Or.inl h)⟩
        clear hM
        go_wp2_with fail
        go_roundg (gk - 1)
        case measure => omega
        case rel => exact ⟨u, by simp [hu], by omega, by omega, HS2, HM3⟩
      · have HS2 : Hd (baseLoop s.size (lst s) = lst t) := ⟨by
          rw [HS.out]
          cases gk with
          | zero => rfl
          | succ g => rw [baseLoop, hq, if_neg h3]⟩
        clear hq hlong
        go_wp2_with fail
        refine (HKT.out _).mono ?_
        rintro e w3 ⟨rfl, hM⟩
        have HM3 : Hd _ := ⟨HM.out.trans hM (fun _ h => Or.inl h)⟩
        clear hM
        go_wp2
        exact bodyPost_ret (v := .tuple #[.string t, .bool true]) (by simp [results, Tryd.f12, go_sem]) rfl ⟨by rw [HR.out, HS2.out, ← eq_mk t], HM3.out⟩

set_option maxRecDepth 100000 in
theorem rDeep_calls (s : ByteArray) (hs : s.size ≤ 1048576) (w : World) : Calls Tryd.prog 17 #[.string s] w fun e w' => e = .returned (.int .i64 (deepR (lst s) : Int)) ∧ Mod (fun _ => False) w w' := by
  have HK : Hd _ := ⟨rKind_calls s hs w⟩
  have HE : Hd (deepR (lst s) = (plainR (if 3 < kindR (lst s) then (lst s).drop 4 else lst s)).1) := ⟨rfl⟩
  have hlong := kind_long (l := lst s)
  rw [← kindR_eq, lst_len] at hlong
  obtain ⟨k, hk⟩ : ∃ k, kindR (lst s) = k := ⟨_, rfl⟩
  rw [hk] at HK HE hlong
  obtain ⟨r, hr⟩ : ∃ r, deepR (lst s) = r := ⟨_, rfl⟩
  rw [hr] at HE ⊢
  clear hk hr
  by_cases h3 : 3 < k
  · have h4 : 4 ≤ s.size := hlong (by omega)
    obtain ⟨u, hu⟩ : ∃ u, s.extract 4 s.size = u := ⟨_, rfl⟩
    have hul : lst u = (lst s).drop 4 := by rw [← hu, lst_extract]
    have hus : u.size + 4 = s.size := by rw [← lst_len u, hul, List.length_drop, lst_len]; omega
    have HP : Hd (∀ w, _) := ⟨fun w => rPlain_calls u (by omega) w⟩
    have HR : Hd (r = (plainR (lst u)).1) := ⟨by rw [HE.out, if_pos h3, hul]⟩
    generalize (plainR (lst u)).1 = m at HP HR
    generalize (plainR (lst u)).2 = p at HP
    clear HE hlong hul
    go_enter Tryd.func17, Tryd.ntmps17
    go_wp2_with fail
    refine HK.out.mono ?_
    rintro e w2 ⟨rfl, hM⟩
    have HM : Hd _ := ⟨hM⟩
    clear hM
    go_wp2_with fail
    refine (HP.out _).mono ?_
    rintro e w3 ⟨rfl, hM⟩
    have HM3 : Hd _ := ⟨HM.out.trans hM (fun _ h => Or.inl h)⟩
    clear hM
    go_wp2
    go_ret
    exact ⟨by rw [HR.out]; rfl, HM3.out⟩
  · have HP : Hd (∀ w, _) := ⟨fun w => rPlain_calls s hs w⟩
    have HR : Hd (r = (plainR (lst s)).1) := ⟨by rw [HE.out, if_neg h3]⟩
    generalize (plainR (lst s)).1 = m at HP HR
    generalize (plainR (lst s)).2 = p at HP
    clear HE hlong
    go_enter Tryd.func17, Tryd.ntmps17
    go_wp2_with fail
    refine HK.out.mono ?_
    rintro e w2 ⟨rfl, hM⟩
    have HM : Hd _ := ⟨hM⟩
    clear hM
    go_wp2_with fail
    refine (HP.out _).mono ?_
    rintro e w3 ⟨rfl, hM⟩
    have HM3 : Hd _ := ⟨HM.out.trans hM (fun _ h => Or.inl h)⟩
    clear hM
    go_wp2
    go_ret
    exact ⟨by rw [HR.out]; rfl, HM3.out⟩
end Go.Proofs.YtfdbmpcfphlmoaaDoor
