/- kind's with, Box, Ref, Mut, by walks. -/
import Derived.Test.YtfdbmpcfphlmoaaDoorW4
namespace Go.Proofs.YtfdbmpcfphlmoaaDoor
set_option linter.unusedVariables false
set_option linter.unusedSimpArgs false
open Go.RowKit

theorem mk_append (a b : Bs) : mk a ++ mk b = mk (a ++ b) := by
  apply ByteArray.ext
  apply Array.ext'
  simp [mk]

set_option maxRecDepth 100000 in
theorem with_calls (p : Bs) (hp : p.length = 4) (s : ByteArray) (hs : s.size ≤ 1048000) (w : World) (hT : Tab w) : Calls Tryd.prog 34 #[.string (mk p), .string s] w fun e w' => e = .returned (.tuple #[.string (mk (withI p (lst s)).1), .bool (withI p (lst s)).2]) ∧ Mod (fun _ => False) w w' := by
  have HP : Hd _ := ⟨Plain_calls s (by omega) w hT⟩
  have HT : Hd _ := ⟨hT⟩
  have HE : Hd (withI p (lst s) = if !plainI (lst s) || decide (kindI (p ++ lst s) = 0) then ([], false) else (p ++ lst s, true)) := ⟨rfl⟩
  obtain ⟨q, hq⟩ : ∃ q, plainI (lst s) = q := ⟨_, rfl⟩
  rw [hq] at HP HE
  obtain ⟨k, hk⟩ : ∃ k, kindI (p ++ lst s) = k := ⟨_, rfl⟩
  rw [hk] at HE
  obtain ⟨r, hr⟩ : ∃ r, withI p (lst s) = r := ⟨_, rfl⟩
  rw [hr] at HE ⊢
  obtain ⟨u, hu⟩ : ∃ u, mk p ++ s = u := ⟨_, rfl⟩
  have hul : lst u = p ++ lst s := by rw [← hu]; conv => lhs; rw [eq_mk s, mk_append, lst_mk]
  have hus : u.size = s.size + 4 := by rw [← lst_len u, hul, List.length_append, lst_len, hp]; omega
  have HK : Hd (∀ w, Tab w → Calls Tryd.prog 13 #[.string u] w fun e w' => e = .returned (.int .i64 (k : Int)) ∧ Mod (fun _ => False) w w') := ⟨fun w h => by have := Kind_calls u (by omega) w h; rw [hul, hk] at this; exact this⟩
  have HUL : Hd (mk (p ++ lst s) = u) := ⟨by rw [← hul]⟩
  clear hq hk hr hT hul hus
  cases q with
  | false =>
    have HR : Hd (r = ([], false)) := ⟨by rw [HE.out]; rfl⟩
    clear HE HK
    go_enter Tryd.func34, Tryd.ntmps34
    go_wp2_with fail
    refine HP.out.mono ?_
    rintro e w2 ⟨rfl, hM⟩
    have HM : Hd _ := ⟨hM⟩
    clear hM
    go_wp2
    exact bodyPost_ret (v := .tuple #[.string (mk []), .bool false]) (by simp [results, Tryd.f34, go_sem]) rfl ⟨by rw [HR.out], HM.out⟩
  | true =>
    by_cases h0 : k = 0
    · subst h0
      have HR : Hd (r = ([], false)) := ⟨by rw [HE.out]; rfl⟩
      clear HE
      go_enter Tryd.func34, Tryd.ntmps34
      go_wp2_with fail
      refine HP.out.mono ?_
      rintro e w2 ⟨rfl, hM⟩
      have HM : Hd _ := ⟨hM⟩
      clear hM
      go_wp2_with fail
      refine (HK.out _ (HT.out.mod HM.out)).mono ?_
      rintro e w3 ⟨rfl, hM⟩
      have HM3 : Hd _ := ⟨HM.out.trans hM (fun _ h => Or.inl h)⟩
      clear hM
      go_wp2
      exact bodyPost_ret (v := .tuple #[.string (mk []), .bool false]) (by simp [results, Tryd.f34, go_sem]) rfl ⟨by rw [HR.out], HM3.out⟩
    · have h1 : ¬ (k : Int) = 0 := by omega
      have HR : Hd (r = (p ++ lst s, true)) := ⟨by rw [HE.out]; simp [h0]⟩
      clear HE h0
      go_enter Tryd.func34, Tryd.ntmps34
      go_wp2_with fail
      refine HP.out.mono ?_
      rintro e w2 ⟨rfl, hM⟩
      have HM : Hd _ := ⟨hM⟩
      clear hM
      go_wp2_with fail
      refine (HK.out _ (HT.out.mod HM.out)).mono ?_
      rintro e w3 ⟨rfl, hM⟩
      have HM3 : Hd _ := ⟨HM.out.trans hM (fun _ h => Or.inl h)⟩
      clear hM
      go_wp2
      exact bodyPost_ret (v := .tuple #[.string u, .bool true]) (by simp [results, Tryd.f34, go_sem]) rfl ⟨by rw [HR.out, ← HUL.out], HM3.out⟩

set_option maxRecDepth 100000 in
theorem Box_calls (s : ByteArray) (hs : s.size ≤ 1048000) (w : World) (hT : Tab w) : Calls Tryd.prog 20 #[.string s] w fun e w' => e = .returned (.tuple #[.string (mk (withI boxB (lst s)).1), .bool (withI boxB (lst s)).2]) ∧ Mod (fun _ => False) w w' := by
  have HC : Hd _ := ⟨with_calls boxB rfl s hs w hT⟩
  generalize withI boxB (lst s) = r at HC ⊢
  clear hT
  go_enter Tryd.func20, Tryd.ntmps20
  go_wp2_with fail
  refine HC.out.mono ?_
  rintro e w2 ⟨rfl, hM⟩
  have HM : Hd _ := ⟨hM⟩
  clear hM
  go_wp2
  exact bodyPost_ret (v := .tuple #[.string (mk r.1), .bool r.2]) (by simp [results, Tryd.f20, go_sem]) rfl ⟨rfl, HM.out⟩

set_option maxRecDepth 100000 in
theorem Ref_calls (s : ByteArray) (hs : s.size ≤ 1048000) (w : World) (hT : Tab w) : Calls Tryd.prog 21 #[.string s] w fun e w' => e = .returned (.tuple #[.string (mk (withI refB (lst s)).1), .bool (withI refB (lst s)).2]) ∧ Mod (fun _ => False) w w' := by
  have HC : Hd _ := ⟨with_calls refB rfl s hs w hT⟩
  generalize withI refB (lst s) = r at HC ⊢
  clear hT
  go_enter Tryd.func21, Tryd.ntmps21
  go_wp2_with fail
  refine HC.out.mono ?_
  rintro e w2 ⟨rfl, hM⟩
  have HM : Hd _ := ⟨hM⟩
  clear hM
  go_wp2
  exact bodyPost_ret (v := .tuple #[.string (mk r.1), .bool r.2]) (by simp [results, Tryd.f21, go_sem]) rfl ⟨rfl, HM.out⟩

set_option maxRecDepth 100000 in
theorem Mut_calls (s : ByteArray) (hs : s.size ≤ 1048000) (w : World) (hT : Tab w) : Calls Tryd.prog 22 #[.string s] w fun e w' => e = .returned (.tuple #[.string (mk (withI mutB (lst s)).1), .bool (withI mutB (lst s)).2]) ∧ Mod (fun _ => False) w w' := by
  have HC : Hd _ := ⟨with_calls mutB rfl s hs w hT⟩
  generalize withI mutB (lst s) = r at HC ⊢
  clear hT
  go_enter Tryd.func22, Tryd.ntmps22
  go_wp2_with fail
  refine HC.out.mono ?_
  rintro e w2 ⟨rfl, hM⟩
  have HM : Hd _ := ⟨hM⟩
  clear hM
  go_wp2
  exact bodyPost_ret (v := .tuple #[.string (mk r.1), .bool r.2]) (by simp [results, Tryd.f22, go_sem]) rfl ⟨rfl, HM.out⟩
end Go.Proofs.YtfdbmpcfphlmoaaDoor
