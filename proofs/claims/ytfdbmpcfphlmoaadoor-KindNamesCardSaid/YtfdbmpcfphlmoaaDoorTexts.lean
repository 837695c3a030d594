/- KindTexts: its walk. -/
import Derived.Test.YtfdbmpcfphlmoaaDoorAlive
namespace Go.Proofs.YtfdbmpcfphlmoaaDoor
set_option linter.unusedVariables false
set_option linter.unusedSimpArgs false
open Go.RowKit

theorem Mod.toBelow {w w' : World} (h : Mod (fun _ => False) w w') : Below w.heap.size w w' := h.below (Nat.le_refl _) (fun _ _ h => h)

set_option maxRecDepth 100000 in
set_option maxHeartbeats 2000000 in
theorem texts_long (s : ByteArray) (h : 300 < s.size) (w : World) (hT : Tab w) : Calls Tryd.prog 3 #[.string s] w fun e w' => e = .returned (.bool true) ∧ Below w.heap.size w w' := by
  have HA : Hd _ := ⟨alive_calls w hT⟩
  clear hT
  go_enter Tryd.func3, Tryd.ntmps3
  go_wp2_with fail
  refine HA.out.mono ?_
  rintro e w1 ⟨rfl, hM⟩
  have HM : Hd _ := ⟨hM⟩
  clear hM
  go_wp2
  go_ret
  exact ⟨rfl, HM.out.toBelow⟩

set_option maxRecDepth 100000 in
set_option maxHeartbeats 2000000 in
theorem texts_walk (s : ByteArray) (h : s.size ≤ 300) (w : World) (hT : Tab w) : Calls Tryd.prog 3 #[.string s] w fun e w' => e = .returned (.bool true) ∧ Below w.heap.size w w' := by
  have HA : Hd _ := ⟨alive_calls w hT⟩
  have H8 : Hd (∀ w, _) := ⟨fun w => rPlain_calls s (by omega) w⟩
  have H9 : Hd (∀ w, Tab w → _) := ⟨fun w h0 => Elem_calls s (by omega) w h0⟩
  have H10 : Hd (∀ w, _) := ⟨fun w => rElem_calls s (by omega) w⟩
  have H11 : Hd (∀ w, Tab w → _) := ⟨fun w h0 => Base_calls s (by omega) w h0⟩
  have H12 : Hd (∀ w, _) := ⟨fun w => rBase_calls s (by omega) w⟩
  have H13 : Hd (∀ w, Tab w → _) := ⟨fun w h0 => Kind_calls s (by omega) w h0⟩
  have H14 : Hd (∀ w, _) := ⟨fun w => rKind_calls s (by omega) w⟩
  have H15 : Hd (∀ w, Tab w → _) := ⟨fun w h0 => Plain_calls s (by omega) w h0⟩
  have H16 : Hd (∀ w, Tab w → _) := ⟨fun w h0 => Deep_calls s (by omega) w h0⟩
  have H17 : Hd (∀ w, _) := ⟨fun w => rDeep_calls s (by omega) w⟩
  rw [plainR_snd] at H8
  rw [baseR_eq] at H12
  rw [kindR_eq] at H14
  rw [deepR_eq] at H17
  have HT : Hd _ := ⟨hT⟩
  clear hT
  generalize (plainR (lst s)).1 = pn at H8
  generalize plainI (lst s) = p at H8 H15
  obtain ⟨a, ha⟩ : ∃ a, mk (elemI (lst s)).1 = a := ⟨_, rfl⟩
  rw [ha] at H9 H10
  clear ha
  generalize (elemI (lst s)).2 = ok at H9 H10
  obtain ⟨b, hb⟩ : ∃ b, mk (baseI (lst s)).1 = b := ⟨_, rfl⟩
  rw [hb] at H11 H12
  clear hb
  generalize (baseI (lst s)).2 = bo at H11 H12
  generalize kindI (lst s) = k at H13 H14
  generalize deepI (lst s) = d at H16 H17
  go_enter Tryd.func3, Tryd.ntmps3
  go_wp2_with fail
  refine HA.out.mono ?_
  rintro e w1 ⟨rfl, hM⟩
  have HM1 : Hd (Mod (fun _ => False) w w1) := ⟨hM⟩
  have HT1 : Hd _ := ⟨HT.out.mod hM⟩
  clear hM
  go_wp2_with fail
  refine (H8.out _).mono ?_
  rintro e w2 ⟨rfl, hM⟩
  have HM2 : Hd (Mod (fun _ => False) w w2) := ⟨HM1.out.trans hM (fun _ h => Or.inl h)⟩
  have HT2 : Hd _ := ⟨HT1.out.mod hM⟩
  clear hM
  go_wp2_with fail
  refine (H9.out _ HT2.out).mono ?_
  rintro e w3 ⟨rfl, hM⟩
  have HM3 : Hd (Mod (fun _ => False) w w3) := ⟨HM2.out.trans hM (fun _ h => Or.inl h)⟩
  have HT3 : Hd _ := ⟨HT2.out.mod hM⟩
  clear hM
  go_wp2_with fail
  refine (H10.out _).mono ?_
  rintro e w4 ⟨rfl, hM⟩
  have HM4 : Hd (Mod (fun _ => False) w w4) := ⟨HM3.out.trans hM (fun _ h => Or.inl h)⟩
  have HT4 : Hd _ := ⟨HT3.out.mod hM⟩
  clear hM
  go_wp2_with fail
  refine (H11.out _ HT4.out).mono ?_
  rintro e w5 ⟨rfl, hM⟩
  have HM5 : Hd (Mod (fun _ => False) w w5) := ⟨HM4.out.trans hM (fun _ h => Or.inl h)⟩
  have HT5 : Hd _ := ⟨HT4.out.mod hM⟩
  clear hM
  go_wp2_with fail
  refine (H12.out _).mono ?_
  rintro e w6 ⟨rfl, hM⟩
  have HM6 : Hd (Mod (fun _ => False) w w6) := ⟨HM5.out.trans hM (fun _ h => Or.inl h)⟩
  have HT6 : Hd _ := ⟨HT5.out.mod hM⟩
  clear hM
  go_wp2_with fail
  refine (H13.out _ HT6.out).mono ?_
  rintro e w7 ⟨rfl, hM⟩
  have HM7 : Hd (Mod (fun _ => False) w w7) := ⟨HM6.out.trans hM (fun _ h => Or.inl h)⟩
  have HT7 : Hd _ := ⟨HT6.out.mod hM⟩
  clear hM
  go_wp2_with fail
  refine (H14.out _).mono ?_
  rintro e w8 ⟨rfl, hM⟩
  have HM8 : Hd (Mod (fun _ => False) w w8) := ⟨HM7.out.trans hM (fun _ h => Or.inl h)⟩
  have HT8 : Hd _ := ⟨HT7.out.mod hM⟩
  clear hM
  go_wp2_with fail
  refine (H15.out _ HT8.out).mono ?_
  rintro e w9 ⟨rfl, hM⟩
  have HM9 : Hd (Mod (fun _ => False) w w9) := ⟨HM8.out.trans hM (fun _ h => Or.inl h)⟩
  have HT9 : Hd _ := ⟨HT8.out.mod hM⟩
  clear hM
  go_wp2_with fail
  refine (H16.out _ HT9.out).mono ?_
  rintro e w10 ⟨rfl, hM⟩
  have HM10 : Hd (Mod (fun _ => False) w w10) := ⟨HM9.out.trans hM (fun _ h => Or.inl h)⟩
  have HT10 : Hd _ := ⟨HT9.out.mod hM⟩
  clear hM
  go_wp2_with fail
  refine (H17.out _).mono ?_
  rintro e w11 ⟨rfl, hM⟩
  have HM11 : Hd (Mod (fun _ => False) w w11) := ⟨HM10.out.trans hM (fun _ h => Or.inl h)⟩
  have HT11 : Hd _ := ⟨HT10.out.mod hM⟩
  clear hM
  go_wp2
  go_ret
  exact ⟨by simp, HM11.out.toBelow⟩
end Go.Proofs.YtfdbmpcfphlmoaaDoor
