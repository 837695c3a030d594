/- The law's 'alive', by its walk. -/
import Derived.Test.YtfdbmpcfphlmoaaDoorW9
namespace Go.Proofs.YtfdbmpcfphlmoaaDoor
set_option linter.unusedVariables false
set_option linter.unusedSimpArgs false
open Go.RowKit

theorem alive0 (w : World) (hT : Tab w) : Calls Tryd.prog 9 #[.string (mk [109, 117, 116, 32, 98, 111, 120, 32, 105, 110, 116])] w fun e w' => e = .returned (.tuple #[.string (mk [98, 111, 120, 32, 105, 110, 116]), .bool true]) ∧ Mod (fun _ => False) w w' := by
  have h := Elem_calls (mk [109, 117, 116, 32, 98, 111, 120, 32, 105, 110, 116]) (by decide) w hT
  rw [lst_mk, show elemI [109, 117, 116, 32, 98, 111, 120, 32, 105, 110, 116] = ([98, 111, 120, 32, 105, 110, 116], true) by decide +kernel] at h
  exact h
theorem alive1 (w : World) (hT : Tab w) : Calls Tryd.prog 9 #[.string (mk [105, 110, 116])] w fun e w' => e = .returned (.tuple #[.string (mk []), .bool false]) ∧ Mod (fun _ => False) w w' := by
  have h := Elem_calls (mk [105, 110, 116]) (by decide) w hT
  rw [lst_mk, show elemI [105, 110, 116] = ([], false) by decide +kernel] at h
  exact h
theorem alive2 (w : World) (hT : Tab w) : Calls Tryd.prog 20 #[.string (mk [112, 97, 105, 114])] w fun e w' => e = .returned (.tuple #[.string (mk [98, 111, 120, 32, 112, 97, 105, 114]), .bool true]) ∧ Mod (fun _ => False) w w' := by
  have h := Box_calls (mk [112, 97, 105, 114]) (by decide) w hT
  rw [lst_mk, show withI boxB [112, 97, 105, 114] = ([98, 111, 120, 32, 112, 97, 105, 114], true) by decide +kernel] at h
  exact h
theorem alive3 (w : World) (hT : Tab w) : Calls Tryd.prog 20 #[.string (mk [114, 101, 102, 32, 105, 110, 116])] w fun e w' => e = .returned (.tuple #[.string (mk []), .bool false]) ∧ Mod (fun _ => False) w w' := by
  have h := Box_calls (mk [114, 101, 102, 32, 105, 110, 116]) (by decide) w hT
  rw [lst_mk, show withI boxB [114, 101, 102, 32, 105, 110, 116] = ([], false) by decide +kernel] at h
  exact h
theorem alive4 (w : World) (hT : Tab w) : Calls Tryd.prog 11 #[.string (mk [114, 101, 102, 32, 98, 111, 120, 32, 112, 97, 105, 114])] w fun e w' => e = .returned (.tuple #[.string (mk [112, 97, 105, 114]), .bool true]) ∧ Mod (fun _ => False) w w' := by
  have h := Base_calls (mk [114, 101, 102, 32, 98, 111, 120, 32, 112, 97, 105, 114]) (by decide) w hT
  rw [lst_mk, show baseI [114, 101, 102, 32, 98, 111, 120, 32, 112, 97, 105, 114] = ([112, 97, 105, 114], true) by decide +kernel] at h
  exact h
theorem alive5 (w : World) (hT : Tab w) : Calls Tryd.prog 13 #[.string (mk [109, 117, 116, 32, 98, 111, 120, 32, 105, 110, 116])] w fun e w' => e = .returned (.int .i64 5) ∧ Mod (fun _ => False) w w' := by
  have h := Kind_calls (mk [109, 117, 116, 32, 98, 111, 120, 32, 105, 110, 116]) (by decide) w hT
  rw [lst_mk, show kindI [109, 117, 116, 32, 98, 111, 120, 32, 105, 110, 116] = 5 by decide +kernel] at h
  exact h
theorem alive6 (w : World) (hT : Tab w) : Calls Tryd.prog 13 #[.string (mk [98, 111, 120, 32, 114, 101, 102, 32, 105, 110, 116])] w fun e w' => e = .returned (.int .i64 0) ∧ Mod (fun _ => False) w w' := by
  have h := Kind_calls (mk [98, 111, 120, 32, 114, 101, 102, 32, 105, 110, 116]) (by decide) w hT
  rw [lst_mk, show kindI [98, 111, 120, 32, 114, 101, 102, 32, 105, 110, 116] = 0 by decide +kernel] at h
  exact h
theorem alive7 (w : World) (hT : Tab w) : Calls Tryd.prog 15 #[.string (mk [98, 111, 120, 32, 105, 110, 116])] w fun e w' => e = .returned (.bool true) ∧ Mod (fun _ => False) w w' := by
  have h := Plain_calls (mk [98, 111, 120, 32, 105, 110, 116]) (by decide) w hT
  rw [lst_mk, show plainI [98, 111, 120, 32, 105, 110, 116] = true by decide +kernel] at h
  exact h
theorem alive8 (w : World) (hT : Tab w) : Calls Tryd.prog 15 #[.string (mk [114, 101, 102, 32, 105, 110, 116])] w fun e w' => e = .returned (.bool false) ∧ Mod (fun _ => False) w w' := by
  have h := Plain_calls (mk [114, 101, 102, 32, 105, 110, 116]) (by decide) w hT
  rw [lst_mk, show plainI [114, 101, 102, 32, 105, 110, 116] = false by decide +kernel] at h
  exact h
theorem alive9 (w : World) (hT : Tab w) : Calls Tryd.prog 16 #[.string (mk [114, 101, 102, 32, 98, 111, 120, 32, 98, 111, 120, 32, 105, 110, 116])] w fun e w' => e = .returned (.int .i64 2) ∧ Mod (fun _ => False) w w' := by
  have h := Deep_calls (mk [114, 101, 102, 32, 98, 111, 120, 32, 98, 111, 120, 32, 105, 110, 116]) (by decide) w hT
  rw [lst_mk, show deepI [114, 101, 102, 32, 98, 111, 120, 32, 98, 111, 120, 32, 105, 110, 116] = 2 by decide +kernel] at h
  exact h

set_option maxRecDepth 100000 in
set_option maxHeartbeats 2000000 in
theorem alive_calls (w : World) (hT : Tab w) : Calls Tryd.prog 7 #[] w fun e w' => e = .returned (.bool true) ∧ Mod (fun _ => False) w w' := by
  have HT : Hd _ := ⟨hT⟩
  clear hT
  go_enter Tryd.func7, Tryd.ntmps7
  go_wp2_with fail
  refine (alive0 _ HT.out).mono ?_
  rintro e w1 ⟨rfl, hM⟩
  have HM1 : Hd (Mod (fun _ => False) w w1) := ⟨hM⟩
  have HT1 : Hd _ := ⟨HT.out.mod hM⟩
  clear hM
  go_wp2_with fail
  refine (alive1 _ HT1.out).mono ?_
  rintro e w2 ⟨rfl, hM⟩
  have HM2 : Hd (Mod (fun _ => False) w w2) := ⟨HM1.out.trans hM (fun _ h => Or.inl h)⟩
  have HT2 : Hd _ := ⟨HT1.out.mod hM⟩
  clear hM
  go_wp2_with fail
  refine (alive2 _ HT2.out).mono ?_
  rintro e w3 ⟨rfl, hM⟩
  have HM3 : Hd (Mod (fun _ => False) w w3) := ⟨HM2.out.trans hM (fun _ h => Or.inl h)⟩
  have HT3 : Hd _ := ⟨HT2.out.mod hM⟩
  clear hM
  go_wp2_with fail
  refine (alive3 _ HT3.out).mono ?_
  rintro e w4 ⟨rfl, hM⟩
  have HM4 : Hd (Mod (fun _ => False) w w4) := ⟨HM3.out.trans hM (fun _ h => Or.inl h)⟩
  have HT4 : Hd _ := ⟨HT3.out.mod hM⟩
  clear hM
  go_wp2_with fail
  refine (alive4 _ HT4.out).mono ?_
  rintro e w5 ⟨rfl, hM⟩
  have HM5 : Hd (Mod (fun _ => False) w w5) := ⟨HM4.out.trans hM (fun _ h => Or.inl h)⟩
  have HT5 : Hd _ := ⟨HT4.out.mod hM⟩
  clear hM
  go_wp2_with fail
  refine (alive5 _ HT5.out).mono ?_
  rintro e w6 ⟨rfl, hM⟩
  have HM6 : Hd (Mod (fun _ => False) w w6) := ⟨HM5.out.trans hM (fun _ h => Or.inl h)⟩
  have HT6 : Hd _ := ⟨HT5.out.mod hM⟩
  clear hM
  go_wp2_with fail
  refine (alive6 _ HT6.out).mono ?_
  rintro e w7 ⟨rfl, hM⟩
  have HM7 : Hd (Mod (fun _ => False) w w7) := ⟨HM6.out.trans hM (fun _ h => Or.inl h)⟩
  have HT7 : Hd _ := ⟨HT6.out.mod hM⟩
  clear hM
  go_wp2_with fail
  refine (alive7 _ HT7.out).mono ?_
  rintro e w8 ⟨rfl, hM⟩
  have HM8 : Hd (Mod (fun _ => False) w w8) := ⟨HM7.out.trans hM (fun _ h => Or.inl h)⟩
  have HT8 : Hd _ := ⟨HT7.out.mod hM⟩
  clear hM
  go_wp2_with fail
  refine (alive8 _ HT8.out).mono ?_
  rintro e w9 ⟨rfl, hM⟩
  have HM9 : Hd (Mod (fun _ => False) w w9) := ⟨HM8.out.trans hM (fun _ h => Or.inl h)⟩
  have HT9 : Hd _ := ⟨HT8.out.mod hM⟩
  clear hM
  go_wp2_with fail
  refine (alive9 _ HT9.out).mono ?_
  rintro e w10 ⟨rfl, hM⟩
  have HM10 : Hd (Mod (fun _ => False) w w10) := ⟨HM9.out.trans hM (fun _ h => Or.inl h)⟩
  have HT10 : Hd _ := ⟨HT9.out.mod hM⟩
  clear hM
  go_wp2
  go_ret
  exact ⟨rfl, HM10.out⟩
end Go.Proofs.YtfdbmpcfphlmoaaDoor
