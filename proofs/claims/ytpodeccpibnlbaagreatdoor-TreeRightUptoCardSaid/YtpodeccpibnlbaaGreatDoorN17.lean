/- The law TreeRight, walked. -/
import Derived.Test.YtpodeccpibnlbaaGreatDoorN16
import Derived.Test.YtpodeccpibnlbaaGreatDoorG41
import Derived.Test.YtpodeccpibnlbaaGreatDoorG08
import Derived.Test.YtpodeccpibnlbaaGreatDoorG24
import Derived.Test.YtpodeccpibnlbaaGreatDoorN21
namespace Go.Proofs.YtpodeccpibnlbaaGreatDoor
set_option linter.unusedVariables false
set_option linter.unusedSimpArgs false
open Go.RowKit
theorem alive_a (W : World) (hT : Tab W) {m : Int} (hm : W.cell? ⟨0, 0, none⟩ = some (.int .i64 m)) : Calls Tryz.prog 9 #[] W fun e w' => e = .returned (.bool true) ∧ Mod (fun _ => False) W w' := callsIn_wide.1 (alive_in W hT hm)
set_option maxRecDepth 100000 in
set_option maxHeartbeats 8000000 in
theorem law_right {W : World} (hT : Tab W) {m : Int} (hm : W.cell? ⟨0, 0, none⟩ = some (.int .i64 m)) {p : Prg} {v : Value} (hv : prgV (fun _ => True) W v p) (hb : (keyL p).length ≤ 1099511627776) (hU : ∀ f ∈ p.funcs, (usesI f).length ≤ 1048576) :
    Calls Tryz.prog 4 #[v] W fun e w' => e = .returned (.bool true) ∧ Mod (fun _ => False) W w' := by
  have HV : Hd _ := ⟨hv⟩
  obtain ⟨oa, la, ca, ob, lb, cb, oc, lc, cc, rfl, k1, k2, k3⟩ := hv
  have HAL : Hd (∀ A : Obj, _) := ⟨fun A => alive_a (W.alloc A) (hT.mod (Mod.alloc _ _ _)) ((Mod.alloc (fun _ => False) W A).cell' hm)⟩
  have HG : Hd (∀ w, Mod (fun _ => False) W w → _) := ⟨fun w hw => Great_c HV.out hb hU w hw⟩
  have HR1 : Hd (∀ w, Mod (fun _ => False) W w → _) := ⟨fun w hw => Right_ans hT HV.out w hw⟩
  have HR2 : Hd (∀ w, Mod (fun _ => False) W w → _) := ⟨fun w hw => rRight_ans HV.out w hw⟩
  obtain ⟨r, hr⟩ : ∃ r, rightI p = r := ⟨_, rfl⟩
  rw [hr] at HR1 HR2
  clear hr hT hm k1 k2 k3 hb hU HV
  go_enter Tryz.func4, Tryz.ntmps4
  go_wp2_with fail
  refine (HAL.out _).mono ?_
  rintro e w1 ⟨rfl, hM⟩
  have HM1 : Hd (Mod (fun _ => False) W w1) := ⟨(Mod.alloc _ _ _).trans hM (fun _ h => Or.inl h)⟩
  have HB : Hd (∀ w', Mod (fun _ => False) w1 w' → w'.cell? ⟨W.heap.size, 0, none⟩ = some (.slice oa la ca) ∧ w'.cell? ⟨W.heap.size, 1, none⟩ = some (.slice ob lb cb) ∧ w'.cell? ⟨W.heap.size, 2, none⟩ = some (.slice oc lc cc)) := ⟨fun w' h => by
    have q := ((hM.trans h (fun _ h => Or.inl h)).block _ (lt1_0 _ _) (fun h => h)).trans (heap_new' _ _)
    exact ⟨cell_i q rfl, cell_i q rfl, cell_i q rfl⟩⟩
  clear hM HAL
  dsimp only
  repeat (go_not_at_region 3; first | go_values | go_skip | go_guarded | go_step | go_upon | go_back)
  have ee : (r == r) = true := by simp
  obtain ⟨y0, y1, y2⟩ := HB.out _ (Mod.drew _ w1)
  refine wp_region_two (C := fun w' => Mod (fun _ => False) w1 w') (by kernel_rfl) rfl rfl (by kernel_rfl) (by kernel_rfl) (by kernel_rfl) (by kernel_rfl) ?_
  unfold Oper.wp
  go_simp
  refine (Calls.at' (HG.out _ (HM1.out.trans (Mod.drew _ _) (fun _ h => Or.inl h))) (by with_reducible rfl)).mono ?_
  rintro e wq0 ⟨bg, rfl, hM⟩
  refine ⟨(Mod.drew _ _).trans hM (fun _ h => Or.inl h), ?_⟩
  clear hM
  cases bg with
  | true =>
    go_big_quiet_want
    refine ⟨.bool true, fun w hw => ?_, ?_⟩
    · obtain ⟨s0, s1, s2⟩ := HB.out w hw
      unfold Oper.quietAt
      go_simp
    go_big_quiet_on
    try simp only [Act.put, List.setIfInBounds_toArray, List.set_cons_zero, List.set_cons_succ]
    go_big_quiet_skip
    go_big_quiet_skip
    go_big_quiet_skip
    go_big_quiet_skip
    go_big_quiet_skip
    go_big_quiet_want
    refine ⟨.bool true, fun w hw => ?_, ?_⟩
    · obtain ⟨s0, s1, s2⟩ := HB.out w hw
      unfold Oper.quietAt
      go_simp
    go_big_quiet_on
    try simp only [Act.put, List.setIfInBounds_toArray, List.set_cons_zero, List.set_cons_succ]
    go_big_quiet_want
    refine ⟨.bool true, fun w hw => ?_, ?_⟩
    · obtain ⟨s0, s1, s2⟩ := HB.out w hw
      unfold Oper.quietAt
      go_simp
    go_big_quiet_on
    try simp only [Act.put, List.setIfInBounds_toArray, List.set_cons_zero, List.set_cons_succ]
    refine wpQuiet_nil ?_
    intro wd hwd
    have HD : Hd _ := ⟨hwd⟩
    clear hwd
    go_wp2
    go_ret
    exact ⟨rfl, HM1.out.trans HD.out (fun _ h => Or.inl h)⟩
  | false =>
    go_big_quiet_want
    refine ⟨.bool false, fun w hw => ?_, ?_⟩
    · obtain ⟨s0, s1, s2⟩ := HB.out w hw
      unfold Oper.quietAt
      go_simp
    go_big_quiet_on
    try simp only [Act.put, List.setIfInBounds_toArray, List.set_cons_zero, List.set_cons_succ]
    go_big_quiet_want
    refine ⟨.agg #[.slice oa la ca, .slice ob lb cb, .slice oc lc cc], fun w hw => ?_, ?_⟩
    · obtain ⟨s0, s1, s2⟩ := HB.out w hw
      unfold Oper.quietAt
      go_simp
    go_big_quiet_on
    try simp only [Act.put, List.setIfInBounds_toArray, List.set_cons_zero, List.set_cons_succ]
    go_big_quiet_want
    refine ⟨.bool r, fun w hw => ?_, ?_⟩
    · unfold Oper.quietAt
      go_simp
      refine (Calls.at' (HR1.out w (HM1.out.trans hw (fun _ h => Or.inl h))) (by with_reducible rfl)).mono ?_
      rintro e w2 ⟨rfl, hM⟩
      exact ⟨rfl, hw.trans hM (fun _ h => Or.inl h)⟩
    go_big_quiet_on
    try simp only [Act.put, List.setIfInBounds_toArray, List.set_cons_zero, List.set_cons_succ]
    go_big_quiet_want
    refine ⟨.agg #[.slice oa la ca, .slice ob lb cb, .slice oc lc cc], fun w hw => ?_, ?_⟩
    · obtain ⟨s0, s1, s2⟩ := HB.out w hw
      unfold Oper.quietAt
      go_simp
    go_big_quiet_on
    try simp only [Act.put, List.setIfInBounds_toArray, List.set_cons_zero, List.set_cons_succ]
    go_big_quiet_want
    refine ⟨.bool r, fun w hw => ?_, ?_⟩
    · unfold Oper.quietAt
      go_simp
      refine (Calls.at' (HR2.out w (HM1.out.trans hw (fun _ h => Or.inl h))) (by with_reducible rfl)).mono ?_
      rintro e w2 ⟨rfl, hM⟩
      exact ⟨rfl, hw.trans hM (fun _ h => Or.inl h)⟩
    go_big_quiet_on
    try simp only [Act.put, List.setIfInBounds_toArray, List.set_cons_zero, List.set_cons_succ]
    go_big_quiet_want
    refine ⟨.bool true, fun w hw => ?_, ?_⟩
    · obtain ⟨s0, s1, s2⟩ := HB.out w hw
      unfold Oper.quietAt
      go_simp
    go_big_quiet_on
    try simp only [Act.put, List.setIfInBounds_toArray, List.set_cons_zero, List.set_cons_succ]
    go_big_quiet_want
    refine ⟨.bool true, fun w hw => ?_, ?_⟩
    · obtain ⟨s0, s1, s2⟩ := HB.out w hw
      unfold Oper.quietAt
      go_simp
    go_big_quiet_on
    try simp only [Act.put, List.setIfInBounds_toArray, List.set_cons_zero, List.set_cons_succ]
    go_big_quiet_want
    refine ⟨.bool true, fun w hw => ?_, ?_⟩
    · obtain ⟨s0, s1, s2⟩ := HB.out w hw
      unfold Oper.quietAt
      go_simp
    go_big_quiet_on
    try simp only [Act.put, List.setIfInBounds_toArray, List.set_cons_zero, List.set_cons_succ]
    refine wpQuiet_nil ?_
    intro wd hwd
    have HD : Hd _ := ⟨hwd⟩
    clear hwd
    go_wp2
    go_ret
    exact ⟨rfl, HM1.out.trans HD.out (fun _ h => Or.inl h)⟩
end Go.Proofs.YtpodeccpibnlbaaGreatDoor
