/- The reference's Term, walked. -/
import Derived.Test.YtpodeccpibnlbaaGreatDoorN14
import Derived.Test.YtpodeccpibnlbaaGreatDoorG25
import Derived.BigQuiet
namespace Go.Proofs.YtpodeccpibnlbaaGreatDoor
set_option linter.unusedVariables false
set_option linter.unusedSimpArgs false
open Go.RowKit
def argsA : Array Value := #[.int .i64 0, .int .i64 0, .int .i64 1, .int .i64 1, .int .i64 0, .int .i64 16, .int .i64 16, .int .i64 1]
def blocksA : Array Value := #[.int .i64 0, .int .i64 1, .int .i64 2, .int .i64 0, .int .i64 1, .int .i64 1, .int .i64 1, .int .i64 0]
theorem argsT_at (k : Nat) (h : k < 8) : argsA[k]? = some (.int .i64 (argsT k : Int)) := by
  have : ∀ k : Fin 8, argsA[k.1]? = some (.int .i64 (argsT k.1 : Int)) := by intro k; revert k; simp only [Fin.forall_fin_succ]; exact ⟨rfl, rfl, rfl, rfl, rfl, rfl, rfl, rfl, fun i => i.elim0⟩
  exact this ⟨k, h⟩
theorem blocksT_at (k : Nat) (h : k < 8) : blocksA[k]? = some (.int .i64 (blocksT k : Int)) := by
  have : ∀ k : Fin 8, blocksA[k.1]? = some (.int .i64 (blocksT k.1 : Int)) := by intro k; revert k; simp only [Fin.forall_fin_succ]; exact ⟨rfl, rfl, rfl, rfl, rfl, rfl, rfl, rfl, fun i => i.elim0⟩
  exact this ⟨k, h⟩
theorem argsT_le (k : Nat) (h : k < 8) : argsT k ≤ 100 := by
  have : ∀ k : Fin 8, argsT k.1 ≤ 100 := by decide
  exact this ⟨k, h⟩
theorem leastT_o (k : Nat) (h : k < 8) (h5 : ¬ k = 5) (h6 : ¬ k = 6) : leastT k = argsT k := by
  have : ∀ k : Fin 8, k.1 = 5 ∨ k.1 = 6 ∨ leastT k.1 = argsT k.1 := by decide
  rcases this ⟨k, h⟩ with h | h | h
  · exact absurd h h5
  · exact absurd h h6
  · exact h
section
variable {S : Nat → Prop} {w0 : World}
set_option maxRecDepth 100000 in
set_option maxHeartbeats 16000000 in
theorem rTerm_ans {v : Value} {t : Trm} (hv : trmV S w0 v t) : Ans 110 #[v] w0 (.bool (termR t)) := by
  intro w hw
  have HW : Hd _ := ⟨hw⟩
  obtain ⟨_, hk, hnm, hdl, oa, la, ca, ob, lb, cb, oc, lc, cc, od, ld, cd, rfl, hds, hag, hbk, har⟩ := hv
  have hl := hag.hlen
  have hl2 := hbk.hlen
  have hl3 := har.hlen
  have hbig := hag.hbig
  have hbig2 := hbk.hbig
  have hbig3 := har.hbig
  subst hl
  subst hl2
  subst hl3
  have HPD : Hd (plV S w0 (.agg #[.string t.dest.loc, .slice oa la ca]) t.dest) := ⟨⟨hdl, oa, la, ca, rfl, hds⟩⟩
  have HAG : Hd _ := ⟨hag⟩
  have HBK : Hd _ := ⟨hbk⟩
  have HAR : Hd _ := ⟨har⟩
  have HNM : Hd _ := ⟨hnm⟩
  have HKI : Hd _ := ⟨hk⟩
  clear hw hk hnm hdl hds hag hbk har
  obtain ⟨r, hr⟩ : ∃ r, termR t = r := ⟨_, rfl⟩
  have HR : Hd _ := ⟨hr⟩
  rw [hr]
  clear hr
  go_enter Tryz.func110, Tryz.ntmps110
  repeat (go_not_at_region 3; first | go_values | go_skip | go_guarded | go_step | go_upon | go_back)
  obtain ⟨b0, hb0⟩ : ∃ b, w.heap.size = b := ⟨_, rfl⟩
  have H0 : Hd ((((w.alloc (.cells #[.int .i64 t.pos, .int .i64 t.kind, .string t.dest.loc, .slice oa la ca, .string t.name, .slice ob t.args.length cb, .slice oc t.blocks.length cc, .slice od t.arms.length cd] 61)).alloc (.cells #[.int .i64 0, .int .i64 0, .int .i64 1, .int .i64 1, .int .i64 0, .int .i64 16, .int .i64 16, .int .i64 1] 168)).alloc (.cells #[.int .i64 0, .int .i64 1, .int .i64 2, .int .i64 0, .int .i64 1, .int .i64 1, .int .i64 1, .int .i64 0] 168)).heap[b0]? = some (.cells #[.int .i64 t.pos, .int .i64 t.kind, .string t.dest.loc, .slice oa la ca, .string t.name, .slice ob t.args.length cb, .slice oc t.blocks.length cc, .slice od t.arms.length cd] 61 (0, 0))) := ⟨by rw [← hb0]; exact heap3_0 _ _ _ _⟩
  have H1 : Hd ((((w.alloc (.cells #[.int .i64 t.pos, .int .i64 t.kind, .string t.dest.loc, .slice oa la ca, .string t.name, .slice ob t.args.length cb, .slice oc t.blocks.length cc, .slice od t.arms.length cd] 61)).alloc (.cells #[.int .i64 0, .int .i64 0, .int .i64 1, .int .i64 1, .int .i64 0, .int .i64 16, .int .i64 16, .int .i64 1] 168)).alloc (.cells #[.int .i64 0, .int .i64 1, .int .i64 2, .int .i64 0, .int .i64 1, .int .i64 1, .int .i64 1, .int .i64 0] 168)).heap[b0 + 1]? = some (.cells argsA 168 (0, 0))) := ⟨by rw [← hb0]; exact heap3_1 _ _ _ _⟩
  have H2 : Hd ((((w.alloc (.cells #[.int .i64 t.pos, .int .i64 t.kind, .string t.dest.loc, .slice oa la ca, .string t.name, .slice ob t.args.length cb, .slice oc t.blocks.length cc, .slice od t.arms.length cd] 61)).alloc (.cells #[.int .i64 0, .int .i64 0, .int .i64 1, .int .i64 1, .int .i64 0, .int .i64 16, .int .i64 16, .int .i64 1] 168)).alloc (.cells #[.int .i64 0, .int .i64 1, .int .i64 2, .int .i64 0, .int .i64 1, .int .i64 1, .int .i64 1, .int .i64 0] 168)).heap[b0 + 1 + 1]? = some (.cells blocksA 168 (0, 0))) := ⟨by rw [← hb0]; exact heap3_2 _ _ _ _⟩
  have HMW : Hd (Mod (fun _ => False) w (((w.alloc (.cells #[.int .i64 t.pos, .int .i64 t.kind, .string t.dest.loc, .slice oa la ca, .string t.name, .slice ob t.args.length cb, .slice oc t.blocks.length cc, .slice od t.arms.length cd] 61)).alloc (.cells #[.int .i64 0, .int .i64 0, .int .i64 1, .int .i64 1, .int .i64 0, .int .i64 16, .int .i64 16, .int .i64 1] 168)).alloc (.cells #[.int .i64 0, .int .i64 1, .int .i64 2, .int .i64 0, .int .i64 1, .int .i64 1, .int .i64 1, .int .i64 0] 168))) := ⟨((Mod.alloc _ _ _).trans (Mod.alloc _ _ _) (fun _ h => Or.inl h)).trans (Mod.alloc _ _ _) (fun _ h => Or.inl h)⟩
  obtain ⟨W3, hW3⟩ : ∃ W3, (((w.alloc (.cells #[.int .i64 t.pos, .int .i64 t.kind, .string t.dest.loc, .slice oa la ca, .string t.name, .slice ob t.args.length cb, .slice oc t.blocks.length cc, .slice od t.arms.length cd] 61)).alloc (.cells #[.int .i64 0, .int .i64 0, .int .i64 1, .int .i64 1, .int .i64 0, .int .i64 16, .int .i64 16, .int .i64 1] 168)).alloc (.cells #[.int .i64 0, .int .i64 1, .int .i64 2, .int .i64 0, .int .i64 1, .int .i64 1, .int .i64 1, .int .i64 0] 168)) = W3 := ⟨_, rfl⟩
  rw [hW3] at H0 H1 H2 HMW
  rw [hb0, hW3]
  obtain ⟨b1, hb1⟩ : ∃ b, b0 + 1 = b := ⟨_, rfl⟩
  obtain ⟨b2, hb2⟩ : ∃ b, b1 + 1 = b := ⟨_, rfl⟩
  rw [hb1] at H1 H2
  rw [hb2] at H2
  rw [hb1, hb2]
  clear hW3 hb0 hb1 hb2
  have HK3 : Hd (Mod (fun _ => False) w0 W3) := ⟨HW.out.trans HMW.out (fun _ h => Or.inl h)⟩
  have HSF : Hd (∀ w', Mod (fun _ => False) W3 w' → w'.cell? ⟨b0, 1, none⟩ = some (.int .i64 t.kind) ∧ w'.cell? ⟨b0, 2, none⟩ = some (.string t.dest.loc) ∧ w'.cell? ⟨b0, 3, none⟩ = some (.slice oa la ca) ∧ w'.cell? ⟨b0, 4, none⟩ = some (.string t.name) ∧ w'.cell? ⟨b0, 5, none⟩ = some (.slice ob t.args.length cb) ∧ w'.cell? ⟨b0, 6, none⟩ = some (.slice oc t.blocks.length cc) ∧ w'.cell? ⟨b0, 7, none⟩ = some (.slice od t.arms.length cd) ∧ (∀ k : Nat, k < 8 → w'.cell? ⟨b1, k, none⟩ = some (.int .i64 (argsT k : Int))) ∧ (∀ k : Nat, k < 8 → w'.cell? ⟨b2, k, none⟩ = some (.int .i64 (blocksT k : Int)))) := ⟨fun w' h => by
    have q0 := (h.block _ (Array.getElem?_eq_some_iff.1 H0.out).1 (fun h => h)).trans H0.out
    have q1 := (h.block _ (Array.getElem?_eq_some_iff.1 H1.out).1 (fun h => h)).trans H1.out
    have q2 := (h.block _ (Array.getElem?_eq_some_iff.1 H2.out).1 (fun h => h)).trans H2.out
    exact ⟨cell_i q0 rfl, cell_i q0 rfl, cell_i q0 rfl, cell_i q0 rfl, cell_i q0 rfl, cell_i q0 rfl, cell_i q0 rfl, fun k hk => cell_i q1 (argsT_at k hk), fun k hk => cell_i q2 (blocksT_at k hk)⟩⟩
  clear H0 H1 H2
  by_cases h1 : t.kind < 1
  · have HF : Hd (r = false) := ⟨by rw [← HR.out, termR]; simp [show ¬ (1 ≤ t.kind) by omega]⟩
    refine wp_region_quiet (C := fun w' => Mod (fun _ => False) W3 w') (by kernel_rfl) (by kernel_rfl) (Mod.drew _ _) ?_
    simp only [List.toList_toArray]
    go_big_quiet_want
    refine ⟨.pointer (some ⟨b0, 1, none⟩), fun w hw => ?_, ?_⟩
    · obtain ⟨c1, c2, c3, c4, c5, c6, c7, c8, c9⟩ := HSF.out w hw
      unfold Oper.quietAt
      go_simp
    go_big_quiet_on
    simp only [Act.put, List.setIfInBounds_toArray, List.set_cons_zero, List.set_cons_succ]
    go_big_quiet_want
    refine ⟨.int .i64 t.kind, fun w hw => ?_, ?_⟩
    · obtain ⟨c1, c2, c3, c4, c5, c6, c7, c8, c9⟩ := HSF.out w hw
      unfold Oper.quietAt
      go_simp
    go_big_quiet_on
    simp only [Act.put, List.setIfInBounds_toArray, List.set_cons_zero, List.set_cons_succ]
    go_big_quiet_want
    refine ⟨.bool true, fun w hw => ?_, ?_⟩
    · obtain ⟨c1, c2, c3, c4, c5, c6, c7, c8, c9⟩ := HSF.out w hw
      unfold Oper.quietAt
      go_simp
    go_big_quiet_on
    simp only [Act.put, List.setIfInBounds_toArray, List.set_cons_zero, List.set_cons_succ]
    go_big_quiet_want
    refine ⟨.bool true, fun w hw => ?_, ?_⟩
    · obtain ⟨c1, c2, c3, c4, c5, c6, c7, c8, c9⟩ := HSF.out w hw
      unfold Oper.quietAt
      go_simp
    go_big_quiet_on
    simp only [Act.put, List.setIfInBounds_toArray, List.set_cons_zero, List.set_cons_succ]
    go_big_quiet_skip
    go_big_quiet_skip
    go_big_quiet_skip
    go_big_quiet_want
    refine ⟨.bool true, fun w hw => ?_, ?_⟩
    · obtain ⟨c1, c2, c3, c4, c5, c6, c7, c8, c9⟩ := HSF.out w hw
      unfold Oper.quietAt
      go_simp
    go_big_quiet_on
    simp only [Act.put, List.setIfInBounds_toArray, List.set_cons_zero, List.set_cons_succ]
    go_big_quiet_want
    refine ⟨.bool true, fun w hw => ?_, ?_⟩
    · obtain ⟨c1, c2, c3, c4, c5, c6, c7, c8, c9⟩ := HSF.out w hw
      unfold Oper.quietAt
      go_simp
    go_big_quiet_on
    simp only [Act.put, List.setIfInBounds_toArray, List.set_cons_zero, List.set_cons_succ]
    go_big_quiet_skip
    go_big_quiet_skip
    go_big_quiet_skip
    go_big_quiet_skip
    go_big_quiet_skip
    go_big_quiet_skip
    go_big_quiet_skip
    go_big_quiet_skip
    go_big_quiet_want
    refine ⟨.bool true, fun w hw => ?_, ?_⟩
    · obtain ⟨c1, c2, c3, c4, c5, c6, c7, c8, c9⟩ := HSF.out w hw
      unfold Oper.quietAt
      go_simp
    go_big_quiet_on
    simp only [Act.put, List.setIfInBounds_toArray, List.set_cons_zero, List.set_cons_succ]
    refine wpQuiet_nil ?_
    intro wd hwd
    have HD : Hd _ := ⟨hwd⟩
    clear hwd
    go_wp2
    go_ret
    exact ⟨by rw [HF.out]; rfl, HMW.out.trans HD.out (fun _ h => Or.inl h)⟩
  by_cases h2 : 7 < t.kind
  · have HF : Hd (r = false) := ⟨by rw [← HR.out, termR]; simp [show ¬ (t.kind ≤ 7) by omega]⟩
    refine wp_region_quiet (C := fun w' => Mod (fun _ => False) W3 w') (by kernel_rfl) (by kernel_rfl) (Mod.drew _ _) ?_
    simp only [List.toList_toArray]
    go_big_quiet_want
    refine ⟨.pointer (some ⟨b0, 1, none⟩), fun w hw => ?_, ?_⟩
    · obtain ⟨c1, c2, c3, c4, c5, c6, c7, c8, c9⟩ := HSF.out w hw
      unfold Oper.quietAt
      go_simp
    go_big_quiet_on
    simp only [Act.put, List.setIfInBounds_toArray, List.set_cons_zero, List.set_cons_succ]
    go_big_quiet_want
    refine ⟨.int .i64 t.kind, fun w hw => ?_, ?_⟩
    · obtain ⟨c1, c2, c3, c4, c5, c6, c7, c8, c9⟩ := HSF.out w hw
      unfold Oper.quietAt
      go_simp
    go_big_quiet_on
    simp only [Act.put, List.setIfInBounds_toArray, List.set_cons_zero, List.set_cons_succ]
    go_big_quiet_want
    refine ⟨.bool false, fun w hw => ?_, ?_⟩
    · obtain ⟨c1, c2, c3, c4, c5, c6, c7, c8, c9⟩ := HSF.out w hw
      unfold Oper.quietAt
      go_simp
    go_big_quiet_on
    simp only [Act.put, List.setIfInBounds_toArray, List.set_cons_zero, List.set_cons_succ]
    go_big_quiet_want
    refine ⟨.bool false, fun w hw => ?_, ?_⟩
    · obtain ⟨c1, c2, c3, c4, c5, c6, c7, c8, c9⟩ := HSF.out w hw
      unfold Oper.quietAt
      go_simp
    go_big_quiet_on
    simp only [Act.put, List.setIfInBounds_toArray, List.set_cons_zero, List.set_cons_succ]
    go_big_quiet_want
    refine ⟨.pointer (some ⟨b0, 1, none⟩), fun w hw => ?_, ?_⟩
    · obtain ⟨c1, c2, c3, c4, c5, c6, c7, c8, c9⟩ := HSF.out w hw
      unfold Oper.quietAt
      go_simp
    go_big_quiet_on
    simp only [Act.put, List.setIfInBounds_toArray, List.set_cons_zero, List.set_cons_succ]
    go_big_quiet_want
    refine ⟨.int .i64 t.kind, fun w hw => ?_, ?_⟩
    · obtain ⟨c1, c2, c3, c4, c5, c6, c7, c8, c9⟩ := HSF.out w hw
      unfold Oper.quietAt
      go_simp
    go_big_quiet_on
    simp only [Act.put, List.setIfInBounds_toArray, List.set_cons_zero, List.set_cons_succ]
    go_big_quiet_want
    refine ⟨.bool true, fun w hw => ?_, ?_⟩
    · obtain ⟨c1, c2, c3, c4, c5, c6, c7, c8, c9⟩ := HSF.out w hw
      unfold Oper.quietAt
      go_simp
    go_big_quiet_on
    simp only [Act.put, List.setIfInBounds_toArray, List.set_cons_zero, List.set_cons_succ]
    go_big_quiet_want
    refine ⟨.bool true, fun w hw => ?_, ?_⟩
    · obtain ⟨c1, c2, c3, c4, c5, c6, c7, c8, c9⟩ := HSF.out w hw
      unfold Oper.quietAt
      go_simp
    go_big_quiet_on
    simp only [Act.put, List.setIfInBounds_toArray, List.set_cons_zero, List.set_cons_succ]
    go_big_quiet_want
    refine ⟨.bool true, fun w hw => ?_, ?_⟩
    · obtain ⟨c1, c2, c3, c4, c5, c6, c7, c8, c9⟩ := HSF.out w hw
      unfold Oper.quietAt
      go_simp
    go_big_quiet_on
    simp only [Act.put, List.setIfInBounds_toArray, List.set_cons_zero, List.set_cons_succ]
    go_big_quiet_skip
    go_big_quiet_skip
    go_big_quiet_skip
    go_big_quiet_skip
    go_big_quiet_skip
    go_big_quiet_skip
    go_big_quiet_skip
    go_big_quiet_skip
    go_big_quiet_want
    refine ⟨.bool true, fun w hw => ?_, ?_⟩
    · obtain ⟨c1, c2, c3, c4, c5, c6, c7, c8, c9⟩ := HSF.out w hw
      unfold Oper.quietAt
      go_simp
    go_big_quiet_on
    simp only [Act.put, List.setIfInBounds_toArray, List.set_cons_zero, List.set_cons_succ]
    refine wpQuiet_nil ?_
    intro wd hwd
    have HD : Hd _ := ⟨hwd⟩
    clear hwd
    go_wp2
    go_ret
    exact ⟨by rw [HF.out]; rfl, HMW.out.trans HD.out (fun _ h => Or.inl h)⟩
  obtain ⟨k, hk⟩ : ∃ k : Nat, t.kind = (k : Int) := ⟨t.kind.toNat, by omega⟩
  have hk1 : 1 ≤ k := by omega
  have hk2 : k ≤ 7 := by omega
  have HKT : Hd (t.kind.toNat = k) := ⟨by rw [hk]; rfl⟩
  rw [hk] at HSF h1 h2
  have HKE : Hd _ := ⟨hk⟩
  clear hk
  have k1 : ¬ ((k : Int) < 1) := by omega
  have k2 : ¬ (7 < (k : Int)) := by omega
  have k3 : (k : Int) < 8 := by omega
  have k4 : (0 : Int) ≤ (k : Int) := by omega
  have k5 : k < 8 := by omega
  by_cases hbl : t.blocks.length = blocksT k
  · have HBL : Hd _ := ⟨hbl⟩
    have zb : ((t.blocks.length : Int) != (blocksT k : Int)) = false := by rw [hbl]; simp
    clear hbl
    refine wp_region_quiet (C := fun w' => Mod (fun _ => False) W3 w') (by kernel_rfl) (by kernel_rfl) (Mod.drew _ _) ?_
    simp only [List.toList_toArray]
    go_big_quiet_want
    refine ⟨.pointer (some ⟨b0, 1, none⟩), fun w hw => ?_, ?_⟩
    · obtain ⟨c1, c2, c3, c4, c5, c6, c7, c8, c9⟩ := HSF.out w hw
      unfold Oper.quietAt
      go_simp
    go_big_quiet_on
    simp only [Act.put, List.setIfInBounds_toArray, List.set_cons_zero, List.set_cons_succ]
    go_big_quiet_want
    refine ⟨.int .i64 (k : Int), fun w hw => ?_, ?_⟩
    · obtain ⟨c1, c2, c3, c4, c5, c6, c7, c8, c9⟩ := HSF.out w hw
      unfold Oper.quietAt
      go_simp
    go_big_quiet_on
    simp only [Act.put, List.setIfInBounds_toArray, List.set_cons_zero, List.set_cons_succ]
    go_big_quiet_want
    refine ⟨.bool false, fun w hw => ?_, ?_⟩
    · obtain ⟨c1, c2, c3, c4, c5, c6, c7, c8, c9⟩ := HSF.out w hw
      unfold Oper.quietAt
      go_simp
    go_big_quiet_on
    simp only [Act.put, List.setIfInBounds_toArray, List.set_cons_zero, List.set_cons_succ]
    go_big_quiet_want
    refine ⟨.bool false, fun w hw => ?_, ?_⟩
    · obtain ⟨c1, c2, c3, c4, c5, c6, c7, c8, c9⟩ := HSF.out w hw
      unfold Oper.quietAt
      go_simp
    go_big_quiet_on
    simp only [Act.put, List.setIfInBounds_toArray, List.set_cons_zero, List.set_cons_succ]
    go_big_quiet_want
    refine ⟨.pointer (some ⟨b0, 1, none⟩), fun w hw => ?_, ?_⟩
    · obtain ⟨c1, c2, c3, c4, c5, c6, c7, c8, c9⟩ := HSF.out w hw
      unfold Oper.quietAt
      go_simp
    go_big_quiet_on
    simp only [Act.put, List.setIfInBounds_toArray, List.set_cons_zero, List.set_cons_succ]
    go_big_quiet_want
    refine ⟨.int .i64 (k : Int), fun w hw => ?_, ?_⟩
    · obtain ⟨c1, c2, c3, c4, c5, c6, c7, c8, c9⟩ := HSF.out w hw
      unfold Oper.quietAt
      go_simp
    go_big_quiet_on
    simp only [Act.put, List.setIfInBounds_toArray, List.set_cons_zero, List.set_cons_succ]
    go_big_quiet_want
    refine ⟨.bool false, fun w hw => ?_, ?_⟩
    · obtain ⟨c1, c2, c3, c4, c5, c6, c7, c8, c9⟩ := HSF.out w hw
      unfold Oper.quietAt
      go_simp
    go_big_quiet_on
    simp only [Act.put, List.setIfInBounds_toArray, List.set_cons_zero, List.set_cons_succ]
    go_big_quiet_want
    refine ⟨.bool false, fun w hw => ?_, ?_⟩
    · obtain ⟨c1, c2, c3, c4, c5, c6, c7, c8, c9⟩ := HSF.out w hw
      unfold Oper.quietAt
      go_simp
    go_big_quiet_on
    simp only [Act.put, List.setIfInBounds_toArray, List.set_cons_zero, List.set_cons_succ]
    go_big_quiet_want
    refine ⟨.bool false, fun w hw => ?_, ?_⟩
    · obtain ⟨c1, c2, c3, c4, c5, c6, c7, c8, c9⟩ := HSF.out w hw
      unfold Oper.quietAt
      go_simp
    go_big_quiet_on
    simp only [Act.put, List.setIfInBounds_toArray, List.set_cons_zero, List.set_cons_succ]
    go_big_quiet_want
    refine ⟨.pointer (some ⟨b0, 6, none⟩), fun w hw => ?_, ?_⟩
    · obtain ⟨c1, c2, c3, c4, c5, c6, c7, c8, c9⟩ := HSF.out w hw
      unfold Oper.quietAt
      go_simp
    go_big_quiet_on
    simp only [Act.put, List.setIfInBounds_toArray, List.set_cons_zero, List.set_cons_succ]
    go_big_quiet_want
    refine ⟨.slice oc t.blocks.length cc, fun w hw => ?_, ?_⟩
    · obtain ⟨c1, c2, c3, c4, c5, c6, c7, c8, c9⟩ := HSF.out w hw
      unfold Oper.quietAt
      go_simp
    go_big_quiet_on
    simp only [Act.put, List.setIfInBounds_toArray, List.set_cons_zero, List.set_cons_succ]
    go_big_quiet_want
    refine ⟨.int .i64 (t.blocks.length : Int), fun w hw => ?_, ?_⟩
    · obtain ⟨c1, c2, c3, c4, c5, c6, c7, c8, c9⟩ := HSF.out w hw
      unfold Oper.quietAt
      go_simp
    go_big_quiet_on
    simp only [Act.put, List.setIfInBounds_toArray, List.set_cons_zero, List.set_cons_succ]
    go_big_quiet_want
    refine ⟨.pointer (some ⟨b0, 1, none⟩), fun w hw => ?_, ?_⟩
    · obtain ⟨c1, c2, c3, c4, c5, c6, c7, c8, c9⟩ := HSF.out w hw
      unfold Oper.quietAt
      go_simp
    go_big_quiet_on
    simp only [Act.put, List.setIfInBounds_toArray, List.set_cons_zero, List.set_cons_succ]
    go_big_quiet_want
    refine ⟨.int .i64 (k : Int), fun w hw => ?_, ?_⟩
    · obtain ⟨c1, c2, c3, c4, c5, c6, c7, c8, c9⟩ := HSF.out w hw
      unfold Oper.quietAt
      go_simp
    go_big_quiet_on
    simp only [Act.put, List.setIfInBounds_toArray, List.set_cons_zero, List.set_cons_succ]
    go_big_quiet_want
    refine ⟨.pointer (some ⟨b2, k, none⟩), fun w hw => ?_, ?_⟩
    · obtain ⟨c1, c2, c3, c4, c5, c6, c7, c8, c9⟩ := HSF.out w hw
      unfold Oper.quietAt
      go_simp
    go_big_quiet_on
    simp only [Act.put, List.setIfInBounds_toArray, List.set_cons_zero, List.set_cons_succ]
    go_big_quiet_want
    refine ⟨.int .i64 (blocksT k : Int), fun w hw => ?_, ?_⟩
    · obtain ⟨c1, c2, c3, c4, c5, c6, c7, c8, c9⟩ := HSF.out w hw
      unfold Oper.quietAt
      go_simp
    go_big_quiet_on
    simp only [Act.put, List.setIfInBounds_toArray, List.set_cons_zero, List.set_cons_succ]
    go_big_quiet_want
    refine ⟨.bool false, fun w hw => ?_, ?_⟩
    · obtain ⟨c1, c2, c3, c4, c5, c6, c7, c8, c9⟩ := HSF.out w hw
      unfold Oper.quietAt
      go_simp
    go_big_quiet_on
    simp only [Act.put, List.setIfInBounds_toArray, List.set_cons_zero, List.set_cons_succ]
    go_big_quiet_want
    refine ⟨.bool false, fun w hw => ?_, ?_⟩
    · obtain ⟨c1, c2, c3, c4, c5, c6, c7, c8, c9⟩ := HSF.out w hw
      unfold Oper.quietAt
      go_simp
    go_big_quiet_on
    simp only [Act.put, List.setIfInBounds_toArray, List.set_cons_zero, List.set_cons_succ]
    refine wpQuiet_nil ?_
    intro wd hwd
    have HD : Hd _ := ⟨hwd⟩
    clear hwd
    by_cases hc : k = 5
    · subst hc
      have HPK : Hd (∀ w', Mod (fun _ => False) W3 w' → Calls Tryz.prog 153 #[.slice ob t.args.length cb, .int .i64 0, .int .i64 (argsT 5 : Int)] w' fun e w'' => e = .returned (.bool (placesOk t.args 0 (argsT 5))) ∧ Mod (fun _ => False) w' w'') := ⟨fun w' h => rplaces_ans HAG.out 0 (argsT 5) (by omega) (argsT_le _ (by omega)) w' (HK3.out.trans h (fun _ h => Or.inl h))⟩
      have HON : Hd (∀ w', Mod (fun _ => False) W3 w' → _) := ⟨fun w' h => rnamed_ans HNM.out true w' (HK3.out.trans h (fun _ h => Or.inl h))⟩
      have HTO : Hd (∀ w', Mod (fun _ => False) W3 w' → _) := ⟨fun w' h => rPlace_ans HPD.out w' (HK3.out.trans h (fun _ h => Or.inl h))⟩
      obtain ⟨q, hq⟩ : ∃ q, placesOk t.args 0 (argsT 5) = q := ⟨_, rfl⟩
      obtain ⟨qn, hqn⟩ : ∃ q, namedI t.name true = q := ⟨_, rfl⟩
      obtain ⟨qt, hqt⟩ : ∃ q, placeI t.dest = q := ⟨_, rfl⟩
      have HRC : Hd (r = (q && qn && qt && t.blocks.all nmOk && t.arms.all armI && decide (t.arms.length = 0))) := ⟨by
        rw [← HR.out, ← hq, ← hqn, ← hqt, termR, HKT.out, HBL.out, HKE.out]
        simp [leastT]⟩
      rw [hq] at HPK
      rw [hqn] at HON
      rw [hqt] at HTO
      clear hq hqn hqt
      obtain ⟨c1, c2, c3, c4, c5, c6, c7, c8, c9⟩ := HSF.out wd HD.out
      have a8 := c8 5 (by omega)
      repeat (go_not_at_region 9; first | go_values | go_skip | go_guarded | go_step | go_upon | go_back)
      clear a8 c8 c9
      clear c1 c2 c3 c4 c5 c6 c7
      cases q with
      | false =>
        refine wp_region_quiet (C := fun w' => Mod (fun _ => False) W3 w') (by kernel_rfl) (by kernel_rfl) (HD.out.trans (Mod.drew _ _) (fun _ h => Or.inl h)) ?_
        simp only [List.toList_toArray]
        go_big_quiet_want
        refine ⟨.pointer (some ⟨b0, 5, none⟩), fun w hw => ?_, ?_⟩
        · obtain ⟨c1, c2, c3, c4, c5, c6, c7, c8, c9⟩ := HSF.out w hw
          unfold Oper.quietAt
          go_simp
        go_big_quiet_on
        simp only [Act.put, List.setIfInBounds_toArray, List.set_cons_zero, List.set_cons_succ]
        go_big_quiet_want
        refine ⟨.slice ob t.args.length cb, fun w hw => ?_, ?_⟩
        · obtain ⟨c1, c2, c3, c4, c5, c6, c7, c8, c9⟩ := HSF.out w hw
          unfold Oper.quietAt
          go_simp
        go_big_quiet_on
        simp only [Act.put, List.setIfInBounds_toArray, List.set_cons_zero, List.set_cons_succ]
        go_big_quiet_want
        refine ⟨.int .i64 0, fun w hw => ?_, ?_⟩
        · obtain ⟨c1, c2, c3, c4, c5, c6, c7, c8, c9⟩ := HSF.out w hw
          unfold Oper.quietAt
          go_simp
        go_big_quiet_on
        simp only [Act.put, List.setIfInBounds_toArray, List.set_cons_zero, List.set_cons_succ]
        go_big_quiet_want
        refine ⟨.pointer (some ⟨b0, 1, none⟩), fun w hw => ?_, ?_⟩
        · obtain ⟨c1, c2, c3, c4, c5, c6, c7, c8, c9⟩ := HSF.out w hw
          unfold Oper.quietAt
          go_simp
        go_big_quiet_on
        simp only [Act.put, List.setIfInBounds_toArray, List.set_cons_zero, List.set_cons_succ]
        go_big_quiet_want
        refine ⟨.int .i64 5, fun w hw => ?_, ?_⟩
        · obtain ⟨c1, c2, c3, c4, c5, c6, c7, c8, c9⟩ := HSF.out w hw
          unfold Oper.quietAt
          go_simp
        go_big_quiet_on
        simp only [Act.put, List.setIfInBounds_toArray, List.set_cons_zero, List.set_cons_succ]
        go_big_quiet_want
        refine ⟨.pointer (some ⟨b1, 5, none⟩), fun w hw => ?_, ?_⟩
        · obtain ⟨c1, c2, c3, c4, c5, c6, c7, c8, c9⟩ := HSF.out w hw
          unfold Oper.quietAt
          go_simp
        go_big_quiet_on
        simp only [Act.put, List.setIfInBounds_toArray, List.set_cons_zero, List.set_cons_succ]
        go_big_quiet_want
        refine ⟨.int .i64 (argsT 5 : Int), fun w hw => ?_, ?_⟩
        · obtain ⟨c1, c2, c3, c4, c5, c6, c7, c8, c9⟩ := HSF.out w hw
          unfold Oper.quietAt
          go_simp
        go_big_quiet_on
        simp only [Act.put, List.setIfInBounds_toArray, List.set_cons_zero, List.set_cons_succ]
        go_big_quiet_want
        refine ⟨.bool false, fun w hw => ?_, ?_⟩
        · unfold Oper.quietAt
          go_simp
          refine (Calls.at' (HPK.out w hw) (by with_reducible rfl)).mono ?_
          rintro e w2 ⟨rfl, hM⟩
          exact ⟨rfl, hw.trans hM (fun _ h => Or.inl h)⟩
        go_big_quiet_on
        simp only [Act.put, List.setIfInBounds_toArray, List.set_cons_zero, List.set_cons_succ]
        go_big_quiet_want
        refine ⟨.bool true, fun w hw => ?_, ?_⟩
        · obtain ⟨c1, c2, c3, c4, c5, c6, c7, c8, c9⟩ := HSF.out w hw
          unfold Oper.quietAt
          go_simp
        go_big_quiet_on
        simp only [Act.put, List.setIfInBounds_toArray, List.set_cons_zero, List.set_cons_succ]
        go_big_quiet_want
        refine ⟨.bool true, fun w hw => ?_, ?_⟩
        · obtain ⟨c1, c2, c3, c4, c5, c6, c7, c8, c9⟩ := HSF.out w hw
          unfold Oper.quietAt
          go_simp
        go_big_quiet_on
        simp only [Act.put, List.setIfInBounds_toArray, List.set_cons_zero, List.set_cons_succ]
        go_big_quiet_skip
        go_big_quiet_skip
        go_big_quiet_skip
        go_big_quiet_skip
        go_big_quiet_skip
        go_big_quiet_want
        refine ⟨.bool true, fun w hw => ?_, ?_⟩
        · obtain ⟨c1, c2, c3, c4, c5, c6, c7, c8, c9⟩ := HSF.out w hw
          unfold Oper.quietAt
          go_simp
        go_big_quiet_on
        simp only [Act.put, List.setIfInBounds_toArray, List.set_cons_zero, List.set_cons_succ]
        refine wpQuiet_nil ?_
        intro wd hwd
        have HE : Hd _ := ⟨hwd⟩
        clear hwd
        have HF : Hd (r = false) := ⟨by rw [HRC.out]; simp []⟩
        go_wp2
        go_ret
        exact ⟨by rw [HF.out]; rfl, HMW.out.trans HE.out (fun _ h => Or.inl h)⟩
      | true =>
        refine wp_region_quiet (C := fun w' => Mod (fun _ => False) W3 w') (by kernel_rfl) (by kernel_rfl) (HD.out.trans (Mod.drew _ _) (fun _ h => Or.inl h)) ?_
        simp only [List.toList_toArray]
        go_big_quiet_want
        refine ⟨.pointer (some ⟨b0, 5, none⟩), fun w hw => ?_, ?_⟩
        · obtain ⟨c1, c2, c3, c4, c5, c6, c7, c8, c9⟩ := HSF.out w hw
          unfold Oper.quietAt
          go_simp
        go_big_quiet_on
        simp only [Act.put, List.setIfInBounds_toArray, List.set_cons_zero, List.set_cons_succ]
        go_big_quiet_want
        refine ⟨.slice ob t.args.length cb, fun w hw => ?_, ?_⟩
        · obtain ⟨c1, c2, c3, c4, c5, c6, c7, c8, c9⟩ := HSF.out w hw
          unfold Oper.quietAt
          go_simp
        go_big_quiet_on
        simp only [Act.put, List.setIfInBounds_toArray, List.set_cons_zero, List.set_cons_succ]
        go_big_quiet_want
        refine ⟨.int .i64 0, fun w hw => ?_, ?_⟩
        · obtain ⟨c1, c2, c3, c4, c5, c6, c7, c8, c9⟩ := HSF.out w hw
          unfold Oper.quietAt
          go_simp
        go_big_quiet_on
        simp only [Act.put, List.setIfInBounds_toArray, List.set_cons_zero, List.set_cons_succ]
        go_big_quiet_want
        refine ⟨.pointer (some ⟨b0, 1, none⟩), fun w hw => ?_, ?_⟩
        · obtain ⟨c1, c2, c3, c4, c5, c6, c7, c8, c9⟩ := HSF.out w hw
          unfold Oper.quietAt
          go_simp
        go_big_quiet_on
        simp only [Act.put, List.setIfInBounds_toArray, List.set_cons_zero, List.set_cons_succ]
        go_big_quiet_want
        refine ⟨.int .i64 5, fun w hw => ?_, ?_⟩
        · obtain ⟨c1, c2, c3, c4, c5, c6, c7, c8, c9⟩ := HSF.out w hw
          unfold Oper.quietAt
          go_simp
        go_big_quiet_on
        simp only [Act.put, List.setIfInBounds_toArray, List.set_cons_zero, List.set_cons_succ]
        go_big_quiet_want
        refine ⟨.pointer (some ⟨b1, 5, none⟩), fun w hw => ?_, ?_⟩
        · obtain ⟨c1, c2, c3, c4, c5, c6, c7, c8, c9⟩ := HSF.out w hw
          unfold Oper.quietAt
          go_simp
        go_big_quiet_on
        simp only [Act.put, List.setIfInBounds_toArray, List.set_cons_zero, List.set_cons_succ]
        go_big_quiet_want
        refine ⟨.int .i64 (argsT 5 : Int), fun w hw => ?_, ?_⟩
        · obtain ⟨c1, c2, c3, c4, c5, c6, c7, c8, c9⟩ := HSF.out w hw
          unfold Oper.quietAt
          go_simp
        go_big_quiet_on
        simp only [Act.put, List.setIfInBounds_toArray, List.set_cons_zero, List.set_cons_succ]
        go_big_quiet_want
        refine ⟨.bool true, fun w hw => ?_, ?_⟩
        · unfold Oper.quietAt
          go_simp
          refine (Calls.at' (HPK.out w hw) (by with_reducible rfl)).mono ?_
          rintro e w2 ⟨rfl, hM⟩
          exact ⟨rfl, hw.trans hM (fun _ h => Or.inl h)⟩
        go_big_quiet_on
        simp only [Act.put, List.setIfInBounds_toArray, List.set_cons_zero, List.set_cons_succ]
        go_big_quiet_want
        refine ⟨.bool false, fun w hw => ?_, ?_⟩
        · obtain ⟨c1, c2, c3, c4, c5, c6, c7, c8, c9⟩ := HSF.out w hw
          unfold Oper.quietAt
          go_simp
        go_big_quiet_on
        simp only [Act.put, List.setIfInBounds_toArray, List.set_cons_zero, List.set_cons_succ]
        go_big_quiet_want
        refine ⟨.bool false, fun w hw => ?_, ?_⟩
        · obtain ⟨c1, c2, c3, c4, c5, c6, c7, c8, c9⟩ := HSF.out w hw
          unfold Oper.quietAt
          go_simp
        go_big_quiet_on
        simp only [Act.put, List.setIfInBounds_toArray, List.set_cons_zero, List.set_cons_succ]
        go_big_quiet_want
        refine ⟨.pointer (some ⟨b0, 4, none⟩), fun w hw => ?_, ?_⟩
        · obtain ⟨c1, c2, c3, c4, c5, c6, c7, c8, c9⟩ := HSF.out w hw
          unfold Oper.quietAt
          go_simp
        go_big_quiet_on
        simp only [Act.put, List.setIfInBounds_toArray, List.set_cons_zero, List.set_cons_succ]
        go_big_quiet_want
        refine ⟨.string t.name, fun w hw => ?_, ?_⟩
        · obtain ⟨c1, c2, c3, c4, c5, c6, c7, c8, c9⟩ := HSF.out w hw
          unfold Oper.quietAt
          go_simp
        go_big_quiet_on
        simp only [Act.put, List.setIfInBounds_toArray, List.set_cons_zero, List.set_cons_succ]
        go_big_quiet_want
        refine ⟨.bool true, fun w hw => ?_, ?_⟩
        · obtain ⟨c1, c2, c3, c4, c5, c6, c7, c8, c9⟩ := HSF.out w hw
          unfold Oper.quietAt
          go_simp
        go_big_quiet_on
        simp only [Act.put, List.setIfInBounds_toArray, List.set_cons_zero, List.set_cons_succ]
        go_big_quiet_want
        refine ⟨.bool qn, fun w hw => ?_, ?_⟩
        · unfold Oper.quietAt
          go_simp
          refine (Calls.at' (HON.out w hw) (by with_reducible rfl)).mono ?_
          rintro e w2 ⟨rfl, hM⟩
          exact ⟨rfl, hw.trans hM (fun _ h => Or.inl h)⟩
        go_big_quiet_on
        simp only [Act.put, List.setIfInBounds_toArray, List.set_cons_zero, List.set_cons_succ]
        go_big_quiet_want
        refine ⟨.bool (!qn), fun w hw => ?_, ?_⟩
        · obtain ⟨c1, c2, c3, c4, c5, c6, c7, c8, c9⟩ := HSF.out w hw
          unfold Oper.quietAt
          go_simp
        go_big_quiet_on
        simp only [Act.put, List.setIfInBounds_toArray, List.set_cons_zero, List.set_cons_succ]
        go_big_quiet_want
        refine ⟨.bool (!qn), fun w hw => ?_, ?_⟩
        · obtain ⟨c1, c2, c3, c4, c5, c6, c7, c8, c9⟩ := HSF.out w hw
          unfold Oper.quietAt
          go_simp
        go_big_quiet_on
        simp only [Act.put, List.setIfInBounds_toArray, List.set_cons_zero, List.set_cons_succ]
        refine wpQuiet_nil ?_
        intro wd hwd
        have HE : Hd _ := ⟨hwd⟩
        clear hwd
        cases qn with
        | false =>
          have HF : Hd (r = false) := ⟨by rw [HRC.out]; simp []⟩
          go_wp2
          go_ret
          exact ⟨by rw [HF.out]; rfl, HMW.out.trans HE.out (fun _ h => Or.inl h)⟩
        | true =>
          obtain ⟨c1, c2, c3, c4, c5, c6, c7, _, _⟩ := HSF.out wd HE.out
          go_wp2_with fail
          refine (HTO.out wd HE.out).mono ?_
          rintro e w5 ⟨rfl, hM5⟩
          have H5 : Hd (Mod (fun _ => False) W3 w5) := ⟨HE.out.trans hM5 (fun _ h => Or.inl h)⟩
          clear hM5 HTO
          cases qt with
          | false =>
            have HF : Hd (r = false) := ⟨by rw [HRC.out]; simp []⟩
            go_wp2
            go_ret
            exact ⟨by rw [HF.out]; rfl, HMW.out.trans H5.out (fun _ h => Or.inl h)⟩
          | true =>
            have HRC2 : Hd (r = (t.blocks.all nmOk && t.arms.all armI && decide (t.arms.length = 0))) := ⟨by rw [HRC.out]; simp⟩
            clear HRC HON
            clear c1 c2 c3 c4 c5 c6 c7
            obtain ⟨c1, c2, c3, c4, c5, c6, c7, _, _⟩ := HSF.out w5 H5.out
            go_wp2_with fail
            clear c1 c2 c3 c4 c5 c6 c7
            go_loopg [7] t.blocks.length (fun gk v7 wr => Hd (Mod (fun _ => False) W3 wr) ∧ ∃ i : Nat, v7 = .int .i64 i ∧ i + gk = t.blocks.length ∧ Hd ((t.blocks.drop i).all nmOk = t.blocks.all nmOk))
            case atStart => exact ⟨H5, 0, rfl, by omega, ⟨rfl⟩⟩
            case round =>
              obtain ⟨HM, i, rfl, hi, HI⟩ := hrel
              obtain ⟨c1, c2, c3, c4, c5, c6, c7, _, _⟩ := HSF.out wr HM.out
              by_cases hlt : i < t.blocks.length
              · have hx0 : t.blocks[i]? = some t.blocks[i] := List.getElem?_eq_getElem (by omega)
                obtain ⟨x, hx⟩ : ∃ x, t.blocks[i]? = some x := ⟨_, hx0⟩
                obtain ⟨b, o, rfl, _, _, e0, hs⟩ := HBK.out.str hx
                have d0 := (HK3.out.trans HM.out (fun _ h => Or.inl h)).cell' e0
                have HNA : Hd (∀ w, _) := ⟨fun w => rName_calls x hs.2 w⟩
                have HIT : Hd (nmOk x = true → (t.blocks.drop (i + 1)).all nmOk = t.blocks.all nmOk) := ⟨fun h => by rw [← HI.out, all_hit hx h]⟩
                have HIF : Hd (nmOk x = false → t.blocks.all nmOk = false) := ⟨fun h => by rw [← HI.out, all_miss hx h]⟩
                have HV : Hd (nmOk x = isName (lst x)) := ⟨rfl⟩
                clear hx hx0 e0 hs
                obtain ⟨qn, hqn⟩ : ∃ q, isName (lst x) = q := ⟨_, rfl⟩
                rw [hqn] at HNA HV
                clear hqn
                go_wp2_with fail
                refine (HNA.out _).mono ?_
                rintro e w9 ⟨rfl, hM9⟩
                have HM9 : Hd (Mod (fun _ => False) W3 w9) := ⟨HM.out.trans hM9 (fun _ h => Or.inl h)⟩
                clear hM9 HNA d0
                cases qn with
                | false =>
                  have HF : Hd (r = false) := ⟨by rw [HRC2.out, HIF.out HV.out]; rfl⟩
                  go_wp2
                  go_ret
                  exact ⟨by rw [HF.out]; rfl, HMW.out.trans HM9.out (fun _ h => Or.inl h)⟩
                | true =>
                  have HI2 : Hd _ := ⟨HIT.out HV.out⟩
                  go_wp2_with fail
                  go_roundg (gk - 1)
                  case measure => omega
                  case rel => exact ⟨HM9, i + 1, by go_num, by omega, HI2⟩
              · have HAB : Hd (t.blocks.all nmOk = true) := ⟨by rw [← HI.out]; exact all_end (by omega)⟩
                have HRC3 : Hd (r = (t.arms.all armI && decide (t.arms.length = 0))) := ⟨by rw [HRC2.out, HAB.out, Bool.true_and]⟩
                clear HAB HI HRC2
                obtain ⟨W5, HW5⟩ : ∃ W5, Hd (W5 = wr) := ⟨_, ⟨rfl⟩⟩
                go_wp2_with fail
                clear c1 c2 c3 c4 c5 c6 c7
                go_loopg [8] t.arms.length (fun gk v8 wr => Hd (Mod (fun _ => False) W3 wr) ∧ ∃ i : Nat, v8 = .int .i64 i ∧ i + gk = t.arms.length ∧ Hd ((t.arms.drop i).all armI = t.arms.all armI))
                case atStart => exact ⟨HM, 0, rfl, by omega, ⟨rfl⟩⟩
                case round =>
                  clear HM hi hlt
                  obtain ⟨HM, i, rfl, hi, HI⟩ := hrel
                  obtain ⟨c1, c2, c3, c4, c5, c6, c7, _, _⟩ := HSF.out wr HM.out
                  by_cases hlt : i < t.arms.length
                  · have hx0 : t.arms[i]? = some t.arms[i] := List.getElem?_eq_getElem (by omega)
                    obtain ⟨x, hx⟩ : ∃ x, t.arms[i]? = some x := ⟨_, hx0⟩
                    obtain ⟨b, o, rfl, _, _, e0, e1, e2, _, hs1, hs2, hs3⟩ := HAR.out.arm hx
                    have hkk := HK3.out.trans HM.out (fun _ h => Or.inl h)
                    have d0 := hkk.cell' e0
                    have d1 := hkk.cell' e1
                    have d2 := hkk.cell' e2
                    have HNA : Hd (∀ w, _) := ⟨fun w => rName_calls x.variant hs1 w⟩
                    have HNB : Hd (∀ w, _) := ⟨fun w => rName_calls x.block hs3 w⟩
                    have HNC : Hd (∀ w, _) := ⟨fun w => rName_calls x.loc hs2 w⟩
                    have HIT : Hd (armI x = true → (t.arms.drop (i + 1)).all armI = t.arms.all armI) := ⟨fun h => by rw [← HI.out, all_hit hx h]⟩
                    have HIF : Hd (armI x = false → r = false) := ⟨fun h => by rw [HRC3.out, ← HI.out, all_miss hx h]; rfl⟩
                    have HV : Hd (armI x = (isName (lst x.variant) && isName (lst x.block) && (emp x.loc || isName (lst x.loc)))) := ⟨rfl⟩
                    clear hx hx0 e0 e1 e2 hs1 hs2 hs3 hkk
                    obtain ⟨qa, hqa⟩ : ∃ q, isName (lst x.variant) = q := ⟨_, rfl⟩
                    obtain ⟨qb, hqb⟩ : ∃ q, isName (lst x.block) = q := ⟨_, rfl⟩
                    obtain ⟨qc, hqc⟩ : ∃ q, isName (lst x.loc) = q := ⟨_, rfl⟩
                    rw [hqa] at HNA HV
                    rw [hqb] at HNB HV
                    rw [hqc] at HNC HV
                    clear hqa hqb hqc
                    have HX : Hd (∀ w', Mod (fun _ => False) (wr.alloc (.cells #[.string x.variant, .string x.loc, .string x.block] 94)) w' → w'.cell? ⟨wr.heap.size, 0, none⟩ = some (.string x.variant) ∧ w'.cell? ⟨wr.heap.size, 1, none⟩ = some (.string x.loc) ∧ w'.cell? ⟨wr.heap.size, 2, none⟩ = some (.string x.block)) := ⟨fun w' h => by
                      have q := (h.block _ (lt1_0 _ _) (fun h => h)).trans (heap_new' _ _)
                      exact ⟨cell_i q rfl, cell_i q rfl, cell_i q rfl⟩⟩
                    have HMA : Hd (Mod (fun _ => False) W3 (wr.alloc (.cells #[.string x.variant, .string x.loc, .string x.block] 94))) := ⟨HM.out.trans (Mod.alloc _ _ _) (fun _ h => Or.inl h)⟩
                    go_wp2_with fail
                    refine (HNA.out _).mono ?_
                    rintro e w9 ⟨rfl, hM9⟩
                    have HM9 : Hd (Mod (fun _ => False) (wr.alloc (.cells #[.string x.variant, .string x.loc, .string x.block] 94)) w9) := ⟨hM9⟩
                    obtain ⟨x0, x1, x2⟩ := HX.out w9 hM9
                    clear hM9 HNA d0 d1 d2
                    cases qa with
                    | false =>
                      have HF : Hd (r = false) := ⟨HIF.out (by rw [HV.out]; simp)⟩
                      go_wp2
                      go_ret
                      exact ⟨by rw [HF.out]; rfl, HMW.out.trans (HMA.out.trans HM9.out (fun _ h => Or.inl h)) (fun _ h => Or.inl h)⟩
                    | true =>
                      go_wp2_with fail
                      refine (HNB.out _).mono ?_
                      rintro e w10 ⟨rfl, hM9⟩
                      have HM10 : Hd (Mod (fun _ => False) (wr.alloc (.cells #[.string x.variant, .string x.loc, .string x.block] 94)) w10) := ⟨HM9.out.trans hM9 (fun _ h => Or.inl h)⟩
                      clear x0 x1 x2
                      obtain ⟨x0, x1, x2⟩ := HX.out w10 HM10.out
                      clear hM9 HNB
                      cases qb with
                      | false =>
                        have HF : Hd (r = false) := ⟨HIF.out (by rw [HV.out]; simp)⟩
                        go_wp2
                        go_ret
                        exact ⟨by rw [HF.out]; rfl, HMW.out.trans (HMA.out.trans HM10.out (fun _ h => Or.inl h)) (fun _ h => Or.inl h)⟩
                      | true =>
                        cases he : emp x.loc with
                        | true =>
                          have HE : Hd _ := ⟨he⟩
                          obtain ⟨he2, he3⟩ := emp_t he
                          clear he
                          have HI2 : Hd _ := ⟨HIT.out (by rw [HV.out]; simp [HE.out])⟩
                          go_wp2_with fail
                          go_roundg (gk - 1)
                          case measure => omega
                          case rel => exact ⟨⟨HMA.out.trans HM10.out (fun _ h => Or.inl h)⟩, i + 1, by go_num, by omega, HI2⟩
                        | false =>
                          have HE : Hd _ := ⟨he⟩
                          obtain ⟨he2, he3⟩ := emp_f he
                          clear he
                          go_wp2_with fail
                          refine (HNC.out _).mono ?_
                          rintro e w11 ⟨rfl, hM9⟩
                          have HM11 : Hd (Mod (fun _ => False) W3 w11) := ⟨HMA.out.trans (HM10.out.trans hM9 (fun _ h => Or.inl h)) (fun _ h => Or.inl h)⟩
                          clear hM9 HNC x0 x1 x2
                          cases qc with
                          | false =>
                            have HF : Hd (r = false) := ⟨HIF.out (by rw [HV.out]; simp [HE.out])⟩
                            go_wp2
                            go_ret
                            exact ⟨by rw [HF.out]; rfl, HMW.out.trans HM11.out (fun _ h => Or.inl h)⟩
                          | true =>
                            have HI2 : Hd _ := ⟨HIT.out (by rw [HV.out]; simp)⟩
                            go_wp2_with fail
                            go_roundg (gk - 1)
                            case measure => omega
                            case rel => exact ⟨HM11, i + 1, by go_num, by omega, HI2⟩
                  · have HAB : Hd (t.arms.all armI = true) := ⟨by rw [← HI.out]; exact all_end (by omega)⟩
                    have HRC4 : Hd (r = decide (t.arms.length = 0)) := ⟨by rw [HRC3.out, HAB.out, Bool.true_and]⟩
                    clear HAB HI HRC3
                    by_cases n0 : t.arms.length = 0
                    · have zn : ((t.arms.length : Int) == 0) = true := by rw [n0]; rfl
                      have HF : Hd (r = true) := ⟨by rw [HRC4.out]; simp [n0]⟩
                      clear n0
                      go_wp2
                      go_ret
                      exact ⟨by rw [HF.out]; rfl, HMW.out.trans HM.out (fun _ h => Or.inl h)⟩
                    · have zn : ((t.arms.length : Int) == 0) = false := by rw [beq_eq_false_iff_ne]; omega
                      have HF : Hd (r = false) := ⟨by rw [HRC4.out]; simp [n0]⟩
                      clear n0
                      go_wp2
                      go_ret
                      exact ⟨by rw [HF.out]; rfl, HMW.out.trans HM.out (fun _ h => Or.inl h)⟩
    have hn5 : ¬ k = 5 := hc
    clear hc
    by_cases hc : k = 6
    · subst hc
      have HPK : Hd (∀ w', Mod (fun _ => False) W3 w' → Calls Tryz.prog 153 #[.slice ob t.args.length cb, .int .i64 0, .int .i64 (argsT 6 : Int)] w' fun e w'' => e = .returned (.bool (placesOk t.args 0 (argsT 6))) ∧ Mod (fun _ => False) w' w'') := ⟨fun w' h => rplaces_ans HAG.out 0 (argsT 6) (by omega) (argsT_le _ (by omega)) w' (HK3.out.trans h (fun _ h => Or.inl h))⟩
      have HON : Hd (∀ w', Mod (fun _ => False) W3 w' → _) := ⟨fun w' h => rnamed_ans HNM.out true w' (HK3.out.trans h (fun _ h => Or.inl h))⟩
      have HTO : Hd (∀ w', Mod (fun _ => False) W3 w' → _) := ⟨fun w' h => rPlace_ans HPD.out w' (HK3.out.trans h (fun _ h => Or.inl h))⟩
      obtain ⟨q, hq⟩ : ∃ q, placesOk t.args 0 (argsT 6) = q := ⟨_, rfl⟩
      obtain ⟨qn, hqn⟩ : ∃ q, namedI t.name true = q := ⟨_, rfl⟩
      obtain ⟨qt, hqt⟩ : ∃ q, placeI t.dest = q := ⟨_, rfl⟩
      have HRC : Hd (r = (q && qn && qt && t.blocks.all nmOk && t.arms.all armI && decide (t.arms.length = 0))) := ⟨by
        rw [← HR.out, ← hq, ← hqn, ← hqt, termR, HKT.out, HBL.out, HKE.out]
        simp [leastT]⟩
      rw [hq] at HPK
      rw [hqn] at HON
      rw [hqt] at HTO
      clear hq hqn hqt
      obtain ⟨c1, c2, c3, c4, c5, c6, c7, c8, c9⟩ := HSF.out wd HD.out
      have a8 := c8 6 (by omega)
      repeat (go_not_at_region 9; first | go_values | go_skip | go_guarded | go_step | go_upon | go_back)
      clear a8 c8 c9
      clear c1 c2 c3 c4 c5 c6 c7
      cases q with
      | false =>
        refine wp_region_quiet (C := fun w' => Mod (fun _ => False) W3 w') (by kernel_rfl) (by kernel_rfl) (HD.out.trans (Mod.drew _ _) (fun _ h => Or.inl h)) ?_
        simp only [List.toList_toArray]
        go_big_quiet_want
        refine ⟨.pointer (some ⟨b0, 5, none⟩), fun w hw => ?_, ?_⟩
        · obtain ⟨c1, c2, c3, c4, c5, c6, c7, c8, c9⟩ := HSF.out w hw
          unfold Oper.quietAt
          go_simp
        go_big_quiet_on
        simp only [Act.put, List.setIfInBounds_toArray, List.set_cons_zero, List.set_cons_succ]
        go_big_quiet_want
        refine ⟨.slice ob t.args.length cb, fun w hw => ?_, ?_⟩
        · obtain ⟨c1, c2, c3, c4, c5, c6, c7, c8, c9⟩ := HSF.out w hw
          unfold Oper.quietAt
          go_simp
        go_big_quiet_on
        simp only [Act.put, List.setIfInBounds_toArray, List.set_cons_zero, List.set_cons_succ]
        go_big_quiet_want
        refine ⟨.int .i64 0, fun w hw => ?_, ?_⟩
        · obtain ⟨c1, c2, c3, c4, c5, c6, c7, c8, c9⟩ := HSF.out w hw
          unfold Oper.quietAt
          go_simp
        go_big_quiet_on
        simp only [Act.put, List.setIfInBounds_toArray, List.set_cons_zero, List.set_cons_succ]
        go_big_quiet_want
        refine ⟨.pointer (some ⟨b0, 1, none⟩), fun w hw => ?_, ?_⟩
        · obtain ⟨c1, c2, c3, c4, c5, c6, c7, c8, c9⟩ := HSF.out w hw
          unfold Oper.quietAt
          go_simp
        go_big_quiet_on
        simp only [Act.put, List.setIfInBounds_toArray, List.set_cons_zero, List.set_cons_succ]
        go_big_quiet_want
        refine ⟨.int .i64 6, fun w hw => ?_, ?_⟩
        · obtain ⟨c1, c2, c3, c4, c5, c6, c7, c8, c9⟩ := HSF.out w hw
          unfold Oper.quietAt
          go_simp
        go_big_quiet_on
        simp only [Act.put, List.setIfInBounds_toArray, List.set_cons_zero, List.set_cons_succ]
        go_big_quiet_want
        refine ⟨.pointer (some ⟨b1, 6, none⟩), fun w hw => ?_, ?_⟩
        · obtain ⟨c1, c2, c3, c4, c5, c6, c7, c8, c9⟩ := HSF.out w hw
          unfold Oper.quietAt
          go_simp
        go_big_quiet_on
        simp only [Act.put, List.setIfInBounds_toArray, List.set_cons_zero, List.set_cons_succ]
        go_big_quiet_want
        refine ⟨.int .i64 (argsT 6 : Int), fun w hw => ?_, ?_⟩
        · obtain ⟨c1, c2, c3, c4, c5, c6, c7, c8, c9⟩ := HSF.out w hw
          unfold Oper.quietAt
          go_simp
        go_big_quiet_on
        simp only [Act.put, List.setIfInBounds_toArray, List.set_cons_zero, List.set_cons_succ]
        go_big_quiet_want
        refine ⟨.bool false, fun w hw => ?_, ?_⟩
        · unfold Oper.quietAt
          go_simp
          refine (Calls.at' (HPK.out w hw) (by with_reducible rfl)).mono ?_
          rintro e w2 ⟨rfl, hM⟩
          exact ⟨rfl, hw.trans hM (fun _ h => Or.inl h)⟩
        go_big_quiet_on
        simp only [Act.put, List.setIfInBounds_toArray, List.set_cons_zero, List.set_cons_succ]
        go_big_quiet_want
        refine ⟨.bool true, fun w hw => ?_, ?_⟩
        · obtain ⟨c1, c2, c3, c4, c5, c6, c7, c8, c9⟩ := HSF.out w hw
          unfold Oper.quietAt
          go_simp
        go_big_quiet_on
        simp only [Act.put, List.setIfInBounds_toArray, List.set_cons_zero, List.set_cons_succ]
        go_big_quiet_want
        refine ⟨.bool true, fun w hw => ?_, ?_⟩
        · obtain ⟨c1, c2, c3, c4, c5, c6, c7, c8, c9⟩ := HSF.out w hw
          unfold Oper.quietAt
          go_simp
        go_big_quiet_on
        simp only [Act.put, List.setIfInBounds_toArray, List.set_cons_zero, List.set_cons_succ]
        go_big_quiet_skip
        go_big_quiet_skip
        go_big_quiet_skip
        go_big_quiet_skip
        go_big_quiet_skip
        go_big_quiet_want
        refine ⟨.bool true, fun w hw => ?_, ?_⟩
        · obtain ⟨c1, c2, c3, c4, c5, c6, c7, c8, c9⟩ := HSF.out w hw
          unfold Oper.quietAt
          go_simp
        go_big_quiet_on
        simp only [Act.put, List.setIfInBounds_toArray, List.set_cons_zero, List.set_cons_succ]
        refine wpQuiet_nil ?_
        intro wd hwd
        have HE : Hd _ := ⟨hwd⟩
        clear hwd
        have HF : Hd (r = false) := ⟨by rw [HRC.out]; simp []⟩
        go_wp2
        go_ret
        exact ⟨by rw [HF.out]; rfl, HMW.out.trans HE.out (fun _ h => Or.inl h)⟩
      | true =>
        refine wp_region_quiet (C := fun w' => Mod (fun _ => False) W3 w') (by kernel_rfl) (by kernel_rfl) (HD.out.trans (Mod.drew _ _) (fun _ h => Or.inl h)) ?_
        simp only [List.toList_toArray]
        go_big_quiet_want
        refine ⟨.pointer (some ⟨b0, 5, none⟩), fun w hw => ?_, ?_⟩
        · obtain ⟨c1, c2, c3, c4, c5, c6, c7, c8, c9⟩ := HSF.out w hw
          unfold Oper.quietAt
          go_simp
        go_big_quiet_on
        simp only [Act.put, List.setIfInBounds_toArray, List.set_cons_zero, List.set_cons_succ]
        go_big_quiet_want
        refine ⟨.slice ob t.args.length cb, fun w hw => ?_, ?_⟩
        · obtain ⟨c1, c2, c3, c4, c5, c6, c7, c8, c9⟩ := HSF.out w hw
          unfold Oper.quietAt
          go_simp
        go_big_quiet_on
        simp only [Act.put, List.setIfInBounds_toArray, List.set_cons_zero, List.set_cons_succ]
        go_big_quiet_want
        refine ⟨.int .i64 0, fun w hw => ?_, ?_⟩
        · obtain ⟨c1, c2, c3, c4, c5, c6, c7, c8, c9⟩ := HSF.out w hw
          unfold Oper.quietAt
          go_simp
        go_big_quiet_on
        simp only [Act.put, List.setIfInBounds_toArray, List.set_cons_zero, List.set_cons_succ]
        go_big_quiet_want
        refine ⟨.pointer (some ⟨b0, 1, none⟩), fun w hw => ?_, ?_⟩
        · obtain ⟨c1, c2, c3, c4, c5, c6, c7, c8, c9⟩ := HSF.out w hw
          unfold Oper.quietAt
          go_simp
        go_big_quiet_on
        simp only [Act.put, List.setIfInBounds_toArray, List.set_cons_zero, List.set_cons_succ]
        go_big_quiet_want
        refine ⟨.int .i64 6, fun w hw => ?_, ?_⟩
        · obtain ⟨c1, c2, c3, c4, c5, c6, c7, c8, c9⟩ := HSF.out w hw
          unfold Oper.quietAt
          go_simp
        go_big_quiet_on
        simp only [Act.put, List.setIfInBounds_toArray, List.set_cons_zero, List.set_cons_succ]
        go_big_quiet_want
        refine ⟨.pointer (some ⟨b1, 6, none⟩), fun w hw => ?_, ?_⟩
        · obtain ⟨c1, c2, c3, c4, c5, c6, c7, c8, c9⟩ := HSF.out w hw
          unfold Oper.quietAt
          go_simp
        go_big_quiet_on
        simp only [Act.put, List.setIfInBounds_toArray, List.set_cons_zero, List.set_cons_succ]
        go_big_quiet_want
        refine ⟨.int .i64 (argsT 6 : Int), fun w hw => ?_, ?_⟩
        · obtain ⟨c1, c2, c3, c4, c5, c6, c7, c8, c9⟩ := HSF.out w hw
          unfold Oper.quietAt
          go_simp
        go_big_quiet_on
        simp only [Act.put, List.setIfInBounds_toArray, List.set_cons_zero, List.set_cons_succ]
        go_big_quiet_want
        refine ⟨.bool true, fun w hw => ?_, ?_⟩
        · unfold Oper.quietAt
          go_simp
          refine (Calls.at' (HPK.out w hw) (by with_reducible rfl)).mono ?_
          rintro e w2 ⟨rfl, hM⟩
          exact ⟨rfl, hw.trans hM (fun _ h => Or.inl h)⟩
        go_big_quiet_on
        simp only [Act.put, List.setIfInBounds_toArray, List.set_cons_zero, List.set_cons_succ]
        go_big_quiet_want
        refine ⟨.bool false, fun w hw => ?_, ?_⟩
        · obtain ⟨c1, c2, c3, c4, c5, c6, c7, c8, c9⟩ := HSF.out w hw
          unfold Oper.quietAt
          go_simp
        go_big_quiet_on
        simp only [Act.put, List.setIfInBounds_toArray, List.set_cons_zero, List.set_cons_succ]
        go_big_quiet_want
        refine ⟨.bool false, fun w hw => ?_, ?_⟩
        · obtain ⟨c1, c2, c3, c4, c5, c6, c7, c8, c9⟩ := HSF.out w hw
          unfold Oper.quietAt
          go_simp
        go_big_quiet_on
        simp only [Act.put, List.setIfInBounds_toArray, List.set_cons_zero, List.set_cons_succ]
        go_big_quiet_want
        refine ⟨.pointer (some ⟨b0, 4, none⟩), fun w hw => ?_, ?_⟩
        · obtain ⟨c1, c2, c3, c4, c5, c6, c7, c8, c9⟩ := HSF.out w hw
          unfold Oper.quietAt
          go_simp
        go_big_quiet_on
        simp only [Act.put, List.setIfInBounds_toArray, List.set_cons_zero, List.set_cons_succ]
        go_big_quiet_want
        refine ⟨.string t.name, fun w hw => ?_, ?_⟩
        · obtain ⟨c1, c2, c3, c4, c5, c6, c7, c8, c9⟩ := HSF.out w hw
          unfold Oper.quietAt
          go_simp
        go_big_quiet_on
        simp only [Act.put, List.setIfInBounds_toArray, List.set_cons_zero, List.set_cons_succ]
        go_big_quiet_want
        refine ⟨.bool true, fun w hw => ?_, ?_⟩
        · obtain ⟨c1, c2, c3, c4, c5, c6, c7, c8, c9⟩ := HSF.out w hw
          unfold Oper.quietAt
          go_simp
        go_big_quiet_on
        simp only [Act.put, List.setIfInBounds_toArray, List.set_cons_zero, List.set_cons_succ]
        go_big_quiet_want
        refine ⟨.bool qn, fun w hw => ?_, ?_⟩
        · unfold Oper.quietAt
          go_simp
          refine (Calls.at' (HON.out w hw) (by with_reducible rfl)).mono ?_
          rintro e w2 ⟨rfl, hM⟩
          exact ⟨rfl, hw.trans hM (fun _ h => Or.inl h)⟩
        go_big_quiet_on
        simp only [Act.put, List.setIfInBounds_toArray, List.set_cons_zero, List.set_cons_succ]
        go_big_quiet_want
        refine ⟨.bool (!qn), fun w hw => ?_, ?_⟩
        · obtain ⟨c1, c2, c3, c4, c5, c6, c7, c8, c9⟩ := HSF.out w hw
          unfold Oper.quietAt
          go_simp
        go_big_quiet_on
        simp only [Act.put, List.setIfInBounds_toArray, List.set_cons_zero, List.set_cons_succ]
        go_big_quiet_want
        refine ⟨.bool (!qn), fun w hw => ?_, ?_⟩
        · obtain ⟨c1, c2, c3, c4, c5, c6, c7, c8, c9⟩ := HSF.out w hw
          unfold Oper.quietAt
          go_simp
        go_big_quiet_on
        simp only [Act.put, List.setIfInBounds_toArray, List.set_cons_zero, List.set_cons_succ]
        refine wpQuiet_nil ?_
        intro wd hwd
        have HE : Hd _ := ⟨hwd⟩
        clear hwd
        cases qn with
        | false =>
          have HF : Hd (r = false) := ⟨by rw [HRC.out]; simp []⟩
          go_wp2
          go_ret
          exact ⟨by rw [HF.out]; rfl, HMW.out.trans HE.out (fun _ h => Or.inl h)⟩
        | true =>
          obtain ⟨c1, c2, c3, c4, c5, c6, c7, _, _⟩ := HSF.out wd HE.out
          go_wp2_with fail
          refine (HTO.out wd HE.out).mono ?_
          rintro e w5 ⟨rfl, hM5⟩
          have H5 : Hd (Mod (fun _ => False) W3 w5) := ⟨HE.out.trans hM5 (fun _ h => Or.inl h)⟩
          clear hM5 HTO
          cases qt with
          | false =>
            have HF : Hd (r = false) := ⟨by rw [HRC.out]; simp []⟩
            go_wp2
            go_ret
            exact ⟨by rw [HF.out]; rfl, HMW.out.trans H5.out (fun _ h => Or.inl h)⟩
          | true =>
            have HRC2 : Hd (r = (t.blocks.all nmOk && t.arms.all armI && decide (t.arms.length = 0))) := ⟨by rw [HRC.out]; simp⟩
            clear HRC HON
            clear c1 c2 c3 c4 c5 c6 c7
            obtain ⟨c1, c2, c3, c4, c5, c6, c7, _, _⟩ := HSF.out w5 H5.out
            go_wp2_with fail
            clear c1 c2 c3 c4 c5 c6 c7
            go_loopg [7] t.blocks.length (fun gk v7 wr => Hd (Mod (fun _ => False) W3 wr) ∧ ∃ i : Nat, v7 = .int .i64 i ∧ i + gk = t.blocks.length ∧ Hd ((t.blocks.drop i).all nmOk = t.blocks.all nmOk))
            case atStart => exact ⟨H5, 0, rfl, by omega, ⟨rfl⟩⟩
            case round =>
              obtain ⟨HM, i, rfl, hi, HI⟩ := hrel
              obtain ⟨c1, c2, c3, c4, c5, c6, c7, _, _⟩ := HSF.out wr HM.out
              by_cases hlt : i < t.blocks.length
              · have hx0 : t.blocks[i]? = some t.blocks[i] := List.getElem?_eq_getElem (by omega)
                obtain ⟨x, hx⟩ : ∃ x, t.blocks[i]? = some x := ⟨_, hx0⟩
                obtain ⟨b, o, rfl, _, _, e0, hs⟩ := HBK.out.str hx
                have d0 := (HK3.out.trans HM.out (fun _ h => Or.inl h)).cell' e0
                have HNA : Hd (∀ w, _) := ⟨fun w => rName_calls x hs.2 w⟩
                have HIT : Hd (nmOk x = true → (t.blocks.drop (i + 1)).all nmOk = t.blocks.all nmOk) := ⟨fun h => by rw [← HI.out, all_hit hx h]⟩
                have HIF : Hd (nmOk x = false → t.blocks.all nmOk = false) := ⟨fun h => by rw [← HI.out, all_miss hx h]⟩
                have HV : Hd (nmOk x = isName (lst x)) := ⟨rfl⟩
                clear hx hx0 e0 hs
                obtain ⟨qn, hqn⟩ : ∃ q, isName (lst x) = q := ⟨_, rfl⟩
                rw [hqn] at HNA HV
                clear hqn
                go_wp2_with fail
                refine (HNA.out _).mono ?_
                rintro e w9 ⟨rfl, hM9⟩
                have HM9 : Hd (Mod (fun _ => False) W3 w9) := ⟨HM.out.trans hM9 (fun _ h => Or.inl h)⟩
                clear hM9 HNA d0
                cases qn with
                | false =>
                  have HF : Hd (r = false) := ⟨by rw [HRC2.out, HIF.out HV.out]; rfl⟩
                  go_wp2
                  go_ret
                  exact ⟨by rw [HF.out]; rfl, HMW.out.trans HM9.out (fun _ h => Or.inl h)⟩
                | true =>
                  have HI2 : Hd _ := ⟨HIT.out HV.out⟩
                  go_wp2_with fail
                  go_roundg (gk - 1)
                  case measure => omega
                  case rel => exact ⟨HM9, i + 1, by go_num, by omega, HI2⟩
              · have HAB : Hd (t.blocks.all nmOk = true) := ⟨by rw [← HI.out]; exact all_end (by omega)⟩
                have HRC3 : Hd (r = (t.arms.all armI && decide (t.arms.length = 0))) := ⟨by rw [HRC2.out, HAB.out, Bool.true_and]⟩
                clear HAB HI HRC2
                obtain ⟨W5, HW5⟩ : ∃ W5, Hd (W5 = wr) := ⟨_, ⟨rfl⟩⟩
                go_wp2_with fail
                clear c1 c2 c3 c4 c5 c6 c7
                go_loopg [8] t.arms.length (fun gk v8 wr => Hd (Mod (fun _ => False) W3 wr) ∧ ∃ i : Nat, v8 = .int .i64 i ∧ i + gk = t.arms.length ∧ Hd ((t.arms.drop i).all armI = t.arms.all armI))
                case atStart => exact ⟨HM, 0, rfl, by omega, ⟨rfl⟩⟩
                case round =>
                  clear HM hi hlt
                  obtain ⟨HM, i, rfl, hi, HI⟩ := hrel
                  obtain ⟨c1, c2, c3, c4, c5, c6, c7, _, _⟩ := HSF.out wr HM.out
                  by_cases hlt : i < t.arms.length
                  · have hx0 : t.arms[i]? = some t.arms[i] := List.getElem?_eq_getElem (by omega)
                    obtain ⟨x, hx⟩ : ∃ x, t.arms[i]? = some x := ⟨_, hx0⟩
                    obtain ⟨b, o, rfl, _, _, e0, e1, e2, _, hs1, hs2, hs3⟩ := HAR.out.arm hx
                    have hkk := HK3.out.trans HM.out (fun _ h => Or.inl h)
                    have d0 := hkk.cell' e0
                    have d1 := hkk.cell' e1
                    have d2 := hkk.cell' e2
                    have HNA : Hd (∀ w, _) := ⟨fun w => rName_calls x.variant hs1 w⟩
                    have HNB : Hd (∀ w, _) := ⟨fun w => rName_calls x.block hs3 w⟩
                    have HNC : Hd (∀ w, _) := ⟨fun w => rName_calls x.loc hs2 w⟩
                    have HIT : Hd (armI x = true → (t.arms.drop (i + 1)).all armI = t.arms.all armI) := ⟨fun h => by rw [← HI.out, all_hit hx h]⟩
                    have HIF : Hd (armI x = false → r = false) := ⟨fun h => by rw [HRC3.out, ← HI.out, all_miss hx h]; rfl⟩
                    have HV : Hd (armI x = (isName (lst x.variant) && isName (lst x.block) && (emp x.loc || isName (lst x.loc)))) := ⟨rfl⟩
                    clear hx hx0 e0 e1 e2 hs1 hs2 hs3 hkk
                    obtain ⟨qa, hqa⟩ : ∃ q, isName (lst x.variant) = q := ⟨_, rfl⟩
                    obtain ⟨qb, hqb⟩ : ∃ q, isName (lst x.block) = q := ⟨_, rfl⟩
                    obtain ⟨qc, hqc⟩ : ∃ q, isName (lst x.loc) = q := ⟨_, rfl⟩
                    rw [hqa] at HNA HV
                    rw [hqb] at HNB HV
                    rw [hqc] at HNC HV
                    clear hqa hqb hqc
                    have HX : Hd (∀ w', Mod (fun _ => False) (wr.alloc (.cells #[.string x.variant, .string x.loc, .string x.block] 94)) w' → w'.cell? ⟨wr.heap.size, 0, none⟩ = some (.string x.variant) ∧ w'.cell? ⟨wr.heap.size, 1, none⟩ = some (.string x.loc) ∧ w'.cell? ⟨wr.heap.size, 2, none⟩ = some (.string x.block)) := ⟨fun w' h => by
                      have q := (h.block _ (lt1_0 _ _) (fun h => h)).trans (heap_new' _ _)
                      exact ⟨cell_i q rfl, cell_i q rfl, cell_i q rfl⟩⟩
                    have HMA : Hd (Mod (fun _ => False) W3 (wr.alloc (.cells #[.string x.variant, .string x.loc, .string x.block] 94))) := ⟨HM.out.trans (Mod.alloc _ _ _) (fun _ h => Or.inl h)⟩
                    go_wp2_with fail
                    refine (HNA.out _).mono ?_
                    rintro e w9 ⟨rfl, hM9⟩
                    have HM9 : Hd (Mod (fun _ => False) (wr.alloc (.cells #[.string x.variant, .string x.loc, .string x.block] 94)) w9) := ⟨hM9⟩
                    obtain ⟨x0, x1, x2⟩ := HX.out w9 hM9
                    clear hM9 HNA d0 d1 d2
                    cases qa with
                    | false =>
                      have HF : Hd (r = false) := ⟨HIF.out (by rw [HV.out]; simp)⟩
                      go_wp2
                      go_ret
                      exact ⟨by rw [HF.out]; rfl, HMW.out.trans (HMA.out.trans HM9.out (fun _ h => Or.inl h)) (fun _ h => Or.inl h)⟩
                    | true =>
                      go_wp2_with fail
                      refine (HNB.out _).mono ?_
                      rintro e w10 ⟨rfl, hM9⟩
                      have HM10 : Hd (Mod (fun _ => False) (wr.alloc (.cells #[.string x.variant, .string x.loc, .string x.block] 94)) w10) := ⟨HM9.out.trans hM9 (fun _ h => Or.inl h)⟩
                      clear x0 x1 x2
                      obtain ⟨x0, x1, x2⟩ := HX.out w10 HM10.out
                      clear hM9 HNB
                      cases qb with
                      | false =>
                        have HF : Hd (r = false) := ⟨HIF.out (by rw [HV.out]; simp)⟩
                        go_wp2
                        go_ret
                        exact ⟨by rw [HF.out]; rfl, HMW.out.trans (HMA.out.trans HM10.out (fun _ h => Or.inl h)) (fun _ h => Or.inl h)⟩
                      | true =>
                        cases he : emp x.loc with
                        | true =>
                          have HE : Hd _ := ⟨he⟩
                          obtain ⟨he2, he3⟩ := emp_t he
                          clear he
                          have HI2 : Hd _ := ⟨HIT.out (by rw [HV.out]; simp [HE.out])⟩
                          go_wp2_with fail
                          go_roundg (gk - 1)
                          case measure => omega
                          case rel => exact ⟨⟨HMA.out.trans HM10.out (fun _ h => Or.inl h)⟩, i + 1, by go_num, by omega, HI2⟩
                        | false =>
                          have HE : Hd _ := ⟨he⟩
                          obtain ⟨he2, he3⟩ := emp_f he
                          clear he
                          go_wp2_with fail
                          refine (HNC.out _).mono ?_
                          rintro e w11 ⟨rfl, hM9⟩
                          have HM11 : Hd (Mod (fun _ => False) W3 w11) := ⟨HMA.out.trans (HM10.out.trans hM9 (fun _ h => Or.inl h)) (fun _ h => Or.inl h)⟩
                          clear hM9 HNC x0 x1 x2
                          cases qc with
                          | false =>
                            have HF : Hd (r = false) := ⟨HIF.out (by rw [HV.out]; simp [HE.out])⟩
                            go_wp2
                            go_ret
                            exact ⟨by rw [HF.out]; rfl, HMW.out.trans HM11.out (fun _ h => Or.inl h)⟩
                          | true =>
                            have HI2 : Hd _ := ⟨HIT.out (by rw [HV.out]; simp)⟩
                            go_wp2_with fail
                            go_roundg (gk - 1)
                            case measure => omega
                            case rel => exact ⟨HM11, i + 1, by go_num, by omega, HI2⟩
                  · have HAB : Hd (t.arms.all armI = true) := ⟨by rw [← HI.out]; exact all_end (by omega)⟩
                    have HRC4 : Hd (r = decide (t.arms.length = 0)) := ⟨by rw [HRC3.out, HAB.out, Bool.true_and]⟩
                    clear HAB HI HRC3
                    by_cases n0 : t.arms.length = 0
                    · have zn : ((t.arms.length : Int) == 0) = true := by rw [n0]; rfl
                      have HF : Hd (r = true) := ⟨by rw [HRC4.out]; simp [n0]⟩
                      clear n0
                      go_wp2
                      go_ret
                      exact ⟨by rw [HF.out]; rfl, HMW.out.trans HM.out (fun _ h => Or.inl h)⟩
                    · have zn : ((t.arms.length : Int) == 0) = false := by rw [beq_eq_false_iff_ne]; omega
                      have HF : Hd (r = false) := ⟨by rw [HRC4.out]; simp [n0]⟩
                      clear n0
                      go_wp2
                      go_ret
                      exact ⟨by rw [HF.out]; rfl, HMW.out.trans HM.out (fun _ h => Or.inl h)⟩
    have hn6 : ¬ k = 6 := hc
    clear hc
    by_cases hc : k = 3
    · subst hc
      have HPK : Hd (∀ w', Mod (fun _ => False) W3 w' → _) := ⟨fun w' h => rplaces_ans HAG.out (argsT 3) (argsT 3) (argsT_le _ (by omega)) (argsT_le _ (by omega)) w' (HK3.out.trans h (fun _ h => Or.inl h))⟩
      have HON : Hd (∀ w', Mod (fun _ => False) W3 w' → _) := ⟨fun w' h => rnamed_ans HNM.out false w' (HK3.out.trans h (fun _ h => Or.inl h))⟩
      have HTO : Hd (∀ w', Mod (fun _ => False) W3 w' → _) := ⟨fun w' h => rnone_ans HPD.out w' (HK3.out.trans h (fun _ h => Or.inl h))⟩
      obtain ⟨q, hq⟩ : ∃ q, placesOk t.args (argsT 3) (argsT 3) = q := ⟨_, rfl⟩
      obtain ⟨qn, hqn⟩ : ∃ q, namedI t.name false = q := ⟨_, rfl⟩
      obtain ⟨qt, hqt⟩ : ∃ q, noneI t.dest = q := ⟨_, rfl⟩
      have HRC : Hd (r = (q && qn && qt && t.blocks.all nmOk && t.arms.all armI && (decide (1 ≤ t.arms.length) && decide (t.arms.length ≤ 16)))) := ⟨by
        rw [← HR.out, ← hq, ← hqn, ← hqt, termR, HKT.out, HBL.out, HKE.out]
        simp [leastT, argsT]⟩
      rw [hq] at HPK
      rw [hqn] at HON
      rw [hqt] at HTO
      clear hq hqn hqt
      obtain ⟨c1, c2, c3, c4, c5, c6, c7, c8, c9⟩ := HSF.out wd HD.out
      have a8 := c8 3 (by omega)
      repeat (go_not_at_region 9; first | go_values | go_skip | go_guarded | go_step | go_upon | go_back)
      clear a8 c8 c9
      clear c1 c2 c3 c4 c5 c6 c7
      cases q with
      | false =>
        refine wp_region_quiet (C := fun w' => Mod (fun _ => False) W3 w') (by kernel_rfl) (by kernel_rfl) (HD.out.trans (Mod.drew _ _) (fun _ h => Or.inl h)) ?_
        simp only [List.toList_toArray]
        go_big_quiet_want
        refine ⟨.pointer (some ⟨b0, 5, none⟩), fun w hw => ?_, ?_⟩
        · obtain ⟨c1, c2, c3, c4, c5, c6, c7, c8, c9⟩ := HSF.out w hw
          unfold Oper.quietAt
          go_simp
        go_big_quiet_on
        simp only [Act.put, List.setIfInBounds_toArray, List.set_cons_zero, List.set_cons_succ]
        go_big_quiet_want
        refine ⟨.slice ob t.args.length cb, fun w hw => ?_, ?_⟩
        · obtain ⟨c1, c2, c3, c4, c5, c6, c7, c8, c9⟩ := HSF.out w hw
          unfold Oper.quietAt
          go_simp
        go_big_quiet_on
        simp only [Act.put, List.setIfInBounds_toArray, List.set_cons_zero, List.set_cons_succ]
        go_big_quiet_want
        refine ⟨.int .i64 (argsT 3 : Int), fun w hw => ?_, ?_⟩
        · obtain ⟨c1, c2, c3, c4, c5, c6, c7, c8, c9⟩ := HSF.out w hw
          unfold Oper.quietAt
          go_simp
        go_big_quiet_on
        simp only [Act.put, List.setIfInBounds_toArray, List.set_cons_zero, List.set_cons_succ]
        go_big_quiet_want
        refine ⟨.pointer (some ⟨b0, 1, none⟩), fun w hw => ?_, ?_⟩
        · obtain ⟨c1, c2, c3, c4, c5, c6, c7, c8, c9⟩ := HSF.out w hw
          unfold Oper.quietAt
          go_simp
        go_big_quiet_on
        simp only [Act.put, List.setIfInBounds_toArray, List.set_cons_zero, List.set_cons_succ]
        go_big_quiet_want
        refine ⟨.int .i64 3, fun w hw => ?_, ?_⟩
        · obtain ⟨c1, c2, c3, c4, c5, c6, c7, c8, c9⟩ := HSF.out w hw
          unfold Oper.quietAt
          go_simp
        go_big_quiet_on
        simp only [Act.put, List.setIfInBounds_toArray, List.set_cons_zero, List.set_cons_succ]
        go_big_quiet_want
        refine ⟨.pointer (some ⟨b1, 3, none⟩), fun w hw => ?_, ?_⟩
        · obtain ⟨c1, c2, c3, c4, c5, c6, c7, c8, c9⟩ := HSF.out w hw
          unfold Oper.quietAt
          go_simp
        go_big_quiet_on
        simp only [Act.put, List.setIfInBounds_toArray, List.set_cons_zero, List.set_cons_succ]
        go_big_quiet_want
        refine ⟨.int .i64 (argsT 3 : Int), fun w hw => ?_, ?_⟩
        · obtain ⟨c1, c2, c3, c4, c5, c6, c7, c8, c9⟩ := HSF.out w hw
          unfold Oper.quietAt
          go_simp
        go_big_quiet_on
        simp only [Act.put, List.setIfInBounds_toArray, List.set_cons_zero, List.set_cons_succ]
        go_big_quiet_want
        refine ⟨.bool false, fun w hw => ?_, ?_⟩
        · unfold Oper.quietAt
          go_simp
          refine (Calls.at' (HPK.out w hw) (by with_reducible rfl)).mono ?_
          rintro e w2 ⟨rfl, hM⟩
          exact ⟨rfl, hw.trans hM (fun _ h => Or.inl h)⟩
        go_big_quiet_on
        simp only [Act.put, List.setIfInBounds_toArray, List.set_cons_zero, List.set_cons_succ]
        go_big_quiet_want
        refine ⟨.bool true, fun w hw => ?_, ?_⟩
        · obtain ⟨c1, c2, c3, c4, c5, c6, c7, c8, c9⟩ := HSF.out w hw
          unfold Oper.quietAt
          go_simp
        go_big_quiet_on
        simp only [Act.put, List.setIfInBounds_toArray, List.set_cons_zero, List.set_cons_succ]
        go_big_quiet_want
        refine ⟨.bool true, fun w hw => ?_, ?_⟩
        · obtain ⟨c1, c2, c3, c4, c5, c6, c7, c8, c9⟩ := HSF.out w hw
          unfold Oper.quietAt
          go_simp
        go_big_quiet_on
        simp only [Act.put, List.setIfInBounds_toArray, List.set_cons_zero, List.set_cons_succ]
        go_big_quiet_skip
        go_big_quiet_skip
        go_big_quiet_skip
        go_big_quiet_skip
        go_big_quiet_skip
        go_big_quiet_want
        refine ⟨.bool true, fun w hw => ?_, ?_⟩
        · obtain ⟨c1, c2, c3, c4, c5, c6, c7, c8, c9⟩ := HSF.out w hw
          unfold Oper.quietAt
          go_simp
        go_big_quiet_on
        simp only [Act.put, List.setIfInBounds_toArray, List.set_cons_zero, List.set_cons_succ]
        refine wpQuiet_nil ?_
        intro wd hwd
        have HE : Hd _ := ⟨hwd⟩
        clear hwd
        have HF : Hd (r = false) := ⟨by rw [HRC.out]; simp []⟩
        go_wp2
        go_ret
        exact ⟨by rw [HF.out]; rfl, HMW.out.trans HE.out (fun _ h => Or.inl h)⟩
      | true =>
        refine wp_region_quiet (C := fun w' => Mod (fun _ => False) W3 w') (by kernel_rfl) (by kernel_rfl) (HD.out.trans (Mod.drew _ _) (fun _ h => Or.inl h)) ?_
        simp only [List.toList_toArray]
        go_big_quiet_want
        refine ⟨.pointer (some ⟨b0, 5, none⟩), fun w hw => ?_, ?_⟩
        · obtain ⟨c1, c2, c3, c4, c5, c6, c7, c8, c9⟩ := HSF.out w hw
          unfold Oper.quietAt
          go_simp
        go_big_quiet_on
        simp only [Act.put, List.setIfInBounds_toArray, List.set_cons_zero, List.set_cons_succ]
        go_big_quiet_want
        refine ⟨.slice ob t.args.length cb, fun w hw => ?_, ?_⟩
        · obtain ⟨c1, c2, c3, c4, c5, c6, c7, c8, c9⟩ := HSF.out w hw
          unfold Oper.quietAt
          go_simp
        go_big_quiet_on
        simp only [Act.put, List.setIfInBounds_toArray, List.set_cons_zero, List.set_cons_succ]
        go_big_quiet_want
        refine ⟨.int .i64 (argsT 3 : Int), fun w hw => ?_, ?_⟩
        · obtain ⟨c1, c2, c3, c4, c5, c6, c7, c8, c9⟩ := HSF.out w hw
          unfold Oper.quietAt
          go_simp
        go_big_quiet_on
        simp only [Act.put, List.setIfInBounds_toArray, List.set_cons_zero, List.set_cons_succ]
        go_big_quiet_want
        refine ⟨.pointer (some ⟨b0, 1, none⟩), fun w hw => ?_, ?_⟩
        · obtain ⟨c1, c2, c3, c4, c5, c6, c7, c8, c9⟩ := HSF.out w hw
          unfold Oper.quietAt
          go_simp
        go_big_quiet_on
        simp only [Act.put, List.setIfInBounds_toArray, List.set_cons_zero, List.set_cons_succ]
        go_big_quiet_want
        refine ⟨.int .i64 3, fun w hw => ?_, ?_⟩
        · obtain ⟨c1, c2, c3, c4, c5, c6, c7, c8, c9⟩ := HSF.out w hw
          unfold Oper.quietAt
          go_simp
        go_big_quiet_on
        simp only [Act.put, List.setIfInBounds_toArray, List.set_cons_zero, List.set_cons_succ]
        go_big_quiet_want
        refine ⟨.pointer (some ⟨b1, 3, none⟩), fun w hw => ?_, ?_⟩
        · obtain ⟨c1, c2, c3, c4, c5, c6, c7, c8, c9⟩ := HSF.out w hw
          unfold Oper.quietAt
          go_simp
        go_big_quiet_on
        simp only [Act.put, List.setIfInBounds_toArray, List.set_cons_zero, List.set_cons_succ]
        go_big_quiet_want
        refine ⟨.int .i64 (argsT 3 : Int), fun w hw => ?_, ?_⟩
        · obtain ⟨c1, c2, c3, c4, c5, c6, c7, c8, c9⟩ := HSF.out w hw
          unfold Oper.quietAt
          go_simp
        go_big_quiet_on
        simp only [Act.put, List.setIfInBounds_toArray, List.set_cons_zero, List.set_cons_succ]
        go_big_quiet_want
        refine ⟨.bool true, fun w hw => ?_, ?_⟩
        · unfold Oper.quietAt
          go_simp
          refine (Calls.at' (HPK.out w hw) (by with_reducible rfl)).mono ?_
          rintro e w2 ⟨rfl, hM⟩
          exact ⟨rfl, hw.trans hM (fun _ h => Or.inl h)⟩
        go_big_quiet_on
        simp only [Act.put, List.setIfInBounds_toArray, List.set_cons_zero, List.set_cons_succ]
        go_big_quiet_want
        refine ⟨.bool false, fun w hw => ?_, ?_⟩
        · obtain ⟨c1, c2, c3, c4, c5, c6, c7, c8, c9⟩ := HSF.out w hw
          unfold Oper.quietAt
          go_simp
        go_big_quiet_on
        simp only [Act.put, List.setIfInBounds_toArray, List.set_cons_zero, List.set_cons_succ]
        go_big_quiet_want
        refine ⟨.bool false, fun w hw => ?_, ?_⟩
        · obtain ⟨c1, c2, c3, c4, c5, c6, c7, c8, c9⟩ := HSF.out w hw
          unfold Oper.quietAt
          go_simp
        go_big_quiet_on
        simp only [Act.put, List.setIfInBounds_toArray, List.set_cons_zero, List.set_cons_succ]
        go_big_quiet_want
        refine ⟨.pointer (some ⟨b0, 4, none⟩), fun w hw => ?_, ?_⟩
        · obtain ⟨c1, c2, c3, c4, c5, c6, c7, c8, c9⟩ := HSF.out w hw
          unfold Oper.quietAt
          go_simp
        go_big_quiet_on
        simp only [Act.put, List.setIfInBounds_toArray, List.set_cons_zero, List.set_cons_succ]
        go_big_quiet_want
        refine ⟨.string t.name, fun w hw => ?_, ?_⟩
        · obtain ⟨c1, c2, c3, c4, c5, c6, c7, c8, c9⟩ := HSF.out w hw
          unfold Oper.quietAt
          go_simp
        go_big_quiet_on
        simp only [Act.put, List.setIfInBounds_toArray, List.set_cons_zero, List.set_cons_succ]
        go_big_quiet_want
        refine ⟨.bool false, fun w hw => ?_, ?_⟩
        · obtain ⟨c1, c2, c3, c4, c5, c6, c7, c8, c9⟩ := HSF.out w hw
          unfold Oper.quietAt
          go_simp
        go_big_quiet_on
        simp only [Act.put, List.setIfInBounds_toArray, List.set_cons_zero, List.set_cons_succ]
        go_big_quiet_want
        refine ⟨.bool qn, fun w hw => ?_, ?_⟩
        · unfold Oper.quietAt
          go_simp
          refine (Calls.at' (HON.out w hw) (by with_reducible rfl)).mono ?_
          rintro e w2 ⟨rfl, hM⟩
          exact ⟨rfl, hw.trans hM (fun _ h => Or.inl h)⟩
        go_big_quiet_on
        simp only [Act.put, List.setIfInBounds_toArray, List.set_cons_zero, List.set_cons_succ]
        go_big_quiet_want
        refine ⟨.bool (!qn), fun w hw => ?_, ?_⟩
        · obtain ⟨c1, c2, c3, c4, c5, c6, c7, c8, c9⟩ := HSF.out w hw
          unfold Oper.quietAt
          go_simp
        go_big_quiet_on
        simp only [Act.put, List.setIfInBounds_toArray, List.set_cons_zero, List.set_cons_succ]
        go_big_quiet_want
        refine ⟨.bool (!qn), fun w hw => ?_, ?_⟩
        · obtain ⟨c1, c2, c3, c4, c5, c6, c7, c8, c9⟩ := HSF.out w hw
          unfold Oper.quietAt
          go_simp
        go_big_quiet_on
        simp only [Act.put, List.setIfInBounds_toArray, List.set_cons_zero, List.set_cons_succ]
        refine wpQuiet_nil ?_
        intro wd hwd
        have HE : Hd _ := ⟨hwd⟩
        clear hwd
        cases qn with
        | false =>
          have HF : Hd (r = false) := ⟨by rw [HRC.out]; simp []⟩
          go_wp2
          go_ret
          exact ⟨by rw [HF.out]; rfl, HMW.out.trans HE.out (fun _ h => Or.inl h)⟩
        | true =>
          obtain ⟨c1, c2, c3, c4, c5, c6, c7, _, _⟩ := HSF.out wd HE.out
          go_wp2_with fail
          refine (HTO.out wd HE.out).mono ?_
          rintro e w5 ⟨rfl, hM5⟩
          have H5 : Hd (Mod (fun _ => False) W3 w5) := ⟨HE.out.trans hM5 (fun _ h => Or.inl h)⟩
          clear hM5 HTO
          cases qt with
          | false =>
            have HF : Hd (r = false) := ⟨by rw [HRC.out]; simp []⟩
            go_wp2
            go_ret
            exact ⟨by rw [HF.out]; rfl, HMW.out.trans H5.out (fun _ h => Or.inl h)⟩
          | true =>
            have HRC2 : Hd (r = (t.blocks.all nmOk && t.arms.all armI && (decide (1 ≤ t.arms.length) && decide (t.arms.length ≤ 16)))) := ⟨by rw [HRC.out]; simp⟩
            clear HRC HON
            clear c1 c2 c3 c4 c5 c6 c7
            obtain ⟨c1, c2, c3, c4, c5, c6, c7, _, _⟩ := HSF.out w5 H5.out
            go_wp2_with fail
            clear c1 c2 c3 c4 c5 c6 c7
            go_loopg [7] t.blocks.length (fun gk v7 wr => Hd (Mod (fun _ => False) W3 wr) ∧ ∃ i : Nat, v7 = .int .i64 i ∧ i + gk = t.blocks.length ∧ Hd ((t.blocks.drop i).all nmOk = t.blocks.all nmOk))
            case atStart => exact ⟨H5, 0, rfl, by omega, ⟨rfl⟩⟩
            case round =>
              obtain ⟨HM, i, rfl, hi, HI⟩ := hrel
              obtain ⟨c1, c2, c3, c4, c5, c6, c7, _, _⟩ := HSF.out wr HM.out
              by_cases hlt : i < t.blocks.length
              · have hx0 : t.blocks[i]? = some t.blocks[i] := List.getElem?_eq_getElem (by omega)
                obtain ⟨x, hx⟩ : ∃ x, t.blocks[i]? = some x := ⟨_, hx0⟩
                obtain ⟨b, o, rfl, _, _, e0, hs⟩ := HBK.out.str hx
                have d0 := (HK3.out.trans HM.out (fun _ h => Or.inl h)).cell' e0
                have HNA : Hd (∀ w, _) := ⟨fun w => rName_calls x hs.2 w⟩
                have HIT : Hd (nmOk x = true → (t.blocks.drop (i + 1)).all nmOk = t.blocks.all nmOk) := ⟨fun h => by rw [← HI.out, all_hit hx h]⟩
                have HIF : Hd (nmOk x = false → t.blocks.all nmOk = false) := ⟨fun h => by rw [← HI.out, all_miss hx h]⟩
                have HV : Hd (nmOk x = isName (lst x)) := ⟨rfl⟩
                clear hx hx0 e0 hs
                obtain ⟨qn, hqn⟩ : ∃ q, isName (lst x) = q := ⟨_, rfl⟩
                rw [hqn] at HNA HV
                clear hqn
                go_wp2_with fail
                refine (HNA.out _).mono ?_
                rintro e w9 ⟨rfl, hM9⟩
                have HM9 : Hd (Mod (fun _ => False) W3 w9) := ⟨HM.out.trans hM9 (fun _ h => Or.inl h)⟩
                clear hM9 HNA d0
                cases qn with
                | false =>
                  have HF : Hd (r = false) := ⟨by rw [HRC2.out, HIF.out HV.out]; rfl⟩
                  go_wp2
                  go_ret
                  exact ⟨by rw [HF.out]; rfl, HMW.out.trans HM9.out (fun _ h => Or.inl h)⟩
                | true =>
                  have HI2 : Hd _ := ⟨HIT.out HV.out⟩
                  go_wp2_with fail
                  go_roundg (gk - 1)
                  case measure => omega
                  case rel => exact ⟨HM9, i + 1, by go_num, by omega, HI2⟩
              · have HAB : Hd (t.blocks.all nmOk = true) := ⟨by rw [← HI.out]; exact all_end (by omega)⟩
                have HRC3 : Hd (r = (t.arms.all armI && (decide (1 ≤ t.arms.length) && decide (t.arms.length ≤ 16)))) := ⟨by rw [HRC2.out, HAB.out, Bool.true_and]⟩
                clear HAB HI HRC2
                obtain ⟨W5, HW5⟩ : ∃ W5, Hd (W5 = wr) := ⟨_, ⟨rfl⟩⟩
                go_wp2_with fail
                clear c1 c2 c3 c4 c5 c6 c7
                go_loopg [8] t.arms.length (fun gk v8 wr => Hd (Mod (fun _ => False) W3 wr) ∧ ∃ i : Nat, v8 = .int .i64 i ∧ i + gk = t.arms.length ∧ Hd ((t.arms.drop i).all armI = t.arms.all armI))
                case atStart => exact ⟨HM, 0, rfl, by omega, ⟨rfl⟩⟩
                case round =>
                  clear HM hi hlt
                  obtain ⟨HM, i, rfl, hi, HI⟩ := hrel
                  obtain ⟨c1, c2, c3, c4, c5, c6, c7, _, _⟩ := HSF.out wr HM.out
                  by_cases hlt : i < t.arms.length
                  · have hx0 : t.arms[i]? = some t.arms[i] := List.getElem?_eq_getElem (by omega)
                    obtain ⟨x, hx⟩ : ∃ x, t.arms[i]? = some x := ⟨_, hx0⟩
                    obtain ⟨b, o, rfl, _, _, e0, e1, e2, _, hs1, hs2, hs3⟩ := HAR.out.arm hx
                    have hkk := HK3.out.trans HM.out (fun _ h => Or.inl h)
                    have d0 := hkk.cell' e0
                    have d1 := hkk.cell' e1
                    have d2 := hkk.cell' e2
                    have HNA : Hd (∀ w, _) := ⟨fun w => rName_calls x.variant hs1 w⟩
                    have HNB : Hd (∀ w, _) := ⟨fun w => rName_calls x.block hs3 w⟩
                    have HNC : Hd (∀ w, _) := ⟨fun w => rName_calls x.loc hs2 w⟩
                    have HIT : Hd (armI x = true → (t.arms.drop (i + 1)).all armI = t.arms.all armI) := ⟨fun h => by rw [← HI.out, all_hit hx h]⟩
                    have HIF : Hd (armI x = false → r = false) := ⟨fun h => by rw [HRC3.out, ← HI.out, all_miss hx h]; rfl⟩
                    have HV : Hd (armI x = (isName (lst x.variant) && isName (lst x.block) && (emp x.loc || isName (lst x.loc)))) := ⟨rfl⟩
                    clear hx hx0 e0 e1 e2 hs1 hs2 hs3 hkk
                    obtain ⟨qa, hqa⟩ : ∃ q, isName (lst x.variant) = q := ⟨_, rfl⟩
                    obtain ⟨qb, hqb⟩ : ∃ q, isName (lst x.block) = q := ⟨_, rfl⟩
                    obtain ⟨qc, hqc⟩ : ∃ q, isName (lst x.loc) = q := ⟨_, rfl⟩
                    rw [hqa] at HNA HV
                    rw [hqb] at HNB HV
                    rw [hqc] at HNC HV
                    clear hqa hqb hqc
                    have HX : Hd (∀ w', Mod (fun _ => False) (wr.alloc (.cells #[.string x.variant, .string x.loc, .string x.block] 94)) w' → w'.cell? ⟨wr.heap.size, 0, none⟩ = some (.string x.variant) ∧ w'.cell? ⟨wr.heap.size, 1, none⟩ = some (.string x.loc) ∧ w'.cell? ⟨wr.heap.size, 2, none⟩ = some (.string x.block)) := ⟨fun w' h => by
                      have q := (h.block _ (lt1_0 _ _) (fun h => h)).trans (heap_new' _ _)
                      exact ⟨cell_i q rfl, cell_i q rfl, cell_i q rfl⟩⟩
                    have HMA : Hd (Mod (fun _ => False) W3 (wr.alloc (.cells #[.string x.variant, .string x.loc, .string x.block] 94))) := ⟨HM.out.trans (Mod.alloc _ _ _) (fun _ h => Or.inl h)⟩
                    go_wp2_with fail
                    refine (HNA.out _).mono ?_
                    rintro e w9 ⟨rfl, hM9⟩
                    have HM9 : Hd (Mod (fun _ => False) (wr.alloc (.cells #[.string x.variant, .string x.loc, .string x.block] 94)) w9) := ⟨hM9⟩
                    obtain ⟨x0, x1, x2⟩ := HX.out w9 hM9
                    clear hM9 HNA d0 d1 d2
                    cases qa with
                    | false =>
                      have HF : Hd (r = false) := ⟨HIF.out (by rw [HV.out]; simp)⟩
                      go_wp2
                      go_ret
                      exact ⟨by rw [HF.out]; rfl, HMW.out.trans (HMA.out.trans HM9.out (fun _ h => Or.inl h)) (fun _ h => Or.inl h)⟩
                    | true =>
                      go_wp2_with fail
                      refine (HNB.out _).mono ?_
                      rintro e w10 ⟨rfl, hM9⟩
                      have HM10 : Hd (Mod (fun _ => False) (wr.alloc (.cells #[.string x.variant, .string x.loc, .string x.block] 94)) w10) := ⟨HM9.out.trans hM9 (fun _ h => Or.inl h)⟩
                      clear x0 x1 x2
                      obtain ⟨x0, x1, x2⟩ := HX.out w10 HM10.out
                      clear hM9 HNB
                      cases qb with
                      | false =>
                        have HF : Hd (r = false) := ⟨HIF.out (by rw [HV.out]; simp)⟩
                        go_wp2
                        go_ret
                        exact ⟨by rw [HF.out]; rfl, HMW.out.trans (HMA.out.trans HM10.out (fun _ h => Or.inl h)) (fun _ h => Or.inl h)⟩
                      | true =>
                        cases he : emp x.loc with
                        | true =>
                          have HE : Hd _ := ⟨he⟩
                          obtain ⟨he2, he3⟩ := emp_t he
                          clear he
                          have HI2 : Hd _ := ⟨HIT.out (by rw [HV.out]; simp [HE.out])⟩
                          go_wp2_with fail
                          go_roundg (gk - 1)
                          case measure => omega
                          case rel => exact ⟨⟨HMA.out.trans HM10.out (fun _ h => Or.inl h)⟩, i + 1, by go_num, by omega, HI2⟩
                        | false =>
                          have HE : Hd _ := ⟨he⟩
                          obtain ⟨he2, he3⟩ := emp_f he
                          clear he
                          go_wp2_with fail
                          refine (HNC.out _).mono ?_
                          rintro e w11 ⟨rfl, hM9⟩
                          have HM11 : Hd (Mod (fun _ => False) W3 w11) := ⟨HMA.out.trans (HM10.out.trans hM9 (fun _ h => Or.inl h)) (fun _ h => Or.inl h)⟩
                          clear hM9 HNC x0 x1 x2
                          cases qc with
                          | false =>
                            have HF : Hd (r = false) := ⟨HIF.out (by rw [HV.out]; simp [HE.out])⟩
                            go_wp2
                            go_ret
                            exact ⟨by rw [HF.out]; rfl, HMW.out.trans HM11.out (fun _ h => Or.inl h)⟩
                          | true =>
                            have HI2 : Hd _ := ⟨HIT.out (by rw [HV.out]; simp)⟩
                            go_wp2_with fail
                            go_roundg (gk - 1)
                            case measure => omega
                            case rel => exact ⟨HM11, i + 1, by go_num, by omega, HI2⟩
                  · have HAB : Hd (t.arms.all armI = true) := ⟨by rw [← HI.out]; exact all_end (by omega)⟩
                    have HRC4 : Hd (r = (decide (1 ≤ t.arms.length) && decide (t.arms.length ≤ 16))) := ⟨by rw [HRC3.out, HAB.out, Bool.true_and]⟩
                    clear HAB HI HRC3
                    by_cases n0 : 1 ≤ t.arms.length
                    · by_cases n1 : t.arms.length ≤ 16
                      · have HF : Hd (r = true) := ⟨by rw [HRC4.out]; simp [n0, n1]⟩
                        go_wp2
                        go_ret
                        exact ⟨by rw [HF.out]; first | rfl | (simp; omega), HMW.out.trans HM.out (fun _ h => Or.inl h)⟩
                      · have HF : Hd (r = false) := ⟨by rw [HRC4.out]; simp [n1]⟩
                        go_wp2
                        go_ret
                        exact ⟨by rw [HF.out]; first | rfl | (simp; omega), HMW.out.trans HM.out (fun _ h => Or.inl h)⟩
                    · have HF : Hd (r = false) := ⟨by rw [HRC4.out]; simp [n0]⟩
                      go_wp2
                      go_ret
                      exact ⟨by rw [HF.out]; first | rfl | (simp; omega), HMW.out.trans HM.out (fun _ h => Or.inl h)⟩
    have hn3 : ¬ k = 3 := hc
    clear hc
    have z5 : ((k : Int) == 5) = false := by rw [beq_eq_false_iff_ne]; omega
    have z6 : ((k : Int) == 6) = false := by rw [beq_eq_false_iff_ne]; omega
    have z3 : ((k : Int) == 3) = false := by rw [beq_eq_false_iff_ne]; omega
    have HPK : Hd (∀ w', Mod (fun _ => False) W3 w' → _) := ⟨fun w' h => rplaces_ans HAG.out (argsT k) (argsT k) (argsT_le _ (by omega)) (argsT_le _ (by omega)) w' (HK3.out.trans h (fun _ h => Or.inl h))⟩
    have HON : Hd (∀ w', Mod (fun _ => False) W3 w' → _) := ⟨fun w' h => rnamed_ans HNM.out false w' (HK3.out.trans h (fun _ h => Or.inl h))⟩
    have HTO : Hd (∀ w', Mod (fun _ => False) W3 w' → _) := ⟨fun w' h => rnone_ans HPD.out w' (HK3.out.trans h (fun _ h => Or.inl h))⟩
    obtain ⟨q, hq⟩ : ∃ q, placesOk t.args (argsT k) (argsT k) = q := ⟨_, rfl⟩
    obtain ⟨qn, hqn⟩ : ∃ q, namedI t.name false = q := ⟨_, rfl⟩
    obtain ⟨qt, hqt⟩ : ∃ q, noneI t.dest = q := ⟨_, rfl⟩
    have HRC : Hd (r = (q && qn && qt && t.blocks.all nmOk && t.arms.all armI && decide (t.arms.length = 0))) := ⟨by
      rw [← HR.out, ← hq, ← hqn, ← hqt, termR, HKT.out, HBL.out, HKE.out]
      simp [leastT_o k (by omega) hn5 hn6, hn3, hn5, hn6, show ¬ (k : Int) = 3 by omega, show ¬ (k : Int) = 5 by omega, show ¬ (k : Int) = 6 by omega, show (1 : Int) ≤ (k : Int) by omega, show (k : Int) ≤ 7 by omega, hk1, hk2]⟩
    rw [hq] at HPK
    rw [hqn] at HON
    rw [hqt] at HTO
    clear hq hqn hqt
    obtain ⟨c1, c2, c3, c4, c5, c6, c7, c8, c9⟩ := HSF.out wd HD.out
    have a8 := c8 k (by omega)
    repeat (go_not_at_region 9; first | go_values | go_skip | go_guarded | go_step | go_upon | go_back)
    clear a8 c8 c9
    clear c1 c2 c3 c4 c5 c6 c7
    cases q with
    | false =>
      refine wp_region_quiet (C := fun w' => Mod (fun _ => False) W3 w') (by kernel_rfl) (by kernel_rfl) (HD.out.trans (Mod.drew _ _) (fun _ h => Or.inl h)) ?_
      simp only [List.toList_toArray]
      go_big_quiet_want
      refine ⟨.pointer (some ⟨b0, 5, none⟩), fun w hw => ?_, ?_⟩
      · obtain ⟨c1, c2, c3, c4, c5, c6, c7, c8, c9⟩ := HSF.out w hw
        unfold Oper.quietAt
        go_simp
      go_big_quiet_on
      simp only [Act.put, List.setIfInBounds_toArray, List.set_cons_zero, List.set_cons_succ]
      go_big_quiet_want
      refine ⟨.slice ob t.args.length cb, fun w hw => ?_, ?_⟩
      · obtain ⟨c1, c2, c3, c4, c5, c6, c7, c8, c9⟩ := HSF.out w hw
        unfold Oper.quietAt
        go_simp
      go_big_quiet_on
      simp only [Act.put, List.setIfInBounds_toArray, List.set_cons_zero, List.set_cons_succ]
      go_big_quiet_want
      refine ⟨.int .i64 (argsT k : Int), fun w hw => ?_, ?_⟩
      · obtain ⟨c1, c2, c3, c4, c5, c6, c7, c8, c9⟩ := HSF.out w hw
        unfold Oper.quietAt
        go_simp
      go_big_quiet_on
      simp only [Act.put, List.setIfInBounds_toArray, List.set_cons_zero, List.set_cons_succ]
      go_big_quiet_want
      refine ⟨.pointer (some ⟨b0, 1, none⟩), fun w hw => ?_, ?_⟩
      · obtain ⟨c1, c2, c3, c4, c5, c6, c7, c8, c9⟩ := HSF.out w hw
        unfold Oper.quietAt
        go_simp
      go_big_quiet_on
      simp only [Act.put, List.setIfInBounds_toArray, List.set_cons_zero, List.set_cons_succ]
      go_big_quiet_want
      refine ⟨.int .i64 (k : Int), fun w hw => ?_, ?_⟩
      · obtain ⟨c1, c2, c3, c4, c5, c6, c7, c8, c9⟩ := HSF.out w hw
        unfold Oper.quietAt
        go_simp
      go_big_quiet_on
      simp only [Act.put, List.setIfInBounds_toArray, List.set_cons_zero, List.set_cons_succ]
      go_big_quiet_want
      refine ⟨.pointer (some ⟨b1, k, none⟩), fun w hw => ?_, ?_⟩
      · obtain ⟨c1, c2, c3, c4, c5, c6, c7, c8, c9⟩ := HSF.out w hw
        unfold Oper.quietAt
        go_simp
      go_big_quiet_on
      simp only [Act.put, List.setIfInBounds_toArray, List.set_cons_zero, List.set_cons_succ]
      go_big_quiet_want
      refine ⟨.int .i64 (argsT k : Int), fun w hw => ?_, ?_⟩
      · obtain ⟨c1, c2, c3, c4, c5, c6, c7, c8, c9⟩ := HSF.out w hw
        unfold Oper.quietAt
        go_simp
      go_big_quiet_on
      simp only [Act.put, List.setIfInBounds_toArray, List.set_cons_zero, List.set_cons_succ]
      go_big_quiet_want
      refine ⟨.bool false, fun w hw => ?_, ?_⟩
      · unfold Oper.quietAt
        go_simp
        refine (Calls.at' (HPK.out w hw) (by with_reducible rfl)).mono ?_
        rintro e w2 ⟨rfl, hM⟩
        exact ⟨rfl, hw.trans hM (fun _ h => Or.inl h)⟩
      go_big_quiet_on
      simp only [Act.put, List.setIfInBounds_toArray, List.set_cons_zero, List.set_cons_succ]
      go_big_quiet_want
      refine ⟨.bool true, fun w hw => ?_, ?_⟩
      · obtain ⟨c1, c2, c3, c4, c5, c6, c7, c8, c9⟩ := HSF.out w hw
        unfold Oper.quietAt
        go_simp
      go_big_quiet_on
      simp only [Act.put, List.setIfInBounds_toArray, List.set_cons_zero, List.set_cons_succ]
      go_big_quiet_want
      refine ⟨.bool true, fun w hw => ?_, ?_⟩
      · obtain ⟨c1, c2, c3, c4, c5, c6, c7, c8, c9⟩ := HSF.out w hw
        unfold Oper.quietAt
        go_simp
      go_big_quiet_on
      simp only [Act.put, List.setIfInBounds_toArray, List.set_cons_zero, List.set_cons_succ]
      go_big_quiet_skip
      go_big_quiet_skip
      go_big_quiet_skip
      go_big_quiet_skip
      go_big_quiet_skip
      go_big_quiet_want
      refine ⟨.bool true, fun w hw => ?_, ?_⟩
      · obtain ⟨c1, c2, c3, c4, c5, c6, c7, c8, c9⟩ := HSF.out w hw
        unfold Oper.quietAt
        go_simp
      go_big_quiet_on
      simp only [Act.put, List.setIfInBounds_toArray, List.set_cons_zero, List.set_cons_succ]
      refine wpQuiet_nil ?_
      intro wd hwd
      have HE : Hd _ := ⟨hwd⟩
      clear hwd
      have HF : Hd (r = false) := ⟨by rw [HRC.out]; simp []⟩
      go_wp2
      go_ret
      exact ⟨by rw [HF.out]; rfl, HMW.out.trans HE.out (fun _ h => Or.inl h)⟩
    | true =>
      refine wp_region_quiet (C := fun w' => Mod (fun _ => False) W3 w') (by kernel_rfl) (by kernel_rfl) (HD.out.trans (Mod.drew _ _) (fun _ h => Or.inl h)) ?_
      simp only [List.toList_toArray]
      go_big_quiet_want
      refine ⟨.pointer (some ⟨b0, 5, none⟩), fun w hw => ?_, ?_⟩
      · obtain ⟨c1, c2, c3, c4, c5, c6, c7, c8, c9⟩ := HSF.out w hw
        unfold Oper.quietAt
        go_simp
      go_big_quiet_on
      simp only [Act.put, List.setIfInBounds_toArray, List.set_cons_zero, List.set_cons_succ]
      go_big_quiet_want
      refine ⟨.slice ob t.args.length cb, fun w hw => ?_, ?_⟩
      · obtain ⟨c1, c2, c3, c4, c5, c6, c7, c8, c9⟩ := HSF.out w hw
        unfold Oper.quietAt
        go_simp
      go_big_quiet_on
      simp only [Act.put, List.setIfInBounds_toArray, List.set_cons_zero, List.set_cons_succ]
      go_big_quiet_want
      refine ⟨.int .i64 (argsT k : Int), fun w hw => ?_, ?_⟩
      · obtain ⟨c1, c2, c3, c4, c5, c6, c7, c8, c9⟩ := HSF.out w hw
        unfold Oper.quietAt
        go_simp
      go_big_quiet_on
      simp only [Act.put, List.setIfInBounds_toArray, List.set_cons_zero, List.set_cons_succ]
      go_big_quiet_want
      refine ⟨.pointer (some ⟨b0, 1, none⟩), fun w hw => ?_, ?_⟩
      · obtain ⟨c1, c2, c3, c4, c5, c6, c7, c8, c9⟩ := HSF.out w hw
        unfold Oper.quietAt
        go_simp
      go_big_quiet_on
      simp only [Act.put, List.setIfInBounds_toArray, List.set_cons_zero, List.set_cons_succ]
      go_big_quiet_want
      refine ⟨.int .i64 (k : Int), fun w hw => ?_, ?_⟩
      · obtain ⟨c1, c2, c3, c4, c5, c6, c7, c8, c9⟩ := HSF.out w hw
        unfold Oper.quietAt
        go_simp
      go_big_quiet_on
      simp only [Act.put, List.setIfInBounds_toArray, List.set_cons_zero, List.set_cons_succ]
      go_big_quiet_want
      refine ⟨.pointer (some ⟨b1, k, none⟩), fun w hw => ?_, ?_⟩
      · obtain ⟨c1, c2, c3, c4, c5, c6, c7, c8, c9⟩ := HSF.out w hw
        unfold Oper.quietAt
        go_simp
      go_big_quiet_on
      simp only [Act.put, List.setIfInBounds_toArray, List.set_cons_zero, List.set_cons_succ]
      go_big_quiet_want
      refine ⟨.int .i64 (argsT k : Int), fun w hw => ?_, ?_⟩
      · obtain ⟨c1, c2, c3, c4, c5, c6, c7, c8, c9⟩ := HSF.out w hw
        unfold Oper.quietAt
        go_simp
      go_big_quiet_on
      simp only [Act.put, List.setIfInBounds_toArray, List.set_cons_zero, List.set_cons_succ]
      go_big_quiet_want
      refine ⟨.bool true, fun w hw => ?_, ?_⟩
      · unfold Oper.quietAt
        go_simp
        refine (Calls.at' (HPK.out w hw) (by with_reducible rfl)).mono ?_
        rintro e w2 ⟨rfl, hM⟩
        exact ⟨rfl, hw.trans hM (fun _ h => Or.inl h)⟩
      go_big_quiet_on
      simp only [Act.put, List.setIfInBounds_toArray, List.set_cons_zero, List.set_cons_succ]
      go_big_quiet_want
      refine ⟨.bool false, fun w hw => ?_, ?_⟩
      · obtain ⟨c1, c2, c3, c4, c5, c6, c7, c8, c9⟩ := HSF.out w hw
        unfold Oper.quietAt
        go_simp
      go_big_quiet_on
      simp only [Act.put, List.setIfInBounds_toArray, List.set_cons_zero, List.set_cons_succ]
      go_big_quiet_want
      refine ⟨.bool false, fun w hw => ?_, ?_⟩
      · obtain ⟨c1, c2, c3, c4, c5, c6, c7, c8, c9⟩ := HSF.out w hw
        unfold Oper.quietAt
        go_simp
      go_big_quiet_on
      simp only [Act.put, List.setIfInBounds_toArray, List.set_cons_zero, List.set_cons_succ]
      go_big_quiet_want
      refine ⟨.pointer (some ⟨b0, 4, none⟩), fun w hw => ?_, ?_⟩
      · obtain ⟨c1, c2, c3, c4, c5, c6, c7, c8, c9⟩ := HSF.out w hw
        unfold Oper.quietAt
        go_simp
      go_big_quiet_on
      simp only [Act.put, List.setIfInBounds_toArray, List.set_cons_zero, List.set_cons_succ]
      go_big_quiet_want
      refine ⟨.string t.name, fun w hw => ?_, ?_⟩
      · obtain ⟨c1, c2, c3, c4, c5, c6, c7, c8, c9⟩ := HSF.out w hw
        unfold Oper.quietAt
        go_simp
      go_big_quiet_on
      simp only [Act.put, List.setIfInBounds_toArray, List.set_cons_zero, List.set_cons_succ]
      go_big_quiet_want
      refine ⟨.bool false, fun w hw => ?_, ?_⟩
      · obtain ⟨c1, c2, c3, c4, c5, c6, c7, c8, c9⟩ := HSF.out w hw
        unfold Oper.quietAt
        go_simp
      go_big_quiet_on
      simp only [Act.put, List.setIfInBounds_toArray, List.set_cons_zero, List.set_cons_succ]
      go_big_quiet_want
      refine ⟨.bool qn, fun w hw => ?_, ?_⟩
      · unfold Oper.quietAt
        go_simp
        refine (Calls.at' (HON.out w hw) (by with_reducible rfl)).mono ?_
        rintro e w2 ⟨rfl, hM⟩
        exact ⟨rfl, hw.trans hM (fun _ h => Or.inl h)⟩
      go_big_quiet_on
      simp only [Act.put, List.setIfInBounds_toArray, List.set_cons_zero, List.set_cons_succ]
      go_big_quiet_want
      refine ⟨.bool (!qn), fun w hw => ?_, ?_⟩
      · obtain ⟨c1, c2, c3, c4, c5, c6, c7, c8, c9⟩ := HSF.out w hw
        unfold Oper.quietAt
        go_simp
      go_big_quiet_on
      simp only [Act.put, List.setIfInBounds_toArray, List.set_cons_zero, List.set_cons_succ]
      go_big_quiet_want
      refine ⟨.bool (!qn), fun w hw => ?_, ?_⟩
      · obtain ⟨c1, c2, c3, c4, c5, c6, c7, c8, c9⟩ := HSF.out w hw
        unfold Oper.quietAt
        go_simp
      go_big_quiet_on
      simp only [Act.put, List.setIfInBounds_toArray, List.set_cons_zero, List.set_cons_succ]
      refine wpQuiet_nil ?_
      intro wd hwd
      have HE : Hd _ := ⟨hwd⟩
      clear hwd
      cases qn with
      | false =>
        have HF : Hd (r = false) := ⟨by rw [HRC.out]; simp []⟩
        go_wp2
        go_ret
        exact ⟨by rw [HF.out]; rfl, HMW.out.trans HE.out (fun _ h => Or.inl h)⟩
      | true =>
        obtain ⟨c1, c2, c3, c4, c5, c6, c7, _, _⟩ := HSF.out wd HE.out
        go_wp2_with fail
        refine (HTO.out wd HE.out).mono ?_
        rintro e w5 ⟨rfl, hM5⟩
        have H5 : Hd (Mod (fun _ => False) W3 w5) := ⟨HE.out.trans hM5 (fun _ h => Or.inl h)⟩
        clear hM5 HTO
        cases qt with
        | false =>
          have HF : Hd (r = false) := ⟨by rw [HRC.out]; simp []⟩
          go_wp2
          go_ret
          exact ⟨by rw [HF.out]; rfl, HMW.out.trans H5.out (fun _ h => Or.inl h)⟩
        | true =>
          have HRC2 : Hd (r = (t.blocks.all nmOk && t.arms.all armI && decide (t.arms.length = 0))) := ⟨by rw [HRC.out]; simp⟩
          clear HRC HON
          clear c1 c2 c3 c4 c5 c6 c7
          obtain ⟨c1, c2, c3, c4, c5, c6, c7, _, _⟩ := HSF.out w5 H5.out
          go_wp2_with fail
          clear c1 c2 c3 c4 c5 c6 c7
          go_loopg [7] t.blocks.length (fun gk v7 wr => Hd (Mod (fun _ => False) W3 wr) ∧ ∃ i : Nat, v7 = .int .i64 i ∧ i + gk = t.blocks.length ∧ Hd ((t.blocks.drop i).all nmOk = t.blocks.all nmOk))
          case atStart => exact ⟨H5, 0, rfl, by omega, ⟨rfl⟩⟩
          case round =>
            obtain ⟨HM, i, rfl, hi, HI⟩ := hrel
            obtain ⟨c1, c2, c3, c4, c5, c6, c7, _, _⟩ := HSF.out wr HM.out
            by_cases hlt : i < t.blocks.length
            · have hx0 : t.blocks[i]? = some t.blocks[i] := List.getElem?_eq_getElem (by omega)
              obtain ⟨x, hx⟩ : ∃ x, t.blocks[i]? = some x := ⟨_, hx0⟩
              obtain ⟨b, o, rfl, _, _, e0, hs⟩ := HBK.out.str hx
              have d0 := (HK3.out.trans HM.out (fun _ h => Or.inl h)).cell' e0
              have HNA : Hd (∀ w, _) := ⟨fun w => rName_calls x hs.2 w⟩
              have HIT : Hd (nmOk x = true → (t.blocks.drop (i + 1)).all nmOk = t.blocks.all nmOk) := ⟨fun h => by rw [← HI.out, all_hit hx h]⟩
              have HIF : Hd (nmOk x = false → t.blocks.all nmOk = false) := ⟨fun h => by rw [← HI.out, all_miss hx h]⟩
              have HV : Hd (nmOk x = isName (lst x)) := ⟨rfl⟩
              clear hx hx0 e0 hs
              obtain ⟨qn, hqn⟩ : ∃ q, isName (lst x) = q := ⟨_, rfl⟩
              rw [hqn] at HNA HV
              clear hqn
              go_wp2_with fail
              refine (HNA.out _).mono ?_
              rintro e w9 ⟨rfl, hM9⟩
              have HM9 : Hd (Mod (fun _ => False) W3 w9) := ⟨HM.out.trans hM9 (fun _ h => Or.inl h)⟩
              clear hM9 HNA d0
              cases qn with
              | false =>
                have HF : Hd (r = false) := ⟨by rw [HRC2.out, HIF.out HV.out]; rfl⟩
                go_wp2
                go_ret
                exact ⟨by rw [HF.out]; rfl, HMW.out.trans HM9.out (fun _ h => Or.inl h)⟩
              | true =>
                have HI2 : Hd _ := ⟨HIT.out HV.out⟩
                go_wp2_with fail
                go_roundg (gk - 1)
                case measure => omega
                case rel => exact ⟨HM9, i + 1, by go_num, by omega, HI2⟩
            · have HAB : Hd (t.blocks.all nmOk = true) := ⟨by rw [← HI.out]; exact all_end (by omega)⟩
              have HRC3 : Hd (r = (t.arms.all armI && decide (t.arms.length = 0))) := ⟨by rw [HRC2.out, HAB.out, Bool.true_and]⟩
              clear HAB HI HRC2
              obtain ⟨W5, HW5⟩ : ∃ W5, Hd (W5 = wr) := ⟨_, ⟨rfl⟩⟩
              go_wp2_with fail
              clear c1 c2 c3 c4 c5 c6 c7
              go_loopg [8] t.arms.length (fun gk v8 wr => Hd (Mod (fun _ => False) W3 wr) ∧ ∃ i : Nat, v8 = .int .i64 i ∧ i + gk = t.arms.length ∧ Hd ((t.arms.drop i).all armI = t.arms.all armI))
              case atStart => exact ⟨HM, 0, rfl, by omega, ⟨rfl⟩⟩
              case round =>
                clear HM hi hlt
                obtain ⟨HM, i, rfl, hi, HI⟩ := hrel
                obtain ⟨c1, c2, c3, c4, c5, c6, c7, _, _⟩ := HSF.out wr HM.out
                by_cases hlt : i < t.arms.length
                · have hx0 : t.arms[i]? = some t.arms[i] := List.getElem?_eq_getElem (by omega)
                  obtain ⟨x, hx⟩ : ∃ x, t.arms[i]? = some x := ⟨_, hx0⟩
                  obtain ⟨b, o, rfl, _, _, e0, e1, e2, _, hs1, hs2, hs3⟩ := HAR.out.arm hx
                  have hkk := HK3.out.trans HM.out (fun _ h => Or.inl h)
                  have d0 := hkk.cell' e0
                  have d1 := hkk.cell' e1
                  have d2 := hkk.cell' e2
                  have HNA : Hd (∀ w, _) := ⟨fun w => rName_calls x.variant hs1 w⟩
                  have HNB : Hd (∀ w, _) := ⟨fun w => rName_calls x.block hs3 w⟩
                  have HNC : Hd (∀ w, _) := ⟨fun w => rName_calls x.loc hs2 w⟩
                  have HIT : Hd (armI x = true → (t.arms.drop (i + 1)).all armI = t.arms.all armI) := ⟨fun h => by rw [← HI.out, all_hit hx h]⟩
                  have HIF : Hd (armI x = false → r = false) := ⟨fun h => by rw [HRC3.out, ← HI.out, all_miss hx h]; rfl⟩
                  have HV : Hd (armI x = (isName (lst x.variant) && isName (lst x.block) && (emp x.loc || isName (lst x.loc)))) := ⟨rfl⟩
                  clear hx hx0 e0 e1 e2 hs1 hs2 hs3 hkk
                  obtain ⟨qa, hqa⟩ : ∃ q, isName (lst x.variant) = q := ⟨_, rfl⟩
                  obtain ⟨qb, hqb⟩ : ∃ q, isName (lst x.block) = q := ⟨_, rfl⟩
                  obtain ⟨qc, hqc⟩ : ∃ q, isName (lst x.loc) = q := ⟨_, rfl⟩
                  rw [hqa] at HNA HV
                  rw [hqb] at HNB HV
                  rw [hqc] at HNC HV
                  clear hqa hqb hqc
                  have HX : Hd (∀ w', Mod (fun _ => False) (wr.alloc (.cells #[.string x.variant, .string x.loc, .string x.block] 94)) w' → w'.cell? ⟨wr.heap.size, 0, none⟩ = some (.string x.variant) ∧ w'.cell? ⟨wr.heap.size, 1, none⟩ = some (.string x.loc) ∧ w'.cell? ⟨wr.heap.size, 2, none⟩ = some (.string x.block)) := ⟨fun w' h => by
                    have q := (h.block _ (lt1_0 _ _) (fun h => h)).trans (heap_new' _ _)
                    exact ⟨cell_i q rfl, cell_i q rfl, cell_i q rfl⟩⟩
                  have HMA : Hd (Mod (fun _ => False) W3 (wr.alloc (.cells #[.string x.variant, .string x.loc, .string x.block] 94))) := ⟨HM.out.trans (Mod.alloc _ _ _) (fun _ h => Or.inl h)⟩
                  go_wp2_with fail
                  refine (HNA.out _).mono ?_
                  rintro e w9 ⟨rfl, hM9⟩
                  have HM9 : Hd (Mod (fun _ => False) (wr.alloc (.cells #[.string x.variant, .string x.loc, .string x.block] 94)) w9) := ⟨hM9⟩
                  obtain ⟨x0, x1, x2⟩ := HX.out w9 hM9
                  clear hM9 HNA d0 d1 d2
                  cases qa with
                  | false =>
                    have HF : Hd (r = false) := ⟨HIF.out (by rw [HV.out]; simp)⟩
                    go_wp2
                    go_ret
                    exact ⟨by rw [HF.out]; rfl, HMW.out.trans (HMA.out.trans HM9.out (fun _ h => Or.inl h)) (fun _ h => Or.inl h)⟩
                  | true =>
                    go_wp2_with fail
                    refine (HNB.out _).mono ?_
                    rintro e w10 ⟨rfl, hM9⟩
                    have HM10 : Hd (Mod (fun _ => False) (wr.alloc (.cells #[.string x.variant, .string x.loc, .string x.block] 94)) w10) := ⟨HM9.out.trans hM9 (fun _ h => Or.inl h)⟩
                    clear x0 x1 x2
                    obtain ⟨x0, x1, x2⟩ := HX.out w10 HM10.out
                    clear hM9 HNB
                    cases qb with
                    | false =>
                      have HF : Hd (r = false) := ⟨HIF.out (by rw [HV.out]; simp)⟩
                      go_wp2
                      go_ret
                      exact ⟨by rw [HF.out]; rfl, HMW.out.trans (HMA.out.trans HM10.out (fun _ h => Or.inl h)) (fun _ h => Or.inl h)⟩
                    | true =>
                      cases he : emp x.loc with
                      | true =>
                        have HE : Hd _ := ⟨he⟩
                        obtain ⟨he2, he3⟩ := emp_t he
                        clear he
                        have HI2 : Hd _ := ⟨HIT.out (by rw [HV.out]; simp [HE.out])⟩
                        go_wp2_with fail
                        go_roundg (gk - 1)
                        case measure => omega
                        case rel => exact ⟨⟨HMA.out.trans HM10.out (fun _ h => Or.inl h)⟩, i + 1, by go_num, by omega, HI2⟩
                      | false =>
                        have HE : Hd _ := ⟨he⟩
                        obtain ⟨he2, he3⟩ := emp_f he
                        clear he
                        go_wp2_with fail
                        refine (HNC.out _).mono ?_
                        rintro e w11 ⟨rfl, hM9⟩
                        have HM11 : Hd (Mod (fun _ => False) W3 w11) := ⟨HMA.out.trans (HM10.out.trans hM9 (fun _ h => Or.inl h)) (fun _ h => Or.inl h)⟩
                        clear hM9 HNC x0 x1 x2
                        cases qc with
                        | false =>
                          have HF : Hd (r = false) := ⟨HIF.out (by rw [HV.out]; simp [HE.out])⟩
                          go_wp2
                          go_ret
                          exact ⟨by rw [HF.out]; rfl, HMW.out.trans HM11.out (fun _ h => Or.inl h)⟩
                        | true =>
                          have HI2 : Hd _ := ⟨HIT.out (by rw [HV.out]; simp)⟩
                          go_wp2_with fail
                          go_roundg (gk - 1)
                          case measure => omega
                          case rel => exact ⟨HM11, i + 1, by go_num, by omega, HI2⟩
                · have HAB : Hd (t.arms.all armI = true) := ⟨by rw [← HI.out]; exact all_end (by omega)⟩
                  have HRC4 : Hd (r = decide (t.arms.length = 0)) := ⟨by rw [HRC3.out, HAB.out, Bool.true_and]⟩
                  clear HAB HI HRC3
                  by_cases n0 : t.arms.length = 0
                  · have zn : ((t.arms.length : Int) == 0) = true := by rw [n0]; rfl
                    have HF : Hd (r = true) := ⟨by rw [HRC4.out]; simp [n0]⟩
                    clear n0
                    go_wp2
                    go_ret
                    exact ⟨by rw [HF.out]; rfl, HMW.out.trans HM.out (fun _ h => Or.inl h)⟩
                  · have zn : ((t.arms.length : Int) == 0) = false := by rw [beq_eq_false_iff_ne]; omega
                    have HF : Hd (r = false) := ⟨by rw [HRC4.out]; simp [n0]⟩
                    clear n0
                    go_wp2
                    go_ret
                    exact ⟨by rw [HF.out]; rfl, HMW.out.trans HM.out (fun _ h => Or.inl h)⟩
  · have HF : Hd (r = false) := ⟨by rw [← HR.out, termR, HKT.out]; simp [hbl]⟩
    have zb : ((t.blocks.length : Int) != (blocksT k : Int)) = true := by rw [bne_iff_ne]; omega
    clear hbl
    refine wp_region_quiet (C := fun w' => Mod (fun _ => False) W3 w') (by kernel_rfl) (by kernel_rfl) (Mod.drew _ _) ?_
    simp only [List.toList_toArray]
    go_big_quiet_want
    refine ⟨.pointer (some ⟨b0, 1, none⟩), fun w hw => ?_, ?_⟩
    · obtain ⟨c1, c2, c3, c4, c5, c6, c7, c8, c9⟩ := HSF.out w hw
      unfold Oper.quietAt
      go_simp
    go_big_quiet_on
    simp only [Act.put, List.setIfInBounds_toArray, List.set_cons_zero, List.set_cons_succ]
    go_big_quiet_want
    refine ⟨.int .i64 (k : Int), fun w hw => ?_, ?_⟩
    · obtain ⟨c1, c2, c3, c4, c5, c6, c7, c8, c9⟩ := HSF.out w hw
      unfold Oper.quietAt
      go_simp
    go_big_quiet_on
    simp only [Act.put, List.setIfInBounds_toArray, List.set_cons_zero, List.set_cons_succ]
    go_big_quiet_want
    refine ⟨.bool false, fun w hw => ?_, ?_⟩
    · obtain ⟨c1, c2, c3, c4, c5, c6, c7, c8, c9⟩ := HSF.out w hw
      unfold Oper.quietAt
      go_simp
    go_big_quiet_on
    simp only [Act.put, List.setIfInBounds_toArray, List.set_cons_zero, List.set_cons_succ]
    go_big_quiet_want
    refine ⟨.bool false, fun w hw => ?_, ?_⟩
    · obtain ⟨c1, c2, c3, c4, c5, c6, c7, c8, c9⟩ := HSF.out w hw
      unfold Oper.quietAt
      go_simp
    go_big_quiet_on
    simp only [Act.put, List.setIfInBounds_toArray, List.set_cons_zero, List.set_cons_succ]
    go_big_quiet_want
    refine ⟨.pointer (some ⟨b0, 1, none⟩), fun w hw => ?_, ?_⟩
    · obtain ⟨c1, c2, c3, c4, c5, c6, c7, c8, c9⟩ := HSF.out w hw
      unfold Oper.quietAt
      go_simp
    go_big_quiet_on
    simp only [Act.put, List.setIfInBounds_toArray, List.set_cons_zero, List.set_cons_succ]
    go_big_quiet_want
    refine ⟨.int .i64 (k : Int), fun w hw => ?_, ?_⟩
    · obtain ⟨c1, c2, c3, c4, c5, c6, c7, c8, c9⟩ := HSF.out w hw
      unfold Oper.quietAt
      go_simp
    go_big_quiet_on
    simp only [Act.put, List.setIfInBounds_toArray, List.set_cons_zero, List.set_cons_succ]
    go_big_quiet_want
    refine ⟨.bool false, fun w hw => ?_, ?_⟩
    · obtain ⟨c1, c2, c3, c4, c5, c6, c7, c8, c9⟩ := HSF.out w hw
      unfold Oper.quietAt
      go_simp
    go_big_quiet_on
    simp only [Act.put, List.setIfInBounds_toArray, List.set_cons_zero, List.set_cons_succ]
    go_big_quiet_want
    refine ⟨.bool false, fun w hw => ?_, ?_⟩
    · obtain ⟨c1, c2, c3, c4, c5, c6, c7, c8, c9⟩ := HSF.out w hw
      unfold Oper.quietAt
      go_simp
    go_big_quiet_on
    simp only [Act.put, List.setIfInBounds_toArray, List.set_cons_zero, List.set_cons_succ]
    go_big_quiet_want
    refine ⟨.bool false, fun w hw => ?_, ?_⟩
    · obtain ⟨c1, c2, c3, c4, c5, c6, c7, c8, c9⟩ := HSF.out w hw
      unfold Oper.quietAt
      go_simp
    go_big_quiet_on
    simp only [Act.put, List.setIfInBounds_toArray, List.set_cons_zero, List.set_cons_succ]
    go_big_quiet_want
    refine ⟨.pointer (some ⟨b0, 6, none⟩), fun w hw => ?_, ?_⟩
    · obtain ⟨c1, c2, c3, c4, c5, c6, c7, c8, c9⟩ := HSF.out w hw
      unfold Oper.quietAt
      go_simp
    go_big_quiet_on
    simp only [Act.put, List.setIfInBounds_toArray, List.set_cons_zero, List.set_cons_succ]
    go_big_quiet_want
    refine ⟨.slice oc t.blocks.length cc, fun w hw => ?_, ?_⟩
    · obtain ⟨c1, c2, c3, c4, c5, c6, c7, c8, c9⟩ := HSF.out w hw
      unfold Oper.quietAt
      go_simp
    go_big_quiet_on
    simp only [Act.put, List.setIfInBounds_toArray, List.set_cons_zero, List.set_cons_succ]
    go_big_quiet_want
    refine ⟨.int .i64 (t.blocks.length : Int), fun w hw => ?_, ?_⟩
    · obtain ⟨c1, c2, c3, c4, c5, c6, c7, c8, c9⟩ := HSF.out w hw
      unfold Oper.quietAt
      go_simp
    go_big_quiet_on
    simp only [Act.put, List.setIfInBounds_toArray, List.set_cons_zero, List.set_cons_succ]
    go_big_quiet_want
    refine ⟨.pointer (some ⟨b0, 1, none⟩), fun w hw => ?_, ?_⟩
    · obtain ⟨c1, c2, c3, c4, c5, c6, c7, c8, c9⟩ := HSF.out w hw
      unfold Oper.quietAt
      go_simp
    go_big_quiet_on
    simp only [Act.put, List.setIfInBounds_toArray, List.set_cons_zero, List.set_cons_succ]
    go_big_quiet_want
    refine ⟨.int .i64 (k : Int), fun w hw => ?_, ?_⟩
    · obtain ⟨c1, c2, c3, c4, c5, c6, c7, c8, c9⟩ := HSF.out w hw
      unfold Oper.quietAt
      go_simp
    go_big_quiet_on
    simp only [Act.put, List.setIfInBounds_toArray, List.set_cons_zero, List.set_cons_succ]
    go_big_quiet_want
    refine ⟨.pointer (some ⟨b2, k, none⟩), fun w hw => ?_, ?_⟩
    · obtain ⟨c1, c2, c3, c4, c5, c6, c7, c8, c9⟩ := HSF.out w hw
      unfold Oper.quietAt
      go_simp
    go_big_quiet_on
    simp only [Act.put, List.setIfInBounds_toArray, List.set_cons_zero, List.set_cons_succ]
    go_big_quiet_want
    refine ⟨.int .i64 (blocksT k : Int), fun w hw => ?_, ?_⟩
    · obtain ⟨c1, c2, c3, c4, c5, c6, c7, c8, c9⟩ := HSF.out w hw
      unfold Oper.quietAt
      go_simp
    go_big_quiet_on
    simp only [Act.put, List.setIfInBounds_toArray, List.set_cons_zero, List.set_cons_succ]
    go_big_quiet_want
    refine ⟨.bool true, fun w hw => ?_, ?_⟩
    · obtain ⟨c1, c2, c3, c4, c5, c6, c7, c8, c9⟩ := HSF.out w hw
      unfold Oper.quietAt
      go_simp
    go_big_quiet_on
    simp only [Act.put, List.setIfInBounds_toArray, List.set_cons_zero, List.set_cons_succ]
    go_big_quiet_want
    refine ⟨.bool true, fun w hw => ?_, ?_⟩
    · obtain ⟨c1, c2, c3, c4, c5, c6, c7, c8, c9⟩ := HSF.out w hw
      unfold Oper.quietAt
      go_simp
    go_big_quiet_on
    simp only [Act.put, List.setIfInBounds_toArray, List.set_cons_zero, List.set_cons_succ]
    refine wpQuiet_nil ?_
    intro wd hwd
    have HD : Hd _ := ⟨hwd⟩
    clear hwd
    go_wp2
    go_ret
    exact ⟨by rw [HF.out]; rfl, HMW.out.trans HD.out (fun _ h => Or.inl h)⟩
end
end Go.Proofs.YtpodeccpibnlbaaGreatDoor
