/- The law TreeSame, walked. -/
import Derived.Test.YtpodeccpibnlbaaGreatDoorN25
import Derived.Test.YtpodeccpibnlbaaGreatDoorG41
import Derived.Test.YtpodeccpibnlbaaGreatDoorG42
import Derived.Test.YtpodeccpibnlbaaGreatDoorG10
import Derived.Test.YtpodeccpibnlbaaGreatDoorG16
import Derived.Test.YtpodeccpibnlbaaGreatDoorG24
import Derived.BigQuiet
namespace Go.Proofs.YtpodeccpibnlbaaGreatDoor
set_option linter.unusedVariables false
set_option linter.unusedSimpArgs false
open Go.RowKit
theorem calls_s {N : Nat} {args args' : Array Value} {w : World} {Q : Ending → World → Prop} (h : Calls Tryz.prog N args' w Q) (he : args' = args) : Calls Tryz.prog N args w Q := he ▸ h
theorem alive_s (W : World) (hT : Tab W) {m : Int} (hm : W.cell? ⟨0, 0, none⟩ = some (.int .i64 m)) : Calls Tryz.prog 9 #[] W fun e w' => e = .returned (.bool true) ∧ Mod (fun _ => False) W w' := callsIn_wide.1 (alive_in W hT hm)
theorem cS_le (x : Sct) : cS x ≤ szSct x := by
  have h1 := sum_one szVr szVr_one x.fields
  unfold cS szSct szR
  omega
theorem cSt_le (s : Stm) : cSt s ≤ szStm s := by
  have h1 := sum_one szPl szPl_one s.args
  have h2 : s.dest.steps.length ≤ szPl s.dest := by
    have := sum_one szS szS_one s.dest.steps
    unfold szPl szR
    omega
  unfold cSt szStm szR
  omega
theorem sumc_le {α : Type} {c sz : α → Nat} (h : ∀ x, c x ≤ sz x) : ∀ l : List α, (l.map c).sum ≤ (l.map sz).sum
  | [] => by simp
  | x :: l => by
    have h1 := sumc_le h l
    have h2 := h x
    rw [List.map_cons, List.sum_cons, List.map_cons, List.sum_cons]
    omega
theorem cB_le (b : Blk) : cB b ≤ szBlk b := by
  have h1 := sumc_le cSt_le b.stmts
  have h2 := sum_one szS szS_one b.term.blocks
  have h3 := sum_one szArm szArm_one b.term.arms
  unfold cB szBlk szTrm szR
  omega
theorem cF_le (f : Fun) : cF f ≤ szFun f := by
  have h1 := sumc_le cB_le f.blocks
  unfold cF szFun szR
  omega
theorem cP_le (p : Prg) : cP p ≤ szPrg p := by
  have h1 := sumc_le cS_le p.structs
  have h2 := sum_one szEnm szEnm_one p.enums
  have h3 := sumc_le cF_le p.funcs
  unfold cP szPrg szR
  omega
theorem sameI_self (a : Prg) : sameI a a = true := (key_same a a).1 rfl
theorem bs_inj {x y : List UInt8} (h : bs x = bs y) : x = y := by
  have h2 := congrArg (fun s : ByteArray => s.data.toList) h
  simpa [bs] using h2
theorem key_q2 (a b : Prg) : eqB (bs (keyL a)) (bs (keyL b)) = sameI a b := by
  rw [Bool.eq_iff_iff, eqB_iff]
  exact ⟨fun h => (key_same a b).1 (bs_inj h), fun h => by rw [(key_same a b).2 h]⟩
theorem same_comm (a b : Prg) : sameI b a = sameI a b := by
  rw [Bool.eq_iff_iff, ← key_same, ← key_same]
  exact ⟨Eq.symm, Eq.symm⟩
theorem bne_bb (q : Bool) : (q != q) = false := by cases q <;> rfl
theorem bne_ll (x : List UInt8) : (x != x) = false := by simp
theorem key_sm {S : Nat → Prop} {w : World} {v : Value} {p : Prg} (h : prgV S w v p) (hs : szPrg p ≤ 1048576) : (keyL p).length ≤ 1099511627776 := by
  have := key_le (ok_prg h)
  omega
theorem uses_sm {p : Prg} (hs : szPrg p ≤ 1048576) : ∀ f ∈ p.funcs, (usesI f).length ≤ 1048576 := fun f hf => by
  have h1 := uses_le f
  have h2 := funcs_le hf
  omega
set_option maxRecDepth 100000 in
set_option maxHeartbeats 8000000 in
theorem law_same {W : World} (hT : Tab W) {m : Int} (hm : W.cell? ⟨0, 0, none⟩ = some (.int .i64 m)) {a b : Prg} {va vb : Value} (ha : prgV (fun _ => True) W va a) (hb : prgV (fun _ => True) W vb b) (sa : szPrg a ≤ 1048576) (sb : szPrg b ≤ 1048576) :
    Calls Tryz.prog 5 #[va, vb] W fun e w' => e = .returned (.bool true) ∧ Mod (fun _ => False) W w' := by
  have HA : Hd _ := ⟨ha⟩
  have HSA : Hd _ := ⟨sa⟩
  have HKL : Hd _ := ⟨key_sm ha sa⟩
  have HGA : Hd (∀ w, Mod (fun _ => False) W w → _) := ⟨fun w hw => Great_c ha (key_sm ha sa) (uses_sm sa) w hw⟩
  have HGB : Hd (∀ w, Mod (fun _ => False) W w → _) := ⟨fun w hw => Great_c hb (key_sm hb sb) (uses_sm sb) w hw⟩
  have HKA : Hd (∀ w, Mod (fun _ => False) W w → _) := ⟨fun w hw => Key_ans ha (key_sm ha sa) w hw⟩
  have HKB : Hd (∀ w, Mod (fun _ => False) W w → _) := ⟨fun w hw => Key_ans hb (key_sm hb sb) w hw⟩
  have HS1 : Hd (∀ w, Mod (fun _ => False) W w → _) := ⟨fun w hw => Same_ans ha hb w hw⟩
  have HS2 : Hd (∀ w, Mod (fun _ => False) W w → _) := ⟨fun w hw => Same_ans hb ha w hw⟩
  have HCL : Hd (∀ w, Mod (fun _ => False) W w → _) := ⟨fun w hw => Clone_own ha w hw⟩
  have hq := key_q2 a b
  rw [same_comm] at HS2
  obtain ⟨q, hqq⟩ : ∃ q, sameI a b = q := ⟨_, rfl⟩
  obtain ⟨KA, hKA⟩ : ∃ k, bs (keyL a) = k := ⟨_, rfl⟩
  obtain ⟨KB, hKB⟩ : ∃ k, bs (keyL b) = k := ⟨_, rfl⟩
  rw [hqq] at HS1 HS2 hq
  rw [hKA] at HKA hq
  rw [hKB] at HKB hq
  have zk : (KA.toList == KB.toList) = q := hq
  have HKE : Hd _ := ⟨hKA⟩
  have zq := bne_bb q
  have zl := bne_ll KA.toList
  clear hq hqq hKA hKB
  obtain ⟨oa, la, ca, ob, lb, cb, oc, lc, cc, rfl, _, _, _⟩ := ha
  obtain ⟨oa2, la2, ca2, ob2, lb2, cb2, oc2, lc2, cc2, rfl, _, _, _⟩ := hb
  have HAL : Hd (∀ A B : Obj, _) := ⟨fun A B => alive_s ((W.alloc A).alloc B) (hT.mod ((Mod.alloc _ _ _).trans (Mod.alloc _ _ _) (fun _ h => Or.inl h))) (((Mod.alloc (fun _ => False) W A).trans (Mod.alloc _ _ B) (fun _ h => Or.inl h)).cell' hm)⟩
  clear hT hm sa sb
  go_enter Tryz.func5, Tryz.ntmps5
  go_wp2_with fail
  refine (HAL.out _ _).mono ?_
  rintro e w1 ⟨rfl, hM⟩
  have HM1 : Hd (Mod (fun _ => False) W w1) := ⟨((Mod.alloc _ _ _).trans (Mod.alloc _ _ _) (fun _ h => Or.inl h)).trans hM (fun _ h => Or.inl h)⟩
  have HLT : Hd (W.heap.size + 1 < w1.heap.size) := ⟨by have := hM.size; simp at this; omega⟩
  have HBX : Hd (∀ w' : World, w'.heap[W.heap.size]? = w1.heap[W.heap.size]? → w'.heap[W.heap.size + 1]? = w1.heap[W.heap.size + 1]? → w'.cell? ⟨W.heap.size, 0, none⟩ = some (.slice oa la ca) ∧ w'.cell? ⟨W.heap.size, 1, none⟩ = some (.slice ob lb cb) ∧ w'.cell? ⟨W.heap.size, 2, none⟩ = some (.slice oc lc cc) ∧ w'.cell? ⟨W.heap.size + 1, 0, none⟩ = some (.slice oa2 la2 ca2) ∧ w'.cell? ⟨W.heap.size + 1, 1, none⟩ = some (.slice ob2 lb2 cb2) ∧ w'.cell? ⟨W.heap.size + 1, 2, none⟩ = some (.slice oc2 lc2 cc2)) := ⟨fun w' h0 h1 => by
    have q0 := h0.trans ((hM.block _ (lt2_0 _ _ _) (fun h => h)).trans (heap2_0 _ _ _))
    have q1 := h1.trans ((hM.block _ (lt2_1 _ _ _) (fun h => h)).trans (heap2_1 _ _ _))
    exact ⟨cell_b q0 rfl, cell_b q0 rfl, cell_b q0 rfl, cell_b q1 rfl, cell_b q1 rfl, cell_b q1 rfl⟩⟩
  have HSF : Hd (∀ w', Mod (fun _ => False) w1 w' → w'.cell? ⟨W.heap.size, 0, none⟩ = some (.slice oa la ca) ∧ w'.cell? ⟨W.heap.size, 1, none⟩ = some (.slice ob lb cb) ∧ w'.cell? ⟨W.heap.size, 2, none⟩ = some (.slice oc lc cc) ∧ w'.cell? ⟨W.heap.size + 1, 0, none⟩ = some (.slice oa2 la2 ca2) ∧ w'.cell? ⟨W.heap.size + 1, 1, none⟩ = some (.slice ob2 lb2 cb2) ∧ w'.cell? ⟨W.heap.size + 1, 2, none⟩ = some (.slice oc2 lc2 cc2)) := ⟨fun w' h => HBX.out w' (h.block _ (by have := HLT.out; omega) (fun h => h)) (h.block _ HLT.out (fun h => h))⟩
  clear hM HAL
  obtain ⟨s0, s1, s2, s3, s4, s5⟩ := HSF.out w1 (Mod.refl _ _)
  go_wp2_with fail
  refine (HGA.out w1 HM1.out).mono ?_
  rintro e w2 ⟨g1, rfl, hM⟩
  have HM2 : Hd (Mod (fun _ => False) w1 w2) := ⟨hM⟩
  clear hM s0 s1 s2 s3 s4 s5 HGA
  obtain ⟨s0, s1, s2, s3, s4, s5⟩ := HSF.out w2 HM2.out
  cases g1 with
  | true =>
    go_wp2
    go_ret
    exact ⟨rfl, HM1.out.trans HM2.out (fun _ h => Or.inl h)⟩
  | false =>
    go_wp2_with fail
    refine (HGB.out w2 (HM1.out.trans HM2.out (fun _ h => Or.inl h))).mono ?_
    rintro e w3 ⟨g2, rfl, hM⟩
    have HM3 : Hd (Mod (fun _ => False) w1 w3) := ⟨HM2.out.trans hM (fun _ h => Or.inl h)⟩
    clear hM s0 s1 s2 s3 s4 s5 HGB
    obtain ⟨s0, s1, s2, s3, s4, s5⟩ := HSF.out w3 HM3.out
    cases g2 with
    | true =>
      go_wp2
      go_ret
      exact ⟨rfl, HM1.out.trans HM3.out (fun _ h => Or.inl h)⟩
    | false =>
      go_wp2_with fail
      refine (HKA.out w3 (HM1.out.trans HM3.out (fun _ h => Or.inl h))).mono ?_
      rintro e w4 ⟨rfl, hM⟩
      have HM4 : Hd (Mod (fun _ => False) w1 w4) := ⟨HM3.out.trans hM (fun _ h => Or.inl h)⟩
      clear hM s0 s1 s2 s3 s4 s5
      dsimp only
      repeat (go_not_at_region 6; first | go_values | go_skip | go_guarded | go_step | go_upon | go_back)
      refine wp_region_quiet (C := fun w' => Mod (fun _ => False) w1 w') (by kernel_rfl) (by kernel_rfl) (HM4.out.trans (Mod.drew _ _) (fun _ h => Or.inl h)) ?_
      simp only [List.toList_toArray]
      go_big_quiet_want
      refine ⟨.agg #[.slice oa la ca, .slice ob lb cb, .slice oc lc cc], fun w hw => ?_, ?_⟩
      · obtain ⟨s0, s1, s2, s3, s4, s5⟩ := HSF.out w hw
        unfold Oper.quietAt
        go_simp
      go_big_quiet_on
      try simp only [Act.put, List.setIfInBounds_toArray, List.set_cons_zero, List.set_cons_succ]
      go_big_quiet_want
      refine ⟨.agg #[.slice oa2 la2 ca2, .slice ob2 lb2 cb2, .slice oc2 lc2 cc2], fun w hw => ?_, ?_⟩
      · obtain ⟨s0, s1, s2, s3, s4, s5⟩ := HSF.out w hw
        unfold Oper.quietAt
        go_simp
      go_big_quiet_on
      try simp only [Act.put, List.setIfInBounds_toArray, List.set_cons_zero, List.set_cons_succ]
      go_big_quiet_want
      refine ⟨.bool q, fun w hw => ?_, ?_⟩
      · unfold Oper.quietAt
        go_simp
        refine (calls_s (HS1.out w (HM1.out.trans hw (fun _ h => Or.inl h))) (by with_reducible rfl)).mono ?_
        rintro e w2 ⟨rfl, hM⟩
        exact ⟨rfl, hw.trans hM (fun _ h => Or.inl h)⟩
      go_big_quiet_on
      try simp only [Act.put, List.setIfInBounds_toArray, List.set_cons_zero, List.set_cons_succ]
      go_big_quiet_want
      refine ⟨.string KA, fun w hw => ?_, ?_⟩
      · obtain ⟨s0, s1, s2, s3, s4, s5⟩ := HSF.out w hw
        unfold Oper.quietAt
        go_simp
      go_big_quiet_on
      try simp only [Act.put, List.setIfInBounds_toArray, List.set_cons_zero, List.set_cons_succ]
      go_big_quiet_want
      refine ⟨.agg #[.slice oa2 la2 ca2, .slice ob2 lb2 cb2, .slice oc2 lc2 cc2], fun w hw => ?_, ?_⟩
      · obtain ⟨s0, s1, s2, s3, s4, s5⟩ := HSF.out w hw
        unfold Oper.quietAt
        go_simp
      go_big_quiet_on
      try simp only [Act.put, List.setIfInBounds_toArray, List.set_cons_zero, List.set_cons_succ]
      go_big_quiet_want
      refine ⟨.string KB, fun w hw => ?_, ?_⟩
      · unfold Oper.quietAt
        go_simp
        refine (calls_s (HKB.out w (HM1.out.trans hw (fun _ h => Or.inl h))) (by with_reducible rfl)).mono ?_
        rintro e w2 ⟨rfl, hM⟩
        exact ⟨rfl, hw.trans hM (fun _ h => Or.inl h)⟩
      go_big_quiet_on
      try simp only [Act.put, List.setIfInBounds_toArray, List.set_cons_zero, List.set_cons_succ]
      go_big_quiet_want
      refine ⟨.bool q, fun w hw => ?_, ?_⟩
      · obtain ⟨s0, s1, s2, s3, s4, s5⟩ := HSF.out w hw
        unfold Oper.quietAt
        go_simp
      go_big_quiet_on
      try simp only [Act.put, List.setIfInBounds_toArray, List.set_cons_zero, List.set_cons_succ]
      go_big_quiet_want
      refine ⟨.bool false, fun w hw => ?_, ?_⟩
      · obtain ⟨s0, s1, s2, s3, s4, s5⟩ := HSF.out w hw
        unfold Oper.quietAt
        go_simp
      go_big_quiet_on
      try simp only [Act.put, List.setIfInBounds_toArray, List.set_cons_zero, List.set_cons_succ]
      go_big_quiet_want
      refine ⟨.bool false, fun w hw => ?_, ?_⟩
      · obtain ⟨s0, s1, s2, s3, s4, s5⟩ := HSF.out w hw
        unfold Oper.quietAt
        go_simp
      go_big_quiet_on
      try simp only [Act.put, List.setIfInBounds_toArray, List.set_cons_zero, List.set_cons_succ]
      go_big_quiet_want
      refine ⟨.agg #[.slice oa2 la2 ca2, .slice ob2 lb2 cb2, .slice oc2 lc2 cc2], fun w hw => ?_, ?_⟩
      · obtain ⟨s0, s1, s2, s3, s4, s5⟩ := HSF.out w hw
        unfold Oper.quietAt
        go_simp
      go_big_quiet_on
      try simp only [Act.put, List.setIfInBounds_toArray, List.set_cons_zero, List.set_cons_succ]
      go_big_quiet_want
      refine ⟨.agg #[.slice oa la ca, .slice ob lb cb, .slice oc lc cc], fun w hw => ?_, ?_⟩
      · obtain ⟨s0, s1, s2, s3, s4, s5⟩ := HSF.out w hw
        unfold Oper.quietAt
        go_simp
      go_big_quiet_on
      try simp only [Act.put, List.setIfInBounds_toArray, List.set_cons_zero, List.set_cons_succ]
      go_big_quiet_want
      refine ⟨.bool q, fun w hw => ?_, ?_⟩
      · unfold Oper.quietAt
        go_simp
        refine (calls_s (HS2.out w (HM1.out.trans hw (fun _ h => Or.inl h))) (by with_reducible rfl)).mono ?_
        rintro e w2 ⟨rfl, hM⟩
        exact ⟨rfl, hw.trans hM (fun _ h => Or.inl h)⟩
      go_big_quiet_on
      try simp only [Act.put, List.setIfInBounds_toArray, List.set_cons_zero, List.set_cons_succ]
      go_big_quiet_want
      refine ⟨.string KA, fun w hw => ?_, ?_⟩
      · obtain ⟨s0, s1, s2, s3, s4, s5⟩ := HSF.out w hw
        unfold Oper.quietAt
        go_simp
      go_big_quiet_on
      try simp only [Act.put, List.setIfInBounds_toArray, List.set_cons_zero, List.set_cons_succ]
      go_big_quiet_want
      refine ⟨.agg #[.slice oa2 la2 ca2, .slice ob2 lb2 cb2, .slice oc2 lc2 cc2], fun w hw => ?_, ?_⟩
      · obtain ⟨s0, s1, s2, s3, s4, s5⟩ := HSF.out w hw
        unfold Oper.quietAt
        go_simp
      go_big_quiet_on
      try simp only [Act.put, List.setIfInBounds_toArray, List.set_cons_zero, List.set_cons_succ]
      go_big_quiet_want
      refine ⟨.string KB, fun w hw => ?_, ?_⟩
      · unfold Oper.quietAt
        go_simp
        refine (calls_s (HKB.out w (HM1.out.trans hw (fun _ h => Or.inl h))) (by with_reducible rfl)).mono ?_
        rintro e w2 ⟨rfl, hM⟩
        exact ⟨rfl, hw.trans hM (fun _ h => Or.inl h)⟩
      go_big_quiet_on
      try simp only [Act.put, List.setIfInBounds_toArray, List.set_cons_zero, List.set_cons_succ]
      go_big_quiet_want
      refine ⟨.bool q, fun w hw => ?_, ?_⟩
      · obtain ⟨s0, s1, s2, s3, s4, s5⟩ := HSF.out w hw
        unfold Oper.quietAt
        go_simp
      go_big_quiet_on
      try simp only [Act.put, List.setIfInBounds_toArray, List.set_cons_zero, List.set_cons_succ]
      go_big_quiet_want
      refine ⟨.bool false, fun w hw => ?_, ?_⟩
      · obtain ⟨s0, s1, s2, s3, s4, s5⟩ := HSF.out w hw
        unfold Oper.quietAt
        go_simp
      go_big_quiet_on
      try simp only [Act.put, List.setIfInBounds_toArray, List.set_cons_zero, List.set_cons_succ]
      go_big_quiet_want
      refine ⟨.bool false, fun w hw => ?_, ?_⟩
      · obtain ⟨s0, s1, s2, s3, s4, s5⟩ := HSF.out w hw
        unfold Oper.quietAt
        go_simp
      go_big_quiet_on
      try simp only [Act.put, List.setIfInBounds_toArray, List.set_cons_zero, List.set_cons_succ]
      refine wpQuiet_nil ?_
      intro wd hwd
      have HD : Hd (Mod (fun _ => False) w1 wd) := ⟨hwd⟩
      clear hwd
      obtain ⟨s0, s1, s2, s3, s4, s5⟩ := HSF.out wd HD.out
      go_wp2_with fail
      refine (HCL.out wd (HM1.out.trans HD.out (fun _ h => Or.inl h))).mono ?_
      rintro e w9 ⟨ox, cx, oy, cy, oz, cz, rfl, hM, hpc, _⟩
      have HM9 : Hd (Mod (fun _ => False) wd w9) := ⟨hM⟩
      have HPC : Hd _ := ⟨hpc⟩
      clear hM hpc s0 s1 s2 s3 s4 s5
      have HMA : Hd (Mod (fun _ => False) w1 (w9.alloc (.cells #[.slice ox a.structs.length cx, .slice oy a.enums.length cy, .slice oz a.funcs.length cz] 36))) := ⟨(HD.out.trans HM9.out (fun _ h => Or.inl h)).trans (Mod.alloc _ _ _) (fun _ h => Or.inl h)⟩
      have HCB : Hd (∀ w' : World, Mod (fun _ => False) (w9.alloc (.cells #[.slice ox a.structs.length cx, .slice oy a.enums.length cy, .slice oz a.funcs.length cz] 36)) w' → w'.cell? ⟨w9.heap.size, 0, none⟩ = some (.slice ox a.structs.length cx) ∧ w'.cell? ⟨w9.heap.size, 1, none⟩ = some (.slice oy a.enums.length cy) ∧ w'.cell? ⟨w9.heap.size, 2, none⟩ = some (.slice oz a.funcs.length cz)) := ⟨fun w' h => by
        have q := (h.block _ (lt1_0 _ _) (fun h => h)).trans (heap_new' _ _)
        exact ⟨cell_b q rfl, cell_b q rfl, cell_b q rfl⟩⟩
      have HAW : Hd (∀ w', Mod (fun _ => False) w9 w' → Calls Tryz.prog 23 #[.agg #[.slice ox a.structs.length cx, .slice oy a.enums.length cy, .slice oz a.funcs.length cz], .agg #[.slice oa la ca, .slice ob lb cb, .slice oc lc cc]] w' fun e w'' => e = .returned (.bool true) ∧ Mod (fun _ => False) w' w'') := ⟨fun w' h => by
        have h1 := HPC.out.wide
        have h2 := HA.out.keep ((HM1.out.trans (HD.out.trans HM9.out (fun _ h => Or.inl h)) (fun _ h => Or.inl h)).kp (fun _ => True))
        have h3 := Same_ans h1 h2 w' h
        rw [sameI_self] at h3
        exact h3⟩
      have HKC : Hd (∀ w', Mod (fun _ => False) w9 w' → Calls Tryz.prog 22 #[.agg #[.slice ox a.structs.length cx, .slice oy a.enums.length cy, .slice oz a.funcs.length cz]] w' fun e w'' => e = .returned (.string KA) ∧ Mod (fun _ => False) w' w'') := ⟨fun w' h => by
        have h3 := Key_ans HPC.out HKL.out w' h
        rw [HKE.out] at h3
        exact h3⟩
      have HSP : Hd (∀ w', Mod (fun _ => False) w9 w' → _) := ⟨fun w' h => spoil_c (B := wd.heap.size) (D := 1099511627776) HPC.out HM9.out.size (by have := cP_le a; have := HSA.out; omega) (Nat.le_refl _) w' h⟩
      have t0 : ∀ O, (w9.alloc O).cell? ⟨W.heap.size, 0, none⟩ = some (.slice oa la ca) := fun O => Lib.cell?_alloc_some O (HSF.out w9 (HD.out.trans HM9.out (fun _ h => Or.inl h))).1
      have t1 : ∀ O, (w9.alloc O).cell? ⟨W.heap.size, 1, none⟩ = some (.slice ob lb cb) := fun O => Lib.cell?_alloc_some O (HSF.out w9 (HD.out.trans HM9.out (fun _ h => Or.inl h))).2.1
      have t2 : ∀ O, (w9.alloc O).cell? ⟨W.heap.size, 2, none⟩ = some (.slice oc lc cc) := fun O => Lib.cell?_alloc_some O (HSF.out w9 (HD.out.trans HM9.out (fun _ h => Or.inl h))).2.2.1
      go_wp2_with fail
      refine (HAW.out _ (Mod.alloc _ _ _)).mono ?_
      rintro e w10 ⟨rfl, hM⟩
      have HM10 : Hd (Mod (fun _ => False) (w9.alloc (.cells #[.slice ox a.structs.length cx, .slice oy a.enums.length cy, .slice oz a.funcs.length cz] 36)) w10) := ⟨hM⟩
      clear hM t0 t1 t2
      obtain ⟨u0, u1, u2⟩ := HCB.out w10 HM10.out
      go_wp2_with fail
      refine (HKC.out w10 ((Mod.alloc _ _ _).trans HM10.out (fun _ h => Or.inl h))).mono ?_
      rintro e w11 ⟨rfl, hM⟩
      have HM11 : Hd (Mod (fun _ => False) (w9.alloc (.cells #[.slice ox a.structs.length cx, .slice oy a.enums.length cy, .slice oz a.funcs.length cz] 36)) w11) := ⟨HM10.out.trans hM (fun _ h => Or.inl h)⟩
      clear hM u0 u1 u2
      obtain ⟨u0, u1, u2⟩ := HCB.out w11 HM11.out
      go_wp2_with fail
      refine (HSP.out w11 ((Mod.alloc _ _ _).trans HM11.out (fun _ h => Or.inl h))).mono ?_
      rintro e w12 ⟨⟨vs, rfl⟩, hM⟩
      have HM12 : Hd (Mod (fun k => wd.heap.size ≤ k ∧ k < w9.heap.size) w9 w12) := ⟨hM⟩
      clear hM u0 u1 u2
      have HMW : Hd (Mod (fun _ => False) W w12) := ⟨(HM1.out.trans (HD.out.trans HM9.out (fun _ h => Or.inl h)) (fun _ h => Or.inl h)).trans HM12.out (fun i hi => Or.inr (Nat.le_trans (HM1.out.trans HD.out (fun _ h => Or.inl h)).size hi.1))⟩
      have hlt := HLT.out
      have hd1 := HD.out.size
      have hd9 := HM9.out.size
      obtain ⟨v0, v1, v2, _, _, _⟩ := HBX.out w12
        ((HM12.out.block W.heap.size (by omega) (fun h => by omega)).trans ((HD.out.trans HM9.out (fun _ h => Or.inl h)).block W.heap.size (by omega) (fun h => h)))
        ((HM12.out.block (W.heap.size + 1) (by omega) (fun h => by omega)).trans ((HD.out.trans HM9.out (fun _ h => Or.inl h)).block (W.heap.size + 1) (by omega) (fun h => h)))
      clear hlt hd1 hd9
      go_wp2_with fail
      refine (HKA.out w12 HMW.out).mono ?_
      rintro e w13 ⟨rfl, hM⟩
      have HM13 : Hd (Mod (fun _ => False) W w13) := ⟨HMW.out.trans hM (fun _ h => Or.inl h)⟩
      clear hM v0 v1 v2
      go_wp2
      go_ret
      exact ⟨by first | rfl | (simp; done), HM13.out⟩
end Go.Proofs.YtpodeccpibnlbaaGreatDoor
