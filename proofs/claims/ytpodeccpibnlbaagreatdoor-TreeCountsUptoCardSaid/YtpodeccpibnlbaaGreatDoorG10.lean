/- Equal, sameStmt, walked. sameTerm, walked. The closures on blocks, structs and enums of Same, walked. sameFunc and Same, walked. -/
import Derived.Lib.SliceRun
import Derived.Test.YtpodeccpibnlbaaGreatDoorG08
import Derived.Test.YtpodeccpibnlbaaGreatDoorG09
namespace Go.Proofs.YtpodeccpibnlbaaGreatDoor
set_option linter.unusedVariables false
set_option linter.unusedSimpArgs false
open Go.RowKit
section
variable {S : Nat → Prop} {w0 : World}
set_option maxRecDepth 100000 in
set_option maxHeartbeats 2000000 in
theorem Equal_ans {v v2 : Value} {s t : Pl} (hv : plV S w0 v s) (hv2 : plV S w0 v2 t) : Ans 15 #[v, v2] w0 (.bool (equalP s t)) := by
  intro w hw
  obtain ⟨h1, oa, la, ca, rfl, k1⟩ := hv
  obtain ⟨h12, oa2, la2, ca2, rfl, k12⟩ := hv2
  have HE : Hd (∀ w', Mod (fun _ => False) w w' → Calls Tryz.prog 40 #[.slice oa la ca, .slice oa2 la2 ca2] w' _) := ⟨fun w' h' => (eq_str k1 k12) w' (hw.trans h' (fun _ h => Or.inl h))⟩
  clear h1 k1 h12 k12 hw
  obtain ⟨r, hr⟩ : ∃ r, equalP s t = r := ⟨_, rfl⟩
  have HR : Hd _ := ⟨hr⟩
  rw [hr]
  clear hr
  obtain ⟨q0, hq⟩ : ∃ q, allZ eqB s.steps t.steps = q := ⟨_, rfl⟩
  rw [hq] at HE
  have Hq0 : Hd _ := ⟨hq⟩
  clear hq
  go_enter Tryz.func15, Tryz.ntmps15
  cases t0 : (s.loc.toList == t.loc.toList) with
  | true =>
    have Ht0 : Hd (eqB s.loc t.loc = true) := ⟨t0⟩
    go_wp2_with fail
    refine (HE.out _ (by (first | exact (Mod.alloc _ _ _).trans (Mod.alloc _ _ _) (fun _ h => Or.inl h)))).mono ?_
    rintro e w1 ⟨rfl, hM⟩
    have HM1 : Hd (Mod (fun _ => False) w w1) := ⟨by refine Mod.trans ?_ hM (fun _ h => Or.inl h); (first | exact (Mod.alloc _ _ _).trans (Mod.alloc _ _ _) (fun _ h => Or.inl h))⟩
    have hb : w1.heap[w.heap.size]? = some (.cells #[.string s.loc, .slice oa la ca] 24) := (hM.block _ (lt2_0 _ _ _) (fun h => h)).trans (heap2_0 _ _ _)
    have HB1_0 : Hd _ := ⟨hb⟩
    have c1_0_0 : w1.cell? ⟨w.heap.size, 0, none⟩ = some (.string s.loc) := by simp [World.cell?, hb]
    have c1_0_1 : w1.cell? ⟨w.heap.size, 1, none⟩ = some (.slice oa la ca) := by simp [World.cell?, hb]
    clear hb
    have hb : w1.heap[w.heap.size + 1]? = some (.cells #[.string t.loc, .slice oa2 la2 ca2] 24) := (hM.block _ (lt2_1 _ _ _) (fun h => h)).trans (heap2_1 _ _ _)
    have HB1_1 : Hd _ := ⟨hb⟩
    have c1_1_0 : w1.cell? ⟨w.heap.size + 1, 0, none⟩ = some (.string t.loc) := by simp [World.cell?, hb]
    have c1_1_1 : w1.cell? ⟨w.heap.size + 1, 1, none⟩ = some (.slice oa2 la2 ca2) := by simp [World.cell?, hb]
    clear hb
    clear hM
    cases q0 with
    | true =>
      go_wp2
      go_ret
      exact ⟨by rw [show r = true from by rw [← HR.out]; simp [equalP, Ht0.out, Hq0.out]]; first | rfl | (simp; done) | (simp [Ht0.out, Hq0.out]; done), by (first | exact HM1.out | exact Mod.refl _ _)⟩
    | false =>
      go_wp2
      go_ret
      exact ⟨by rw [show r = false from by rw [← HR.out]; simp [equalP, Ht0.out, Hq0.out]]; first | rfl | (simp; done) | (simp [Ht0.out, Hq0.out]; done), by (first | exact HM1.out | exact Mod.refl _ _)⟩
  | false =>
    have Ht0 : Hd (eqB s.loc t.loc = false) := ⟨t0⟩
    go_wp2
    go_ret
    exact ⟨by rw [show r = false from by rw [← HR.out]; simp [equalP, Ht0.out]]; first | rfl | (simp; done) | (simp [Ht0.out]; done), by (first | exact (Mod.alloc _ _ _).trans (Mod.alloc _ _ _) (fun _ h => Or.inl h))⟩
theorem fn_15 : Fn 15 := fn_of Tryz.func15 (by decide +kernel) (by kernel_rfl)
set_option maxRecDepth 100000 in
set_option maxHeartbeats 2000000 in
theorem sameStmt_ans {v v2 : Value} {s t : Stm} (hv : stmV S w0 v s) (hv2 : stmV S w0 v2 t) : Ans 115 #[v, v2] w0 (.bool (stmEqI s t)) := by
  intro w hw
  obtain ⟨h0, h1, h2, h3, h4, h5, ob, lb, cb, oa, la, ca, rfl, k1, k2⟩ := hv
  obtain ⟨h02, h12, h22, h32, h42, h52, ob2, lb2, cb2, oa2, la2, ca2, rfl, k12, k22⟩ := hv2
  have HP : Hd (∀ w', Mod (fun _ => False) w w' → Calls Tryz.prog 15 #[.agg #[.string s.dest.loc, .slice ob lb cb], .agg #[.string t.dest.loc, .slice ob2 lb2 cb2]] w' _) := ⟨fun w' h' => (Equal_ans (s := s.dest) (t := t.dest) ⟨h5, ob, lb, cb, rfl, k1⟩ ⟨h52, ob2, lb2, cb2, rfl, k12⟩) w' (hw.trans h' (fun _ h => Or.inl h))⟩
  have HA : Hd (∀ w', Mod (fun _ => False) w w' → Calls Tryz.prog 156 #[.slice oa la ca, .slice oa2 la2 ca2, .func (.func 15) #[] #[]] w' _) := ⟨fun w' h' => (eqf_pl k2 k22 equalP 15 fn_15 (fun v x v2 y hv hv2 _ _ => Equal_ans hv hv2)) w' (hw.trans h' (fun _ h => Or.inl h))⟩
  clear h0 h1 h2 h3 h4 h5 k1 k2 h02 h12 h22 h32 h42 h52 k12 k22 hw
  obtain ⟨r, hr⟩ : ∃ r, stmEqI s t = r := ⟨_, rfl⟩
  have HR : Hd _ := ⟨hr⟩
  rw [hr]
  clear hr
  obtain ⟨q0, hq⟩ : ∃ q, equalP s.dest t.dest = q := ⟨_, rfl⟩
  rw [hq] at HP
  have Hq0 : Hd _ := ⟨hq⟩
  clear hq
  obtain ⟨q1, hq⟩ : ∃ q, allZ equalP s.args t.args = q := ⟨_, rfl⟩
  rw [hq] at HA
  have Hq1 : Hd _ := ⟨hq⟩
  clear hq
  go_enter Tryz.func115, Tryz.ntmps115
  by_cases t0 : s.kind = t.kind
  · have Ht0 : Hd _ := ⟨t0⟩
    have zt0 : ((s.kind : Int) == t.kind) = true := by rw [t0]; simp
    clear t0
    by_cases t1 : s.n = t.n
    · have Ht1 : Hd _ := ⟨t1⟩
      have zt1 : ((s.n : Int) == t.n) = true := by rw [t1]; simp
      clear t1
      cases t2 : (s.name.toList == t.name.toList) with
      | true =>
        have Ht2 : Hd (eqB s.name t.name = true) := ⟨t2⟩
        cases t3 : (s.variant.toList == t.variant.toList) with
        | true =>
          have Ht3 : Hd (eqB s.variant t.variant = true) := ⟨t3⟩
          go_wp2_with fail
          refine (HP.out _ (by (first | exact (Mod.alloc _ _ _).trans (Mod.alloc _ _ _) (fun _ h => Or.inl h)))).mono ?_
          rintro e w1 ⟨rfl, hM⟩
          have HM1 : Hd (Mod (fun _ => False) w w1) := ⟨by refine Mod.trans ?_ hM (fun _ h => Or.inl h); (first | exact (Mod.alloc _ _ _).trans (Mod.alloc _ _ _) (fun _ h => Or.inl h))⟩
          have hb : w1.heap[w.heap.size]? = some (.cells #[.int .i64 s.pos, .int .i64 s.kind, .string s.dest.loc, .slice ob lb cb, .int .i64 s.n, .string s.name, .string s.variant, .slice oa la ca] 68) := (hM.block _ (lt2_0 _ _ _) (fun h => h)).trans (heap2_0 _ _ _)
          have HB1_0 : Hd _ := ⟨hb⟩
          have c1_0_0 : w1.cell? ⟨w.heap.size, 0, none⟩ = some (.int .i64 s.pos) := by simp [World.cell?, hb]
          have c1_0_1 : w1.cell? ⟨w.heap.size, 1, none⟩ = some (.int .i64 s.kind) := by simp [World.cell?, hb]
          have c1_0_2 : w1.cell? ⟨w.heap.size, 2, none⟩ = some (.string s.dest.loc) := by simp [World.cell?, hb]
          have c1_0_3 : w1.cell? ⟨w.heap.size, 3, none⟩ = some (.slice ob lb cb) := by simp [World.cell?, hb]
          have c1_0_4 : w1.cell? ⟨w.heap.size, 4, none⟩ = some (.int .i64 s.n) := by simp [World.cell?, hb]
          have c1_0_5 : w1.cell? ⟨w.heap.size, 5, none⟩ = some (.string s.name) := by simp [World.cell?, hb]
          have c1_0_6 : w1.cell? ⟨w.heap.size, 6, none⟩ = some (.string s.variant) := by simp [World.cell?, hb]
          have c1_0_7 : w1.cell? ⟨w.heap.size, 7, none⟩ = some (.slice oa la ca) := by simp [World.cell?, hb]
          clear hb
          have hb : w1.heap[w.heap.size + 1]? = some (.cells #[.int .i64 t.pos, .int .i64 t.kind, .string t.dest.loc, .slice ob2 lb2 cb2, .int .i64 t.n, .string t.name, .string t.variant, .slice oa2 la2 ca2] 68) := (hM.block _ (lt2_1 _ _ _) (fun h => h)).trans (heap2_1 _ _ _)
          have HB1_1 : Hd _ := ⟨hb⟩
          have c1_1_0 : w1.cell? ⟨w.heap.size + 1, 0, none⟩ = some (.int .i64 t.pos) := by simp [World.cell?, hb]
          have c1_1_1 : w1.cell? ⟨w.heap.size + 1, 1, none⟩ = some (.int .i64 t.kind) := by simp [World.cell?, hb]
          have c1_1_2 : w1.cell? ⟨w.heap.size + 1, 2, none⟩ = some (.string t.dest.loc) := by simp [World.cell?, hb]
          have c1_1_3 : w1.cell? ⟨w.heap.size + 1, 3, none⟩ = some (.slice ob2 lb2 cb2) := by simp [World.cell?, hb]
          have c1_1_4 : w1.cell? ⟨w.heap.size + 1, 4, none⟩ = some (.int .i64 t.n) := by simp [World.cell?, hb]
          have c1_1_5 : w1.cell? ⟨w.heap.size + 1, 5, none⟩ = some (.string t.name) := by simp [World.cell?, hb]
          have c1_1_6 : w1.cell? ⟨w.heap.size + 1, 6, none⟩ = some (.string t.variant) := by simp [World.cell?, hb]
          have c1_1_7 : w1.cell? ⟨w.heap.size + 1, 7, none⟩ = some (.slice oa2 la2 ca2) := by simp [World.cell?, hb]
          clear hb
          clear hM
          cases q0 with
          | true =>
            go_wp2_with fail
            refine (HA.out _ (by (first | exact HM1.out | exact Mod.refl _ _))).mono ?_
            rintro e w2 ⟨rfl, hM⟩
            have HM2 : Hd (Mod (fun _ => False) w w2) := ⟨by refine Mod.trans ?_ hM (fun _ h => Or.inl h); (first | exact HM1.out | exact Mod.refl _ _)⟩
            have hb : w2.heap[w.heap.size]? = some (.cells #[.int .i64 s.pos, .int .i64 s.kind, .string s.dest.loc, .slice ob lb cb, .int .i64 s.n, .string s.name, .string s.variant, .slice oa la ca] 68) := (hM.block _ ((Array.getElem?_eq_some_iff.1 HB1_0.out).1) (fun h => h)).trans HB1_0.out
            have HB2_0 : Hd _ := ⟨hb⟩
            have c2_0_0 : w2.cell? ⟨w.heap.size, 0, none⟩ = some (.int .i64 s.pos) := by simp [World.cell?, hb]
            have c2_0_1 : w2.cell? ⟨w.heap.size, 1, none⟩ = some (.int .i64 s.kind) := by simp [World.cell?, hb]
            have c2_0_2 : w2.cell? ⟨w.heap.size, 2, none⟩ = some (.string s.dest.loc) := by simp [World.cell?, hb]
            have c2_0_3 : w2.cell? ⟨w.heap.size, 3, none⟩ = some (.slice ob lb cb) := by simp [World.cell?, hb]
            have c2_0_4 : w2.cell? ⟨w.heap.size, 4, none⟩ = some (.int .i64 s.n) := by simp [World.cell?, hb]
            have c2_0_5 : w2.cell? ⟨w.heap.size, 5, none⟩ = some (.string s.name) := by simp [World.cell?, hb]
            have c2_0_6 : w2.cell? ⟨w.heap.size, 6, none⟩ = some (.string s.variant) := by simp [World.cell?, hb]
            have c2_0_7 : w2.cell? ⟨w.heap.size, 7, none⟩ = some (.slice oa la ca) := by simp [World.cell?, hb]
            clear hb
            clear c1_0_0 c1_0_1 c1_0_2 c1_0_3 c1_0_4 c1_0_5 c1_0_6 c1_0_7
            have hb : w2.heap[w.heap.size + 1]? = some (.cells #[.int .i64 t.pos, .int .i64 t.kind, .string t.dest.loc, .slice ob2 lb2 cb2, .int .i64 t.n, .string t.name, .string t.variant, .slice oa2 la2 ca2] 68) := (hM.block _ ((Array.getElem?_eq_some_iff.1 HB1_1.out).1) (fun h => h)).trans HB1_1.out
            have HB2_1 : Hd _ := ⟨hb⟩
            have c2_1_0 : w2.cell? ⟨w.heap.size + 1, 0, none⟩ = some (.int .i64 t.pos) := by simp [World.cell?, hb]
            have c2_1_1 : w2.cell? ⟨w.heap.size + 1, 1, none⟩ = some (.int .i64 t.kind) := by simp [World.cell?, hb]
            have c2_1_2 : w2.cell? ⟨w.heap.size + 1, 2, none⟩ = some (.string t.dest.loc) := by simp [World.cell?, hb]
            have c2_1_3 : w2.cell? ⟨w.heap.size + 1, 3, none⟩ = some (.slice ob2 lb2 cb2) := by simp [World.cell?, hb]
            have c2_1_4 : w2.cell? ⟨w.heap.size + 1, 4, none⟩ = some (.int .i64 t.n) := by simp [World.cell?, hb]
            have c2_1_5 : w2.cell? ⟨w.heap.size + 1, 5, none⟩ = some (.string t.name) := by simp [World.cell?, hb]
            have c2_1_6 : w2.cell? ⟨w.heap.size + 1, 6, none⟩ = some (.string t.variant) := by simp [World.cell?, hb]
            have c2_1_7 : w2.cell? ⟨w.heap.size + 1, 7, none⟩ = some (.slice oa2 la2 ca2) := by simp [World.cell?, hb]
            clear hb
            clear c1_1_0 c1_1_1 c1_1_2 c1_1_3 c1_1_4 c1_1_5 c1_1_6 c1_1_7
            clear hM
            cases q1 with
            | true =>
              go_wp2
              go_ret
              exact ⟨by rw [show r = true from by rw [← HR.out]; simp [stmEqI, Ht0.out, Ht1.out, Ht2.out, Ht3.out, Hq0.out, Hq1.out]]; first | rfl | (simp; done) | (simp [Ht0.out, Ht1.out, Ht2.out, Ht3.out, Hq0.out, Hq1.out]; done), by (first | exact HM2.out | exact Mod.refl _ _)⟩
            | false =>
              go_wp2
              go_ret
              exact ⟨by rw [show r = false from by rw [← HR.out]; simp [stmEqI, Ht0.out, Ht1.out, Ht2.out, Ht3.out, Hq0.out, Hq1.out]]; first | rfl | (simp; done) | (simp [Ht0.out, Ht1.out, Ht2.out, Ht3.out, Hq0.out, Hq1.out]; done), by (first | exact HM2.out | exact Mod.refl _ _)⟩
          | false =>
            go_wp2
            go_ret
            exact ⟨by rw [show r = false from by rw [← HR.out]; simp [stmEqI, Ht0.out, Ht1.out, Ht2.out, Ht3.out, Hq0.out]]; first | rfl | (simp; done) | (simp [Ht0.out, Ht1.out, Ht2.out, Ht3.out, Hq0.out]; done), by (first | exact HM1.out | exact Mod.refl _ _)⟩
        | false =>
          have Ht3 : Hd (eqB s.variant t.variant = false) := ⟨t3⟩
          go_wp2
          go_ret
          exact ⟨by rw [show r = false from by rw [← HR.out]; simp [stmEqI, Ht0.out, Ht1.out, Ht2.out, Ht3.out]]; first | rfl | (simp; done) | (simp [Ht0.out, Ht1.out, Ht2.out, Ht3.out]; done), by (first | exact (Mod.alloc _ _ _).trans (Mod.alloc _ _ _) (fun _ h => Or.inl h))⟩
      | false =>
        have Ht2 : Hd (eqB s.name t.name = false) := ⟨t2⟩
        go_wp2
        go_ret
        exact ⟨by rw [show r = false from by rw [← HR.out]; simp [stmEqI, Ht0.out, Ht1.out, Ht2.out]]; first | rfl | (simp; done) | (simp [Ht0.out, Ht1.out, Ht2.out]; done), by (first | exact (Mod.alloc _ _ _).trans (Mod.alloc _ _ _) (fun _ h => Or.inl h))⟩
    · have Ht1 : Hd _ := ⟨t1⟩
      have zt1 : ((s.n : Int) == t.n) = false := by rw [beq_eq_false_iff_ne]; omega
      clear t1
      go_wp2
      go_ret
      exact ⟨by rw [show r = false from by rw [← HR.out]; simp [stmEqI, Ht0.out, Ht1.out]]; first | rfl | (simp; done) | (simp [Ht0.out, Ht1.out]; done), by (first | exact (Mod.alloc _ _ _).trans (Mod.alloc _ _ _) (fun _ h => Or.inl h))⟩
  · have Ht0 : Hd _ := ⟨t0⟩
    have zt0 : ((s.kind : Int) == t.kind) = false := by rw [beq_eq_false_iff_ne]; omega
    clear t0
    go_wp2
    go_ret
    exact ⟨by rw [show r = false from by rw [← HR.out]; simp [stmEqI, Ht0.out]]; first | rfl | (simp; done) | (simp [Ht0.out]; done), by (first | exact (Mod.alloc _ _ _).trans (Mod.alloc _ _ _) (fun _ h => Or.inl h))⟩
theorem fn_115 : Fn 115 := fn_of Tryz.func115 (by decide +kernel) (by kernel_rfl)
end
end Go.Proofs.YtpodeccpibnlbaaGreatDoor
namespace Go.Proofs.YtpodeccpibnlbaaGreatDoor
set_option linter.unusedVariables false
set_option linter.unusedSimpArgs false
open Go.RowKit
section
variable {S : Nat → Prop} {w0 : World}
set_option maxRecDepth 100000 in
set_option maxHeartbeats 2000000 in
theorem sameTerm_ans {v v2 : Value} {s t : Trm} (hv : trmV S w0 v s) (hv2 : trmV S w0 v2 t) : Ans 116 #[v, v2] w0 (.bool (trmEqI s t)) := by
  intro w hw
  obtain ⟨h0, h1, h3, h5, ob, lb, cb, oa, la, ca, oc, lc, cc, od, ld, cd, rfl, k1, k2, k3, k4⟩ := hv
  obtain ⟨h02, h12, h32, h52, ob2, lb2, cb2, oa2, la2, ca2, oc2, lc2, cc2, od2, ld2, cd2, rfl, k12, k22, k32, k42⟩ := hv2
  have HP : Hd (∀ w', Mod (fun _ => False) w w' → Calls Tryz.prog 15 #[.agg #[.string s.dest.loc, .slice ob lb cb], .agg #[.string t.dest.loc, .slice ob2 lb2 cb2]] w' _) := ⟨fun w' h' => (Equal_ans (s := s.dest) (t := t.dest) ⟨h5, ob, lb, cb, rfl, k1⟩ ⟨h52, ob2, lb2, cb2, rfl, k12⟩) w' (hw.trans h' (fun _ h => Or.inl h))⟩
  have HA : Hd (∀ w', Mod (fun _ => False) w w' → Calls Tryz.prog 156 #[.slice oa la ca, .slice oa2 la2 ca2, .func (.func 15) #[] #[]] w' _) := ⟨fun w' h' => (eqf_pl k2 k22 equalP 15 fn_15 (fun v x v2 y hv hv2 _ _ => Equal_ans hv hv2)) w' (hw.trans h' (fun _ h => Or.inl h))⟩
  have HB : Hd (∀ w', Mod (fun _ => False) w w' → Calls Tryz.prog 40 #[.slice oc lc cc, .slice oc2 lc2 cc2] w' _) := ⟨fun w' h' => (eq_str k3 k32) w' (hw.trans h' (fun _ h => Or.inl h))⟩
  have HC : Hd (∀ w', Mod (fun _ => False) w w' → Calls Tryz.prog 157 #[.slice od ld cd, .slice od2 ld2 cd2] w' _) := ⟨fun w' h' => (eq_arm k4 k42) w' (hw.trans h' (fun _ h => Or.inl h))⟩
  clear h0 h1 h3 h5 k1 k2 k3 k4 h02 h12 h32 h52 k12 k22 k32 k42 hw
  obtain ⟨r, hr⟩ : ∃ r, trmEqI s t = r := ⟨_, rfl⟩
  have HR : Hd _ := ⟨hr⟩
  rw [hr]
  clear hr
  obtain ⟨q0, hq⟩ : ∃ q, equalP s.dest t.dest = q := ⟨_, rfl⟩
  rw [hq] at HP
  have Hq0 : Hd _ := ⟨hq⟩
  clear hq
  obtain ⟨q1, hq⟩ : ∃ q, allZ equalP s.args t.args = q := ⟨_, rfl⟩
  rw [hq] at HA
  have Hq1 : Hd _ := ⟨hq⟩
  clear hq
  obtain ⟨q2, hq⟩ : ∃ q, allZ eqB s.blocks t.blocks = q := ⟨_, rfl⟩
  rw [hq] at HB
  have Hq2 : Hd _ := ⟨hq⟩
  clear hq
  obtain ⟨q3, hq⟩ : ∃ q, allZ armEqI s.arms t.arms = q := ⟨_, rfl⟩
  rw [hq] at HC
  have Hq3 : Hd _ := ⟨hq⟩
  clear hq
  go_enter Tryz.func116, Tryz.ntmps116
  by_cases t0 : s.kind = t.kind
  · have Ht0 : Hd _ := ⟨t0⟩
    have zt0 : ((s.kind : Int) == t.kind) = true := by rw [t0]; simp
    clear t0
    cases t2 : (s.name.toList == t.name.toList) with
    | true =>
      have Ht2 : Hd (eqB s.name t.name = true) := ⟨t2⟩
      go_wp2_with fail
      refine (HP.out _ (by (first | exact (Mod.alloc _ _ _).trans (Mod.alloc _ _ _) (fun _ h => Or.inl h)))).mono ?_
      rintro e w1 ⟨rfl, hM⟩
      have HM1 : Hd (Mod (fun _ => False) w w1) := ⟨by refine Mod.trans ?_ hM (fun _ h => Or.inl h); (first | exact (Mod.alloc _ _ _).trans (Mod.alloc _ _ _) (fun _ h => Or.inl h))⟩
      have hb : w1.heap[w.heap.size]? = some (.cells #[.int .i64 s.pos, .int .i64 s.kind, .string s.dest.loc, .slice ob lb cb, .string s.name, .slice oa la ca, .slice oc lc cc, .slice od ld cd] 61) := (hM.block _ (lt2_0 _ _ _) (fun h => h)).trans (heap2_0 _ _ _)
      have HB1_0 : Hd _ := ⟨hb⟩
      have c1_0_0 : w1.cell? ⟨w.heap.size, 0, none⟩ = some (.int .i64 s.pos) := by simp [World.cell?, hb]
      have c1_0_1 : w1.cell? ⟨w.heap.size, 1, none⟩ = some (.int .i64 s.kind) := by simp [World.cell?, hb]
      have c1_0_2 : w1.cell? ⟨w.heap.size, 2, none⟩ = some (.string s.dest.loc) := by simp [World.cell?, hb]
      have c1_0_3 : w1.cell? ⟨w.heap.size, 3, none⟩ = some (.slice ob lb cb) := by simp [World.cell?, hb]
      have c1_0_4 : w1.cell? ⟨w.heap.size, 4, none⟩ = some (.string s.name) := by simp [World.cell?, hb]
      have c1_0_5 : w1.cell? ⟨w.heap.size, 5, none⟩ = some (.slice oa la ca) := by simp [World.cell?, hb]
      have c1_0_6 : w1.cell? ⟨w.heap.size, 6, none⟩ = some (.slice oc lc cc) := by simp [World.cell?, hb]
      have c1_0_7 : w1.cell? ⟨w.heap.size, 7, none⟩ = some (.slice od ld cd) := by simp [World.cell?, hb]
      clear hb
      have hb : w1.heap[w.heap.size + 1]? = some (.cells #[.int .i64 t.pos, .int .i64 t.kind, .string t.dest.loc, .slice ob2 lb2 cb2, .string t.name, .slice oa2 la2 ca2, .slice oc2 lc2 cc2, .slice od2 ld2 cd2] 61) := (hM.block _ (lt2_1 _ _ _) (fun h => h)).trans (heap2_1 _ _ _)
      have HB1_1 : Hd _ := ⟨hb⟩
      have c1_1_0 : w1.cell? ⟨w.heap.size + 1, 0, none⟩ = some (.int .i64 t.pos) := by simp [World.cell?, hb]
      have c1_1_1 : w1.cell? ⟨w.heap.size + 1, 1, none⟩ = some (.int .i64 t.kind) := by simp [World.cell?, hb]
      have c1_1_2 : w1.cell? ⟨w.heap.size + 1, 2, none⟩ = some (.string t.dest.loc) := by simp [World.cell?, hb]
      have c1_1_3 : w1.cell? ⟨w.heap.size + 1, 3, none⟩ = some (.slice ob2 lb2 cb2) := by simp [World.cell?, hb]
      have c1_1_4 : w1.cell? ⟨w.heap.size + 1, 4, none⟩ = some (.string t.name) := by simp [World.cell?, hb]
      have c1_1_5 : w1.cell? ⟨w.heap.size + 1, 5, none⟩ = some (.slice oa2 la2 ca2) := by simp [World.cell?, hb]
      have c1_1_6 : w1.cell? ⟨w.heap.size + 1, 6, none⟩ = some (.slice oc2 lc2 cc2) := by simp [World.cell?, hb]
      have c1_1_7 : w1.cell? ⟨w.heap.size + 1, 7, none⟩ = some (.slice od2 ld2 cd2) := by simp [World.cell?, hb]
      clear hb
      clear hM
      cases q0 with
      | true =>
        go_wp2_with fail
        refine (HA.out _ (by (first | exact HM1.out | exact Mod.refl _ _))).mono ?_
        rintro e w2 ⟨rfl, hM⟩
        have HM2 : Hd (Mod (fun _ => False) w w2) := ⟨by refine Mod.trans ?_ hM (fun _ h => Or.inl h); (first | exact HM1.out | exact Mod.refl _ _)⟩
        have hb : w2.heap[w.heap.size]? = some (.cells #[.int .i64 s.pos, .int .i64 s.kind, .string s.dest.loc, .slice ob lb cb, .string s.name, .slice oa la ca, .slice oc lc cc, .slice od ld cd] 61) := (hM.block _ ((Array.getElem?_eq_some_iff.1 HB1_0.out).1) (fun h => h)).trans HB1_0.out
        have HB2_0 : Hd _ := ⟨hb⟩
        have c2_0_0 : w2.cell? ⟨w.heap.size, 0, none⟩ = some (.int .i64 s.pos) := by simp [World.cell?, hb]
        have c2_0_1 : w2.cell? ⟨w.heap.size, 1, none⟩ = some (.int .i64 s.kind) := by simp [World.cell?, hb]
        have c2_0_2 : w2.cell? ⟨w.heap.size, 2, none⟩ = some (.string s.dest.loc) := by simp [World.cell?, hb]
        have c2_0_3 : w2.cell? ⟨w.heap.size, 3, none⟩ = some (.slice ob lb cb) := by simp [World.cell?, hb]
        have c2_0_4 : w2.cell? ⟨w.heap.size, 4, none⟩ = some (.string s.name) := by simp [World.cell?, hb]
        have c2_0_5 : w2.cell? ⟨w.heap.size, 5, none⟩ = some (.slice oa la ca) := by simp [World.cell?, hb]
        have c2_0_6 : w2.cell? ⟨w.heap.size, 6, none⟩ = some (.slice oc lc cc) := by simp [World.cell?, hb]
        have c2_0_7 : w2.cell? ⟨w.heap.size, 7, none⟩ = some (.slice od ld cd) := by simp [World.cell?, hb]
        clear hb
        clear c1_0_0 c1_0_1 c1_0_2 c1_0_3 c1_0_4 c1_0_5 c1_0_6 c1_0_7
        have hb : w2.heap[w.heap.size + 1]? = some (.cells #[.int .i64 t.pos, .int .i64 t.kind, .string t.dest.loc, .slice ob2 lb2 cb2, .string t.name, .slice oa2 la2 ca2, .slice oc2 lc2 cc2, .slice od2 ld2 cd2] 61) := (hM.block _ ((Array.getElem?_eq_some_iff.1 HB1_1.out).1) (fun h => h)).trans HB1_1.out
        have HB2_1 : Hd _ := ⟨hb⟩
        have c2_1_0 : w2.cell? ⟨w.heap.size + 1, 0, none⟩ = some (.int .i64 t.pos) := by simp [World.cell?, hb]
        have c2_1_1 : w2.cell? ⟨w.heap.size + 1, 1, none⟩ = some (.int .i64 t.kind) := by simp [World.cell?, hb]
        have c2_1_2 : w2.cell? ⟨w.heap.size + 1, 2, none⟩ = some (.string t.dest.loc) := by simp [World.cell?, hb]
        have c2_1_3 : w2.cell? ⟨w.heap.size + 1, 3, none⟩ = some (.slice ob2 lb2 cb2) := by simp [World.cell?, hb]
        have c2_1_4 : w2.cell? ⟨w.heap.size + 1, 4, none⟩ = some (.string t.name) := by simp [World.cell?, hb]
        have c2_1_5 : w2.cell? ⟨w.heap.size + 1, 5, none⟩ = some (.slice oa2 la2 ca2) := by simp [World.cell?, hb]
        have c2_1_6 : w2.cell? ⟨w.heap.size + 1, 6, none⟩ = some (.slice oc2 lc2 cc2) := by simp [World.cell?, hb]
        have c2_1_7 : w2.cell? ⟨w.heap.size + 1, 7, none⟩ = some (.slice od2 ld2 cd2) := by simp [World.cell?, hb]
        clear hb
        clear c1_1_0 c1_1_1 c1_1_2 c1_1_3 c1_1_4 c1_1_5 c1_1_6 c1_1_7
        clear hM
        cases q1 with
        | true =>
          go_wp2_with fail
          refine (HB.out _ (by (first | exact HM2.out | exact Mod.refl _ _))).mono ?_
          rintro e w3 ⟨rfl, hM⟩
          have HM3 : Hd (Mod (fun _ => False) w w3) := ⟨by refine Mod.trans ?_ hM (fun _ h => Or.inl h); (first | exact HM2.out | exact Mod.refl _ _)⟩
          have hb : w3.heap[w.heap.size]? = some (.cells #[.int .i64 s.pos, .int .i64 s.kind, .string s.dest.loc, .slice ob lb cb, .string s.name, .slice oa la ca, .slice oc lc cc, .slice od ld cd] 61) := (hM.block _ ((Array.getElem?_eq_some_iff.1 HB2_0.out).1) (fun h => h)).trans HB2_0.out
          have HB3_0 : Hd _ := ⟨hb⟩
          have c3_0_0 : w3.cell? ⟨w.heap.size, 0, none⟩ = some (.int .i64 s.pos) := by simp [World.cell?, hb]
          have c3_0_1 : w3.cell? ⟨w.heap.size, 1, none⟩ = some (.int .i64 s.kind) := by simp [World.cell?, hb]
          have c3_0_2 : w3.cell? ⟨w.heap.size, 2, none⟩ = some (.string s.dest.loc) := by simp [World.cell?, hb]
          have c3_0_3 : w3.cell? ⟨w.heap.size, 3, none⟩ = some (.slice ob lb cb) := by simp [World.cell?, hb]
          have c3_0_4 : w3.cell? ⟨w.heap.size, 4, none⟩ = some (.string s.name) := by simp [World.cell?, hb]
          have c3_0_5 : w3.cell? ⟨w.heap.size, 5, none⟩ = some (.slice oa la ca) := by simp [World.cell?, hb]
          have c3_0_6 : w3.cell? ⟨w.heap.size, 6, none⟩ = some (.slice oc lc cc) := by simp [World.cell?, hb]
          have c3_0_7 : w3.cell? ⟨w.heap.size, 7, none⟩ = some (.slice od ld cd) := by simp [World.cell?, hb]
          clear hb
          clear c2_0_0 c2_0_1 c2_0_2 c2_0_3 c2_0_4 c2_0_5 c2_0_6 c2_0_7
          have hb : w3.heap[w.heap.size + 1]? = some (.cells #[.int .i64 t.pos, .int .i64 t.kind, .string t.dest.loc, .slice ob2 lb2 cb2, .string t.name, .slice oa2 la2 ca2, .slice oc2 lc2 cc2, .slice od2 ld2 cd2] 61) := (hM.block _ ((Array.getElem?_eq_some_iff.1 HB2_1.out).1) (fun h => h)).trans HB2_1.out
          have HB3_1 : Hd _ := ⟨hb⟩
          have c3_1_0 : w3.cell? ⟨w.heap.size + 1, 0, none⟩ = some (.int .i64 t.pos) := by simp [World.cell?, hb]
          have c3_1_1 : w3.cell? ⟨w.heap.size + 1, 1, none⟩ = some (.int .i64 t.kind) := by simp [World.cell?, hb]
          have c3_1_2 : w3.cell? ⟨w.heap.size + 1, 2, none⟩ = some (.string t.dest.loc) := by simp [World.cell?, hb]
          have c3_1_3 : w3.cell? ⟨w.heap.size + 1, 3, none⟩ = some (.slice ob2 lb2 cb2) := by simp [World.cell?, hb]
          have c3_1_4 : w3.cell? ⟨w.heap.size + 1, 4, none⟩ = some (.string t.name) := by simp [World.cell?, hb]
          have c3_1_5 : w3.cell? ⟨w.heap.size + 1, 5, none⟩ = some (.slice oa2 la2 ca2) := by simp [World.cell?, hb]
          have c3_1_6 : w3.cell? ⟨w.heap.size + 1, 6, none⟩ = some (.slice oc2 lc2 cc2) := by simp [World.cell?, hb]
          have c3_1_7 : w3.cell? ⟨w.heap.size + 1, 7, none⟩ = some (.slice od2 ld2 cd2) := by simp [World.cell?, hb]
          clear hb
          clear c2_1_0 c2_1_1 c2_1_2 c2_1_3 c2_1_4 c2_1_5 c2_1_6 c2_1_7
          clear hM
          cases q2 with
          | true =>
            go_wp2_with fail
            refine (HC.out _ (by (first | exact HM3.out | exact Mod.refl _ _))).mono ?_
            rintro e w4 ⟨rfl, hM⟩
            have HM4 : Hd (Mod (fun _ => False) w w4) := ⟨by refine Mod.trans ?_ hM (fun _ h => Or.inl h); (first | exact HM3.out | exact Mod.refl _ _)⟩
            have hb : w4.heap[w.heap.size]? = some (.cells #[.int .i64 s.pos, .int .i64 s.kind, .string s.dest.loc, .slice ob lb cb, .string s.name, .slice oa la ca, .slice oc lc cc, .slice od ld cd] 61) := (hM.block _ ((Array.getElem?_eq_some_iff.1 HB3_0.out).1) (fun h => h)).trans HB3_0.out
            have HB4_0 : Hd _ := ⟨hb⟩
            have c4_0_0 : w4.cell? ⟨w.heap.size, 0, none⟩ = some (.int .i64 s.pos) := by simp [World.cell?, hb]
            have c4_0_1 : w4.cell? ⟨w.heap.size, 1, none⟩ = some (.int .i64 s.kind) := by simp [World.cell?, hb]
            have c4_0_2 : w4.cell? ⟨w.heap.size, 2, none⟩ = some (.string s.dest.loc) := by simp [World.cell?, hb]
            have c4_0_3 : w4.cell? ⟨w.heap.size, 3, none⟩ = some (.slice ob lb cb) := by simp [World.cell?, hb]
            have c4_0_4 : w4.cell? ⟨w.heap.size, 4, none⟩ = some (.string s.name) := by simp [World.cell?, hb]
            have c4_0_5 : w4.cell? ⟨w.heap.size, 5, none⟩ = some (.slice oa la ca) := by simp [World.cell?, hb]
            have c4_0_6 : w4.cell? ⟨w.heap.size, 6, none⟩ = some (.slice oc lc cc) := by simp [World.cell?, hb]
            have c4_0_7 : w4.cell? ⟨w.heap.size, 7, none⟩ = some (.slice od ld cd) := by simp [World.cell?, hb]
            clear hb
            clear c3_0_0 c3_0_1 c3_0_2 c3_0_3 c3_0_4 c3_0_5 c3_0_6 c3_0_7
            have hb : w4.heap[w.heap.size + 1]? = some (.cells #[.int .i64 t.pos, .int .i64 t.kind, .string t.dest.loc, .slice ob2 lb2 cb2, .string t.name, .slice oa2 la2 ca2, .slice oc2 lc2 cc2, .slice od2 ld2 cd2] 61) := (hM.block _ ((Array.getElem?_eq_some_iff.1 HB3_1.out).1) (fun h => h)).trans HB3_1.out
            have HB4_1 : Hd _ := ⟨hb⟩
            have c4_1_0 : w4.cell? ⟨w.heap.size + 1, 0, none⟩ = some (.int .i64 t.pos) := by simp [World.cell?, hb]
            have c4_1_1 : w4.cell? ⟨w.heap.size + 1, 1, none⟩ = some (.int .i64 t.kind) := by simp [World.cell?, hb]
            have c4_1_2 : w4.cell? ⟨w.heap.size + 1, 2, none⟩ = some (.string t.dest.loc) := by simp [World.cell?, hb]
            have c4_1_3 : w4.cell? ⟨w.heap.size + 1, 3, none⟩ = some (.slice ob2 lb2 cb2) := by simp [World.cell?, hb]
            have c4_1_4 : w4.cell? ⟨w.heap.size + 1, 4, none⟩ = some (.string t.name) := by simp [World.cell?, hb]
            have c4_1_5 : w4.cell? ⟨w.heap.size + 1, 5, none⟩ = some (.slice oa2 la2 ca2) := by simp [World.cell?, hb]
            have c4_1_6 : w4.cell? ⟨w.heap.size + 1, 6, none⟩ = some (.slice oc2 lc2 cc2) := by simp [World.cell?, hb]
            have c4_1_7 : w4.cell? ⟨w.heap.size + 1, 7, none⟩ = some (.slice od2 ld2 cd2) := by simp [World.cell?, hb]
            clear hb
            clear c3_1_0 c3_1_1 c3_1_2 c3_1_3 c3_1_4 c3_1_5 c3_1_6 c3_1_7
            clear hM
            cases q3 with
            | true =>
              go_wp2
              go_ret
              exact ⟨by rw [show r = true from by rw [← HR.out]; simp [trmEqI, Ht0.out, Ht2.out, Hq0.out, Hq1.out, Hq2.out, Hq3.out]]; first | rfl | (simp; done) | (simp [Ht0.out, Ht2.out, Hq0.out, Hq1.out, Hq2.out, Hq3.out]; done), by (first | exact HM4.out | exact Mod.refl _ _)⟩
            | false =>
              go_wp2
              go_ret
              exact ⟨by rw [show r = false from by rw [← HR.out]; simp [trmEqI, Ht0.out, Ht2.out, Hq0.out, Hq1.out, Hq2.out, Hq3.out]]; first | rfl | (simp; done) | (simp [Ht0.out, Ht2.out, Hq0.out, Hq1.out, Hq2.out, Hq3.out]; done), by (first | exact HM4.out | exact Mod.refl _ _)⟩
          | false =>
            go_wp2
            go_ret
            exact ⟨by rw [show r = false from by rw [← HR.out]; simp [trmEqI, Ht0.out, Ht2.out, Hq0.out, Hq1.out, Hq2.out]]; first | rfl | (simp; done) | (simp [Ht0.out, Ht2.out, Hq0.out, Hq1.out, Hq2.out]; done), by (first | exact HM3.out | exact Mod.refl _ _)⟩
        | false =>
          go_wp2
          go_ret
          exact ⟨by rw [show r = false from by rw [← HR.out]; simp [trmEqI, Ht0.out, Ht2.out, Hq0.out, Hq1.out]]; first | rfl | (simp; done) | (simp [Ht0.out, Ht2.out, Hq0.out, Hq1.out]; done), by (first | exact HM2.out | exact Mod.refl _ _)⟩
      | false =>
        go_wp2
        go_ret
        exact ⟨by rw [show r = false from by rw [← HR.out]; simp [trmEqI, Ht0.out, Ht2.out, Hq0.out]]; first | rfl | (simp; done) | (simp [Ht0.out, Ht2.out, Hq0.out]; done), by (first | exact HM1.out | exact Mod.refl _ _)⟩
    | false =>
      have Ht2 : Hd (eqB s.name t.name = false) := ⟨t2⟩
      go_wp2
      go_ret
      exact ⟨by rw [show r = false from by rw [← HR.out]; simp [trmEqI, Ht0.out, Ht2.out]]; first | rfl | (simp; done) | (simp [Ht0.out, Ht2.out]; done), by (first | exact (Mod.alloc _ _ _).trans (Mod.alloc _ _ _) (fun _ h => Or.inl h))⟩
  · have Ht0 : Hd _ := ⟨t0⟩
    have zt0 : ((s.kind : Int) == t.kind) = false := by rw [beq_eq_false_iff_ne]; omega
    clear t0
    go_wp2
    go_ret
    exact ⟨by rw [show r = false from by rw [← HR.out]; simp [trmEqI, Ht0.out]]; first | rfl | (simp; done) | (simp [Ht0.out]; done), by (first | exact (Mod.alloc _ _ _).trans (Mod.alloc _ _ _) (fun _ h => Or.inl h))⟩
end
end Go.Proofs.YtpodeccpibnlbaaGreatDoor
namespace Go.Proofs.YtpodeccpibnlbaaGreatDoor
set_option linter.unusedVariables false
set_option linter.unusedSimpArgs false
open Go.RowKit
section
variable {S : Nat → Prop} {w0 : World}
set_option maxRecDepth 100000 in
set_option maxHeartbeats 2000000 in
theorem sameBlock_ans {v v2 : Value} {s t : Blk} (hv : blkV S w0 v s) (hv2 : blkV S w0 v2 t) : Ans 113 #[v, v2] w0 (.bool (blkEqI s t)) := by
  intro w hw
  obtain ⟨h0, h1, oa, la, ca, ob, lb, cb, oc, lc, cc, od, ld, cd, oe, le, ce, rfl, k1, k2⟩ := hv
  obtain ⟨h02, h12, oa2, la2, ca2, ob2, lb2, cb2, oc2, lc2, cc2, od2, ld2, cd2, oe2, le2, ce2, rfl, k12, k22⟩ := hv2
  have HA : Hd (∀ w', Mod (fun _ => False) w w' → Calls Tryz.prog 114 #[.slice oa la ca, .slice oa2 la2 ca2, .func (.func 115) #[] #[]] w' _) := ⟨fun w' h' => (eqf_stm k1 k12 stmEqI 115 fn_115 (fun v x v2 y hv hv2 _ _ => sameStmt_ans hv hv2)) w' (hw.trans h' (fun _ h => Or.inl h))⟩
  have HF : Hd (∀ w', Mod (fun _ => False) w w' → Calls Tryz.prog 116 #[.agg #[.int .i64 s.term.pos, .int .i64 s.term.kind, .string s.term.dest.loc, .slice ob lb cb, .string s.term.name, .slice oc lc cc, .slice od ld cd, .slice oe le ce], .agg #[.int .i64 t.term.pos, .int .i64 t.term.kind, .string t.term.dest.loc, .slice ob2 lb2 cb2, .string t.term.name, .slice oc2 lc2 cc2, .slice od2 ld2 cd2, .slice oe2 le2 ce2]] w' _) := ⟨fun w' h' => (sameTerm_ans k2 k22) w' (hw.trans h' (fun _ h => Or.inl h))⟩
  clear h0 h1 k1 k2 h02 h12 k12 k22 hw
  obtain ⟨r, hr⟩ : ∃ r, blkEqI s t = r := ⟨_, rfl⟩
  have HR : Hd _ := ⟨hr⟩
  rw [hr]
  clear hr
  obtain ⟨q0, hq⟩ : ∃ q, allZ stmEqI s.stmts t.stmts = q := ⟨_, rfl⟩
  rw [hq] at HA
  have Hq0 : Hd _ := ⟨hq⟩
  clear hq
  obtain ⟨q1, hq⟩ : ∃ q, trmEqI s.term t.term = q := ⟨_, rfl⟩
  rw [hq] at HF
  have Hq1 : Hd _ := ⟨hq⟩
  clear hq
  go_enter Tryz.func113, Tryz.ntmps113
  cases t0 : (s.name.toList == t.name.toList) with
  | true =>
    have Ht0 : Hd (eqB s.name t.name = true) := ⟨t0⟩
    go_wp2_with fail
    refine (HA.out _ (by (first | exact (Mod.alloc _ _ _).trans (Mod.alloc _ _ _) (fun _ h => Or.inl h)))).mono ?_
    rintro e w1 ⟨rfl, hM⟩
    have HM1 : Hd (Mod (fun _ => False) w w1) := ⟨by refine Mod.trans ?_ hM (fun _ h => Or.inl h); (first | exact (Mod.alloc _ _ _).trans (Mod.alloc _ _ _) (fun _ h => Or.inl h))⟩
    have hb : w1.heap[w.heap.size]? = some (.cells #[.int .i64 s.pos, .string s.name, .slice oa la ca, .int .i64 s.term.pos, .int .i64 s.term.kind, .string s.term.dest.loc, .slice ob lb cb, .string s.term.name, .slice oc lc cc, .slice od ld cd, .slice oe le ce] 64) := (hM.block _ (lt2_0 _ _ _) (fun h => h)).trans (heap2_0 _ _ _)
    have HB1_0 : Hd _ := ⟨hb⟩
    have c1_0_0 : w1.cell? ⟨w.heap.size, 0, none⟩ = some (.int .i64 s.pos) := by simp [World.cell?, hb]
    have c1_0_1 : w1.cell? ⟨w.heap.size, 1, none⟩ = some (.string s.name) := by simp [World.cell?, hb]
    have c1_0_2 : w1.cell? ⟨w.heap.size, 2, none⟩ = some (.slice oa la ca) := by simp [World.cell?, hb]
    have c1_0_3 : w1.cell? ⟨w.heap.size, 3, none⟩ = some (.int .i64 s.term.pos) := by simp [World.cell?, hb]
    have c1_0_4 : w1.cell? ⟨w.heap.size, 4, none⟩ = some (.int .i64 s.term.kind) := by simp [World.cell?, hb]
    have c1_0_5 : w1.cell? ⟨w.heap.size, 5, none⟩ = some (.string s.term.dest.loc) := by simp [World.cell?, hb]
    have c1_0_6 : w1.cell? ⟨w.heap.size, 6, none⟩ = some (.slice ob lb cb) := by simp [World.cell?, hb]
    have c1_0_7 : w1.cell? ⟨w.heap.size, 7, none⟩ = some (.string s.term.name) := by simp [World.cell?, hb]
    have c1_0_8 : w1.cell? ⟨w.heap.size, 8, none⟩ = some (.slice oc lc cc) := by simp [World.cell?, hb]
    have c1_0_9 : w1.cell? ⟨w.heap.size, 9, none⟩ = some (.slice od ld cd) := by simp [World.cell?, hb]
    have c1_0_10 : w1.cell? ⟨w.heap.size, 10, none⟩ = some (.slice oe le ce) := by simp [World.cell?, hb]
    clear hb
    have hb : w1.heap[w.heap.size + 1]? = some (.cells #[.int .i64 t.pos, .string t.name, .slice oa2 la2 ca2, .int .i64 t.term.pos, .int .i64 t.term.kind, .string t.term.dest.loc, .slice ob2 lb2 cb2, .string t.term.name, .slice oc2 lc2 cc2, .slice od2 ld2 cd2, .slice oe2 le2 ce2] 64) := (hM.block _ (lt2_1 _ _ _) (fun h => h)).trans (heap2_1 _ _ _)
    have HB1_1 : Hd _ := ⟨hb⟩
    have c1_1_0 : w1.cell? ⟨w.heap.size + 1, 0, none⟩ = some (.int .i64 t.pos) := by simp [World.cell?, hb]
    have c1_1_1 : w1.cell? ⟨w.heap.size + 1, 1, none⟩ = some (.string t.name) := by simp [World.cell?, hb]
    have c1_1_2 : w1.cell? ⟨w.heap.size + 1, 2, none⟩ = some (.slice oa2 la2 ca2) := by simp [World.cell?, hb]
    have c1_1_3 : w1.cell? ⟨w.heap.size + 1, 3, none⟩ = some (.int .i64 t.term.pos) := by simp [World.cell?, hb]
    have c1_1_4 : w1.cell? ⟨w.heap.size + 1, 4, none⟩ = some (.int .i64 t.term.kind) := by simp [World.cell?, hb]
    have c1_1_5 : w1.cell? ⟨w.heap.size + 1, 5, none⟩ = some (.string t.term.dest.loc) := by simp [World.cell?, hb]
    have c1_1_6 : w1.cell? ⟨w.heap.size + 1, 6, none⟩ = some (.slice ob2 lb2 cb2) := by simp [World.cell?, hb]
    have c1_1_7 : w1.cell? ⟨w.heap.size + 1, 7, none⟩ = some (.string t.term.name) := by simp [World.cell?, hb]
    have c1_1_8 : w1.cell? ⟨w.heap.size + 1, 8, none⟩ = some (.slice oc2 lc2 cc2) := by simp [World.cell?, hb]
    have c1_1_9 : w1.cell? ⟨w.heap.size + 1, 9, none⟩ = some (.slice od2 ld2 cd2) := by simp [World.cell?, hb]
    have c1_1_10 : w1.cell? ⟨w.heap.size + 1, 10, none⟩ = some (.slice oe2 le2 ce2) := by simp [World.cell?, hb]
    clear hb
    clear hM
    cases q0 with
    | true =>
      go_wp2_with fail
      refine (HF.out _ (by (first | exact HM1.out | exact Mod.refl _ _))).mono ?_
      rintro e w2 ⟨rfl, hM⟩
      have HM2 : Hd (Mod (fun _ => False) w w2) := ⟨by refine Mod.trans ?_ hM (fun _ h => Or.inl h); (first | exact HM1.out | exact Mod.refl _ _)⟩
      have hb : w2.heap[w.heap.size]? = some (.cells #[.int .i64 s.pos, .string s.name, .slice oa la ca, .int .i64 s.term.pos, .int .i64 s.term.kind, .string s.term.dest.loc, .slice ob lb cb, .string s.term.name, .slice oc lc cc, .slice od ld cd, .slice oe le ce] 64) := (hM.block _ ((Array.getElem?_eq_some_iff.1 HB1_0.out).1) (fun h => h)).trans HB1_0.out
      have HB2_0 : Hd _ := ⟨hb⟩
      have c2_0_0 : w2.cell? ⟨w.heap.size, 0, none⟩ = some (.int .i64 s.pos) := by simp [World.cell?, hb]
      have c2_0_1 : w2.cell? ⟨w.heap.size, 1, none⟩ = some (.string s.name) := by simp [World.cell?, hb]
      have c2_0_2 : w2.cell? ⟨w.heap.size, 2, none⟩ = some (.slice oa la ca) := by simp [World.cell?, hb]
      have c2_0_3 : w2.cell? ⟨w.heap.size, 3, none⟩ = some (.int .i64 s.term.pos) := by simp [World.cell?, hb]
      have c2_0_4 : w2.cell? ⟨w.heap.size, 4, none⟩ = some (.int .i64 s.term.kind) := by simp [World.cell?, hb]
      have c2_0_5 : w2.cell? ⟨w.heap.size, 5, none⟩ = some (.string s.term.dest.loc) := by simp [World.cell?, hb]
      have c2_0_6 : w2.cell? ⟨w.heap.size, 6, none⟩ = some (.slice ob lb cb) := by simp [World.cell?, hb]
      have c2_0_7 : w2.cell? ⟨w.heap.size, 7, none⟩ = some (.string s.term.name) := by simp [World.cell?, hb]
      have c2_0_8 : w2.cell? ⟨w.heap.size, 8, none⟩ = some (.slice oc lc cc) := by simp [World.cell?, hb]
      have c2_0_9 : w2.cell? ⟨w.heap.size, 9, none⟩ = some (.slice od ld cd) := by simp [World.cell?, hb]
      have c2_0_10 : w2.cell? ⟨w.heap.size, 10, none⟩ = some (.slice oe le ce) := by simp [World.cell?, hb]
      clear hb
      clear c1_0_0 c1_0_1 c1_0_2 c1_0_3 c1_0_4 c1_0_5 c1_0_6 c1_0_7 c1_0_8 c1_0_9 c1_0_10
      have hb : w2.heap[w.heap.size + 1]? = some (.cells #[.int .i64 t.pos, .string t.name, .slice oa2 la2 ca2, .int .i64 t.term.pos, .int .i64 t.term.kind, .string t.term.dest.loc, .slice ob2 lb2 cb2, .string t.term.name, .slice oc2 lc2 cc2, .slice od2 ld2 cd2, .slice oe2 le2 ce2] 64) := (hM.block _ ((Array.getElem?_eq_some_iff.1 HB1_1.out).1) (fun h => h)).trans HB1_1.out
      have HB2_1 : Hd _ := ⟨hb⟩
      have c2_1_0 : w2.cell? ⟨w.heap.size + 1, 0, none⟩ = some (.int .i64 t.pos) := by simp [World.cell?, hb]
      have c2_1_1 : w2.cell? ⟨w.heap.size + 1, 1, none⟩ = some (.string t.name) := by simp [World.cell?, hb]
      have c2_1_2 : w2.cell? ⟨w.heap.size + 1, 2, none⟩ = some (.slice oa2 la2 ca2) := by simp [World.cell?, hb]
      have c2_1_3 : w2.cell? ⟨w.heap.size + 1, 3, none⟩ = some (.int .i64 t.term.pos) := by simp [World.cell?, hb]
      have c2_1_4 : w2.cell? ⟨w.heap.size + 1, 4, none⟩ = some (.int .i64 t.term.kind) := by simp [World.cell?, hb]
      have c2_1_5 : w2.cell? ⟨w.heap.size + 1, 5, none⟩ = some (.string t.term.dest.loc) := by simp [World.cell?, hb]
      have c2_1_6 : w2.cell? ⟨w.heap.size + 1, 6, none⟩ = some (.slice ob2 lb2 cb2) := by simp [World.cell?, hb]
      have c2_1_7 : w2.cell? ⟨w.heap.size + 1, 7, none⟩ = some (.string t.term.name) := by simp [World.cell?, hb]
      have c2_1_8 : w2.cell? ⟨w.heap.size + 1, 8, none⟩ = some (.slice oc2 lc2 cc2) := by simp [World.cell?, hb]
      have c2_1_9 : w2.cell? ⟨w.heap.size + 1, 9, none⟩ = some (.slice od2 ld2 cd2) := by simp [World.cell?, hb]
      have c2_1_10 : w2.cell? ⟨w.heap.size + 1, 10, none⟩ = some (.slice oe2 le2 ce2) := by simp [World.cell?, hb]
      clear hb
      clear c1_1_0 c1_1_1 c1_1_2 c1_1_3 c1_1_4 c1_1_5 c1_1_6 c1_1_7 c1_1_8 c1_1_9 c1_1_10
      clear hM
      cases q1 with
      | true =>
        go_wp2
        go_ret
        exact ⟨by rw [show r = true from by rw [← HR.out]; simp [blkEqI, Ht0.out, Hq0.out, Hq1.out]]; first | rfl | (simp; done) | (simp [Ht0.out, Hq0.out, Hq1.out]; done), by (first | exact HM2.out | exact Mod.refl _ _)⟩
      | false =>
        go_wp2
        go_ret
        exact ⟨by rw [show r = false from by rw [← HR.out]; simp [blkEqI, Ht0.out, Hq0.out, Hq1.out]]; first | rfl | (simp; done) | (simp [Ht0.out, Hq0.out, Hq1.out]; done), by (first | exact HM2.out | exact Mod.refl _ _)⟩
    | false =>
      go_wp2
      go_ret
      exact ⟨by rw [show r = false from by rw [← HR.out]; simp [blkEqI, Ht0.out, Hq0.out]]; first | rfl | (simp; done) | (simp [Ht0.out, Hq0.out]; done), by (first | exact HM1.out | exact Mod.refl _ _)⟩
  | false =>
    have Ht0 : Hd (eqB s.name t.name = false) := ⟨t0⟩
    go_wp2
    go_ret
    exact ⟨by rw [show r = false from by rw [← HR.out]; simp [blkEqI, Ht0.out]]; first | rfl | (simp; done) | (simp [Ht0.out]; done), by (first | exact (Mod.alloc _ _ _).trans (Mod.alloc _ _ _) (fun _ h => Or.inl h))⟩
theorem fn_113 : Fn 113 := fn_of Tryz.func113 (by decide +kernel) (by kernel_rfl)
set_option maxRecDepth 100000 in
set_option maxHeartbeats 2000000 in
theorem sameStruct_ans {v v2 : Value} {s t : Sct} (hv : sctV S w0 v s) (hv2 : sctV S w0 v2 t) : Ans 62 #[v, v2] w0 (.bool (sctEqI s t)) := by
  intro w hw
  obtain ⟨h0, h1, oa, la, ca, rfl, k1⟩ := hv
  obtain ⟨h02, h12, oa2, la2, ca2, rfl, k12⟩ := hv2
  have HA : Hd (∀ w', Mod (fun _ => False) w w' → Calls Tryz.prog 63 #[.slice oa la ca, .slice oa2 la2 ca2] w' _) := ⟨fun w' h' => (eq_vr k1 k12) w' (hw.trans h' (fun _ h => Or.inl h))⟩
  clear h0 h1 k1 h02 h12 k12 hw
  obtain ⟨r, hr⟩ : ∃ r, sctEqI s t = r := ⟨_, rfl⟩
  have HR : Hd _ := ⟨hr⟩
  rw [hr]
  clear hr
  obtain ⟨q0, hq⟩ : ∃ q, allZ vrEqI s.fields t.fields = q := ⟨_, rfl⟩
  rw [hq] at HA
  have Hq0 : Hd _ := ⟨hq⟩
  clear hq
  go_enter Tryz.func62, Tryz.ntmps62
  cases t0 : (s.name.toList == t.name.toList) with
  | true =>
    have Ht0 : Hd (eqB s.name t.name = true) := ⟨t0⟩
    cases t1 : (s.safe == t.safe) with
    | true =>
      have Ht1 : Hd ((s.safe == t.safe) = true) := ⟨t1⟩
      cases t2 : (s.hook == t.hook) with
      | true =>
        have Ht2 : Hd ((s.hook == t.hook) = true) := ⟨t2⟩
        go_wp2_with fail
        refine (HA.out _ (by (first | exact (Mod.alloc _ _ _).trans (Mod.alloc _ _ _) (fun _ h => Or.inl h)))).mono ?_
        rintro e w1 ⟨rfl, hM⟩
        have HM1 : Hd (Mod (fun _ => False) w w1) := ⟨by refine Mod.trans ?_ hM (fun _ h => Or.inl h); (first | exact (Mod.alloc _ _ _).trans (Mod.alloc _ _ _) (fun _ h => Or.inl h))⟩
        have hb : w1.heap[w.heap.size]? = some (.cells #[.int .i64 s.pos, .string s.name, .bool s.safe, .bool s.hook, .slice oa la ca] 58) := (hM.block _ (lt2_0 _ _ _) (fun h => h)).trans (heap2_0 _ _ _)
        have HB1_0 : Hd _ := ⟨hb⟩
        have c1_0_0 : w1.cell? ⟨w.heap.size, 0, none⟩ = some (.int .i64 s.pos) := by simp [World.cell?, hb]
        have c1_0_1 : w1.cell? ⟨w.heap.size, 1, none⟩ = some (.string s.name) := by simp [World.cell?, hb]
        have c1_0_2 : w1.cell? ⟨w.heap.size, 2, none⟩ = some (.bool s.safe) := by simp [World.cell?, hb]
        have c1_0_3 : w1.cell? ⟨w.heap.size, 3, none⟩ = some (.bool s.hook) := by simp [World.cell?, hb]
        have c1_0_4 : w1.cell? ⟨w.heap.size, 4, none⟩ = some (.slice oa la ca) := by simp [World.cell?, hb]
        clear hb
        have hb : w1.heap[w.heap.size + 1]? = some (.cells #[.int .i64 t.pos, .string t.name, .bool t.safe, .bool t.hook, .slice oa2 la2 ca2] 58) := (hM.block _ (lt2_1 _ _ _) (fun h => h)).trans (heap2_1 _ _ _)
        have HB1_1 : Hd _ := ⟨hb⟩
        have c1_1_0 : w1.cell? ⟨w.heap.size + 1, 0, none⟩ = some (.int .i64 t.pos) := by simp [World.cell?, hb]
        have c1_1_1 : w1.cell? ⟨w.heap.size + 1, 1, none⟩ = some (.string t.name) := by simp [World.cell?, hb]
        have c1_1_2 : w1.cell? ⟨w.heap.size + 1, 2, none⟩ = some (.bool t.safe) := by simp [World.cell?, hb]
        have c1_1_3 : w1.cell? ⟨w.heap.size + 1, 3, none⟩ = some (.bool t.hook) := by simp [World.cell?, hb]
        have c1_1_4 : w1.cell? ⟨w.heap.size + 1, 4, none⟩ = some (.slice oa2 la2 ca2) := by simp [World.cell?, hb]
        clear hb
        clear hM
        cases q0 with
        | true =>
          go_wp2
          go_ret
          exact ⟨by rw [show r = true from by rw [← HR.out]; simp [sctEqI, Ht0.out, Ht1.out, Ht2.out, Hq0.out]]; first | rfl | (simp; done) | (simp [Ht0.out, Ht1.out, Ht2.out, Hq0.out]; done), by (first | exact HM1.out | exact Mod.refl _ _)⟩
        | false =>
          go_wp2
          go_ret
          exact ⟨by rw [show r = false from by rw [← HR.out]; simp [sctEqI, Ht0.out, Ht1.out, Ht2.out, Hq0.out]]; first | rfl | (simp; done) | (simp [Ht0.out, Ht1.out, Ht2.out, Hq0.out]; done), by (first | exact HM1.out | exact Mod.refl _ _)⟩
      | false =>
        have Ht2 : Hd ((s.hook == t.hook) = false) := ⟨t2⟩
        go_wp2
        go_ret
        exact ⟨by rw [show r = false from by rw [← HR.out]; simp [sctEqI, Ht0.out, Ht1.out, Ht2.out]]; first | rfl | (simp; done) | (simp [Ht0.out, Ht1.out, Ht2.out]; done), by (first | exact (Mod.alloc _ _ _).trans (Mod.alloc _ _ _) (fun _ h => Or.inl h))⟩
    | false =>
      have Ht1 : Hd ((s.safe == t.safe) = false) := ⟨t1⟩
      go_wp2
      go_ret
      exact ⟨by rw [show r = false from by rw [← HR.out]; simp [sctEqI, Ht0.out, Ht1.out]]; first | rfl | (simp; done) | (simp [Ht0.out, Ht1.out]; done), by (first | exact (Mod.alloc _ _ _).trans (Mod.alloc _ _ _) (fun _ h => Or.inl h))⟩
  | false =>
    have Ht0 : Hd (eqB s.name t.name = false) := ⟨t0⟩
    go_wp2
    go_ret
    exact ⟨by rw [show r = false from by rw [← HR.out]; simp [sctEqI, Ht0.out]]; first | rfl | (simp; done) | (simp [Ht0.out]; done), by (first | exact (Mod.alloc _ _ _).trans (Mod.alloc _ _ _) (fun _ h => Or.inl h))⟩
set_option maxRecDepth 100000 in
set_option maxHeartbeats 2000000 in
theorem sameEnum_ans {v v2 : Value} {s t : Enm} (hv : enmV S w0 v s) (hv2 : enmV S w0 v2 t) : Ans 65 #[v, v2] w0 (.bool (enmEqI s t)) := by
  intro w hw
  obtain ⟨h0, h1, oa, la, ca, rfl, k1⟩ := hv
  obtain ⟨h02, h12, oa2, la2, ca2, rfl, k12⟩ := hv2
  have HA : Hd (∀ w', Mod (fun _ => False) w w' → Calls Tryz.prog 63 #[.slice oa la ca, .slice oa2 la2 ca2] w' _) := ⟨fun w' h' => (eq_vr k1 k12) w' (hw.trans h' (fun _ h => Or.inl h))⟩
  clear h0 h1 k1 h02 h12 k12 hw
  obtain ⟨r, hr⟩ : ∃ r, enmEqI s t = r := ⟨_, rfl⟩
  have HR : Hd _ := ⟨hr⟩
  rw [hr]
  clear hr
  obtain ⟨q0, hq⟩ : ∃ q, allZ vrEqI s.variants t.variants = q := ⟨_, rfl⟩
  rw [hq] at HA
  have Hq0 : Hd _ := ⟨hq⟩
  clear hq
  go_enter Tryz.func65, Tryz.ntmps65
  cases t0 : (s.name.toList == t.name.toList) with
  | true =>
    have Ht0 : Hd (eqB s.name t.name = true) := ⟨t0⟩
    go_wp2_with fail
    refine (HA.out _ (by (first | exact (Mod.alloc _ _ _).trans (Mod.alloc _ _ _) (fun _ h => Or.inl h)))).mono ?_
    rintro e w1 ⟨rfl, hM⟩
    have HM1 : Hd (Mod (fun _ => False) w w1) := ⟨by refine Mod.trans ?_ hM (fun _ h => Or.inl h); (first | exact (Mod.alloc _ _ _).trans (Mod.alloc _ _ _) (fun _ h => Or.inl h))⟩
    have hb : w1.heap[w.heap.size]? = some (.cells #[.int .i64 s.pos, .string s.name, .slice oa la ca] 70) := (hM.block _ (lt2_0 _ _ _) (fun h => h)).trans (heap2_0 _ _ _)
    have HB1_0 : Hd _ := ⟨hb⟩
    have c1_0_0 : w1.cell? ⟨w.heap.size, 0, none⟩ = some (.int .i64 s.pos) := by simp [World.cell?, hb]
    have c1_0_1 : w1.cell? ⟨w.heap.size, 1, none⟩ = some (.string s.name) := by simp [World.cell?, hb]
    have c1_0_2 : w1.cell? ⟨w.heap.size, 2, none⟩ = some (.slice oa la ca) := by simp [World.cell?, hb]
    clear hb
    have hb : w1.heap[w.heap.size + 1]? = some (.cells #[.int .i64 t.pos, .string t.name, .slice oa2 la2 ca2] 70) := (hM.block _ (lt2_1 _ _ _) (fun h => h)).trans (heap2_1 _ _ _)
    have HB1_1 : Hd _ := ⟨hb⟩
    have c1_1_0 : w1.cell? ⟨w.heap.size + 1, 0, none⟩ = some (.int .i64 t.pos) := by simp [World.cell?, hb]
    have c1_1_1 : w1.cell? ⟨w.heap.size + 1, 1, none⟩ = some (.string t.name) := by simp [World.cell?, hb]
    have c1_1_2 : w1.cell? ⟨w.heap.size + 1, 2, none⟩ = some (.slice oa2 la2 ca2) := by simp [World.cell?, hb]
    clear hb
    clear hM
    cases q0 with
    | true =>
      go_wp2
      go_ret
      exact ⟨by rw [show r = true from by rw [← HR.out]; simp [enmEqI, Ht0.out, Hq0.out]]; first | rfl | (simp; done) | (simp [Ht0.out, Hq0.out]; done), by (first | exact HM1.out | exact Mod.refl _ _)⟩
    | false =>
      go_wp2
      go_ret
      exact ⟨by rw [show r = false from by rw [← HR.out]; simp [enmEqI, Ht0.out, Hq0.out]]; first | rfl | (simp; done) | (simp [Ht0.out, Hq0.out]; done), by (first | exact HM1.out | exact Mod.refl _ _)⟩
  | false =>
    have Ht0 : Hd (eqB s.name t.name = false) := ⟨t0⟩
    go_wp2
    go_ret
    exact ⟨by rw [show r = false from by rw [← HR.out]; simp [enmEqI, Ht0.out]]; first | rfl | (simp; done) | (simp [Ht0.out]; done), by (first | exact (Mod.alloc _ _ _).trans (Mod.alloc _ _ _) (fun _ h => Or.inl h))⟩
theorem fn_62 : Fn 62 := fn_of Tryz.func62 (by decide +kernel) (by kernel_rfl)
theorem fn_65 : Fn 65 := fn_of Tryz.func65 (by decide +kernel) (by kernel_rfl)
end
end Go.Proofs.YtpodeccpibnlbaaGreatDoor
namespace Go.Proofs.YtpodeccpibnlbaaGreatDoor
set_option linter.unusedVariables false
set_option linter.unusedSimpArgs false
open Go.RowKit
section
variable {S : Nat → Prop} {w0 : World}
set_option maxRecDepth 100000 in
set_option maxHeartbeats 2000000 in
theorem sameFunc_ans {v v2 : Value} {s t : Fun} (hv : funV S w0 v s) (hv2 : funV S w0 v2 t) : Ans 67 #[v, v2] w0 (.bool (funEqI s t)) := by
  intro w hw
  obtain ⟨h0, h1, h2, oa, la, ca, ob, lb, cb, oc, lc, cc, rfl, k1, k2, k3⟩ := hv
  obtain ⟨h02, h12, h22, oa2, la2, ca2, ob2, lb2, cb2, oc2, lc2, cc2, rfl, k12, k22, k32⟩ := hv2
  have HA : Hd (∀ w', Mod (fun _ => False) w w' → Calls Tryz.prog 63 #[.slice oa la ca, .slice oa2 la2 ca2] w' _) := ⟨fun w' h' => (eq_vr k1 k12) w' (hw.trans h' (fun _ h => Or.inl h))⟩
  have HB : Hd (∀ w', Mod (fun _ => False) w w' → Calls Tryz.prog 63 #[.slice ob lb cb, .slice ob2 lb2 cb2] w' _) := ⟨fun w' h' => (eq_vr k2 k22) w' (hw.trans h' (fun _ h => Or.inl h))⟩
  have HC : Hd (∀ w', Mod (fun _ => False) w w' → Calls Tryz.prog 112 #[.slice oc lc cc, .slice oc2 lc2 cc2, .func (.func 113) #[] #[]] w' _) := ⟨fun w' h' => (eqf_blk k3 k32 blkEqI 113 fn_113 (fun v x v2 y hv hv2 _ _ => sameBlock_ans hv hv2)) w' (hw.trans h' (fun _ h => Or.inl h))⟩
  clear h0 h1 h2 k1 k2 k3 h02 h12 h22 k12 k22 k32 hw
  obtain ⟨r, hr⟩ : ∃ r, funEqI s t = r := ⟨_, rfl⟩
  have HR : Hd _ := ⟨hr⟩
  rw [hr]
  clear hr
  obtain ⟨q0, hq⟩ : ∃ q, allZ vrEqI s.params t.params = q := ⟨_, rfl⟩
  rw [hq] at HA
  have Hq0 : Hd _ := ⟨hq⟩
  clear hq
  obtain ⟨q1, hq⟩ : ∃ q, allZ vrEqI s.locals t.locals = q := ⟨_, rfl⟩
  rw [hq] at HB
  have Hq1 : Hd _ := ⟨hq⟩
  clear hq
  obtain ⟨q2, hq⟩ : ∃ q, allZ blkEqI s.blocks t.blocks = q := ⟨_, rfl⟩
  rw [hq] at HC
  have Hq2 : Hd _ := ⟨hq⟩
  clear hq
  go_enter Tryz.func67, Tryz.ntmps67
  cases t0 : (s.name.toList == t.name.toList) with
  | true =>
    have Ht0 : Hd (eqB s.name t.name = true) := ⟨t0⟩
    cases t1 : (s.result.toList == t.result.toList) with
    | true =>
      have Ht1 : Hd (eqB s.result t.result = true) := ⟨t1⟩
      go_wp2_with fail
      refine (HA.out _ (by (first | exact (Mod.alloc _ _ _).trans (Mod.alloc _ _ _) (fun _ h => Or.inl h)))).mono ?_
      rintro e w1 ⟨rfl, hM⟩
      have HM1 : Hd (Mod (fun _ => False) w w1) := ⟨by refine Mod.trans ?_ hM (fun _ h => Or.inl h); (first | exact (Mod.alloc _ _ _).trans (Mod.alloc _ _ _) (fun _ h => Or.inl h))⟩
      have hb : w1.heap[w.heap.size]? = some (.cells #[.int .i64 s.pos, .string s.name, .slice oa la ca, .slice ob lb cb, .string s.result, .slice oc lc cc] 45) := (hM.block _ (lt2_0 _ _ _) (fun h => h)).trans (heap2_0 _ _ _)
      have HB1_0 : Hd _ := ⟨hb⟩
      have c1_0_0 : w1.cell? ⟨w.heap.size, 0, none⟩ = some (.int .i64 s.pos) := by simp [World.cell?, hb]
      have c1_0_1 : w1.cell? ⟨w.heap.size, 1, none⟩ = some (.string s.name) := by simp [World.cell?, hb]
      have c1_0_2 : w1.cell? ⟨w.heap.size, 2, none⟩ = some (.slice oa la ca) := by simp [World.cell?, hb]
      have c1_0_3 : w1.cell? ⟨w.heap.size, 3, none⟩ = some (.slice ob lb cb) := by simp [World.cell?, hb]
      have c1_0_4 : w1.cell? ⟨w.heap.size, 4, none⟩ = some (.string s.result) := by simp [World.cell?, hb]
      have c1_0_5 : w1.cell? ⟨w.heap.size, 5, none⟩ = some (.slice oc lc cc) := by simp [World.cell?, hb]
      clear hb
      have hb : w1.heap[w.heap.size + 1]? = some (.cells #[.int .i64 t.pos, .string t.name, .slice oa2 la2 ca2, .slice ob2 lb2 cb2, .string t.result, .slice oc2 lc2 cc2] 45) := (hM.block _ (lt2_1 _ _ _) (fun h => h)).trans (heap2_1 _ _ _)
      have HB1_1 : Hd _ := ⟨hb⟩
      have c1_1_0 : w1.cell? ⟨w.heap.size + 1, 0, none⟩ = some (.int .i64 t.pos) := by simp [World.cell?, hb]
      have c1_1_1 : w1.cell? ⟨w.heap.size + 1, 1, none⟩ = some (.string t.name) := by simp [World.cell?, hb]
      have c1_1_2 : w1.cell? ⟨w.heap.size + 1, 2, none⟩ = some (.slice oa2 la2 ca2) := by simp [World.cell?, hb]
      have c1_1_3 : w1.cell? ⟨w.heap.size + 1, 3, none⟩ = some (.slice ob2 lb2 cb2) := by simp [World.cell?, hb]
      have c1_1_4 : w1.cell? ⟨w.heap.size + 1, 4, none⟩ = some (.string t.result) := by simp [World.cell?, hb]
      have c1_1_5 : w1.cell? ⟨w.heap.size + 1, 5, none⟩ = some (.slice oc2 lc2 cc2) := by simp [World.cell?, hb]
      clear hb
      clear hM
      cases q0 with
      | true =>
        go_wp2_with fail
        refine (HB.out _ (by (first | exact HM1.out | exact Mod.refl _ _))).mono ?_
        rintro e w2 ⟨rfl, hM⟩
        have HM2 : Hd (Mod (fun _ => False) w w2) := ⟨by refine Mod.trans ?_ hM (fun _ h => Or.inl h); (first | exact HM1.out | exact Mod.refl _ _)⟩
        have hb : w2.heap[w.heap.size]? = some (.cells #[.int .i64 s.pos, .string s.name, .slice oa la ca, .slice ob lb cb, .string s.result, .slice oc lc cc] 45) := (hM.block _ ((Array.getElem?_eq_some_iff.1 HB1_0.out).1) (fun h => h)).trans HB1_0.out
        have HB2_0 : Hd _ := ⟨hb⟩
        have c2_0_0 : w2.cell? ⟨w.heap.size, 0, none⟩ = some (.int .i64 s.pos) := by simp [World.cell?, hb]
        have c2_0_1 : w2.cell? ⟨w.heap.size, 1, none⟩ = some (.string s.name) := by simp [World.cell?, hb]
        have c2_0_2 : w2.cell? ⟨w.heap.size, 2, none⟩ = some (.slice oa la ca) := by simp [World.cell?, hb]
        have c2_0_3 : w2.cell? ⟨w.heap.size, 3, none⟩ = some (.slice ob lb cb) := by simp [World.cell?, hb]
        have c2_0_4 : w2.cell? ⟨w.heap.size, 4, none⟩ = some (.string s.result) := by simp [World.cell?, hb]
        have c2_0_5 : w2.cell? ⟨w.heap.size, 5, none⟩ = some (.slice oc lc cc) := by simp [World.cell?, hb]
        clear hb
        clear c1_0_0 c1_0_1 c1_0_2 c1_0_3 c1_0_4 c1_0_5
        have hb : w2.heap[w.heap.size + 1]? = some (.cells #[.int .i64 t.pos, .string t.name, .slice oa2 la2 ca2, .slice ob2 lb2 cb2, .string t.result, .slice oc2 lc2 cc2] 45) := (hM.block _ ((Array.getElem?_eq_some_iff.1 HB1_1.out).1) (fun h => h)).trans HB1_1.out
        have HB2_1 : Hd _ := ⟨hb⟩
        have c2_1_0 : w2.cell? ⟨w.heap.size + 1, 0, none⟩ = some (.int .i64 t.pos) := by simp [World.cell?, hb]
        have c2_1_1 : w2.cell? ⟨w.heap.size + 1, 1, none⟩ = some (.string t.name) := by simp [World.cell?, hb]
        have c2_1_2 : w2.cell? ⟨w.heap.size + 1, 2, none⟩ = some (.slice oa2 la2 ca2) := by simp [World.cell?, hb]
        have c2_1_3 : w2.cell? ⟨w.heap.size + 1, 3, none⟩ = some (.slice ob2 lb2 cb2) := by simp [World.cell?, hb]
        have c2_1_4 : w2.cell? ⟨w.heap.size + 1, 4, none⟩ = some (.string t.result) := by simp [World.cell?, hb]
        have c2_1_5 : w2.cell? ⟨w.heap.size + 1, 5, none⟩ = some (.slice oc2 lc2 cc2) := by simp [World.cell?, hb]
        clear hb
        clear c1_1_0 c1_1_1 c1_1_2 c1_1_3 c1_1_4 c1_1_5
        clear hM
        cases q1 with
        | true =>
          go_wp2_with fail
          refine (HC.out _ (by (first | exact HM2.out | exact Mod.refl _ _))).mono ?_
          rintro e w3 ⟨rfl, hM⟩
          have HM3 : Hd (Mod (fun _ => False) w w3) := ⟨by refine Mod.trans ?_ hM (fun _ h => Or.inl h); (first | exact HM2.out | exact Mod.refl _ _)⟩
          have hb : w3.heap[w.heap.size]? = some (.cells #[.int .i64 s.pos, .string s.name, .slice oa la ca, .slice ob lb cb, .string s.result, .slice oc lc cc] 45) := (hM.block _ ((Array.getElem?_eq_some_iff.1 HB2_0.out).1) (fun h => h)).trans HB2_0.out
          have HB3_0 : Hd _ := ⟨hb⟩
          have c3_0_0 : w3.cell? ⟨w.heap.size, 0, none⟩ = some (.int .i64 s.pos) := by simp [World.cell?, hb]
          have c3_0_1 : w3.cell? ⟨w.heap.size, 1, none⟩ = some (.string s.name) := by simp [World.cell?, hb]
          have c3_0_2 : w3.cell? ⟨w.heap.size, 2, none⟩ = some (.slice oa la ca) := by simp [World.cell?, hb]
          have c3_0_3 : w3.cell? ⟨w.heap.size, 3, none⟩ = some (.slice ob lb cb) := by simp [World.cell?, hb]
          have c3_0_4 : w3.cell? ⟨w.heap.size, 4, none⟩ = some (.string s.result) := by simp [World.cell?, hb]
          have c3_0_5 : w3.cell? ⟨w.heap.size, 5, none⟩ = some (.slice oc lc cc) := by simp [World.cell?, hb]
          clear hb
          clear c2_0_0 c2_0_1 c2_0_2 c2_0_3 c2_0_4 c2_0_5
          have hb : w3.heap[w.heap.size + 1]? = some (.cells #[.int .i64 t.pos, .string t.name, .slice oa2 la2 ca2, .slice ob2 lb2 cb2, .string t.result, .slice oc2 lc2 cc2] 45) := (hM.block _ ((Array.getElem?_eq_some_iff.1 HB2_1.out).1) (fun h => h)).trans HB2_1.out
          have HB3_1 : Hd _ := ⟨hb⟩
          have c3_1_0 : w3.cell? ⟨w.heap.size + 1, 0, none⟩ = some (.int .i64 t.pos) := by simp [World.cell?, hb]
          have c3_1_1 : w3.cell? ⟨w.heap.size + 1, 1, none⟩ = some (.string t.name) := by simp [World.cell?, hb]
          have c3_1_2 : w3.cell? ⟨w.heap.size + 1, 2, none⟩ = some (.slice oa2 la2 ca2) := by simp [World.cell?, hb]
          have c3_1_3 : w3.cell? ⟨w.heap.size + 1, 3, none⟩ = some (.slice ob2 lb2 cb2) := by simp [World.cell?, hb]
          have c3_1_4 : w3.cell? ⟨w.heap.size + 1, 4, none⟩ = some (.string t.result) := by simp [World.cell?, hb]
          have c3_1_5 : w3.cell? ⟨w.heap.size + 1, 5, none⟩ = some (.slice oc2 lc2 cc2) := by simp [World.cell?, hb]
          clear hb
          clear c2_1_0 c2_1_1 c2_1_2 c2_1_3 c2_1_4 c2_1_5
          clear hM
          cases q2 with
          | true =>
            go_wp2
            go_ret
            exact ⟨by rw [show r = true from by rw [← HR.out]; simp [funEqI, Ht0.out, Ht1.out, Hq0.out, Hq1.out, Hq2.out]]; first | rfl | (simp; done) | (simp [Ht0.out, Ht1.out, Hq0.out, Hq1.out, Hq2.out]; done), by (first | exact HM3.out | exact Mod.refl _ _)⟩
          | false =>
            go_wp2
            go_ret
            exact ⟨by rw [show r = false from by rw [← HR.out]; simp [funEqI, Ht0.out, Ht1.out, Hq0.out, Hq1.out, Hq2.out]]; first | rfl | (simp; done) | (simp [Ht0.out, Ht1.out, Hq0.out, Hq1.out, Hq2.out]; done), by (first | exact HM3.out | exact Mod.refl _ _)⟩
        | false =>
          go_wp2
          go_ret
          exact ⟨by rw [show r = false from by rw [← HR.out]; simp [funEqI, Ht0.out, Ht1.out, Hq0.out, Hq1.out]]; first | rfl | (simp; done) | (simp [Ht0.out, Ht1.out, Hq0.out, Hq1.out]; done), by (first | exact HM2.out | exact Mod.refl _ _)⟩
      | false =>
        go_wp2
        go_ret
        exact ⟨by rw [show r = false from by rw [← HR.out]; simp [funEqI, Ht0.out, Ht1.out, Hq0.out]]; first | rfl | (simp; done) | (simp [Ht0.out, Ht1.out, Hq0.out]; done), by (first | exact HM1.out | exact Mod.refl _ _)⟩
    | false =>
      have Ht1 : Hd (eqB s.result t.result = false) := ⟨t1⟩
      go_wp2
      go_ret
      exact ⟨by rw [show r = false from by rw [← HR.out]; simp [funEqI, Ht0.out, Ht1.out]]; first | rfl | (simp; done) | (simp [Ht0.out, Ht1.out]; done), by (first | exact (Mod.alloc _ _ _).trans (Mod.alloc _ _ _) (fun _ h => Or.inl h))⟩
  | false =>
    have Ht0 : Hd (eqB s.name t.name = false) := ⟨t0⟩
    go_wp2
    go_ret
    exact ⟨by rw [show r = false from by rw [← HR.out]; simp [funEqI, Ht0.out]]; first | rfl | (simp; done) | (simp [Ht0.out]; done), by (first | exact (Mod.alloc _ _ _).trans (Mod.alloc _ _ _) (fun _ h => Or.inl h))⟩
theorem fn_67 : Fn 67 := fn_of Tryz.func67 (by decide +kernel) (by kernel_rfl)
set_option maxRecDepth 100000 in
set_option maxHeartbeats 2000000 in
theorem Same_ans {v v2 : Value} {s t : Prg} (hv : prgV S w0 v s) (hv2 : prgV S w0 v2 t) : Ans 23 #[v, v2] w0 (.bool (sameI s t)) := by
  intro w hw
  obtain ⟨oa, la, ca, ob, lb, cb, oc, lc, cc, rfl, k1, k2, k3⟩ := hv
  obtain ⟨oa2, la2, ca2, ob2, lb2, cb2, oc2, lc2, cc2, rfl, k12, k22, k32⟩ := hv2
  have HA : Hd (∀ w', Mod (fun _ => False) w w' → Calls Tryz.prog 61 #[.slice oa la ca, .slice oa2 la2 ca2, .func (.func 62) #[] #[]] w' _) := ⟨fun w' h' => (eqf_sct k1 k12 sctEqI 62 fn_62 (fun v x v2 y hv hv2 _ _ => sameStruct_ans hv hv2)) w' (hw.trans h' (fun _ h => Or.inl h))⟩
  have HB : Hd (∀ w', Mod (fun _ => False) w w' → Calls Tryz.prog 64 #[.slice ob lb cb, .slice ob2 lb2 cb2, .func (.func 65) #[] #[]] w' _) := ⟨fun w' h' => (eqf_enm k2 k22 enmEqI 65 fn_65 (fun v x v2 y hv hv2 _ _ => sameEnum_ans hv hv2)) w' (hw.trans h' (fun _ h => Or.inl h))⟩
  have HC : Hd (∀ w', Mod (fun _ => False) w w' → Calls Tryz.prog 66 #[.slice oc lc cc, .slice oc2 lc2 cc2, .func (.func 67) #[] #[]] w' _) := ⟨fun w' h' => (eqf_fun k3 k32 funEqI 67 fn_67 (fun v x v2 y hv hv2 _ _ => sameFunc_ans hv hv2)) w' (hw.trans h' (fun _ h => Or.inl h))⟩
  clear k1 k2 k3 k12 k22 k32 hw
  obtain ⟨r, hr⟩ : ∃ r, sameI s t = r := ⟨_, rfl⟩
  have HR : Hd _ := ⟨hr⟩
  rw [hr]
  clear hr
  obtain ⟨q0, hq⟩ : ∃ q, allZ sctEqI s.structs t.structs = q := ⟨_, rfl⟩
  rw [hq] at HA
  have Hq0 : Hd _ := ⟨hq⟩
  clear hq
  obtain ⟨q1, hq⟩ : ∃ q, allZ enmEqI s.enums t.enums = q := ⟨_, rfl⟩
  rw [hq] at HB
  have Hq1 : Hd _ := ⟨hq⟩
  clear hq
  obtain ⟨q2, hq⟩ : ∃ q, allZ funEqI s.funcs t.funcs = q := ⟨_, rfl⟩
  rw [hq] at HC
  have Hq2 : Hd _ := ⟨hq⟩
  clear hq
  go_enter Tryz.func23, Tryz.ntmps23
  go_wp2_with fail
  refine (HA.out _ (by (first | exact (Mod.alloc _ _ _).trans (Mod.alloc _ _ _) (fun _ h => Or.inl h)))).mono ?_
  rintro e w1 ⟨rfl, hM⟩
  have HM1 : Hd (Mod (fun _ => False) w w1) := ⟨by refine Mod.trans ?_ hM (fun _ h => Or.inl h); (first | exact (Mod.alloc _ _ _).trans (Mod.alloc _ _ _) (fun _ h => Or.inl h))⟩
  have hb : w1.heap[w.heap.size]? = some (.cells #[.slice oa la ca, .slice ob lb cb, .slice oc lc cc] 36) := (hM.block _ (lt2_0 _ _ _) (fun h => h)).trans (heap2_0 _ _ _)
  have HB1_0 : Hd _ := ⟨hb⟩
  have c1_0_0 : w1.cell? ⟨w.heap.size, 0, none⟩ = some (.slice oa la ca) := by simp [World.cell?, hb]
  have c1_0_1 : w1.cell? ⟨w.heap.size, 1, none⟩ = some (.slice ob lb cb) := by simp [World.cell?, hb]
  have c1_0_2 : w1.cell? ⟨w.heap.size, 2, none⟩ = some (.slice oc lc cc) := by simp [World.cell?, hb]
  clear hb
  have hb : w1.heap[w.heap.size + 1]? = some (.cells #[.slice oa2 la2 ca2, .slice ob2 lb2 cb2, .slice oc2 lc2 cc2] 36) := (hM.block _ (lt2_1 _ _ _) (fun h => h)).trans (heap2_1 _ _ _)
  have HB1_1 : Hd _ := ⟨hb⟩
  have c1_1_0 : w1.cell? ⟨w.heap.size + 1, 0, none⟩ = some (.slice oa2 la2 ca2) := by simp [World.cell?, hb]
  have c1_1_1 : w1.cell? ⟨w.heap.size + 1, 1, none⟩ = some (.slice ob2 lb2 cb2) := by simp [World.cell?, hb]
  have c1_1_2 : w1.cell? ⟨w.heap.size + 1, 2, none⟩ = some (.slice oc2 lc2 cc2) := by simp [World.cell?, hb]
  clear hb
  clear hM
  cases q0 with
  | true =>
    go_wp2_with fail
    refine (HB.out _ (by (first | exact HM1.out | exact Mod.refl _ _))).mono ?_
    rintro e w2 ⟨rfl, hM⟩
    have HM2 : Hd (Mod (fun _ => False) w w2) := ⟨by refine Mod.trans ?_ hM (fun _ h => Or.inl h); (first | exact HM1.out | exact Mod.refl _ _)⟩
    have hb : w2.heap[w.heap.size]? = some (.cells #[.slice oa la ca, .slice ob lb cb, .slice oc lc cc] 36) := (hM.block _ ((Array.getElem?_eq_some_iff.1 HB1_0.out).1) (fun h => h)).trans HB1_0.out
    have HB2_0 : Hd _ := ⟨hb⟩
    have c2_0_0 : w2.cell? ⟨w.heap.size, 0, none⟩ = some (.slice oa la ca) := by simp [World.cell?, hb]
    have c2_0_1 : w2.cell? ⟨w.heap.size, 1, none⟩ = some (.slice ob lb cb) := by simp [World.cell?, hb]
    have c2_0_2 : w2.cell? ⟨w.heap.size, 2, none⟩ = some (.slice oc lc cc) := by simp [World.cell?, hb]
    clear hb
    clear c1_0_0 c1_0_1 c1_0_2
    have hb : w2.heap[w.heap.size + 1]? = some (.cells #[.slice oa2 la2 ca2, .slice ob2 lb2 cb2, .slice oc2 lc2 cc2] 36) := (hM.block _ ((Array.getElem?_eq_some_iff.1 HB1_1.out).1) (fun h => h)).trans HB1_1.out
    have HB2_1 : Hd _ := ⟨hb⟩
    have c2_1_0 : w2.cell? ⟨w.heap.size + 1, 0, none⟩ = some (.slice oa2 la2 ca2) := by simp [World.cell?, hb]
    have c2_1_1 : w2.cell? ⟨w.heap.size + 1, 1, none⟩ = some (.slice ob2 lb2 cb2) := by simp [World.cell?, hb]
    have c2_1_2 : w2.cell? ⟨w.heap.size + 1, 2, none⟩ = some (.slice oc2 lc2 cc2) := by simp [World.cell?, hb]
    clear hb
    clear c1_1_0 c1_1_1 c1_1_2
    clear hM
    cases q1 with
    | true =>
      go_wp2_with fail
      refine (HC.out _ (by (first | exact HM2.out | exact Mod.refl _ _))).mono ?_
      rintro e w3 ⟨rfl, hM⟩
      have HM3 : Hd (Mod (fun _ => False) w w3) := ⟨by refine Mod.trans ?_ hM (fun _ h => Or.inl h); (first | exact HM2.out | exact Mod.refl _ _)⟩
      have hb : w3.heap[w.heap.size]? = some (.cells #[.slice oa la ca, .slice ob lb cb, .slice oc lc cc] 36) := (hM.block _ ((Array.getElem?_eq_some_iff.1 HB2_0.out).1) (fun h => h)).trans HB2_0.out
      have HB3_0 : Hd _ := ⟨hb⟩
      have c3_0_0 : w3.cell? ⟨w.heap.size, 0, none⟩ = some (.slice oa la ca) := by simp [World.cell?, hb]
      have c3_0_1 : w3.cell? ⟨w.heap.size, 1, none⟩ = some (.slice ob lb cb) := by simp [World.cell?, hb]
      have c3_0_2 : w3.cell? ⟨w.heap.size, 2, none⟩ = some (.slice oc lc cc) := by simp [World.cell?, hb]
      clear hb
      clear c2_0_0 c2_0_1 c2_0_2
      have hb : w3.heap[w.heap.size + 1]? = some (.cells #[.slice oa2 la2 ca2, .slice ob2 lb2 cb2, .slice oc2 lc2 cc2] 36) := (hM.block _ ((Array.getElem?_eq_some_iff.1 HB2_1.out).1) (fun h => h)).trans HB2_1.out
      have HB3_1 : Hd _ := ⟨hb⟩
      have c3_1_0 : w3.cell? ⟨w.heap.size + 1, 0, none⟩ = some (.slice oa2 la2 ca2) := by simp [World.cell?, hb]
      have c3_1_1 : w3.cell? ⟨w.heap.size + 1, 1, none⟩ = some (.slice ob2 lb2 cb2) := by simp [World.cell?, hb]
      have c3_1_2 : w3.cell? ⟨w.heap.size + 1, 2, none⟩ = some (.slice oc2 lc2 cc2) := by simp [World.cell?, hb]
      clear hb
      clear c2_1_0 c2_1_1 c2_1_2
      clear hM
      cases q2 with
      | true =>
        go_wp2
        go_ret
        exact ⟨by rw [show r = true from by rw [← HR.out]; simp [sameI, Hq0.out, Hq1.out, Hq2.out]]; first | rfl | (simp; done) | (simp [Hq0.out, Hq1.out, Hq2.out]; done), by (first | exact HM3.out | exact Mod.refl _ _)⟩
      | false =>
        go_wp2
        go_ret
        exact ⟨by rw [show r = false from by rw [← HR.out]; simp [sameI, Hq0.out, Hq1.out, Hq2.out]]; first | rfl | (simp; done) | (simp [Hq0.out, Hq1.out, Hq2.out]; done), by (first | exact HM3.out | exact Mod.refl _ _)⟩
    | false =>
      go_wp2
      go_ret
      exact ⟨by rw [show r = false from by rw [← HR.out]; simp [sameI, Hq0.out, Hq1.out]]; first | rfl | (simp; done) | (simp [Hq0.out, Hq1.out]; done), by (first | exact HM2.out | exact Mod.refl _ _)⟩
  | false =>
    go_wp2_with fail
    refine (HB.out _ (by (first | exact HM1.out | exact Mod.refl _ _))).mono ?_
    rintro e w2 ⟨rfl, hM⟩
    have HM2 : Hd (Mod (fun _ => False) w w2) := ⟨by refine Mod.trans ?_ hM (fun _ h => Or.inl h); (first | exact HM1.out | exact Mod.refl _ _)⟩
    have hb : w2.heap[w.heap.size]? = some (.cells #[.slice oa la ca, .slice ob lb cb, .slice oc lc cc] 36) := (hM.block _ ((Array.getElem?_eq_some_iff.1 HB1_0.out).1) (fun h => h)).trans HB1_0.out
    have HB2_0 : Hd _ := ⟨hb⟩
    have c2_0_0 : w2.cell? ⟨w.heap.size, 0, none⟩ = some (.slice oa la ca) := by simp [World.cell?, hb]
    have c2_0_1 : w2.cell? ⟨w.heap.size, 1, none⟩ = some (.slice ob lb cb) := by simp [World.cell?, hb]
    have c2_0_2 : w2.cell? ⟨w.heap.size, 2, none⟩ = some (.slice oc lc cc) := by simp [World.cell?, hb]
    clear hb
    clear c1_0_0 c1_0_1 c1_0_2
    have hb : w2.heap[w.heap.size + 1]? = some (.cells #[.slice oa2 la2 ca2, .slice ob2 lb2 cb2, .slice oc2 lc2 cc2] 36) := (hM.block _ ((Array.getElem?_eq_some_iff.1 HB1_1.out).1) (fun h => h)).trans HB1_1.out
    have HB2_1 : Hd _ := ⟨hb⟩
    have c2_1_0 : w2.cell? ⟨w.heap.size + 1, 0, none⟩ = some (.slice oa2 la2 ca2) := by simp [World.cell?, hb]
    have c2_1_1 : w2.cell? ⟨w.heap.size + 1, 1, none⟩ = some (.slice ob2 lb2 cb2) := by simp [World.cell?, hb]
    have c2_1_2 : w2.cell? ⟨w.heap.size + 1, 2, none⟩ = some (.slice oc2 lc2 cc2) := by simp [World.cell?, hb]
    clear hb
    clear c1_1_0 c1_1_1 c1_1_2
    clear hM
    cases q1 with
    | true =>
      go_wp2
      go_ret
      exact ⟨by rw [show r = false from by rw [← HR.out]; simp [sameI, Hq0.out, Hq1.out]]; first | rfl | (simp; done) | (simp [Hq0.out, Hq1.out]; done), by (first | exact HM2.out | exact Mod.refl _ _)⟩
    | false =>
      go_wp2
      go_ret
      exact ⟨by rw [show r = false from by rw [← HR.out]; simp [sameI, Hq0.out, Hq1.out]]; first | rfl | (simp; done) | (simp [Hq0.out, Hq1.out]; done), by (first | exact HM2.out | exact Mod.refl _ _)⟩
end
end Go.Proofs.YtpodeccpibnlbaaGreatDoor
