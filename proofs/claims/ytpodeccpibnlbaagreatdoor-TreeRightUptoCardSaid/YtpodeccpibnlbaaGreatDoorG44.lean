/- The reference's Stmt, walked. -/
import Derived.Test.YtpodeccpibnlbaaGreatDoorG43
import Derived.Test.YtpodeccpibnlbaaGreatDoorG25
import Derived.BigQuiet
namespace Go.Proofs.YtpodeccpibnlbaaGreatDoor
set_option linter.unusedVariables false
set_option linter.unusedSimpArgs false
open Go.RowKit
def leastR (k : Nat) : Nat := [0, 0, 2, 2, 2, 1, 1, 0, 0, 1, 1, 1].getD k 0
def mostR (k : Nat) : Nat := [0, 0, 2, 2, 2, 1, 1, 16, 1, 1, 1, 1].getD k 0
def leastA : Array Value := #[.int .i64 0, .int .i64 0, .int .i64 2, .int .i64 2, .int .i64 2, .int .i64 1, .int .i64 1, .int .i64 0, .int .i64 0, .int .i64 1, .int .i64 1, .int .i64 1]
def mostA : Array Value := #[.int .i64 0, .int .i64 0, .int .i64 2, .int .i64 2, .int .i64 2, .int .i64 1, .int .i64 1, .int .i64 16, .int .i64 1, .int .i64 1, .int .i64 1, .int .i64 1]
theorem least_at (k : Nat) (h : k < 12) : leastA[k]? = some (.int .i64 (leastR k : Int)) := by
  have : ∀ k : Fin 12, leastA[k.1]? = some (.int .i64 (leastR k.1 : Int)) := by intro k; revert k; simp only [Fin.forall_fin_succ]; exact ⟨rfl, rfl, rfl, rfl, rfl, rfl, rfl, rfl, rfl, rfl, rfl, rfl, fun i => i.elim0⟩
  exact this ⟨k, h⟩
theorem most_at (k : Nat) (h : k < 12) : mostA[k]? = some (.int .i64 (mostR k : Int)) := by
  have : ∀ k : Fin 12, mostA[k.1]? = some (.int .i64 (mostR k.1 : Int)) := by intro k; revert k; simp only [Fin.forall_fin_succ]; exact ⟨rfl, rfl, rfl, rfl, rfl, rfl, rfl, rfl, rfl, rfl, rfl, rfl, fun i => i.elim0⟩
  exact this ⟨k, h⟩
theorem least_le (k : Nat) (h : k < 12) : leastR k ≤ 100 := by
  have : ∀ k : Fin 12, leastR k.1 ≤ 100 := by decide
  exact this ⟨k, h⟩
theorem most_le (k : Nat) (h : k < 12) : mostR k ≤ 100 := by
  have : ∀ k : Fin 12, mostR k.1 ≤ 100 := by decide
  exact this ⟨k, h⟩
def stmtR (s : Stm) : Bool := decide (1 ≤ s.kind) && decide (s.kind ≤ 11) && placesOk s.args (leastR s.kind.toNat) (mostR s.kind.toNat) && (if s.kind = 11 then noneI s.dest else placeI s.dest) && (if s.kind = 1 then decide (-1099511627776 ≤ s.n) && decide (s.n ≤ 1099511627776) else decide (s.n = 0)) && namedI s.name (decide (s.kind = 7) || decide (s.kind = 8)) && namedI s.variant (decide (s.kind = 8))
theorem cell_i {w : World} {k j : Nat} {cs : Array Value} {t : TypeId} {fr : Nat × Nat} {v : Value} (h : w.heap[k]? = some (.cells cs t fr)) (hv : cs[j]? = some v) : w.cell? ⟨k, j, none⟩ = some v := by simp [World.cell?, h, hv]
section
variable {S : Nat → Prop} {w0 : World}
set_option maxRecDepth 100000 in
set_option maxHeartbeats 8000000 in
theorem rStmt_ans {v : Value} {s : Stm} (hv : stmV S w0 v s) : Ans 111 #[v] w0 (.bool (stmtR s)) := by
  intro w hw
  have HW : Hd _ := ⟨hw⟩
  obtain ⟨_, hk, hn, hnm, hva, hdl, oa1, la1, ca1, ob1, lb1, cb1, rfl, hds, hag⟩ := hv
  have hl := hag.hlen
  have hbig := hag.hbig
  subst hl
  have HPD : Hd (plV S w0 (.agg #[.string s.dest.loc, .slice oa1 la1 ca1]) s.dest) := ⟨⟨hdl, oa1, la1, ca1, rfl, hds⟩⟩
  have HAG : Hd _ := ⟨hag⟩
  have HNM : Hd _ := ⟨hnm⟩
  have HVA : Hd _ := ⟨hva⟩
  have HKI : Hd _ := ⟨hk⟩
  have HNI : Hd _ := ⟨hn⟩
  clear hw hk hn hnm hva hdl hds hag
  obtain ⟨r, hr⟩ : ∃ r, stmtR s = r := ⟨_, rfl⟩
  have HR : Hd _ := ⟨hr⟩
  rw [hr]
  clear hr
  go_enter Tryz.func111, Tryz.ntmps111
  repeat (go_not_at_region 3; first | go_values | go_skip | go_guarded | go_step | go_upon | go_back)
  obtain ⟨b0, hb0⟩ : ∃ b, w.heap.size = b := ⟨_, rfl⟩
  have H0 : Hd ((((w.alloc (.cells #[.int .i64 s.pos, .int .i64 s.kind, .string s.dest.loc, .slice oa1 la1 ca1, .int .i64 s.n, .string s.name, .string s.variant, .slice ob1 s.args.length cb1] 68)).alloc (.cells #[.int .i64 0, .int .i64 0, .int .i64 2, .int .i64 2, .int .i64 2, .int .i64 1, .int .i64 1, .int .i64 0, .int .i64 0, .int .i64 1, .int .i64 1, .int .i64 1] 171)).alloc (.cells #[.int .i64 0, .int .i64 0, .int .i64 2, .int .i64 2, .int .i64 2, .int .i64 1, .int .i64 1, .int .i64 16, .int .i64 1, .int .i64 1, .int .i64 1, .int .i64 1] 171)).heap[b0]? = some (.cells #[.int .i64 s.pos, .int .i64 s.kind, .string s.dest.loc, .slice oa1 la1 ca1, .int .i64 s.n, .string s.name, .string s.variant, .slice ob1 s.args.length cb1] 68 (0, 0))) := ⟨by rw [← hb0]; exact heap3_0 _ _ _ _⟩
  have H1 : Hd ((((w.alloc (.cells #[.int .i64 s.pos, .int .i64 s.kind, .string s.dest.loc, .slice oa1 la1 ca1, .int .i64 s.n, .string s.name, .string s.variant, .slice ob1 s.args.length cb1] 68)).alloc (.cells #[.int .i64 0, .int .i64 0, .int .i64 2, .int .i64 2, .int .i64 2, .int .i64 1, .int .i64 1, .int .i64 0, .int .i64 0, .int .i64 1, .int .i64 1, .int .i64 1] 171)).alloc (.cells #[.int .i64 0, .int .i64 0, .int .i64 2, .int .i64 2, .int .i64 2, .int .i64 1, .int .i64 1, .int .i64 16, .int .i64 1, .int .i64 1, .int .i64 1, .int .i64 1] 171)).heap[b0 + 1]? = some (.cells leastA 171 (0, 0))) := ⟨by rw [← hb0]; exact heap3_1 _ _ _ _⟩
  have H2 : Hd ((((w.alloc (.cells #[.int .i64 s.pos, .int .i64 s.kind, .string s.dest.loc, .slice oa1 la1 ca1, .int .i64 s.n, .string s.name, .string s.variant, .slice ob1 s.args.length cb1] 68)).alloc (.cells #[.int .i64 0, .int .i64 0, .int .i64 2, .int .i64 2, .int .i64 2, .int .i64 1, .int .i64 1, .int .i64 0, .int .i64 0, .int .i64 1, .int .i64 1, .int .i64 1] 171)).alloc (.cells #[.int .i64 0, .int .i64 0, .int .i64 2, .int .i64 2, .int .i64 2, .int .i64 1, .int .i64 1, .int .i64 16, .int .i64 1, .int .i64 1, .int .i64 1, .int .i64 1] 171)).heap[b0 + 1 + 1]? = some (.cells mostA 171 (0, 0))) := ⟨by rw [← hb0]; exact heap3_2 _ _ _ _⟩
  have HMW : Hd (Mod (fun _ => False) w (((w.alloc (.cells #[.int .i64 s.pos, .int .i64 s.kind, .string s.dest.loc, .slice oa1 la1 ca1, .int .i64 s.n, .string s.name, .string s.variant, .slice ob1 s.args.length cb1] 68)).alloc (.cells #[.int .i64 0, .int .i64 0, .int .i64 2, .int .i64 2, .int .i64 2, .int .i64 1, .int .i64 1, .int .i64 0, .int .i64 0, .int .i64 1, .int .i64 1, .int .i64 1] 171)).alloc (.cells #[.int .i64 0, .int .i64 0, .int .i64 2, .int .i64 2, .int .i64 2, .int .i64 1, .int .i64 1, .int .i64 16, .int .i64 1, .int .i64 1, .int .i64 1, .int .i64 1] 171))) := ⟨((Mod.alloc _ _ _).trans (Mod.alloc _ _ _) (fun _ h => Or.inl h)).trans (Mod.alloc _ _ _) (fun _ h => Or.inl h)⟩
  obtain ⟨W3, hW3⟩ : ∃ W3, (((w.alloc (.cells #[.int .i64 s.pos, .int .i64 s.kind, .string s.dest.loc, .slice oa1 la1 ca1, .int .i64 s.n, .string s.name, .string s.variant, .slice ob1 s.args.length cb1] 68)).alloc (.cells #[.int .i64 0, .int .i64 0, .int .i64 2, .int .i64 2, .int .i64 2, .int .i64 1, .int .i64 1, .int .i64 0, .int .i64 0, .int .i64 1, .int .i64 1, .int .i64 1] 171)).alloc (.cells #[.int .i64 0, .int .i64 0, .int .i64 2, .int .i64 2, .int .i64 2, .int .i64 1, .int .i64 1, .int .i64 16, .int .i64 1, .int .i64 1, .int .i64 1, .int .i64 1] 171)) = W3 := ⟨_, rfl⟩
  rw [hW3] at H0 H1 H2 HMW
  rw [hb0, hW3]
  obtain ⟨b1, hb1⟩ : ∃ b, b0 + 1 = b := ⟨_, rfl⟩
  obtain ⟨b2, hb2⟩ : ∃ b, b1 + 1 = b := ⟨_, rfl⟩
  rw [hb1] at H1 H2
  rw [hb2] at H2
  rw [hb1, hb2]
  clear hW3 hb0 hb1 hb2
  have HK3 : Hd (Mod (fun _ => False) w0 W3) := ⟨HW.out.trans HMW.out (fun _ h => Or.inl h)⟩
  have HSF : Hd (∀ w', Mod (fun _ => False) W3 w' → w'.cell? ⟨b0, 1, none⟩ = some (.int .i64 s.kind) ∧ w'.cell? ⟨b0, 2, none⟩ = some (.string s.dest.loc) ∧ w'.cell? ⟨b0, 3, none⟩ = some (.slice oa1 la1 ca1) ∧ w'.cell? ⟨b0, 4, none⟩ = some (.int .i64 s.n) ∧ w'.cell? ⟨b0, 5, none⟩ = some (.string s.name) ∧ w'.cell? ⟨b0, 6, none⟩ = some (.string s.variant) ∧ w'.cell? ⟨b0, 7, none⟩ = some (.slice ob1 s.args.length cb1) ∧ (∀ k : Nat, k < 12 → w'.cell? ⟨b1, k, none⟩ = some (.int .i64 (leastR k : Int))) ∧ (∀ k : Nat, k < 12 → w'.cell? ⟨b2, k, none⟩ = some (.int .i64 (mostR k : Int)))) := ⟨fun w' h => by
    have q0 := (h.block _ (Array.getElem?_eq_some_iff.1 H0.out).1 (fun h => h)).trans H0.out
    have q1 := (h.block _ (Array.getElem?_eq_some_iff.1 H1.out).1 (fun h => h)).trans H1.out
    have q2 := (h.block _ (Array.getElem?_eq_some_iff.1 H2.out).1 (fun h => h)).trans H2.out
    exact ⟨cell_i q0 rfl, cell_i q0 rfl, cell_i q0 rfl, cell_i q0 rfl, cell_i q0 rfl, cell_i q0 rfl, cell_i q0 rfl, fun k hk => cell_i q1 (least_at k hk), fun k hk => cell_i q2 (most_at k hk)⟩⟩
  clear H0 H1 H2
  by_cases h1 : s.kind < 1
  · have HF : Hd (r = false) := ⟨by rw [← HR.out, stmtR]; simp [show ¬ (1 ≤ s.kind) by omega]⟩
    refine wp_region_quiet (C := fun w' => Mod (fun _ => False) W3 w') (by kernel_rfl) (by kernel_rfl) (Mod.drew _ _) ?_
    simp only [List.toList_toArray]
    go_big_quiet_want
    refine ⟨.pointer (some ⟨b0, 1, none⟩), fun w hw => ?_, ?_⟩
    · obtain ⟨c1, c2, c3, c4, c5, c6, c7, c8, c9⟩ := HSF.out w hw
      unfold Oper.quietAt
      go_simp
    go_big_quiet_on
    simp only [Act.put, List.setIfInBounds_toArray, List.set_cons_zero, List.set_cons_succ]
    go_big_quiet_want
    refine ⟨.int .i64 s.kind, fun w hw => ?_, ?_⟩
    · obtain ⟨c1, c2, c3, c4, c5, c6, c7, c8, c9⟩ := HSF.out w hw
      unfold Oper.quietAt
      go_simp
    go_big_quiet_on
    simp only [Act.put, List.setIfInBounds_toArray, List.set_cons_zero, List.set_cons_succ]
    go_big_quiet_want
    refine ⟨.bool true, fun w hw => ?_, ?_⟩
    · obtain ⟨c1, c2, c3, c4, c5, c6, c7, c8, c9⟩ := HSF.out w hw
      unfold Oper.quietAt
      go_simp
    go_big_quiet_on
    simp only [Act.put, List.setIfInBounds_toArray, List.set_cons_zero, List.set_cons_succ]
    go_big_quiet_want
    refine ⟨.bool true, fun w hw => ?_, ?_⟩
    · obtain ⟨c1, c2, c3, c4, c5, c6, c7, c8, c9⟩ := HSF.out w hw
      unfold Oper.quietAt
      go_simp
    go_big_quiet_on
    simp only [Act.put, List.setIfInBounds_toArray, List.set_cons_zero, List.set_cons_succ]
    go_big_quiet_skip
    go_big_quiet_skip
    go_big_quiet_skip
    go_big_quiet_want
    refine ⟨.bool true, fun w hw => ?_, ?_⟩
    · obtain ⟨c1, c2, c3, c4, c5, c6, c7, c8, c9⟩ := HSF.out w hw
      unfold Oper.quietAt
      go_simp
    go_big_quiet_on
    simp only [Act.put, List.setIfInBounds_toArray, List.set_cons_zero, List.set_cons_succ]
    go_big_quiet_want
    refine ⟨.bool true, fun w hw => ?_, ?_⟩
    · obtain ⟨c1, c2, c3, c4, c5, c6, c7, c8, c9⟩ := HSF.out w hw
      unfold Oper.quietAt
      go_simp
    go_big_quiet_on
    simp only [Act.put, List.setIfInBounds_toArray, List.set_cons_zero, List.set_cons_succ]
    go_big_quiet_skip
    go_big_quiet_skip
    go_big_quiet_skip
    go_big_quiet_skip
    go_big_quiet_skip
    go_big_quiet_skip
    go_big_quiet_skip
    go_big_quiet_skip
    go_big_quiet_skip
    go_big_quiet_skip
    go_big_quiet_skip
    go_big_quiet_skip
    go_big_quiet_want
    refine ⟨.bool true, fun w hw => ?_, ?_⟩
    · obtain ⟨c1, c2, c3, c4, c5, c6, c7, c8, c9⟩ := HSF.out w hw
      unfold Oper.quietAt
      go_simp
    go_big_quiet_on
    simp only [Act.put, List.setIfInBounds_toArray, List.set_cons_zero, List.set_cons_succ]
    refine wpQuiet_nil ?_
    intro wd hwd
    have HD : Hd _ := ⟨hwd⟩
    clear hwd
    go_wp2
    go_ret
    exact ⟨by rw [HF.out]; rfl, HMW.out.trans HD.out (fun _ h => Or.inl h)⟩
  by_cases h2 : 11 < s.kind
  · have HF : Hd (r = false) := ⟨by rw [← HR.out, stmtR]; simp [show ¬ (s.kind ≤ 11) by omega]⟩
    refine wp_region_quiet (C := fun w' => Mod (fun _ => False) W3 w') (by kernel_rfl) (by kernel_rfl) (Mod.drew _ _) ?_
    simp only [List.toList_toArray]
    go_big_quiet_want
    refine ⟨.pointer (some ⟨b0, 1, none⟩), fun w hw => ?_, ?_⟩
    · obtain ⟨c1, c2, c3, c4, c5, c6, c7, c8, c9⟩ := HSF.out w hw
      unfold Oper.quietAt
      go_simp
    go_big_quiet_on
    simp only [Act.put, List.setIfInBounds_toArray, List.set_cons_zero, List.set_cons_succ]
    go_big_quiet_want
    refine ⟨.int .i64 s.kind, fun w hw => ?_, ?_⟩
    · obtain ⟨c1, c2, c3, c4, c5, c6, c7, c8, c9⟩ := HSF.out w hw
      unfold Oper.quietAt
      go_simp
    go_big_quiet_on
    simp only [Act.put, List.setIfInBounds_toArray, List.set_cons_zero, List.set_cons_succ]
    go_big_quiet_want
    refine ⟨.bool false, fun w hw => ?_, ?_⟩
    · obtain ⟨c1, c2, c3, c4, c5, c6, c7, c8, c9⟩ := HSF.out w hw
      unfold Oper.quietAt
      go_simp
    go_big_quiet_on
    simp only [Act.put, List.setIfInBounds_toArray, List.set_cons_zero, List.set_cons_succ]
    go_big_quiet_want
    refine ⟨.bool false, fun w hw => ?_, ?_⟩
    · obtain ⟨c1, c2, c3, c4, c5, c6, c7, c8, c9⟩ := HSF.out w hw
      unfold Oper.quietAt
      go_simp
    go_big_quiet_on
    simp only [Act.put, List.setIfInBounds_toArray, List.set_cons_zero, List.set_cons_succ]
    go_big_quiet_want
    refine ⟨.pointer (some ⟨b0, 1, none⟩), fun w hw => ?_, ?_⟩
    · obtain ⟨c1, c2, c3, c4, c5, c6, c7, c8, c9⟩ := HSF.out w hw
      unfold Oper.quietAt
      go_simp
    go_big_quiet_on
    simp only [Act.put, List.setIfInBounds_toArray, List.set_cons_zero, List.set_cons_succ]
    go_big_quiet_want
    refine ⟨.int .i64 s.kind, fun w hw => ?_, ?_⟩
    · obtain ⟨c1, c2, c3, c4, c5, c6, c7, c8, c9⟩ := HSF.out w hw
      unfold Oper.quietAt
      go_simp
    go_big_quiet_on
    simp only [Act.put, List.setIfInBounds_toArray, List.set_cons_zero, List.set_cons_succ]
    go_big_quiet_want
    refine ⟨.bool true, fun w hw => ?_, ?_⟩
    · obtain ⟨c1, c2, c3, c4, c5, c6, c7, c8, c9⟩ := HSF.out w hw
      unfold Oper.quietAt
      go_simp
    go_big_quiet_on
    simp only [Act.put, List.setIfInBounds_toArray, List.set_cons_zero, List.set_cons_succ]
    go_big_quiet_want
    refine ⟨.bool true, fun w hw => ?_, ?_⟩
    · obtain ⟨c1, c2, c3, c4, c5, c6, c7, c8, c9⟩ := HSF.out w hw
      unfold Oper.quietAt
      go_simp
    go_big_quiet_on
    simp only [Act.put, List.setIfInBounds_toArray, List.set_cons_zero, List.set_cons_succ]
    go_big_quiet_want
    refine ⟨.bool true, fun w hw => ?_, ?_⟩
    · obtain ⟨c1, c2, c3, c4, c5, c6, c7, c8, c9⟩ := HSF.out w hw
      unfold Oper.quietAt
      go_simp
    go_big_quiet_on
    simp only [Act.put, List.setIfInBounds_toArray, List.set_cons_zero, List.set_cons_succ]
    go_big_quiet_skip
    go_big_quiet_skip
    go_big_quiet_skip
    go_big_quiet_skip
    go_big_quiet_skip
    go_big_quiet_skip
    go_big_quiet_skip
    go_big_quiet_skip
    go_big_quiet_skip
    go_big_quiet_skip
    go_big_quiet_skip
    go_big_quiet_skip
    go_big_quiet_want
    refine ⟨.bool true, fun w hw => ?_, ?_⟩
    · obtain ⟨c1, c2, c3, c4, c5, c6, c7, c8, c9⟩ := HSF.out w hw
      unfold Oper.quietAt
      go_simp
    go_big_quiet_on
    simp only [Act.put, List.setIfInBounds_toArray, List.set_cons_zero, List.set_cons_succ]
    refine wpQuiet_nil ?_
    intro wd hwd
    have HD : Hd _ := ⟨hwd⟩
    clear hwd
    go_wp2
    go_ret
    exact ⟨by rw [HF.out]; rfl, HMW.out.trans HD.out (fun _ h => Or.inl h)⟩
  obtain ⟨k, hk⟩ : ∃ k : Nat, s.kind = (k : Int) := ⟨s.kind.toNat, by omega⟩
  have hk1 : 1 ≤ k := by omega
  have hk2 : k ≤ 11 := by omega
  have HPK : Hd (∀ w', Mod (fun _ => False) W3 w' → _) := ⟨fun w' h => rplaces_ans HAG.out (leastR k) (mostR k) (least_le k (by omega)) (most_le k (by omega)) w' (HK3.out.trans h (fun _ h => Or.inl h))⟩
  have HKT : Hd (s.kind.toNat = k) := ⟨by rw [hk]; rfl⟩
  obtain ⟨q, hq⟩ : ∃ q, placesOk s.args (leastR k) (mostR k) = q := ⟨_, rfl⟩
  have HQ : Hd _ := ⟨hq⟩
  rw [hq] at HPK
  clear hq
  rw [hk] at HSF h1 h2
  have HKE : Hd _ := ⟨hk⟩
  clear hk
  have k1 : ¬ ((k : Int) < 1) := by omega
  have k2 : ¬ (11 < (k : Int)) := by omega
  have k3 : (k : Int) < 12 := by omega
  have k4 : (0 : Int) ≤ (k : Int) := by omega
  have k5 : k < 12 := by omega
  refine wp_region_quiet (C := fun w' => Mod (fun _ => False) W3 w') (by kernel_rfl) (by kernel_rfl) (Mod.drew _ _) ?_
  simp only [List.toList_toArray]
  go_big_quiet_want
  refine ⟨.pointer (some ⟨b0, 1, none⟩), fun w hw => ?_, ?_⟩
  · obtain ⟨c1, c2, c3, c4, c5, c6, c7, c8, c9⟩ := HSF.out w hw
    unfold Oper.quietAt
    go_simp
  go_big_quiet_on
  simp only [Act.put, List.setIfInBounds_toArray, List.set_cons_zero, List.set_cons_succ]
  go_big_quiet_want
  refine ⟨.int .i64 (k : Int), fun w hw => ?_, ?_⟩
  · obtain ⟨c1, c2, c3, c4, c5, c6, c7, c8, c9⟩ := HSF.out w hw
    unfold Oper.quietAt
    go_simp
  go_big_quiet_on
  simp only [Act.put, List.setIfInBounds_toArray, List.set_cons_zero, List.set_cons_succ]
  go_big_quiet_want
  refine ⟨.bool false, fun w hw => ?_, ?_⟩
  · obtain ⟨c1, c2, c3, c4, c5, c6, c7, c8, c9⟩ := HSF.out w hw
    unfold Oper.quietAt
    go_simp
  go_big_quiet_on
  simp only [Act.put, List.setIfInBounds_toArray, List.set_cons_zero, List.set_cons_succ]
  go_big_quiet_want
  refine ⟨.bool false, fun w hw => ?_, ?_⟩
  · obtain ⟨c1, c2, c3, c4, c5, c6, c7, c8, c9⟩ := HSF.out w hw
    unfold Oper.quietAt
    go_simp
  go_big_quiet_on
  simp only [Act.put, List.setIfInBounds_toArray, List.set_cons_zero, List.set_cons_succ]
  go_big_quiet_want
  refine ⟨.pointer (some ⟨b0, 1, none⟩), fun w hw => ?_, ?_⟩
  · obtain ⟨c1, c2, c3, c4, c5, c6, c7, c8, c9⟩ := HSF.out w hw
    unfold Oper.quietAt
    go_simp
  go_big_quiet_on
  simp only [Act.put, List.setIfInBounds_toArray, List.set_cons_zero, List.set_cons_succ]
  go_big_quiet_want
  refine ⟨.int .i64 (k : Int), fun w hw => ?_, ?_⟩
  · obtain ⟨c1, c2, c3, c4, c5, c6, c7, c8, c9⟩ := HSF.out w hw
    unfold Oper.quietAt
    go_simp
  go_big_quiet_on
  simp only [Act.put, List.setIfInBounds_toArray, List.set_cons_zero, List.set_cons_succ]
  go_big_quiet_want
  refine ⟨.bool false, fun w hw => ?_, ?_⟩
  · obtain ⟨c1, c2, c3, c4, c5, c6, c7, c8, c9⟩ := HSF.out w hw
    unfold Oper.quietAt
    go_simp
  go_big_quiet_on
  simp only [Act.put, List.setIfInBounds_toArray, List.set_cons_zero, List.set_cons_succ]
  go_big_quiet_want
  refine ⟨.bool false, fun w hw => ?_, ?_⟩
  · obtain ⟨c1, c2, c3, c4, c5, c6, c7, c8, c9⟩ := HSF.out w hw
    unfold Oper.quietAt
    go_simp
  go_big_quiet_on
  simp only [Act.put, List.setIfInBounds_toArray, List.set_cons_zero, List.set_cons_succ]
  go_big_quiet_want
  refine ⟨.bool false, fun w hw => ?_, ?_⟩
  · obtain ⟨c1, c2, c3, c4, c5, c6, c7, c8, c9⟩ := HSF.out w hw
    unfold Oper.quietAt
    go_simp
  go_big_quiet_on
  simp only [Act.put, List.setIfInBounds_toArray, List.set_cons_zero, List.set_cons_succ]
  go_big_quiet_want
  refine ⟨.pointer (some ⟨b0, 7, none⟩), fun w hw => ?_, ?_⟩
  · obtain ⟨c1, c2, c3, c4, c5, c6, c7, c8, c9⟩ := HSF.out w hw
    unfold Oper.quietAt
    go_simp
  go_big_quiet_on
  simp only [Act.put, List.setIfInBounds_toArray, List.set_cons_zero, List.set_cons_succ]
  go_big_quiet_want
  refine ⟨.slice ob1 s.args.length cb1, fun w hw => ?_, ?_⟩
  · obtain ⟨c1, c2, c3, c4, c5, c6, c7, c8, c9⟩ := HSF.out w hw
    unfold Oper.quietAt
    go_simp
  go_big_quiet_on
  simp only [Act.put, List.setIfInBounds_toArray, List.set_cons_zero, List.set_cons_succ]
  go_big_quiet_want
  refine ⟨.pointer (some ⟨b0, 1, none⟩), fun w hw => ?_, ?_⟩
  · obtain ⟨c1, c2, c3, c4, c5, c6, c7, c8, c9⟩ := HSF.out w hw
    unfold Oper.quietAt
    go_simp
  go_big_quiet_on
  simp only [Act.put, List.setIfInBounds_toArray, List.set_cons_zero, List.set_cons_succ]
  go_big_quiet_want
  refine ⟨.int .i64 (k : Int), fun w hw => ?_, ?_⟩
  · obtain ⟨c1, c2, c3, c4, c5, c6, c7, c8, c9⟩ := HSF.out w hw
    unfold Oper.quietAt
    go_simp
  go_big_quiet_on
  simp only [Act.put, List.setIfInBounds_toArray, List.set_cons_zero, List.set_cons_succ]
  go_big_quiet_want
  refine ⟨.pointer (some ⟨b1, k, none⟩), fun w hw => ?_, ?_⟩
  · obtain ⟨c1, c2, c3, c4, c5, c6, c7, c8, c9⟩ := HSF.out w hw
    unfold Oper.quietAt
    go_simp
  go_big_quiet_on
  simp only [Act.put, List.setIfInBounds_toArray, List.set_cons_zero, List.set_cons_succ]
  go_big_quiet_want
  refine ⟨.int .i64 (leastR k : Int), fun w hw => ?_, ?_⟩
  · obtain ⟨c1, c2, c3, c4, c5, c6, c7, c8, c9⟩ := HSF.out w hw
    unfold Oper.quietAt
    go_simp
  go_big_quiet_on
  simp only [Act.put, List.setIfInBounds_toArray, List.set_cons_zero, List.set_cons_succ]
  go_big_quiet_want
  refine ⟨.pointer (some ⟨b0, 1, none⟩), fun w hw => ?_, ?_⟩
  · obtain ⟨c1, c2, c3, c4, c5, c6, c7, c8, c9⟩ := HSF.out w hw
    unfold Oper.quietAt
    go_simp
  go_big_quiet_on
  simp only [Act.put, List.setIfInBounds_toArray, List.set_cons_zero, List.set_cons_succ]
  go_big_quiet_want
  refine ⟨.int .i64 (k : Int), fun w hw => ?_, ?_⟩
  · obtain ⟨c1, c2, c3, c4, c5, c6, c7, c8, c9⟩ := HSF.out w hw
    unfold Oper.quietAt
    go_simp
  go_big_quiet_on
  simp only [Act.put, List.setIfInBounds_toArray, List.set_cons_zero, List.set_cons_succ]
  go_big_quiet_want
  refine ⟨.pointer (some ⟨b2, k, none⟩), fun w hw => ?_, ?_⟩
  · obtain ⟨c1, c2, c3, c4, c5, c6, c7, c8, c9⟩ := HSF.out w hw
    unfold Oper.quietAt
    go_simp
  go_big_quiet_on
  simp only [Act.put, List.setIfInBounds_toArray, List.set_cons_zero, List.set_cons_succ]
  go_big_quiet_want
  refine ⟨.int .i64 (mostR k : Int), fun w hw => ?_, ?_⟩
  · obtain ⟨c1, c2, c3, c4, c5, c6, c7, c8, c9⟩ := HSF.out w hw
    unfold Oper.quietAt
    go_simp
  go_big_quiet_on
  simp only [Act.put, List.setIfInBounds_toArray, List.set_cons_zero, List.set_cons_succ]
  go_big_quiet_want
  refine ⟨.bool q, fun w hw => ?_, ?_⟩
  · unfold Oper.quietAt
    go_simp
    refine (Calls.at' (HPK.out w hw) (by with_reducible rfl)).mono ?_
    rintro e w2 ⟨rfl, hM⟩
    exact ⟨rfl, hw.trans hM (fun _ h => Or.inl h)⟩
  go_big_quiet_on
  simp only [Act.put, List.setIfInBounds_toArray, List.set_cons_zero, List.set_cons_succ]
  go_big_quiet_want
  refine ⟨.bool (!q), fun w hw => ?_, ?_⟩
  · obtain ⟨c1, c2, c3, c4, c5, c6, c7, c8, c9⟩ := HSF.out w hw
    unfold Oper.quietAt
    go_simp
  go_big_quiet_on
  simp only [Act.put, List.setIfInBounds_toArray, List.set_cons_zero, List.set_cons_succ]
  go_big_quiet_want
  refine ⟨.bool (!q), fun w hw => ?_, ?_⟩
  · obtain ⟨c1, c2, c3, c4, c5, c6, c7, c8, c9⟩ := HSF.out w hw
    unfold Oper.quietAt
    go_simp
  go_big_quiet_on
  simp only [Act.put, List.setIfInBounds_toArray, List.set_cons_zero, List.set_cons_succ]
  refine wpQuiet_nil ?_
  intro wd hwd
  have HD : Hd _ := ⟨hwd⟩
  clear hwd
  cases q with
  | false =>
    have HF : Hd (r = false) := ⟨by rw [← HR.out, stmtR, HKT.out, HQ.out]; simp⟩
    go_wp2
    go_ret
    exact ⟨by rw [HF.out]; rfl, HMW.out.trans HD.out (fun _ h => Or.inl h)⟩
  | true =>
    have HPA : Hd _ := ⟨rPlace_ans HPD.out wd (HK3.out.trans HD.out (fun _ h => Or.inl h))⟩
    obtain ⟨qp, hqp⟩ : ∃ q, placeI s.dest = q := ⟨_, rfl⟩
    rw [hqp] at HPA
    have HQP : Hd _ := ⟨hqp⟩
    clear hqp
    obtain ⟨c1, c2, c3, c4, c5, c6, c7, _, _⟩ := HSF.out wd HD.out
    go_wp2_with fail
    refine HPA.out.mono ?_
    rintro e w5 ⟨rfl, hM5⟩
    have H5 : Hd (Mod (fun _ => False) W3 w5) := ⟨HD.out.trans hM5 (fun _ h => Or.inl h)⟩
    clear hM5 HPA HPK
    clear c1 c2 c3 c4 c5 c6 c7
    obtain ⟨c1, c2, c3, c4, c5, c6, c7, _, _⟩ := HSF.out w5 H5.out
    by_cases hc : k = 11
    · subst hc
      have HNO : Hd _ := ⟨rnone_ans HPD.out w5 (HK3.out.trans H5.out (fun _ h => Or.inl h))⟩
      obtain ⟨qt, hqt⟩ : ∃ q, noneI s.dest = q := ⟨_, rfl⟩
      rw [hqt] at HNO
      have HQT : Hd _ := ⟨hqt⟩
      clear hqt
      have HON : Hd (∀ w', Mod (fun _ => False) W3 w' → _) := ⟨fun w' h => rnamed_ans HNM.out false w' (HK3.out.trans h (fun _ h => Or.inl h))⟩
      have HOV : Hd (∀ w', Mod (fun _ => False) W3 w' → _) := ⟨fun w' h => rnamed_ans HVA.out false w' (HK3.out.trans h (fun _ h => Or.inl h))⟩
      obtain ⟨qn, hqn⟩ : ∃ q, namedI s.name false = q := ⟨_, rfl⟩
      obtain ⟨qv, hqv⟩ : ∃ q, namedI s.variant false = q := ⟨_, rfl⟩
      have HRC : Hd (r = (qt && decide (s.n = 0) && qn && qv)) := ⟨by
        rw [← HR.out, ← HQT.out, ← hqn, ← hqv, stmtR, HKT.out, HQ.out, HKE.out]
        simp []⟩
      rw [hqn] at HON
      rw [hqv] at HOV
      clear hqn hqv
      go_wp2_with fail
      refine HNO.out.mono ?_
      rintro e w6 ⟨rfl, hM6⟩
      have H6 : Hd (Mod (fun _ => False) W3 w6) := ⟨H5.out.trans hM6 (fun _ h => Or.inl h)⟩
      clear hM6
      clear c1 c2 c3 c4 c5 c6 c7
      obtain ⟨c1, c2, c3, c4, c5, c6, c7, _, _⟩ := HSF.out w6 H6.out
      by_cases n0 : s.n = 0
      · have HN0 : Hd _ := ⟨n0⟩
        have zn : (s.n == 0) = true := by rw [n0]; rfl
        clear n0
        cases qt with
        | false =>
          have HF : Hd (r = false) := ⟨by rw [HRC.out]; simp []⟩
          go_wp2
          go_ret
          exact ⟨by rw [HF.out]; rfl, HMW.out.trans H6.out (fun _ h => Or.inl h)⟩
        | true =>
          go_wp2_with fail
          refine (HON.out w6 H6.out).mono ?_
          rintro e w8 ⟨rfl, hM8⟩
          have H8 : Hd (Mod (fun _ => False) W3 w8) := ⟨H6.out.trans hM8 (fun _ h => Or.inl h)⟩
          clear hM8
          clear c1 c2 c3 c4 c5 c6 c7
          obtain ⟨c1, c2, c3, c4, c5, c6, c7, _, _⟩ := HSF.out w8 H8.out
          cases qn with
          | false =>
            have HF : Hd (r = false) := ⟨by rw [HRC.out]; simp [HN0.out]⟩
            go_wp2
            go_ret
            exact ⟨by rw [HF.out]; rfl, HMW.out.trans H8.out (fun _ h => Or.inl h)⟩
          | true =>
            go_wp2_with fail
            refine (HOV.out w8 H8.out).mono ?_
            rintro e w9 ⟨rfl, hM9⟩
            have H9 : Hd (Mod (fun _ => False) W3 w9) := ⟨H8.out.trans hM9 (fun _ h => Or.inl h)⟩
            clear hM9
            have HF : Hd (r = qv) := ⟨by rw [HRC.out]; simp [HN0.out]⟩
            go_wp2
            go_ret
            exact ⟨by rw [HF.out]; rfl, HMW.out.trans H9.out (fun _ h => Or.inl h)⟩
      · have HN0 : Hd _ := ⟨n0⟩
        have zn : (s.n == 0) = false := by rw [beq_eq_false_iff_ne]; exact n0
        clear n0
        cases qt with
        | false =>
          have HF : Hd (r = false) := ⟨by rw [HRC.out]; simp []⟩
          go_wp2
          go_ret
          exact ⟨by rw [HF.out]; rfl, HMW.out.trans H6.out (fun _ h => Or.inl h)⟩
        | true =>
          have HF : Hd (r = false) := ⟨by rw [HRC.out]; simp [HN0.out]⟩
          go_wp2
          go_ret
          exact ⟨by rw [HF.out]; rfl, HMW.out.trans H6.out (fun _ h => Or.inl h)⟩
    have hn11 : ¬ (k : Int) = 11 := by omega
    clear hc
    by_cases hc : k = 1
    · subst hc
      have HON : Hd (∀ w', Mod (fun _ => False) W3 w' → _) := ⟨fun w' h => rnamed_ans HNM.out false w' (HK3.out.trans h (fun _ h => Or.inl h))⟩
      have HOV : Hd (∀ w', Mod (fun _ => False) W3 w' → _) := ⟨fun w' h => rnamed_ans HVA.out false w' (HK3.out.trans h (fun _ h => Or.inl h))⟩
      obtain ⟨qn, hqn⟩ : ∃ q, namedI s.name false = q := ⟨_, rfl⟩
      obtain ⟨qv, hqv⟩ : ∃ q, namedI s.variant false = q := ⟨_, rfl⟩
      have HRC : Hd (r = (qp && (decide (-1099511627776 ≤ s.n) && decide (s.n ≤ 1099511627776)) && qn && qv)) := ⟨by
        rw [← HR.out, ← HQP.out, ← hqn, ← hqv, stmtR, HKT.out, HQ.out, HKE.out]
        simp []⟩
      rw [hqn] at HON
      rw [hqv] at HOV
      clear hqn hqv
      by_cases n1 : -1099511627776 ≤ s.n
      · by_cases n2 : s.n ≤ 1099511627776
        · have HN1 : Hd _ := ⟨n1⟩
          have HN2 : Hd _ := ⟨n2⟩
          cases qp with
          | false =>
            have HF : Hd (r = false) := ⟨by rw [HRC.out]; simp []⟩
            go_wp2
            go_ret
            exact ⟨by rw [HF.out]; rfl, HMW.out.trans H5.out (fun _ h => Or.inl h)⟩
          | true =>
            go_wp2_with fail
            refine (HON.out w5 H5.out).mono ?_
            rintro e w8 ⟨rfl, hM8⟩
            have H8 : Hd (Mod (fun _ => False) W3 w8) := ⟨H5.out.trans hM8 (fun _ h => Or.inl h)⟩
            clear hM8
            clear c1 c2 c3 c4 c5 c6 c7
            obtain ⟨c1, c2, c3, c4, c5, c6, c7, _, _⟩ := HSF.out w8 H8.out
            cases qn with
            | false =>
              have HF : Hd (r = false) := ⟨by rw [HRC.out]; simp [HN1.out, HN2.out]⟩
              go_wp2
              go_ret
              exact ⟨by rw [HF.out]; rfl, HMW.out.trans H8.out (fun _ h => Or.inl h)⟩
            | true =>
              go_wp2_with fail
              refine (HOV.out w8 H8.out).mono ?_
              rintro e w9 ⟨rfl, hM9⟩
              have H9 : Hd (Mod (fun _ => False) W3 w9) := ⟨H8.out.trans hM9 (fun _ h => Or.inl h)⟩
              clear hM9
              have HF : Hd (r = qv) := ⟨by rw [HRC.out]; simp [HN1.out, HN2.out]⟩
              go_wp2
              go_ret
              exact ⟨by rw [HF.out]; rfl, HMW.out.trans H9.out (fun _ h => Or.inl h)⟩
        · have HN2 : Hd _ := ⟨n2⟩
          cases qp with
          | false =>
            have HF : Hd (r = false) := ⟨by rw [HRC.out]; simp []⟩
            go_wp2
            go_ret
            exact ⟨by rw [HF.out]; rfl, HMW.out.trans H5.out (fun _ h => Or.inl h)⟩
          | true =>
            have HF : Hd (r = false) := ⟨by rw [HRC.out]; simp [HN2.out]⟩
            go_wp2
            go_ret
            exact ⟨by rw [HF.out]; rfl, HMW.out.trans H5.out (fun _ h => Or.inl h)⟩
      · have HN1 : Hd _ := ⟨n1⟩
        cases qp with
        | false =>
          have HF : Hd (r = false) := ⟨by rw [HRC.out]; simp []⟩
          go_wp2
          go_ret
          exact ⟨by rw [HF.out]; rfl, HMW.out.trans H5.out (fun _ h => Or.inl h)⟩
        | true =>
          have HF : Hd (r = false) := ⟨by rw [HRC.out]; simp [HN1.out]⟩
          go_wp2
          go_ret
          exact ⟨by rw [HF.out]; rfl, HMW.out.trans H5.out (fun _ h => Or.inl h)⟩
    have hn1 : ¬ (k : Int) = 1 := by omega
    clear hc
    by_cases hc : k = 7
    · subst hc
      have HON : Hd (∀ w', Mod (fun _ => False) W3 w' → _) := ⟨fun w' h => rnamed_ans HNM.out true w' (HK3.out.trans h (fun _ h => Or.inl h))⟩
      have HOV : Hd (∀ w', Mod (fun _ => False) W3 w' → _) := ⟨fun w' h => rnamed_ans HVA.out false w' (HK3.out.trans h (fun _ h => Or.inl h))⟩
      obtain ⟨qn, hqn⟩ : ∃ q, namedI s.name true = q := ⟨_, rfl⟩
      obtain ⟨qv, hqv⟩ : ∃ q, namedI s.variant false = q := ⟨_, rfl⟩
      have HRC : Hd (r = (qp && decide (s.n = 0) && qn && qv)) := ⟨by
        rw [← HR.out, ← HQP.out, ← hqn, ← hqv, stmtR, HKT.out, HQ.out, HKE.out]
        simp []⟩
      rw [hqn] at HON
      rw [hqv] at HOV
      clear hqn hqv
      by_cases n0 : s.n = 0
      · have HN0 : Hd _ := ⟨n0⟩
        have zn : (s.n == 0) = true := by rw [n0]; rfl
        clear n0
        cases qp with
        | false =>
          have HF : Hd (r = false) := ⟨by rw [HRC.out]; simp []⟩
          go_wp2
          go_ret
          exact ⟨by rw [HF.out]; rfl, HMW.out.trans H5.out (fun _ h => Or.inl h)⟩
        | true =>
          go_wp2_with fail
          refine (HON.out w5 H5.out).mono ?_
          rintro e w8 ⟨rfl, hM8⟩
          have H8 : Hd (Mod (fun _ => False) W3 w8) := ⟨H5.out.trans hM8 (fun _ h => Or.inl h)⟩
          clear hM8
          clear c1 c2 c3 c4 c5 c6 c7
          obtain ⟨c1, c2, c3, c4, c5, c6, c7, _, _⟩ := HSF.out w8 H8.out
          cases qn with
          | false =>
            have HF : Hd (r = false) := ⟨by rw [HRC.out]; simp [HN0.out]⟩
            go_wp2
            go_ret
            exact ⟨by rw [HF.out]; rfl, HMW.out.trans H8.out (fun _ h => Or.inl h)⟩
          | true =>
            go_wp2_with fail
            refine (HOV.out w8 H8.out).mono ?_
            rintro e w9 ⟨rfl, hM9⟩
            have H9 : Hd (Mod (fun _ => False) W3 w9) := ⟨H8.out.trans hM9 (fun _ h => Or.inl h)⟩
            clear hM9
            have HF : Hd (r = qv) := ⟨by rw [HRC.out]; simp [HN0.out]⟩
            go_wp2
            go_ret
            exact ⟨by rw [HF.out]; rfl, HMW.out.trans H9.out (fun _ h => Or.inl h)⟩
      · have HN0 : Hd _ := ⟨n0⟩
        have zn : (s.n == 0) = false := by rw [beq_eq_false_iff_ne]; exact n0
        clear n0
        cases qp with
        | false =>
          have HF : Hd (r = false) := ⟨by rw [HRC.out]; simp []⟩
          go_wp2
          go_ret
          exact ⟨by rw [HF.out]; rfl, HMW.out.trans H5.out (fun _ h => Or.inl h)⟩
        | true =>
          have HF : Hd (r = false) := ⟨by rw [HRC.out]; simp [HN0.out]⟩
          go_wp2
          go_ret
          exact ⟨by rw [HF.out]; rfl, HMW.out.trans H5.out (fun _ h => Or.inl h)⟩
    have hn7 : ¬ (k : Int) = 7 := by omega
    clear hc
    by_cases hc : k = 8
    · subst hc
      have HON : Hd (∀ w', Mod (fun _ => False) W3 w' → _) := ⟨fun w' h => rnamed_ans HNM.out true w' (HK3.out.trans h (fun _ h => Or.inl h))⟩
      have HOV : Hd (∀ w', Mod (fun _ => False) W3 w' → _) := ⟨fun w' h => rnamed_ans HVA.out true w' (HK3.out.trans h (fun _ h => Or.inl h))⟩
      obtain ⟨qn, hqn⟩ : ∃ q, namedI s.name true = q := ⟨_, rfl⟩
      obtain ⟨qv, hqv⟩ : ∃ q, namedI s.variant true = q := ⟨_, rfl⟩
      have HRC : Hd (r = (qp && decide (s.n = 0) && qn && qv)) := ⟨by
        rw [← HR.out, ← HQP.out, ← hqn, ← hqv, stmtR, HKT.out, HQ.out, HKE.out]
        simp []⟩
      rw [hqn] at HON
      rw [hqv] at HOV
      clear hqn hqv
      by_cases n0 : s.n = 0
      · have HN0 : Hd _ := ⟨n0⟩
        have zn : (s.n == 0) = true := by rw [n0]; rfl
        clear n0
        cases qp with
        | false =>
          have HF : Hd (r = false) := ⟨by rw [HRC.out]; simp []⟩
          go_wp2
          go_ret
          exact ⟨by rw [HF.out]; rfl, HMW.out.trans H5.out (fun _ h => Or.inl h)⟩
        | true =>
          go_wp2_with fail
          refine (HON.out w5 H5.out).mono ?_
          rintro e w8 ⟨rfl, hM8⟩
          have H8 : Hd (Mod (fun _ => False) W3 w8) := ⟨H5.out.trans hM8 (fun _ h => Or.inl h)⟩
          clear hM8
          clear c1 c2 c3 c4 c5 c6 c7
          obtain ⟨c1, c2, c3, c4, c5, c6, c7, _, _⟩ := HSF.out w8 H8.out
          cases qn with
          | false =>
            have HF : Hd (r = false) := ⟨by rw [HRC.out]; simp [HN0.out]⟩
            go_wp2
            go_ret
            exact ⟨by rw [HF.out]; rfl, HMW.out.trans H8.out (fun _ h => Or.inl h)⟩
          | true =>
            go_wp2_with fail
            refine (HOV.out w8 H8.out).mono ?_
            rintro e w9 ⟨rfl, hM9⟩
            have H9 : Hd (Mod (fun _ => False) W3 w9) := ⟨H8.out.trans hM9 (fun _ h => Or.inl h)⟩
            clear hM9
            have HF : Hd (r = qv) := ⟨by rw [HRC.out]; simp [HN0.out]⟩
            go_wp2
            go_ret
            exact ⟨by rw [HF.out]; rfl, HMW.out.trans H9.out (fun _ h => Or.inl h)⟩
      · have HN0 : Hd _ := ⟨n0⟩
        have zn : (s.n == 0) = false := by rw [beq_eq_false_iff_ne]; exact n0
        clear n0
        cases qp with
        | false =>
          have HF : Hd (r = false) := ⟨by rw [HRC.out]; simp []⟩
          go_wp2
          go_ret
          exact ⟨by rw [HF.out]; rfl, HMW.out.trans H5.out (fun _ h => Or.inl h)⟩
        | true =>
          have HF : Hd (r = false) := ⟨by rw [HRC.out]; simp [HN0.out]⟩
          go_wp2
          go_ret
          exact ⟨by rw [HF.out]; rfl, HMW.out.trans H5.out (fun _ h => Or.inl h)⟩
    have hn8 : ¬ (k : Int) = 8 := by omega
    clear hc
    have HON : Hd (∀ w', Mod (fun _ => False) W3 w' → _) := ⟨fun w' h => rnamed_ans HNM.out false w' (HK3.out.trans h (fun _ h => Or.inl h))⟩
    have HOV : Hd (∀ w', Mod (fun _ => False) W3 w' → _) := ⟨fun w' h => rnamed_ans HVA.out false w' (HK3.out.trans h (fun _ h => Or.inl h))⟩
    obtain ⟨qn, hqn⟩ : ∃ q, namedI s.name false = q := ⟨_, rfl⟩
    obtain ⟨qv, hqv⟩ : ∃ q, namedI s.variant false = q := ⟨_, rfl⟩
    have HRC : Hd (r = (qp && decide (s.n = 0) && qn && qv)) := ⟨by
      rw [← HR.out, ← HQP.out, ← hqn, ← hqv, stmtR, HKT.out, HQ.out, HKE.out]
      simp [hn1, hn7, hn8, hn11, show ¬ k = 1 by omega, show ¬ k = 7 by omega, show ¬ k = 8 by omega, show ¬ k = 11 by omega, show (1 : Int) ≤ (k : Int) by omega, show (k : Int) ≤ 11 by omega, hk1, hk2]⟩
    rw [hqn] at HON
    rw [hqv] at HOV
    clear hqn hqv
    have z11 : ((k : Int) == 11) = false := by rw [beq_eq_false_iff_ne]; omega
    have z1 : ((k : Int) == 1) = false := by rw [beq_eq_false_iff_ne]; omega
    have z7 : ((k : Int) == 7) = false := by rw [beq_eq_false_iff_ne]; omega
    have z8 : ((k : Int) == 8) = false := by rw [beq_eq_false_iff_ne]; omega
    by_cases n0 : s.n = 0
    · have HN0 : Hd _ := ⟨n0⟩
      have zn : (s.n == 0) = true := by rw [n0]; rfl
      clear n0
      cases qp with
      | false =>
        have HF : Hd (r = false) := ⟨by rw [HRC.out]; simp []⟩
        go_wp2
        go_ret
        exact ⟨by rw [HF.out]; rfl, HMW.out.trans H5.out (fun _ h => Or.inl h)⟩
      | true =>
        go_wp2_with fail
        refine (HON.out w5 H5.out).mono ?_
        rintro e w8 ⟨rfl, hM8⟩
        have H8 : Hd (Mod (fun _ => False) W3 w8) := ⟨H5.out.trans hM8 (fun _ h => Or.inl h)⟩
        clear hM8
        clear c1 c2 c3 c4 c5 c6 c7
        obtain ⟨c1, c2, c3, c4, c5, c6, c7, _, _⟩ := HSF.out w8 H8.out
        cases qn with
        | false =>
          have HF : Hd (r = false) := ⟨by rw [HRC.out]; simp [HN0.out]⟩
          go_wp2
          go_ret
          exact ⟨by rw [HF.out]; rfl, HMW.out.trans H8.out (fun _ h => Or.inl h)⟩
        | true =>
          go_wp2_with fail
          refine (HOV.out w8 H8.out).mono ?_
          rintro e w9 ⟨rfl, hM9⟩
          have H9 : Hd (Mod (fun _ => False) W3 w9) := ⟨H8.out.trans hM9 (fun _ h => Or.inl h)⟩
          clear hM9
          have HF : Hd (r = qv) := ⟨by rw [HRC.out]; simp [HN0.out]⟩
          go_wp2
          go_ret
          exact ⟨by rw [HF.out]; rfl, HMW.out.trans H9.out (fun _ h => Or.inl h)⟩
    · have HN0 : Hd _ := ⟨n0⟩
      have zn : (s.n == 0) = false := by rw [beq_eq_false_iff_ne]; exact n0
      clear n0
      cases qp with
      | false =>
        have HF : Hd (r = false) := ⟨by rw [HRC.out]; simp []⟩
        go_wp2
        go_ret
        exact ⟨by rw [HF.out]; rfl, HMW.out.trans H5.out (fun _ h => Or.inl h)⟩
      | true =>
        have HF : Hd (r = false) := ⟨by rw [HRC.out]; simp [HN0.out]⟩
        go_wp2
        go_ret
        exact ⟨by rw [HF.out]; rfl, HMW.out.trans H5.out (fun _ h => Or.inl h)⟩
end
end Go.Proofs.YtpodeccpibnlbaaGreatDoor
