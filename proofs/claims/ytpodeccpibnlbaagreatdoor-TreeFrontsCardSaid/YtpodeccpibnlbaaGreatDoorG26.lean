/- The law TreeFronts: its second region. The law TreeFronts: its third region. -/
import Derived.Test.YtpodeccpibnlbaaGreatDoorG25
import Derived.BigRegion
import Derived.BigQuiet
namespace Go.Proofs.YtpodeccpibnlbaaGreatDoor
set_option linter.unusedVariables false
set_option linter.unusedSimpArgs false
open Go.RowKit
set_option maxRecDepth 1000000 in
noncomputable def freg9 : Code := ((Tryz.f7.body.bind (regAt 9)).getD .skip)
set_option maxRecDepth 1000000 in
set_option maxHeartbeats 16000000 in
theorem freg9_c {w3 wc : World} {p o : Pl} {oa ob : Option Addr} {ca cb x bp bo ba : Nat} {Q : Exit → Act → World → Prop} {q1 q5 : Bool} (Fpo : Hd (∀ w', Mod (fun _ => False) w3 w' → Calls Tryz.prog 16 #[.agg #[.string p.loc, .slice oa p.steps.length ca], .agg #[.string o.loc, .slice ob o.steps.length cb]] w' fun e w'' => e = .returned (.bool q1) ∧ Mod (fun _ => False) w' w'')) (Fao : Hd (∀ w', Mod (fun _ => False) w3 w' → Calls Tryz.prog 16 #[.agg #[.string p.loc, .slice oa x ca], .agg #[.string o.loc, .slice ob o.steps.length cb]] w' fun e w'' => e = .returned (.bool q5) ∧ Mod (fun _ => False) w' w'')) (L5 : Hd (q1 = true → q5 = true))
    (HSF : Hd (∀ w', Mod (fun _ => False) w3 w' → w'.cell? ⟨bp, 0, none⟩ = some (.string p.loc) ∧ w'.cell? ⟨bp, 1, none⟩ = some (.slice oa p.steps.length ca) ∧ w'.cell? ⟨bo, 0, none⟩ = some (.string o.loc) ∧ w'.cell? ⟨bo, 1, none⟩ = some (.slice ob o.steps.length cb) ∧ w'.cell? ⟨ba, 0, none⟩ = some (.string p.loc) ∧ w'.cell? ⟨ba, 1, none⟩ = some (.slice oa x ca))) (HZ : Hd (Mod (fun _ => False) w3 wc))
    (u0 u1 u2 u3 u5 u6 u8 u10 u11 u12 u13 u14 u15 u16 u17 u18 u19 u20 u21 u22 u23 u24 u25 u26 u27 u28 u29 u30 u31 u32 u33 u34 u35 u36 u37 u38 u39 u40 u41 u42 u43 u44 u45 u46 u47 u48 u49 u50 u51 u52 u53 u54 u55 u56 u57 u58 u59 u60 u61 u62 u63 u64 u65 u66 u67 u68 u69 u70 u71 u72 u73 u74 u75 u76 u77 u78 u79 u80 u81 u82 u83 u84 u85 u86 u87 u88 u89 u90 u91 u92 u93 u94 u95 u96 u97 u98 u99 u100 u101 u102 u103 u104 u105 u106 u107 u108 u109 u110 u111 u112 u113 : Value)
    (hK : ∀ (w' : World) (v77 v78 v79 v80 v81 v82 v83 v84 v85 v86 v87 : Value), Hd (Mod (fun _ => False) w3 w') → Q .normal ⟨#[u0, u1, u2, u3, .pointer (some ⟨bp, 0, none⟩), u5, u6, .pointer (some ⟨bo, 0, none⟩), u8, .pointer (some ⟨ba, 0, none⟩), u10, u11, u12, u13, u14, u15, u16, u17, u18, u19, u20, u21, u22, u23, u24, u25, u26, u27, u28, u29, u30, u31, u32, u33, u34, u35, u36, u37, u38, u39, u40, u41, u42, u43, u44, u45, u46, u47, u48, u49, u50, u51, u52, u53, u54, u55, u56, u57, u58, u59, u60, u61, u62, u63, u64, u65, u66, u67, u68, u69, u70, u71, u72, u73, u74, u75, u76, v77, v78, v79, v80, v81, v82, v83, v84, v85, v86, v87, .bool false, u89, u90, u91, u92, u93, u94, u95, u96, u97, u98, u99, u100, u101, u102, u103, u104, u105, u106, u107, u108, u109, u110, u111, u112, u113], []⟩ w') :
    Code.wp Tryz.prog freg9 Q ⟨#[u0, u1, u2, u3, .pointer (some ⟨bp, 0, none⟩), u5, u6, .pointer (some ⟨bo, 0, none⟩), u8, .pointer (some ⟨ba, 0, none⟩), u10, u11, u12, u13, u14, u15, u16, u17, u18, u19, u20, u21, u22, u23, u24, u25, u26, u27, u28, u29, u30, u31, u32, u33, u34, u35, u36, u37, u38, u39, u40, u41, u42, u43, u44, u45, u46, u47, u48, u49, u50, u51, u52, u53, u54, u55, u56, u57, u58, u59, u60, u61, u62, u63, u64, u65, u66, u67, u68, u69, u70, u71, u72, u73, u74, u75, u76, u77, u78, u79, u80, u81, u82, u83, u84, u85, u86, u87, u88, u89, u90, u91, u92, u93, u94, u95, u96, u97, u98, u99, u100, u101, u102, u103, u104, u105, u106, u107, u108, u109, u110, u111, u112, u113], []⟩ wc := by
  conv => arg 2; whnf
  have HKK : Hd _ := ⟨hK⟩
  clear hK
  cases q1 with
  | true =>
    have h5 := L5.out rfl
    subst h5
    refine wp_region_quiet (C := fun w' => Mod (fun _ => False) w3 w') (by kernel_rfl) (by kernel_rfl) (HZ.out.trans (Mod.drew _ _) (fun _ h => Or.inl h)) ?_
    simp only [List.toList_toArray]
    go_big_quiet_want
    refine ⟨.agg #[.string p.loc, .slice oa p.steps.length ca], fun w hw => ?_, ?_⟩
    · obtain ⟨c0, c1, c2, c3, c4, c5⟩ := HSF.out w hw
      unfold Oper.quietAt
      go_simp
    go_big_quiet_on
    simp only [Act.put, List.setIfInBounds_toArray, List.set_cons_zero, List.set_cons_succ]
    go_big_quiet_want
    refine ⟨.agg #[.string o.loc, .slice ob o.steps.length cb], fun w hw => ?_, ?_⟩
    · obtain ⟨c0, c1, c2, c3, c4, c5⟩ := HSF.out w hw
      unfold Oper.quietAt
      go_simp
    go_big_quiet_on
    simp only [Act.put, List.setIfInBounds_toArray, List.set_cons_zero, List.set_cons_succ]
    go_big_quiet_want
    refine ⟨.bool true, fun w hw => ?_, ?_⟩
    · unfold Oper.quietAt
      go_simp
      refine (Calls.at' (Fpo.out w hw) (by with_reducible rfl)).mono ?_
      rintro e w2 ⟨rfl, hM⟩
      exact ⟨rfl, hw.trans hM (fun _ h => Or.inl h)⟩
    go_big_quiet_on
    simp only [Act.put, List.setIfInBounds_toArray, List.set_cons_zero, List.set_cons_succ]
    go_big_quiet_want
    refine ⟨.agg #[.string p.loc, .slice oa p.steps.length ca], fun w hw => ?_, ?_⟩
    · obtain ⟨c0, c1, c2, c3, c4, c5⟩ := HSF.out w hw
      unfold Oper.quietAt
      go_simp
    go_big_quiet_on
    simp only [Act.put, List.setIfInBounds_toArray, List.set_cons_zero, List.set_cons_succ]
    go_big_quiet_want
    refine ⟨.agg #[.string o.loc, .slice ob o.steps.length cb], fun w hw => ?_, ?_⟩
    · obtain ⟨c0, c1, c2, c3, c4, c5⟩ := HSF.out w hw
      unfold Oper.quietAt
      go_simp
    go_big_quiet_on
    simp only [Act.put, List.setIfInBounds_toArray, List.set_cons_zero, List.set_cons_succ]
    go_big_quiet_want
    refine ⟨.bool true, fun w hw => ?_, ?_⟩
    · unfold Oper.quietAt
      go_simp
      refine (Calls.at' (Fpo.out w hw) (by with_reducible rfl)).mono ?_
      rintro e w2 ⟨rfl, hM⟩
      exact ⟨rfl, hw.trans hM (fun _ h => Or.inl h)⟩
    go_big_quiet_on
    simp only [Act.put, List.setIfInBounds_toArray, List.set_cons_zero, List.set_cons_succ]
    go_big_quiet_want
    refine ⟨.bool true, fun w hw => ?_, ?_⟩
    · obtain ⟨c0, c1, c2, c3, c4, c5⟩ := HSF.out w hw
      unfold Oper.quietAt
      go_simp
    go_big_quiet_on
    simp only [Act.put, List.setIfInBounds_toArray, List.set_cons_zero, List.set_cons_succ]
    go_big_quiet_want
    refine ⟨.agg #[.string p.loc, .slice oa x ca], fun w hw => ?_, ?_⟩
    · obtain ⟨c0, c1, c2, c3, c4, c5⟩ := HSF.out w hw
      unfold Oper.quietAt
      go_simp
    go_big_quiet_on
    simp only [Act.put, List.setIfInBounds_toArray, List.set_cons_zero, List.set_cons_succ]
    go_big_quiet_want
    refine ⟨.agg #[.string o.loc, .slice ob o.steps.length cb], fun w hw => ?_, ?_⟩
    · obtain ⟨c0, c1, c2, c3, c4, c5⟩ := HSF.out w hw
      unfold Oper.quietAt
      go_simp
    go_big_quiet_on
    simp only [Act.put, List.setIfInBounds_toArray, List.set_cons_zero, List.set_cons_succ]
    go_big_quiet_want
    refine ⟨.bool true, fun w hw => ?_, ?_⟩
    · unfold Oper.quietAt
      go_simp
      refine (Calls.at' (Fao.out w hw) (by with_reducible rfl)).mono ?_
      rintro e w2 ⟨rfl, hM⟩
      exact ⟨rfl, hw.trans hM (fun _ h => Or.inl h)⟩
    go_big_quiet_on
    simp only [Act.put, List.setIfInBounds_toArray, List.set_cons_zero, List.set_cons_succ]
    go_big_quiet_want
    refine ⟨.bool true, fun w hw => ?_, ?_⟩
    · obtain ⟨c0, c1, c2, c3, c4, c5⟩ := HSF.out w hw
      unfold Oper.quietAt
      go_simp
    go_big_quiet_on
    simp only [Act.put, List.setIfInBounds_toArray, List.set_cons_zero, List.set_cons_succ]
    go_big_quiet_want
    refine ⟨.bool false, fun w hw => ?_, ?_⟩
    · obtain ⟨c0, c1, c2, c3, c4, c5⟩ := HSF.out w hw
      unfold Oper.quietAt
      go_simp
    go_big_quiet_on
    simp only [Act.put, List.setIfInBounds_toArray, List.set_cons_zero, List.set_cons_succ]
    refine wpQuiet_nil ?_
    intro w' hw'
    exact HKK.out _ _ _ _ _ _ _ _ _ _ _ _ ⟨hw'⟩
  | false =>
    refine wp_region_quiet (C := fun w' => Mod (fun _ => False) w3 w') (by kernel_rfl) (by kernel_rfl) (HZ.out.trans (Mod.drew _ _) (fun _ h => Or.inl h)) ?_
    simp only [List.toList_toArray]
    go_big_quiet_want
    refine ⟨.agg #[.string p.loc, .slice oa p.steps.length ca], fun w hw => ?_, ?_⟩
    · obtain ⟨c0, c1, c2, c3, c4, c5⟩ := HSF.out w hw
      unfold Oper.quietAt
      go_simp
    go_big_quiet_on
    simp only [Act.put, List.setIfInBounds_toArray, List.set_cons_zero, List.set_cons_succ]
    go_big_quiet_want
    refine ⟨.agg #[.string o.loc, .slice ob o.steps.length cb], fun w hw => ?_, ?_⟩
    · obtain ⟨c0, c1, c2, c3, c4, c5⟩ := HSF.out w hw
      unfold Oper.quietAt
      go_simp
    go_big_quiet_on
    simp only [Act.put, List.setIfInBounds_toArray, List.set_cons_zero, List.set_cons_succ]
    go_big_quiet_want
    refine ⟨.bool false, fun w hw => ?_, ?_⟩
    · unfold Oper.quietAt
      go_simp
      refine (Calls.at' (Fpo.out w hw) (by with_reducible rfl)).mono ?_
      rintro e w2 ⟨rfl, hM⟩
      exact ⟨rfl, hw.trans hM (fun _ h => Or.inl h)⟩
    go_big_quiet_on
    simp only [Act.put, List.setIfInBounds_toArray, List.set_cons_zero, List.set_cons_succ]
    go_big_quiet_want
    refine ⟨.agg #[.string p.loc, .slice oa p.steps.length ca], fun w hw => ?_, ?_⟩
    · obtain ⟨c0, c1, c2, c3, c4, c5⟩ := HSF.out w hw
      unfold Oper.quietAt
      go_simp
    go_big_quiet_on
    simp only [Act.put, List.setIfInBounds_toArray, List.set_cons_zero, List.set_cons_succ]
    go_big_quiet_want
    refine ⟨.agg #[.string o.loc, .slice ob o.steps.length cb], fun w hw => ?_, ?_⟩
    · obtain ⟨c0, c1, c2, c3, c4, c5⟩ := HSF.out w hw
      unfold Oper.quietAt
      go_simp
    go_big_quiet_on
    simp only [Act.put, List.setIfInBounds_toArray, List.set_cons_zero, List.set_cons_succ]
    go_big_quiet_want
    refine ⟨.bool false, fun w hw => ?_, ?_⟩
    · unfold Oper.quietAt
      go_simp
      refine (Calls.at' (Fpo.out w hw) (by with_reducible rfl)).mono ?_
      rintro e w2 ⟨rfl, hM⟩
      exact ⟨rfl, hw.trans hM (fun _ h => Or.inl h)⟩
    go_big_quiet_on
    simp only [Act.put, List.setIfInBounds_toArray, List.set_cons_zero, List.set_cons_succ]
    go_big_quiet_want
    refine ⟨.bool false, fun w hw => ?_, ?_⟩
    · obtain ⟨c0, c1, c2, c3, c4, c5⟩ := HSF.out w hw
      unfold Oper.quietAt
      go_simp
    go_big_quiet_on
    simp only [Act.put, List.setIfInBounds_toArray, List.set_cons_zero, List.set_cons_succ]
    go_big_quiet_skip
    go_big_quiet_skip
    go_big_quiet_skip
    go_big_quiet_want
    refine ⟨.bool false, fun w hw => ?_, ?_⟩
    · obtain ⟨c0, c1, c2, c3, c4, c5⟩ := HSF.out w hw
      unfold Oper.quietAt
      go_simp
    go_big_quiet_on
    simp only [Act.put, List.setIfInBounds_toArray, List.set_cons_zero, List.set_cons_succ]
    go_big_quiet_want
    refine ⟨.bool false, fun w hw => ?_, ?_⟩
    · obtain ⟨c0, c1, c2, c3, c4, c5⟩ := HSF.out w hw
      unfold Oper.quietAt
      go_simp
    go_big_quiet_on
    simp only [Act.put, List.setIfInBounds_toArray, List.set_cons_zero, List.set_cons_succ]
    refine wpQuiet_nil ?_
    intro w' hw'
    exact HKK.out _ _ _ _ _ _ _ _ _ _ _ _ ⟨hw'⟩
end Go.Proofs.YtpodeccpibnlbaaGreatDoor
namespace Go.Proofs.YtpodeccpibnlbaaGreatDoor
set_option linter.unusedVariables false
set_option linter.unusedSimpArgs false
open Go.RowKit
set_option maxRecDepth 1000000 in
noncomputable def freg11 : Code := ((Tryz.f7.body.bind (regAt 11)).getD .skip)
set_option maxRecDepth 1000000 in
set_option maxHeartbeats 16000000 in
theorem freg11_c {w3 wc : World} {p o : Pl} {oa ob : Option Addr} {ca cb x bp bo ba : Nat} {Q : Exit → Act → World → Prop} {q1 q2 q6 : Bool} (hxl : x ≤ p.steps.length) (Fpo : Hd (∀ w', Mod (fun _ => False) w3 w' → Calls Tryz.prog 16 #[.agg #[.string p.loc, .slice oa p.steps.length ca], .agg #[.string o.loc, .slice ob o.steps.length cb]] w' fun e w'' => e = .returned (.bool q1) ∧ Mod (fun _ => False) w' w'')) (Fop : Hd (∀ w', Mod (fun _ => False) w3 w' → Calls Tryz.prog 16 #[.agg #[.string o.loc, .slice ob o.steps.length cb], .agg #[.string p.loc, .slice oa p.steps.length ca]] w' fun e w'' => e = .returned (.bool q2) ∧ Mod (fun _ => False) w' w'')) (Epo : Hd (∀ w', Mod (fun _ => False) w3 w' → Calls Tryz.prog 15 #[.agg #[.string p.loc, .slice oa p.steps.length ca], .agg #[.string o.loc, .slice ob o.steps.length cb]] w' fun e w'' => e = .returned (.bool q6) ∧ Mod (fun _ => False) w' w'')) (Fap : Hd (∀ w', Mod (fun _ => False) w3 w' → Calls Tryz.prog 16 #[.agg #[.string p.loc, .slice oa x ca], .agg #[.string p.loc, .slice oa p.steps.length ca]] w' fun e w'' => e = .returned (.bool true) ∧ Mod (fun _ => False) w' w'')) (L6 : Hd ((q1 && q2) = q6))
    (HSF : Hd (∀ w', Mod (fun _ => False) w3 w' → w'.cell? ⟨bp, 0, none⟩ = some (.string p.loc) ∧ w'.cell? ⟨bp, 1, none⟩ = some (.slice oa p.steps.length ca) ∧ w'.cell? ⟨bo, 0, none⟩ = some (.string o.loc) ∧ w'.cell? ⟨bo, 1, none⟩ = some (.slice ob o.steps.length cb) ∧ w'.cell? ⟨ba, 0, none⟩ = some (.string p.loc) ∧ w'.cell? ⟨ba, 1, none⟩ = some (.slice oa x ca))) (HZ : Hd (Mod (fun _ => False) w3 wc))
    (u0 u1 u2 u3 u5 u6 u8 u10 u11 u12 u13 u14 u15 u16 u17 u18 u19 u20 u21 u22 u23 u24 u25 u26 u27 u28 u29 u30 u31 u32 u33 u34 u35 u36 u37 u38 u39 u40 u41 u42 u43 u44 u45 u46 u47 u48 u49 u50 u51 u52 u53 u54 u55 u56 u57 u58 u59 u60 u61 u62 u63 u64 u65 u66 u67 u68 u69 u70 u71 u72 u73 u74 u75 u76 u77 u78 u79 u80 u81 u82 u83 u84 u85 u86 u87 u88 u89 u90 u91 u92 u93 u94 u95 u96 u97 u98 u99 u100 u101 u102 u103 u104 u105 u106 u107 u108 u109 u110 u111 u112 u113 : Value)
    (hK : ∀ (w' : World) (v89 v90 v91 v92 v93 v94 v95 v96 v97 v98 v99 v100 v101 v102 v103 v104 v105 v106 v107 v108 v109 v110 v111 v112 v113 : Value), Hd (Mod (fun _ => False) w3 w') → Q .normal ⟨#[u0, u1, u2, u3, .pointer (some ⟨bp, 0, none⟩), u5, u6, .pointer (some ⟨bo, 0, none⟩), .bool true, .pointer (some ⟨ba, 0, none⟩), u10, u11, u12, u13, u14, u15, u16, u17, u18, u19, u20, u21, u22, u23, u24, u25, u26, u27, u28, u29, u30, u31, u32, u33, u34, u35, u36, u37, u38, u39, u40, u41, u42, u43, u44, u45, u46, u47, u48, u49, u50, u51, u52, u53, u54, u55, u56, u57, u58, u59, u60, u61, u62, u63, u64, u65, u66, u67, u68, u69, u70, u71, u72, u73, u74, u75, u76, u77, u78, u79, u80, u81, u82, u83, u84, u85, u86, u87, u88, v89, v90, v91, v92, v93, v94, v95, v96, v97, v98, v99, v100, v101, v102, v103, v104, v105, v106, v107, v108, v109, v110, v111, v112, v113], []⟩ w') :
    Code.wp Tryz.prog freg11 Q ⟨#[u0, u1, u2, u3, .pointer (some ⟨bp, 0, none⟩), u5, u6, .pointer (some ⟨bo, 0, none⟩), u8, .pointer (some ⟨ba, 0, none⟩), u10, u11, u12, u13, u14, u15, u16, u17, u18, u19, u20, u21, u22, u23, u24, u25, u26, u27, u28, u29, u30, u31, u32, u33, u34, u35, u36, u37, u38, u39, u40, u41, u42, u43, u44, u45, u46, u47, u48, u49, u50, u51, u52, u53, u54, u55, u56, u57, u58, u59, u60, u61, u62, u63, u64, u65, u66, u67, u68, u69, u70, u71, u72, u73, u74, u75, u76, u77, u78, u79, u80, u81, u82, u83, u84, u85, u86, u87, u88, u89, u90, u91, u92, u93, u94, u95, u96, u97, u98, u99, u100, u101, u102, u103, u104, u105, u106, u107, u108, u109, u110, u111, u112, u113], []⟩ wc := by
  conv => arg 2; whnf
  have HKK : Hd _ := ⟨hK⟩
  clear hK
  have hx2 : (x : Int) ≤ (p.steps.length : Int) := by omega
  have HXL : Hd (decide (x ≤ p.steps.length) = true) := ⟨decide_eq_true hxl⟩
  cases q1 with
  | true =>
    have h6 : q2 = q6 := by simpa using L6.out
    subst h6
    have e6 : (q2 == q2) = true := by cases q2 <;> rfl
    refine wp_region_quiet (C := fun w' => Mod (fun _ => False) w3 w') (by kernel_rfl) (by kernel_rfl) (HZ.out.trans (Mod.drew _ _) (fun _ h => Or.inl h)) ?_
    simp only [List.toList_toArray]
    go_big_quiet_want
    refine ⟨.agg #[.string p.loc, .slice oa p.steps.length ca], fun w hw => ?_, ?_⟩
    · obtain ⟨c0, c1, c2, c3, c4, c5⟩ := HSF.out w hw
      unfold Oper.quietAt
      go_simp
    go_big_quiet_on
    simp only [Act.put, List.setIfInBounds_toArray, List.set_cons_zero, List.set_cons_succ]
    go_big_quiet_want
    refine ⟨.agg #[.string o.loc, .slice ob o.steps.length cb], fun w hw => ?_, ?_⟩
    · obtain ⟨c0, c1, c2, c3, c4, c5⟩ := HSF.out w hw
      unfold Oper.quietAt
      go_simp
    go_big_quiet_on
    simp only [Act.put, List.setIfInBounds_toArray, List.set_cons_zero, List.set_cons_succ]
    go_big_quiet_want
    refine ⟨.bool true, fun w hw => ?_, ?_⟩
    · unfold Oper.quietAt
      go_simp
      refine (Calls.at' (Fpo.out w hw) (by with_reducible rfl)).mono ?_
      rintro e w2 ⟨rfl, hM⟩
      exact ⟨rfl, hw.trans hM (fun _ h => Or.inl h)⟩
    go_big_quiet_on
    simp only [Act.put, List.setIfInBounds_toArray, List.set_cons_zero, List.set_cons_succ]
    go_big_quiet_want
    refine ⟨.bool true, fun w hw => ?_, ?_⟩
    · obtain ⟨c0, c1, c2, c3, c4, c5⟩ := HSF.out w hw
      unfold Oper.quietAt
      go_simp
    go_big_quiet_on
    simp only [Act.put, List.setIfInBounds_toArray, List.set_cons_zero, List.set_cons_succ]
    go_big_quiet_want
    refine ⟨.agg #[.string o.loc, .slice ob o.steps.length cb], fun w hw => ?_, ?_⟩
    · obtain ⟨c0, c1, c2, c3, c4, c5⟩ := HSF.out w hw
      unfold Oper.quietAt
      go_simp
    go_big_quiet_on
    simp only [Act.put, List.setIfInBounds_toArray, List.set_cons_zero, List.set_cons_succ]
    go_big_quiet_want
    refine ⟨.agg #[.string p.loc, .slice oa p.steps.length ca], fun w hw => ?_, ?_⟩
    · obtain ⟨c0, c1, c2, c3, c4, c5⟩ := HSF.out w hw
      unfold Oper.quietAt
      go_simp
    go_big_quiet_on
    simp only [Act.put, List.setIfInBounds_toArray, List.set_cons_zero, List.set_cons_succ]
    go_big_quiet_want
    refine ⟨.bool q2, fun w hw => ?_, ?_⟩
    · unfold Oper.quietAt
      go_simp
      refine (Calls.at' (Fop.out w hw) (by with_reducible rfl)).mono ?_
      rintro e w2 ⟨rfl, hM⟩
      exact ⟨rfl, hw.trans hM (fun _ h => Or.inl h)⟩
    go_big_quiet_on
    simp only [Act.put, List.setIfInBounds_toArray, List.set_cons_zero, List.set_cons_succ]
    go_big_quiet_want
    refine ⟨.bool q2, fun w hw => ?_, ?_⟩
    · obtain ⟨c0, c1, c2, c3, c4, c5⟩ := HSF.out w hw
      unfold Oper.quietAt
      go_simp
    go_big_quiet_on
    simp only [Act.put, List.setIfInBounds_toArray, List.set_cons_zero, List.set_cons_succ]
    go_big_quiet_want
    refine ⟨.agg #[.string p.loc, .slice oa p.steps.length ca], fun w hw => ?_, ?_⟩
    · obtain ⟨c0, c1, c2, c3, c4, c5⟩ := HSF.out w hw
      unfold Oper.quietAt
      go_simp
    go_big_quiet_on
    simp only [Act.put, List.setIfInBounds_toArray, List.set_cons_zero, List.set_cons_succ]
    go_big_quiet_want
    refine ⟨.agg #[.string o.loc, .slice ob o.steps.length cb], fun w hw => ?_, ?_⟩
    · obtain ⟨c0, c1, c2, c3, c4, c5⟩ := HSF.out w hw
      unfold Oper.quietAt
      go_simp
    go_big_quiet_on
    simp only [Act.put, List.setIfInBounds_toArray, List.set_cons_zero, List.set_cons_succ]
    go_big_quiet_want
    refine ⟨.bool q2, fun w hw => ?_, ?_⟩
    · unfold Oper.quietAt
      go_simp
      refine (Calls.at' (Epo.out w hw) (by with_reducible rfl)).mono ?_
      rintro e w2 ⟨rfl, hM⟩
      exact ⟨rfl, hw.trans hM (fun _ h => Or.inl h)⟩
    go_big_quiet_on
    simp only [Act.put, List.setIfInBounds_toArray, List.set_cons_zero, List.set_cons_succ]
    go_big_quiet_want
    refine ⟨.bool true, fun w hw => ?_, ?_⟩
    · obtain ⟨c0, c1, c2, c3, c4, c5⟩ := HSF.out w hw
      unfold Oper.quietAt
      go_simp
    go_big_quiet_on
    simp only [Act.put, List.setIfInBounds_toArray, List.set_cons_zero, List.set_cons_succ]
    go_big_quiet_want
    refine ⟨.bool true, fun w hw => ?_, ?_⟩
    · obtain ⟨c0, c1, c2, c3, c4, c5⟩ := HSF.out w hw
      unfold Oper.quietAt
      go_simp
    go_big_quiet_on
    simp only [Act.put, List.setIfInBounds_toArray, List.set_cons_zero, List.set_cons_succ]
    go_big_quiet_want
    refine ⟨.agg #[.string p.loc, .slice oa x ca], fun w hw => ?_, ?_⟩
    · obtain ⟨c0, c1, c2, c3, c4, c5⟩ := HSF.out w hw
      unfold Oper.quietAt
      go_simp
    go_big_quiet_on
    simp only [Act.put, List.setIfInBounds_toArray, List.set_cons_zero, List.set_cons_succ]
    go_big_quiet_want
    refine ⟨.agg #[.string p.loc, .slice oa p.steps.length ca], fun w hw => ?_, ?_⟩
    · obtain ⟨c0, c1, c2, c3, c4, c5⟩ := HSF.out w hw
      unfold Oper.quietAt
      go_simp
    go_big_quiet_on
    simp only [Act.put, List.setIfInBounds_toArray, List.set_cons_zero, List.set_cons_succ]
    go_big_quiet_want
    refine ⟨.bool true, fun w hw => ?_, ?_⟩
    · unfold Oper.quietAt
      go_simp
      refine (Calls.at' (Fap.out w hw) (by with_reducible rfl)).mono ?_
      rintro e w2 ⟨rfl, hM⟩
      exact ⟨rfl, hw.trans hM (fun _ h => Or.inl h)⟩
    go_big_quiet_on
    simp only [Act.put, List.setIfInBounds_toArray, List.set_cons_zero, List.set_cons_succ]
    go_big_quiet_want
    refine ⟨.pointer (some ⟨ba, 1, none⟩), fun w hw => ?_, ?_⟩
    · obtain ⟨c0, c1, c2, c3, c4, c5⟩ := HSF.out w hw
      unfold Oper.quietAt
      go_simp
    go_big_quiet_on
    simp only [Act.put, List.setIfInBounds_toArray, List.set_cons_zero, List.set_cons_succ]
    go_big_quiet_want
    refine ⟨.slice oa x ca, fun w hw => ?_, ?_⟩
    · obtain ⟨c0, c1, c2, c3, c4, c5⟩ := HSF.out w hw
      unfold Oper.quietAt
      go_simp
    go_big_quiet_on
    simp only [Act.put, List.setIfInBounds_toArray, List.set_cons_zero, List.set_cons_succ]
    go_big_quiet_want
    refine ⟨.int .i64 (x : Int), fun w hw => ?_, ?_⟩
    · obtain ⟨c0, c1, c2, c3, c4, c5⟩ := HSF.out w hw
      unfold Oper.quietAt
      go_simp
    go_big_quiet_on
    simp only [Act.put, List.setIfInBounds_toArray, List.set_cons_zero, List.set_cons_succ]
    go_big_quiet_want
    refine ⟨.pointer (some ⟨bp, 1, none⟩), fun w hw => ?_, ?_⟩
    · obtain ⟨c0, c1, c2, c3, c4, c5⟩ := HSF.out w hw
      unfold Oper.quietAt
      go_simp
    go_big_quiet_on
    simp only [Act.put, List.setIfInBounds_toArray, List.set_cons_zero, List.set_cons_succ]
    go_big_quiet_want
    refine ⟨.slice oa p.steps.length ca, fun w hw => ?_, ?_⟩
    · obtain ⟨c0, c1, c2, c3, c4, c5⟩ := HSF.out w hw
      unfold Oper.quietAt
      go_simp
    go_big_quiet_on
    simp only [Act.put, List.setIfInBounds_toArray, List.set_cons_zero, List.set_cons_succ]
    go_big_quiet_want
    refine ⟨.int .i64 (p.steps.length : Int), fun w hw => ?_, ?_⟩
    · obtain ⟨c0, c1, c2, c3, c4, c5⟩ := HSF.out w hw
      unfold Oper.quietAt
      go_simp
    go_big_quiet_on
    simp only [Act.put, List.setIfInBounds_toArray, List.set_cons_zero, List.set_cons_succ]
    go_big_quiet_want
    refine ⟨.bool true, fun w hw => ?_, ?_⟩
    · obtain ⟨c0, c1, c2, c3, c4, c5⟩ := HSF.out w hw
      unfold Oper.quietAt
      go_simp
    go_big_quiet_on
    simp only [Act.put, List.setIfInBounds_toArray, List.set_cons_zero, List.set_cons_succ]
    go_big_quiet_want
    refine ⟨.bool true, fun w hw => ?_, ?_⟩
    · obtain ⟨c0, c1, c2, c3, c4, c5⟩ := HSF.out w hw
      unfold Oper.quietAt
      go_simp
    go_big_quiet_on
    simp only [Act.put, List.setIfInBounds_toArray, List.set_cons_zero, List.set_cons_succ]
    go_big_quiet_want
    refine ⟨.bool true, fun w hw => ?_, ?_⟩
    · obtain ⟨c0, c1, c2, c3, c4, c5⟩ := HSF.out w hw
      unfold Oper.quietAt
      go_simp
    go_big_quiet_on
    simp only [Act.put, List.setIfInBounds_toArray, List.set_cons_zero, List.set_cons_succ]
    go_big_quiet_want
    refine ⟨.bool true, fun w hw => ?_, ?_⟩
    · obtain ⟨c0, c1, c2, c3, c4, c5⟩ := HSF.out w hw
      unfold Oper.quietAt
      go_simp
    go_big_quiet_on
    simp only [Act.put, List.setIfInBounds_toArray, List.set_cons_zero, List.set_cons_succ]
    refine wpQuiet_nil ?_
    intro w' hw'
    exact HKK.out _ _ _ _ _ _ _ _ _ _ _ _ _ _ _ _ _ _ _ _ _ _ _ _ _ _ ⟨hw'⟩
  | false =>
    have h6 := L6.out
    subst h6
    refine wp_region_quiet (C := fun w' => Mod (fun _ => False) w3 w') (by kernel_rfl) (by kernel_rfl) (HZ.out.trans (Mod.drew _ _) (fun _ h => Or.inl h)) ?_
    simp only [List.toList_toArray]
    go_big_quiet_want
    refine ⟨.agg #[.string p.loc, .slice oa p.steps.length ca], fun w hw => ?_, ?_⟩
    · obtain ⟨c0, c1, c2, c3, c4, c5⟩ := HSF.out w hw
      unfold Oper.quietAt
      go_simp
    go_big_quiet_on
    simp only [Act.put, List.setIfInBounds_toArray, List.set_cons_zero, List.set_cons_succ]
    go_big_quiet_want
    refine ⟨.agg #[.string o.loc, .slice ob o.steps.length cb], fun w hw => ?_, ?_⟩
    · obtain ⟨c0, c1, c2, c3, c4, c5⟩ := HSF.out w hw
      unfold Oper.quietAt
      go_simp
    go_big_quiet_on
    simp only [Act.put, List.setIfInBounds_toArray, List.set_cons_zero, List.set_cons_succ]
    go_big_quiet_want
    refine ⟨.bool false, fun w hw => ?_, ?_⟩
    · unfold Oper.quietAt
      go_simp
      refine (Calls.at' (Fpo.out w hw) (by with_reducible rfl)).mono ?_
      rintro e w2 ⟨rfl, hM⟩
      exact ⟨rfl, hw.trans hM (fun _ h => Or.inl h)⟩
    go_big_quiet_on
    simp only [Act.put, List.setIfInBounds_toArray, List.set_cons_zero, List.set_cons_succ]
    go_big_quiet_want
    refine ⟨.bool false, fun w hw => ?_, ?_⟩
    · obtain ⟨c0, c1, c2, c3, c4, c5⟩ := HSF.out w hw
      unfold Oper.quietAt
      go_simp
    go_big_quiet_on
    simp only [Act.put, List.setIfInBounds_toArray, List.set_cons_zero, List.set_cons_succ]
    go_big_quiet_skip
    go_big_quiet_skip
    go_big_quiet_skip
    go_big_quiet_want
    refine ⟨.bool false, fun w hw => ?_, ?_⟩
    · obtain ⟨c0, c1, c2, c3, c4, c5⟩ := HSF.out w hw
      unfold Oper.quietAt
      go_simp
    go_big_quiet_on
    simp only [Act.put, List.setIfInBounds_toArray, List.set_cons_zero, List.set_cons_succ]
    go_big_quiet_want
    refine ⟨.agg #[.string p.loc, .slice oa p.steps.length ca], fun w hw => ?_, ?_⟩
    · obtain ⟨c0, c1, c2, c3, c4, c5⟩ := HSF.out w hw
      unfold Oper.quietAt
      go_simp
    go_big_quiet_on
    simp only [Act.put, List.setIfInBounds_toArray, List.set_cons_zero, List.set_cons_succ]
    go_big_quiet_want
    refine ⟨.agg #[.string o.loc, .slice ob o.steps.length cb], fun w hw => ?_, ?_⟩
    · obtain ⟨c0, c1, c2, c3, c4, c5⟩ := HSF.out w hw
      unfold Oper.quietAt
      go_simp
    go_big_quiet_on
    simp only [Act.put, List.setIfInBounds_toArray, List.set_cons_zero, List.set_cons_succ]
    go_big_quiet_want
    refine ⟨.bool false, fun w hw => ?_, ?_⟩
    · unfold Oper.quietAt
      go_simp
      refine (Calls.at' (Epo.out w hw) (by with_reducible rfl)).mono ?_
      rintro e w2 ⟨rfl, hM⟩
      exact ⟨rfl, hw.trans hM (fun _ h => Or.inl h)⟩
    go_big_quiet_on
    simp only [Act.put, List.setIfInBounds_toArray, List.set_cons_zero, List.set_cons_succ]
    go_big_quiet_want
    refine ⟨.bool true, fun w hw => ?_, ?_⟩
    · obtain ⟨c0, c1, c2, c3, c4, c5⟩ := HSF.out w hw
      unfold Oper.quietAt
      go_simp
    go_big_quiet_on
    simp only [Act.put, List.setIfInBounds_toArray, List.set_cons_zero, List.set_cons_succ]
    go_big_quiet_want
    refine ⟨.bool true, fun w hw => ?_, ?_⟩
    · obtain ⟨c0, c1, c2, c3, c4, c5⟩ := HSF.out w hw
      unfold Oper.quietAt
      go_simp
    go_big_quiet_on
    simp only [Act.put, List.setIfInBounds_toArray, List.set_cons_zero, List.set_cons_succ]
    go_big_quiet_want
    refine ⟨.agg #[.string p.loc, .slice oa x ca], fun w hw => ?_, ?_⟩
    · obtain ⟨c0, c1, c2, c3, c4, c5⟩ := HSF.out w hw
      unfold Oper.quietAt
      go_simp
    go_big_quiet_on
    simp only [Act.put, List.setIfInBounds_toArray, List.set_cons_zero, List.set_cons_succ]
    go_big_quiet_want
    refine ⟨.agg #[.string p.loc, .slice oa p.steps.length ca], fun w hw => ?_, ?_⟩
    · obtain ⟨c0, c1, c2, c3, c4, c5⟩ := HSF.out w hw
      unfold Oper.quietAt
      go_simp
    go_big_quiet_on
    simp only [Act.put, List.setIfInBounds_toArray, List.set_cons_zero, List.set_cons_succ]
    go_big_quiet_want
    refine ⟨.bool true, fun w hw => ?_, ?_⟩
    · unfold Oper.quietAt
      go_simp
      refine (Calls.at' (Fap.out w hw) (by with_reducible rfl)).mono ?_
      rintro e w2 ⟨rfl, hM⟩
      exact ⟨rfl, hw.trans hM (fun _ h => Or.inl h)⟩
    go_big_quiet_on
    simp only [Act.put, List.setIfInBounds_toArray, List.set_cons_zero, List.set_cons_succ]
    go_big_quiet_want
    refine ⟨.pointer (some ⟨ba, 1, none⟩), fun w hw => ?_, ?_⟩
    · obtain ⟨c0, c1, c2, c3, c4, c5⟩ := HSF.out w hw
      unfold Oper.quietAt
      go_simp
    go_big_quiet_on
    simp only [Act.put, List.setIfInBounds_toArray, List.set_cons_zero, List.set_cons_succ]
    go_big_quiet_want
    refine ⟨.slice oa x ca, fun w hw => ?_, ?_⟩
    · obtain ⟨c0, c1, c2, c3, c4, c5⟩ := HSF.out w hw
      unfold Oper.quietAt
      go_simp
    go_big_quiet_on
    simp only [Act.put, List.setIfInBounds_toArray, List.set_cons_zero, List.set_cons_succ]
    go_big_quiet_want
    refine ⟨.int .i64 (x : Int), fun w hw => ?_, ?_⟩
    · obtain ⟨c0, c1, c2, c3, c4, c5⟩ := HSF.out w hw
      unfold Oper.quietAt
      go_simp
    go_big_quiet_on
    simp only [Act.put, List.setIfInBounds_toArray, List.set_cons_zero, List.set_cons_succ]
    go_big_quiet_want
    refine ⟨.pointer (some ⟨bp, 1, none⟩), fun w hw => ?_, ?_⟩
    · obtain ⟨c0, c1, c2, c3, c4, c5⟩ := HSF.out w hw
      unfold Oper.quietAt
      go_simp
    go_big_quiet_on
    simp only [Act.put, List.setIfInBounds_toArray, List.set_cons_zero, List.set_cons_succ]
    go_big_quiet_want
    refine ⟨.slice oa p.steps.length ca, fun w hw => ?_, ?_⟩
    · obtain ⟨c0, c1, c2, c3, c4, c5⟩ := HSF.out w hw
      unfold Oper.quietAt
      go_simp
    go_big_quiet_on
    simp only [Act.put, List.setIfInBounds_toArray, List.set_cons_zero, List.set_cons_succ]
    go_big_quiet_want
    refine ⟨.int .i64 (p.steps.length : Int), fun w hw => ?_, ?_⟩
    · obtain ⟨c0, c1, c2, c3, c4, c5⟩ := HSF.out w hw
      unfold Oper.quietAt
      go_simp
    go_big_quiet_on
    simp only [Act.put, List.setIfInBounds_toArray, List.set_cons_zero, List.set_cons_succ]
    go_big_quiet_want
    refine ⟨.bool true, fun w hw => ?_, ?_⟩
    · obtain ⟨c0, c1, c2, c3, c4, c5⟩ := HSF.out w hw
      unfold Oper.quietAt
      go_simp
    go_big_quiet_on
    simp only [Act.put, List.setIfInBounds_toArray, List.set_cons_zero, List.set_cons_succ]
    go_big_quiet_want
    refine ⟨.bool true, fun w hw => ?_, ?_⟩
    · obtain ⟨c0, c1, c2, c3, c4, c5⟩ := HSF.out w hw
      unfold Oper.quietAt
      go_simp
    go_big_quiet_on
    simp only [Act.put, List.setIfInBounds_toArray, List.set_cons_zero, List.set_cons_succ]
    go_big_quiet_want
    refine ⟨.bool true, fun w hw => ?_, ?_⟩
    · obtain ⟨c0, c1, c2, c3, c4, c5⟩ := HSF.out w hw
      unfold Oper.quietAt
      go_simp
    go_big_quiet_on
    simp only [Act.put, List.setIfInBounds_toArray, List.set_cons_zero, List.set_cons_succ]
    go_big_quiet_want
    refine ⟨.bool true, fun w hw => ?_, ?_⟩
    · obtain ⟨c0, c1, c2, c3, c4, c5⟩ := HSF.out w hw
      unfold Oper.quietAt
      go_simp
    go_big_quiet_on
    simp only [Act.put, List.setIfInBounds_toArray, List.set_cons_zero, List.set_cons_succ]
    refine wpQuiet_nil ?_
    intro w' hw'
    exact HKK.out _ _ _ _ _ _ _ _ _ _ _ _ _ _ _ _ _ _ _ _ _ _ _ _ _ _ ⟨hw'⟩
end Go.Proofs.YtpodeccpibnlbaaGreatDoor
