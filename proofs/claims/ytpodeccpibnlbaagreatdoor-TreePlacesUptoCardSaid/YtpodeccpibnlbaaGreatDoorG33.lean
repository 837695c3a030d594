/- The law TreePlaces: its drawn region. The law TreePlaces, walked. -/
import Derived.Test.YtpodeccpibnlbaaGreatDoorG25
import Derived.Test.YtpodeccpibnlbaaGreatDoorG32
import Derived.Test.YtpodeccpibnlbaaGreatDoorG30
import Derived.Test.YtpodeccpibnlbaaGreatDoorG31
import Derived.Test.YtpodeccpibnlbaaGreatDoorG24
namespace Go.Proofs.YtpodeccpibnlbaaGreatDoor
set_option linter.unusedVariables false
set_option linter.unusedSimpArgs false
open Go.RowKit
set_option maxRecDepth 1000000 in
noncomputable def preg7 : Code := ((Tryz.f3.body.bind (regAt 7)).getD .skip)
theorem bne_b (k : Bool) : (k != k) = false := by cases k <;> rfl
theorem bne_l (x : List UInt8) : (x != x) = false := by simp
set_option maxRecDepth 1000000 in
set_option maxHeartbeats 16000000 in
theorem preg7_c {w3 wc : World} {p q a b : Pl} {op oq oa ob : Option Addr} {lp cp lq cq la ca lb cb bp bq ba bb : Nat} {k q1 q2 : Bool} {X : ByteArray} {Q : Exit → Act → World → Prop} (C1 : Hd (∀ w', Mod (fun _ => False) w3 w' → Calls Tryz.prog 12 #[.agg #[.string p.loc, .slice op lp cp], .agg #[.string q.loc, .slice oq lq cq]] w' fun e w'' => e = .returned (.bool true) ∧ Mod (fun _ => False) w' w'')) (C2 : Hd (∀ w', Mod (fun _ => False) w3 w' → Calls Tryz.prog 13 #[.agg #[.string a.loc, .slice oa la ca]] w' fun e w'' => e = .returned (.string X) ∧ Mod (fun _ => False) w' w'')) (C3 : Hd (∀ w', Mod (fun _ => False) w3 w' → Calls Tryz.prog 14 #[.agg #[.string a.loc, .slice oa la ca]] w' fun e w'' => e = .returned (.string X) ∧ Mod (fun _ => False) w' w'')) (C4 : Hd (∀ w', Mod (fun _ => False) w3 w' → Calls Tryz.prog 15 #[.agg #[.string a.loc, .slice oa la ca], .agg #[.string b.loc, .slice ob lb cb]] w' fun e w'' => e = .returned (.bool q1) ∧ Mod (fun _ => False) w' w'')) (C5 : Hd (∀ w', Mod (fun _ => False) w3 w' → Calls Tryz.prog 12 #[.agg #[.string a.loc, .slice oa la ca], .agg #[.string b.loc, .slice ob lb cb]] w' fun e w'' => e = .returned (.bool q1) ∧ Mod (fun _ => False) w' w'')) (C6 : Hd (∀ w', Mod (fun _ => False) w3 w' → Calls Tryz.prog 16 #[.agg #[.string a.loc, .slice oa la ca], .agg #[.string b.loc, .slice ob lb cb]] w' fun e w'' => e = .returned (.bool q2) ∧ Mod (fun _ => False) w' w'')) (C7 : Hd (∀ w', Mod (fun _ => False) w3 w' → Calls Tryz.prog 17 #[.agg #[.string a.loc, .slice oa la ca], .agg #[.string b.loc, .slice ob lb cb]] w' fun e w'' => e = .returned (.bool q2) ∧ Mod (fun _ => False) w' w''))
    (HSF : Hd (∀ w', Mod (fun _ => False) w3 w' → w'.cell? ⟨bp, 0, none⟩ = some (.string p.loc) ∧ w'.cell? ⟨bp, 1, none⟩ = some (.slice op lp cp) ∧ w'.cell? ⟨bq, 0, none⟩ = some (.string q.loc) ∧ w'.cell? ⟨bq, 1, none⟩ = some (.slice oq lq cq) ∧ w'.cell? ⟨ba, 0, none⟩ = some (.string a.loc) ∧ w'.cell? ⟨ba, 1, none⟩ = some (.slice oa la ca) ∧ w'.cell? ⟨bb, 0, none⟩ = some (.string b.loc) ∧ w'.cell? ⟨bb, 1, none⟩ = some (.slice ob lb cb))) (HZ : Hd (Mod (fun _ => False) w3 wc))
    (u0 u1 u2 u3 u6 u11 u12 u13 u14 u15 u16 u17 u18 u19 u20 u21 u22 u23 u24 u25 u26 u27 u28 u29 u30 u31 u32 u33 u34 u35 u36 u37 u38 u39 u40 u41 u42 u43 u44 u45 u46 u47 u48 u49 u50 u51 u52 u53 u54 u55 u56 u57 u58 u59 u60 u61 u62 u63 u64 u65 u66 u67 u68 u69 u70 u71 u72 u73 u74 u75 u76 u77 u78 u79 u80 u81 u82 u83 u84 u85 u86 u87 u88 u89 u90 u91 u92 u93 u94 u95 u96 u97 u98 u99 u100 : Value)
    (hK : ∀ (w' : World) (v40 v41 v42 v43 v44 v45 v46 v47 v48 v49 v50 v51 v52 v53 v54 v55 v56 v57 v58 v59 v60 v61 v62 v63 v64 v65 v66 v67 v68 v69 v70 v71 v72 : Value), Hd (Mod (fun _ => False) w3 w') → Q .normal ⟨#[u0, u1, u2, u3, .pointer (some ⟨ba, 0, none⟩), .pointer (some ⟨bb, 0, none⟩), u6, .pointer (some ⟨bp, 0, none⟩), .bool k, .pointer (some ⟨bq, 0, none⟩), .bool k, u11, u12, u13, u14, u15, u16, u17, u18, u19, u20, u21, u22, u23, u24, u25, u26, u27, u28, u29, u30, u31, u32, u33, u34, u35, u36, u37, u38, u39, v40, v41, v42, v43, v44, v45, v46, v47, v48, v49, v50, v51, v52, v53, v54, v55, v56, v57, v58, v59, v60, v61, v62, v63, v64, v65, v66, v67, v68, v69, v70, v71, v72, .bool false, u74, u75, u76, u77, u78, u79, u80, u81, u82, u83, u84, u85, u86, u87, u88, u89, u90, u91, u92, u93, u94, u95, u96, u97, u98, u99, u100], []⟩ w') :
    Code.wp Tryz.prog preg7 Q ⟨#[u0, u1, u2, u3, .pointer (some ⟨ba, 0, none⟩), .pointer (some ⟨bb, 0, none⟩), u6, .pointer (some ⟨bp, 0, none⟩), .bool k, .pointer (some ⟨bq, 0, none⟩), .bool k, u11, u12, u13, u14, u15, u16, u17, u18, u19, u20, u21, u22, u23, u24, u25, u26, u27, u28, u29, u30, u31, u32, u33, u34, u35, u36, u37, u38, u39, u40, u41, u42, u43, u44, u45, u46, u47, u48, u49, u50, u51, u52, u53, u54, u55, u56, u57, u58, u59, u60, u61, u62, u63, u64, u65, u66, u67, u68, u69, u70, u71, u72, u73, u74, u75, u76, u77, u78, u79, u80, u81, u82, u83, u84, u85, u86, u87, u88, u89, u90, u91, u92, u93, u94, u95, u96, u97, u98, u99, u100], []⟩ wc := by
  conv => arg 2; whnf
  have HKK : Hd _ := ⟨hK⟩
  clear hK
  have e1 := bne_b k
  have e2 := bne_b q1
  have e3 := bne_b q2
  have e4 := bne_l X.toList
  have TOK0 : True := trivial
  first
  | (go_region_held3 (fun w' => w'.cell? ⟨bp, 0, none⟩ = some (.string p.loc) ∧ w'.cell? ⟨bp, 1, none⟩ = some (.slice op lp cp) ∧ w'.cell? ⟨bq, 0, none⟩ = some (.string q.loc) ∧ w'.cell? ⟨bq, 1, none⟩ = some (.slice oq lq cq) ∧ w'.cell? ⟨ba, 0, none⟩ = some (.string a.loc) ∧ w'.cell? ⟨ba, 1, none⟩ = some (.slice oa la ca) ∧ w'.cell? ⟨bb, 0, none⟩ = some (.string b.loc) ∧ w'.cell? ⟨bb, 1, none⟩ = some (.slice ob lb cb)) (first | with_reducible exact HSF.out _ Hwq6.out | with_reducible exact HSF.out _ Hwq5.out | with_reducible exact HSF.out _ Hwq4.out | with_reducible exact HSF.out _ Hwq3.out | with_reducible exact HSF.out _ Hwq2.out | with_reducible exact HSF.out _ Hwq1.out | with_reducible exact HSF.out _ Hwq0.out | with_reducible exact HSF.out _ (HZ.out.trans (Mod.drew _ _) (fun _ h => Or.inl h))) (first
    | (clear TOK0
       go_at_call 12
       refine (Calls.at' (C1.out _ (HZ.out.trans (Mod.drew _ _) (fun _ h => Or.inl h))) (by with_reducible rfl)).mono ?_
       rintro e wq0 ⟨rfl, hM⟩
       have Hwq0 : Hd (Mod (fun _ => False) w3 wq0) := ⟨(HZ.out.trans (Mod.drew _ _) (fun _ h => Or.inl h)).trans hM (fun _ h => Or.inl h)⟩
       clear hM
       have TOK1 : True := trivial)
    | (clear TOK1
       go_at_call 13
       refine (Calls.at' (C2.out _ Hwq0.out) (by with_reducible rfl)).mono ?_
       rintro e wq1 ⟨rfl, hM⟩
       have Hwq1 : Hd (Mod (fun _ => False) w3 wq1) := ⟨Hwq0.out.trans hM (fun _ h => Or.inl h)⟩
       clear hM
       have TOK2 : True := trivial)
    | (clear TOK2
       go_at_call 14
       refine (Calls.at' (C3.out _ Hwq1.out) (by with_reducible rfl)).mono ?_
       rintro e wq2 ⟨rfl, hM⟩
       have Hwq2 : Hd (Mod (fun _ => False) w3 wq2) := ⟨Hwq1.out.trans hM (fun _ h => Or.inl h)⟩
       clear hM
       have TOK3 : True := trivial)
    | (clear TOK3
       go_at_call 15
       refine (Calls.at' (C4.out _ Hwq2.out) (by with_reducible rfl)).mono ?_
       rintro e wq3 ⟨rfl, hM⟩
       have Hwq3 : Hd (Mod (fun _ => False) w3 wq3) := ⟨Hwq2.out.trans hM (fun _ h => Or.inl h)⟩
       clear hM
       have TOK4 : True := trivial)
    | (clear TOK4
       go_at_call 12
       refine (Calls.at' (C5.out _ Hwq3.out) (by with_reducible rfl)).mono ?_
       rintro e wq4 ⟨rfl, hM⟩
       have Hwq4 : Hd (Mod (fun _ => False) w3 wq4) := ⟨Hwq3.out.trans hM (fun _ h => Or.inl h)⟩
       clear hM
       have TOK5 : True := trivial)
    | (clear TOK5
       go_at_call 16
       refine (Calls.at' (C6.out _ Hwq4.out) (by with_reducible rfl)).mono ?_
       rintro e wq5 ⟨rfl, hM⟩
       have Hwq5 : Hd (Mod (fun _ => False) w3 wq5) := ⟨Hwq4.out.trans hM (fun _ h => Or.inl h)⟩
       clear hM
       have TOK6 : True := trivial)
    | (clear TOK6
       go_at_call 17
       refine (Calls.at' (C7.out _ Hwq5.out) (by with_reducible rfl)).mono ?_
       rintro e wq6 ⟨rfl, hM⟩
       have Hwq6 : Hd (Mod (fun _ => False) w3 wq6) := ⟨Hwq5.out.trans hM (fun _ h => Or.inl h)⟩
       clear hM
       have TOK7 : True := trivial)))
  | fail "held3"
  all_goals exact HKK.out _ _ _ _ _ _ _ _ _ _ _ _ _ _ _ _ _ _ _ _ _ _ _ _ _ _ _ _ _ _ _ _ _ _ Hwq6
end Go.Proofs.YtpodeccpibnlbaaGreatDoor
namespace Go.Proofs.YtpodeccpibnlbaaGreatDoor
set_option linter.unusedVariables false
set_option linter.unusedSimpArgs false
open Go.RowKit

theorem plU_of {S : Nat → Prop} {w : World} {v : Value} {p : Pl} (h : plV S w v p) : plU (fun _ => True) w v p := by
  obtain ⟨_, oa, la, ca, e, k⟩ := h
  exact ⟨oa, la, ca, e, k.keep (fun b _ hl => ⟨trivial, hl, rfl⟩) (fun v x h => h.1)⟩
theorem text_len (p : Pl) : (textI p).size ≤ szPl p := by
  have h : (textI p).size = (textL p).length := by rw [← lst_len]; exact congrArg List.length (lst_mk _)
  have key : ∀ l : List ByteArray, ((l.map (fun s => 46 :: lst s)).flatten).length = (l.map szS).sum := by
    intro l
    induction l with
    | nil => rfl
    | cons x l ih =>
      rw [List.map_cons, List.flatten_cons, List.length_append, ih, List.map_cons, List.sum_cons, List.length_cons, lst_len]
      rfl
  rw [h, textL, List.length_append, key, lst_len]
  unfold szPl szR szS
  omega
theorem alive_now (W : World) (hT : Tab W) {m : Int} (hm : W.cell? ⟨0, 0, none⟩ = some (.int .i64 m)) : Calls Tryz.prog 9 #[] W fun e w' => e = .returned (.bool true) ∧ Mod (fun _ => False) W w' := callsIn_wide.1 (alive_in W hT hm)
set_option maxRecDepth 100000 in
set_option maxHeartbeats 8000000 in
theorem law_places {W : World} (hT : Tab W) {m : Int} (hm : W.cell? ⟨0, 0, none⟩ = some (.int .i64 m)) {s : ByteArray} (hs : Sm s) {a b : Pl} {va vb : Value} (ha : plV (fun _ => True) W va a) (hb : plV (fun _ => True) W vb b) (hta : Sm (textI a)) :
    Calls Tryz.prog 3 #[.string s, va, vb] W fun e w' => e = .returned (.bool true) ∧ Mod (fun _ => False) W w' := by
  have HA0 : Hd _ := ⟨ha⟩
  have HB0 : Hd _ := ⟨hb⟩
  obtain ⟨_, oa, la, ca, rfl, ka⟩ := ha
  obtain ⟨_, ob, lb, cb, rfl, kb⟩ := hb
  have HAL : Hd (∀ A B : Obj, _) := ⟨fun A B => alive_now ((W.alloc A).alloc B) (hT.mod ((Mod.alloc _ _ _).trans (Mod.alloc _ _ _) (fun _ h => Or.inl h))) (((Mod.alloc (fun _ => False) W A).trans (Mod.alloc _ _ B) (fun _ h => Or.inl h)).cell' hm)⟩
  have HPL : Hd (∀ s : ByteArray, Sm s → ∀ w, Mod (fun _ => False) W w → _) := ⟨fun s h w hw => Place_c hT hm h w hw⟩
  have HS : Hd (Sm s) := ⟨hs⟩
  have HTA : Hd _ := ⟨hta⟩
  clear hT hm ka kb hs hta
  by_cases h1 : (1000 : Int) < (s.size : Int)
  · go_enter Tryz.func3, Tryz.ntmps3
    go_wp2_with fail
    refine (HAL.out _ _).mono ?_
    rintro e w1 ⟨rfl, hM⟩
    have HM1 : Hd (Mod (fun _ => False) W w1) := ⟨((Mod.alloc _ _ _).trans (Mod.alloc _ _ _) (fun _ h => Or.inl h)).trans hM (fun _ h => Or.inl h)⟩
    clear hM
    go_wp2
    go_ret
    exact ⟨rfl, HM1.out⟩
  go_enter Tryz.func3, Tryz.ntmps3
  go_wp2_with fail
  refine (HAL.out _ _).mono ?_
  rintro e w1 ⟨rfl, hM⟩
  have HM1 : Hd (Mod (fun _ => False) W w1) := ⟨((Mod.alloc _ _ _).trans (Mod.alloc _ _ _) (fun _ h => Or.inl h)).trans hM (fun _ h => Or.inl h)⟩
  have HA : Hd (w1.heap[W.heap.size]? = some (.cells #[.string a.loc, .slice oa la ca] 24 (0, 0))) := ⟨(hM.block _ (lt2_0 _ _ _) (fun h => h)).trans (heap2_0 W _ _)⟩
  have HB : Hd (w1.heap[W.heap.size + 1]? = some (.cells #[.string b.loc, .slice ob lb cb] 24 (0, 0))) := ⟨(hM.block _ (lt2_1 _ _ _) (fun h => h)).trans (heap2_1 W _ _)⟩
  clear hM HAL
  have a1 : w1.cell? ⟨W.heap.size, 1, none⟩ = some (.slice oa la ca) := cell_of HA.out rfl
  have b1 : w1.cell? ⟨W.heap.size + 1, 1, none⟩ = some (.slice ob lb cb) := cell_of HB.out rfl
  by_cases h2 : (100 : Int) < (la : Int)
  · go_wp2
    go_ret
    exact ⟨rfl, HM1.out⟩
  by_cases h3 : (100 : Int) < (lb : Int)
  · go_wp2
    go_ret
    exact ⟨rfl, HM1.out⟩
  have HPS : Hd _ := ⟨HPL.out s HS.out w1 HM1.out⟩
  have HRD : Hd (∀ w, _) := ⟨fun w => Read_c HS.out w⟩
  obtain ⟨pk, hpk⟩ : ∃ pk, PlaceI s = pk := ⟨_, rfl⟩
  rw [hpk] at HPS HRD
  obtain ⟨p, k⟩ := pk
  clear hpk
  go_wp2_with fail
  refine HPS.out.mono ?_
  rintro e w2 ⟨v, rfl, hM2, hp⟩
  have HP0 : Hd _ := ⟨plU_of hp⟩
  obtain ⟨_, op, lp, cp, rfl, kp⟩ := hp
  have HM2 : Hd (Mod (fun _ => False) w1 w2) := ⟨hM2⟩
  clear hM2 kp a1 b1 h1 h2 h3 HPS
  go_wp2_with fail
  refine (HRD.out _).mono ?_
  rintro e w4 ⟨v, rfl, hM4, hq⟩
  have HQ0 : Hd _ := ⟨plU_of hq⟩
  obtain ⟨_, oq, lq, cq, rfl, kq⟩ := hq
  have HP : Hd (w4.heap[w2.heap.size]? = some (.cells #[.string p.loc, .slice op lp cp] 24 (0, 0))) := ⟨(hM4.block _ (lt1_0 _ _) (fun h => h)).trans (heap_new' _ _)⟩
  have HM4 : Hd (Mod (fun _ => False) w2 w4) := ⟨(Mod.alloc _ _ _).trans hM4 (fun _ h => Or.inl h)⟩
  clear hM4 kq HRD
  dsimp only
  repeat (go_not_at_region 7; first | go_values | go_skip | go_guarded | go_step | go_upon | go_back)
  obtain ⟨bq, hbq⟩ : ∃ bq, w4.heap.size = bq := ⟨_, rfl⟩
  have HQ : Hd ((w4.alloc (.cells #[.string p.loc, .slice oq lq cq] 24)).heap[bq]? = some (.cells #[.string p.loc, .slice oq lq cq] 24 (0, 0))) := ⟨by rw [← hbq]; exact heap_new' _ _⟩
  have HM5 : Hd (Mod (fun _ => False) w4 (w4.alloc (.cells #[.string p.loc, .slice oq lq cq] 24))) := ⟨Mod.alloc _ _ _⟩
  obtain ⟨W5, hW5⟩ : ∃ W5, w4.alloc (.cells #[.string p.loc, .slice oq lq cq] 24) = W5 := ⟨_, rfl⟩
  rw [hW5] at HQ HM5
  rw [hbq, hW5]
  clear hbq hW5
  have M45 : Hd (Mod (fun _ => False) w1 W5) := ⟨HM2.out.trans (HM4.out.trans HM5.out (fun _ h => Or.inl h)) (fun _ h => Or.inl h)⟩
  have MW5 : Hd (Mod (fun _ => False) W W5) := ⟨HM1.out.trans M45.out (fun _ h => Or.inl h)⟩
  have M25 : Hd (Mod (fun _ => False) w2 W5) := ⟨HM4.out.trans HM5.out (fun _ h => Or.inl h)⟩
  have HA5 : Hd (W5.heap[W.heap.size]? = some (.cells #[.string a.loc, .slice oa la ca] 24 (0, 0))) := ⟨(M45.out.block _ (Array.getElem?_eq_some_iff.1 HA.out).1 (fun h => h)).trans HA.out⟩
  have HB5 : Hd (W5.heap[W.heap.size + 1]? = some (.cells #[.string b.loc, .slice ob lb cb] 24 (0, 0))) := ⟨(M45.out.block _ (Array.getElem?_eq_some_iff.1 HB.out).1 (fun h => h)).trans HB.out⟩
  have HP5 : Hd (W5.heap[w2.heap.size]? = some (.cells #[.string p.loc, .slice op lp cp] 24 (0, 0))) := ⟨(HM5.out.block _ (Array.getElem?_eq_some_iff.1 HP.out).1 (fun h => h)).trans HP.out⟩
  have hpu := HP0.out.mod M25.out
  have hqu := HQ0.out.mod HM5.out
  have hap := HA0.out.keep (MW5.out.kp (fun _ => True))
  have hbp := HB0.out.keep (MW5.out.kp (fun _ => True))
  have C1 : Hd (∀ w', Mod (fun _ => False) W5 w' → _) := ⟨fun w' h => rEqual_u hpu hqu w' h⟩
  have C2 : Hd (∀ w', Mod (fun _ => False) W5 w' → _) := ⟨fun w' h => Text_ans hap w' h⟩
  have C3 : Hd (∀ w', Mod (fun _ => False) W5 w' → _) := ⟨fun w' h => rText_ans hap w' h⟩
  have C4 : Hd (∀ w', Mod (fun _ => False) W5 w' → _) := ⟨fun w' h => Equal_u (plU_of hap) (plU_of hbp) w' h⟩
  have C5 : Hd (∀ w', Mod (fun _ => False) W5 w' → _) := ⟨fun w' h => rEqual_u (plU_of hap) (plU_of hbp) w' h⟩
  have C6 : Hd (∀ w', Mod (fun _ => False) W5 w' → _) := ⟨fun w' h => Front_u (plU_of hap) (plU_of hbp) w' h⟩
  have C7 : Hd (∀ w', Mod (fun _ => False) W5 w' → _) := ⟨fun w' h => rFront_u (plU_of hap) (plU_of hbp) w' h⟩
  have C8 : Hd (∀ w', Mod (fun _ => False) W5 w' → _) := ⟨fun w' h => rPlace_ans hap w' h⟩
  rw [equalP_self] at C1
  have HPT : Hd _ := ⟨HPL.out (textI a) HTA.out⟩
  have HBK : Hd (placeI a = true → PlaceI (textI a) = (a, true)) := ⟨fun h => place_back h⟩
  obtain ⟨pk2, hpk2⟩ : ∃ pk, PlaceI (textI a) = pk := ⟨_, rfl⟩
  rw [hpk2] at HPT HBK
  obtain ⟨X, hX⟩ : ∃ X, textI a = X := ⟨_, rfl⟩
  rw [hX] at C2 C3 HPT
  obtain ⟨pb, kb⟩ := pk2
  obtain ⟨rp, hrp⟩ : ∃ rp, placeI a = rp := ⟨_, rfl⟩
  rw [hrp] at C8 HBK
  clear hpk2 hX hrp hpu hqu hbp HPL HM5 HM4 HM2 HA HB HP HQ0 HP0 HB0
  have HAP : Hd _ := ⟨plU_of hap⟩
  clear hap
  have HSF : Hd (∀ w', Mod (fun _ => False) W5 w' → w'.cell? ⟨w2.heap.size, 0, none⟩ = some (.string p.loc) ∧ w'.cell? ⟨w2.heap.size, 1, none⟩ = some (.slice op lp cp) ∧ w'.cell? ⟨bq, 0, none⟩ = some (.string p.loc) ∧ w'.cell? ⟨bq, 1, none⟩ = some (.slice oq lq cq) ∧ w'.cell? ⟨W.heap.size, 0, none⟩ = some (.string a.loc) ∧ w'.cell? ⟨W.heap.size, 1, none⟩ = some (.slice oa la ca) ∧ w'.cell? ⟨W.heap.size + 1, 0, none⟩ = some (.string b.loc) ∧ w'.cell? ⟨W.heap.size + 1, 1, none⟩ = some (.slice ob lb cb)) := ⟨fun w' h => by
    have qa := (h.block _ (Array.getElem?_eq_some_iff.1 HA5.out).1 (fun h => h)).trans HA5.out
    have qb := (h.block _ (Array.getElem?_eq_some_iff.1 HB5.out).1 (fun h => h)).trans HB5.out
    have qp := (h.block _ (Array.getElem?_eq_some_iff.1 HP5.out).1 (fun h => h)).trans HP5.out
    have qq := (h.block _ (Array.getElem?_eq_some_iff.1 HQ.out).1 (fun h => h)).trans HQ.out
    exact ⟨cell_of qp rfl, cell_of qp rfl, cell_of qq rfl, cell_of qq rfl, cell_of qa rfl, cell_of qa rfl, cell_of qb rfl, cell_of qb rfl⟩⟩
  refine preg7_c C1 C2 C3 C4 C5 C6 C7 HSF ⟨Mod.refl _ _⟩ _ _ _ _ _ _ _ _ _ _ _ _ _ _ _ _ _ _ _ _ _ _ _ _ _ _ _ _ _ _ _ _ _ _ _ _ _ _ _ _ _ _ _ _ _ _ _ _ _ _ _ _ _ _ _ _ _ _ _ _ _ _ _ _ _ _ _ _ _ _ _ _ _ _ _ _ _ _ _ _ _ _ _ _ _ _ _ _ _ _ _ _ _ _ _ ?_
  intro wd v40 v41 v42 v43 v44 v45 v46 v47 v48 v49 v50 v51 v52 v53 v54 v55 v56 v57 v58 v59 v60 v61 v62 v63 v64 v65 v66 v67 v68 v69 v70 v71 v72 HZ
  obtain ⟨_, _, _, _, x0, x1, _, _⟩ := HSF.out wd HZ.out
  clear C1 C3 C4 C5 C6 C7
  go_wp2_with fail
  refine (C2.out wd HZ.out).mono ?_
  rintro e w6 ⟨rfl, hM6⟩
  have HM6 : Hd (Mod (fun _ => False) W5 w6) := ⟨HZ.out.trans hM6 (fun _ h => Or.inl h)⟩
  clear hM6 x0 x1 C2 HZ
  go_wp2_with fail
  refine (HPT.out w6 (MW5.out.trans HM6.out (fun _ h => Or.inl h))).mono ?_
  rintro e w7 ⟨v, rfl, hM7, hpb⟩
  have HPB : Hd _ := ⟨plU_of hpb⟩
  obtain ⟨_, o8, l8, c8, rfl, k8⟩ := hpb
  have HM7 : Hd (Mod (fun _ => False) W5 w7) := ⟨HM6.out.trans hM7 (fun _ h => Or.inl h)⟩
  obtain ⟨_, _, _, _, x0, x1, _, _⟩ := HSF.out w7 HM7.out
  have x2 : ∀ O, (w7.alloc O).cell? ⟨W.heap.size, 0, none⟩ = some (.string a.loc) := fun O => Lib.cell?_alloc_some O x0
  have x3 : ∀ O, (w7.alloc O).cell? ⟨W.heap.size, 1, none⟩ = some (.slice oa la ca) := fun O => Lib.cell?_alloc_some O x1
  clear hM7 k8 HPT
  go_wp2_with fail
  obtain ⟨b9, hb9⟩ : ∃ b9, w7.heap.size = b9 := ⟨_, rfl⟩
  have H9 : Hd ((w7.alloc (.cells #[.string pb.loc, .slice o8 l8 c8] 24)).heap[b9]? = some (.cells #[.string pb.loc, .slice o8 l8 c8] 24 (0, 0))) := ⟨by rw [← hb9]; exact heap_new' _ _⟩
  have HM9 : Hd (Mod (fun _ => False) w7 (w7.alloc (.cells #[.string pb.loc, .slice o8 l8 c8] 24))) := ⟨Mod.alloc _ _ _⟩
  obtain ⟨W9, hW9⟩ : ∃ W9, w7.alloc (.cells #[.string pb.loc, .slice o8 l8 c8] 24) = W9 := ⟨_, rfl⟩
  rw [hW9] at H9 HM9
  rw [hb9, hW9]
  have HMA : Hd (Mod (fun _ => False) W5 W9) := ⟨HM7.out.trans HM9.out (fun _ h => Or.inl h)⟩
  have HC := C8.out W9 HMA.out
  have HC8 : Hd _ := ⟨HC⟩
  clear HC x0 x1 x2 x3 hb9 hW9
  cases rp with
  | true =>
    have hE := HBK.out rfl
    simp only [Prod.mk.injEq] at hE
    obtain ⟨rfl, rfl⟩ := hE
    refine HC8.out.mono ?_
    rintro e wa ⟨rfl, hMa⟩
    have HMB : Hd (Mod (fun _ => False) W5 wa) := ⟨HMA.out.trans hMa (fun _ h => Or.inl h)⟩
    have HEQ : Hd _ := ⟨Equal_u (HPB.out.mod (HM9.out.trans hMa (fun _ h => Or.inl h))) (HAP.out.mod HMB.out) wa (Mod.refl _ _)⟩
    have hb := (hMa.block _ (Array.getElem?_eq_some_iff.1 H9.out).1 (fun h => h)).trans H9.out
    have y0 : wa.cell? ⟨b9, 0, none⟩ = some (.string pb.loc) := cell_of hb rfl
    have y1 : wa.cell? ⟨b9, 1, none⟩ = some (.slice o8 l8 c8) := cell_of hb rfl
    obtain ⟨_, _, _, _, z0, z1, _, _⟩ := HSF.out wa HMB.out
    rw [equalP_self] at HEQ
    clear hMa hb
    go_wp2_with fail
    refine HEQ.out.mono ?_
    rintro e wb ⟨rfl, hMb⟩
    have HMC : Hd (Mod (fun _ => False) W wb) := ⟨MW5.out.trans (HMB.out.trans hMb (fun _ h => Or.inl h)) (fun _ h => Or.inl h)⟩
    clear hMb
    go_wp2
    go_ret
    exact ⟨rfl, HMC.out⟩
  | false =>
    refine HC8.out.mono ?_
    rintro e wa ⟨rfl, hMa⟩
    have HMB : Hd (Mod (fun _ => False) W5 wa) := ⟨HMA.out.trans hMa (fun _ h => Or.inl h)⟩
    have HMC : Hd (Mod (fun _ => False) W wa) := ⟨MW5.out.trans HMB.out (fun _ h => Or.inl h)⟩
    obtain ⟨_, _, _, _, z0, z1, _, _⟩ := HSF.out wa HMB.out
    clear hMa
    cases kb with
    | false =>
      go_wp2
      go_ret
      exact ⟨rfl, HMC.out⟩
    | true =>
      go_wp2_with fail
      refine (C8.out wa HMB.out).mono ?_
      rintro e wb ⟨rfl, hMb⟩
      have HMD : Hd (Mod (fun _ => False) W wb) := ⟨HMC.out.trans hMb (fun _ h => Or.inl h)⟩
      clear hMb
      go_wp2
      go_ret
      exact ⟨rfl, HMD.out⟩
end Go.Proofs.YtpodeccpibnlbaaGreatDoor
