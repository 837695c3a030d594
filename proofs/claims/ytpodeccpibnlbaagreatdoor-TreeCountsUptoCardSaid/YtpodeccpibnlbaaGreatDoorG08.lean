/- stmt, walked. term, walked. block, and the closures on structs and enums, walked. function and Right, walked. -/
import Derived.Lib.SliceRun
import Derived.Test.YtpodeccpibnlbaaGreatDoorG07
import Derived.Test.YtpodeccpibnlbaaGreatDoorG04
import Derived.Test.YtpodeccpibnlbaaGreatDoorG06
namespace Go.Proofs.YtpodeccpibnlbaaGreatDoor
set_option linter.unusedVariables false
set_option linter.unusedSimpArgs false
open Go.RowKit
section
variable {S : Nat → Prop} {w0 : World}
set_option maxRecDepth 100000 in
set_option maxHeartbeats 2000000 in
theorem stmt_ans (hT : Tab w0) {v : Value} {s : Stm} (hv : stmV S w0 v s) : Ans 150 #[v] w0 (.bool (stmtI s)) := by
  intro w hw
  obtain ⟨h0, h1, h2, h3, h4, h5, ob, lenb, capb, oa, len, cap, rfl, k1, k2⟩ := hv
  obtain ⟨x, ok, hsh⟩ : ∃ x ok, stmtShapeI s.kind = (x, ok) := ⟨_, _, rfl⟩
  have HSH : Hd _ := ⟨hsh⟩
  obtain ⟨d, nu, nm, va, le, mo, bl⟩ := x
  have HS : Hd (∀ w', Mod (fun _ => False) w w' → Calls Tryz.prog 172 #[.int .i64 s.kind] w' _) := ⟨fun w' h' => (stmtShape_ans s.kind) w' (hw.trans h' (fun _ h => Or.inl h))⟩
  have HV : Hd (∀ w', Mod (fun _ => False) w w' → Calls Tryz.prog 173 #[.string s.variant, .bool va] w' _) := ⟨fun w' h' => (named_ans hT h4 va) w' (hw.trans h' (fun _ h => Or.inl h))⟩
  have HF : Hd (∀ w', Mod (fun _ => False) w w' → Calls Tryz.prog 174 #[.agg #[.bool d, .bool nu, .bool nm, .bool va, .int .i64 (le : Int), .int .i64 (mo : Int), .int .i64 (bl : Int)], .agg #[.string s.dest.loc, .slice ob lenb capb], .string s.name, .slice oa len cap] w' _) := ⟨fun w' h' => (fits_ans hT ⟨d, nu, nm, va, le, mo, bl⟩ (v := .agg #[.string s.dest.loc, .slice ob lenb capb]) (p := s.dest) ⟨h5, ob, lenb, capb, rfl, k1⟩ h3 k2) w' (hw.trans h' (fun _ h => Or.inl h))⟩
  rw [hsh] at HS
  unfold shpA at HS
  dsimp only at HS
  clear hsh
  obtain ⟨n, hn⟩ : ∃ n, s.n = n := ⟨_, rfl⟩
  have HN : Hd _ := ⟨hn⟩
  rw [hn]
  clear hn
  clear h0 h1 h2 h3 h4 h5 k1 k2 hT hw
  obtain ⟨r, hr⟩ : ∃ r, stmtI s = r := ⟨_, rfl⟩
  have HR : Hd _ := ⟨hr⟩
  rw [hr]
  clear hr
  obtain ⟨qv, hq⟩ : ∃ q, namedI s.variant va = q := ⟨_, rfl⟩
  rw [hq] at HV
  have Hqv : Hd _ := ⟨hq⟩
  clear hq
  obtain ⟨qf, hq⟩ : ∃ q, fitsI ⟨d, nu, nm, va, le, mo, bl⟩ s.dest s.name s.args = q := ⟨_, rfl⟩
  rw [hq] at HF
  have Hqf : Hd _ := ⟨hq⟩
  clear hq
  go_enter Tryz.func150, Tryz.ntmps150
  go_wp2_with fail
  refine (HS.out _ (by (first | exact Mod.alloc _ _ _))).mono ?_
  rintro e w1 ⟨rfl, hM⟩
  have HM1 : Hd (Mod (fun _ => False) w w1) := ⟨by refine Mod.trans ?_ hM (fun _ h => Or.inl h); (first | exact Mod.alloc _ _ _)⟩
  have hb : w1.heap[w.heap.size]? = some (.cells #[.int .i64 s.pos, .int .i64 s.kind, .string s.dest.loc, .slice ob lenb capb, .int .i64 n, .string s.name, .string s.variant, .slice oa len cap] 68) := (hM.block _ (lt1_0 _ _) (fun h => h)).trans (heap_new' _ _)
  have HB1_0 : Hd _ := ⟨hb⟩
  have c1_0_0 : w1.cell? ⟨w.heap.size, 0, none⟩ = some (.int .i64 s.pos) := by simp [World.cell?, hb]
  have c1_0_1 : w1.cell? ⟨w.heap.size, 1, none⟩ = some (.int .i64 s.kind) := by simp [World.cell?, hb]
  have c1_0_2 : w1.cell? ⟨w.heap.size, 2, none⟩ = some (.string s.dest.loc) := by simp [World.cell?, hb]
  have c1_0_3 : w1.cell? ⟨w.heap.size, 3, none⟩ = some (.slice ob lenb capb) := by simp [World.cell?, hb]
  have c1_0_4 : w1.cell? ⟨w.heap.size, 4, none⟩ = some (.int .i64 n) := by simp [World.cell?, hb]
  have c1_0_5 : w1.cell? ⟨w.heap.size, 5, none⟩ = some (.string s.name) := by simp [World.cell?, hb]
  have c1_0_6 : w1.cell? ⟨w.heap.size, 6, none⟩ = some (.string s.variant) := by simp [World.cell?, hb]
  have c1_0_7 : w1.cell? ⟨w.heap.size, 7, none⟩ = some (.slice oa len cap) := by simp [World.cell?, hb]
  clear hb
  clear hM
  have l1_0_0 : ∀ O, (w1.alloc O).cell? ⟨w.heap.size, 0, none⟩ = some (.int .i64 s.pos) := fun O => Lib.cell?_alloc_some O c1_0_0
  have l1_0_1 : ∀ O, (w1.alloc O).cell? ⟨w.heap.size, 1, none⟩ = some (.int .i64 s.kind) := fun O => Lib.cell?_alloc_some O c1_0_1
  have l1_0_2 : ∀ O, (w1.alloc O).cell? ⟨w.heap.size, 2, none⟩ = some (.string s.dest.loc) := fun O => Lib.cell?_alloc_some O c1_0_2
  have l1_0_3 : ∀ O, (w1.alloc O).cell? ⟨w.heap.size, 3, none⟩ = some (.slice ob lenb capb) := fun O => Lib.cell?_alloc_some O c1_0_3
  have l1_0_4 : ∀ O, (w1.alloc O).cell? ⟨w.heap.size, 4, none⟩ = some (.int .i64 n) := fun O => Lib.cell?_alloc_some O c1_0_4
  have l1_0_5 : ∀ O, (w1.alloc O).cell? ⟨w.heap.size, 5, none⟩ = some (.string s.name) := fun O => Lib.cell?_alloc_some O c1_0_5
  have l1_0_6 : ∀ O, (w1.alloc O).cell? ⟨w.heap.size, 6, none⟩ = some (.string s.variant) := fun O => Lib.cell?_alloc_some O c1_0_6
  have l1_0_7 : ∀ O, (w1.alloc O).cell? ⟨w.heap.size, 7, none⟩ = some (.slice oa len cap) := fun O => Lib.cell?_alloc_some O c1_0_7
  by_cases t0 : n = 0
  · have Ht0 : Hd _ := ⟨t0⟩
    have zt0 : ((n : Int) == 0) = true := by rw [t0]; simp
    clear t0
    cases ok with
    | true =>
      go_wp2_with fail
      refine (HV.out _ (by (first | exact HM1.out.trans (Mod.alloc _ _ _) (fun _ h => Or.inl h)))).mono ?_
      rintro e w2 ⟨rfl, hM⟩
      have HM2 : Hd (Mod (fun _ => False) w w2) := ⟨by refine Mod.trans ?_ hM (fun _ h => Or.inl h); (first | exact HM1.out.trans (Mod.alloc _ _ _) (fun _ h => Or.inl h))⟩
      have hb : w2.heap[w.heap.size]? = some (.cells #[.int .i64 s.pos, .int .i64 s.kind, .string s.dest.loc, .slice ob lenb capb, .int .i64 n, .string s.name, .string s.variant, .slice oa len cap] 68) := (hM.block _ (lt_alloc _ ((Array.getElem?_eq_some_iff.1 HB1_0.out).1)) (fun h => h)).trans ((Below.heap_alloc _ _ _ ((Array.getElem?_eq_some_iff.1 HB1_0.out).1)).trans HB1_0.out)
      have HB2_0 : Hd _ := ⟨hb⟩
      have c2_0_0 : w2.cell? ⟨w.heap.size, 0, none⟩ = some (.int .i64 s.pos) := by simp [World.cell?, hb]
      have c2_0_1 : w2.cell? ⟨w.heap.size, 1, none⟩ = some (.int .i64 s.kind) := by simp [World.cell?, hb]
      have c2_0_2 : w2.cell? ⟨w.heap.size, 2, none⟩ = some (.string s.dest.loc) := by simp [World.cell?, hb]
      have c2_0_3 : w2.cell? ⟨w.heap.size, 3, none⟩ = some (.slice ob lenb capb) := by simp [World.cell?, hb]
      have c2_0_4 : w2.cell? ⟨w.heap.size, 4, none⟩ = some (.int .i64 n) := by simp [World.cell?, hb]
      have c2_0_5 : w2.cell? ⟨w.heap.size, 5, none⟩ = some (.string s.name) := by simp [World.cell?, hb]
      have c2_0_6 : w2.cell? ⟨w.heap.size, 6, none⟩ = some (.string s.variant) := by simp [World.cell?, hb]
      have c2_0_7 : w2.cell? ⟨w.heap.size, 7, none⟩ = some (.slice oa len cap) := by simp [World.cell?, hb]
      clear hb
      clear c1_0_0 c1_0_1 c1_0_2 c1_0_3 c1_0_4 c1_0_5 c1_0_6 c1_0_7
      have hb : w2.heap[w1.heap.size]? = some (.cells #[.bool d, .bool nu, .bool nm, .bool va, .int .i64 (le : Int), .int .i64 (mo : Int), .int .i64 (bl : Int)] 187) := (hM.block _ (lt1_0 _ _) (fun h => h)).trans (heap_new' _ _)
      have HB2_1 : Hd _ := ⟨hb⟩
      have c2_1_0 : w2.cell? ⟨w1.heap.size, 0, none⟩ = some (.bool d) := by simp [World.cell?, hb]
      have c2_1_1 : w2.cell? ⟨w1.heap.size, 1, none⟩ = some (.bool nu) := by simp [World.cell?, hb]
      have c2_1_2 : w2.cell? ⟨w1.heap.size, 2, none⟩ = some (.bool nm) := by simp [World.cell?, hb]
      have c2_1_3 : w2.cell? ⟨w1.heap.size, 3, none⟩ = some (.bool va) := by simp [World.cell?, hb]
      have c2_1_4 : w2.cell? ⟨w1.heap.size, 4, none⟩ = some (.int .i64 (le : Int)) := by simp [World.cell?, hb]
      have c2_1_5 : w2.cell? ⟨w1.heap.size, 5, none⟩ = some (.int .i64 (mo : Int)) := by simp [World.cell?, hb]
      have c2_1_6 : w2.cell? ⟨w1.heap.size, 6, none⟩ = some (.int .i64 (bl : Int)) := by simp [World.cell?, hb]
      clear hb
      clear hM
      clear l1_0_0 l1_0_1 l1_0_2 l1_0_3 l1_0_4 l1_0_5 l1_0_6 l1_0_7
      cases qv with
      | true =>
        go_wp2_with fail
        refine (HF.out _ (by (first | exact HM2.out | exact Mod.refl _ _))).mono ?_
        rintro e w3 ⟨rfl, hM⟩
        have HM3 : Hd (Mod (fun _ => False) w w3) := ⟨by refine Mod.trans ?_ hM (fun _ h => Or.inl h); (first | exact HM2.out | exact Mod.refl _ _)⟩
        have hb : w3.heap[w.heap.size]? = some (.cells #[.int .i64 s.pos, .int .i64 s.kind, .string s.dest.loc, .slice ob lenb capb, .int .i64 n, .string s.name, .string s.variant, .slice oa len cap] 68) := (hM.block _ ((Array.getElem?_eq_some_iff.1 HB2_0.out).1) (fun h => h)).trans HB2_0.out
        have HB3_0 : Hd _ := ⟨hb⟩
        have c3_0_0 : w3.cell? ⟨w.heap.size, 0, none⟩ = some (.int .i64 s.pos) := by simp [World.cell?, hb]
        have c3_0_1 : w3.cell? ⟨w.heap.size, 1, none⟩ = some (.int .i64 s.kind) := by simp [World.cell?, hb]
        have c3_0_2 : w3.cell? ⟨w.heap.size, 2, none⟩ = some (.string s.dest.loc) := by simp [World.cell?, hb]
        have c3_0_3 : w3.cell? ⟨w.heap.size, 3, none⟩ = some (.slice ob lenb capb) := by simp [World.cell?, hb]
        have c3_0_4 : w3.cell? ⟨w.heap.size, 4, none⟩ = some (.int .i64 n) := by simp [World.cell?, hb]
        have c3_0_5 : w3.cell? ⟨w.heap.size, 5, none⟩ = some (.string s.name) := by simp [World.cell?, hb]
        have c3_0_6 : w3.cell? ⟨w.heap.size, 6, none⟩ = some (.string s.variant) := by simp [World.cell?, hb]
        have c3_0_7 : w3.cell? ⟨w.heap.size, 7, none⟩ = some (.slice oa len cap) := by simp [World.cell?, hb]
        clear hb
        clear c2_0_0 c2_0_1 c2_0_2 c2_0_3 c2_0_4 c2_0_5 c2_0_6 c2_0_7
        have hb : w3.heap[w1.heap.size]? = some (.cells #[.bool d, .bool nu, .bool nm, .bool va, .int .i64 (le : Int), .int .i64 (mo : Int), .int .i64 (bl : Int)] 187) := (hM.block _ ((Array.getElem?_eq_some_iff.1 HB2_1.out).1) (fun h => h)).trans HB2_1.out
        have HB3_1 : Hd _ := ⟨hb⟩
        have c3_1_0 : w3.cell? ⟨w1.heap.size, 0, none⟩ = some (.bool d) := by simp [World.cell?, hb]
        have c3_1_1 : w3.cell? ⟨w1.heap.size, 1, none⟩ = some (.bool nu) := by simp [World.cell?, hb]
        have c3_1_2 : w3.cell? ⟨w1.heap.size, 2, none⟩ = some (.bool nm) := by simp [World.cell?, hb]
        have c3_1_3 : w3.cell? ⟨w1.heap.size, 3, none⟩ = some (.bool va) := by simp [World.cell?, hb]
        have c3_1_4 : w3.cell? ⟨w1.heap.size, 4, none⟩ = some (.int .i64 (le : Int)) := by simp [World.cell?, hb]
        have c3_1_5 : w3.cell? ⟨w1.heap.size, 5, none⟩ = some (.int .i64 (mo : Int)) := by simp [World.cell?, hb]
        have c3_1_6 : w3.cell? ⟨w1.heap.size, 6, none⟩ = some (.int .i64 (bl : Int)) := by simp [World.cell?, hb]
        clear hb
        clear c2_1_0 c2_1_1 c2_1_2 c2_1_3 c2_1_4 c2_1_5 c2_1_6
        clear hM
        cases qf with
        | true =>
          go_wp2
          go_ret
          exact ⟨by rw [show r = true from by rw [← HR.out]; simp [stmtI, HSH.out, HN.out, Ht0.out, Hqv.out, Hqf.out]]; first | rfl | (simp; done) | (simp [HSH.out, HN.out, Ht0.out, Hqv.out, Hqf.out]; done), by (first | exact HM3.out | exact Mod.refl _ _)⟩
        | false =>
          go_wp2
          go_ret
          exact ⟨by rw [show r = false from by rw [← HR.out]; simp [stmtI, HSH.out, HN.out, Ht0.out, Hqv.out, Hqf.out]]; first | rfl | (simp; done) | (simp [HSH.out, HN.out, Ht0.out, Hqv.out, Hqf.out]; done), by (first | exact HM3.out | exact Mod.refl _ _)⟩
      | false =>
        go_wp2
        go_ret
        exact ⟨by rw [show r = false from by rw [← HR.out]; simp [stmtI, HSH.out, HN.out, Ht0.out, Hqv.out]]; first | rfl | (simp; done) | (simp [HSH.out, HN.out, Ht0.out, Hqv.out]; done), by (first | exact HM2.out | exact Mod.refl _ _)⟩
    | false =>
      go_wp2
      go_ret
      exact ⟨by rw [show r = false from by rw [← HR.out]; simp [stmtI, HSH.out, HN.out, Ht0.out]]; first | rfl | (simp; done) | (simp [HSH.out, HN.out, Ht0.out]; done), by (first | exact HM1.out.trans (Mod.alloc _ _ _) (fun _ h => Or.inl h))⟩
  · have Ht0 : Hd _ := ⟨t0⟩
    have zt0 : ((n : Int) == 0) = false := by rw [beq_eq_false_iff_ne]; omega
    clear t0
    cases nu with
    | true =>
      by_cases t1 : -1099511627776 ≤ n
      · have Ht1 : Hd _ := ⟨t1⟩
        by_cases t2 : n ≤ 1099511627776
        · have Ht2 : Hd _ := ⟨t2⟩
          cases ok with
          | true =>
            go_wp2_with fail
            refine (HV.out _ (by (first | exact HM1.out.trans (Mod.alloc _ _ _) (fun _ h => Or.inl h)))).mono ?_
            rintro e w2 ⟨rfl, hM⟩
            have HM2 : Hd (Mod (fun _ => False) w w2) := ⟨by refine Mod.trans ?_ hM (fun _ h => Or.inl h); (first | exact HM1.out.trans (Mod.alloc _ _ _) (fun _ h => Or.inl h))⟩
            have hb : w2.heap[w.heap.size]? = some (.cells #[.int .i64 s.pos, .int .i64 s.kind, .string s.dest.loc, .slice ob lenb capb, .int .i64 n, .string s.name, .string s.variant, .slice oa len cap] 68) := (hM.block _ (lt_alloc _ ((Array.getElem?_eq_some_iff.1 HB1_0.out).1)) (fun h => h)).trans ((Below.heap_alloc _ _ _ ((Array.getElem?_eq_some_iff.1 HB1_0.out).1)).trans HB1_0.out)
            have HB2_0 : Hd _ := ⟨hb⟩
            have c2_0_0 : w2.cell? ⟨w.heap.size, 0, none⟩ = some (.int .i64 s.pos) := by simp [World.cell?, hb]
            have c2_0_1 : w2.cell? ⟨w.heap.size, 1, none⟩ = some (.int .i64 s.kind) := by simp [World.cell?, hb]
            have c2_0_2 : w2.cell? ⟨w.heap.size, 2, none⟩ = some (.string s.dest.loc) := by simp [World.cell?, hb]
            have c2_0_3 : w2.cell? ⟨w.heap.size, 3, none⟩ = some (.slice ob lenb capb) := by simp [World.cell?, hb]
            have c2_0_4 : w2.cell? ⟨w.heap.size, 4, none⟩ = some (.int .i64 n) := by simp [World.cell?, hb]
            have c2_0_5 : w2.cell? ⟨w.heap.size, 5, none⟩ = some (.string s.name) := by simp [World.cell?, hb]
            have c2_0_6 : w2.cell? ⟨w.heap.size, 6, none⟩ = some (.string s.variant) := by simp [World.cell?, hb]
            have c2_0_7 : w2.cell? ⟨w.heap.size, 7, none⟩ = some (.slice oa len cap) := by simp [World.cell?, hb]
            clear hb
            clear c1_0_0 c1_0_1 c1_0_2 c1_0_3 c1_0_4 c1_0_5 c1_0_6 c1_0_7
            have hb : w2.heap[w1.heap.size]? = some (.cells #[.bool d, .bool true, .bool nm, .bool va, .int .i64 (le : Int), .int .i64 (mo : Int), .int .i64 (bl : Int)] 187) := (hM.block _ (lt1_0 _ _) (fun h => h)).trans (heap_new' _ _)
            have HB2_1 : Hd _ := ⟨hb⟩
            have c2_1_0 : w2.cell? ⟨w1.heap.size, 0, none⟩ = some (.bool d) := by simp [World.cell?, hb]
            have c2_1_1 : w2.cell? ⟨w1.heap.size, 1, none⟩ = some (.bool true) := by simp [World.cell?, hb]
            have c2_1_2 : w2.cell? ⟨w1.heap.size, 2, none⟩ = some (.bool nm) := by simp [World.cell?, hb]
            have c2_1_3 : w2.cell? ⟨w1.heap.size, 3, none⟩ = some (.bool va) := by simp [World.cell?, hb]
            have c2_1_4 : w2.cell? ⟨w1.heap.size, 4, none⟩ = some (.int .i64 (le : Int)) := by simp [World.cell?, hb]
            have c2_1_5 : w2.cell? ⟨w1.heap.size, 5, none⟩ = some (.int .i64 (mo : Int)) := by simp [World.cell?, hb]
            have c2_1_6 : w2.cell? ⟨w1.heap.size, 6, none⟩ = some (.int .i64 (bl : Int)) := by simp [World.cell?, hb]
            clear hb
            clear hM
            clear l1_0_0 l1_0_1 l1_0_2 l1_0_3 l1_0_4 l1_0_5 l1_0_6 l1_0_7
            cases qv with
            | true =>
              go_wp2_with fail
              refine (HF.out _ (by (first | exact HM2.out | exact Mod.refl _ _))).mono ?_
              rintro e w3 ⟨rfl, hM⟩
              have HM3 : Hd (Mod (fun _ => False) w w3) := ⟨by refine Mod.trans ?_ hM (fun _ h => Or.inl h); (first | exact HM2.out | exact Mod.refl _ _)⟩
              have hb : w3.heap[w.heap.size]? = some (.cells #[.int .i64 s.pos, .int .i64 s.kind, .string s.dest.loc, .slice ob lenb capb, .int .i64 n, .string s.name, .string s.variant, .slice oa len cap] 68) := (hM.block _ ((Array.getElem?_eq_some_iff.1 HB2_0.out).1) (fun h => h)).trans HB2_0.out
              have HB3_0 : Hd _ := ⟨hb⟩
              have c3_0_0 : w3.cell? ⟨w.heap.size, 0, none⟩ = some (.int .i64 s.pos) := by simp [World.cell?, hb]
              have c3_0_1 : w3.cell? ⟨w.heap.size, 1, none⟩ = some (.int .i64 s.kind) := by simp [World.cell?, hb]
              have c3_0_2 : w3.cell? ⟨w.heap.size, 2, none⟩ = some (.string s.dest.loc) := by simp [World.cell?, hb]
              have c3_0_3 : w3.cell? ⟨w.heap.size, 3, none⟩ = some (.slice ob lenb capb) := by simp [World.cell?, hb]
              have c3_0_4 : w3.cell? ⟨w.heap.size, 4, none⟩ = some (.int .i64 n) := by simp [World.cell?, hb]
              have c3_0_5 : w3.cell? ⟨w.heap.size, 5, none⟩ = some (.string s.name) := by simp [World.cell?, hb]
              have c3_0_6 : w3.cell? ⟨w.heap.size, 6, none⟩ = some (.string s.variant) := by simp [World.cell?, hb]
              have c3_0_7 : w3.cell? ⟨w.heap.size, 7, none⟩ = some (.slice oa len cap) := by simp [World.cell?, hb]
              clear hb
              clear c2_0_0 c2_0_1 c2_0_2 c2_0_3 c2_0_4 c2_0_5 c2_0_6 c2_0_7
              have hb : w3.heap[w1.heap.size]? = some (.cells #[.bool d, .bool true, .bool nm, .bool va, .int .i64 (le : Int), .int .i64 (mo : Int), .int .i64 (bl : Int)] 187) := (hM.block _ ((Array.getElem?_eq_some_iff.1 HB2_1.out).1) (fun h => h)).trans HB2_1.out
              have HB3_1 : Hd _ := ⟨hb⟩
              have c3_1_0 : w3.cell? ⟨w1.heap.size, 0, none⟩ = some (.bool d) := by simp [World.cell?, hb]
              have c3_1_1 : w3.cell? ⟨w1.heap.size, 1, none⟩ = some (.bool true) := by simp [World.cell?, hb]
              have c3_1_2 : w3.cell? ⟨w1.heap.size, 2, none⟩ = some (.bool nm) := by simp [World.cell?, hb]
              have c3_1_3 : w3.cell? ⟨w1.heap.size, 3, none⟩ = some (.bool va) := by simp [World.cell?, hb]
              have c3_1_4 : w3.cell? ⟨w1.heap.size, 4, none⟩ = some (.int .i64 (le : Int)) := by simp [World.cell?, hb]
              have c3_1_5 : w3.cell? ⟨w1.heap.size, 5, none⟩ = some (.int .i64 (mo : Int)) := by simp [World.cell?, hb]
              have c3_1_6 : w3.cell? ⟨w1.heap.size, 6, none⟩ = some (.int .i64 (bl : Int)) := by simp [World.cell?, hb]
              clear hb
              clear c2_1_0 c2_1_1 c2_1_2 c2_1_3 c2_1_4 c2_1_5 c2_1_6
              clear hM
              cases qf with
              | true =>
                go_wp2
                go_ret
                exact ⟨by rw [show r = true from by rw [← HR.out]; simp [stmtI, HSH.out, HN.out, Ht0.out, Ht1.out, Ht2.out, Hqv.out, Hqf.out]]; first | rfl | (simp; done) | (simp [HSH.out, HN.out, Ht0.out, Ht1.out, Ht2.out, Hqv.out, Hqf.out]; done), by (first | exact HM3.out | exact Mod.refl _ _)⟩
              | false =>
                go_wp2
                go_ret
                exact ⟨by rw [show r = false from by rw [← HR.out]; simp [stmtI, HSH.out, HN.out, Ht0.out, Ht1.out, Ht2.out, Hqv.out, Hqf.out]]; first | rfl | (simp; done) | (simp [HSH.out, HN.out, Ht0.out, Ht1.out, Ht2.out, Hqv.out, Hqf.out]; done), by (first | exact HM3.out | exact Mod.refl _ _)⟩
            | false =>
              go_wp2
              go_ret
              exact ⟨by rw [show r = false from by rw [← HR.out]; simp [stmtI, HSH.out, HN.out, Ht0.out, Ht1.out, Ht2.out, Hqv.out]]; first | rfl | (simp; done) | (simp [HSH.out, HN.out, Ht0.out, Ht1.out, Ht2.out, Hqv.out]; done), by (first | exact HM2.out | exact Mod.refl _ _)⟩
          | false =>
            go_wp2
            go_ret
            exact ⟨by rw [show r = false from by rw [← HR.out]; simp [stmtI, HSH.out, HN.out, Ht0.out, Ht1.out, Ht2.out]]; first | rfl | (simp; done) | (simp [HSH.out, HN.out, Ht0.out, Ht1.out, Ht2.out]; done), by (first | exact HM1.out.trans (Mod.alloc _ _ _) (fun _ h => Or.inl h))⟩
        · have Ht2 : Hd _ := ⟨t2⟩
          cases ok with
          | true =>
            go_wp2
            go_ret
            exact ⟨by rw [show r = false from by rw [← HR.out]; simp [stmtI, HSH.out, HN.out, Ht0.out, Ht1.out, (decide_eq_false (show ¬ (n ≤ 1099511627776) from by have := Ht2.out; omega))]]; first | rfl | (simp; done) | (simp [HSH.out, HN.out, Ht0.out, Ht1.out, (decide_eq_false (show ¬ (n ≤ 1099511627776) from by have := Ht2.out; omega))]; done), by (first | exact HM1.out.trans (Mod.alloc _ _ _) (fun _ h => Or.inl h))⟩
          | false =>
            go_wp2
            go_ret
            exact ⟨by rw [show r = false from by rw [← HR.out]; simp [stmtI, HSH.out, HN.out, Ht0.out, Ht1.out, (decide_eq_false (show ¬ (n ≤ 1099511627776) from by have := Ht2.out; omega))]]; first | rfl | (simp; done) | (simp [HSH.out, HN.out, Ht0.out, Ht1.out, (decide_eq_false (show ¬ (n ≤ 1099511627776) from by have := Ht2.out; omega))]; done), by (first | exact HM1.out.trans (Mod.alloc _ _ _) (fun _ h => Or.inl h))⟩
      · have Ht1 : Hd _ := ⟨t1⟩
        cases ok with
        | true =>
          go_wp2
          go_ret
          exact ⟨by rw [show r = false from by rw [← HR.out]; simp [stmtI, HSH.out, HN.out, Ht0.out, (decide_eq_false (show ¬ (-1099511627776 ≤ n) from by have := Ht1.out; omega))]]; first | rfl | (simp; done) | (simp [HSH.out, HN.out, Ht0.out, (decide_eq_false (show ¬ (-1099511627776 ≤ n) from by have := Ht1.out; omega))]; done), by (first | exact HM1.out.trans (Mod.alloc _ _ _) (fun _ h => Or.inl h))⟩
        | false =>
          go_wp2
          go_ret
          exact ⟨by rw [show r = false from by rw [← HR.out]; simp [stmtI, HSH.out, HN.out, Ht0.out, (decide_eq_false (show ¬ (-1099511627776 ≤ n) from by have := Ht1.out; omega))]]; first | rfl | (simp; done) | (simp [HSH.out, HN.out, Ht0.out, (decide_eq_false (show ¬ (-1099511627776 ≤ n) from by have := Ht1.out; omega))]; done), by (first | exact HM1.out.trans (Mod.alloc _ _ _) (fun _ h => Or.inl h))⟩
    | false =>
      cases ok with
      | true =>
        go_wp2
        go_ret
        exact ⟨by rw [show r = false from by rw [← HR.out]; simp [stmtI, HSH.out, HN.out, Ht0.out]]; first | rfl | (simp; done) | (simp [HSH.out, HN.out, Ht0.out]; done), by (first | exact HM1.out.trans (Mod.alloc _ _ _) (fun _ h => Or.inl h))⟩
      | false =>
        go_wp2
        go_ret
        exact ⟨by rw [show r = false from by rw [← HR.out]; simp [stmtI, HSH.out, HN.out, Ht0.out]]; first | rfl | (simp; done) | (simp [HSH.out, HN.out, Ht0.out]; done), by (first | exact HM1.out.trans (Mod.alloc _ _ _) (fun _ h => Or.inl h))⟩
end
end Go.Proofs.YtpodeccpibnlbaaGreatDoor
namespace Go.Proofs.YtpodeccpibnlbaaGreatDoor
set_option linter.unusedVariables false
set_option linter.unusedSimpArgs false
open Go.RowKit
section
variable {S : Nat → Prop} {w0 : World}
set_option maxRecDepth 100000 in
set_option maxHeartbeats 2000000 in
theorem term_ans (hT : Tab w0) {v : Value} {s : Trm} (hv : trmV S w0 v s) : Ans 151 #[v] w0 (.bool (termI s)) := by
  intro w hw
  obtain ⟨h0, h1, h3, h5, ob, lenb, capb, oa, len, cap, oc, lenc, capc, od, lend, capd, rfl, k1, k2, k3, k4⟩ := hv
  have hlen3 := k3.hlen
  have hlen4 := k4.hlen
  have hbig3 := k3.hbig
  have hbig4 := k4.hbig
  subst hlen3
  subst hlen4
  obtain ⟨x, ok, hsh⟩ : ∃ x ok, termShapeI s.kind = (x, ok) := ⟨_, _, rfl⟩
  have HSH : Hd _ := ⟨hsh⟩
  obtain ⟨d, nu, nm, va, le, mo, bl⟩ := x
  have HS : Hd (∀ w', Mod (fun _ => False) w w' → Calls Tryz.prog 175 #[.int .i64 s.kind] w' _) := ⟨fun w' h' => (termShape_ans s.kind) w' (hw.trans h' (fun _ h => Or.inl h))⟩
  have HA : Hd (∀ w', Mod (fun _ => False) w w' → Calls Tryz.prog 176 #[.slice od s.arms.length capd, .func (.func 177) #[] #[]] w' _) := ⟨fun w' h' => (all_arm k4 armI 177 fn_177 (fun v x hv _ => arm_ans hT hv)) w' (hw.trans h' (fun _ h => Or.inl h))⟩
  have HB : Hd (∀ w', Mod (fun _ => False) w w' → Calls Tryz.prog 86 #[.slice oc s.blocks.length capc, .func (.func 44) #[] #[]] w' _) := ⟨fun w' h' => (all_str k3 (fun s => isName (lst s)) 44 fn_44 (fun v x hv _ => by obtain ⟨rfl, hs⟩ := hv; exact name_ans hT hs)) w' (hw.trans h' (fun _ h => Or.inl h))⟩
  have HF : Hd (∀ w', Mod (fun _ => False) w w' → Calls Tryz.prog 174 #[.agg #[.bool d, .bool nu, .bool nm, .bool va, .int .i64 (le : Int), .int .i64 (mo : Int), .int .i64 (bl : Int)], .agg #[.string s.dest.loc, .slice ob lenb capb], .string s.name, .slice oa len cap] w' _) := ⟨fun w' h' => (fits_ans hT ⟨d, nu, nm, va, le, mo, bl⟩ (v := .agg #[.string s.dest.loc, .slice ob lenb capb]) (p := s.dest) ⟨h5, ob, lenb, capb, rfl, k1⟩ h3 k2) w' (hw.trans h' (fun _ h => Or.inl h))⟩
  rw [hsh] at HS
  unfold shpA at HS
  dsimp only at HS
  clear hsh
  obtain ⟨kn, hn⟩ : ∃ n, s.kind = n := ⟨_, rfl⟩
  have HN : Hd _ := ⟨hn⟩
  rw [hn]
  rw [hn] at HS
  clear hn
  clear h0 h1 h3 h5 k1 k2 k3 k4 hT hw
  obtain ⟨r, hr⟩ : ∃ r, termI s = r := ⟨_, rfl⟩
  have HR : Hd _ := ⟨hr⟩
  rw [hr]
  clear hr
  obtain ⟨qa, hq⟩ : ∃ q, s.arms.all armI = q := ⟨_, rfl⟩
  rw [hq] at HA
  have Hqa : Hd _ := ⟨hq⟩
  clear hq
  obtain ⟨qb, hq⟩ : ∃ q, s.blocks.all (fun s => isName (lst s)) = q := ⟨_, rfl⟩
  rw [hq] at HB
  have Hqb : Hd _ := ⟨hq⟩
  clear hq
  obtain ⟨qf, hq⟩ : ∃ q, fitsI ⟨d, nu, nm, va, le, mo, bl⟩ s.dest s.name s.args = q := ⟨_, rfl⟩
  rw [hq] at HF
  have Hqf : Hd _ := ⟨hq⟩
  clear hq
  go_enter Tryz.func151, Tryz.ntmps151
  go_wp2_with fail
  refine (HS.out _ (by (first | exact Mod.alloc _ _ _))).mono ?_
  rintro e w1 ⟨rfl, hM⟩
  have HM1 : Hd (Mod (fun _ => False) w w1) := ⟨by refine Mod.trans ?_ hM (fun _ h => Or.inl h); (first | exact Mod.alloc _ _ _)⟩
  have hb : w1.heap[w.heap.size]? = some (.cells #[.int .i64 s.pos, .int .i64 kn, .string s.dest.loc, .slice ob lenb capb, .string s.name, .slice oa len cap, .slice oc s.blocks.length capc, .slice od s.arms.length capd] 61) := (hM.block _ (lt1_0 _ _) (fun h => h)).trans (heap_new' _ _)
  have HB1_0 : Hd _ := ⟨hb⟩
  have c1_0_0 : w1.cell? ⟨w.heap.size, 0, none⟩ = some (.int .i64 s.pos) := by simp [World.cell?, hb]
  have c1_0_1 : w1.cell? ⟨w.heap.size, 1, none⟩ = some (.int .i64 kn) := by simp [World.cell?, hb]
  have c1_0_2 : w1.cell? ⟨w.heap.size, 2, none⟩ = some (.string s.dest.loc) := by simp [World.cell?, hb]
  have c1_0_3 : w1.cell? ⟨w.heap.size, 3, none⟩ = some (.slice ob lenb capb) := by simp [World.cell?, hb]
  have c1_0_4 : w1.cell? ⟨w.heap.size, 4, none⟩ = some (.string s.name) := by simp [World.cell?, hb]
  have c1_0_5 : w1.cell? ⟨w.heap.size, 5, none⟩ = some (.slice oa len cap) := by simp [World.cell?, hb]
  have c1_0_6 : w1.cell? ⟨w.heap.size, 6, none⟩ = some (.slice oc s.blocks.length capc) := by simp [World.cell?, hb]
  have c1_0_7 : w1.cell? ⟨w.heap.size, 7, none⟩ = some (.slice od s.arms.length capd) := by simp [World.cell?, hb]
  clear hb
  clear hM
  have l1_0_0 : ∀ O, (w1.alloc O).cell? ⟨w.heap.size, 0, none⟩ = some (.int .i64 s.pos) := fun O => Lib.cell?_alloc_some O c1_0_0
  have l1_0_1 : ∀ O, (w1.alloc O).cell? ⟨w.heap.size, 1, none⟩ = some (.int .i64 kn) := fun O => Lib.cell?_alloc_some O c1_0_1
  have l1_0_2 : ∀ O, (w1.alloc O).cell? ⟨w.heap.size, 2, none⟩ = some (.string s.dest.loc) := fun O => Lib.cell?_alloc_some O c1_0_2
  have l1_0_3 : ∀ O, (w1.alloc O).cell? ⟨w.heap.size, 3, none⟩ = some (.slice ob lenb capb) := fun O => Lib.cell?_alloc_some O c1_0_3
  have l1_0_4 : ∀ O, (w1.alloc O).cell? ⟨w.heap.size, 4, none⟩ = some (.string s.name) := fun O => Lib.cell?_alloc_some O c1_0_4
  have l1_0_5 : ∀ O, (w1.alloc O).cell? ⟨w.heap.size, 5, none⟩ = some (.slice oa len cap) := fun O => Lib.cell?_alloc_some O c1_0_5
  have l1_0_6 : ∀ O, (w1.alloc O).cell? ⟨w.heap.size, 6, none⟩ = some (.slice oc s.blocks.length capc) := fun O => Lib.cell?_alloc_some O c1_0_6
  have l1_0_7 : ∀ O, (w1.alloc O).cell? ⟨w.heap.size, 7, none⟩ = some (.slice od s.arms.length capd) := fun O => Lib.cell?_alloc_some O c1_0_7
  by_cases t0 : kn = 3
  · have Ht0 : Hd _ := ⟨t0⟩
    have zt0 : ((kn : Int) == 3) = true := by rw [t0]; simp
    clear t0
    by_cases t1 : 1 ≤ s.arms.length
    · have Ht1 : Hd _ := ⟨t1⟩
      by_cases t2 : s.arms.length ≤ 16
      · have Ht2 : Hd _ := ⟨t2⟩
        cases ok with
        | true =>
          go_wp2_with fail
          refine (HA.out _ (by (first | exact HM1.out.trans (Mod.alloc _ _ _) (fun _ h => Or.inl h)))).mono ?_
          rintro e w2 ⟨rfl, hM⟩
          have HM2 : Hd (Mod (fun _ => False) w w2) := ⟨by refine Mod.trans ?_ hM (fun _ h => Or.inl h); (first | exact HM1.out.trans (Mod.alloc _ _ _) (fun _ h => Or.inl h))⟩
          have hb : w2.heap[w.heap.size]? = some (.cells #[.int .i64 s.pos, .int .i64 kn, .string s.dest.loc, .slice ob lenb capb, .string s.name, .slice oa len cap, .slice oc s.blocks.length capc, .slice od s.arms.length capd] 61) := (hM.block _ (lt_alloc _ ((Array.getElem?_eq_some_iff.1 HB1_0.out).1)) (fun h => h)).trans ((Below.heap_alloc _ _ _ ((Array.getElem?_eq_some_iff.1 HB1_0.out).1)).trans HB1_0.out)
          have HB2_0 : Hd _ := ⟨hb⟩
          have c2_0_0 : w2.cell? ⟨w.heap.size, 0, none⟩ = some (.int .i64 s.pos) := by simp [World.cell?, hb]
          have c2_0_1 : w2.cell? ⟨w.heap.size, 1, none⟩ = some (.int .i64 kn) := by simp [World.cell?, hb]
          have c2_0_2 : w2.cell? ⟨w.heap.size, 2, none⟩ = some (.string s.dest.loc) := by simp [World.cell?, hb]
          have c2_0_3 : w2.cell? ⟨w.heap.size, 3, none⟩ = some (.slice ob lenb capb) := by simp [World.cell?, hb]
          have c2_0_4 : w2.cell? ⟨w.heap.size, 4, none⟩ = some (.string s.name) := by simp [World.cell?, hb]
          have c2_0_5 : w2.cell? ⟨w.heap.size, 5, none⟩ = some (.slice oa len cap) := by simp [World.cell?, hb]
          have c2_0_6 : w2.cell? ⟨w.heap.size, 6, none⟩ = some (.slice oc s.blocks.length capc) := by simp [World.cell?, hb]
          have c2_0_7 : w2.cell? ⟨w.heap.size, 7, none⟩ = some (.slice od s.arms.length capd) := by simp [World.cell?, hb]
          clear hb
          clear c1_0_0 c1_0_1 c1_0_2 c1_0_3 c1_0_4 c1_0_5 c1_0_6 c1_0_7
          have hb : w2.heap[w1.heap.size]? = some (.cells #[.bool d, .bool nu, .bool nm, .bool va, .int .i64 (le : Int), .int .i64 (mo : Int), .int .i64 (bl : Int)] 187) := (hM.block _ (lt1_0 _ _) (fun h => h)).trans (heap_new' _ _)
          have HB2_1 : Hd _ := ⟨hb⟩
          have c2_1_0 : w2.cell? ⟨w1.heap.size, 0, none⟩ = some (.bool d) := by simp [World.cell?, hb]
          have c2_1_1 : w2.cell? ⟨w1.heap.size, 1, none⟩ = some (.bool nu) := by simp [World.cell?, hb]
          have c2_1_2 : w2.cell? ⟨w1.heap.size, 2, none⟩ = some (.bool nm) := by simp [World.cell?, hb]
          have c2_1_3 : w2.cell? ⟨w1.heap.size, 3, none⟩ = some (.bool va) := by simp [World.cell?, hb]
          have c2_1_4 : w2.cell? ⟨w1.heap.size, 4, none⟩ = some (.int .i64 (le : Int)) := by simp [World.cell?, hb]
          have c2_1_5 : w2.cell? ⟨w1.heap.size, 5, none⟩ = some (.int .i64 (mo : Int)) := by simp [World.cell?, hb]
          have c2_1_6 : w2.cell? ⟨w1.heap.size, 6, none⟩ = some (.int .i64 (bl : Int)) := by simp [World.cell?, hb]
          clear hb
          clear hM
          clear l1_0_0 l1_0_1 l1_0_2 l1_0_3 l1_0_4 l1_0_5 l1_0_6 l1_0_7
          cases qa with
          | true =>
            by_cases t4 : s.blocks.length = bl
            · have Ht4 : Hd _ := ⟨t4⟩
              have zt4 : ((s.blocks.length : Int) == bl) = true := by rw [t4]; simp
              clear t4
              go_wp2_with fail
              refine (HB.out _ (by (first | exact HM2.out | exact Mod.refl _ _))).mono ?_
              rintro e w3 ⟨rfl, hM⟩
              have HM3 : Hd (Mod (fun _ => False) w w3) := ⟨by refine Mod.trans ?_ hM (fun _ h => Or.inl h); (first | exact HM2.out | exact Mod.refl _ _)⟩
              have hb : w3.heap[w.heap.size]? = some (.cells #[.int .i64 s.pos, .int .i64 kn, .string s.dest.loc, .slice ob lenb capb, .string s.name, .slice oa len cap, .slice oc s.blocks.length capc, .slice od s.arms.length capd] 61) := (hM.block _ ((Array.getElem?_eq_some_iff.1 HB2_0.out).1) (fun h => h)).trans HB2_0.out
              have HB3_0 : Hd _ := ⟨hb⟩
              have c3_0_0 : w3.cell? ⟨w.heap.size, 0, none⟩ = some (.int .i64 s.pos) := by simp [World.cell?, hb]
              have c3_0_1 : w3.cell? ⟨w.heap.size, 1, none⟩ = some (.int .i64 kn) := by simp [World.cell?, hb]
              have c3_0_2 : w3.cell? ⟨w.heap.size, 2, none⟩ = some (.string s.dest.loc) := by simp [World.cell?, hb]
              have c3_0_3 : w3.cell? ⟨w.heap.size, 3, none⟩ = some (.slice ob lenb capb) := by simp [World.cell?, hb]
              have c3_0_4 : w3.cell? ⟨w.heap.size, 4, none⟩ = some (.string s.name) := by simp [World.cell?, hb]
              have c3_0_5 : w3.cell? ⟨w.heap.size, 5, none⟩ = some (.slice oa len cap) := by simp [World.cell?, hb]
              have c3_0_6 : w3.cell? ⟨w.heap.size, 6, none⟩ = some (.slice oc s.blocks.length capc) := by simp [World.cell?, hb]
              have c3_0_7 : w3.cell? ⟨w.heap.size, 7, none⟩ = some (.slice od s.arms.length capd) := by simp [World.cell?, hb]
              clear hb
              clear c2_0_0 c2_0_1 c2_0_2 c2_0_3 c2_0_4 c2_0_5 c2_0_6 c2_0_7
              have hb : w3.heap[w1.heap.size]? = some (.cells #[.bool d, .bool nu, .bool nm, .bool va, .int .i64 (le : Int), .int .i64 (mo : Int), .int .i64 (bl : Int)] 187) := (hM.block _ ((Array.getElem?_eq_some_iff.1 HB2_1.out).1) (fun h => h)).trans HB2_1.out
              have HB3_1 : Hd _ := ⟨hb⟩
              have c3_1_0 : w3.cell? ⟨w1.heap.size, 0, none⟩ = some (.bool d) := by simp [World.cell?, hb]
              have c3_1_1 : w3.cell? ⟨w1.heap.size, 1, none⟩ = some (.bool nu) := by simp [World.cell?, hb]
              have c3_1_2 : w3.cell? ⟨w1.heap.size, 2, none⟩ = some (.bool nm) := by simp [World.cell?, hb]
              have c3_1_3 : w3.cell? ⟨w1.heap.size, 3, none⟩ = some (.bool va) := by simp [World.cell?, hb]
              have c3_1_4 : w3.cell? ⟨w1.heap.size, 4, none⟩ = some (.int .i64 (le : Int)) := by simp [World.cell?, hb]
              have c3_1_5 : w3.cell? ⟨w1.heap.size, 5, none⟩ = some (.int .i64 (mo : Int)) := by simp [World.cell?, hb]
              have c3_1_6 : w3.cell? ⟨w1.heap.size, 6, none⟩ = some (.int .i64 (bl : Int)) := by simp [World.cell?, hb]
              clear hb
              clear c2_1_0 c2_1_1 c2_1_2 c2_1_3 c2_1_4 c2_1_5 c2_1_6
              clear hM
              cases qb with
              | true =>
                go_wp2_with fail
                refine (HF.out _ (by (first | exact HM3.out | exact Mod.refl _ _))).mono ?_
                rintro e w4 ⟨rfl, hM⟩
                have HM4 : Hd (Mod (fun _ => False) w w4) := ⟨by refine Mod.trans ?_ hM (fun _ h => Or.inl h); (first | exact HM3.out | exact Mod.refl _ _)⟩
                have hb : w4.heap[w.heap.size]? = some (.cells #[.int .i64 s.pos, .int .i64 kn, .string s.dest.loc, .slice ob lenb capb, .string s.name, .slice oa len cap, .slice oc s.blocks.length capc, .slice od s.arms.length capd] 61) := (hM.block _ ((Array.getElem?_eq_some_iff.1 HB3_0.out).1) (fun h => h)).trans HB3_0.out
                have HB4_0 : Hd _ := ⟨hb⟩
                have c4_0_0 : w4.cell? ⟨w.heap.size, 0, none⟩ = some (.int .i64 s.pos) := by simp [World.cell?, hb]
                have c4_0_1 : w4.cell? ⟨w.heap.size, 1, none⟩ = some (.int .i64 kn) := by simp [World.cell?, hb]
                have c4_0_2 : w4.cell? ⟨w.heap.size, 2, none⟩ = some (.string s.dest.loc) := by simp [World.cell?, hb]
                have c4_0_3 : w4.cell? ⟨w.heap.size, 3, none⟩ = some (.slice ob lenb capb) := by simp [World.cell?, hb]
                have c4_0_4 : w4.cell? ⟨w.heap.size, 4, none⟩ = some (.string s.name) := by simp [World.cell?, hb]
                have c4_0_5 : w4.cell? ⟨w.heap.size, 5, none⟩ = some (.slice oa len cap) := by simp [World.cell?, hb]
                have c4_0_6 : w4.cell? ⟨w.heap.size, 6, none⟩ = some (.slice oc s.blocks.length capc) := by simp [World.cell?, hb]
                have c4_0_7 : w4.cell? ⟨w.heap.size, 7, none⟩ = some (.slice od s.arms.length capd) := by simp [World.cell?, hb]
                clear hb
                clear c3_0_0 c3_0_1 c3_0_2 c3_0_3 c3_0_4 c3_0_5 c3_0_6 c3_0_7
                have hb : w4.heap[w1.heap.size]? = some (.cells #[.bool d, .bool nu, .bool nm, .bool va, .int .i64 (le : Int), .int .i64 (mo : Int), .int .i64 (bl : Int)] 187) := (hM.block _ ((Array.getElem?_eq_some_iff.1 HB3_1.out).1) (fun h => h)).trans HB3_1.out
                have HB4_1 : Hd _ := ⟨hb⟩
                have c4_1_0 : w4.cell? ⟨w1.heap.size, 0, none⟩ = some (.bool d) := by simp [World.cell?, hb]
                have c4_1_1 : w4.cell? ⟨w1.heap.size, 1, none⟩ = some (.bool nu) := by simp [World.cell?, hb]
                have c4_1_2 : w4.cell? ⟨w1.heap.size, 2, none⟩ = some (.bool nm) := by simp [World.cell?, hb]
                have c4_1_3 : w4.cell? ⟨w1.heap.size, 3, none⟩ = some (.bool va) := by simp [World.cell?, hb]
                have c4_1_4 : w4.cell? ⟨w1.heap.size, 4, none⟩ = some (.int .i64 (le : Int)) := by simp [World.cell?, hb]
                have c4_1_5 : w4.cell? ⟨w1.heap.size, 5, none⟩ = some (.int .i64 (mo : Int)) := by simp [World.cell?, hb]
                have c4_1_6 : w4.cell? ⟨w1.heap.size, 6, none⟩ = some (.int .i64 (bl : Int)) := by simp [World.cell?, hb]
                clear hb
                clear c3_1_0 c3_1_1 c3_1_2 c3_1_3 c3_1_4 c3_1_5 c3_1_6
                clear hM
                cases qf with
                | true =>
                  go_wp2
                  go_ret
                  exact ⟨by rw [show r = true from by rw [← HR.out]; simp only [termI, HSH.out]; simp [HN.out, Ht0.out, Ht1.out, Ht2.out, Hqa.out, Ht4.out, Hqb.out, Hqf.out]]; first | rfl | (simp; done) | (simp [HSH.out, HN.out, Ht0.out, Ht1.out, Ht2.out, Hqa.out, Ht4.out, Hqb.out, Hqf.out]; done), by (first | exact HM4.out | exact Mod.refl _ _)⟩
                | false =>
                  go_wp2
                  go_ret
                  exact ⟨by rw [show r = false from by rw [← HR.out]; simp only [termI, HSH.out]; simp [HN.out, Ht0.out, Ht1.out, Ht2.out, Hqa.out, Ht4.out, Hqb.out, Hqf.out]]; first | rfl | (simp; done) | (simp [HSH.out, HN.out, Ht0.out, Ht1.out, Ht2.out, Hqa.out, Ht4.out, Hqb.out, Hqf.out]; done), by (first | exact HM4.out | exact Mod.refl _ _)⟩
              | false =>
                go_wp2
                go_ret
                exact ⟨by rw [show r = false from by rw [← HR.out]; simp only [termI, HSH.out]; simp [HN.out, Ht0.out, Ht1.out, Ht2.out, Hqa.out, Ht4.out, Hqb.out]]; first | rfl | (simp; done) | (simp [HSH.out, HN.out, Ht0.out, Ht1.out, Ht2.out, Hqa.out, Ht4.out, Hqb.out]; done), by (first | exact HM3.out | exact Mod.refl _ _)⟩
            · have Ht4 : Hd _ := ⟨t4⟩
              have zt4 : ((s.blocks.length : Int) == bl) = false := by rw [beq_eq_false_iff_ne]; omega
              clear t4
              go_wp2
              go_ret
              exact ⟨by rw [show r = false from by rw [← HR.out]; simp only [termI, HSH.out]; simp [HN.out, Ht0.out, Ht1.out, Ht2.out, Hqa.out, Ht4.out]]; first | rfl | (simp; done) | (simp [HSH.out, HN.out, Ht0.out, Ht1.out, Ht2.out, Hqa.out, Ht4.out]; done), by (first | exact HM2.out | exact Mod.refl _ _)⟩
          | false =>
            go_wp2
            go_ret
            exact ⟨by rw [show r = false from by rw [← HR.out]; simp only [termI, HSH.out]; simp [HN.out, Ht0.out, Ht1.out, Ht2.out, Hqa.out]]; first | rfl | (simp; done) | (simp [HSH.out, HN.out, Ht0.out, Ht1.out, Ht2.out, Hqa.out]; done), by (first | exact HM2.out | exact Mod.refl _ _)⟩
        | false =>
          go_wp2
          go_ret
          exact ⟨by rw [show r = false from by rw [← HR.out]; simp only [termI, HSH.out]; simp [HN.out, Ht0.out, Ht1.out, Ht2.out]]; first | rfl | (simp; done) | (simp [HSH.out, HN.out, Ht0.out, Ht1.out, Ht2.out]; done), by (first | exact HM1.out.trans (Mod.alloc _ _ _) (fun _ h => Or.inl h))⟩
      · have Ht2 : Hd _ := ⟨t2⟩
        cases ok with
        | true =>
          go_wp2
          go_ret
          exact ⟨by rw [show r = false from by rw [← HR.out]; simp only [termI, HSH.out]; simp [HN.out, Ht0.out, Ht1.out, (decide_eq_false (show ¬ (s.arms.length ≤ 16) from by have := Ht2.out; omega))]]; first | rfl | (simp; done) | (simp [HSH.out, HN.out, Ht0.out, Ht1.out, (decide_eq_false (show ¬ (s.arms.length ≤ 16) from by have := Ht2.out; omega))]; done), by (first | exact HM1.out.trans (Mod.alloc _ _ _) (fun _ h => Or.inl h))⟩
        | false =>
          go_wp2
          go_ret
          exact ⟨by rw [show r = false from by rw [← HR.out]; simp only [termI, HSH.out]; simp [HN.out, Ht0.out, Ht1.out, (decide_eq_false (show ¬ (s.arms.length ≤ 16) from by have := Ht2.out; omega))]]; first | rfl | (simp; done) | (simp [HSH.out, HN.out, Ht0.out, Ht1.out, (decide_eq_false (show ¬ (s.arms.length ≤ 16) from by have := Ht2.out; omega))]; done), by (first | exact HM1.out.trans (Mod.alloc _ _ _) (fun _ h => Or.inl h))⟩
    · have Ht1 : Hd _ := ⟨t1⟩
      cases ok with
      | true =>
        go_wp2
        go_ret
        exact ⟨by rw [show r = false from by rw [← HR.out]; simp only [termI, HSH.out]; simp [HN.out, Ht0.out, (decide_eq_false (show ¬ (1 ≤ s.arms.length) from by have := Ht1.out; omega))]]; first | rfl | (simp; done) | (simp [HSH.out, HN.out, Ht0.out, (decide_eq_false (show ¬ (1 ≤ s.arms.length) from by have := Ht1.out; omega))]; done), by (first | exact HM1.out.trans (Mod.alloc _ _ _) (fun _ h => Or.inl h))⟩
      | false =>
        go_wp2
        go_ret
        exact ⟨by rw [show r = false from by rw [← HR.out]; simp only [termI, HSH.out]; simp [HN.out, Ht0.out, (decide_eq_false (show ¬ (1 ≤ s.arms.length) from by have := Ht1.out; omega))]]; first | rfl | (simp; done) | (simp [HSH.out, HN.out, Ht0.out, (decide_eq_false (show ¬ (1 ≤ s.arms.length) from by have := Ht1.out; omega))]; done), by (first | exact HM1.out.trans (Mod.alloc _ _ _) (fun _ h => Or.inl h))⟩
  · have Ht0 : Hd _ := ⟨t0⟩
    have zt0 : ((kn : Int) == 3) = false := by rw [beq_eq_false_iff_ne]; omega
    clear t0
    by_cases t3 : s.arms.length = 0
    · have Ht3 : Hd _ := ⟨t3⟩
      have zt3 : ((s.arms.length : Int) == 0) = true := by rw [t3]; simp
      clear t3
      cases ok with
      | true =>
        go_wp2_with fail
        refine (HA.out _ (by (first | exact HM1.out.trans (Mod.alloc _ _ _) (fun _ h => Or.inl h)))).mono ?_
        rintro e w2 ⟨rfl, hM⟩
        have HM2 : Hd (Mod (fun _ => False) w w2) := ⟨by refine Mod.trans ?_ hM (fun _ h => Or.inl h); (first | exact HM1.out.trans (Mod.alloc _ _ _) (fun _ h => Or.inl h))⟩
        have hb : w2.heap[w.heap.size]? = some (.cells #[.int .i64 s.pos, .int .i64 kn, .string s.dest.loc, .slice ob lenb capb, .string s.name, .slice oa len cap, .slice oc s.blocks.length capc, .slice od s.arms.length capd] 61) := (hM.block _ (lt_alloc _ ((Array.getElem?_eq_some_iff.1 HB1_0.out).1)) (fun h => h)).trans ((Below.heap_alloc _ _ _ ((Array.getElem?_eq_some_iff.1 HB1_0.out).1)).trans HB1_0.out)
        have HB2_0 : Hd _ := ⟨hb⟩
        have c2_0_0 : w2.cell? ⟨w.heap.size, 0, none⟩ = some (.int .i64 s.pos) := by simp [World.cell?, hb]
        have c2_0_1 : w2.cell? ⟨w.heap.size, 1, none⟩ = some (.int .i64 kn) := by simp [World.cell?, hb]
        have c2_0_2 : w2.cell? ⟨w.heap.size, 2, none⟩ = some (.string s.dest.loc) := by simp [World.cell?, hb]
        have c2_0_3 : w2.cell? ⟨w.heap.size, 3, none⟩ = some (.slice ob lenb capb) := by simp [World.cell?, hb]
        have c2_0_4 : w2.cell? ⟨w.heap.size, 4, none⟩ = some (.string s.name) := by simp [World.cell?, hb]
        have c2_0_5 : w2.cell? ⟨w.heap.size, 5, none⟩ = some (.slice oa len cap) := by simp [World.cell?, hb]
        have c2_0_6 : w2.cell? ⟨w.heap.size, 6, none⟩ = some (.slice oc s.blocks.length capc) := by simp [World.cell?, hb]
        have c2_0_7 : w2.cell? ⟨w.heap.size, 7, none⟩ = some (.slice od s.arms.length capd) := by simp [World.cell?, hb]
        clear hb
        clear c1_0_0 c1_0_1 c1_0_2 c1_0_3 c1_0_4 c1_0_5 c1_0_6 c1_0_7
        have hb : w2.heap[w1.heap.size]? = some (.cells #[.bool d, .bool nu, .bool nm, .bool va, .int .i64 (le : Int), .int .i64 (mo : Int), .int .i64 (bl : Int)] 187) := (hM.block _ (lt1_0 _ _) (fun h => h)).trans (heap_new' _ _)
        have HB2_1 : Hd _ := ⟨hb⟩
        have c2_1_0 : w2.cell? ⟨w1.heap.size, 0, none⟩ = some (.bool d) := by simp [World.cell?, hb]
        have c2_1_1 : w2.cell? ⟨w1.heap.size, 1, none⟩ = some (.bool nu) := by simp [World.cell?, hb]
        have c2_1_2 : w2.cell? ⟨w1.heap.size, 2, none⟩ = some (.bool nm) := by simp [World.cell?, hb]
        have c2_1_3 : w2.cell? ⟨w1.heap.size, 3, none⟩ = some (.bool va) := by simp [World.cell?, hb]
        have c2_1_4 : w2.cell? ⟨w1.heap.size, 4, none⟩ = some (.int .i64 (le : Int)) := by simp [World.cell?, hb]
        have c2_1_5 : w2.cell? ⟨w1.heap.size, 5, none⟩ = some (.int .i64 (mo : Int)) := by simp [World.cell?, hb]
        have c2_1_6 : w2.cell? ⟨w1.heap.size, 6, none⟩ = some (.int .i64 (bl : Int)) := by simp [World.cell?, hb]
        clear hb
        clear hM
        clear l1_0_0 l1_0_1 l1_0_2 l1_0_3 l1_0_4 l1_0_5 l1_0_6 l1_0_7
        cases qa with
        | true =>
          by_cases t4 : s.blocks.length = bl
          · have Ht4 : Hd _ := ⟨t4⟩
            have zt4 : ((s.blocks.length : Int) == bl) = true := by rw [t4]; simp
            clear t4
            go_wp2_with fail
            refine (HB.out _ (by (first | exact HM2.out | exact Mod.refl _ _))).mono ?_
            rintro e w3 ⟨rfl, hM⟩
            have HM3 : Hd (Mod (fun _ => False) w w3) := ⟨by refine Mod.trans ?_ hM (fun _ h => Or.inl h); (first | exact HM2.out | exact Mod.refl _ _)⟩
            have hb : w3.heap[w.heap.size]? = some (.cells #[.int .i64 s.pos, .int .i64 kn, .string s.dest.loc, .slice ob lenb capb, .string s.name, .slice oa len cap, .slice oc s.blocks.length capc, .slice od s.arms.length capd] 61) := (hM.block _ ((Array.getElem?_eq_some_iff.1 HB2_0.out).1) (fun h => h)).trans HB2_0.out
            have HB3_0 : Hd _ := ⟨hb⟩
            have c3_0_0 : w3.cell? ⟨w.heap.size, 0, none⟩ = some (.int .i64 s.pos) := by simp [World.cell?, hb]
            have c3_0_1 : w3.cell? ⟨w.heap.size, 1, none⟩ = some (.int .i64 kn) := by simp [World.cell?, hb]
            have c3_0_2 : w3.cell? ⟨w.heap.size, 2, none⟩ = some (.string s.dest.loc) := by simp [World.cell?, hb]
            have c3_0_3 : w3.cell? ⟨w.heap.size, 3, none⟩ = some (.slice ob lenb capb) := by simp [World.cell?, hb]
            have c3_0_4 : w3.cell? ⟨w.heap.size, 4, none⟩ = some (.string s.name) := by simp [World.cell?, hb]
            have c3_0_5 : w3.cell? ⟨w.heap.size, 5, none⟩ = some (.slice oa len cap) := by simp [World.cell?, hb]
            have c3_0_6 : w3.cell? ⟨w.heap.size, 6, none⟩ = some (.slice oc s.blocks.length capc) := by simp [World.cell?, hb]
            have c3_0_7 : w3.cell? ⟨w.heap.size, 7, none⟩ = some (.slice od s.arms.length capd) := by simp [World.cell?, hb]
            clear hb
            clear c2_0_0 c2_0_1 c2_0_2 c2_0_3 c2_0_4 c2_0_5 c2_0_6 c2_0_7
            have hb : w3.heap[w1.heap.size]? = some (.cells #[.bool d, .bool nu, .bool nm, .bool va, .int .i64 (le : Int), .int .i64 (mo : Int), .int .i64 (bl : Int)] 187) := (hM.block _ ((Array.getElem?_eq_some_iff.1 HB2_1.out).1) (fun h => h)).trans HB2_1.out
            have HB3_1 : Hd _ := ⟨hb⟩
            have c3_1_0 : w3.cell? ⟨w1.heap.size, 0, none⟩ = some (.bool d) := by simp [World.cell?, hb]
            have c3_1_1 : w3.cell? ⟨w1.heap.size, 1, none⟩ = some (.bool nu) := by simp [World.cell?, hb]
            have c3_1_2 : w3.cell? ⟨w1.heap.size, 2, none⟩ = some (.bool nm) := by simp [World.cell?, hb]
            have c3_1_3 : w3.cell? ⟨w1.heap.size, 3, none⟩ = some (.bool va) := by simp [World.cell?, hb]
            have c3_1_4 : w3.cell? ⟨w1.heap.size, 4, none⟩ = some (.int .i64 (le : Int)) := by simp [World.cell?, hb]
            have c3_1_5 : w3.cell? ⟨w1.heap.size, 5, none⟩ = some (.int .i64 (mo : Int)) := by simp [World.cell?, hb]
            have c3_1_6 : w3.cell? ⟨w1.heap.size, 6, none⟩ = some (.int .i64 (bl : Int)) := by simp [World.cell?, hb]
            clear hb
            clear c2_1_0 c2_1_1 c2_1_2 c2_1_3 c2_1_4 c2_1_5 c2_1_6
            clear hM
            cases qb with
            | true =>
              go_wp2_with fail
              refine (HF.out _ (by (first | exact HM3.out | exact Mod.refl _ _))).mono ?_
              rintro e w4 ⟨rfl, hM⟩
              have HM4 : Hd (Mod (fun _ => False) w w4) := ⟨by refine Mod.trans ?_ hM (fun _ h => Or.inl h); (first | exact HM3.out | exact Mod.refl _ _)⟩
              have hb : w4.heap[w.heap.size]? = some (.cells #[.int .i64 s.pos, .int .i64 kn, .string s.dest.loc, .slice ob lenb capb, .string s.name, .slice oa len cap, .slice oc s.blocks.length capc, .slice od s.arms.length capd] 61) := (hM.block _ ((Array.getElem?_eq_some_iff.1 HB3_0.out).1) (fun h => h)).trans HB3_0.out
              have HB4_0 : Hd _ := ⟨hb⟩
              have c4_0_0 : w4.cell? ⟨w.heap.size, 0, none⟩ = some (.int .i64 s.pos) := by simp [World.cell?, hb]
              have c4_0_1 : w4.cell? ⟨w.heap.size, 1, none⟩ = some (.int .i64 kn) := by simp [World.cell?, hb]
              have c4_0_2 : w4.cell? ⟨w.heap.size, 2, none⟩ = some (.string s.dest.loc) := by simp [World.cell?, hb]
              have c4_0_3 : w4.cell? ⟨w.heap.size, 3, none⟩ = some (.slice ob lenb capb) := by simp [World.cell?, hb]
              have c4_0_4 : w4.cell? ⟨w.heap.size, 4, none⟩ = some (.string s.name) := by simp [World.cell?, hb]
              have c4_0_5 : w4.cell? ⟨w.heap.size, 5, none⟩ = some (.slice oa len cap) := by simp [World.cell?, hb]
              have c4_0_6 : w4.cell? ⟨w.heap.size, 6, none⟩ = some (.slice oc s.blocks.length capc) := by simp [World.cell?, hb]
              have c4_0_7 : w4.cell? ⟨w.heap.size, 7, none⟩ = some (.slice od s.arms.length capd) := by simp [World.cell?, hb]
              clear hb
              clear c3_0_0 c3_0_1 c3_0_2 c3_0_3 c3_0_4 c3_0_5 c3_0_6 c3_0_7
              have hb : w4.heap[w1.heap.size]? = some (.cells #[.bool d, .bool nu, .bool nm, .bool va, .int .i64 (le : Int), .int .i64 (mo : Int), .int .i64 (bl : Int)] 187) := (hM.block _ ((Array.getElem?_eq_some_iff.1 HB3_1.out).1) (fun h => h)).trans HB3_1.out
              have HB4_1 : Hd _ := ⟨hb⟩
              have c4_1_0 : w4.cell? ⟨w1.heap.size, 0, none⟩ = some (.bool d) := by simp [World.cell?, hb]
              have c4_1_1 : w4.cell? ⟨w1.heap.size, 1, none⟩ = some (.bool nu) := by simp [World.cell?, hb]
              have c4_1_2 : w4.cell? ⟨w1.heap.size, 2, none⟩ = some (.bool nm) := by simp [World.cell?, hb]
              have c4_1_3 : w4.cell? ⟨w1.heap.size, 3, none⟩ = some (.bool va) := by simp [World.cell?, hb]
              have c4_1_4 : w4.cell? ⟨w1.heap.size, 4, none⟩ = some (.int .i64 (le : Int)) := by simp [World.cell?, hb]
              have c4_1_5 : w4.cell? ⟨w1.heap.size, 5, none⟩ = some (.int .i64 (mo : Int)) := by simp [World.cell?, hb]
              have c4_1_6 : w4.cell? ⟨w1.heap.size, 6, none⟩ = some (.int .i64 (bl : Int)) := by simp [World.cell?, hb]
              clear hb
              clear c3_1_0 c3_1_1 c3_1_2 c3_1_3 c3_1_4 c3_1_5 c3_1_6
              clear hM
              cases qf with
              | true =>
                go_wp2
                go_ret
                exact ⟨by rw [show r = true from by rw [← HR.out]; simp only [termI, HSH.out]; simp [HN.out, Ht0.out, Ht3.out, Hqa.out, Ht4.out, Hqb.out, Hqf.out]]; first | rfl | (simp; done) | (simp [HSH.out, HN.out, Ht0.out, Ht3.out, Hqa.out, Ht4.out, Hqb.out, Hqf.out]; done), by (first | exact HM4.out | exact Mod.refl _ _)⟩
              | false =>
                go_wp2
                go_ret
                exact ⟨by rw [show r = false from by rw [← HR.out]; simp only [termI, HSH.out]; simp [HN.out, Ht0.out, Ht3.out, Hqa.out, Ht4.out, Hqb.out, Hqf.out]]; first | rfl | (simp; done) | (simp [HSH.out, HN.out, Ht0.out, Ht3.out, Hqa.out, Ht4.out, Hqb.out, Hqf.out]; done), by (first | exact HM4.out | exact Mod.refl _ _)⟩
            | false =>
              go_wp2
              go_ret
              exact ⟨by rw [show r = false from by rw [← HR.out]; simp only [termI, HSH.out]; simp [HN.out, Ht0.out, Ht3.out, Hqa.out, Ht4.out, Hqb.out]]; first | rfl | (simp; done) | (simp [HSH.out, HN.out, Ht0.out, Ht3.out, Hqa.out, Ht4.out, Hqb.out]; done), by (first | exact HM3.out | exact Mod.refl _ _)⟩
          · have Ht4 : Hd _ := ⟨t4⟩
            have zt4 : ((s.blocks.length : Int) == bl) = false := by rw [beq_eq_false_iff_ne]; omega
            clear t4
            go_wp2
            go_ret
            exact ⟨by rw [show r = false from by rw [← HR.out]; simp only [termI, HSH.out]; simp [HN.out, Ht0.out, Ht3.out, Hqa.out, Ht4.out]]; first | rfl | (simp; done) | (simp [HSH.out, HN.out, Ht0.out, Ht3.out, Hqa.out, Ht4.out]; done), by (first | exact HM2.out | exact Mod.refl _ _)⟩
        | false =>
          go_wp2
          go_ret
          exact ⟨by rw [show r = false from by rw [← HR.out]; simp only [termI, HSH.out]; simp [HN.out, Ht0.out, Ht3.out, Hqa.out]]; first | rfl | (simp; done) | (simp [HSH.out, HN.out, Ht0.out, Ht3.out, Hqa.out]; done), by (first | exact HM2.out | exact Mod.refl _ _)⟩
      | false =>
        go_wp2
        go_ret
        exact ⟨by rw [show r = false from by rw [← HR.out]; simp only [termI, HSH.out]; simp [HN.out, Ht0.out, Ht3.out]]; first | rfl | (simp; done) | (simp [HSH.out, HN.out, Ht0.out, Ht3.out]; done), by (first | exact HM1.out.trans (Mod.alloc _ _ _) (fun _ h => Or.inl h))⟩
    · have Ht3 : Hd _ := ⟨t3⟩
      have zt3 : ((s.arms.length : Int) == 0) = false := by rw [beq_eq_false_iff_ne]; omega
      clear t3
      cases ok with
      | true =>
        go_wp2
        go_ret
        exact ⟨by rw [show r = false from by rw [← HR.out]; simp only [termI, HSH.out]; simp [HN.out, Ht0.out, Ht3.out]]; first | rfl | (simp; done) | (simp [HSH.out, HN.out, Ht0.out, Ht3.out]; done), by (first | exact HM1.out.trans (Mod.alloc _ _ _) (fun _ h => Or.inl h))⟩
      | false =>
        go_wp2
        go_ret
        exact ⟨by rw [show r = false from by rw [← HR.out]; simp only [termI, HSH.out]; simp [HN.out, Ht0.out, Ht3.out]]; first | rfl | (simp; done) | (simp [HSH.out, HN.out, Ht0.out, Ht3.out]; done), by (first | exact HM1.out.trans (Mod.alloc _ _ _) (fun _ h => Or.inl h))⟩
end
end Go.Proofs.YtpodeccpibnlbaaGreatDoor
namespace Go.Proofs.YtpodeccpibnlbaaGreatDoor
set_option linter.unusedVariables false
set_option linter.unusedSimpArgs false
open Go.RowKit
section
variable {S : Nat → Prop} {w0 : World}
theorem fn_150 : Fn 150 := fn_of Tryz.func150 (by decide +kernel) (by kernel_rfl)
theorem fn_107 : Fn 107 := fn_of Tryz.func107 (by decide +kernel) (by kernel_rfl)
set_option maxRecDepth 100000 in
set_option maxHeartbeats 2000000 in
theorem block_ans (hT : Tab w0) {v : Value} {s : Blk} (hv : blkV S w0 v s) : Ans 107 #[v] w0 (.bool (blockI s)) := by
  intro w hw
  obtain ⟨h0, h1, oa, len, cap, ob, lb, cb, oc, lc, cc, od, ld, cd, oe, le, ce, rfl, k1, k2⟩ := hv
  have hlen := k1.hlen
  have hbig := k1.hbig
  subst hlen
  have HN : Hd (∀ w', Mod (fun _ => False) w w' → Calls Tryz.prog 44 #[.string s.name] w' _) := ⟨fun w' h' => (name_ans hT h1) w' (hw.trans h' (fun _ h => Or.inl h))⟩
  have HA : Hd (∀ w', Mod (fun _ => False) w w' → Calls Tryz.prog 149 #[.slice oa s.stmts.length cap, .func (.func 150) #[] #[]] w' _) := ⟨fun w' h' => (all_stm k1 stmtI 150 fn_150 (fun v x hv _ => stmt_ans hT hv)) w' (hw.trans h' (fun _ h => Or.inl h))⟩
  have HF : Hd (∀ w', Mod (fun _ => False) w w' → Calls Tryz.prog 151 #[.agg #[.int .i64 s.term.pos, .int .i64 s.term.kind, .string s.term.dest.loc, .slice ob lb cb, .string s.term.name, .slice oc lc cc, .slice od ld cd, .slice oe le ce]] w' _) := ⟨fun w' h' => (term_ans hT k2) w' (hw.trans h' (fun _ h => Or.inl h))⟩
  clear h0 h1 k1 k2 hT hw
  obtain ⟨r, hr⟩ : ∃ r, blockI s = r := ⟨_, rfl⟩
  have HR : Hd _ := ⟨hr⟩
  rw [hr]
  clear hr
  obtain ⟨q0, hq⟩ : ∃ q, isName (lst s.name) = q := ⟨_, rfl⟩
  rw [hq] at HN
  have Hq0 : Hd _ := ⟨hq⟩
  clear hq
  obtain ⟨q1, hq⟩ : ∃ q, s.stmts.all stmtI = q := ⟨_, rfl⟩
  rw [hq] at HA
  have Hq1 : Hd _ := ⟨hq⟩
  clear hq
  obtain ⟨q2, hq⟩ : ∃ q, termI s.term = q := ⟨_, rfl⟩
  rw [hq] at HF
  have Hq2 : Hd _ := ⟨hq⟩
  clear hq
  go_enter Tryz.func107, Tryz.ntmps107
  go_wp2_with fail
  refine (HN.out _ (by (first | exact Mod.alloc _ _ _))).mono ?_
  rintro e w1 ⟨rfl, hM⟩
  have HM1 : Hd (Mod (fun _ => False) w w1) := ⟨by refine Mod.trans ?_ hM (fun _ h => Or.inl h); (first | exact Mod.alloc _ _ _)⟩
  have hb : w1.heap[w.heap.size]? = some (.cells #[.int .i64 s.pos, .string s.name, .slice oa s.stmts.length cap, .int .i64 s.term.pos, .int .i64 s.term.kind, .string s.term.dest.loc, .slice ob lb cb, .string s.term.name, .slice oc lc cc, .slice od ld cd, .slice oe le ce] 64) := (hM.block _ (lt1_0 _ _) (fun h => h)).trans (heap_new' _ _)
  have HB1_0 : Hd _ := ⟨hb⟩
  have c1_0_0 : w1.cell? ⟨w.heap.size, 0, none⟩ = some (.int .i64 s.pos) := by simp [World.cell?, hb]
  have c1_0_1 : w1.cell? ⟨w.heap.size, 1, none⟩ = some (.string s.name) := by simp [World.cell?, hb]
  have c1_0_2 : w1.cell? ⟨w.heap.size, 2, none⟩ = some (.slice oa s.stmts.length cap) := by simp [World.cell?, hb]
  have c1_0_3 : w1.cell? ⟨w.heap.size, 3, none⟩ = some (.int .i64 s.term.pos) := by simp [World.cell?, hb]
  have c1_0_4 : w1.cell? ⟨w.heap.size, 4, none⟩ = some (.int .i64 s.term.kind) := by simp [World.cell?, hb]
  have c1_0_5 : w1.cell? ⟨w.heap.size, 5, none⟩ = some (.string s.term.dest.loc) := by simp [World.cell?, hb]
  have c1_0_6 : w1.cell? ⟨w.heap.size, 6, none⟩ = some (.slice ob lb cb) := by simp [World.cell?, hb]
  have c1_0_7 : w1.cell? ⟨w.heap.size, 7, none⟩ = some (.string s.term.name) := by simp [World.cell?, hb]
  have c1_0_8 : w1.cell? ⟨w.heap.size, 8, none⟩ = some (.slice oc lc cc) := by simp [World.cell?, hb]
  have c1_0_9 : w1.cell? ⟨w.heap.size, 9, none⟩ = some (.slice od ld cd) := by simp [World.cell?, hb]
  have c1_0_10 : w1.cell? ⟨w.heap.size, 10, none⟩ = some (.slice oe le ce) := by simp [World.cell?, hb]
  clear hb
  clear hM
  cases q0 with
  | true =>
    by_cases t0 : s.stmts.length ≤ 64
    · have Ht0 : Hd _ := ⟨t0⟩
      go_wp2_with fail
      refine (HA.out _ (by (first | exact HM1.out | exact Mod.refl _ _))).mono ?_
      rintro e w2 ⟨rfl, hM⟩
      have HM2 : Hd (Mod (fun _ => False) w w2) := ⟨by refine Mod.trans ?_ hM (fun _ h => Or.inl h); (first | exact HM1.out | exact Mod.refl _ _)⟩
      have hb : w2.heap[w.heap.size]? = some (.cells #[.int .i64 s.pos, .string s.name, .slice oa s.stmts.length cap, .int .i64 s.term.pos, .int .i64 s.term.kind, .string s.term.dest.loc, .slice ob lb cb, .string s.term.name, .slice oc lc cc, .slice od ld cd, .slice oe le ce] 64) := (hM.block _ ((Array.getElem?_eq_some_iff.1 HB1_0.out).1) (fun h => h)).trans HB1_0.out
      have HB2_0 : Hd _ := ⟨hb⟩
      have c2_0_0 : w2.cell? ⟨w.heap.size, 0, none⟩ = some (.int .i64 s.pos) := by simp [World.cell?, hb]
      have c2_0_1 : w2.cell? ⟨w.heap.size, 1, none⟩ = some (.string s.name) := by simp [World.cell?, hb]
      have c2_0_2 : w2.cell? ⟨w.heap.size, 2, none⟩ = some (.slice oa s.stmts.length cap) := by simp [World.cell?, hb]
      have c2_0_3 : w2.cell? ⟨w.heap.size, 3, none⟩ = some (.int .i64 s.term.pos) := by simp [World.cell?, hb]
      have c2_0_4 : w2.cell? ⟨w.heap.size, 4, none⟩ = some (.int .i64 s.term.kind) := by simp [World.cell?, hb]
      have c2_0_5 : w2.cell? ⟨w.heap.size, 5, none⟩ = some (.string s.term.dest.loc) := by simp [World.cell?, hb]
      have c2_0_6 : w2.cell? ⟨w.heap.size, 6, none⟩ = some (.slice ob lb cb) := by simp [World.cell?, hb]
      have c2_0_7 : w2.cell? ⟨w.heap.size, 7, none⟩ = some (.string s.term.name) := by simp [World.cell?, hb]
      have c2_0_8 : w2.cell? ⟨w.heap.size, 8, none⟩ = some (.slice oc lc cc) := by simp [World.cell?, hb]
      have c2_0_9 : w2.cell? ⟨w.heap.size, 9, none⟩ = some (.slice od ld cd) := by simp [World.cell?, hb]
      have c2_0_10 : w2.cell? ⟨w.heap.size, 10, none⟩ = some (.slice oe le ce) := by simp [World.cell?, hb]
      clear hb
      clear c1_0_0 c1_0_1 c1_0_2 c1_0_3 c1_0_4 c1_0_5 c1_0_6 c1_0_7 c1_0_8 c1_0_9 c1_0_10
      clear hM
      cases q1 with
      | true =>
        go_wp2_with fail
        refine (HF.out _ (by (first | exact HM2.out | exact Mod.refl _ _))).mono ?_
        rintro e w3 ⟨rfl, hM⟩
        have HM3 : Hd (Mod (fun _ => False) w w3) := ⟨by refine Mod.trans ?_ hM (fun _ h => Or.inl h); (first | exact HM2.out | exact Mod.refl _ _)⟩
        have hb : w3.heap[w.heap.size]? = some (.cells #[.int .i64 s.pos, .string s.name, .slice oa s.stmts.length cap, .int .i64 s.term.pos, .int .i64 s.term.kind, .string s.term.dest.loc, .slice ob lb cb, .string s.term.name, .slice oc lc cc, .slice od ld cd, .slice oe le ce] 64) := (hM.block _ ((Array.getElem?_eq_some_iff.1 HB2_0.out).1) (fun h => h)).trans HB2_0.out
        have HB3_0 : Hd _ := ⟨hb⟩
        have c3_0_0 : w3.cell? ⟨w.heap.size, 0, none⟩ = some (.int .i64 s.pos) := by simp [World.cell?, hb]
        have c3_0_1 : w3.cell? ⟨w.heap.size, 1, none⟩ = some (.string s.name) := by simp [World.cell?, hb]
        have c3_0_2 : w3.cell? ⟨w.heap.size, 2, none⟩ = some (.slice oa s.stmts.length cap) := by simp [World.cell?, hb]
        have c3_0_3 : w3.cell? ⟨w.heap.size, 3, none⟩ = some (.int .i64 s.term.pos) := by simp [World.cell?, hb]
        have c3_0_4 : w3.cell? ⟨w.heap.size, 4, none⟩ = some (.int .i64 s.term.kind) := by simp [World.cell?, hb]
        have c3_0_5 : w3.cell? ⟨w.heap.size, 5, none⟩ = some (.string s.term.dest.loc) := by simp [World.cell?, hb]
        have c3_0_6 : w3.cell? ⟨w.heap.size, 6, none⟩ = some (.slice ob lb cb) := by simp [World.cell?, hb]
        have c3_0_7 : w3.cell? ⟨w.heap.size, 7, none⟩ = some (.string s.term.name) := by simp [World.cell?, hb]
        have c3_0_8 : w3.cell? ⟨w.heap.size, 8, none⟩ = some (.slice oc lc cc) := by simp [World.cell?, hb]
        have c3_0_9 : w3.cell? ⟨w.heap.size, 9, none⟩ = some (.slice od ld cd) := by simp [World.cell?, hb]
        have c3_0_10 : w3.cell? ⟨w.heap.size, 10, none⟩ = some (.slice oe le ce) := by simp [World.cell?, hb]
        clear hb
        clear c2_0_0 c2_0_1 c2_0_2 c2_0_3 c2_0_4 c2_0_5 c2_0_6 c2_0_7 c2_0_8 c2_0_9 c2_0_10
        clear hM
        cases q2 with
        | true =>
          go_wp2
          go_ret
          exact ⟨by rw [show r = true from by rw [← HR.out]; simp [blockI, Hq0.out, Ht0.out, Hq1.out, Hq2.out]]; first | rfl | (simp; done) | (simp [Hq0.out, Ht0.out, Hq1.out, Hq2.out]; done), by (first | exact HM3.out | exact Mod.refl _ _)⟩
        | false =>
          go_wp2
          go_ret
          exact ⟨by rw [show r = false from by rw [← HR.out]; simp [blockI, Hq0.out, Ht0.out, Hq1.out, Hq2.out]]; first | rfl | (simp; done) | (simp [Hq0.out, Ht0.out, Hq1.out, Hq2.out]; done), by (first | exact HM3.out | exact Mod.refl _ _)⟩
      | false =>
        go_wp2
        go_ret
        exact ⟨by rw [show r = false from by rw [← HR.out]; simp [blockI, Hq0.out, Ht0.out, Hq1.out]]; first | rfl | (simp; done) | (simp [Hq0.out, Ht0.out, Hq1.out]; done), by (first | exact HM2.out | exact Mod.refl _ _)⟩
    · have Ht0 : Hd _ := ⟨t0⟩
      go_wp2
      go_ret
      exact ⟨by rw [show r = false from by rw [← HR.out]; simp [blockI, Hq0.out, (decide_eq_false (show ¬ (s.stmts.length ≤ 64) from by have := Ht0.out; omega))]]; first | rfl | (simp; done) | (simp [Hq0.out, (decide_eq_false (show ¬ (s.stmts.length ≤ 64) from by have := Ht0.out; omega))]; done), by (first | exact HM1.out | exact Mod.refl _ _)⟩
  | false =>
    go_wp2
    go_ret
    exact ⟨by rw [show r = false from by rw [← HR.out]; simp [blockI, Hq0.out]]; first | rfl | (simp; done) | (simp [Hq0.out]; done), by (first | exact HM1.out | exact Mod.refl _ _)⟩
set_option maxRecDepth 100000 in
set_option maxHeartbeats 2000000 in
theorem struct_ans (hT : Tab w0) {v : Value} {s : Sct} (hv : sctV S w0 v s) : Ans 43 #[v] w0 (.bool (structI s)) := by
  intro w hw
  obtain ⟨h0, h1, oa, len, cap, rfl, k1⟩ := hv
  have hlen := k1.hlen
  have hbig := k1.hbig
  subst hlen
  have HN : Hd (∀ w', Mod (fun _ => False) w w' → Calls Tryz.prog 44 #[.string s.name] w' _) := ⟨fun w' h' => (name_ans hT h1) w' (hw.trans h' (fun _ h => Or.inl h))⟩
  have HA : Hd (∀ w', Mod (fun _ => False) w w' → Calls Tryz.prog 45 #[.slice oa s.fields.length cap, .func (.func 46) #[] #[]] w' _) := ⟨fun w' h' => (all_vr k1 fieldI 46 fn_46 (fun v x hv _ => field_ans hT hv)) w' (hw.trans h' (fun _ h => Or.inl h))⟩
  clear h0 h1 k1 hT hw
  obtain ⟨r, hr⟩ : ∃ r, structI s = r := ⟨_, rfl⟩
  have HR : Hd _ := ⟨hr⟩
  rw [hr]
  clear hr
  obtain ⟨q0, hq⟩ : ∃ q, isName (lst s.name) = q := ⟨_, rfl⟩
  rw [hq] at HN
  have Hq0 : Hd _ := ⟨hq⟩
  clear hq
  obtain ⟨q1, hq⟩ : ∃ q, s.fields.all fieldI = q := ⟨_, rfl⟩
  rw [hq] at HA
  have Hq1 : Hd _ := ⟨hq⟩
  clear hq
  go_enter Tryz.func43, Tryz.ntmps43
  go_wp2_with fail
  refine (HN.out _ (by (first | exact Mod.alloc _ _ _))).mono ?_
  rintro e w1 ⟨rfl, hM⟩
  have HM1 : Hd (Mod (fun _ => False) w w1) := ⟨by refine Mod.trans ?_ hM (fun _ h => Or.inl h); (first | exact Mod.alloc _ _ _)⟩
  have hb : w1.heap[w.heap.size]? = some (.cells #[.int .i64 s.pos, .string s.name, .bool s.safe, .bool s.hook, .slice oa s.fields.length cap] 58) := (hM.block _ (lt1_0 _ _) (fun h => h)).trans (heap_new' _ _)
  have HB1_0 : Hd _ := ⟨hb⟩
  have c1_0_0 : w1.cell? ⟨w.heap.size, 0, none⟩ = some (.int .i64 s.pos) := by simp [World.cell?, hb]
  have c1_0_1 : w1.cell? ⟨w.heap.size, 1, none⟩ = some (.string s.name) := by simp [World.cell?, hb]
  have c1_0_2 : w1.cell? ⟨w.heap.size, 2, none⟩ = some (.bool s.safe) := by simp [World.cell?, hb]
  have c1_0_3 : w1.cell? ⟨w.heap.size, 3, none⟩ = some (.bool s.hook) := by simp [World.cell?, hb]
  have c1_0_4 : w1.cell? ⟨w.heap.size, 4, none⟩ = some (.slice oa s.fields.length cap) := by simp [World.cell?, hb]
  clear hb
  clear hM
  cases q0 with
  | true =>
    by_cases t0 : s.fields.length ≤ 16
    · have Ht0 : Hd _ := ⟨t0⟩
      go_wp2_with fail
      refine (HA.out _ (by (first | exact HM1.out | exact Mod.refl _ _))).mono ?_
      rintro e w2 ⟨rfl, hM⟩
      have HM2 : Hd (Mod (fun _ => False) w w2) := ⟨by refine Mod.trans ?_ hM (fun _ h => Or.inl h); (first | exact HM1.out | exact Mod.refl _ _)⟩
      have hb : w2.heap[w.heap.size]? = some (.cells #[.int .i64 s.pos, .string s.name, .bool s.safe, .bool s.hook, .slice oa s.fields.length cap] 58) := (hM.block _ ((Array.getElem?_eq_some_iff.1 HB1_0.out).1) (fun h => h)).trans HB1_0.out
      have HB2_0 : Hd _ := ⟨hb⟩
      have c2_0_0 : w2.cell? ⟨w.heap.size, 0, none⟩ = some (.int .i64 s.pos) := by simp [World.cell?, hb]
      have c2_0_1 : w2.cell? ⟨w.heap.size, 1, none⟩ = some (.string s.name) := by simp [World.cell?, hb]
      have c2_0_2 : w2.cell? ⟨w.heap.size, 2, none⟩ = some (.bool s.safe) := by simp [World.cell?, hb]
      have c2_0_3 : w2.cell? ⟨w.heap.size, 3, none⟩ = some (.bool s.hook) := by simp [World.cell?, hb]
      have c2_0_4 : w2.cell? ⟨w.heap.size, 4, none⟩ = some (.slice oa s.fields.length cap) := by simp [World.cell?, hb]
      clear hb
      clear c1_0_0 c1_0_1 c1_0_2 c1_0_3 c1_0_4
      clear hM
      cases q1 with
      | true =>
        go_wp2
        go_ret
        exact ⟨by rw [show r = true from by rw [← HR.out]; simp [structI, Hq0.out, Ht0.out, Hq1.out]]; first | rfl | (simp; done) | (simp [Hq0.out, Ht0.out, Hq1.out]; done), by (first | exact HM2.out | exact Mod.refl _ _)⟩
      | false =>
        go_wp2
        go_ret
        exact ⟨by rw [show r = false from by rw [← HR.out]; simp [structI, Hq0.out, Ht0.out, Hq1.out]]; first | rfl | (simp; done) | (simp [Hq0.out, Ht0.out, Hq1.out]; done), by (first | exact HM2.out | exact Mod.refl _ _)⟩
    · have Ht0 : Hd _ := ⟨t0⟩
      go_wp2
      go_ret
      exact ⟨by rw [show r = false from by rw [← HR.out]; simp [structI, Hq0.out, (decide_eq_false (show ¬ (s.fields.length ≤ 16) from by have := Ht0.out; omega))]]; first | rfl | (simp; done) | (simp [Hq0.out, (decide_eq_false (show ¬ (s.fields.length ≤ 16) from by have := Ht0.out; omega))]; done), by (first | exact HM1.out | exact Mod.refl _ _)⟩
  | false =>
    go_wp2
    go_ret
    exact ⟨by rw [show r = false from by rw [← HR.out]; simp [structI, Hq0.out]]; first | rfl | (simp; done) | (simp [Hq0.out]; done), by (first | exact HM1.out | exact Mod.refl _ _)⟩
set_option maxRecDepth 100000 in
set_option maxHeartbeats 2000000 in
theorem enum_ans (hT : Tab w0) {v : Value} {s : Enm} (hv : enmV S w0 v s) : Ans 48 #[v] w0 (.bool (enumI s)) := by
  intro w hw
  obtain ⟨h0, h1, oa, len, cap, rfl, k1⟩ := hv
  have hlen := k1.hlen
  have hbig := k1.hbig
  subst hlen
  have HN : Hd (∀ w', Mod (fun _ => False) w w' → Calls Tryz.prog 44 #[.string s.name] w' _) := ⟨fun w' h' => (name_ans hT h1) w' (hw.trans h' (fun _ h => Or.inl h))⟩
  have HA : Hd (∀ w', Mod (fun _ => False) w w' → Calls Tryz.prog 45 #[.slice oa s.variants.length cap, .func (.func 49) #[] #[]] w' _) := ⟨fun w' h' => (all_vr k1 variantI 49 fn_49 (fun v x hv _ => variant_ans hT hv)) w' (hw.trans h' (fun _ h => Or.inl h))⟩
  clear h0 h1 k1 hT hw
  obtain ⟨r, hr⟩ : ∃ r, enumI s = r := ⟨_, rfl⟩
  have HR : Hd _ := ⟨hr⟩
  rw [hr]
  clear hr
  obtain ⟨q0, hq⟩ : ∃ q, isName (lst s.name) = q := ⟨_, rfl⟩
  rw [hq] at HN
  have Hq0 : Hd _ := ⟨hq⟩
  clear hq
  obtain ⟨q1, hq⟩ : ∃ q, s.variants.all variantI = q := ⟨_, rfl⟩
  rw [hq] at HA
  have Hq1 : Hd _ := ⟨hq⟩
  clear hq
  go_enter Tryz.func48, Tryz.ntmps48
  go_wp2_with fail
  refine (HN.out _ (by (first | exact Mod.alloc _ _ _))).mono ?_
  rintro e w1 ⟨rfl, hM⟩
  have HM1 : Hd (Mod (fun _ => False) w w1) := ⟨by refine Mod.trans ?_ hM (fun _ h => Or.inl h); (first | exact Mod.alloc _ _ _)⟩
  have hb : w1.heap[w.heap.size]? = some (.cells #[.int .i64 s.pos, .string s.name, .slice oa s.variants.length cap] 70) := (hM.block _ (lt1_0 _ _) (fun h => h)).trans (heap_new' _ _)
  have HB1_0 : Hd _ := ⟨hb⟩
  have c1_0_0 : w1.cell? ⟨w.heap.size, 0, none⟩ = some (.int .i64 s.pos) := by simp [World.cell?, hb]
  have c1_0_1 : w1.cell? ⟨w.heap.size, 1, none⟩ = some (.string s.name) := by simp [World.cell?, hb]
  have c1_0_2 : w1.cell? ⟨w.heap.size, 2, none⟩ = some (.slice oa s.variants.length cap) := by simp [World.cell?, hb]
  clear hb
  clear hM
  cases q0 with
  | true =>
    by_cases t0 : 1 ≤ s.variants.length
    · have Ht0 : Hd _ := ⟨t0⟩
      by_cases t1 : s.variants.length ≤ 16
      · have Ht1 : Hd _ := ⟨t1⟩
        go_wp2_with fail
        refine (HA.out _ (by (first | exact HM1.out | exact Mod.refl _ _))).mono ?_
        rintro e w2 ⟨rfl, hM⟩
        have HM2 : Hd (Mod (fun _ => False) w w2) := ⟨by refine Mod.trans ?_ hM (fun _ h => Or.inl h); (first | exact HM1.out | exact Mod.refl _ _)⟩
        have hb : w2.heap[w.heap.size]? = some (.cells #[.int .i64 s.pos, .string s.name, .slice oa s.variants.length cap] 70) := (hM.block _ ((Array.getElem?_eq_some_iff.1 HB1_0.out).1) (fun h => h)).trans HB1_0.out
        have HB2_0 : Hd _ := ⟨hb⟩
        have c2_0_0 : w2.cell? ⟨w.heap.size, 0, none⟩ = some (.int .i64 s.pos) := by simp [World.cell?, hb]
        have c2_0_1 : w2.cell? ⟨w.heap.size, 1, none⟩ = some (.string s.name) := by simp [World.cell?, hb]
        have c2_0_2 : w2.cell? ⟨w.heap.size, 2, none⟩ = some (.slice oa s.variants.length cap) := by simp [World.cell?, hb]
        clear hb
        clear c1_0_0 c1_0_1 c1_0_2
        clear hM
        cases q1 with
        | true =>
          go_wp2
          go_ret
          exact ⟨by rw [show r = true from by rw [← HR.out]; simp [enumI, Hq0.out, Ht0.out, Ht1.out, Hq1.out]]; first | rfl | (simp; done) | (simp [Hq0.out, Ht0.out, Ht1.out, Hq1.out]; done), by (first | exact HM2.out | exact Mod.refl _ _)⟩
        | false =>
          go_wp2
          go_ret
          exact ⟨by rw [show r = false from by rw [← HR.out]; simp [enumI, Hq0.out, Ht0.out, Ht1.out, Hq1.out]]; first | rfl | (simp; done) | (simp [Hq0.out, Ht0.out, Ht1.out, Hq1.out]; done), by (first | exact HM2.out | exact Mod.refl _ _)⟩
      · have Ht1 : Hd _ := ⟨t1⟩
        go_wp2
        go_ret
        exact ⟨by rw [show r = false from by rw [← HR.out]; simp [enumI, Hq0.out, Ht0.out, (decide_eq_false (show ¬ (s.variants.length ≤ 16) from by have := Ht1.out; omega))]]; first | rfl | (simp; done) | (simp [Hq0.out, Ht0.out, (decide_eq_false (show ¬ (s.variants.length ≤ 16) from by have := Ht1.out; omega))]; done), by (first | exact HM1.out | exact Mod.refl _ _)⟩
    · have Ht0 : Hd _ := ⟨t0⟩
      go_wp2
      go_ret
      exact ⟨by rw [show r = false from by rw [← HR.out]; simp [enumI, Hq0.out, (decide_eq_false (show ¬ (1 ≤ s.variants.length) from by have := Ht0.out; omega))]]; first | rfl | (simp; done) | (simp [Hq0.out, (decide_eq_false (show ¬ (1 ≤ s.variants.length) from by have := Ht0.out; omega))]; done), by (first | exact HM1.out | exact Mod.refl _ _)⟩
  | false =>
    go_wp2
    go_ret
    exact ⟨by rw [show r = false from by rw [← HR.out]; simp [enumI, Hq0.out]]; first | rfl | (simp; done) | (simp [Hq0.out]; done), by (first | exact HM1.out | exact Mod.refl _ _)⟩
end
end Go.Proofs.YtpodeccpibnlbaaGreatDoor
namespace Go.Proofs.YtpodeccpibnlbaaGreatDoor
set_option linter.unusedVariables false
set_option linter.unusedSimpArgs false
open Go.RowKit
section
variable {S : Nat → Prop} {w0 : World}
theorem fn_51 : Fn 51 := fn_of Tryz.func51 (by decide +kernel) (by kernel_rfl)
theorem fn_43 : Fn 43 := fn_of Tryz.func43 (by decide +kernel) (by kernel_rfl)
theorem fn_48 : Fn 48 := fn_of Tryz.func48 (by decide +kernel) (by kernel_rfl)
set_option maxRecDepth 100000 in
set_option maxHeartbeats 2000000 in
theorem function_ans (hT : Tab w0) {v : Value} {s : Fun} (hv : funV S w0 v s) : Ans 51 #[v] w0 (.bool (funcI s)) := by
  intro w hw
  obtain ⟨h0, h1, h2, oa, len, cap, ob, lenb, capb, oc, lenc, capc, rfl, k1, k2, k3⟩ := hv
  have hlen1 := k1.hlen
  have hlen2 := k2.hlen
  have hlen3 := k3.hlen
  have hbig1 := k1.hbig
  have hbig2 := k2.hbig
  have hbig3 := k3.hbig
  subst hlen1
  subst hlen2
  subst hlen3
  have HN : Hd (∀ w', Mod (fun _ => False) w w' → Calls Tryz.prog 44 #[.string s.name] w' _) := ⟨fun w' h' => (name_ans hT h1) w' (hw.trans h' (fun _ h => Or.inl h))⟩
  have HP : Hd (∀ w', Mod (fun _ => False) w w' → Calls Tryz.prog 100 #[.string s.result] w' _) := ⟨fun w' h' => (plain_ans hT h2) w' (hw.trans h' (fun _ h => Or.inl h))⟩
  have HA : Hd (∀ w', Mod (fun _ => False) w w' → Calls Tryz.prog 45 #[.slice oa s.params.length cap, .func (.func 105) #[] #[]] w' _) := ⟨fun w' h' => (all_vr k1 localI 105 fn_105 (fun v x hv _ => local_ans hT hv)) w' (hw.trans h' (fun _ h => Or.inl h))⟩
  have HB : Hd (∀ w', Mod (fun _ => False) w w' → Calls Tryz.prog 45 #[.slice ob s.locals.length capb, .func (.func 105) #[] #[]] w' _) := ⟨fun w' h' => (all_vr k2 localI 105 fn_105 (fun v x hv _ => local_ans hT hv)) w' (hw.trans h' (fun _ h => Or.inl h))⟩
  have HC : Hd (∀ w', Mod (fun _ => False) w w' → Calls Tryz.prog 106 #[.slice oc s.blocks.length capc, .func (.func 107) #[] #[]] w' _) := ⟨fun w' h' => (all_blk k3 blockI 107 fn_107 (fun v x hv _ => block_ans hT hv)) w' (hw.trans h' (fun _ h => Or.inl h))⟩
  clear h0 h1 h2 k1 k2 k3 hT hw
  obtain ⟨r, hr⟩ : ∃ r, funcI s = r := ⟨_, rfl⟩
  have HR : Hd _ := ⟨hr⟩
  rw [hr]
  clear hr
  obtain ⟨q0, hq⟩ : ∃ q, isName (lst s.name) = q := ⟨_, rfl⟩
  rw [hq] at HN
  have Hq0 : Hd _ := ⟨hq⟩
  clear hq
  obtain ⟨q1, hq⟩ : ∃ q, plainI (lst s.result) = q := ⟨_, rfl⟩
  rw [hq] at HP
  have Hq1 : Hd _ := ⟨hq⟩
  clear hq
  obtain ⟨q2, hq⟩ : ∃ q, s.params.all localI = q := ⟨_, rfl⟩
  rw [hq] at HA
  have Hq2 : Hd _ := ⟨hq⟩
  clear hq
  obtain ⟨q3, hq⟩ : ∃ q, s.locals.all localI = q := ⟨_, rfl⟩
  rw [hq] at HB
  have Hq3 : Hd _ := ⟨hq⟩
  clear hq
  obtain ⟨q4, hq⟩ : ∃ q, s.blocks.all blockI = q := ⟨_, rfl⟩
  rw [hq] at HC
  have Hq4 : Hd _ := ⟨hq⟩
  clear hq
  go_enter Tryz.func51, Tryz.ntmps51
  go_wp2_with fail
  refine (HN.out _ (by (first | exact Mod.alloc _ _ _))).mono ?_
  rintro e w1 ⟨rfl, hM⟩
  have HM1 : Hd (Mod (fun _ => False) w w1) := ⟨by refine Mod.trans ?_ hM (fun _ h => Or.inl h); (first | exact Mod.alloc _ _ _)⟩
  have hb : w1.heap[w.heap.size]? = some (.cells #[.int .i64 s.pos, .string s.name, .slice oa s.params.length cap, .slice ob s.locals.length capb, .string s.result, .slice oc s.blocks.length capc] 45) := (hM.block _ (lt1_0 _ _) (fun h => h)).trans (heap_new' _ _)
  have HB1_0 : Hd _ := ⟨hb⟩
  have c1_0_0 : w1.cell? ⟨w.heap.size, 0, none⟩ = some (.int .i64 s.pos) := by simp [World.cell?, hb]
  have c1_0_1 : w1.cell? ⟨w.heap.size, 1, none⟩ = some (.string s.name) := by simp [World.cell?, hb]
  have c1_0_2 : w1.cell? ⟨w.heap.size, 2, none⟩ = some (.slice oa s.params.length cap) := by simp [World.cell?, hb]
  have c1_0_3 : w1.cell? ⟨w.heap.size, 3, none⟩ = some (.slice ob s.locals.length capb) := by simp [World.cell?, hb]
  have c1_0_4 : w1.cell? ⟨w.heap.size, 4, none⟩ = some (.string s.result) := by simp [World.cell?, hb]
  have c1_0_5 : w1.cell? ⟨w.heap.size, 5, none⟩ = some (.slice oc s.blocks.length capc) := by simp [World.cell?, hb]
  clear hb
  clear hM
  cases q0 with
  | true =>
    go_wp2_with fail
    refine (HP.out _ (by (first | exact HM1.out | exact Mod.refl _ _))).mono ?_
    rintro e w2 ⟨rfl, hM⟩
    have HM2 : Hd (Mod (fun _ => False) w w2) := ⟨by refine Mod.trans ?_ hM (fun _ h => Or.inl h); (first | exact HM1.out | exact Mod.refl _ _)⟩
    have hb : w2.heap[w.heap.size]? = some (.cells #[.int .i64 s.pos, .string s.name, .slice oa s.params.length cap, .slice ob s.locals.length capb, .string s.result, .slice oc s.blocks.length capc] 45) := (hM.block _ ((Array.getElem?_eq_some_iff.1 HB1_0.out).1) (fun h => h)).trans HB1_0.out
    have HB2_0 : Hd _ := ⟨hb⟩
    have c2_0_0 : w2.cell? ⟨w.heap.size, 0, none⟩ = some (.int .i64 s.pos) := by simp [World.cell?, hb]
    have c2_0_1 : w2.cell? ⟨w.heap.size, 1, none⟩ = some (.string s.name) := by simp [World.cell?, hb]
    have c2_0_2 : w2.cell? ⟨w.heap.size, 2, none⟩ = some (.slice oa s.params.length cap) := by simp [World.cell?, hb]
    have c2_0_3 : w2.cell? ⟨w.heap.size, 3, none⟩ = some (.slice ob s.locals.length capb) := by simp [World.cell?, hb]
    have c2_0_4 : w2.cell? ⟨w.heap.size, 4, none⟩ = some (.string s.result) := by simp [World.cell?, hb]
    have c2_0_5 : w2.cell? ⟨w.heap.size, 5, none⟩ = some (.slice oc s.blocks.length capc) := by simp [World.cell?, hb]
    clear hb
    clear c1_0_0 c1_0_1 c1_0_2 c1_0_3 c1_0_4 c1_0_5
    clear hM
    cases q1 with
    | true =>
      by_cases t0 : s.params.length ≤ 16
      · have Ht0 : Hd _ := ⟨t0⟩
        by_cases t1 : s.params.length + s.locals.length ≤ 24
        · have Ht1 : Hd _ := ⟨t1⟩
          go_wp2_with fail
          refine (HA.out _ (by (first | exact HM2.out | exact Mod.refl _ _))).mono ?_
          rintro e w3 ⟨rfl, hM⟩
          have HM3 : Hd (Mod (fun _ => False) w w3) := ⟨by refine Mod.trans ?_ hM (fun _ h => Or.inl h); (first | exact HM2.out | exact Mod.refl _ _)⟩
          have hb : w3.heap[w.heap.size]? = some (.cells #[.int .i64 s.pos, .string s.name, .slice oa s.params.length cap, .slice ob s.locals.length capb, .string s.result, .slice oc s.blocks.length capc] 45) := (hM.block _ ((Array.getElem?_eq_some_iff.1 HB2_0.out).1) (fun h => h)).trans HB2_0.out
          have HB3_0 : Hd _ := ⟨hb⟩
          have c3_0_0 : w3.cell? ⟨w.heap.size, 0, none⟩ = some (.int .i64 s.pos) := by simp [World.cell?, hb]
          have c3_0_1 : w3.cell? ⟨w.heap.size, 1, none⟩ = some (.string s.name) := by simp [World.cell?, hb]
          have c3_0_2 : w3.cell? ⟨w.heap.size, 2, none⟩ = some (.slice oa s.params.length cap) := by simp [World.cell?, hb]
          have c3_0_3 : w3.cell? ⟨w.heap.size, 3, none⟩ = some (.slice ob s.locals.length capb) := by simp [World.cell?, hb]
          have c3_0_4 : w3.cell? ⟨w.heap.size, 4, none⟩ = some (.string s.result) := by simp [World.cell?, hb]
          have c3_0_5 : w3.cell? ⟨w.heap.size, 5, none⟩ = some (.slice oc s.blocks.length capc) := by simp [World.cell?, hb]
          clear hb
          clear c2_0_0 c2_0_1 c2_0_2 c2_0_3 c2_0_4 c2_0_5
          clear hM
          cases q2 with
          | true =>
            go_wp2_with fail
            refine (HB.out _ (by (first | exact HM3.out | exact Mod.refl _ _))).mono ?_
            rintro e w4 ⟨rfl, hM⟩
            have HM4 : Hd (Mod (fun _ => False) w w4) := ⟨by refine Mod.trans ?_ hM (fun _ h => Or.inl h); (first | exact HM3.out | exact Mod.refl _ _)⟩
            have hb : w4.heap[w.heap.size]? = some (.cells #[.int .i64 s.pos, .string s.name, .slice oa s.params.length cap, .slice ob s.locals.length capb, .string s.result, .slice oc s.blocks.length capc] 45) := (hM.block _ ((Array.getElem?_eq_some_iff.1 HB3_0.out).1) (fun h => h)).trans HB3_0.out
            have HB4_0 : Hd _ := ⟨hb⟩
            have c4_0_0 : w4.cell? ⟨w.heap.size, 0, none⟩ = some (.int .i64 s.pos) := by simp [World.cell?, hb]
            have c4_0_1 : w4.cell? ⟨w.heap.size, 1, none⟩ = some (.string s.name) := by simp [World.cell?, hb]
            have c4_0_2 : w4.cell? ⟨w.heap.size, 2, none⟩ = some (.slice oa s.params.length cap) := by simp [World.cell?, hb]
            have c4_0_3 : w4.cell? ⟨w.heap.size, 3, none⟩ = some (.slice ob s.locals.length capb) := by simp [World.cell?, hb]
            have c4_0_4 : w4.cell? ⟨w.heap.size, 4, none⟩ = some (.string s.result) := by simp [World.cell?, hb]
            have c4_0_5 : w4.cell? ⟨w.heap.size, 5, none⟩ = some (.slice oc s.blocks.length capc) := by simp [World.cell?, hb]
            clear hb
            clear c3_0_0 c3_0_1 c3_0_2 c3_0_3 c3_0_4 c3_0_5
            clear hM
            cases q3 with
            | true =>
              by_cases t2 : 1 ≤ s.blocks.length
              · have Ht2 : Hd _ := ⟨t2⟩
                by_cases t3 : s.blocks.length ≤ 64
                · have Ht3 : Hd _ := ⟨t3⟩
                  go_wp2_with fail
                  refine (HC.out _ (by (first | exact HM4.out | exact Mod.refl _ _))).mono ?_
                  rintro e w5 ⟨rfl, hM⟩
                  have HM5 : Hd (Mod (fun _ => False) w w5) := ⟨by refine Mod.trans ?_ hM (fun _ h => Or.inl h); (first | exact HM4.out | exact Mod.refl _ _)⟩
                  have hb : w5.heap[w.heap.size]? = some (.cells #[.int .i64 s.pos, .string s.name, .slice oa s.params.length cap, .slice ob s.locals.length capb, .string s.result, .slice oc s.blocks.length capc] 45) := (hM.block _ ((Array.getElem?_eq_some_iff.1 HB4_0.out).1) (fun h => h)).trans HB4_0.out
                  have HB5_0 : Hd _ := ⟨hb⟩
                  have c5_0_0 : w5.cell? ⟨w.heap.size, 0, none⟩ = some (.int .i64 s.pos) := by simp [World.cell?, hb]
                  have c5_0_1 : w5.cell? ⟨w.heap.size, 1, none⟩ = some (.string s.name) := by simp [World.cell?, hb]
                  have c5_0_2 : w5.cell? ⟨w.heap.size, 2, none⟩ = some (.slice oa s.params.length cap) := by simp [World.cell?, hb]
                  have c5_0_3 : w5.cell? ⟨w.heap.size, 3, none⟩ = some (.slice ob s.locals.length capb) := by simp [World.cell?, hb]
                  have c5_0_4 : w5.cell? ⟨w.heap.size, 4, none⟩ = some (.string s.result) := by simp [World.cell?, hb]
                  have c5_0_5 : w5.cell? ⟨w.heap.size, 5, none⟩ = some (.slice oc s.blocks.length capc) := by simp [World.cell?, hb]
                  clear hb
                  clear c4_0_0 c4_0_1 c4_0_2 c4_0_3 c4_0_4 c4_0_5
                  clear hM
                  cases q4 with
                  | true =>
                    go_wp2
                    go_ret
                    exact ⟨by rw [show r = true from by rw [← HR.out]; simp [funcI, Hq0.out, Hq1.out, Ht0.out, Ht1.out, Hq2.out, Hq3.out, Ht2.out, Ht3.out, Hq4.out]]; first | rfl | (simp; done) | (simp [Hq0.out, Hq1.out, Ht0.out, Ht1.out, Hq2.out, Hq3.out, Ht2.out, Ht3.out, Hq4.out]; done), by (first | exact HM5.out | exact Mod.refl _ _)⟩
                  | false =>
                    go_wp2
                    go_ret
                    exact ⟨by rw [show r = false from by rw [← HR.out]; simp [funcI, Hq0.out, Hq1.out, Ht0.out, Ht1.out, Hq2.out, Hq3.out, Ht2.out, Ht3.out, Hq4.out]]; first | rfl | (simp; done) | (simp [Hq0.out, Hq1.out, Ht0.out, Ht1.out, Hq2.out, Hq3.out, Ht2.out, Ht3.out, Hq4.out]; done), by (first | exact HM5.out | exact Mod.refl _ _)⟩
                · have Ht3 : Hd _ := ⟨t3⟩
                  go_wp2
                  go_ret
                  exact ⟨by rw [show r = false from by rw [← HR.out]; simp [funcI, Hq0.out, Hq1.out, Ht0.out, Ht1.out, Hq2.out, Hq3.out, Ht2.out, (decide_eq_false (show ¬ (s.blocks.length ≤ 64) from by have := Ht3.out; omega))]]; first | rfl | (simp; done) | (simp [Hq0.out, Hq1.out, Ht0.out, Ht1.out, Hq2.out, Hq3.out, Ht2.out, (decide_eq_false (show ¬ (s.blocks.length ≤ 64) from by have := Ht3.out; omega))]; done), by (first | exact HM4.out | exact Mod.refl _ _)⟩
              · have Ht2 : Hd _ := ⟨t2⟩
                go_wp2
                go_ret
                exact ⟨by rw [show r = false from by rw [← HR.out]; simp [funcI, Hq0.out, Hq1.out, Ht0.out, Ht1.out, Hq2.out, Hq3.out, (decide_eq_false (show ¬ (1 ≤ s.blocks.length) from by have := Ht2.out; omega))]]; first | rfl | (simp; done) | (simp [Hq0.out, Hq1.out, Ht0.out, Ht1.out, Hq2.out, Hq3.out, (decide_eq_false (show ¬ (1 ≤ s.blocks.length) from by have := Ht2.out; omega))]; done), by (first | exact HM4.out | exact Mod.refl _ _)⟩
            | false =>
              go_wp2
              go_ret
              exact ⟨by rw [show r = false from by rw [← HR.out]; simp [funcI, Hq0.out, Hq1.out, Ht0.out, Ht1.out, Hq2.out, Hq3.out]]; first | rfl | (simp; done) | (simp [Hq0.out, Hq1.out, Ht0.out, Ht1.out, Hq2.out, Hq3.out]; done), by (first | exact HM4.out | exact Mod.refl _ _)⟩
          | false =>
            go_wp2
            go_ret
            exact ⟨by rw [show r = false from by rw [← HR.out]; simp [funcI, Hq0.out, Hq1.out, Ht0.out, Ht1.out, Hq2.out]]; first | rfl | (simp; done) | (simp [Hq0.out, Hq1.out, Ht0.out, Ht1.out, Hq2.out]; done), by (first | exact HM3.out | exact Mod.refl _ _)⟩
        · have Ht1 : Hd _ := ⟨t1⟩
          go_wp2
          go_ret
          exact ⟨by rw [show r = false from by rw [← HR.out]; simp [funcI, Hq0.out, Hq1.out, Ht0.out, (decide_eq_false (show ¬ (s.params.length + s.locals.length ≤ 24) from by have := Ht1.out; omega))]]; first | rfl | (simp; done) | (simp [Hq0.out, Hq1.out, Ht0.out, (decide_eq_false (show ¬ (s.params.length + s.locals.length ≤ 24) from by have := Ht1.out; omega))]; done), by (first | exact HM2.out | exact Mod.refl _ _)⟩
      · have Ht0 : Hd _ := ⟨t0⟩
        go_wp2
        go_ret
        exact ⟨by rw [show r = false from by rw [← HR.out]; simp [funcI, Hq0.out, Hq1.out, (decide_eq_false (show ¬ (s.params.length ≤ 16) from by have := Ht0.out; omega))]]; first | rfl | (simp; done) | (simp [Hq0.out, Hq1.out, (decide_eq_false (show ¬ (s.params.length ≤ 16) from by have := Ht0.out; omega))]; done), by (first | exact HM2.out | exact Mod.refl _ _)⟩
    | false =>
      by_cases t0 : s.params.length ≤ 16
      · have Ht0 : Hd _ := ⟨t0⟩
        by_cases t1 : s.params.length + s.locals.length ≤ 24
        · have Ht1 : Hd _ := ⟨t1⟩
          go_wp2_with fail
          refine (HA.out _ (by (first | exact HM2.out | exact Mod.refl _ _))).mono ?_
          rintro e w3 ⟨rfl, hM⟩
          have HM3 : Hd (Mod (fun _ => False) w w3) := ⟨by refine Mod.trans ?_ hM (fun _ h => Or.inl h); (first | exact HM2.out | exact Mod.refl _ _)⟩
          have hb : w3.heap[w.heap.size]? = some (.cells #[.int .i64 s.pos, .string s.name, .slice oa s.params.length cap, .slice ob s.locals.length capb, .string s.result, .slice oc s.blocks.length capc] 45) := (hM.block _ ((Array.getElem?_eq_some_iff.1 HB2_0.out).1) (fun h => h)).trans HB2_0.out
          have HB3_0 : Hd _ := ⟨hb⟩
          have c3_0_0 : w3.cell? ⟨w.heap.size, 0, none⟩ = some (.int .i64 s.pos) := by simp [World.cell?, hb]
          have c3_0_1 : w3.cell? ⟨w.heap.size, 1, none⟩ = some (.string s.name) := by simp [World.cell?, hb]
          have c3_0_2 : w3.cell? ⟨w.heap.size, 2, none⟩ = some (.slice oa s.params.length cap) := by simp [World.cell?, hb]
          have c3_0_3 : w3.cell? ⟨w.heap.size, 3, none⟩ = some (.slice ob s.locals.length capb) := by simp [World.cell?, hb]
          have c3_0_4 : w3.cell? ⟨w.heap.size, 4, none⟩ = some (.string s.result) := by simp [World.cell?, hb]
          have c3_0_5 : w3.cell? ⟨w.heap.size, 5, none⟩ = some (.slice oc s.blocks.length capc) := by simp [World.cell?, hb]
          clear hb
          clear c2_0_0 c2_0_1 c2_0_2 c2_0_3 c2_0_4 c2_0_5
          clear hM
          cases q2 with
          | true =>
            go_wp2_with fail
            refine (HB.out _ (by (first | exact HM3.out | exact Mod.refl _ _))).mono ?_
            rintro e w4 ⟨rfl, hM⟩
            have HM4 : Hd (Mod (fun _ => False) w w4) := ⟨by refine Mod.trans ?_ hM (fun _ h => Or.inl h); (first | exact HM3.out | exact Mod.refl _ _)⟩
            have hb : w4.heap[w.heap.size]? = some (.cells #[.int .i64 s.pos, .string s.name, .slice oa s.params.length cap, .slice ob s.locals.length capb, .string s.result, .slice oc s.blocks.length capc] 45) := (hM.block _ ((Array.getElem?_eq_some_iff.1 HB3_0.out).1) (fun h => h)).trans HB3_0.out
            have HB4_0 : Hd _ := ⟨hb⟩
            have c4_0_0 : w4.cell? ⟨w.heap.size, 0, none⟩ = some (.int .i64 s.pos) := by simp [World.cell?, hb]
            have c4_0_1 : w4.cell? ⟨w.heap.size, 1, none⟩ = some (.string s.name) := by simp [World.cell?, hb]
            have c4_0_2 : w4.cell? ⟨w.heap.size, 2, none⟩ = some (.slice oa s.params.length cap) := by simp [World.cell?, hb]
            have c4_0_3 : w4.cell? ⟨w.heap.size, 3, none⟩ = some (.slice ob s.locals.length capb) := by simp [World.cell?, hb]
            have c4_0_4 : w4.cell? ⟨w.heap.size, 4, none⟩ = some (.string s.result) := by simp [World.cell?, hb]
            have c4_0_5 : w4.cell? ⟨w.heap.size, 5, none⟩ = some (.slice oc s.blocks.length capc) := by simp [World.cell?, hb]
            clear hb
            clear c3_0_0 c3_0_1 c3_0_2 c3_0_3 c3_0_4 c3_0_5
            clear hM
            cases q3 with
            | true =>
              go_wp2
              go_ret
              exact ⟨by rw [show r = false from by rw [← HR.out]; simp [funcI, Hq0.out, Hq1.out, Ht0.out, Ht1.out, Hq2.out, Hq3.out]]; first | rfl | (simp; done) | (simp [Hq0.out, Hq1.out, Ht0.out, Ht1.out, Hq2.out, Hq3.out]; done), by (first | exact HM4.out | exact Mod.refl _ _)⟩
            | false =>
              go_wp2
              go_ret
              exact ⟨by rw [show r = false from by rw [← HR.out]; simp [funcI, Hq0.out, Hq1.out, Ht0.out, Ht1.out, Hq2.out, Hq3.out]]; first | rfl | (simp; done) | (simp [Hq0.out, Hq1.out, Ht0.out, Ht1.out, Hq2.out, Hq3.out]; done), by (first | exact HM4.out | exact Mod.refl _ _)⟩
          | false =>
            go_wp2
            go_ret
            exact ⟨by rw [show r = false from by rw [← HR.out]; simp [funcI, Hq0.out, Hq1.out, Ht0.out, Ht1.out, Hq2.out]]; first | rfl | (simp; done) | (simp [Hq0.out, Hq1.out, Ht0.out, Ht1.out, Hq2.out]; done), by (first | exact HM3.out | exact Mod.refl _ _)⟩
        · have Ht1 : Hd _ := ⟨t1⟩
          go_wp2
          go_ret
          exact ⟨by rw [show r = false from by rw [← HR.out]; simp [funcI, Hq0.out, Hq1.out, Ht0.out, (decide_eq_false (show ¬ (s.params.length + s.locals.length ≤ 24) from by have := Ht1.out; omega))]]; first | rfl | (simp; done) | (simp [Hq0.out, Hq1.out, Ht0.out, (decide_eq_false (show ¬ (s.params.length + s.locals.length ≤ 24) from by have := Ht1.out; omega))]; done), by (first | exact HM2.out | exact Mod.refl _ _)⟩
      · have Ht0 : Hd _ := ⟨t0⟩
        go_wp2
        go_ret
        exact ⟨by rw [show r = false from by rw [← HR.out]; simp [funcI, Hq0.out, Hq1.out, (decide_eq_false (show ¬ (s.params.length ≤ 16) from by have := Ht0.out; omega))]]; first | rfl | (simp; done) | (simp [Hq0.out, Hq1.out, (decide_eq_false (show ¬ (s.params.length ≤ 16) from by have := Ht0.out; omega))]; done), by (first | exact HM2.out | exact Mod.refl _ _)⟩
  | false =>
    by_cases t0 : s.params.length ≤ 16
    · have Ht0 : Hd _ := ⟨t0⟩
      by_cases t1 : s.params.length + s.locals.length ≤ 24
      · have Ht1 : Hd _ := ⟨t1⟩
        go_wp2_with fail
        refine (HA.out _ (by (first | exact HM1.out | exact Mod.refl _ _))).mono ?_
        rintro e w2 ⟨rfl, hM⟩
        have HM2 : Hd (Mod (fun _ => False) w w2) := ⟨by refine Mod.trans ?_ hM (fun _ h => Or.inl h); (first | exact HM1.out | exact Mod.refl _ _)⟩
        have hb : w2.heap[w.heap.size]? = some (.cells #[.int .i64 s.pos, .string s.name, .slice oa s.params.length cap, .slice ob s.locals.length capb, .string s.result, .slice oc s.blocks.length capc] 45) := (hM.block _ ((Array.getElem?_eq_some_iff.1 HB1_0.out).1) (fun h => h)).trans HB1_0.out
        have HB2_0 : Hd _ := ⟨hb⟩
        have c2_0_0 : w2.cell? ⟨w.heap.size, 0, none⟩ = some (.int .i64 s.pos) := by simp [World.cell?, hb]
        have c2_0_1 : w2.cell? ⟨w.heap.size, 1, none⟩ = some (.string s.name) := by simp [World.cell?, hb]
        have c2_0_2 : w2.cell? ⟨w.heap.size, 2, none⟩ = some (.slice oa s.params.length cap) := by simp [World.cell?, hb]
        have c2_0_3 : w2.cell? ⟨w.heap.size, 3, none⟩ = some (.slice ob s.locals.length capb) := by simp [World.cell?, hb]
        have c2_0_4 : w2.cell? ⟨w.heap.size, 4, none⟩ = some (.string s.result) := by simp [World.cell?, hb]
        have c2_0_5 : w2.cell? ⟨w.heap.size, 5, none⟩ = some (.slice oc s.blocks.length capc) := by simp [World.cell?, hb]
        clear hb
        clear c1_0_0 c1_0_1 c1_0_2 c1_0_3 c1_0_4 c1_0_5
        clear hM
        cases q2 with
        | true =>
          go_wp2_with fail
          refine (HB.out _ (by (first | exact HM2.out | exact Mod.refl _ _))).mono ?_
          rintro e w3 ⟨rfl, hM⟩
          have HM3 : Hd (Mod (fun _ => False) w w3) := ⟨by refine Mod.trans ?_ hM (fun _ h => Or.inl h); (first | exact HM2.out | exact Mod.refl _ _)⟩
          have hb : w3.heap[w.heap.size]? = some (.cells #[.int .i64 s.pos, .string s.name, .slice oa s.params.length cap, .slice ob s.locals.length capb, .string s.result, .slice oc s.blocks.length capc] 45) := (hM.block _ ((Array.getElem?_eq_some_iff.1 HB2_0.out).1) (fun h => h)).trans HB2_0.out
          have HB3_0 : Hd _ := ⟨hb⟩
          have c3_0_0 : w3.cell? ⟨w.heap.size, 0, none⟩ = some (.int .i64 s.pos) := by simp [World.cell?, hb]
          have c3_0_1 : w3.cell? ⟨w.heap.size, 1, none⟩ = some (.string s.name) := by simp [World.cell?, hb]
          have c3_0_2 : w3.cell? ⟨w.heap.size, 2, none⟩ = some (.slice oa s.params.length cap) := by simp [World.cell?, hb]
          have c3_0_3 : w3.cell? ⟨w.heap.size, 3, none⟩ = some (.slice ob s.locals.length capb) := by simp [World.cell?, hb]
          have c3_0_4 : w3.cell? ⟨w.heap.size, 4, none⟩ = some (.string s.result) := by simp [World.cell?, hb]
          have c3_0_5 : w3.cell? ⟨w.heap.size, 5, none⟩ = some (.slice oc s.blocks.length capc) := by simp [World.cell?, hb]
          clear hb
          clear c2_0_0 c2_0_1 c2_0_2 c2_0_3 c2_0_4 c2_0_5
          clear hM
          cases q3 with
          | true =>
            go_wp2
            go_ret
            exact ⟨by rw [show r = false from by rw [← HR.out]; simp [funcI, Hq0.out, Ht0.out, Ht1.out, Hq2.out, Hq3.out]]; first | rfl | (simp; done) | (simp [Hq0.out, Ht0.out, Ht1.out, Hq2.out, Hq3.out]; done), by (first | exact HM3.out | exact Mod.refl _ _)⟩
          | false =>
            go_wp2
            go_ret
            exact ⟨by rw [show r = false from by rw [← HR.out]; simp [funcI, Hq0.out, Ht0.out, Ht1.out, Hq2.out, Hq3.out]]; first | rfl | (simp; done) | (simp [Hq0.out, Ht0.out, Ht1.out, Hq2.out, Hq3.out]; done), by (first | exact HM3.out | exact Mod.refl _ _)⟩
        | false =>
          go_wp2
          go_ret
          exact ⟨by rw [show r = false from by rw [← HR.out]; simp [funcI, Hq0.out, Ht0.out, Ht1.out, Hq2.out]]; first | rfl | (simp; done) | (simp [Hq0.out, Ht0.out, Ht1.out, Hq2.out]; done), by (first | exact HM2.out | exact Mod.refl _ _)⟩
      · have Ht1 : Hd _ := ⟨t1⟩
        go_wp2
        go_ret
        exact ⟨by rw [show r = false from by rw [← HR.out]; simp [funcI, Hq0.out, Ht0.out, (decide_eq_false (show ¬ (s.params.length + s.locals.length ≤ 24) from by have := Ht1.out; omega))]]; first | rfl | (simp; done) | (simp [Hq0.out, Ht0.out, (decide_eq_false (show ¬ (s.params.length + s.locals.length ≤ 24) from by have := Ht1.out; omega))]; done), by (first | exact HM1.out | exact Mod.refl _ _)⟩
    · have Ht0 : Hd _ := ⟨t0⟩
      go_wp2
      go_ret
      exact ⟨by rw [show r = false from by rw [← HR.out]; simp [funcI, Hq0.out, (decide_eq_false (show ¬ (s.params.length ≤ 16) from by have := Ht0.out; omega))]]; first | rfl | (simp; done) | (simp [Hq0.out, (decide_eq_false (show ¬ (s.params.length ≤ 16) from by have := Ht0.out; omega))]; done), by (first | exact HM1.out | exact Mod.refl _ _)⟩
set_option maxRecDepth 100000 in
set_option maxHeartbeats 2000000 in
theorem Right_ans (hT : Tab w0) {v : Value} {s : Prg} (hv : prgV S w0 v s) : Ans 20 #[v] w0 (.bool (rightI s)) := by
  intro w hw
  obtain ⟨oa, len, cap, ob, lenb, capb, oc, lenc, capc, rfl, k1, k2, k3⟩ := hv
  have hlen1 := k1.hlen
  have hlen2 := k2.hlen
  have hlen3 := k3.hlen
  have hbig1 := k1.hbig
  have hbig2 := k2.hbig
  have hbig3 := k3.hbig
  subst hlen1
  subst hlen2
  subst hlen3
  have HA : Hd (∀ w', Mod (fun _ => False) w w' → Calls Tryz.prog 42 #[.slice oa s.structs.length cap, .func (.func 43) #[] #[]] w' _) := ⟨fun w' h' => (all_sct k1 structI 43 fn_43 (fun v x hv _ => struct_ans hT hv)) w' (hw.trans h' (fun _ h => Or.inl h))⟩
  have HB : Hd (∀ w', Mod (fun _ => False) w w' → Calls Tryz.prog 47 #[.slice ob s.enums.length capb, .func (.func 48) #[] #[]] w' _) := ⟨fun w' h' => (all_enm k2 enumI 48 fn_48 (fun v x hv _ => enum_ans hT hv)) w' (hw.trans h' (fun _ h => Or.inl h))⟩
  have HC : Hd (∀ w', Mod (fun _ => False) w w' → Calls Tryz.prog 50 #[.slice oc s.funcs.length capc, .func (.func 51) #[] #[]] w' _) := ⟨fun w' h' => (all_fun k3 funcI 51 fn_51 (fun v x hv _ => function_ans hT hv)) w' (hw.trans h' (fun _ h => Or.inl h))⟩
  clear k1 k2 k3 hT hw
  obtain ⟨r, hr⟩ : ∃ r, rightI s = r := ⟨_, rfl⟩
  have HR : Hd _ := ⟨hr⟩
  rw [hr]
  clear hr
  obtain ⟨q0, hq⟩ : ∃ q, s.structs.all structI = q := ⟨_, rfl⟩
  rw [hq] at HA
  have Hq0 : Hd _ := ⟨hq⟩
  clear hq
  obtain ⟨q1, hq⟩ : ∃ q, s.enums.all enumI = q := ⟨_, rfl⟩
  rw [hq] at HB
  have Hq1 : Hd _ := ⟨hq⟩
  clear hq
  obtain ⟨q2, hq⟩ : ∃ q, s.funcs.all funcI = q := ⟨_, rfl⟩
  rw [hq] at HC
  have Hq2 : Hd _ := ⟨hq⟩
  clear hq
  go_enter Tryz.func20, Tryz.ntmps20
  by_cases t0 : s.structs.length ≤ 16
  · have Ht0 : Hd _ := ⟨t0⟩
    by_cases t1 : s.enums.length ≤ 16
    · have Ht1 : Hd _ := ⟨t1⟩
      by_cases t2 : s.funcs.length ≤ 16
      · have Ht2 : Hd _ := ⟨t2⟩
        go_wp2_with fail
        all_goals
          refine (HA.out _ (by (first | exact Mod.alloc _ _ _))).mono ?_
          rintro e w1 ⟨rfl, hM⟩
          have HM1 : Hd (Mod (fun _ => False) w w1) := ⟨by refine Mod.trans ?_ hM (fun _ h => Or.inl h); (first | exact Mod.alloc _ _ _)⟩
          have hb : w1.heap[w.heap.size]? = some (.cells #[.slice oa s.structs.length cap, .slice ob s.enums.length capb, .slice oc s.funcs.length capc] 36) := (hM.block _ (lt1_0 _ _) (fun h => h)).trans (heap_new' _ _)
          have HB1_0 : Hd _ := ⟨hb⟩
          have c1_0_0 : w1.cell? ⟨w.heap.size, 0, none⟩ = some (.slice oa s.structs.length cap) := by simp [World.cell?, hb]
          have c1_0_1 : w1.cell? ⟨w.heap.size, 1, none⟩ = some (.slice ob s.enums.length capb) := by simp [World.cell?, hb]
          have c1_0_2 : w1.cell? ⟨w.heap.size, 2, none⟩ = some (.slice oc s.funcs.length capc) := by simp [World.cell?, hb]
          clear hb
          clear hM
          cases q0 with
          | true =>
            go_wp2_with fail
            refine (HB.out _ (by (first | exact HM1.out | exact Mod.refl _ _))).mono ?_
            rintro e w2 ⟨rfl, hM⟩
            have HM2 : Hd (Mod (fun _ => False) w w2) := ⟨by refine Mod.trans ?_ hM (fun _ h => Or.inl h); (first | exact HM1.out | exact Mod.refl _ _)⟩
            have hb : w2.heap[w.heap.size]? = some (.cells #[.slice oa s.structs.length cap, .slice ob s.enums.length capb, .slice oc s.funcs.length capc] 36) := (hM.block _ ((Array.getElem?_eq_some_iff.1 HB1_0.out).1) (fun h => h)).trans HB1_0.out
            have HB2_0 : Hd _ := ⟨hb⟩
            have c2_0_0 : w2.cell? ⟨w.heap.size, 0, none⟩ = some (.slice oa s.structs.length cap) := by simp [World.cell?, hb]
            have c2_0_1 : w2.cell? ⟨w.heap.size, 1, none⟩ = some (.slice ob s.enums.length capb) := by simp [World.cell?, hb]
            have c2_0_2 : w2.cell? ⟨w.heap.size, 2, none⟩ = some (.slice oc s.funcs.length capc) := by simp [World.cell?, hb]
            clear hb
            clear c1_0_0 c1_0_1 c1_0_2
            clear hM
            cases q1 with
            | true =>
              go_wp2_with fail
              refine (HC.out _ (by (first | exact HM2.out | exact Mod.refl _ _))).mono ?_
              rintro e w3 ⟨rfl, hM⟩
              have HM3 : Hd (Mod (fun _ => False) w w3) := ⟨by refine Mod.trans ?_ hM (fun _ h => Or.inl h); (first | exact HM2.out | exact Mod.refl _ _)⟩
              have hb : w3.heap[w.heap.size]? = some (.cells #[.slice oa s.structs.length cap, .slice ob s.enums.length capb, .slice oc s.funcs.length capc] 36) := (hM.block _ ((Array.getElem?_eq_some_iff.1 HB2_0.out).1) (fun h => h)).trans HB2_0.out
              have HB3_0 : Hd _ := ⟨hb⟩
              have c3_0_0 : w3.cell? ⟨w.heap.size, 0, none⟩ = some (.slice oa s.structs.length cap) := by simp [World.cell?, hb]
              have c3_0_1 : w3.cell? ⟨w.heap.size, 1, none⟩ = some (.slice ob s.enums.length capb) := by simp [World.cell?, hb]
              have c3_0_2 : w3.cell? ⟨w.heap.size, 2, none⟩ = some (.slice oc s.funcs.length capc) := by simp [World.cell?, hb]
              clear hb
              clear c2_0_0 c2_0_1 c2_0_2
              clear hM
              cases q2 with
              | true =>
                go_wp2
                go_ret
                exact ⟨by rw [show r = true from by rw [← HR.out]; simp [rightI, Ht0.out, Ht1.out, Ht2.out, Hq0.out, Hq1.out, Hq2.out]]; first | rfl | (simp; done) | (simp [Ht0.out, Ht1.out, Ht2.out, Hq0.out, Hq1.out, Hq2.out]; done), by (first | exact HM3.out | exact Mod.refl _ _)⟩
              | false =>
                go_wp2
                go_ret
                exact ⟨by rw [show r = false from by rw [← HR.out]; simp [rightI, Ht0.out, Ht1.out, Ht2.out, Hq0.out, Hq1.out, Hq2.out]]; first | rfl | (simp; done) | (simp [Ht0.out, Ht1.out, Ht2.out, Hq0.out, Hq1.out, Hq2.out]; done), by (first | exact HM3.out | exact Mod.refl _ _)⟩
            | false =>
              go_wp2
              go_ret
              exact ⟨by rw [show r = false from by rw [← HR.out]; simp [rightI, Ht0.out, Ht1.out, Ht2.out, Hq0.out, Hq1.out]]; first | rfl | (simp; done) | (simp [Ht0.out, Ht1.out, Ht2.out, Hq0.out, Hq1.out]; done), by (first | exact HM2.out | exact Mod.refl _ _)⟩
          | false =>
            go_wp2_with fail
            refine (HB.out _ (by (first | exact HM1.out | exact Mod.refl _ _))).mono ?_
            rintro e w2 ⟨rfl, hM⟩
            have HM2 : Hd (Mod (fun _ => False) w w2) := ⟨by refine Mod.trans ?_ hM (fun _ h => Or.inl h); (first | exact HM1.out | exact Mod.refl _ _)⟩
            have hb : w2.heap[w.heap.size]? = some (.cells #[.slice oa s.structs.length cap, .slice ob s.enums.length capb, .slice oc s.funcs.length capc] 36) := (hM.block _ ((Array.getElem?_eq_some_iff.1 HB1_0.out).1) (fun h => h)).trans HB1_0.out
            have HB2_0 : Hd _ := ⟨hb⟩
            have c2_0_0 : w2.cell? ⟨w.heap.size, 0, none⟩ = some (.slice oa s.structs.length cap) := by simp [World.cell?, hb]
            have c2_0_1 : w2.cell? ⟨w.heap.size, 1, none⟩ = some (.slice ob s.enums.length capb) := by simp [World.cell?, hb]
            have c2_0_2 : w2.cell? ⟨w.heap.size, 2, none⟩ = some (.slice oc s.funcs.length capc) := by simp [World.cell?, hb]
            clear hb
            clear c1_0_0 c1_0_1 c1_0_2
            clear hM
            cases q1 with
            | true =>
              go_wp2
              go_ret
              exact ⟨by rw [show r = false from by rw [← HR.out]; simp [rightI, Ht0.out, Ht1.out, Ht2.out, Hq0.out, Hq1.out]]; first | rfl | (simp; done) | (simp [Ht0.out, Ht1.out, Ht2.out, Hq0.out, Hq1.out]; done), by (first | exact HM2.out | exact Mod.refl _ _)⟩
            | false =>
              go_wp2
              go_ret
              exact ⟨by rw [show r = false from by rw [← HR.out]; simp [rightI, Ht0.out, Ht1.out, Ht2.out, Hq0.out, Hq1.out]]; first | rfl | (simp; done) | (simp [Ht0.out, Ht1.out, Ht2.out, Hq0.out, Hq1.out]; done), by (first | exact HM2.out | exact Mod.refl _ _)⟩
      · have Ht2 : Hd _ := ⟨t2⟩
        go_wp2
        all_goals go_ret
        all_goals exact ⟨by rw [show r = false from by rw [← HR.out]; simp [rightI, Ht0.out, Ht1.out, (decide_eq_false (show ¬ (s.funcs.length ≤ 16) from by have := Ht2.out; omega))]]; first | rfl | (simp; done) | (simp [Ht0.out, Ht1.out, (decide_eq_false (show ¬ (s.funcs.length ≤ 16) from by have := Ht2.out; omega))]; done), by (first | exact Mod.alloc _ _ _)⟩
    · have Ht1 : Hd _ := ⟨t1⟩
      go_wp2
      all_goals go_ret
      all_goals exact ⟨by rw [show r = false from by rw [← HR.out]; simp [rightI, Ht0.out, (decide_eq_false (show ¬ (s.enums.length ≤ 16) from by have := Ht1.out; omega))]]; first | rfl | (simp; done) | (simp [Ht0.out, (decide_eq_false (show ¬ (s.enums.length ≤ 16) from by have := Ht1.out; omega))]; done), by (first | exact Mod.alloc _ _ _)⟩
  · have Ht0 : Hd _ := ⟨t0⟩
    go_wp2
    all_goals go_ret
    all_goals exact ⟨by rw [show r = false from by rw [← HR.out]; simp [rightI, (decide_eq_false (show ¬ (s.structs.length ≤ 16) from by have := Ht0.out; omega))]]; first | rfl | (simp; done) | (simp [(decide_eq_false (show ¬ (s.structs.length ≤ 16) from by have := Ht0.out; omega))]; done), by (first | exact Mod.alloc _ _ _)⟩
end
end Go.Proofs.YtpodeccpibnlbaaGreatDoor
