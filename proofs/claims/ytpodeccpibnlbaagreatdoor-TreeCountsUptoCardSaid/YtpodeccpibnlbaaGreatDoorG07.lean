/- Small predicates of tree, walked: step, place, none, field, variant, local, arm. The shapes of statements and of ends, walked. named and fits, walked. -/
import Derived.Test.YtpodeccpibnlbaaGreatDoorG05
import Derived.Test.YtpodeccpibnlbaaGreatDoorG04
namespace Go.Proofs.YtpodeccpibnlbaaGreatDoor
set_option linter.unusedVariables false
set_option linter.unusedSimpArgs false
open Go.RowKit
section
variable {S : Nat → Prop} {w0 : World}

theorem name_ans (hT : Tab w0) {s : ByteArray} (h : Sm s) : Ans 44 #[.string s] w0 (.bool (isName (lst s))) := fun w hw => Name_calls s h w (hT.mod hw)
theorem plain_ans (hT : Tab w0) {s : ByteArray} (h : Sm s) : Ans 100 #[.string s] w0 (.bool (plainI (lst s))) := fun w hw => Plain_calls s h w (hT.mod hw)
theorem kind_ans (hT : Tab w0) {s : ByteArray} (h : Sm s) : Ans 146 #[.string s] w0 (.int .i64 (kindI (lst s) : Int)) := fun w hw => Kind_calls s h w (hT.mod hw)
theorem fn_44 : Fn 44 := fn_of Tryz.func44 (by decide +kernel) (by kernel_rfl)
theorem fn_85 : Fn 85 := fn_of Tryz.func85 (by decide +kernel) (by kernel_rfl)
theorem fn_37 : Fn 37 := fn_of Tryz.func37 (by decide +kernel) (by kernel_rfl)
theorem fn_177 : Fn 177 := fn_of Tryz.func177 (by decide +kernel) (by kernel_rfl)
theorem fn_46 : Fn 46 := fn_of Tryz.func46 (by decide +kernel) (by kernel_rfl)
theorem fn_49 : Fn 49 := fn_of Tryz.func49 (by decide +kernel) (by kernel_rfl)
theorem fn_105 : Fn 105 := fn_of Tryz.func105 (by decide +kernel) (by kernel_rfl)
set_option maxRecDepth 100000 in
set_option maxHeartbeats 2000000 in
theorem step_ans (hT : Tab w0) {s : ByteArray} (h : Sm s) : Ans 85 #[.string s] w0 (.bool (stepI s)) := by
  intro w hw
  have HN : Hd (∀ w', Mod (fun _ => False) w w' → Calls Tryz.prog 44 #[.string s] w' _) := ⟨fun w' h' => (name_ans hT h) w' (hw.trans h' (fun _ h => Or.inl h))⟩
  clear h hT hw
  obtain ⟨r, hr⟩ : ∃ r, stepI s = r := ⟨_, rfl⟩
  have HR : Hd _ := ⟨hr⟩
  rw [hr]
  clear hr
  obtain ⟨q0, hq⟩ : ∃ q, isName (lst s) = q := ⟨_, rfl⟩
  rw [hq] at HN
  have Hq0 : Hd _ := ⟨hq⟩
  clear hq
  go_enter Tryz.func85, Tryz.ntmps85
  by_cases hs : s = mk [42]
  · have HS : Hd _ := ⟨hs⟩
    subst hs
    go_wp2
    go_ret
    exact ⟨by rw [show r = true from by rw [← HR.out]; simp [stepI, lst_mk]]; rfl, Mod.refl _ _⟩
  · have HS : Hd (¬ lst s = [42]) := ⟨fun e => hs ((eq_mk s).trans (by rw [e]))⟩
    have hq2 : (s.toList == [42]) = false := by
      rw [ByteArray.toList_eq]
      exact beq_false_of_ne HS.out
    go_wp2_with fail
    refine (HN.out _ (by (first | exact Mod.refl _ _ | exact Mod.alloc _ _ _ | exact (Mod.alloc _ _ _).trans (Mod.alloc _ _ _) (fun _ h => Or.inl h) | exact ((Mod.alloc _ _ _).trans (Mod.alloc _ _ _) (fun _ h => Or.inl h)).trans (Mod.alloc _ _ _) (fun _ h => Or.inl h)))).mono ?_
    rintro e w1 ⟨rfl, hM⟩
    have HM1 : Hd (Mod (fun _ => False) w w1) := ⟨by refine Mod.trans ?_ hM (fun _ h => Or.inl h); (first | exact Mod.refl _ _ | exact Mod.alloc _ _ _ | exact (Mod.alloc _ _ _).trans (Mod.alloc _ _ _) (fun _ h => Or.inl h) | exact ((Mod.alloc _ _ _).trans (Mod.alloc _ _ _) (fun _ h => Or.inl h)).trans (Mod.alloc _ _ _) (fun _ h => Or.inl h))⟩
    clear hM
    go_wp2
    go_ret
    exact ⟨by rw [show r = q0 from by rw [← HR.out]; simp [stepI, HS.out, Hq0.out]]; rfl, HM1.out⟩
set_option maxRecDepth 100000 in
set_option maxHeartbeats 2000000 in
theorem place_ans (hT : Tab w0) {v : Value} {p : Pl} (hv : plV S w0 v p) : Ans 37 #[v] w0 (.bool (placeI p)) := by
  intro w hw
  obtain ⟨h1, oa, len, cap, rfl, h2⟩ := hv
  have hlen := h2.hlen
  have hbig := h2.hbig
  subst hlen
  have HN : Hd (∀ w', Mod (fun _ => False) w w' → Calls Tryz.prog 44 #[.string p.loc] w' _) := ⟨fun w' h' => (name_ans hT h1) w' (hw.trans h' (fun _ h => Or.inl h))⟩
  have HA : Hd (∀ w', Mod (fun _ => False) w w' → Calls Tryz.prog 86 #[.slice oa p.steps.length cap, .func (.func 85) #[] #[]] w' _) := ⟨fun w' h' => (all_str h2 stepI 85 fn_85 (fun v x hv _ => by obtain ⟨rfl, hs⟩ := hv; exact step_ans hT hs)) w' (hw.trans h' (fun _ h => Or.inl h))⟩
  clear h1 h2 hT hw
  obtain ⟨r, hr⟩ : ∃ r, placeI p = r := ⟨_, rfl⟩
  have HR : Hd _ := ⟨hr⟩
  rw [hr]
  clear hr
  obtain ⟨q0, hq⟩ : ∃ q, isName (lst p.loc) = q := ⟨_, rfl⟩
  rw [hq] at HN
  have Hq0 : Hd _ := ⟨hq⟩
  clear hq
  obtain ⟨q1, hq⟩ : ∃ q, p.steps.all stepI = q := ⟨_, rfl⟩
  rw [hq] at HA
  have Hq1 : Hd _ := ⟨hq⟩
  clear hq
  go_enter Tryz.func37, Tryz.ntmps37
  go_wp2_with fail
  refine (HN.out _ (by (first | exact Mod.refl _ _ | exact Mod.alloc _ _ _ | exact (Mod.alloc _ _ _).trans (Mod.alloc _ _ _) (fun _ h => Or.inl h) | exact ((Mod.alloc _ _ _).trans (Mod.alloc _ _ _) (fun _ h => Or.inl h)).trans (Mod.alloc _ _ _) (fun _ h => Or.inl h)))).mono ?_
  rintro e w1 ⟨rfl, hM⟩
  have HM1 : Hd (Mod (fun _ => False) w w1) := ⟨by refine Mod.trans ?_ hM (fun _ h => Or.inl h); (first | exact Mod.refl _ _ | exact Mod.alloc _ _ _ | exact (Mod.alloc _ _ _).trans (Mod.alloc _ _ _) (fun _ h => Or.inl h) | exact ((Mod.alloc _ _ _).trans (Mod.alloc _ _ _) (fun _ h => Or.inl h)).trans (Mod.alloc _ _ _) (fun _ h => Or.inl h))⟩
  have hb : w1.heap[w.heap.size]? = some (.cells #[.string p.loc, .slice oa p.steps.length cap] 24) := (hM.block _ (by first | exact (Array.getElem?_eq_some_iff.1 (rfl : (#[0] : Array Nat)[0]? = some 0)).1 | simp) (fun h => h)).trans (heap_new' _ _)
  have HB1_0 : Hd _ := ⟨hb⟩
  have c1_0_0 : w1.cell? ⟨w.heap.size, 0, none⟩ = some (.string p.loc) := by simp [World.cell?, hb]
  have c1_0_1 : w1.cell? ⟨w.heap.size, 1, none⟩ = some (.slice oa p.steps.length cap) := by simp [World.cell?, hb]
  clear hb
  clear hM
  cases q0 with
  | true =>
    by_cases t0 : p.steps.length ≤ 8
    · have Ht0 : Hd _ := ⟨t0⟩
      go_wp2_with fail
      refine (HA.out _ (by (first | exact HM1.out | exact Mod.refl _ _ | exact Mod.alloc _ _ _ | exact (Mod.alloc _ _ _).trans (Mod.alloc _ _ _) (fun _ h => Or.inl h) | exact HM1.out.trans (Mod.alloc _ _ _) (fun _ h => Or.inl h)))).mono ?_
      rintro e w2 ⟨rfl, hM⟩
      have HM2 : Hd (Mod (fun _ => False) w w2) := ⟨by refine Mod.trans ?_ hM (fun _ h => Or.inl h); (first | exact HM1.out | exact Mod.refl _ _ | exact Mod.alloc _ _ _ | exact (Mod.alloc _ _ _).trans (Mod.alloc _ _ _) (fun _ h => Or.inl h) | exact HM1.out.trans (Mod.alloc _ _ _) (fun _ h => Or.inl h))⟩
      have hb : w2.heap[w.heap.size]? = some (.cells #[.string p.loc, .slice oa p.steps.length cap] 24) := (hM.block _ (by first | exact (Array.getElem?_eq_some_iff.1 HB1_0.out).1 | simp) (fun h => h)).trans HB1_0.out
      have HB2_0 : Hd _ := ⟨hb⟩
      have c2_0_0 : w2.cell? ⟨w.heap.size, 0, none⟩ = some (.string p.loc) := by simp [World.cell?, hb]
      have c2_0_1 : w2.cell? ⟨w.heap.size, 1, none⟩ = some (.slice oa p.steps.length cap) := by simp [World.cell?, hb]
      clear hb
      clear c1_0_0 c1_0_1
      clear hM
      cases q1 with
      | true =>
        go_wp2
        go_ret
        exact ⟨by rw [show r = true from by rw [← HR.out]; simp [placeI, Hq0.out, Ht0.out, Hq1.out]]; first | rfl | (simp; done) | (simp [Hq0.out, Ht0.out, Hq1.out]; done), HM2.out⟩
      | false =>
        go_wp2
        go_ret
        exact ⟨by rw [show r = false from by rw [← HR.out]; simp [placeI, Hq0.out, Ht0.out, Hq1.out]]; first | rfl | (simp; done) | (simp [Hq0.out, Ht0.out, Hq1.out]; done), HM2.out⟩
    · have Ht0 : Hd _ := ⟨t0⟩
      go_wp2
      go_ret
      exact ⟨by rw [show r = false from by rw [← HR.out]; simp [placeI, Hq0.out, Ht0.out]]; first | rfl | (simp; done) | (simp [Hq0.out, Ht0.out]; done), HM1.out⟩
  | false =>
    go_wp2
    go_ret
    exact ⟨by rw [show r = false from by rw [← HR.out]; simp [placeI, Hq0.out]]; first | rfl | (simp; done) | (simp [Hq0.out]; done), HM1.out⟩
set_option maxRecDepth 100000 in
set_option maxHeartbeats 2000000 in
theorem none_ans {v : Value} {p : Pl} (hv : plV S w0 v p) : Ans 188 #[v] w0 (.bool (noneI p)) := by
  intro w hw
  obtain ⟨h1, oa, len, cap, rfl, h2⟩ := hv
  have hlen := h2.hlen
  have hbig := h2.hbig
  subst hlen
  clear h2 h1 hw
  obtain ⟨r, hr⟩ : ∃ r, noneI p = r := ⟨_, rfl⟩
  have HR : Hd _ := ⟨hr⟩
  rw [hr]
  clear hr
  go_enter Tryz.func188, Tryz.ntmps188
  cases he : emp p.loc with
  | true =>
    have HE : Hd _ := ⟨he⟩
    obtain ⟨he2, he3⟩ := emp_t he
    clear he
    by_cases h0 : p.steps.length = 0
    · have Hh0 : Hd _ := ⟨h0⟩
      have zh0 : ((p.steps.length : Int) == 0) = true := by rw [h0]; rfl
      clear h0
      go_wp2
      go_ret
      exact ⟨by rw [show r = true from by rw [← HR.out]; simp [noneI, HE.out, Hh0.out]]; first | rfl | (simp; done) | (simp [HE.out, Hh0.out]; done), (Mod.alloc _ _ _)⟩
    · have Hh0 : Hd _ := ⟨h0⟩
      have zh0 : ((p.steps.length : Int) == 0) = false := by rw [beq_eq_false_iff_ne]; omega
      clear h0
      go_wp2
      go_ret
      exact ⟨by rw [show r = false from by rw [← HR.out]; simp [noneI, HE.out, Hh0.out]]; first | rfl | (simp; done) | (simp [HE.out, Hh0.out]; done), (Mod.alloc _ _ _)⟩
  | false =>
    have HE : Hd _ := ⟨he⟩
    obtain ⟨he2, he3⟩ := emp_f he
    clear he
    go_wp2
    go_ret
    exact ⟨by rw [show r = false from by rw [← HR.out]; simp [noneI, HE.out]]; first | rfl | (simp; done) | (simp [HE.out]; done), (Mod.alloc _ _ _)⟩
set_option maxRecDepth 100000 in
set_option maxHeartbeats 2000000 in
theorem field_ans (hT : Tab w0) {v : Value} {x : Vr} (hv : vrV v x) : Ans 46 #[v] w0 (.bool (fieldI x)) := by
  intro w hw
  obtain ⟨rfl, h1, h2⟩ := hv
  have HN : Hd (∀ w', Mod (fun _ => False) w w' → Calls Tryz.prog 44 #[.string x.name] w' _) := ⟨fun w' h' => (name_ans hT h1) w' (hw.trans h' (fun _ h => Or.inl h))⟩
  have HP : Hd (∀ w', Mod (fun _ => False) w w' → Calls Tryz.prog 100 #[.string x.type] w' _) := ⟨fun w' h' => (plain_ans hT h2) w' (hw.trans h' (fun _ h => Or.inl h))⟩
  clear h1 h2 hT hw
  obtain ⟨r, hr⟩ : ∃ r, fieldI x = r := ⟨_, rfl⟩
  have HR : Hd _ := ⟨hr⟩
  rw [hr]
  clear hr
  obtain ⟨q0, hq⟩ : ∃ q, isName (lst x.name) = q := ⟨_, rfl⟩
  rw [hq] at HN
  have Hq0 : Hd _ := ⟨hq⟩
  clear hq
  obtain ⟨q1, hq⟩ : ∃ q, plainI (lst x.type) = q := ⟨_, rfl⟩
  rw [hq] at HP
  have Hq1 : Hd _ := ⟨hq⟩
  clear hq
  go_enter Tryz.func46, Tryz.ntmps46
  go_wp2_with fail
  refine (HN.out _ (by (first | exact Mod.refl _ _ | exact Mod.alloc _ _ _ | exact (Mod.alloc _ _ _).trans (Mod.alloc _ _ _) (fun _ h => Or.inl h) | exact ((Mod.alloc _ _ _).trans (Mod.alloc _ _ _) (fun _ h => Or.inl h)).trans (Mod.alloc _ _ _) (fun _ h => Or.inl h)))).mono ?_
  rintro e w1 ⟨rfl, hM⟩
  have HM1 : Hd (Mod (fun _ => False) w w1) := ⟨by refine Mod.trans ?_ hM (fun _ h => Or.inl h); (first | exact Mod.refl _ _ | exact Mod.alloc _ _ _ | exact (Mod.alloc _ _ _).trans (Mod.alloc _ _ _) (fun _ h => Or.inl h) | exact ((Mod.alloc _ _ _).trans (Mod.alloc _ _ _) (fun _ h => Or.inl h)).trans (Mod.alloc _ _ _) (fun _ h => Or.inl h))⟩
  have hb : w1.heap[w.heap.size]? = some (.cells #[.string x.name, .string x.type] 52) := (hM.block _ (by first | exact (Array.getElem?_eq_some_iff.1 (rfl : (#[0] : Array Nat)[0]? = some 0)).1 | simp) (fun h => h)).trans (heap_new' _ _)
  have HB1_0 : Hd _ := ⟨hb⟩
  have c1_0_0 : w1.cell? ⟨w.heap.size, 0, none⟩ = some (.string x.name) := by simp [World.cell?, hb]
  have c1_0_1 : w1.cell? ⟨w.heap.size, 1, none⟩ = some (.string x.type) := by simp [World.cell?, hb]
  clear hb
  clear hM
  cases q0 with
  | true =>
    go_wp2_with fail
    refine (HP.out _ (by (first | exact HM1.out | exact Mod.refl _ _ | exact Mod.alloc _ _ _ | exact (Mod.alloc _ _ _).trans (Mod.alloc _ _ _) (fun _ h => Or.inl h) | exact HM1.out.trans (Mod.alloc _ _ _) (fun _ h => Or.inl h)))).mono ?_
    rintro e w2 ⟨rfl, hM⟩
    have HM2 : Hd (Mod (fun _ => False) w w2) := ⟨by refine Mod.trans ?_ hM (fun _ h => Or.inl h); (first | exact HM1.out | exact Mod.refl _ _ | exact Mod.alloc _ _ _ | exact (Mod.alloc _ _ _).trans (Mod.alloc _ _ _) (fun _ h => Or.inl h) | exact HM1.out.trans (Mod.alloc _ _ _) (fun _ h => Or.inl h))⟩
    have hb : w2.heap[w.heap.size]? = some (.cells #[.string x.name, .string x.type] 52) := (hM.block _ (by first | exact (Array.getElem?_eq_some_iff.1 HB1_0.out).1 | simp) (fun h => h)).trans HB1_0.out
    have HB2_0 : Hd _ := ⟨hb⟩
    have c2_0_0 : w2.cell? ⟨w.heap.size, 0, none⟩ = some (.string x.name) := by simp [World.cell?, hb]
    have c2_0_1 : w2.cell? ⟨w.heap.size, 1, none⟩ = some (.string x.type) := by simp [World.cell?, hb]
    clear hb
    clear c1_0_0 c1_0_1
    clear hM
    cases q1 with
    | true =>
      go_wp2
      go_ret
      exact ⟨by rw [show r = true from by rw [← HR.out]; simp [fieldI, Hq0.out, Hq1.out]]; first | rfl | (simp; done) | (simp [Hq0.out, Hq1.out]; done), HM2.out⟩
    | false =>
      go_wp2
      go_ret
      exact ⟨by rw [show r = false from by rw [← HR.out]; simp [fieldI, Hq0.out, Hq1.out]]; first | rfl | (simp; done) | (simp [Hq0.out, Hq1.out]; done), HM2.out⟩
  | false =>
    go_wp2
    go_ret
    exact ⟨by rw [show r = false from by rw [← HR.out]; simp [fieldI, Hq0.out]]; first | rfl | (simp; done) | (simp [Hq0.out]; done), HM1.out⟩
set_option maxRecDepth 100000 in
set_option maxHeartbeats 2000000 in
theorem local_ans (hT : Tab w0) {v : Value} {x : Vr} (hv : vrV v x) : Ans 105 #[v] w0 (.bool (localI x)) := by
  intro w hw
  obtain ⟨rfl, h1, h2⟩ := hv
  have HN : Hd (∀ w', Mod (fun _ => False) w w' → Calls Tryz.prog 44 #[.string x.name] w' _) := ⟨fun w' h' => (name_ans hT h1) w' (hw.trans h' (fun _ h => Or.inl h))⟩
  have HP : Hd (∀ w', Mod (fun _ => False) w w' → Calls Tryz.prog 146 #[.string x.type] w' _) := ⟨fun w' h' => (kind_ans hT h2) w' (hw.trans h' (fun _ h => Or.inl h))⟩
  clear h1 h2 hT hw
  obtain ⟨r, hr⟩ : ∃ r, localI x = r := ⟨_, rfl⟩
  have HR : Hd _ := ⟨hr⟩
  rw [hr]
  clear hr
  obtain ⟨q0, hq⟩ : ∃ q, isName (lst x.name) = q := ⟨_, rfl⟩
  rw [hq] at HN
  have Hq0 : Hd _ := ⟨hq⟩
  clear hq
  obtain ⟨k, hq⟩ : ∃ q, kindI (lst x.type) = q := ⟨_, rfl⟩
  rw [hq] at HP
  have Hk : Hd _ := ⟨hq⟩
  clear hq
  go_enter Tryz.func105, Tryz.ntmps105
  go_wp2_with fail
  refine (HN.out _ (by (first | exact Mod.refl _ _ | exact Mod.alloc _ _ _ | exact (Mod.alloc _ _ _).trans (Mod.alloc _ _ _) (fun _ h => Or.inl h) | exact ((Mod.alloc _ _ _).trans (Mod.alloc _ _ _) (fun _ h => Or.inl h)).trans (Mod.alloc _ _ _) (fun _ h => Or.inl h)))).mono ?_
  rintro e w1 ⟨rfl, hM⟩
  have HM1 : Hd (Mod (fun _ => False) w w1) := ⟨by refine Mod.trans ?_ hM (fun _ h => Or.inl h); (first | exact Mod.refl _ _ | exact Mod.alloc _ _ _ | exact (Mod.alloc _ _ _).trans (Mod.alloc _ _ _) (fun _ h => Or.inl h) | exact ((Mod.alloc _ _ _).trans (Mod.alloc _ _ _) (fun _ h => Or.inl h)).trans (Mod.alloc _ _ _) (fun _ h => Or.inl h))⟩
  have hb : w1.heap[w.heap.size]? = some (.cells #[.string x.name, .string x.type] 52) := (hM.block _ (by first | exact (Array.getElem?_eq_some_iff.1 (rfl : (#[0] : Array Nat)[0]? = some 0)).1 | simp) (fun h => h)).trans (heap_new' _ _)
  have HB1_0 : Hd _ := ⟨hb⟩
  have c1_0_0 : w1.cell? ⟨w.heap.size, 0, none⟩ = some (.string x.name) := by simp [World.cell?, hb]
  have c1_0_1 : w1.cell? ⟨w.heap.size, 1, none⟩ = some (.string x.type) := by simp [World.cell?, hb]
  clear hb
  clear hM
  cases q0 with
  | false =>
    go_wp2
    go_ret
    exact ⟨by rw [show r = false from by rw [← HR.out]; simp [localI, Hq0.out]]; first | rfl | (simp; done) | (simp [Hq0.out]; done), HM1.out⟩
  | true =>
    by_cases hk : k = 0
    · have HK : Hd _ := ⟨hk⟩
      have hk2 : ((k : Int) == 0) = true := by rw [hk]; rfl
      clear hk
      go_wp2_with fail
      refine (HP.out _ (by (first | exact HM1.out | exact Mod.refl _ _ | exact Mod.alloc _ _ _ | exact (Mod.alloc _ _ _).trans (Mod.alloc _ _ _) (fun _ h => Or.inl h) | exact HM1.out.trans (Mod.alloc _ _ _) (fun _ h => Or.inl h)))).mono ?_
      rintro e w2 ⟨rfl, hM⟩
      have HM2 : Hd (Mod (fun _ => False) w w2) := ⟨by refine Mod.trans ?_ hM (fun _ h => Or.inl h); (first | exact HM1.out | exact Mod.refl _ _ | exact Mod.alloc _ _ _ | exact (Mod.alloc _ _ _).trans (Mod.alloc _ _ _) (fun _ h => Or.inl h) | exact HM1.out.trans (Mod.alloc _ _ _) (fun _ h => Or.inl h))⟩
      have hb : w2.heap[w.heap.size]? = some (.cells #[.string x.name, .string x.type] 52) := (hM.block _ (by first | exact (Array.getElem?_eq_some_iff.1 HB1_0.out).1 | simp) (fun h => h)).trans HB1_0.out
      have HB2_0 : Hd _ := ⟨hb⟩
      have c2_0_0 : w2.cell? ⟨w.heap.size, 0, none⟩ = some (.string x.name) := by simp [World.cell?, hb]
      have c2_0_1 : w2.cell? ⟨w.heap.size, 1, none⟩ = some (.string x.type) := by simp [World.cell?, hb]
      clear hb
      clear c1_0_0 c1_0_1
      clear hM
      go_wp2
      go_ret
      exact ⟨by rw [show r = false from by rw [← HR.out]; simp [localI, Hq0.out, Hk.out, HK.out]]; first | rfl | (simp; done) | (simp [Hq0.out, Hk.out, HK.out]; done), HM2.out⟩
    · have HK : Hd _ := ⟨hk⟩
      have hk2 : ((k : Int) == 0) = false := by rw [beq_eq_false_iff_ne]; omega
      clear hk
      go_wp2_with fail
      refine (HP.out _ (by (first | exact HM1.out | exact Mod.refl _ _ | exact Mod.alloc _ _ _ | exact (Mod.alloc _ _ _).trans (Mod.alloc _ _ _) (fun _ h => Or.inl h) | exact HM1.out.trans (Mod.alloc _ _ _) (fun _ h => Or.inl h)))).mono ?_
      rintro e w2 ⟨rfl, hM⟩
      have HM2 : Hd (Mod (fun _ => False) w w2) := ⟨by refine Mod.trans ?_ hM (fun _ h => Or.inl h); (first | exact HM1.out | exact Mod.refl _ _ | exact Mod.alloc _ _ _ | exact (Mod.alloc _ _ _).trans (Mod.alloc _ _ _) (fun _ h => Or.inl h) | exact HM1.out.trans (Mod.alloc _ _ _) (fun _ h => Or.inl h))⟩
      have hb : w2.heap[w.heap.size]? = some (.cells #[.string x.name, .string x.type] 52) := (hM.block _ (by first | exact (Array.getElem?_eq_some_iff.1 HB1_0.out).1 | simp) (fun h => h)).trans HB1_0.out
      have HB2_0 : Hd _ := ⟨hb⟩
      have c2_0_0 : w2.cell? ⟨w.heap.size, 0, none⟩ = some (.string x.name) := by simp [World.cell?, hb]
      have c2_0_1 : w2.cell? ⟨w.heap.size, 1, none⟩ = some (.string x.type) := by simp [World.cell?, hb]
      clear hb
      clear c1_0_0 c1_0_1
      clear hM
      go_wp2
      go_ret
      exact ⟨by rw [show r = true from by rw [← HR.out]; simp [localI, Hq0.out, Hk.out, HK.out]]; first | rfl | (simp; done) | (simp [Hq0.out, Hk.out, HK.out]; done), HM2.out⟩
set_option maxRecDepth 100000 in
set_option maxHeartbeats 2000000 in
theorem variant_ans (hT : Tab w0) {v : Value} {x : Vr} (hv : vrV v x) : Ans 49 #[v] w0 (.bool (variantI x)) := by
  intro w hw
  obtain ⟨rfl, h1, h2⟩ := hv
  have HN : Hd (∀ w', Mod (fun _ => False) w w' → Calls Tryz.prog 44 #[.string x.name] w' _) := ⟨fun w' h' => (name_ans hT h1) w' (hw.trans h' (fun _ h => Or.inl h))⟩
  have HP : Hd (∀ w', Mod (fun _ => False) w w' → Calls Tryz.prog 100 #[.string x.type] w' _) := ⟨fun w' h' => (plain_ans hT h2) w' (hw.trans h' (fun _ h => Or.inl h))⟩
  clear h1 h2 hT hw
  obtain ⟨r, hr⟩ : ∃ r, variantI x = r := ⟨_, rfl⟩
  have HR : Hd _ := ⟨hr⟩
  rw [hr]
  clear hr
  obtain ⟨q0, hq⟩ : ∃ q, isName (lst x.name) = q := ⟨_, rfl⟩
  rw [hq] at HN
  have Hq0 : Hd _ := ⟨hq⟩
  clear hq
  obtain ⟨q1, hq⟩ : ∃ q, plainI (lst x.type) = q := ⟨_, rfl⟩
  rw [hq] at HP
  have Hq1 : Hd _ := ⟨hq⟩
  clear hq
  go_enter Tryz.func49, Tryz.ntmps49
  go_wp2_with fail
  refine (HN.out _ (by (first | exact Mod.refl _ _ | exact Mod.alloc _ _ _ | exact (Mod.alloc _ _ _).trans (Mod.alloc _ _ _) (fun _ h => Or.inl h) | exact ((Mod.alloc _ _ _).trans (Mod.alloc _ _ _) (fun _ h => Or.inl h)).trans (Mod.alloc _ _ _) (fun _ h => Or.inl h)))).mono ?_
  rintro e w1 ⟨rfl, hM⟩
  have HM1 : Hd (Mod (fun _ => False) w w1) := ⟨by refine Mod.trans ?_ hM (fun _ h => Or.inl h); (first | exact Mod.refl _ _ | exact Mod.alloc _ _ _ | exact (Mod.alloc _ _ _).trans (Mod.alloc _ _ _) (fun _ h => Or.inl h) | exact ((Mod.alloc _ _ _).trans (Mod.alloc _ _ _) (fun _ h => Or.inl h)).trans (Mod.alloc _ _ _) (fun _ h => Or.inl h))⟩
  have hb : w1.heap[w.heap.size]? = some (.cells #[.string x.name, .string x.type] 52) := (hM.block _ (by first | exact (Array.getElem?_eq_some_iff.1 (rfl : (#[0] : Array Nat)[0]? = some 0)).1 | simp) (fun h => h)).trans (heap_new' _ _)
  have HB1_0 : Hd _ := ⟨hb⟩
  have c1_0_0 : w1.cell? ⟨w.heap.size, 0, none⟩ = some (.string x.name) := by simp [World.cell?, hb]
  have c1_0_1 : w1.cell? ⟨w.heap.size, 1, none⟩ = some (.string x.type) := by simp [World.cell?, hb]
  clear hb
  clear hM
  cases q0 with
  | false =>
    go_wp2
    go_ret
    exact ⟨by rw [show r = false from by rw [← HR.out]; simp [variantI, Hq0.out]]; first | rfl | (simp; done) | (simp [Hq0.out]; done), HM1.out⟩
  | true =>
    cases he : emp x.type with
    | true =>
      have HE : Hd _ := ⟨he⟩
      obtain ⟨he2, he3⟩ := emp_t he
      clear he
      go_wp2
      go_ret
      exact ⟨by rw [show r = true from by rw [← HR.out]; simp [variantI, Hq0.out, HE.out]]; first | rfl | (simp; done) | (simp [Hq0.out, HE.out]; done), HM1.out⟩
    | false =>
      have HE : Hd _ := ⟨he⟩
      obtain ⟨he2, he3⟩ := emp_f he
      clear he
      go_wp2_with fail
      refine (HP.out _ (by (first | exact HM1.out | exact Mod.refl _ _ | exact Mod.alloc _ _ _ | exact (Mod.alloc _ _ _).trans (Mod.alloc _ _ _) (fun _ h => Or.inl h) | exact HM1.out.trans (Mod.alloc _ _ _) (fun _ h => Or.inl h)))).mono ?_
      rintro e w2 ⟨rfl, hM⟩
      have HM2 : Hd (Mod (fun _ => False) w w2) := ⟨by refine Mod.trans ?_ hM (fun _ h => Or.inl h); (first | exact HM1.out | exact Mod.refl _ _ | exact Mod.alloc _ _ _ | exact (Mod.alloc _ _ _).trans (Mod.alloc _ _ _) (fun _ h => Or.inl h) | exact HM1.out.trans (Mod.alloc _ _ _) (fun _ h => Or.inl h))⟩
      have hb : w2.heap[w.heap.size]? = some (.cells #[.string x.name, .string x.type] 52) := (hM.block _ (by first | exact (Array.getElem?_eq_some_iff.1 HB1_0.out).1 | simp) (fun h => h)).trans HB1_0.out
      have HB2_0 : Hd _ := ⟨hb⟩
      have c2_0_0 : w2.cell? ⟨w.heap.size, 0, none⟩ = some (.string x.name) := by simp [World.cell?, hb]
      have c2_0_1 : w2.cell? ⟨w.heap.size, 1, none⟩ = some (.string x.type) := by simp [World.cell?, hb]
      clear hb
      clear c1_0_0 c1_0_1
      clear hM
      cases q1 with
      | true =>
        go_wp2
        go_ret
        exact ⟨by rw [show r = true from by rw [← HR.out]; simp [variantI, Hq0.out, HE.out, Hq1.out]]; first | rfl | (simp; done) | (simp [Hq0.out, HE.out, Hq1.out]; done), HM2.out⟩
      | false =>
        go_wp2
        go_ret
        exact ⟨by rw [show r = false from by rw [← HR.out]; simp [variantI, Hq0.out, HE.out, Hq1.out]]; first | rfl | (simp; done) | (simp [Hq0.out, HE.out, Hq1.out]; done), HM2.out⟩
set_option maxRecDepth 100000 in
set_option maxHeartbeats 2000000 in
theorem arm_ans (hT : Tab w0) {v : Value} {x : Arm} (hv : armV v x) : Ans 177 #[v] w0 (.bool (armI x)) := by
  intro w hw
  obtain ⟨rfl, h1, h2, h3⟩ := hv
  have HN : Hd (∀ w', Mod (fun _ => False) w w' → Calls Tryz.prog 44 #[.string x.variant] w' _) := ⟨fun w' h' => (name_ans hT h1) w' (hw.trans h' (fun _ h => Or.inl h))⟩
  have HB : Hd (∀ w', Mod (fun _ => False) w w' → Calls Tryz.prog 44 #[.string x.block] w' _) := ⟨fun w' h' => (name_ans hT h3) w' (hw.trans h' (fun _ h => Or.inl h))⟩
  have HL : Hd (∀ w', Mod (fun _ => False) w w' → Calls Tryz.prog 44 #[.string x.loc] w' _) := ⟨fun w' h' => (name_ans hT h2) w' (hw.trans h' (fun _ h => Or.inl h))⟩
  clear h1 h2 h3 hT hw
  obtain ⟨r, hr⟩ : ∃ r, armI x = r := ⟨_, rfl⟩
  have HR : Hd _ := ⟨hr⟩
  rw [hr]
  clear hr
  obtain ⟨q0, hq⟩ : ∃ q, isName (lst x.variant) = q := ⟨_, rfl⟩
  rw [hq] at HN
  have Hq0 : Hd _ := ⟨hq⟩
  clear hq
  obtain ⟨q1, hq⟩ : ∃ q, isName (lst x.block) = q := ⟨_, rfl⟩
  rw [hq] at HB
  have Hq1 : Hd _ := ⟨hq⟩
  clear hq
  obtain ⟨q2, hq⟩ : ∃ q, isName (lst x.loc) = q := ⟨_, rfl⟩
  rw [hq] at HL
  have Hq2 : Hd _ := ⟨hq⟩
  clear hq
  go_enter Tryz.func177, Tryz.ntmps177
  go_wp2_with fail
  refine (HN.out _ (by (first | exact Mod.refl _ _ | exact Mod.alloc _ _ _ | exact (Mod.alloc _ _ _).trans (Mod.alloc _ _ _) (fun _ h => Or.inl h) | exact ((Mod.alloc _ _ _).trans (Mod.alloc _ _ _) (fun _ h => Or.inl h)).trans (Mod.alloc _ _ _) (fun _ h => Or.inl h)))).mono ?_
  rintro e w1 ⟨rfl, hM⟩
  have HM1 : Hd (Mod (fun _ => False) w w1) := ⟨by refine Mod.trans ?_ hM (fun _ h => Or.inl h); (first | exact Mod.refl _ _ | exact Mod.alloc _ _ _ | exact (Mod.alloc _ _ _).trans (Mod.alloc _ _ _) (fun _ h => Or.inl h) | exact ((Mod.alloc _ _ _).trans (Mod.alloc _ _ _) (fun _ h => Or.inl h)).trans (Mod.alloc _ _ _) (fun _ h => Or.inl h))⟩
  have hb : w1.heap[w.heap.size]? = some (.cells #[.string x.variant, .string x.loc, .string x.block] 94) := (hM.block _ (by first | exact (Array.getElem?_eq_some_iff.1 (rfl : (#[0] : Array Nat)[0]? = some 0)).1 | simp) (fun h => h)).trans (heap_new' _ _)
  have HB1_0 : Hd _ := ⟨hb⟩
  have c1_0_0 : w1.cell? ⟨w.heap.size, 0, none⟩ = some (.string x.variant) := by simp [World.cell?, hb]
  have c1_0_1 : w1.cell? ⟨w.heap.size, 1, none⟩ = some (.string x.loc) := by simp [World.cell?, hb]
  have c1_0_2 : w1.cell? ⟨w.heap.size, 2, none⟩ = some (.string x.block) := by simp [World.cell?, hb]
  clear hb
  clear hM
  cases q0 with
  | false =>
    go_wp2
    go_ret
    exact ⟨by rw [show r = false from by rw [← HR.out]; simp [armI, Hq0.out]]; first | rfl | (simp; done) | (simp [Hq0.out]; done), HM1.out⟩
  | true =>
    go_wp2_with fail
    refine (HB.out _ (by (first | exact HM1.out | exact Mod.refl _ _ | exact Mod.alloc _ _ _ | exact (Mod.alloc _ _ _).trans (Mod.alloc _ _ _) (fun _ h => Or.inl h) | exact HM1.out.trans (Mod.alloc _ _ _) (fun _ h => Or.inl h)))).mono ?_
    rintro e w2 ⟨rfl, hM⟩
    have HM2 : Hd (Mod (fun _ => False) w w2) := ⟨by refine Mod.trans ?_ hM (fun _ h => Or.inl h); (first | exact HM1.out | exact Mod.refl _ _ | exact Mod.alloc _ _ _ | exact (Mod.alloc _ _ _).trans (Mod.alloc _ _ _) (fun _ h => Or.inl h) | exact HM1.out.trans (Mod.alloc _ _ _) (fun _ h => Or.inl h))⟩
    have hb : w2.heap[w.heap.size]? = some (.cells #[.string x.variant, .string x.loc, .string x.block] 94) := (hM.block _ (by first | exact (Array.getElem?_eq_some_iff.1 HB1_0.out).1 | simp) (fun h => h)).trans HB1_0.out
    have HB2_0 : Hd _ := ⟨hb⟩
    have c2_0_0 : w2.cell? ⟨w.heap.size, 0, none⟩ = some (.string x.variant) := by simp [World.cell?, hb]
    have c2_0_1 : w2.cell? ⟨w.heap.size, 1, none⟩ = some (.string x.loc) := by simp [World.cell?, hb]
    have c2_0_2 : w2.cell? ⟨w.heap.size, 2, none⟩ = some (.string x.block) := by simp [World.cell?, hb]
    clear hb
    clear c1_0_0 c1_0_1 c1_0_2
    clear hM
    cases q1 with
    | false =>
      go_wp2
      go_ret
      exact ⟨by rw [show r = false from by rw [← HR.out]; simp [armI, Hq0.out, Hq1.out]]; first | rfl | (simp; done) | (simp [Hq0.out, Hq1.out]; done), HM2.out⟩
    | true =>
      cases he : emp x.loc with
      | true =>
        have HE : Hd _ := ⟨he⟩
        obtain ⟨he2, he3⟩ := emp_t he
        clear he
        go_wp2
        go_ret
        exact ⟨by rw [show r = true from by rw [← HR.out]; simp [armI, Hq0.out, Hq1.out, HE.out]]; first | rfl | (simp; done) | (simp [Hq0.out, Hq1.out, HE.out]; done), HM2.out⟩
      | false =>
        have HE : Hd _ := ⟨he⟩
        obtain ⟨he2, he3⟩ := emp_f he
        clear he
        go_wp2_with fail
        refine (HL.out _ (by (first | exact HM2.out | exact Mod.refl _ _ | exact Mod.alloc _ _ _ | exact (Mod.alloc _ _ _).trans (Mod.alloc _ _ _) (fun _ h => Or.inl h) | exact HM2.out.trans (Mod.alloc _ _ _) (fun _ h => Or.inl h)))).mono ?_
        rintro e w3 ⟨rfl, hM⟩
        have HM3 : Hd (Mod (fun _ => False) w w3) := ⟨by refine Mod.trans ?_ hM (fun _ h => Or.inl h); (first | exact HM2.out | exact Mod.refl _ _ | exact Mod.alloc _ _ _ | exact (Mod.alloc _ _ _).trans (Mod.alloc _ _ _) (fun _ h => Or.inl h) | exact HM2.out.trans (Mod.alloc _ _ _) (fun _ h => Or.inl h))⟩
        have hb : w3.heap[w.heap.size]? = some (.cells #[.string x.variant, .string x.loc, .string x.block] 94) := (hM.block _ (by first | exact (Array.getElem?_eq_some_iff.1 HB2_0.out).1 | simp) (fun h => h)).trans HB2_0.out
        have HB3_0 : Hd _ := ⟨hb⟩
        have c3_0_0 : w3.cell? ⟨w.heap.size, 0, none⟩ = some (.string x.variant) := by simp [World.cell?, hb]
        have c3_0_1 : w3.cell? ⟨w.heap.size, 1, none⟩ = some (.string x.loc) := by simp [World.cell?, hb]
        have c3_0_2 : w3.cell? ⟨w.heap.size, 2, none⟩ = some (.string x.block) := by simp [World.cell?, hb]
        clear hb
        clear c2_0_0 c2_0_1 c2_0_2
        clear hM
        cases q2 with
        | true =>
          go_wp2
          go_ret
          exact ⟨by rw [show r = true from by rw [← HR.out]; simp [armI, Hq0.out, Hq1.out, HE.out, Hq2.out]]; first | rfl | (simp; done) | (simp [Hq0.out, Hq1.out, HE.out, Hq2.out]; done), HM3.out⟩
        | false =>
          go_wp2
          go_ret
          exact ⟨by rw [show r = false from by rw [← HR.out]; simp [armI, Hq0.out, Hq1.out, HE.out, Hq2.out]]; first | rfl | (simp; done) | (simp [Hq0.out, Hq1.out, HE.out, Hq2.out]; done), HM3.out⟩
end
end Go.Proofs.YtpodeccpibnlbaaGreatDoor
namespace Go.Proofs.YtpodeccpibnlbaaGreatDoor
set_option linter.unusedVariables false
set_option linter.unusedSimpArgs false
open Go.RowKit
section
variable {w0 : World}

def shpA (x : Shp) : Value := .agg #[.bool x.dest, .bool x.number, .bool x.name, .bool x.variant, .int .i64 (x.least : Int), .int .i64 (x.most : Int), .int .i64 (x.blocks : Int)]
theorem neq_of {k n : Int} (h : ¬ k = n) : (k == n) = false := beq_false_of_ne h

set_option maxRecDepth 100000 in
set_option maxHeartbeats 2000000 in
theorem stmtShape_ans (k : Int) : Ans 172 #[.int .i64 k] w0 (.tuple #[shpA (stmtShapeI k).1, .bool (stmtShapeI k).2]) := by
  intro w hw
  clear hw
  by_cases h1 : k = 1
  · subst h1
    have HR : Hd True := ⟨trivial⟩
    go_enter Tryz.func172, Tryz.ntmps172
    go_wp2
    exact bodyPost_ret (v := .tuple #[.agg #[.bool true, .bool true, .bool false, .bool false, .int .i64 0, .int .i64 0, .int .i64 0], .bool true]) (by simp [results, Tryz.f172, go_sem]) rfl ⟨by first | rfl | rw [HR.out]; rfl, Mod.alloc _ _ _⟩
  · skip
    by_cases h2 : k = 2
    · subst h2
      have HR : Hd True := ⟨trivial⟩
      go_enter Tryz.func172, Tryz.ntmps172
      go_wp2
      exact bodyPost_ret (v := .tuple #[.agg #[.bool true, .bool false, .bool false, .bool false, .int .i64 2, .int .i64 2, .int .i64 0], .bool true]) (by simp [results, Tryz.f172, go_sem]) rfl ⟨by first | rfl | rw [HR.out]; rfl, Mod.alloc _ _ _⟩
    · skip
      by_cases h3 : k = 3
      · subst h3
        have HR : Hd True := ⟨trivial⟩
        go_enter Tryz.func172, Tryz.ntmps172
        go_wp2
        exact bodyPost_ret (v := .tuple #[.agg #[.bool true, .bool false, .bool false, .bool false, .int .i64 2, .int .i64 2, .int .i64 0], .bool true]) (by simp [results, Tryz.f172, go_sem]) rfl ⟨by first | rfl | rw [HR.out]; rfl, Mod.alloc _ _ _⟩
      · skip
        by_cases h4 : k = 4
        · subst h4
          have HR : Hd True := ⟨trivial⟩
          go_enter Tryz.func172, Tryz.ntmps172
          go_wp2
          exact bodyPost_ret (v := .tuple #[.agg #[.bool true, .bool false, .bool false, .bool false, .int .i64 2, .int .i64 2, .int .i64 0], .bool true]) (by simp [results, Tryz.f172, go_sem]) rfl ⟨by first | rfl | rw [HR.out]; rfl, Mod.alloc _ _ _⟩
        · skip
          by_cases h5 : k = 5
          · subst h5
            have HR : Hd True := ⟨trivial⟩
            go_enter Tryz.func172, Tryz.ntmps172
            go_wp2
            exact bodyPost_ret (v := .tuple #[.agg #[.bool true, .bool false, .bool false, .bool false, .int .i64 1, .int .i64 1, .int .i64 0], .bool true]) (by simp [results, Tryz.f172, go_sem]) rfl ⟨by first | rfl | rw [HR.out]; rfl, Mod.alloc _ _ _⟩
          · skip
            by_cases h6 : k = 6
            · subst h6
              have HR : Hd True := ⟨trivial⟩
              go_enter Tryz.func172, Tryz.ntmps172
              go_wp2
              exact bodyPost_ret (v := .tuple #[.agg #[.bool true, .bool false, .bool false, .bool false, .int .i64 1, .int .i64 1, .int .i64 0], .bool true]) (by simp [results, Tryz.f172, go_sem]) rfl ⟨by first | rfl | rw [HR.out]; rfl, Mod.alloc _ _ _⟩
            · skip
              by_cases h9 : k = 9
              · subst h9
                have HR : Hd True := ⟨trivial⟩
                go_enter Tryz.func172, Tryz.ntmps172
                go_wp2
                exact bodyPost_ret (v := .tuple #[.agg #[.bool true, .bool false, .bool false, .bool false, .int .i64 1, .int .i64 1, .int .i64 0], .bool true]) (by simp [results, Tryz.f172, go_sem]) rfl ⟨by first | rfl | rw [HR.out]; rfl, Mod.alloc _ _ _⟩
              · skip
                by_cases h10 : k = 10
                · subst h10
                  have HR : Hd True := ⟨trivial⟩
                  go_enter Tryz.func172, Tryz.ntmps172
                  go_wp2
                  exact bodyPost_ret (v := .tuple #[.agg #[.bool true, .bool false, .bool false, .bool false, .int .i64 1, .int .i64 1, .int .i64 0], .bool true]) (by simp [results, Tryz.f172, go_sem]) rfl ⟨by first | rfl | rw [HR.out]; rfl, Mod.alloc _ _ _⟩
                · skip
                  by_cases h7 : k = 7
                  · subst h7
                    have HR : Hd True := ⟨trivial⟩
                    go_enter Tryz.func172, Tryz.ntmps172
                    go_wp2
                    exact bodyPost_ret (v := .tuple #[.agg #[.bool true, .bool false, .bool true, .bool false, .int .i64 0, .int .i64 16, .int .i64 0], .bool true]) (by simp [results, Tryz.f172, go_sem]) rfl ⟨by first | rfl | rw [HR.out]; rfl, Mod.alloc _ _ _⟩
                  · skip
                    by_cases h8 : k = 8
                    · subst h8
                      have HR : Hd True := ⟨trivial⟩
                      go_enter Tryz.func172, Tryz.ntmps172
                      go_wp2
                      exact bodyPost_ret (v := .tuple #[.agg #[.bool true, .bool false, .bool true, .bool true, .int .i64 0, .int .i64 1, .int .i64 0], .bool true]) (by simp [results, Tryz.f172, go_sem]) rfl ⟨by first | rfl | rw [HR.out]; rfl, Mod.alloc _ _ _⟩
                    · skip
                      by_cases h11 : k = 11
                      · subst h11
                        have HR : Hd True := ⟨trivial⟩
                        go_enter Tryz.func172, Tryz.ntmps172
                        go_wp2
                        exact bodyPost_ret (v := .tuple #[.agg #[.bool false, .bool false, .bool false, .bool false, .int .i64 1, .int .i64 1, .int .i64 0], .bool true]) (by simp [results, Tryz.f172, go_sem]) rfl ⟨by first | rfl | rw [HR.out]; rfl, Mod.alloc _ _ _⟩
                      · skip
                        have HR : Hd (stmtShapeI k = (⟨false, false, false, false, 0, 0, 0⟩, false)) := ⟨by simp [stmtShapeI, h1, h2, h3, h4, h5, h6, h9, h10, h7, h8, h11]⟩
                        have e1 := neq_of h1
                        have e2 := neq_of h2
                        have e3 := neq_of h3
                        have e4 := neq_of h4
                        have e5 := neq_of h5
                        have e6 := neq_of h6
                        have e9 := neq_of h9
                        have e10 := neq_of h10
                        have e7 := neq_of h7
                        have e8 := neq_of h8
                        have e11 := neq_of h11
                        clear h1 h2 h3 h4 h5 h6 h9 h10 h7 h8 h11
                        go_enter Tryz.func172, Tryz.ntmps172
                        go_wp2
                        exact bodyPost_ret (v := .tuple #[.agg #[.bool false, .bool false, .bool false, .bool false, .int .i64 0, .int .i64 0, .int .i64 0], .bool false]) (by simp [results, Tryz.f172, go_sem]) rfl ⟨by first | rfl | rw [HR.out]; rfl, Mod.alloc _ _ _⟩

set_option maxRecDepth 100000 in
set_option maxHeartbeats 2000000 in
theorem termShape_ans (k : Int) : Ans 175 #[.int .i64 k] w0 (.tuple #[shpA (termShapeI k).1, .bool (termShapeI k).2]) := by
  intro w hw
  clear hw
  by_cases h1 : k = 1
  · subst h1
    have HR : Hd True := ⟨trivial⟩
    go_enter Tryz.func175, Tryz.ntmps175
    go_wp2
    exact bodyPost_ret (v := .tuple #[.agg #[.bool false, .bool false, .bool false, .bool false, .int .i64 0, .int .i64 0, .int .i64 1], .bool true]) (by simp [results, Tryz.f175, go_sem]) rfl ⟨by first | rfl | rw [HR.out]; rfl, Mod.alloc _ _ _⟩
  · skip
    by_cases h4 : k = 4
    · subst h4
      have HR : Hd True := ⟨trivial⟩
      go_enter Tryz.func175, Tryz.ntmps175
      go_wp2
      exact bodyPost_ret (v := .tuple #[.agg #[.bool false, .bool false, .bool false, .bool false, .int .i64 0, .int .i64 0, .int .i64 1], .bool true]) (by simp [results, Tryz.f175, go_sem]) rfl ⟨by first | rfl | rw [HR.out]; rfl, Mod.alloc _ _ _⟩
    · skip
      by_cases h2 : k = 2
      · subst h2
        have HR : Hd True := ⟨trivial⟩
        go_enter Tryz.func175, Tryz.ntmps175
        go_wp2
        exact bodyPost_ret (v := .tuple #[.agg #[.bool false, .bool false, .bool false, .bool false, .int .i64 1, .int .i64 1, .int .i64 2], .bool true]) (by simp [results, Tryz.f175, go_sem]) rfl ⟨by first | rfl | rw [HR.out]; rfl, Mod.alloc _ _ _⟩
      · skip
        by_cases h3 : k = 3
        · subst h3
          have HR : Hd True := ⟨trivial⟩
          go_enter Tryz.func175, Tryz.ntmps175
          go_wp2
          exact bodyPost_ret (v := .tuple #[.agg #[.bool false, .bool false, .bool false, .bool false, .int .i64 1, .int .i64 1, .int .i64 0], .bool true]) (by simp [results, Tryz.f175, go_sem]) rfl ⟨by first | rfl | rw [HR.out]; rfl, Mod.alloc _ _ _⟩
        · skip
          by_cases h7 : k = 7
          · subst h7
            have HR : Hd True := ⟨trivial⟩
            go_enter Tryz.func175, Tryz.ntmps175
            go_wp2
            exact bodyPost_ret (v := .tuple #[.agg #[.bool false, .bool false, .bool false, .bool false, .int .i64 1, .int .i64 1, .int .i64 0], .bool true]) (by simp [results, Tryz.f175, go_sem]) rfl ⟨by first | rfl | rw [HR.out]; rfl, Mod.alloc _ _ _⟩
          · skip
            by_cases h5 : k = 5
            · subst h5
              have HR : Hd True := ⟨trivial⟩
              go_enter Tryz.func175, Tryz.ntmps175
              go_wp2
              exact bodyPost_ret (v := .tuple #[.agg #[.bool true, .bool false, .bool true, .bool false, .int .i64 0, .int .i64 16, .int .i64 1], .bool true]) (by simp [results, Tryz.f175, go_sem]) rfl ⟨by first | rfl | rw [HR.out]; rfl, Mod.alloc _ _ _⟩
            · skip
              by_cases h6 : k = 6
              · subst h6
                have HR : Hd True := ⟨trivial⟩
                go_enter Tryz.func175, Tryz.ntmps175
                go_wp2
                exact bodyPost_ret (v := .tuple #[.agg #[.bool true, .bool false, .bool true, .bool false, .int .i64 0, .int .i64 16, .int .i64 1], .bool true]) (by simp [results, Tryz.f175, go_sem]) rfl ⟨by first | rfl | rw [HR.out]; rfl, Mod.alloc _ _ _⟩
              · skip
                have HR : Hd (termShapeI k = (⟨false, false, false, false, 0, 0, 0⟩, false)) := ⟨by simp [termShapeI, h1, h4, h2, h3, h7, h5, h6]⟩
                have e1 := neq_of h1
                have e4 := neq_of h4
                have e2 := neq_of h2
                have e3 := neq_of h3
                have e7 := neq_of h7
                have e5 := neq_of h5
                have e6 := neq_of h6
                clear h1 h4 h2 h3 h7 h5 h6
                go_enter Tryz.func175, Tryz.ntmps175
                go_wp2
                exact bodyPost_ret (v := .tuple #[.agg #[.bool false, .bool false, .bool false, .bool false, .int .i64 0, .int .i64 0, .int .i64 0], .bool false]) (by simp [results, Tryz.f175, go_sem]) rfl ⟨by first | rfl | rw [HR.out]; rfl, Mod.alloc _ _ _⟩
end
end Go.Proofs.YtpodeccpibnlbaaGreatDoor
namespace Go.Proofs.YtpodeccpibnlbaaGreatDoor
set_option linter.unusedVariables false
set_option linter.unusedSimpArgs false
open Go.RowKit
section
variable {S : Nat → Prop} {w0 : World}

set_option maxRecDepth 100000 in
theorem named_ans (hT : Tab w0) {s : ByteArray} (h : Sm s) (t : Bool) : Ans 173 #[.string s, .bool t] w0 (.bool (namedI s t)) := by
  intro w hw
  have HN : Hd (∀ w', Mod (fun _ => False) w w' → Calls Tryz.prog 44 #[.string s] w' _) := ⟨fun w' h' => (name_ans hT h) w' (hw.trans h' (fun _ h => Or.inl h))⟩
  clear h hT hw
  obtain ⟨r, hr⟩ : ∃ r, namedI s t = r := ⟨_, rfl⟩
  have HR : Hd _ := ⟨hr⟩
  rw [hr]
  clear hr
  cases t with
  | true =>
    go_enter Tryz.func173, Tryz.ntmps173
    go_wp2_with fail
    refine (HN.out _ (by (first | exact Mod.refl _ _))).mono ?_
    rintro e w1 ⟨rfl, hM⟩
    have HM1 : Hd (Mod (fun _ => False) w w1) := ⟨by refine Mod.trans ?_ hM (fun _ h => Or.inl h); (first | exact Mod.refl _ _)⟩
    clear hM
    go_wp2
    go_ret
    exact ⟨by rw [← HR.out]; rfl, HM1.out⟩
  | false =>
    cases he : emp s with
    | true =>
      have HE : Hd _ := ⟨he⟩
      obtain ⟨he2, he3⟩ := emp_t he
      clear he
      go_enter Tryz.func173, Tryz.ntmps173
      go_wp2
      go_ret
      exact ⟨by rw [show r = true from by rw [← HR.out]; simp [namedI, HE.out]]; first | rfl | (simp; done), Mod.refl _ _⟩
    | false =>
      have HE : Hd _ := ⟨he⟩
      obtain ⟨he2, he3⟩ := emp_f he
      clear he
      go_enter Tryz.func173, Tryz.ntmps173
      go_wp2
      go_ret
      exact ⟨by rw [show r = false from by rw [← HR.out]; simp [namedI, HE.out]]; first | rfl | (simp; done), Mod.refl _ _⟩

set_option maxRecDepth 100000 in
set_option maxHeartbeats 4000000 in
theorem fits_ans (hT : Tab w0) (x : Shp) {v : Value} {p : Pl} (hv : plV S w0 v p) {s : ByteArray} (hs : Sm s) {ob : Option Addr} {lb cb : Nat} {args : List Pl} (ha : Pls S w0 ob lb cb args) :
    Ans 174 #[shpA x, v, .string s, .slice ob lb cb] w0 (.bool (fitsI x p s args)) := by
  intro w hw
  unfold shpA
  have HZ : Hd (∀ w', Mod (fun _ => False) w w' → Calls Tryz.prog 188 #[v] w' _) := ⟨fun w' h' => (none_ans hv) w' (hw.trans h' (fun _ h => Or.inl h))⟩
  have HP : Hd (∀ w', Mod (fun _ => False) w w' → Calls Tryz.prog 37 #[v] w' _) := ⟨fun w' h' => (place_ans hT hv) w' (hw.trans h' (fun _ h => Or.inl h))⟩
  have HN : Hd (∀ t w', Mod (fun _ => False) w w' → Calls Tryz.prog 173 #[.string s, .bool t] w' _) := ⟨fun t w' h' => (named_ans hT hs t) w' (hw.trans h' (fun _ h => Or.inl h))⟩
  have HA : Hd (∀ w', Mod (fun _ => False) w w' → Calls Tryz.prog 189 #[.slice ob lb cb, .func (.func 37) #[] #[]] w' _) := ⟨fun w' h' => (all_pl ha placeI 37 fn_37 (fun v x hv _ => place_ans hT hv)) w' (hw.trans h' (fun _ h => Or.inl h))⟩
  obtain ⟨h1, oa, len, cap, rfl, h2⟩ := hv
  have hlen := h2.hlen
  subst hlen
  have hlen := ha.hlen
  have hbig := ha.hbig
  subst hlen
  clear h1 h2 hT hw ha hs
  obtain ⟨r, hr⟩ : ∃ r, fitsI x p s args = r := ⟨_, rfl⟩
  have HR : Hd _ := ⟨hr⟩
  rw [hr]
  clear hr
  obtain ⟨d, hd⟩ : ∃ d, x.dest = d := ⟨_, rfl⟩
  have HD : Hd _ := ⟨hd⟩
  rw [hd]
  clear hd
  obtain ⟨nm, hnm⟩ : ∃ d, x.name = d := ⟨_, rfl⟩
  have HNM : Hd _ := ⟨hnm⟩
  rw [hnm]
  clear hnm
  have HN2 : Hd (∀ w', Mod (fun _ => False) w w' → Calls Tryz.prog 173 #[.string s, .bool nm] w' _) := ⟨HN.out nm⟩
  clear HN
  obtain ⟨q0, hq⟩ : ∃ q, noneI p = q := ⟨_, rfl⟩
  rw [hq] at HZ
  have Hq0 : Hd _ := ⟨hq⟩
  clear hq
  obtain ⟨q1, hq⟩ : ∃ q, placeI p = q := ⟨_, rfl⟩
  rw [hq] at HP
  have Hq1 : Hd _ := ⟨hq⟩
  clear hq
  obtain ⟨q2, hq⟩ : ∃ q, namedI s nm = q := ⟨_, rfl⟩
  rw [hq] at HN2
  have Hq2 : Hd _ := ⟨hq⟩
  clear hq
  obtain ⟨q3, hq⟩ : ∃ q, args.all placeI = q := ⟨_, rfl⟩
  rw [hq] at HA
  have Hq3 : Hd _ := ⟨hq⟩
  clear hq
  cases d with
  | false =>
    go_enter Tryz.func174, Tryz.ntmps174
    go_wp2_with fail
    refine (HZ.out _ (by (first | exact (Mod.alloc _ _ _).trans (Mod.alloc _ _ _) (fun _ h => Or.inl h)))).mono ?_
    rintro e w1 ⟨rfl, hM⟩
    have HM1 : Hd (Mod (fun _ => False) w w1) := ⟨by refine Mod.trans ?_ hM (fun _ h => Or.inl h); (first | exact (Mod.alloc _ _ _).trans (Mod.alloc _ _ _) (fun _ h => Or.inl h))⟩
    have hb : w1.heap[w.heap.size]? = some (.cells #[.bool false, .bool x.number, .bool nm, .bool x.variant, .int .i64 (x.least : Int), .int .i64 (x.most : Int), .int .i64 (x.blocks : Int)] 187) := (hM.block _ (lt2_0 _ _ _) (fun h => h)).trans (heap2_0 _ _ _)
    have HB1_0 : Hd _ := ⟨hb⟩
    have c1_0_0 : w1.cell? ⟨w.heap.size, 0, none⟩ = some (.bool false) := by simp [World.cell?, hb]
    have c1_0_1 : w1.cell? ⟨w.heap.size, 1, none⟩ = some (.bool x.number) := by simp [World.cell?, hb]
    have c1_0_2 : w1.cell? ⟨w.heap.size, 2, none⟩ = some (.bool nm) := by simp [World.cell?, hb]
    have c1_0_3 : w1.cell? ⟨w.heap.size, 3, none⟩ = some (.bool x.variant) := by simp [World.cell?, hb]
    have c1_0_4 : w1.cell? ⟨w.heap.size, 4, none⟩ = some (.int .i64 (x.least : Int)) := by simp [World.cell?, hb]
    have c1_0_5 : w1.cell? ⟨w.heap.size, 5, none⟩ = some (.int .i64 (x.most : Int)) := by simp [World.cell?, hb]
    have c1_0_6 : w1.cell? ⟨w.heap.size, 6, none⟩ = some (.int .i64 (x.blocks : Int)) := by simp [World.cell?, hb]
    clear hb
    have hb : w1.heap[w.heap.size + 1]? = some (.cells #[.string p.loc, .slice oa p.steps.length cap] 24) := (hM.block _ (lt2_1 _ _ _) (fun h => h)).trans (heap2_1 _ _ _)
    have HB1_1 : Hd _ := ⟨hb⟩
    have c1_1_0 : w1.cell? ⟨w.heap.size + 1, 0, none⟩ = some (.string p.loc) := by simp [World.cell?, hb]
    have c1_1_1 : w1.cell? ⟨w.heap.size + 1, 1, none⟩ = some (.slice oa p.steps.length cap) := by simp [World.cell?, hb]
    clear hb
    clear hM
    cases q0 with
    | false =>
      go_wp2
      go_ret
      exact ⟨by rw [show r = false from by rw [← HR.out]; simp [fitsI, HD.out, HNM.out, Hq0.out]]; first | rfl | (simp; done) | (simp [HD.out, HNM.out, Hq0.out]; done), by (first | exact HM1.out | exact Mod.refl _ _)⟩
    | true =>
      go_wp2_with fail
      refine (HN2.out _ (by (first | exact HM1.out | exact Mod.refl _ _))).mono ?_
      rintro e w2 ⟨rfl, hM⟩
      have HM2 : Hd (Mod (fun _ => False) w w2) := ⟨by refine Mod.trans ?_ hM (fun _ h => Or.inl h); (first | exact HM1.out | exact Mod.refl _ _)⟩
      have hb : w2.heap[w.heap.size]? = some (.cells #[.bool false, .bool x.number, .bool nm, .bool x.variant, .int .i64 (x.least : Int), .int .i64 (x.most : Int), .int .i64 (x.blocks : Int)] 187) := (hM.block _ ((Array.getElem?_eq_some_iff.1 HB1_0.out).1) (fun h => h)).trans HB1_0.out
      have HB2_0 : Hd _ := ⟨hb⟩
      have c2_0_0 : w2.cell? ⟨w.heap.size, 0, none⟩ = some (.bool false) := by simp [World.cell?, hb]
      have c2_0_1 : w2.cell? ⟨w.heap.size, 1, none⟩ = some (.bool x.number) := by simp [World.cell?, hb]
      have c2_0_2 : w2.cell? ⟨w.heap.size, 2, none⟩ = some (.bool nm) := by simp [World.cell?, hb]
      have c2_0_3 : w2.cell? ⟨w.heap.size, 3, none⟩ = some (.bool x.variant) := by simp [World.cell?, hb]
      have c2_0_4 : w2.cell? ⟨w.heap.size, 4, none⟩ = some (.int .i64 (x.least : Int)) := by simp [World.cell?, hb]
      have c2_0_5 : w2.cell? ⟨w.heap.size, 5, none⟩ = some (.int .i64 (x.most : Int)) := by simp [World.cell?, hb]
      have c2_0_6 : w2.cell? ⟨w.heap.size, 6, none⟩ = some (.int .i64 (x.blocks : Int)) := by simp [World.cell?, hb]
      clear hb
      clear c1_0_0 c1_0_1 c1_0_2 c1_0_3 c1_0_4 c1_0_5 c1_0_6
      have hb : w2.heap[w.heap.size + 1]? = some (.cells #[.string p.loc, .slice oa p.steps.length cap] 24) := (hM.block _ ((Array.getElem?_eq_some_iff.1 HB1_1.out).1) (fun h => h)).trans HB1_1.out
      have HB2_1 : Hd _ := ⟨hb⟩
      have c2_1_0 : w2.cell? ⟨w.heap.size + 1, 0, none⟩ = some (.string p.loc) := by simp [World.cell?, hb]
      have c2_1_1 : w2.cell? ⟨w.heap.size + 1, 1, none⟩ = some (.slice oa p.steps.length cap) := by simp [World.cell?, hb]
      clear hb
      clear c1_1_0 c1_1_1
      clear hM
      cases q2 with
      | true =>
        by_cases t0 : x.least ≤ args.length
        · have Ht0 : Hd _ := ⟨t0⟩
          by_cases t1 : args.length ≤ x.most
          · have Ht1 : Hd _ := ⟨t1⟩
            go_wp2_with fail
            refine (HA.out _ (by (first | exact HM2.out | exact Mod.refl _ _))).mono ?_
            rintro e w3 ⟨rfl, hM⟩
            have HM3 : Hd (Mod (fun _ => False) w w3) := ⟨by refine Mod.trans ?_ hM (fun _ h => Or.inl h); (first | exact HM2.out | exact Mod.refl _ _)⟩
            have hb : w3.heap[w.heap.size]? = some (.cells #[.bool false, .bool x.number, .bool nm, .bool x.variant, .int .i64 (x.least : Int), .int .i64 (x.most : Int), .int .i64 (x.blocks : Int)] 187) := (hM.block _ ((Array.getElem?_eq_some_iff.1 HB2_0.out).1) (fun h => h)).trans HB2_0.out
            have HB3_0 : Hd _ := ⟨hb⟩
            have c3_0_0 : w3.cell? ⟨w.heap.size, 0, none⟩ = some (.bool false) := by simp [World.cell?, hb]
            have c3_0_1 : w3.cell? ⟨w.heap.size, 1, none⟩ = some (.bool x.number) := by simp [World.cell?, hb]
            have c3_0_2 : w3.cell? ⟨w.heap.size, 2, none⟩ = some (.bool nm) := by simp [World.cell?, hb]
            have c3_0_3 : w3.cell? ⟨w.heap.size, 3, none⟩ = some (.bool x.variant) := by simp [World.cell?, hb]
            have c3_0_4 : w3.cell? ⟨w.heap.size, 4, none⟩ = some (.int .i64 (x.least : Int)) := by simp [World.cell?, hb]
            have c3_0_5 : w3.cell? ⟨w.heap.size, 5, none⟩ = some (.int .i64 (x.most : Int)) := by simp [World.cell?, hb]
            have c3_0_6 : w3.cell? ⟨w.heap.size, 6, none⟩ = some (.int .i64 (x.blocks : Int)) := by simp [World.cell?, hb]
            clear hb
            clear c2_0_0 c2_0_1 c2_0_2 c2_0_3 c2_0_4 c2_0_5 c2_0_6
            have hb : w3.heap[w.heap.size + 1]? = some (.cells #[.string p.loc, .slice oa p.steps.length cap] 24) := (hM.block _ ((Array.getElem?_eq_some_iff.1 HB2_1.out).1) (fun h => h)).trans HB2_1.out
            have HB3_1 : Hd _ := ⟨hb⟩
            have c3_1_0 : w3.cell? ⟨w.heap.size + 1, 0, none⟩ = some (.string p.loc) := by simp [World.cell?, hb]
            have c3_1_1 : w3.cell? ⟨w.heap.size + 1, 1, none⟩ = some (.slice oa p.steps.length cap) := by simp [World.cell?, hb]
            clear hb
            clear c2_1_0 c2_1_1
            clear hM
            cases q3 with
            | true =>
              go_wp2
              go_ret
              exact ⟨by rw [show r = true from by rw [← HR.out]; simp [fitsI, HD.out, HNM.out, Hq0.out, Hq2.out, Ht0.out, Ht1.out, Hq3.out]]; first | rfl | (simp; done) | (simp [HD.out, HNM.out, Hq0.out, Hq2.out, Ht0.out, Ht1.out, Hq3.out]; done), by (first | exact HM3.out | exact Mod.refl _ _)⟩
            | false =>
              go_wp2
              go_ret
              exact ⟨by rw [show r = false from by rw [← HR.out]; simp [fitsI, HD.out, HNM.out, Hq0.out, Hq2.out, Ht0.out, Ht1.out, Hq3.out]]; first | rfl | (simp; done) | (simp [HD.out, HNM.out, Hq0.out, Hq2.out, Ht0.out, Ht1.out, Hq3.out]; done), by (first | exact HM3.out | exact Mod.refl _ _)⟩
          · have Ht1 : Hd _ := ⟨t1⟩
            go_wp2
            go_ret
            exact ⟨by rw [show r = false from by rw [← HR.out]; simp [fitsI, HD.out, HNM.out, Hq0.out, Hq2.out, Ht0.out, Ht1.out]]; first | rfl | (simp; done) | (simp [HD.out, HNM.out, Hq0.out, Hq2.out, Ht0.out, Ht1.out]; done), by (first | exact HM2.out | exact Mod.refl _ _)⟩
        · have Ht0 : Hd _ := ⟨t0⟩
          go_wp2
          go_ret
          exact ⟨by rw [show r = false from by rw [← HR.out]; simp [fitsI, HD.out, HNM.out, Hq0.out, Hq2.out, Ht0.out]]; first | rfl | (simp; done) | (simp [HD.out, HNM.out, Hq0.out, Hq2.out, Ht0.out]; done), by (first | exact HM2.out | exact Mod.refl _ _)⟩
      | false =>
        go_wp2
        go_ret
        exact ⟨by rw [show r = false from by rw [← HR.out]; simp [fitsI, HD.out, HNM.out, Hq0.out, Hq2.out]]; first | rfl | (simp; done) | (simp [HD.out, HNM.out, Hq0.out, Hq2.out]; done), by (first | exact HM2.out | exact Mod.refl _ _)⟩
  | true =>
    go_enter Tryz.func174, Tryz.ntmps174
    go_wp2_with fail
    refine (HZ.out _ (by (first | exact (Mod.alloc _ _ _).trans (Mod.alloc _ _ _) (fun _ h => Or.inl h)))).mono ?_
    rintro e w1 ⟨rfl, hM⟩
    have HM1 : Hd (Mod (fun _ => False) w w1) := ⟨by refine Mod.trans ?_ hM (fun _ h => Or.inl h); (first | exact (Mod.alloc _ _ _).trans (Mod.alloc _ _ _) (fun _ h => Or.inl h))⟩
    have hb : w1.heap[w.heap.size]? = some (.cells #[.bool true, .bool x.number, .bool nm, .bool x.variant, .int .i64 (x.least : Int), .int .i64 (x.most : Int), .int .i64 (x.blocks : Int)] 187) := (hM.block _ (lt2_0 _ _ _) (fun h => h)).trans (heap2_0 _ _ _)
    have HB1_0 : Hd _ := ⟨hb⟩
    have c1_0_0 : w1.cell? ⟨w.heap.size, 0, none⟩ = some (.bool true) := by simp [World.cell?, hb]
    have c1_0_1 : w1.cell? ⟨w.heap.size, 1, none⟩ = some (.bool x.number) := by simp [World.cell?, hb]
    have c1_0_2 : w1.cell? ⟨w.heap.size, 2, none⟩ = some (.bool nm) := by simp [World.cell?, hb]
    have c1_0_3 : w1.cell? ⟨w.heap.size, 3, none⟩ = some (.bool x.variant) := by simp [World.cell?, hb]
    have c1_0_4 : w1.cell? ⟨w.heap.size, 4, none⟩ = some (.int .i64 (x.least : Int)) := by simp [World.cell?, hb]
    have c1_0_5 : w1.cell? ⟨w.heap.size, 5, none⟩ = some (.int .i64 (x.most : Int)) := by simp [World.cell?, hb]
    have c1_0_6 : w1.cell? ⟨w.heap.size, 6, none⟩ = some (.int .i64 (x.blocks : Int)) := by simp [World.cell?, hb]
    clear hb
    have hb : w1.heap[w.heap.size + 1]? = some (.cells #[.string p.loc, .slice oa p.steps.length cap] 24) := (hM.block _ (lt2_1 _ _ _) (fun h => h)).trans (heap2_1 _ _ _)
    have HB1_1 : Hd _ := ⟨hb⟩
    have c1_1_0 : w1.cell? ⟨w.heap.size + 1, 0, none⟩ = some (.string p.loc) := by simp [World.cell?, hb]
    have c1_1_1 : w1.cell? ⟨w.heap.size + 1, 1, none⟩ = some (.slice oa p.steps.length cap) := by simp [World.cell?, hb]
    clear hb
    clear hM
    go_wp2_with fail
    refine (HP.out _ (by (first | exact HM1.out | exact Mod.refl _ _))).mono ?_
    rintro e w2 ⟨rfl, hM⟩
    have HM2 : Hd (Mod (fun _ => False) w w2) := ⟨by refine Mod.trans ?_ hM (fun _ h => Or.inl h); (first | exact HM1.out | exact Mod.refl _ _)⟩
    have hb : w2.heap[w.heap.size]? = some (.cells #[.bool true, .bool x.number, .bool nm, .bool x.variant, .int .i64 (x.least : Int), .int .i64 (x.most : Int), .int .i64 (x.blocks : Int)] 187) := (hM.block _ ((Array.getElem?_eq_some_iff.1 HB1_0.out).1) (fun h => h)).trans HB1_0.out
    have HB2_0 : Hd _ := ⟨hb⟩
    have c2_0_0 : w2.cell? ⟨w.heap.size, 0, none⟩ = some (.bool true) := by simp [World.cell?, hb]
    have c2_0_1 : w2.cell? ⟨w.heap.size, 1, none⟩ = some (.bool x.number) := by simp [World.cell?, hb]
    have c2_0_2 : w2.cell? ⟨w.heap.size, 2, none⟩ = some (.bool nm) := by simp [World.cell?, hb]
    have c2_0_3 : w2.cell? ⟨w.heap.size, 3, none⟩ = some (.bool x.variant) := by simp [World.cell?, hb]
    have c2_0_4 : w2.cell? ⟨w.heap.size, 4, none⟩ = some (.int .i64 (x.least : Int)) := by simp [World.cell?, hb]
    have c2_0_5 : w2.cell? ⟨w.heap.size, 5, none⟩ = some (.int .i64 (x.most : Int)) := by simp [World.cell?, hb]
    have c2_0_6 : w2.cell? ⟨w.heap.size, 6, none⟩ = some (.int .i64 (x.blocks : Int)) := by simp [World.cell?, hb]
    clear hb
    clear c1_0_0 c1_0_1 c1_0_2 c1_0_3 c1_0_4 c1_0_5 c1_0_6
    have hb : w2.heap[w.heap.size + 1]? = some (.cells #[.string p.loc, .slice oa p.steps.length cap] 24) := (hM.block _ ((Array.getElem?_eq_some_iff.1 HB1_1.out).1) (fun h => h)).trans HB1_1.out
    have HB2_1 : Hd _ := ⟨hb⟩
    have c2_1_0 : w2.cell? ⟨w.heap.size + 1, 0, none⟩ = some (.string p.loc) := by simp [World.cell?, hb]
    have c2_1_1 : w2.cell? ⟨w.heap.size + 1, 1, none⟩ = some (.slice oa p.steps.length cap) := by simp [World.cell?, hb]
    clear hb
    clear c1_1_0 c1_1_1
    clear hM
    cases q1 with
    | false =>
      go_wp2
      go_ret
      exact ⟨by rw [show r = false from by rw [← HR.out]; simp [fitsI, HD.out, HNM.out, Hq1.out]]; first | rfl | (simp; done) | (simp [HD.out, HNM.out, Hq1.out]; done), by (first | exact HM2.out | exact Mod.refl _ _)⟩
    | true =>
      go_wp2_with fail
      refine (HN2.out _ (by (first | exact HM2.out | exact Mod.refl _ _))).mono ?_
      rintro e w3 ⟨rfl, hM⟩
      have HM3 : Hd (Mod (fun _ => False) w w3) := ⟨by refine Mod.trans ?_ hM (fun _ h => Or.inl h); (first | exact HM2.out | exact Mod.refl _ _)⟩
      have hb : w3.heap[w.heap.size]? = some (.cells #[.bool true, .bool x.number, .bool nm, .bool x.variant, .int .i64 (x.least : Int), .int .i64 (x.most : Int), .int .i64 (x.blocks : Int)] 187) := (hM.block _ ((Array.getElem?_eq_some_iff.1 HB2_0.out).1) (fun h => h)).trans HB2_0.out
      have HB3_0 : Hd _ := ⟨hb⟩
      have c3_0_0 : w3.cell? ⟨w.heap.size, 0, none⟩ = some (.bool true) := by simp [World.cell?, hb]
      have c3_0_1 : w3.cell? ⟨w.heap.size, 1, none⟩ = some (.bool x.number) := by simp [World.cell?, hb]
      have c3_0_2 : w3.cell? ⟨w.heap.size, 2, none⟩ = some (.bool nm) := by simp [World.cell?, hb]
      have c3_0_3 : w3.cell? ⟨w.heap.size, 3, none⟩ = some (.bool x.variant) := by simp [World.cell?, hb]
      have c3_0_4 : w3.cell? ⟨w.heap.size, 4, none⟩ = some (.int .i64 (x.least : Int)) := by simp [World.cell?, hb]
      have c3_0_5 : w3.cell? ⟨w.heap.size, 5, none⟩ = some (.int .i64 (x.most : Int)) := by simp [World.cell?, hb]
      have c3_0_6 : w3.cell? ⟨w.heap.size, 6, none⟩ = some (.int .i64 (x.blocks : Int)) := by simp [World.cell?, hb]
      clear hb
      clear c2_0_0 c2_0_1 c2_0_2 c2_0_3 c2_0_4 c2_0_5 c2_0_6
      have hb : w3.heap[w.heap.size + 1]? = some (.cells #[.string p.loc, .slice oa p.steps.length cap] 24) := (hM.block _ ((Array.getElem?_eq_some_iff.1 HB2_1.out).1) (fun h => h)).trans HB2_1.out
      have HB3_1 : Hd _ := ⟨hb⟩
      have c3_1_0 : w3.cell? ⟨w.heap.size + 1, 0, none⟩ = some (.string p.loc) := by simp [World.cell?, hb]
      have c3_1_1 : w3.cell? ⟨w.heap.size + 1, 1, none⟩ = some (.slice oa p.steps.length cap) := by simp [World.cell?, hb]
      clear hb
      clear c2_1_0 c2_1_1
      clear hM
      cases q2 with
      | true =>
        by_cases t0 : x.least ≤ args.length
        · have Ht0 : Hd _ := ⟨t0⟩
          by_cases t1 : args.length ≤ x.most
          · have Ht1 : Hd _ := ⟨t1⟩
            go_wp2_with fail
            refine (HA.out _ (by (first | exact HM3.out | exact Mod.refl _ _))).mono ?_
            rintro e w4 ⟨rfl, hM⟩
            have HM4 : Hd (Mod (fun _ => False) w w4) := ⟨by refine Mod.trans ?_ hM (fun _ h => Or.inl h); (first | exact HM3.out | exact Mod.refl _ _)⟩
            have hb : w4.heap[w.heap.size]? = some (.cells #[.bool true, .bool x.number, .bool nm, .bool x.variant, .int .i64 (x.least : Int), .int .i64 (x.most : Int), .int .i64 (x.blocks : Int)] 187) := (hM.block _ ((Array.getElem?_eq_some_iff.1 HB3_0.out).1) (fun h => h)).trans HB3_0.out
            have HB4_0 : Hd _ := ⟨hb⟩
            have c4_0_0 : w4.cell? ⟨w.heap.size, 0, none⟩ = some (.bool true) := by simp [World.cell?, hb]
            have c4_0_1 : w4.cell? ⟨w.heap.size, 1, none⟩ = some (.bool x.number) := by simp [World.cell?, hb]
            have c4_0_2 : w4.cell? ⟨w.heap.size, 2, none⟩ = some (.bool nm) := by simp [World.cell?, hb]
            have c4_0_3 : w4.cell? ⟨w.heap.size, 3, none⟩ = some (.bool x.variant) := by simp [World.cell?, hb]
            have c4_0_4 : w4.cell? ⟨w.heap.size, 4, none⟩ = some (.int .i64 (x.least : Int)) := by simp [World.cell?, hb]
            have c4_0_5 : w4.cell? ⟨w.heap.size, 5, none⟩ = some (.int .i64 (x.most : Int)) := by simp [World.cell?, hb]
            have c4_0_6 : w4.cell? ⟨w.heap.size, 6, none⟩ = some (.int .i64 (x.blocks : Int)) := by simp [World.cell?, hb]
            clear hb
            clear c3_0_0 c3_0_1 c3_0_2 c3_0_3 c3_0_4 c3_0_5 c3_0_6
            have hb : w4.heap[w.heap.size + 1]? = some (.cells #[.string p.loc, .slice oa p.steps.length cap] 24) := (hM.block _ ((Array.getElem?_eq_some_iff.1 HB3_1.out).1) (fun h => h)).trans HB3_1.out
            have HB4_1 : Hd _ := ⟨hb⟩
            have c4_1_0 : w4.cell? ⟨w.heap.size + 1, 0, none⟩ = some (.string p.loc) := by simp [World.cell?, hb]
            have c4_1_1 : w4.cell? ⟨w.heap.size + 1, 1, none⟩ = some (.slice oa p.steps.length cap) := by simp [World.cell?, hb]
            clear hb
            clear c3_1_0 c3_1_1
            clear hM
            cases q3 with
            | true =>
              go_wp2
              go_ret
              exact ⟨by rw [show r = true from by rw [← HR.out]; simp [fitsI, HD.out, HNM.out, Hq1.out, Hq2.out, Ht0.out, Ht1.out, Hq3.out]]; first | rfl | (simp; done) | (simp [HD.out, HNM.out, Hq1.out, Hq2.out, Ht0.out, Ht1.out, Hq3.out]; done), by (first | exact HM4.out | exact Mod.refl _ _)⟩
            | false =>
              go_wp2
              go_ret
              exact ⟨by rw [show r = false from by rw [← HR.out]; simp [fitsI, HD.out, HNM.out, Hq1.out, Hq2.out, Ht0.out, Ht1.out, Hq3.out]]; first | rfl | (simp; done) | (simp [HD.out, HNM.out, Hq1.out, Hq2.out, Ht0.out, Ht1.out, Hq3.out]; done), by (first | exact HM4.out | exact Mod.refl _ _)⟩
          · have Ht1 : Hd _ := ⟨t1⟩
            go_wp2
            go_ret
            exact ⟨by rw [show r = false from by rw [← HR.out]; simp [fitsI, HD.out, HNM.out, Hq1.out, Hq2.out, Ht0.out, Ht1.out]]; first | rfl | (simp; done) | (simp [HD.out, HNM.out, Hq1.out, Hq2.out, Ht0.out, Ht1.out]; done), by (first | exact HM3.out | exact Mod.refl _ _)⟩
        · have Ht0 : Hd _ := ⟨t0⟩
          go_wp2
          go_ret
          exact ⟨by rw [show r = false from by rw [← HR.out]; simp [fitsI, HD.out, HNM.out, Hq1.out, Hq2.out, Ht0.out]]; first | rfl | (simp; done) | (simp [HD.out, HNM.out, Hq1.out, Hq2.out, Ht0.out]; done), by (first | exact HM3.out | exact Mod.refl _ _)⟩
      | false =>
        go_wp2
        go_ret
        exact ⟨by rw [show r = false from by rw [← HR.out]; simp [fitsI, HD.out, HNM.out, Hq1.out, Hq2.out]]; first | rfl | (simp; done) | (simp [HD.out, HNM.out, Hq1.out, Hq2.out]; done), by (first | exact HM3.out | exact Mod.refl _ _)⟩
end
end Go.Proofs.YtpodeccpibnlbaaGreatDoor
