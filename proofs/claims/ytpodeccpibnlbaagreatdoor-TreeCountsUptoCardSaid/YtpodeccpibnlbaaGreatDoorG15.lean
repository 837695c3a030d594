/- The closure on functions of Clone, walked. -/
import Derived.Test.YtpodeccpibnlbaaGreatDoorG14
import Derived.Test.YtpodeccpibnlbaaGreatDoorG12
namespace Go.Proofs.YtpodeccpibnlbaaGreatDoor
set_option linter.unusedVariables false
set_option linter.unusedSimpArgs false
open Go.RowKit
section
variable {S : Nat → Prop} {w0 wV : World} {oa : Option Addr} {len cap : Nat}

set_option maxRecDepth 100000 in
set_option maxHeartbeats 4000000 in
theorem cloneFunc_c {v : Value} {s : Fun} (hv : funV S w0 v s) (w : World) (hw : Mod (fun _ => False) w0 w) :
    Calls Tryz.prog 74 #[v] w fun e w' => ∃ v', e = .returned v' ∧ Mod (fun _ => False) w w' ∧ funV (Nb w.heap.size w') w' v' s := by
  obtain ⟨h0, h1, h2, oa, la, ca, ob, lb, cb, oc, lc, cc, rfl, k1, k2, k3⟩ := hv
  have HA : Hd (∀ w', Mod (fun _ => False) w w' → Calls Tryz.prog 70 #[.slice oa la ca] w' _) := ⟨fun w' h' => cln_vr k1 w' (hw.trans h' (fun _ h => Or.inl h))⟩
  have HB : Hd (∀ w', Mod (fun _ => False) w w' → Calls Tryz.prog 70 #[.slice ob lb cb] w' _) := ⟨fun w' h' => cln_vr k2 w' (hw.trans h' (fun _ h => Or.inl h))⟩
  have HC : Hd (∀ w', Mod (fun _ => False) w w' → Calls Tryz.prog 75 #[.slice oc lc cc, .func (.func 76) #[] #[]] w' _) := ⟨fun w' h' => each_blk k3 76 fn_76 (fun v x hv _ w' hw' => cloneBlock_c hv w' hw') w' (hw.trans h' (fun _ h => Or.inl h))⟩
  clear k1 k2 k3 hw
  go_enter Tryz.func74, Tryz.ntmps74
  go_wp2_with fail
  have hbD : ((w.alloc (.cells #[.int .i64 s.pos, .string s.name, .slice oa la ca, .slice ob lb cb, .string s.result, .slice oc lc cc] 45)).alloc (.cells #[.int .i64 0, .string { data := #[] }, .slice none 0 0, .slice none 0 0, .string { data := #[] }, .slice none 0 0] 45)).heap[w.heap.size]? = some (.cells #[.int .i64 s.pos, .string s.name, .slice oa la ca, .slice ob lb cb, .string s.result, .slice oc lc cc] 45) := heap2_0 _ _ _
  have y0 : ((w.alloc (.cells #[.int .i64 s.pos, .string s.name, .slice oa la ca, .slice ob lb cb, .string s.result, .slice oc lc cc] 45)).alloc (.cells #[.int .i64 0, .string { data := #[] }, .slice none 0 0, .slice none 0 0, .string { data := #[] }, .slice none 0 0] 45)).drew.cell? ⟨w.heap.size, 0, none⟩ = some (.int .i64 s.pos) := by simp only [World.cell?, heap_drew, hbD]; rfl
  have y1 : ((w.alloc (.cells #[.int .i64 s.pos, .string s.name, .slice oa la ca, .slice ob lb cb, .string s.result, .slice oc lc cc] 45)).alloc (.cells #[.int .i64 0, .string { data := #[] }, .slice none 0 0, .slice none 0 0, .string { data := #[] }, .slice none 0 0] 45)).drew.cell? ⟨w.heap.size, 1, none⟩ = some (.string s.name) := by simp only [World.cell?, heap_drew, hbD]; rfl
  have y2 : ((w.alloc (.cells #[.int .i64 s.pos, .string s.name, .slice oa la ca, .slice ob lb cb, .string s.result, .slice oc lc cc] 45)).alloc (.cells #[.int .i64 0, .string { data := #[] }, .slice none 0 0, .slice none 0 0, .string { data := #[] }, .slice none 0 0] 45)).drew.cell? ⟨w.heap.size, 2, none⟩ = some (.slice oa la ca) := by simp only [World.cell?, heap_drew, hbD]; rfl
  have y3 : ((w.alloc (.cells #[.int .i64 s.pos, .string s.name, .slice oa la ca, .slice ob lb cb, .string s.result, .slice oc lc cc] 45)).alloc (.cells #[.int .i64 0, .string { data := #[] }, .slice none 0 0, .slice none 0 0, .string { data := #[] }, .slice none 0 0] 45)).drew.cell? ⟨w.heap.size, 3, none⟩ = some (.slice ob lb cb) := by simp only [World.cell?, heap_drew, hbD]; rfl
  have y4 : ((w.alloc (.cells #[.int .i64 s.pos, .string s.name, .slice oa la ca, .slice ob lb cb, .string s.result, .slice oc lc cc] 45)).alloc (.cells #[.int .i64 0, .string { data := #[] }, .slice none 0 0, .slice none 0 0, .string { data := #[] }, .slice none 0 0] 45)).drew.cell? ⟨w.heap.size, 4, none⟩ = some (.string s.result) := by simp only [World.cell?, heap_drew, hbD]; rfl
  have y5 : ((w.alloc (.cells #[.int .i64 s.pos, .string s.name, .slice oa la ca, .slice ob lb cb, .string s.result, .slice oc lc cc] 45)).alloc (.cells #[.int .i64 0, .string { data := #[] }, .slice none 0 0, .slice none 0 0, .string { data := #[] }, .slice none 0 0] 45)).drew.cell? ⟨w.heap.size, 5, none⟩ = some (.slice oc lc cc) := by simp only [World.cell?, heap_drew, hbD]; rfl
  clear hbD
  go_region_with (first
    | (go_at_call 70
       refine (HA.out _ ?hm).mono ?_
       case hm => exact (((Mod.alloc _ _ _).trans (Mod.alloc _ _ _) (fun _ h => Or.inl h)).trans (Mod.drew _ _) (fun _ h => Or.inl h))
       rintro e w1 ⟨oa1, ca1, rfl, hM, k4, hx⟩
       have HM1 : Hd (Mod (fun _ => False) w w1) := ⟨by refine Mod.trans ?_ hM (fun _ h => Or.inl h); exact (((Mod.alloc _ _ _).trans (Mod.alloc _ _ _) (fun _ h => Or.inl h)).trans (Mod.drew _ _) (fun _ h => Or.inl h))⟩
       have HK1_1 : Hd (Mod (fun b => b = w.heap.size ∨ b = w.heap.size + 1) w1 w1) := ⟨Mod.refl _ _⟩
       have Hk4 : Hd _ := ⟨k4⟩
       have Hhx : Hd _ := ⟨hx⟩
       have hb : w1.heap[w.heap.size]? = some (.cells #[.int .i64 s.pos, .string s.name, .slice oa la ca, .slice ob lb cb, .string s.result, .slice oc lc cc] 45) := (hM.block _ (lt2_0 _ _ _) (fun h => h)).trans (heap2_0 _ _ _)
       have HB1_0 : Hd _ := ⟨hb⟩
       have c1_0_0 : w1.cell? ⟨w.heap.size, 0, none⟩ = some (.int .i64 s.pos) := by simp [World.cell?, hb]
       have c1_0_1 : w1.cell? ⟨w.heap.size, 1, none⟩ = some (.string s.name) := by simp [World.cell?, hb]
       have c1_0_2 : w1.cell? ⟨w.heap.size, 2, none⟩ = some (.slice oa la ca) := by simp [World.cell?, hb]
       have c1_0_3 : w1.cell? ⟨w.heap.size, 3, none⟩ = some (.slice ob lb cb) := by simp [World.cell?, hb]
       have c1_0_4 : w1.cell? ⟨w.heap.size, 4, none⟩ = some (.string s.result) := by simp [World.cell?, hb]
       have c1_0_5 : w1.cell? ⟨w.heap.size, 5, none⟩ = some (.slice oc lc cc) := by simp [World.cell?, hb]
       have z1_0 : ∀ j, w1.frozen? ⟨w.heap.size, j, none⟩ = false := fun j => by simp [World.frozen?, hb]
       clear hb
       have hb : w1.heap[w.heap.size + 1]? = some (.cells #[.int .i64 0, .string { data := #[] }, .slice none 0 0, .slice none 0 0, .string { data := #[] }, .slice none 0 0] 45) := (hM.block _ (lt2_1 _ _ _) (fun h => h)).trans (heap2_1 _ _ _)
       have HB1_1 : Hd _ := ⟨hb⟩
       have c1_1_0 : w1.cell? ⟨w.heap.size + 1, 0, none⟩ = some (.int .i64 0) := by simp [World.cell?, hb]
       have c1_1_1 : w1.cell? ⟨w.heap.size + 1, 1, none⟩ = some (.string { data := #[] }) := by simp [World.cell?, hb]
       have c1_1_2 : w1.cell? ⟨w.heap.size + 1, 2, none⟩ = some (.slice none 0 0) := by simp [World.cell?, hb]
       have c1_1_3 : w1.cell? ⟨w.heap.size + 1, 3, none⟩ = some (.slice none 0 0) := by simp [World.cell?, hb]
       have c1_1_4 : w1.cell? ⟨w.heap.size + 1, 4, none⟩ = some (.string { data := #[] }) := by simp [World.cell?, hb]
       have c1_1_5 : w1.cell? ⟨w.heap.size + 1, 5, none⟩ = some (.slice none 0 0) := by simp [World.cell?, hb]
       have z1_1 : ∀ j, w1.frozen? ⟨w.heap.size + 1, j, none⟩ = false := fun j => by simp [World.frozen?, hb]
       clear hb
       clear hM k4 hx
       clear Hhx)
    | (go_at_call 70
       refine (HB.out _ ?hm).mono ?_
       case hm => exact HM1.out
       rintro e w2 ⟨ob1, cb1, rfl, hM, k5, hx⟩
       have HM2 : Hd (Mod (fun _ => False) w w2) := ⟨by refine Mod.trans ?_ hM (fun _ h => Or.inl h); exact HM1.out⟩
       have HK1_2 : Hd (Mod (fun b => b = w.heap.size ∨ b = w.heap.size + 1) w1 w2) := ⟨by refine Mod.trans ?_ (hM.mono (fun _ h => h.elim)) (fun _ h => Or.inl h); exact HK1_1.out⟩
       have HK2_2 : Hd (Mod (fun b => b = w.heap.size ∨ b = w.heap.size + 1) w2 w2) := ⟨Mod.refl _ _⟩
       have Hk5 : Hd _ := ⟨k5⟩
       have Hhx : Hd _ := ⟨hx⟩
       have hb0 := HB1_0.out
       have hb : w2.heap[w.heap.size]? = some (.cells #[.int .i64 s.pos, .string s.name, .slice oa la ca, .slice ob lb cb, .string s.result, .slice oc lc cc] 45) := (hM.block _ (by have := (Array.getElem?_eq_some_iff.1 HB1_0.out).1; simpa using this) (fun h => h)).trans hb0
       have HB2_0 : Hd _ := ⟨hb⟩
       have c2_0_0 : w2.cell? ⟨w.heap.size, 0, none⟩ = some (.int .i64 s.pos) := by simp [World.cell?, hb]
       have c2_0_1 : w2.cell? ⟨w.heap.size, 1, none⟩ = some (.string s.name) := by simp [World.cell?, hb]
       have c2_0_2 : w2.cell? ⟨w.heap.size, 2, none⟩ = some (.slice oa la ca) := by simp [World.cell?, hb]
       have c2_0_3 : w2.cell? ⟨w.heap.size, 3, none⟩ = some (.slice ob lb cb) := by simp [World.cell?, hb]
       have c2_0_4 : w2.cell? ⟨w.heap.size, 4, none⟩ = some (.string s.result) := by simp [World.cell?, hb]
       have c2_0_5 : w2.cell? ⟨w.heap.size, 5, none⟩ = some (.slice oc lc cc) := by simp [World.cell?, hb]
       have z2_0 : ∀ j, w2.frozen? ⟨w.heap.size, j, none⟩ = false := fun j => by simp [World.frozen?, hb]
       clear hb
       clear hb0
       clear c1_0_0 c1_0_1 c1_0_2 c1_0_3 c1_0_4 c1_0_5 z1_0
       have hb0 := HB1_1.out
       have hb : w2.heap[w.heap.size + 1]? = some (.cells #[.int .i64 0, .string { data := #[] }, .slice none 0 0, .slice none 0 0, .string { data := #[] }, .slice none 0 0] 45) := (hM.block _ (by have := (Array.getElem?_eq_some_iff.1 HB1_1.out).1; simpa using this) (fun h => h)).trans hb0
       have HB2_1 : Hd _ := ⟨hb⟩
       have c2_1_0 : w2.cell? ⟨w.heap.size + 1, 0, none⟩ = some (.int .i64 0) := by simp [World.cell?, hb]
       have c2_1_1 : w2.cell? ⟨w.heap.size + 1, 1, none⟩ = some (.string { data := #[] }) := by simp [World.cell?, hb]
       have c2_1_2 : w2.cell? ⟨w.heap.size + 1, 2, none⟩ = some (.slice none 0 0) := by simp [World.cell?, hb]
       have c2_1_3 : w2.cell? ⟨w.heap.size + 1, 3, none⟩ = some (.slice none 0 0) := by simp [World.cell?, hb]
       have c2_1_4 : w2.cell? ⟨w.heap.size + 1, 4, none⟩ = some (.string { data := #[] }) := by simp [World.cell?, hb]
       have c2_1_5 : w2.cell? ⟨w.heap.size + 1, 5, none⟩ = some (.slice none 0 0) := by simp [World.cell?, hb]
       have z2_1 : ∀ j, w2.frozen? ⟨w.heap.size + 1, j, none⟩ = false := fun j => by simp [World.frozen?, hb]
       clear hb
       clear hb0
       clear c1_1_0 c1_1_1 c1_1_2 c1_1_3 c1_1_4 c1_1_5 z1_1
       clear hM k5 hx
       clear Hhx)
    | (go_at_call 75
       refine (HC.out _ ?hm).mono ?_
       case hm => exact HM2.out
       rintro e w3 ⟨oc1, cc1, rfl, hM, k6⟩
       have HM3 : Hd (Mod (fun _ => False) w w3) := ⟨by refine Mod.trans ?_ hM (fun _ h => Or.inl h); exact HM2.out⟩
       have HK1_3 : Hd (Mod (fun b => b = w.heap.size ∨ b = w.heap.size + 1) w1 w3) := ⟨by refine Mod.trans ?_ (hM.mono (fun _ h => h.elim)) (fun _ h => Or.inl h); exact HK1_2.out⟩
       have HK2_3 : Hd (Mod (fun b => b = w.heap.size ∨ b = w.heap.size + 1) w2 w3) := ⟨by refine Mod.trans ?_ (hM.mono (fun _ h => h.elim)) (fun _ h => Or.inl h); exact HK2_2.out⟩
       have HK3_3 : Hd (Mod (fun b => b = w.heap.size ∨ b = w.heap.size + 1) w3 w3) := ⟨Mod.refl _ _⟩
       have Hk6 : Hd _ := ⟨k6⟩
       have hb0 := HB2_0.out
       have hb : w3.heap[w.heap.size]? = some (.cells #[.int .i64 s.pos, .string s.name, .slice oa la ca, .slice ob lb cb, .string s.result, .slice oc lc cc] 45) := (hM.block _ (by have := (Array.getElem?_eq_some_iff.1 HB2_0.out).1; simpa using this) (fun h => h)).trans hb0
       have HB3_0 : Hd _ := ⟨hb⟩
       have c3_0_0 : w3.cell? ⟨w.heap.size, 0, none⟩ = some (.int .i64 s.pos) := by simp [World.cell?, hb]
       have c3_0_1 : w3.cell? ⟨w.heap.size, 1, none⟩ = some (.string s.name) := by simp [World.cell?, hb]
       have c3_0_2 : w3.cell? ⟨w.heap.size, 2, none⟩ = some (.slice oa la ca) := by simp [World.cell?, hb]
       have c3_0_3 : w3.cell? ⟨w.heap.size, 3, none⟩ = some (.slice ob lb cb) := by simp [World.cell?, hb]
       have c3_0_4 : w3.cell? ⟨w.heap.size, 4, none⟩ = some (.string s.result) := by simp [World.cell?, hb]
       have c3_0_5 : w3.cell? ⟨w.heap.size, 5, none⟩ = some (.slice oc lc cc) := by simp [World.cell?, hb]
       have z3_0 : ∀ j, w3.frozen? ⟨w.heap.size, j, none⟩ = false := fun j => by simp [World.frozen?, hb]
       clear hb
       clear hb0
       clear c2_0_0 c2_0_1 c2_0_2 c2_0_3 c2_0_4 c2_0_5 z2_0
       have hb0 := HB2_1.out
       have hb : w3.heap[w.heap.size + 1]? = some (.cells #[.int .i64 0, .string { data := #[] }, .slice none 0 0, .slice none 0 0, .string { data := #[] }, .slice none 0 0] 45) := (hM.block _ (by have := (Array.getElem?_eq_some_iff.1 HB2_1.out).1; simpa using this) (fun h => h)).trans hb0
       have HB3_1 : Hd _ := ⟨hb⟩
       have c3_1_0 : w3.cell? ⟨w.heap.size + 1, 0, none⟩ = some (.int .i64 0) := by simp [World.cell?, hb]
       have c3_1_1 : w3.cell? ⟨w.heap.size + 1, 1, none⟩ = some (.string { data := #[] }) := by simp [World.cell?, hb]
       have c3_1_2 : w3.cell? ⟨w.heap.size + 1, 2, none⟩ = some (.slice none 0 0) := by simp [World.cell?, hb]
       have c3_1_3 : w3.cell? ⟨w.heap.size + 1, 3, none⟩ = some (.slice none 0 0) := by simp [World.cell?, hb]
       have c3_1_4 : w3.cell? ⟨w.heap.size + 1, 4, none⟩ = some (.string { data := #[] }) := by simp [World.cell?, hb]
       have c3_1_5 : w3.cell? ⟨w.heap.size + 1, 5, none⟩ = some (.slice none 0 0) := by simp [World.cell?, hb]
       have z3_1 : ∀ j, w3.frozen? ⟨w.heap.size + 1, j, none⟩ = false := fun j => by simp [World.frozen?, hb]
       clear hb
       clear hb0
       clear c2_1_0 c2_1_1 c2_1_2 c2_1_3 c2_1_4 c2_1_5 z2_1
       clear hM k6))
  all_goals
    go_wp2
    have SZ1 : w.heap.size + 2 ≤ w1.heap.size := by have := (Array.getElem?_eq_some_iff.1 HB1_1.out).1; omega
    have SZ2 : w.heap.size + 2 ≤ w2.heap.size := by have := (Array.getElem?_eq_some_iff.1 HB2_1.out).1; omega
    have SZ3 : w.heap.size + 2 ≤ w3.heap.size := by have := (Array.getElem?_eq_some_iff.1 HB3_1.out).1; omega
    have hb0 := HB3_1.out
    have hb0 := heap_setCell_far (g := w.heap.size) (o := 2) (.slice oa1 s.params.length ca1) hb0 (by omega)
    have hb0 := heap_setCell_far (g := w.heap.size) (o := 3) (.slice ob1 s.locals.length cb1) hb0 (by omega)
    have hb0 := heap_setCell_far (g := w.heap.size) (o := 5) (.slice oc1 s.blocks.length cc1) hb0 (by omega)
    have hb1 := heap_setCells_all [.int .i64 s.pos, .string s.name, .slice oa1 s.params.length ca1, .slice ob1 s.locals.length cb1, .string s.result, .slice oc1 s.blocks.length cc1] hb0 rfl
    refine bodyPost_ret (results_cell_row (cs := #[.int .i64 s.pos, .string s.name, .slice oa1 s.params.length ca1, .slice ob1 s.locals.length cb1, .string s.result, .slice oc1 s.blocks.length cc1]) rfl _ _ (w.heap.size + 1) 45 (0, 0) _ rfl hb1 Tryz.underlying45 rfl (by kernel_rfl)) rfl ?_
    clear hb0 hb1
    refine ⟨_, rfl, (by exact (Mod.setNew (Mod.setNew (Mod.setNew (Mod.setNew (Mod.setNew (Mod.setNew (Mod.setNew (Mod.setNew (Mod.setNew HM3.out _ _ (by simp)) _ _ (by simp)) _ _ (by simp)) _ _ (by simp)) _ _ (by simp)) _ _ (by simp)) _ _ (by simp)) _ _ (by simp)) _ _ (by simp))), h0, h1, h2, oa1, _, ca1, ob1, _, cb1, oc1, _, cc1, rfl, Hk4.out.keep (Mod.kp2 (w := w) (Mod.setTwo (Mod.setTwo (Mod.setTwo (Mod.setTwo (Mod.setTwo (Mod.setTwo (Mod.setTwo (Mod.setTwo (Mod.setTwo HK1_3.out _ _ (by simp)) _ _ (by simp)) _ _ (by simp)) _ _ (by simp)) _ _ (by simp)) _ _ (by simp)) _ _ (by simp)) _ _ (by simp)) _ _ (by simp)) (fun b hb => Nat.le_trans (by simp) hb)) (fun _ _ h => h), Hk5.out.keep (Mod.kp2 (w := w) (Mod.setTwo (Mod.setTwo (Mod.setTwo (Mod.setTwo (Mod.setTwo (Mod.setTwo (Mod.setTwo (Mod.setTwo (Mod.setTwo HK2_3.out _ _ (by simp)) _ _ (by simp)) _ _ (by simp)) _ _ (by simp)) _ _ (by simp)) _ _ (by simp)) _ _ (by simp)) _ _ (by simp)) _ _ (by simp)) (fun b hb => Nat.le_trans (by simpa using SZ1) hb)) (fun _ _ h => h), Hk6.out.keep (Mod.kp2 (w := w) (Mod.setTwo (Mod.setTwo (Mod.setTwo (Mod.setTwo (Mod.setTwo (Mod.setTwo (Mod.setTwo (Mod.setTwo (Mod.setTwo HK3_3.out _ _ (by simp)) _ _ (by simp)) _ _ (by simp)) _ _ (by simp)) _ _ (by simp)) _ _ (by simp)) _ _ (by simp)) _ _ (by simp)) _ _ (by simp)) (fun b hb => Nat.le_trans (by simpa using SZ2) hb)) (fun _ _ h => h.keep (Mod.kp2 (w := w) (Mod.setTwo (Mod.setTwo (Mod.setTwo (Mod.setTwo (Mod.setTwo (Mod.setTwo (Mod.setTwo (Mod.setTwo (Mod.setTwo HK3_3.out _ _ (by simp)) _ _ (by simp)) _ _ (by simp)) _ _ (by simp)) _ _ (by simp)) _ _ (by simp)) _ _ (by simp)) _ _ (by simp)) _ _ (by simp)) (fun b hb => Nat.le_trans (by simpa using SZ2) hb)))⟩
theorem fn_74 : Fn 74 := fn_of Tryz.func74 (by decide +kernel) (by kernel_rfl)
end
end Go.Proofs.YtpodeccpibnlbaaGreatDoor
