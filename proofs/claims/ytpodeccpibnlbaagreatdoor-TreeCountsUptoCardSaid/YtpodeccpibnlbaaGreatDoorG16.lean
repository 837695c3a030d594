/- Clone, walked. -/
import Derived.Test.YtpodeccpibnlbaaGreatDoorG13
import Derived.Test.YtpodeccpibnlbaaGreatDoorG15
import Derived.Test.YtpodeccpibnlbaaGreatDoorG12
namespace Go.Proofs.YtpodeccpibnlbaaGreatDoor
set_option linter.unusedVariables false
set_option linter.unusedSimpArgs false
open Go.RowKit
section
variable {S : Nat → Prop} {w0 wV : World} {oa : Option Addr} {len cap : Nat}

set_option maxRecDepth 100000 in
set_option maxHeartbeats 4000000 in
theorem Clone_own {v : Value} {s : Prg} (hv : prgV S w0 v s) (w : World) (hw : Mod (fun _ => False) w0 w) :
    Calls Tryz.prog 24 #[v] w fun e w' => ∃ oa ca ob cb oc cc, e = .returned (.agg #[.slice oa s.structs.length ca, .slice ob s.enums.length cb, .slice oc s.funcs.length cc]) ∧ Mod (fun _ => False) w w' ∧ prgV (Nb w.heap.size w') w' (.agg #[.slice oa s.structs.length ca, .slice ob s.enums.length cb, .slice oc s.funcs.length cc]) s ∧ Rw w.heap.size w' 58 5 oa ca ∧ Rw w.heap.size w' 45 6 oc cc ∧
      (SR (fun _ => True) w' 5 (sctV (fun b => Nb w.heap.size w' b ∧ oa ≠ some ⟨b, 0, none⟩) w') oa s.structs.length ca s.structs ∧ Enms (fun b => Nb w.heap.size w' b ∧ oa ≠ some ⟨b, 0, none⟩) w' ob s.enums.length cb s.enums ∧ Funs (fun b => Nb w.heap.size w' b ∧ oa ≠ some ⟨b, 0, none⟩) w' oc s.funcs.length cc s.funcs) ∧
      (Scts (fun b => Nb w.heap.size w' b ∧ oc ≠ some ⟨b, 0, none⟩) w' oa s.structs.length ca s.structs ∧ Enms (fun b => Nb w.heap.size w' b ∧ oc ≠ some ⟨b, 0, none⟩) w' ob s.enums.length cb s.enums ∧ SR (fun _ => True) w' 6 (funV (fun b => Nb w.heap.size w' b ∧ oc ≠ some ⟨b, 0, none⟩) w') oc s.funcs.length cc s.funcs) := by
  obtain ⟨oa, la, ca, ob, lb, cb, oc, lc, cc, rfl, k1, k2, k3⟩ := hv
  have HA : Hd (∀ w', Mod (fun _ => False) w w' → Calls Tryz.prog 68 #[.slice oa la ca, .func (.func 69) #[] #[]] w' _) := ⟨fun w' h' => each_sct k1 69 fn_69 (fun v x hv _ w' hw' => cloneStruct_c hv w' hw') w' (hw.trans h' (fun _ h => Or.inl h))⟩
  have HB : Hd (∀ w', Mod (fun _ => False) w w' → Calls Tryz.prog 71 #[.slice ob lb cb, .func (.func 72) #[] #[]] w' _) := ⟨fun w' h' => each_enm k2 72 fn_72 (fun v x hv _ w' hw' => cloneEnum_c hv w' hw') w' (hw.trans h' (fun _ h => Or.inl h))⟩
  have HC : Hd (∀ w', Mod (fun _ => False) w w' → Calls Tryz.prog 73 #[.slice oc lc cc, .func (.func 74) #[] #[]] w' _) := ⟨fun w' h' => each_fun k3 74 fn_74 (fun v x hv _ w' hw' => cloneFunc_c hv w' hw') w' (hw.trans h' (fun _ h => Or.inl h))⟩
  clear k1 k2 k3 hw
  go_enter Tryz.func24, Tryz.ntmps24
  go_wp2_with fail
  have hbD : ((w.alloc (.cells #[.slice oa la ca, .slice ob lb cb, .slice oc lc cc] 36)).alloc (.cells #[.slice none 0 0, .slice none 0 0, .slice none 0 0] 36)).heap[w.heap.size]? = some (.cells #[.slice oa la ca, .slice ob lb cb, .slice oc lc cc] 36) := heap2_0 _ _ _
  have y0 : ((w.alloc (.cells #[.slice oa la ca, .slice ob lb cb, .slice oc lc cc] 36)).alloc (.cells #[.slice none 0 0, .slice none 0 0, .slice none 0 0] 36)).drew.cell? ⟨w.heap.size, 0, none⟩ = some (.slice oa la ca) := by simp only [World.cell?, heap_drew, hbD]; rfl
  have y1 : ((w.alloc (.cells #[.slice oa la ca, .slice ob lb cb, .slice oc lc cc] 36)).alloc (.cells #[.slice none 0 0, .slice none 0 0, .slice none 0 0] 36)).drew.cell? ⟨w.heap.size, 1, none⟩ = some (.slice ob lb cb) := by simp only [World.cell?, heap_drew, hbD]; rfl
  have y2 : ((w.alloc (.cells #[.slice oa la ca, .slice ob lb cb, .slice oc lc cc] 36)).alloc (.cells #[.slice none 0 0, .slice none 0 0, .slice none 0 0] 36)).drew.cell? ⟨w.heap.size, 2, none⟩ = some (.slice oc lc cc) := by simp only [World.cell?, heap_drew, hbD]; rfl
  clear hbD
  go_region_with (first
    | (go_at_call 68
       refine (HA.out _ ?hm).mono ?_
       case hm => exact (((Mod.alloc _ _ _).trans (Mod.alloc _ _ _) (fun _ h => Or.inl h)).trans (Mod.drew _ _) (fun _ h => Or.inl h))
       rintro e w1 ⟨oa1, ca1, rfl, hM, k4, x4, y4⟩
       have HM1 : Hd (Mod (fun _ => False) w w1) := ⟨by refine Mod.trans ?_ hM (fun _ h => Or.inl h); exact (((Mod.alloc _ _ _).trans (Mod.alloc _ _ _) (fun _ h => Or.inl h)).trans (Mod.drew _ _) (fun _ h => Or.inl h))⟩
       have HK1_1 : Hd (Mod (fun b => b = w.heap.size ∨ b = w.heap.size + 1) w1 w1) := ⟨Mod.refl _ _⟩
       have Hk4 : Hd _ := ⟨k4⟩
       have Hx4 : Hd _ := ⟨x4⟩
       have Hy4 : Hd _ := ⟨y4⟩
       clear x4 y4
       have hb : w1.heap[w.heap.size]? = some (.cells #[.slice oa la ca, .slice ob lb cb, .slice oc lc cc] 36) := (hM.block _ (lt2_0 _ _ _) (fun h => h)).trans (heap2_0 _ _ _)
       have HB1_0 : Hd _ := ⟨hb⟩
       have c1_0_0 : w1.cell? ⟨w.heap.size, 0, none⟩ = some (.slice oa la ca) := by simp [World.cell?, hb]
       have c1_0_1 : w1.cell? ⟨w.heap.size, 1, none⟩ = some (.slice ob lb cb) := by simp [World.cell?, hb]
       have c1_0_2 : w1.cell? ⟨w.heap.size, 2, none⟩ = some (.slice oc lc cc) := by simp [World.cell?, hb]
       have z1_0 : ∀ j, w1.frozen? ⟨w.heap.size, j, none⟩ = false := fun j => by simp [World.frozen?, hb]
       clear hb
       have hb : w1.heap[w.heap.size + 1]? = some (.cells #[.slice none 0 0, .slice none 0 0, .slice none 0 0] 36) := (hM.block _ (lt2_1 _ _ _) (fun h => h)).trans (heap2_1 _ _ _)
       have HB1_1 : Hd _ := ⟨hb⟩
       have c1_1_0 : w1.cell? ⟨w.heap.size + 1, 0, none⟩ = some (.slice none 0 0) := by simp [World.cell?, hb]
       have c1_1_1 : w1.cell? ⟨w.heap.size + 1, 1, none⟩ = some (.slice none 0 0) := by simp [World.cell?, hb]
       have c1_1_2 : w1.cell? ⟨w.heap.size + 1, 2, none⟩ = some (.slice none 0 0) := by simp [World.cell?, hb]
       have z1_1 : ∀ j, w1.frozen? ⟨w.heap.size + 1, j, none⟩ = false := fun j => by simp [World.frozen?, hb]
       clear hb
       clear hM k4)
    | (go_at_call 71
       refine (HB.out _ ?hm).mono ?_
       case hm => exact HM1.out
       rintro e w2 ⟨ob1, cb1, rfl, hM, k5⟩
       have HM2 : Hd (Mod (fun _ => False) w w2) := ⟨by refine Mod.trans ?_ hM (fun _ h => Or.inl h); exact HM1.out⟩
       have HK1_2 : Hd (Mod (fun b => b = w.heap.size ∨ b = w.heap.size + 1) w1 w2) := ⟨by refine Mod.trans ?_ (hM.mono (fun _ h => h.elim)) (fun _ h => Or.inl h); exact HK1_1.out⟩
       have HK2_2 : Hd (Mod (fun b => b = w.heap.size ∨ b = w.heap.size + 1) w2 w2) := ⟨Mod.refl _ _⟩
       have Hk5 : Hd _ := ⟨k5⟩
       have hb0 := HB1_0.out
       have hb : w2.heap[w.heap.size]? = some (.cells #[.slice oa la ca, .slice ob lb cb, .slice oc lc cc] 36) := (hM.block _ (by have := (Array.getElem?_eq_some_iff.1 HB1_0.out).1; simpa using this) (fun h => h)).trans hb0
       have HB2_0 : Hd _ := ⟨hb⟩
       have c2_0_0 : w2.cell? ⟨w.heap.size, 0, none⟩ = some (.slice oa la ca) := by simp [World.cell?, hb]
       have c2_0_1 : w2.cell? ⟨w.heap.size, 1, none⟩ = some (.slice ob lb cb) := by simp [World.cell?, hb]
       have c2_0_2 : w2.cell? ⟨w.heap.size, 2, none⟩ = some (.slice oc lc cc) := by simp [World.cell?, hb]
       have z2_0 : ∀ j, w2.frozen? ⟨w.heap.size, j, none⟩ = false := fun j => by simp [World.frozen?, hb]
       clear hb
       clear hb0
       clear c1_0_0 c1_0_1 c1_0_2 z1_0
       have hb0 := HB1_1.out
       have hb : w2.heap[w.heap.size + 1]? = some (.cells #[.slice none 0 0, .slice none 0 0, .slice none 0 0] 36) := (hM.block _ (by have := (Array.getElem?_eq_some_iff.1 HB1_1.out).1; simpa using this) (fun h => h)).trans hb0
       have HB2_1 : Hd _ := ⟨hb⟩
       have c2_1_0 : w2.cell? ⟨w.heap.size + 1, 0, none⟩ = some (.slice none 0 0) := by simp [World.cell?, hb]
       have c2_1_1 : w2.cell? ⟨w.heap.size + 1, 1, none⟩ = some (.slice none 0 0) := by simp [World.cell?, hb]
       have c2_1_2 : w2.cell? ⟨w.heap.size + 1, 2, none⟩ = some (.slice none 0 0) := by simp [World.cell?, hb]
       have z2_1 : ∀ j, w2.frozen? ⟨w.heap.size + 1, j, none⟩ = false := fun j => by simp [World.frozen?, hb]
       clear hb
       clear hb0
       clear c1_1_0 c1_1_1 c1_1_2 z1_1
       clear hM k5)
    | (go_at_call 73
       refine (HC.out _ ?hm).mono ?_
       case hm => exact HM2.out
       rintro e w3 ⟨oc1, cc1, rfl, hM, k6, x6, y6⟩
       have HM3 : Hd (Mod (fun _ => False) w w3) := ⟨by refine Mod.trans ?_ hM (fun _ h => Or.inl h); exact HM2.out⟩
       have HK1_3 : Hd (Mod (fun b => b = w.heap.size ∨ b = w.heap.size + 1) w1 w3) := ⟨by refine Mod.trans ?_ (hM.mono (fun _ h => h.elim)) (fun _ h => Or.inl h); exact HK1_2.out⟩
       have HK2_3 : Hd (Mod (fun b => b = w.heap.size ∨ b = w.heap.size + 1) w2 w3) := ⟨by refine Mod.trans ?_ (hM.mono (fun _ h => h.elim)) (fun _ h => Or.inl h); exact HK2_2.out⟩
       have HK3_3 : Hd (Mod (fun b => b = w.heap.size ∨ b = w.heap.size + 1) w3 w3) := ⟨Mod.refl _ _⟩
       have Hk6 : Hd _ := ⟨k6⟩
       have Hx6 : Hd _ := ⟨x6⟩
       have Hy6 : Hd _ := ⟨y6⟩
       clear x6 y6
       have hb0 := HB2_0.out
       have hb : w3.heap[w.heap.size]? = some (.cells #[.slice oa la ca, .slice ob lb cb, .slice oc lc cc] 36) := (hM.block _ (by have := (Array.getElem?_eq_some_iff.1 HB2_0.out).1; simpa using this) (fun h => h)).trans hb0
       have HB3_0 : Hd _ := ⟨hb⟩
       have c3_0_0 : w3.cell? ⟨w.heap.size, 0, none⟩ = some (.slice oa la ca) := by simp [World.cell?, hb]
       have c3_0_1 : w3.cell? ⟨w.heap.size, 1, none⟩ = some (.slice ob lb cb) := by simp [World.cell?, hb]
       have c3_0_2 : w3.cell? ⟨w.heap.size, 2, none⟩ = some (.slice oc lc cc) := by simp [World.cell?, hb]
       have z3_0 : ∀ j, w3.frozen? ⟨w.heap.size, j, none⟩ = false := fun j => by simp [World.frozen?, hb]
       clear hb
       clear hb0
       clear c2_0_0 c2_0_1 c2_0_2 z2_0
       have hb0 := HB2_1.out
       have hb : w3.heap[w.heap.size + 1]? = some (.cells #[.slice none 0 0, .slice none 0 0, .slice none 0 0] 36) := (hM.block _ (by have := (Array.getElem?_eq_some_iff.1 HB2_1.out).1; simpa using this) (fun h => h)).trans hb0
       have HB3_1 : Hd _ := ⟨hb⟩
       have c3_1_0 : w3.cell? ⟨w.heap.size + 1, 0, none⟩ = some (.slice none 0 0) := by simp [World.cell?, hb]
       have c3_1_1 : w3.cell? ⟨w.heap.size + 1, 1, none⟩ = some (.slice none 0 0) := by simp [World.cell?, hb]
       have c3_1_2 : w3.cell? ⟨w.heap.size + 1, 2, none⟩ = some (.slice none 0 0) := by simp [World.cell?, hb]
       have z3_1 : ∀ j, w3.frozen? ⟨w.heap.size + 1, j, none⟩ = false := fun j => by simp [World.frozen?, hb]
       clear hb
       clear hb0
       clear c2_1_0 c2_1_1 c2_1_2 z2_1
       clear hM k6))
  all_goals
    go_wp2
    have SZ1 : w.heap.size + 2 ≤ w1.heap.size := by have := (Array.getElem?_eq_some_iff.1 HB1_1.out).1; omega
    have SZ2 : w.heap.size + 2 ≤ w2.heap.size := by have := (Array.getElem?_eq_some_iff.1 HB2_1.out).1; omega
    have SZ3 : w.heap.size + 2 ≤ w3.heap.size := by have := (Array.getElem?_eq_some_iff.1 HB3_1.out).1; omega
    have hb0 := HB3_1.out
    have hb1 := heap_setCells_all [.slice oa1 s.structs.length ca1, .slice ob1 s.enums.length cb1, .slice oc1 s.funcs.length cc1] hb0 rfl
    refine bodyPost_ret (results_cell_row (cs := #[.slice oa1 s.structs.length ca1, .slice ob1 s.enums.length cb1, .slice oc1 s.funcs.length cc1]) rfl _ _ (w.heap.size + 1) 36 (0, 0) _ rfl hb1 Tryz.underlying36 rfl (by kernel_rfl)) rfl ?_
    clear hb0 hb1
    have z1 : w.heap.size + 2 ≤ (((w.alloc (.cells #[.slice oa la ca, .slice ob lb cb, .slice oc lc cc] 36)).alloc (.cells #[.slice none 0 0, .slice none 0 0, .slice none 0 0] 36)).drew).heap.size := by simp
    have s12 : w1.heap.size ≤ w2.heap.size := HK1_2.out.size
    refine ⟨oa1, ca1, ob1, cb1, oc1, cc1, rfl, (by exact (Mod.setNew (Mod.setNew (Mod.setNew HM3.out _ _ (by simp)) _ _ (by simp)) _ _ (by simp))), ⟨oa1, _, ca1, ob1, _, cb1, oc1, _, cc1, rfl, Hk4.out.keep (Mod.kp2 (w := w) (Mod.setTwo (Mod.setTwo (Mod.setTwo HK1_3.out _ _ (by simp)) _ _ (by simp)) _ _ (by simp)) (fun b hb => Nat.le_trans (by simp) hb)) (fun _ _ h => h.keep (Mod.kp2 (w := w) (Mod.setTwo (Mod.setTwo (Mod.setTwo HK1_3.out _ _ (by simp)) _ _ (by simp)) _ _ (by simp)) (fun b hb => Nat.le_trans (by simp) hb))), Hk5.out.keep (Mod.kp2 (w := w) (Mod.setTwo (Mod.setTwo (Mod.setTwo HK2_3.out _ _ (by simp)) _ _ (by simp)) _ _ (by simp)) (fun b hb => Nat.le_trans (by simpa using SZ1) hb)) (fun _ _ h => h.keep (Mod.kp2 (w := w) (Mod.setTwo (Mod.setTwo (Mod.setTwo HK2_3.out _ _ (by simp)) _ _ (by simp)) _ _ (by simp)) (fun b hb => Nat.le_trans (by simpa using SZ1) hb))), Hk6.out.keep (Mod.kp2 (w := w) (Mod.setTwo (Mod.setTwo (Mod.setTwo HK3_3.out _ _ (by simp)) _ _ (by simp)) _ _ (by simp)) (fun b hb => Nat.le_trans (by simpa using SZ2) hb)) (fun _ _ h => h.keep (Mod.kp2 (w := w) (Mod.setTwo (Mod.setTwo (Mod.setTwo HK3_3.out _ _ (by simp)) _ _ (by simp)) _ _ (by simp)) (fun b hb => Nat.le_trans (by simpa using SZ2) hb)))⟩, Hx4.out.kp2 (w := w) (Mod.setTwo (Mod.setTwo (Mod.setTwo HK1_3.out _ _ (by simp)) _ _ (by simp)) _ _ (by simp)) (by simp), Hx6.out.kp2 (w := w) (Mod.setTwo (Mod.setTwo (Mod.setTwo HK3_3.out _ _ (by simp)) _ _ (by simp)) _ _ (by simp)) (by simpa using SZ2), ⟨Hy4.out.keep (Kp.true (Mod.kp2 (w := w) (Mod.setTwo (Mod.setTwo (Mod.setTwo HK1_3.out _ _ (by simp)) _ _ (by simp)) _ _ (by simp)) (fun b hb => Nat.le_trans z1 hb))) (fun _ _ h => h.keep (Mod.kp3 (w := w) (P := fun b => oa1 ≠ some ⟨b, 0, none⟩) (Mod.setTwo (Mod.setTwo (Mod.setTwo HK1_3.out _ _ (by simp)) _ _ (by simp)) _ _ (by simp)) (fun b hb => hb.1) z1 (fun b hb _ _ => hb.2))), Hk5.out.keep (Mod.kp3 (w := w) (P := fun b => oa1 ≠ some ⟨b, 0, none⟩) (Mod.setTwo (Mod.setTwo (Mod.setTwo HK2_3.out _ _ (by simp)) _ _ (by simp)) _ _ (by simp)) (fun b hb => hb) (by simpa using SZ1) (fun b hb h1 _ => Hx4.out.ne_ge h1)) (fun _ _ h => h.keep (Mod.kp3 (w := w) (P := fun b => oa1 ≠ some ⟨b, 0, none⟩) (Mod.setTwo (Mod.setTwo (Mod.setTwo HK2_3.out _ _ (by simp)) _ _ (by simp)) _ _ (by simp)) (fun b hb => hb) (by simpa using SZ1) (fun b hb h1 _ => Hx4.out.ne_ge h1))), Hk6.out.keep (Mod.kp3 (w := w) (P := fun b => oa1 ≠ some ⟨b, 0, none⟩) (Mod.setTwo (Mod.setTwo (Mod.setTwo HK3_3.out _ _ (by simp)) _ _ (by simp)) _ _ (by simp)) (fun b hb => hb) (by simpa using SZ2) (fun b hb h1 _ => Hx4.out.ne_ge (Nat.le_trans s12 h1))) (fun _ _ h => h.keep (Mod.kp3 (w := w) (P := fun b => oa1 ≠ some ⟨b, 0, none⟩) (Mod.setTwo (Mod.setTwo (Mod.setTwo HK3_3.out _ _ (by simp)) _ _ (by simp)) _ _ (by simp)) (fun b hb => hb) (by simpa using SZ2) (fun b hb h1 _ => Hx4.out.ne_ge (Nat.le_trans s12 h1))))⟩, ⟨Hk4.out.keep (Mod.kp3 (w := w) (P := fun b => oc1 ≠ some ⟨b, 0, none⟩) (Mod.setTwo (Mod.setTwo (Mod.setTwo HK1_3.out _ _ (by simp)) _ _ (by simp)) _ _ (by simp)) (fun b hb => hb) z1 (fun b hb _ h2 => Hx6.out.ne_lt (Nat.lt_of_lt_of_le h2 s12))) (fun _ _ h => h.keep (Mod.kp3 (w := w) (P := fun b => oc1 ≠ some ⟨b, 0, none⟩) (Mod.setTwo (Mod.setTwo (Mod.setTwo HK1_3.out _ _ (by simp)) _ _ (by simp)) _ _ (by simp)) (fun b hb => hb) z1 (fun b hb _ h2 => Hx6.out.ne_lt (Nat.lt_of_lt_of_le h2 s12)))), Hk5.out.keep (Mod.kp3 (w := w) (P := fun b => oc1 ≠ some ⟨b, 0, none⟩) (Mod.setTwo (Mod.setTwo (Mod.setTwo HK2_3.out _ _ (by simp)) _ _ (by simp)) _ _ (by simp)) (fun b hb => hb) (by simpa using SZ1) (fun b hb _ h2 => Hx6.out.ne_lt h2)) (fun _ _ h => h.keep (Mod.kp3 (w := w) (P := fun b => oc1 ≠ some ⟨b, 0, none⟩) (Mod.setTwo (Mod.setTwo (Mod.setTwo HK2_3.out _ _ (by simp)) _ _ (by simp)) _ _ (by simp)) (fun b hb => hb) (by simpa using SZ1) (fun b hb _ h2 => Hx6.out.ne_lt h2))), Hy6.out.keep (Kp.true (Mod.kp2 (w := w) (Mod.setTwo (Mod.setTwo (Mod.setTwo HK3_3.out _ _ (by simp)) _ _ (by simp)) _ _ (by simp)) (fun b hb => Nat.le_trans (by simpa using SZ2) hb))) (fun _ _ h => h.keep (Mod.kp3 (w := w) (P := fun b => oc1 ≠ some ⟨b, 0, none⟩) (Mod.setTwo (Mod.setTwo (Mod.setTwo HK3_3.out _ _ (by simp)) _ _ (by simp)) _ _ (by simp)) (fun b hb => hb.1) (by simpa using SZ2) (fun b hb _ _ => hb.2)))⟩⟩
theorem Clone_c {v : Value} {s : Prg} (hv : prgV S w0 v s) (w : World) (hw : Mod (fun _ => False) w0 w) :
    Calls Tryz.prog 24 #[v] w fun e w' => ∃ v', e = .returned v' ∧ Mod (fun _ => False) w w' ∧ prgV (Nb w.heap.size w') w' v' s :=
  (Clone_own hv w hw).mono fun e w' ⟨oa, ca, ob, cb, oc, cc, h1, h2, h3, _, _, _, _⟩ => ⟨_, h1, h2, h3⟩
end
end Go.Proofs.YtpodeccpibnlbaaGreatDoor
