/- cloneBlock, walked. -/
import Derived.Test.YtpodeccpibnlbaaGreatDoorG13
namespace Go.Proofs.YtpodeccpibnlbaaGreatDoor
set_option linter.unusedVariables false
set_option linter.unusedSimpArgs false
open Go.RowKit
section
variable {S : Nat → Prop} {w0 wV : World} {oa : Option Addr} {len cap : Nat}

set_option maxRecDepth 100000 in
set_option maxHeartbeats 4000000 in
theorem cloneBlock_c {v : Value} {s : Blk} (hv : blkV S w0 v s) (w : World) (hw : Mod (fun _ => False) w0 w) :
    Calls Tryz.prog 76 #[v] w fun e w' => ∃ v', e = .returned v' ∧ Mod (fun _ => False) w w' ∧ blkV (Nb w.heap.size w') w' v' s := by
  obtain ⟨h0, h1, oa, la, ca, ob, lb, cb, oc, lc, cc, od, ld, cd, oe, le, ce, rfl, k1, k2⟩ := hv
  have ht : I64 s.term.pos ∧ I64 s.term.kind ∧ Sm s.term.name ∧ Sm s.term.dest.loc ∧ Strs S w0 ob lb cb s.term.dest.steps ∧ Pls S w0 oc lc cc s.term.args ∧ Strs S w0 od ld cd s.term.blocks ∧ Arms S w0 oe le ce s.term.arms := by
    obtain ⟨g0, g1, g2, g3, ob', lb', cb', oc', lc', cc', od', ld', cd', oe', le', ce', e, j1, j2, j3, j4⟩ := k2
    simp only [trmA, Value.agg.injEq, Array.mk.injEq, List.cons.injEq, Value.slice.injEq, Value.string.injEq, true_and, and_true] at e
    obtain ⟨⟨rfl, rfl, rfl⟩, ⟨rfl, rfl, rfl⟩, ⟨rfl, rfl, rfl⟩, rfl, rfl, rfl⟩ := e
    exact ⟨g0, g1, g2, g3, j1, j2, j3, j4⟩
  have HT : Hd _ := ⟨(⟨ht.1, ht.2.1, ht.2.2.1, ht.2.2.2.1⟩ : I64 s.term.pos ∧ I64 s.term.kind ∧ Sm s.term.name ∧ Sm s.term.dest.loc)⟩
  have HS : Hd (∀ w', Mod (fun _ => False) w w' → Calls Tryz.prog 121 #[.slice oa la ca, .func (.func 122) #[] #[]] w' _) := ⟨fun w' h' => each_stm k1 122 fn_122 (fun v x hv _ w' hw' => cloneStmt_c hv w' hw') w' (hw.trans h' (fun _ h => Or.inl h))⟩
  have HP : Hd (∀ w', Mod (fun _ => False) w w' → Calls Tryz.prog 123 #[.agg #[.string s.term.dest.loc, .slice ob lb cb]] w' _) := ⟨fun w' h' => clonePlace_c (v := .agg #[.string s.term.dest.loc, .slice ob lb cb]) (s := s.term.dest) ⟨ht.2.2.2.1, ob, lb, cb, rfl, ht.2.2.2.2.1⟩ w' (hw.trans h' (fun _ h => Or.inl h))⟩
  have HA : Hd (∀ w', Mod (fun _ => False) w w' → Calls Tryz.prog 124 #[.slice oc lc cc, .func (.func 123) #[] #[]] w' _) := ⟨fun w' h' => each_pl ht.2.2.2.2.2.1 123 fn_123 (fun v x hv _ w' hw' => clonePlace_c hv w' hw') w' (hw.trans h' (fun _ h => Or.inl h))⟩
  have HB : Hd (∀ w', Mod (fun _ => False) w w' → Calls Tryz.prog 36 #[.slice od ld cd] w' _) := ⟨fun w' h' => cln_str ht.2.2.2.2.2.2.1 w' (hw.trans h' (fun _ h => Or.inl h))⟩
  have HC : Hd (∀ w', Mod (fun _ => False) w w' → Calls Tryz.prog 125 #[.slice oe le ce] w' _) := ⟨fun w' h' => cln_arm ht.2.2.2.2.2.2.2 w' (hw.trans h' (fun _ h => Or.inl h))⟩
  clear k1 k2 ht hw
  go_enter Tryz.func76, Tryz.ntmps76
  go_wp2_with fail
  refine (HS.out _ (by exact ((Mod.alloc _ _ _).trans (Mod.alloc _ _ _) (fun _ h => Or.inl h)))).mono ?_
  rintro e w1 ⟨os, cs, rfl, hM, k2⟩
  have HM1 : Hd (Mod (fun _ => False) w w1) := ⟨by refine Mod.trans ?_ hM (fun _ h => Or.inl h); exact ((Mod.alloc _ _ _).trans (Mod.alloc _ _ _) (fun _ h => Or.inl h))⟩
  have HK1_1 : Hd (Mod (fun b => b = w.heap.size ∨ b = w.heap.size + 1) w1 w1) := ⟨Mod.refl _ _⟩
  have Hk2 : Hd _ := ⟨k2⟩
  have hb : w1.heap[w.heap.size]? = some (.cells #[.int .i64 s.pos, .string s.name, .slice oa la ca, .int .i64 s.term.pos, .int .i64 s.term.kind, .string s.term.dest.loc, .slice ob lb cb, .string s.term.name, .slice oc lc cc, .slice od ld cd, .slice oe le ce] 64) := (hM.block _ (lt2_0 _ _ _) (fun h => h)).trans (heap2_0 _ _ _)
  have HB1_0 : Hd _ := ⟨hb⟩
  have c1_0_0 : w1.cell? ⟨w.heap.size, 0, none⟩ = some (.int .i64 s.pos) := by simp [World.cell?, hb]
  have c1_0_1 : w1.cell? ⟨w.heap.size, 1, none⟩ = some (.string s.name) := by simp [World.cell?, hb]
  have c1_0_2 : w1.cell? ⟨w.heap.size, 2, none⟩ = some (.slice oa la ca) := by simp [World.cell?, hb]
  have c1_0_3 : w1.cell? ⟨w.heap.size, 3, none⟩ = some (.int .i64 s.term.pos) := by simp [World.cell?, hb]
  have c1_0_4 : w1.cell? ⟨w.heap.size, 4, none⟩ = some (.int .i64 s.term.kind) := by simp [World.cell?, hb]
  have c1_0_5 : w1.cell? ⟨w.heap.size, 5, none⟩ = some (.string s.term.dest.loc) := by simp [World.cell?, hb]
  have c1_0_6 : w1.cell? ⟨w.heap.size, 6, none⟩ = some (.slice ob lb cb) := by simp [World.cell?, hb]
  have c1_0_7 : w1.cell? ⟨w.heap.size, 7, none⟩ = some (.string s.term.name) := by simp [World.cell?, hb]
  have c1_0_8 : w1.cell? ⟨w.heap.size, 8, none⟩ = some (.slice oc lc cc) := by simp [World.cell?, hb]
  have c1_0_9 : w1.cell? ⟨w.heap.size, 9, none⟩ = some (.slice od ld cd) := by simp [World.cell?, hb]
  have c1_0_10 : w1.cell? ⟨w.heap.size, 10, none⟩ = some (.slice oe le ce) := by simp [World.cell?, hb]
  have z1_0 : ∀ j, w1.frozen? ⟨w.heap.size, j, none⟩ = false := fun j => by simp [World.frozen?, hb]
  clear hb
  have hb : w1.heap[w.heap.size + 1]? = some (.cells #[.int .i64 0, .string { data := #[] }, .slice none 0 0, .int .i64 0, .int .i64 0, .string { data := #[] }, .slice none 0 0, .string { data := #[] }, .slice none 0 0, .slice none 0 0, .slice none 0 0] 64) := (hM.block _ (lt2_1 _ _ _) (fun h => h)).trans (heap2_1 _ _ _)
  have HB1_1 : Hd _ := ⟨hb⟩
  have c1_1_0 : w1.cell? ⟨w.heap.size + 1, 0, none⟩ = some (.int .i64 0) := by simp [World.cell?, hb]
  have c1_1_1 : w1.cell? ⟨w.heap.size + 1, 1, none⟩ = some (.string { data := #[] }) := by simp [World.cell?, hb]
  have c1_1_2 : w1.cell? ⟨w.heap.size + 1, 2, none⟩ = some (.slice none 0 0) := by simp [World.cell?, hb]
  have c1_1_3 : w1.cell? ⟨w.heap.size + 1, 3, none⟩ = some (.int .i64 0) := by simp [World.cell?, hb]
  have c1_1_4 : w1.cell? ⟨w.heap.size + 1, 4, none⟩ = some (.int .i64 0) := by simp [World.cell?, hb]
  have c1_1_5 : w1.cell? ⟨w.heap.size + 1, 5, none⟩ = some (.string { data := #[] }) := by simp [World.cell?, hb]
  have c1_1_6 : w1.cell? ⟨w.heap.size + 1, 6, none⟩ = some (.slice none 0 0) := by simp [World.cell?, hb]
  have c1_1_7 : w1.cell? ⟨w.heap.size + 1, 7, none⟩ = some (.string { data := #[] }) := by simp [World.cell?, hb]
  have c1_1_8 : w1.cell? ⟨w.heap.size + 1, 8, none⟩ = some (.slice none 0 0) := by simp [World.cell?, hb]
  have c1_1_9 : w1.cell? ⟨w.heap.size + 1, 9, none⟩ = some (.slice none 0 0) := by simp [World.cell?, hb]
  have c1_1_10 : w1.cell? ⟨w.heap.size + 1, 10, none⟩ = some (.slice none 0 0) := by simp [World.cell?, hb]
  have z1_1 : ∀ j, w1.frozen? ⟨w.heap.size + 1, j, none⟩ = false := fun j => by simp [World.frozen?, hb]
  clear hb
  clear hM k2
  go_wp2_with fail
  have hbD := HB1_0.out
  have hbD := heap_setCell_same (o := 2) (.slice os s.stmts.length cs) hbD
  simp only [List.setIfInBounds_toArray, List.set_cons_succ, List.set_cons_zero] at hbD
  have y0 : (w1.setCell ⟨w.heap.size, 2, none⟩ (.slice os s.stmts.length cs)).drew.cell? ⟨w.heap.size, 0, none⟩ = some (.int .i64 s.pos) := by simp only [World.cell?, heap_drew, hbD]; rfl
  have y1 : (w1.setCell ⟨w.heap.size, 2, none⟩ (.slice os s.stmts.length cs)).drew.cell? ⟨w.heap.size, 1, none⟩ = some (.string s.name) := by simp only [World.cell?, heap_drew, hbD]; rfl
  have y2 : (w1.setCell ⟨w.heap.size, 2, none⟩ (.slice os s.stmts.length cs)).drew.cell? ⟨w.heap.size, 2, none⟩ = some (.slice os s.stmts.length cs) := by simp only [World.cell?, heap_drew, hbD]; rfl
  have y3 : (w1.setCell ⟨w.heap.size, 2, none⟩ (.slice os s.stmts.length cs)).drew.cell? ⟨w.heap.size, 3, none⟩ = some (.int .i64 s.term.pos) := by simp only [World.cell?, heap_drew, hbD]; rfl
  have y4 : (w1.setCell ⟨w.heap.size, 2, none⟩ (.slice os s.stmts.length cs)).drew.cell? ⟨w.heap.size, 4, none⟩ = some (.int .i64 s.term.kind) := by simp only [World.cell?, heap_drew, hbD]; rfl
  have y5 : (w1.setCell ⟨w.heap.size, 2, none⟩ (.slice os s.stmts.length cs)).drew.cell? ⟨w.heap.size, 5, none⟩ = some (.string s.term.dest.loc) := by simp only [World.cell?, heap_drew, hbD]; rfl
  have y6 : (w1.setCell ⟨w.heap.size, 2, none⟩ (.slice os s.stmts.length cs)).drew.cell? ⟨w.heap.size, 6, none⟩ = some (.slice ob lb cb) := by simp only [World.cell?, heap_drew, hbD]; rfl
  have y7 : (w1.setCell ⟨w.heap.size, 2, none⟩ (.slice os s.stmts.length cs)).drew.cell? ⟨w.heap.size, 7, none⟩ = some (.string s.term.name) := by simp only [World.cell?, heap_drew, hbD]; rfl
  have y8 : (w1.setCell ⟨w.heap.size, 2, none⟩ (.slice os s.stmts.length cs)).drew.cell? ⟨w.heap.size, 8, none⟩ = some (.slice oc lc cc) := by simp only [World.cell?, heap_drew, hbD]; rfl
  have y9 : (w1.setCell ⟨w.heap.size, 2, none⟩ (.slice os s.stmts.length cs)).drew.cell? ⟨w.heap.size, 9, none⟩ = some (.slice od ld cd) := by simp only [World.cell?, heap_drew, hbD]; rfl
  have y10 : (w1.setCell ⟨w.heap.size, 2, none⟩ (.slice os s.stmts.length cs)).drew.cell? ⟨w.heap.size, 10, none⟩ = some (.slice oe le ce) := by simp only [World.cell?, heap_drew, hbD]; rfl
  clear hbD
  go_region_with (first
    | (go_at_call 123
       refine (HP.out _ (by exact ((Mod.setNew HM1.out _ _ (by simp)).trans (Mod.drew _ _) (fun _ h => Or.inl h)))).mono ?_
       rintro e w2 ⟨v1, rfl, hM, hp⟩
       have HM2 : Hd (Mod (fun _ => False) w w2) := ⟨by refine Mod.trans ?_ hM (fun _ h => Or.inl h); exact ((Mod.setNew HM1.out _ _ (by simp)).trans (Mod.drew _ _) (fun _ h => Or.inl h))⟩
       have HK1_2 : Hd (Mod (fun b => b = w.heap.size ∨ b = w.heap.size + 1) w1 w2) := ⟨by refine Mod.trans ?_ (hM.mono (fun _ h => h.elim)) (fun _ h => Or.inl h); exact ((Mod.setTwo HK1_1.out _ _ (by simp)).trans (Mod.drew _ _) (fun _ h => Or.inl h))⟩
       have HK2_2 : Hd (Mod (fun b => b = w.heap.size ∨ b = w.heap.size + 1) w2 w2) := ⟨Mod.refl _ _⟩
       have Hhp : Hd _ := ⟨hp⟩
       have hb0 := HB1_0.out
       have hb0 := heap_setCell_same (o := 2) (.slice os s.stmts.length cs) hb0
       simp only [List.setIfInBounds_toArray, List.set_cons_succ, List.set_cons_zero] at hb0
       have hb : w2.heap[w.heap.size]? = some (.cells #[.int .i64 s.pos, .string s.name, .slice os s.stmts.length cs, .int .i64 s.term.pos, .int .i64 s.term.kind, .string s.term.dest.loc, .slice ob lb cb, .string s.term.name, .slice oc lc cc, .slice od ld cd, .slice oe le ce] 64) := (hM.block _ (by have := (Array.getElem?_eq_some_iff.1 HB1_0.out).1; simpa using this) (fun h => h)).trans hb0
       have HB2_0 : Hd _ := ⟨hb⟩
       have c2_0_0 : w2.cell? ⟨w.heap.size, 0, none⟩ = some (.int .i64 s.pos) := by simp [World.cell?, hb]
       have c2_0_1 : w2.cell? ⟨w.heap.size, 1, none⟩ = some (.string s.name) := by simp [World.cell?, hb]
       have c2_0_2 : w2.cell? ⟨w.heap.size, 2, none⟩ = some (.slice os s.stmts.length cs) := by simp [World.cell?, hb]
       have c2_0_3 : w2.cell? ⟨w.heap.size, 3, none⟩ = some (.int .i64 s.term.pos) := by simp [World.cell?, hb]
       have c2_0_4 : w2.cell? ⟨w.heap.size, 4, none⟩ = some (.int .i64 s.term.kind) := by simp [World.cell?, hb]
       have c2_0_5 : w2.cell? ⟨w.heap.size, 5, none⟩ = some (.string s.term.dest.loc) := by simp [World.cell?, hb]
       have c2_0_6 : w2.cell? ⟨w.heap.size, 6, none⟩ = some (.slice ob lb cb) := by simp [World.cell?, hb]
       have c2_0_7 : w2.cell? ⟨w.heap.size, 7, none⟩ = some (.string s.term.name) := by simp [World.cell?, hb]
       have c2_0_8 : w2.cell? ⟨w.heap.size, 8, none⟩ = some (.slice oc lc cc) := by simp [World.cell?, hb]
       have c2_0_9 : w2.cell? ⟨w.heap.size, 9, none⟩ = some (.slice od ld cd) := by simp [World.cell?, hb]
       have c2_0_10 : w2.cell? ⟨w.heap.size, 10, none⟩ = some (.slice oe le ce) := by simp [World.cell?, hb]
       have z2_0 : ∀ j, w2.frozen? ⟨w.heap.size, j, none⟩ = false := fun j => by simp [World.frozen?, hb]
       clear hb
       clear hb0
       clear c1_0_0 c1_0_1 c1_0_2 c1_0_3 c1_0_4 c1_0_5 c1_0_6 c1_0_7 c1_0_8 c1_0_9 c1_0_10 z1_0
       have hb0 := HB1_1.out
       have hb0 := heap_setCell_far (g := w.heap.size) (o := 2) (.slice os s.stmts.length cs) hb0 (by omega)
       have hb : w2.heap[w.heap.size + 1]? = some (.cells #[.int .i64 0, .string { data := #[] }, .slice none 0 0, .int .i64 0, .int .i64 0, .string { data := #[] }, .slice none 0 0, .string { data := #[] }, .slice none 0 0, .slice none 0 0, .slice none 0 0] 64) := (hM.block _ (by have := (Array.getElem?_eq_some_iff.1 HB1_1.out).1; simpa using this) (fun h => h)).trans hb0
       have HB2_1 : Hd _ := ⟨hb⟩
       have c2_1_0 : w2.cell? ⟨w.heap.size + 1, 0, none⟩ = some (.int .i64 0) := by simp [World.cell?, hb]
       have c2_1_1 : w2.cell? ⟨w.heap.size + 1, 1, none⟩ = some (.string { data := #[] }) := by simp [World.cell?, hb]
       have c2_1_2 : w2.cell? ⟨w.heap.size + 1, 2, none⟩ = some (.slice none 0 0) := by simp [World.cell?, hb]
       have c2_1_3 : w2.cell? ⟨w.heap.size + 1, 3, none⟩ = some (.int .i64 0) := by simp [World.cell?, hb]
       have c2_1_4 : w2.cell? ⟨w.heap.size + 1, 4, none⟩ = some (.int .i64 0) := by simp [World.cell?, hb]
       have c2_1_5 : w2.cell? ⟨w.heap.size + 1, 5, none⟩ = some (.string { data := #[] }) := by simp [World.cell?, hb]
       have c2_1_6 : w2.cell? ⟨w.heap.size + 1, 6, none⟩ = some (.slice none 0 0) := by simp [World.cell?, hb]
       have c2_1_7 : w2.cell? ⟨w.heap.size + 1, 7, none⟩ = some (.string { data := #[] }) := by simp [World.cell?, hb]
       have c2_1_8 : w2.cell? ⟨w.heap.size + 1, 8, none⟩ = some (.slice none 0 0) := by simp [World.cell?, hb]
       have c2_1_9 : w2.cell? ⟨w.heap.size + 1, 9, none⟩ = some (.slice none 0 0) := by simp [World.cell?, hb]
       have c2_1_10 : w2.cell? ⟨w.heap.size + 1, 10, none⟩ = some (.slice none 0 0) := by simp [World.cell?, hb]
       have z2_1 : ∀ j, w2.frozen? ⟨w.heap.size + 1, j, none⟩ = false := fun j => by simp [World.frozen?, hb]
       clear hb
       clear hb0
       clear c1_1_0 c1_1_1 c1_1_2 c1_1_3 c1_1_4 c1_1_5 c1_1_6 c1_1_7 c1_1_8 c1_1_9 c1_1_10 z1_1
       clear hM hp
       obtain ⟨_, ob1, lb1, cb1, rfl, j1⟩ := Hhp.out
       have J1 : Hd _ := ⟨j1⟩
       clear j1 Hhp)
    | (go_at_call 124
       refine (HA.out _ (by exact HM2.out)).mono ?_
       rintro e w3 ⟨oc1, cc1, rfl, hM, k3⟩
       have HM3 : Hd (Mod (fun _ => False) w w3) := ⟨by refine Mod.trans ?_ hM (fun _ h => Or.inl h); exact HM2.out⟩
       have HK1_3 : Hd (Mod (fun b => b = w.heap.size ∨ b = w.heap.size + 1) w1 w3) := ⟨by refine Mod.trans ?_ (hM.mono (fun _ h => h.elim)) (fun _ h => Or.inl h); exact HK1_2.out⟩
       have HK2_3 : Hd (Mod (fun b => b = w.heap.size ∨ b = w.heap.size + 1) w2 w3) := ⟨by refine Mod.trans ?_ (hM.mono (fun _ h => h.elim)) (fun _ h => Or.inl h); exact HK2_2.out⟩
       have HK3_3 : Hd (Mod (fun b => b = w.heap.size ∨ b = w.heap.size + 1) w3 w3) := ⟨Mod.refl _ _⟩
       have Hk3 : Hd _ := ⟨k3⟩
       have hb0 := HB2_0.out
       have hb : w3.heap[w.heap.size]? = some (.cells #[.int .i64 s.pos, .string s.name, .slice os s.stmts.length cs, .int .i64 s.term.pos, .int .i64 s.term.kind, .string s.term.dest.loc, .slice ob lb cb, .string s.term.name, .slice oc lc cc, .slice od ld cd, .slice oe le ce] 64) := (hM.block _ (by have := (Array.getElem?_eq_some_iff.1 HB2_0.out).1; simpa using this) (fun h => h)).trans hb0
       have HB3_0 : Hd _ := ⟨hb⟩
       have c3_0_0 : w3.cell? ⟨w.heap.size, 0, none⟩ = some (.int .i64 s.pos) := by simp [World.cell?, hb]
       have c3_0_1 : w3.cell? ⟨w.heap.size, 1, none⟩ = some (.string s.name) := by simp [World.cell?, hb]
       have c3_0_2 : w3.cell? ⟨w.heap.size, 2, none⟩ = some (.slice os s.stmts.length cs) := by simp [World.cell?, hb]
       have c3_0_3 : w3.cell? ⟨w.heap.size, 3, none⟩ = some (.int .i64 s.term.pos) := by simp [World.cell?, hb]
       have c3_0_4 : w3.cell? ⟨w.heap.size, 4, none⟩ = some (.int .i64 s.term.kind) := by simp [World.cell?, hb]
       have c3_0_5 : w3.cell? ⟨w.heap.size, 5, none⟩ = some (.string s.term.dest.loc) := by simp [World.cell?, hb]
       have c3_0_6 : w3.cell? ⟨w.heap.size, 6, none⟩ = some (.slice ob lb cb) := by simp [World.cell?, hb]
       have c3_0_7 : w3.cell? ⟨w.heap.size, 7, none⟩ = some (.string s.term.name) := by simp [World.cell?, hb]
       have c3_0_8 : w3.cell? ⟨w.heap.size, 8, none⟩ = some (.slice oc lc cc) := by simp [World.cell?, hb]
       have c3_0_9 : w3.cell? ⟨w.heap.size, 9, none⟩ = some (.slice od ld cd) := by simp [World.cell?, hb]
       have c3_0_10 : w3.cell? ⟨w.heap.size, 10, none⟩ = some (.slice oe le ce) := by simp [World.cell?, hb]
       have z3_0 : ∀ j, w3.frozen? ⟨w.heap.size, j, none⟩ = false := fun j => by simp [World.frozen?, hb]
       clear hb
       clear hb0
       clear c2_0_0 c2_0_1 c2_0_2 c2_0_3 c2_0_4 c2_0_5 c2_0_6 c2_0_7 c2_0_8 c2_0_9 c2_0_10 z2_0
       have hb0 := HB2_1.out
       have hb : w3.heap[w.heap.size + 1]? = some (.cells #[.int .i64 0, .string { data := #[] }, .slice none 0 0, .int .i64 0, .int .i64 0, .string { data := #[] }, .slice none 0 0, .string { data := #[] }, .slice none 0 0, .slice none 0 0, .slice none 0 0] 64) := (hM.block _ (by have := (Array.getElem?_eq_some_iff.1 HB2_1.out).1; simpa using this) (fun h => h)).trans hb0
       have HB3_1 : Hd _ := ⟨hb⟩
       have c3_1_0 : w3.cell? ⟨w.heap.size + 1, 0, none⟩ = some (.int .i64 0) := by simp [World.cell?, hb]
       have c3_1_1 : w3.cell? ⟨w.heap.size + 1, 1, none⟩ = some (.string { data := #[] }) := by simp [World.cell?, hb]
       have c3_1_2 : w3.cell? ⟨w.heap.size + 1, 2, none⟩ = some (.slice none 0 0) := by simp [World.cell?, hb]
       have c3_1_3 : w3.cell? ⟨w.heap.size + 1, 3, none⟩ = some (.int .i64 0) := by simp [World.cell?, hb]
       have c3_1_4 : w3.cell? ⟨w.heap.size + 1, 4, none⟩ = some (.int .i64 0) := by simp [World.cell?, hb]
       have c3_1_5 : w3.cell? ⟨w.heap.size + 1, 5, none⟩ = some (.string { data := #[] }) := by simp [World.cell?, hb]
       have c3_1_6 : w3.cell? ⟨w.heap.size + 1, 6, none⟩ = some (.slice none 0 0) := by simp [World.cell?, hb]
       have c3_1_7 : w3.cell? ⟨w.heap.size + 1, 7, none⟩ = some (.string { data := #[] }) := by simp [World.cell?, hb]
       have c3_1_8 : w3.cell? ⟨w.heap.size + 1, 8, none⟩ = some (.slice none 0 0) := by simp [World.cell?, hb]
       have c3_1_9 : w3.cell? ⟨w.heap.size + 1, 9, none⟩ = some (.slice none 0 0) := by simp [World.cell?, hb]
       have c3_1_10 : w3.cell? ⟨w.heap.size + 1, 10, none⟩ = some (.slice none 0 0) := by simp [World.cell?, hb]
       have z3_1 : ∀ j, w3.frozen? ⟨w.heap.size + 1, j, none⟩ = false := fun j => by simp [World.frozen?, hb]
       clear hb
       clear hb0
       clear c2_1_0 c2_1_1 c2_1_2 c2_1_3 c2_1_4 c2_1_5 c2_1_6 c2_1_7 c2_1_8 c2_1_9 c2_1_10 z2_1
       clear hM k3))
  all_goals
    go_wp2_with fail
    have hbD := HB3_0.out
    have hbD := heap_setCell_same (o := 5) (.string s.term.dest.loc) hbD
    have hbD := heap_setCell_same (o := 6) (.slice ob1 lb1 cb1) hbD
    have hbD := heap_setCell_same (o := 8) (.slice oc1 s.term.args.length cc1) hbD
    simp only [List.setIfInBounds_toArray, List.set_cons_succ, List.set_cons_zero] at hbD
    have y0 : (((w3.setCell ⟨w.heap.size, 5, none⟩ (.string s.term.dest.loc)).setCell ⟨w.heap.size, 6, none⟩ (.slice ob1 lb1 cb1)).setCell ⟨w.heap.size, 8, none⟩ (.slice oc1 s.term.args.length cc1)).drew.cell? ⟨w.heap.size, 0, none⟩ = some (.int .i64 s.pos) := by simp only [World.cell?, heap_drew, hbD]; rfl
    have y1 : (((w3.setCell ⟨w.heap.size, 5, none⟩ (.string s.term.dest.loc)).setCell ⟨w.heap.size, 6, none⟩ (.slice ob1 lb1 cb1)).setCell ⟨w.heap.size, 8, none⟩ (.slice oc1 s.term.args.length cc1)).drew.cell? ⟨w.heap.size, 1, none⟩ = some (.string s.name) := by simp only [World.cell?, heap_drew, hbD]; rfl
    have y2 : (((w3.setCell ⟨w.heap.size, 5, none⟩ (.string s.term.dest.loc)).setCell ⟨w.heap.size, 6, none⟩ (.slice ob1 lb1 cb1)).setCell ⟨w.heap.size, 8, none⟩ (.slice oc1 s.term.args.length cc1)).drew.cell? ⟨w.heap.size, 2, none⟩ = some (.slice os s.stmts.length cs) := by simp only [World.cell?, heap_drew, hbD]; rfl
    have y3 : (((w3.setCell ⟨w.heap.size, 5, none⟩ (.string s.term.dest.loc)).setCell ⟨w.heap.size, 6, none⟩ (.slice ob1 lb1 cb1)).setCell ⟨w.heap.size, 8, none⟩ (.slice oc1 s.term.args.length cc1)).drew.cell? ⟨w.heap.size, 3, none⟩ = some (.int .i64 s.term.pos) := by simp only [World.cell?, heap_drew, hbD]; rfl
    have y4 : (((w3.setCell ⟨w.heap.size, 5, none⟩ (.string s.term.dest.loc)).setCell ⟨w.heap.size, 6, none⟩ (.slice ob1 lb1 cb1)).setCell ⟨w.heap.size, 8, none⟩ (.slice oc1 s.term.args.length cc1)).drew.cell? ⟨w.heap.size, 4, none⟩ = some (.int .i64 s.term.kind) := by simp only [World.cell?, heap_drew, hbD]; rfl
    have y5 : (((w3.setCell ⟨w.heap.size, 5, none⟩ (.string s.term.dest.loc)).setCell ⟨w.heap.size, 6, none⟩ (.slice ob1 lb1 cb1)).setCell ⟨w.heap.size, 8, none⟩ (.slice oc1 s.term.args.length cc1)).drew.cell? ⟨w.heap.size, 5, none⟩ = some (.string s.term.dest.loc) := by simp only [World.cell?, heap_drew, hbD]; rfl
    have y6 : (((w3.setCell ⟨w.heap.size, 5, none⟩ (.string s.term.dest.loc)).setCell ⟨w.heap.size, 6, none⟩ (.slice ob1 lb1 cb1)).setCell ⟨w.heap.size, 8, none⟩ (.slice oc1 s.term.args.length cc1)).drew.cell? ⟨w.heap.size, 6, none⟩ = some (.slice ob1 lb1 cb1) := by simp only [World.cell?, heap_drew, hbD]; rfl
    have y7 : (((w3.setCell ⟨w.heap.size, 5, none⟩ (.string s.term.dest.loc)).setCell ⟨w.heap.size, 6, none⟩ (.slice ob1 lb1 cb1)).setCell ⟨w.heap.size, 8, none⟩ (.slice oc1 s.term.args.length cc1)).drew.cell? ⟨w.heap.size, 7, none⟩ = some (.string s.term.name) := by simp only [World.cell?, heap_drew, hbD]; rfl
    have y8 : (((w3.setCell ⟨w.heap.size, 5, none⟩ (.string s.term.dest.loc)).setCell ⟨w.heap.size, 6, none⟩ (.slice ob1 lb1 cb1)).setCell ⟨w.heap.size, 8, none⟩ (.slice oc1 s.term.args.length cc1)).drew.cell? ⟨w.heap.size, 8, none⟩ = some (.slice oc1 s.term.args.length cc1) := by simp only [World.cell?, heap_drew, hbD]; rfl
    have y9 : (((w3.setCell ⟨w.heap.size, 5, none⟩ (.string s.term.dest.loc)).setCell ⟨w.heap.size, 6, none⟩ (.slice ob1 lb1 cb1)).setCell ⟨w.heap.size, 8, none⟩ (.slice oc1 s.term.args.length cc1)).drew.cell? ⟨w.heap.size, 9, none⟩ = some (.slice od ld cd) := by simp only [World.cell?, heap_drew, hbD]; rfl
    have y10 : (((w3.setCell ⟨w.heap.size, 5, none⟩ (.string s.term.dest.loc)).setCell ⟨w.heap.size, 6, none⟩ (.slice ob1 lb1 cb1)).setCell ⟨w.heap.size, 8, none⟩ (.slice oc1 s.term.args.length cc1)).drew.cell? ⟨w.heap.size, 10, none⟩ = some (.slice oe le ce) := by simp only [World.cell?, heap_drew, hbD]; rfl
    clear hbD
    go_region_with (first
      | (go_at_call 36
         refine (HB.out _ (by exact ((Mod.setNew (Mod.setNew (Mod.setNew HM3.out _ _ (by simp)) _ _ (by simp)) _ _ (by simp)).trans (Mod.drew _ _) (fun _ h => Or.inl h)))).mono ?_
         rintro e w4 ⟨od1, cd1, rfl, hM, k4, hx⟩
         have HM4 : Hd (Mod (fun _ => False) w w4) := ⟨by refine Mod.trans ?_ hM (fun _ h => Or.inl h); exact ((Mod.setNew (Mod.setNew (Mod.setNew HM3.out _ _ (by simp)) _ _ (by simp)) _ _ (by simp)).trans (Mod.drew _ _) (fun _ h => Or.inl h))⟩
         have HK1_4 : Hd (Mod (fun b => b = w.heap.size ∨ b = w.heap.size + 1) w1 w4) := ⟨by refine Mod.trans ?_ (hM.mono (fun _ h => h.elim)) (fun _ h => Or.inl h); exact ((Mod.setTwo (Mod.setTwo (Mod.setTwo HK1_3.out _ _ (by simp)) _ _ (by simp)) _ _ (by simp)).trans (Mod.drew _ _) (fun _ h => Or.inl h))⟩
         have HK2_4 : Hd (Mod (fun b => b = w.heap.size ∨ b = w.heap.size + 1) w2 w4) := ⟨by refine Mod.trans ?_ (hM.mono (fun _ h => h.elim)) (fun _ h => Or.inl h); exact ((Mod.setTwo (Mod.setTwo (Mod.setTwo HK2_3.out _ _ (by simp)) _ _ (by simp)) _ _ (by simp)).trans (Mod.drew _ _) (fun _ h => Or.inl h))⟩
         have HK3_4 : Hd (Mod (fun b => b = w.heap.size ∨ b = w.heap.size + 1) w3 w4) := ⟨by refine Mod.trans ?_ (hM.mono (fun _ h => h.elim)) (fun _ h => Or.inl h); exact ((Mod.setTwo (Mod.setTwo (Mod.setTwo HK3_3.out _ _ (by simp)) _ _ (by simp)) _ _ (by simp)).trans (Mod.drew _ _) (fun _ h => Or.inl h))⟩
         have HK4_4 : Hd (Mod (fun b => b = w.heap.size ∨ b = w.heap.size + 1) w4 w4) := ⟨Mod.refl _ _⟩
         have Hk4 : Hd _ := ⟨k4⟩
         have Hhx : Hd _ := ⟨hx⟩
         have hb0 := HB3_0.out
         have hb0 := heap_setCell_same (o := 5) (.string s.term.dest.loc) hb0
         have hb0 := heap_setCell_same (o := 6) (.slice ob1 lb1 cb1) hb0
         have hb0 := heap_setCell_same (o := 8) (.slice oc1 s.term.args.length cc1) hb0
         simp only [List.setIfInBounds_toArray, List.set_cons_succ, List.set_cons_zero] at hb0
         have hb : w4.heap[w.heap.size]? = some (.cells #[.int .i64 s.pos, .string s.name, .slice os s.stmts.length cs, .int .i64 s.term.pos, .int .i64 s.term.kind, .string s.term.dest.loc, .slice ob1 lb1 cb1, .string s.term.name, .slice oc1 s.term.args.length cc1, .slice od ld cd, .slice oe le ce] 64) := (hM.block _ (by have := (Array.getElem?_eq_some_iff.1 HB3_0.out).1; simpa using this) (fun h => h)).trans hb0
         have HB4_0 : Hd _ := ⟨hb⟩
         have c4_0_0 : w4.cell? ⟨w.heap.size, 0, none⟩ = some (.int .i64 s.pos) := by simp [World.cell?, hb]
         have c4_0_1 : w4.cell? ⟨w.heap.size, 1, none⟩ = some (.string s.name) := by simp [World.cell?, hb]
         have c4_0_2 : w4.cell? ⟨w.heap.size, 2, none⟩ = some (.slice os s.stmts.length cs) := by simp [World.cell?, hb]
         have c4_0_3 : w4.cell? ⟨w.heap.size, 3, none⟩ = some (.int .i64 s.term.pos) := by simp [World.cell?, hb]
         have c4_0_4 : w4.cell? ⟨w.heap.size, 4, none⟩ = some (.int .i64 s.term.kind) := by simp [World.cell?, hb]
         have c4_0_5 : w4.cell? ⟨w.heap.size, 5, none⟩ = some (.string s.term.dest.loc) := by simp [World.cell?, hb]
         have c4_0_6 : w4.cell? ⟨w.heap.size, 6, none⟩ = some (.slice ob1 lb1 cb1) := by simp [World.cell?, hb]
         have c4_0_7 : w4.cell? ⟨w.heap.size, 7, none⟩ = some (.string s.term.name) := by simp [World.cell?, hb]
         have c4_0_8 : w4.cell? ⟨w.heap.size, 8, none⟩ = some (.slice oc1 s.term.args.length cc1) := by simp [World.cell?, hb]
         have c4_0_9 : w4.cell? ⟨w.heap.size, 9, none⟩ = some (.slice od ld cd) := by simp [World.cell?, hb]
         have c4_0_10 : w4.cell? ⟨w.heap.size, 10, none⟩ = some (.slice oe le ce) := by simp [World.cell?, hb]
         have z4_0 : ∀ j, w4.frozen? ⟨w.heap.size, j, none⟩ = false := fun j => by simp [World.frozen?, hb]
         clear hb
         clear hb0
         clear c3_0_0 c3_0_1 c3_0_2 c3_0_3 c3_0_4 c3_0_5 c3_0_6 c3_0_7 c3_0_8 c3_0_9 c3_0_10 z3_0
         have hb0 := HB3_1.out
         have hb0 := heap_setCell_far (g := w.heap.size) (o := 5) (.string s.term.dest.loc) hb0 (by omega)
         have hb0 := heap_setCell_far (g := w.heap.size) (o := 6) (.slice ob1 lb1 cb1) hb0 (by omega)
         have hb0 := heap_setCell_far (g := w.heap.size) (o := 8) (.slice oc1 s.term.args.length cc1) hb0 (by omega)
         have hb : w4.heap[w.heap.size + 1]? = some (.cells #[.int .i64 0, .string { data := #[] }, .slice none 0 0, .int .i64 0, .int .i64 0, .string { data := #[] }, .slice none 0 0, .string { data := #[] }, .slice none 0 0, .slice none 0 0, .slice none 0 0] 64) := (hM.block _ (by have := (Array.getElem?_eq_some_iff.1 HB3_1.out).1; simpa using this) (fun h => h)).trans hb0
         have HB4_1 : Hd _ := ⟨hb⟩
         have c4_1_0 : w4.cell? ⟨w.heap.size + 1, 0, none⟩ = some (.int .i64 0) := by simp [World.cell?, hb]
         have c4_1_1 : w4.cell? ⟨w.heap.size + 1, 1, none⟩ = some (.string { data := #[] }) := by simp [World.cell?, hb]
         have c4_1_2 : w4.cell? ⟨w.heap.size + 1, 2, none⟩ = some (.slice none 0 0) := by simp [World.cell?, hb]
         have c4_1_3 : w4.cell? ⟨w.heap.size + 1, 3, none⟩ = some (.int .i64 0) := by simp [World.cell?, hb]
         have c4_1_4 : w4.cell? ⟨w.heap.size + 1, 4, none⟩ = some (.int .i64 0) := by simp [World.cell?, hb]
         have c4_1_5 : w4.cell? ⟨w.heap.size + 1, 5, none⟩ = some (.string { data := #[] }) := by simp [World.cell?, hb]
         have c4_1_6 : w4.cell? ⟨w.heap.size + 1, 6, none⟩ = some (.slice none 0 0) := by simp [World.cell?, hb]
         have c4_1_7 : w4.cell? ⟨w.heap.size + 1, 7, none⟩ = some (.string { data := #[] }) := by simp [World.cell?, hb]
         have c4_1_8 : w4.cell? ⟨w.heap.size + 1, 8, none⟩ = some (.slice none 0 0) := by simp [World.cell?, hb]
         have c4_1_9 : w4.cell? ⟨w.heap.size + 1, 9, none⟩ = some (.slice none 0 0) := by simp [World.cell?, hb]
         have c4_1_10 : w4.cell? ⟨w.heap.size + 1, 10, none⟩ = some (.slice none 0 0) := by simp [World.cell?, hb]
         have z4_1 : ∀ j, w4.frozen? ⟨w.heap.size + 1, j, none⟩ = false := fun j => by simp [World.frozen?, hb]
         clear hb
         clear hb0
         clear c3_1_0 c3_1_1 c3_1_2 c3_1_3 c3_1_4 c3_1_5 c3_1_6 c3_1_7 c3_1_8 c3_1_9 c3_1_10 z3_1
         clear hM k4 hx
         clear Hhx)
      | (go_at_call 125
         refine (HC.out _ (by exact HM4.out)).mono ?_
         rintro e w5 ⟨oe1, ce1, rfl, hM, k5, hx⟩
         have HM5 : Hd (Mod (fun _ => False) w w5) := ⟨by refine Mod.trans ?_ hM (fun _ h => Or.inl h); exact HM4.out⟩
         have HK1_5 : Hd (Mod (fun b => b = w.heap.size ∨ b = w.heap.size + 1) w1 w5) := ⟨by refine Mod.trans ?_ (hM.mono (fun _ h => h.elim)) (fun _ h => Or.inl h); exact HK1_4.out⟩
         have HK2_5 : Hd (Mod (fun b => b = w.heap.size ∨ b = w.heap.size + 1) w2 w5) := ⟨by refine Mod.trans ?_ (hM.mono (fun _ h => h.elim)) (fun _ h => Or.inl h); exact HK2_4.out⟩
         have HK3_5 : Hd (Mod (fun b => b = w.heap.size ∨ b = w.heap.size + 1) w3 w5) := ⟨by refine Mod.trans ?_ (hM.mono (fun _ h => h.elim)) (fun _ h => Or.inl h); exact HK3_4.out⟩
         have HK4_5 : Hd (Mod (fun b => b = w.heap.size ∨ b = w.heap.size + 1) w4 w5) := ⟨by refine Mod.trans ?_ (hM.mono (fun _ h => h.elim)) (fun _ h => Or.inl h); exact HK4_4.out⟩
         have HK5_5 : Hd (Mod (fun b => b = w.heap.size ∨ b = w.heap.size + 1) w5 w5) := ⟨Mod.refl _ _⟩
         have Hk5 : Hd _ := ⟨k5⟩
         have Hhx : Hd _ := ⟨hx⟩
         have hb0 := HB4_0.out
         have hb : w5.heap[w.heap.size]? = some (.cells #[.int .i64 s.pos, .string s.name, .slice os s.stmts.length cs, .int .i64 s.term.pos, .int .i64 s.term.kind, .string s.term.dest.loc, .slice ob1 lb1 cb1, .string s.term.name, .slice oc1 s.term.args.length cc1, .slice od ld cd, .slice oe le ce] 64) := (hM.block _ (by have := (Array.getElem?_eq_some_iff.1 HB4_0.out).1; simpa using this) (fun h => h)).trans hb0
         have HB5_0 : Hd _ := ⟨hb⟩
         have c5_0_0 : w5.cell? ⟨w.heap.size, 0, none⟩ = some (.int .i64 s.pos) := by simp [World.cell?, hb]
         have c5_0_1 : w5.cell? ⟨w.heap.size, 1, none⟩ = some (.string s.name) := by simp [World.cell?, hb]
         have c5_0_2 : w5.cell? ⟨w.heap.size, 2, none⟩ = some (.slice os s.stmts.length cs) := by simp [World.cell?, hb]
         have c5_0_3 : w5.cell? ⟨w.heap.size, 3, none⟩ = some (.int .i64 s.term.pos) := by simp [World.cell?, hb]
         have c5_0_4 : w5.cell? ⟨w.heap.size, 4, none⟩ = some (.int .i64 s.term.kind) := by simp [World.cell?, hb]
         have c5_0_5 : w5.cell? ⟨w.heap.size, 5, none⟩ = some (.string s.term.dest.loc) := by simp [World.cell?, hb]
         have c5_0_6 : w5.cell? ⟨w.heap.size, 6, none⟩ = some (.slice ob1 lb1 cb1) := by simp [World.cell?, hb]
         have c5_0_7 : w5.cell? ⟨w.heap.size, 7, none⟩ = some (.string s.term.name) := by simp [World.cell?, hb]
         have c5_0_8 : w5.cell? ⟨w.heap.size, 8, none⟩ = some (.slice oc1 s.term.args.length cc1) := by simp [World.cell?, hb]
         have c5_0_9 : w5.cell? ⟨w.heap.size, 9, none⟩ = some (.slice od ld cd) := by simp [World.cell?, hb]
         have c5_0_10 : w5.cell? ⟨w.heap.size, 10, none⟩ = some (.slice oe le ce) := by simp [World.cell?, hb]
         have z5_0 : ∀ j, w5.frozen? ⟨w.heap.size, j, none⟩ = false := fun j => by simp [World.frozen?, hb]
         clear hb
         clear hb0
         clear c4_0_0 c4_0_1 c4_0_2 c4_0_3 c4_0_4 c4_0_5 c4_0_6 c4_0_7 c4_0_8 c4_0_9 c4_0_10 z4_0
         have hb0 := HB4_1.out
         have hb : w5.heap[w.heap.size + 1]? = some (.cells #[.int .i64 0, .string { data := #[] }, .slice none 0 0, .int .i64 0, .int .i64 0, .string { data := #[] }, .slice none 0 0, .string { data := #[] }, .slice none 0 0, .slice none 0 0, .slice none 0 0] 64) := (hM.block _ (by have := (Array.getElem?_eq_some_iff.1 HB4_1.out).1; simpa using this) (fun h => h)).trans hb0
         have HB5_1 : Hd _ := ⟨hb⟩
         have c5_1_0 : w5.cell? ⟨w.heap.size + 1, 0, none⟩ = some (.int .i64 0) := by simp [World.cell?, hb]
         have c5_1_1 : w5.cell? ⟨w.heap.size + 1, 1, none⟩ = some (.string { data := #[] }) := by simp [World.cell?, hb]
         have c5_1_2 : w5.cell? ⟨w.heap.size + 1, 2, none⟩ = some (.slice none 0 0) := by simp [World.cell?, hb]
         have c5_1_3 : w5.cell? ⟨w.heap.size + 1, 3, none⟩ = some (.int .i64 0) := by simp [World.cell?, hb]
         have c5_1_4 : w5.cell? ⟨w.heap.size + 1, 4, none⟩ = some (.int .i64 0) := by simp [World.cell?, hb]
         have c5_1_5 : w5.cell? ⟨w.heap.size + 1, 5, none⟩ = some (.string { data := #[] }) := by simp [World.cell?, hb]
         have c5_1_6 : w5.cell? ⟨w.heap.size + 1, 6, none⟩ = some (.slice none 0 0) := by simp [World.cell?, hb]
         have c5_1_7 : w5.cell? ⟨w.heap.size + 1, 7, none⟩ = some (.string { data := #[] }) := by simp [World.cell?, hb]
         have c5_1_8 : w5.cell? ⟨w.heap.size + 1, 8, none⟩ = some (.slice none 0 0) := by simp [World.cell?, hb]
         have c5_1_9 : w5.cell? ⟨w.heap.size + 1, 9, none⟩ = some (.slice none 0 0) := by simp [World.cell?, hb]
         have c5_1_10 : w5.cell? ⟨w.heap.size + 1, 10, none⟩ = some (.slice none 0 0) := by simp [World.cell?, hb]
         have z5_1 : ∀ j, w5.frozen? ⟨w.heap.size + 1, j, none⟩ = false := fun j => by simp [World.frozen?, hb]
         clear hb
         clear hb0
         clear c4_1_0 c4_1_1 c4_1_2 c4_1_3 c4_1_4 c4_1_5 c4_1_6 c4_1_7 c4_1_8 c4_1_9 c4_1_10 z4_1
         clear hM k5 hx
         clear Hhx))
    all_goals
      go_wp2
      have SZ1 : w.heap.size + 2 ≤ w1.heap.size := by have := (Array.getElem?_eq_some_iff.1 HB1_1.out).1; omega
      have SZ2 : w.heap.size + 2 ≤ w2.heap.size := by have := (Array.getElem?_eq_some_iff.1 HB2_1.out).1; omega
      have SZ3 : w.heap.size + 2 ≤ w3.heap.size := by have := (Array.getElem?_eq_some_iff.1 HB3_1.out).1; omega
      have SZ4 : w.heap.size + 2 ≤ w4.heap.size := by have := (Array.getElem?_eq_some_iff.1 HB4_1.out).1; omega
      have SZ5 : w.heap.size + 2 ≤ w5.heap.size := by have := (Array.getElem?_eq_some_iff.1 HB5_1.out).1; omega
      have hb0 := HB5_1.out
      have hb0 := heap_setCell_far (g := w.heap.size) (o := 9) (.slice od1 s.term.blocks.length cd1) hb0 (by omega)
      have hb0 := heap_setCell_far (g := w.heap.size) (o := 10) (.slice oe1 s.term.arms.length ce1) hb0 (by omega)
      have hb1 := heap_setCells_all [.int .i64 s.pos, .string s.name, .slice os s.stmts.length cs, .int .i64 s.term.pos, .int .i64 s.term.kind, .string s.term.dest.loc, .slice ob1 lb1 cb1, .string s.term.name, .slice oc1 s.term.args.length cc1, .slice od1 s.term.blocks.length cd1, .slice oe1 s.term.arms.length ce1] hb0 rfl
      refine bodyPost_ret (results_cell_row (cs := #[.int .i64 s.pos, .string s.name, .slice os s.stmts.length cs, .int .i64 s.term.pos, .int .i64 s.term.kind, .string s.term.dest.loc, .slice ob1 lb1 cb1, .string s.term.name, .slice oc1 s.term.args.length cc1, .slice od1 s.term.blocks.length cd1, .slice oe1 s.term.arms.length ce1]) rfl _ _ (w.heap.size + 1) 64 (0, 0) _ rfl hb1 Tryz.underlying64 rfl (by kernel_rfl)) rfl ?_
      clear hb0 hb1
      refine ⟨_, rfl, (by exact (Mod.setNew (Mod.setNew (Mod.setNew (Mod.setNew (Mod.setNew (Mod.setNew (Mod.setNew (Mod.setNew (Mod.setNew (Mod.setNew (Mod.setNew (Mod.setNew (Mod.setNew HM5.out _ _ (by simp)) _ _ (by simp)) _ _ (by simp)) _ _ (by simp)) _ _ (by simp)) _ _ (by simp)) _ _ (by simp)) _ _ (by simp)) _ _ (by simp)) _ _ (by simp)) _ _ (by simp)) _ _ (by simp)) _ _ (by simp))), h0, h1, os, _, cs, ob1, lb1, cb1, oc1, _, cc1, od1, _, cd1, oe1, _, ce1, rfl, Hk2.out.keep (Mod.kp2 (w := w) (Mod.setTwo (Mod.setTwo (Mod.setTwo (Mod.setTwo (Mod.setTwo (Mod.setTwo (Mod.setTwo (Mod.setTwo (Mod.setTwo (Mod.setTwo (Mod.setTwo (Mod.setTwo (Mod.setTwo HK1_5.out _ _ (by simp)) _ _ (by simp)) _ _ (by simp)) _ _ (by simp)) _ _ (by simp)) _ _ (by simp)) _ _ (by simp)) _ _ (by simp)) _ _ (by simp)) _ _ (by simp)) _ _ (by simp)) _ _ (by simp)) _ _ (by simp)) (fun b hb => Nat.le_trans (by simp) hb)) (fun _ _ h => h.keep (Mod.kp2 (w := w) (Mod.setTwo (Mod.setTwo (Mod.setTwo (Mod.setTwo (Mod.setTwo (Mod.setTwo (Mod.setTwo (Mod.setTwo (Mod.setTwo (Mod.setTwo (Mod.setTwo (Mod.setTwo (Mod.setTwo HK1_5.out _ _ (by simp)) _ _ (by simp)) _ _ (by simp)) _ _ (by simp)) _ _ (by simp)) _ _ (by simp)) _ _ (by simp)) _ _ (by simp)) _ _ (by simp)) _ _ (by simp)) _ _ (by simp)) _ _ (by simp)) _ _ (by simp)) (fun b hb => Nat.le_trans (by simp) hb))), HT.out.1, HT.out.2.1, HT.out.2.2.1, HT.out.2.2.2, ob1, lb1, cb1, oc1, _, cc1, od1, _, cd1, oe1, _, ce1, rfl, J1.out.keep (Mod.kp2 (w := w) (Mod.setTwo (Mod.setTwo (Mod.setTwo (Mod.setTwo (Mod.setTwo (Mod.setTwo (Mod.setTwo (Mod.setTwo (Mod.setTwo (Mod.setTwo (Mod.setTwo (Mod.setTwo (Mod.setTwo HK2_5.out _ _ (by simp)) _ _ (by simp)) _ _ (by simp)) _ _ (by simp)) _ _ (by simp)) _ _ (by simp)) _ _ (by simp)) _ _ (by simp)) _ _ (by simp)) _ _ (by simp)) _ _ (by simp)) _ _ (by simp)) _ _ (by simp)) (fun b hb => Nat.le_trans (by simpa using SZ1) hb)) (fun _ _ h => h), Hk3.out.keep (Mod.kp2 (w := w) (Mod.setTwo (Mod.setTwo (Mod.setTwo (Mod.setTwo (Mod.setTwo (Mod.setTwo (Mod.setTwo (Mod.setTwo (Mod.setTwo (Mod.setTwo (Mod.setTwo (Mod.setTwo (Mod.setTwo HK3_5.out _ _ (by simp)) _ _ (by simp)) _ _ (by simp)) _ _ (by simp)) _ _ (by simp)) _ _ (by simp)) _ _ (by simp)) _ _ (by simp)) _ _ (by simp)) _ _ (by simp)) _ _ (by simp)) _ _ (by simp)) _ _ (by simp)) (fun b hb => Nat.le_trans (by simpa using SZ2) hb)) (fun _ _ h => h.keep (Mod.kp2 (w := w) (Mod.setTwo (Mod.setTwo (Mod.setTwo (Mod.setTwo (Mod.setTwo (Mod.setTwo (Mod.setTwo (Mod.setTwo (Mod.setTwo (Mod.setTwo (Mod.setTwo (Mod.setTwo (Mod.setTwo HK3_5.out _ _ (by simp)) _ _ (by simp)) _ _ (by simp)) _ _ (by simp)) _ _ (by simp)) _ _ (by simp)) _ _ (by simp)) _ _ (by simp)) _ _ (by simp)) _ _ (by simp)) _ _ (by simp)) _ _ (by simp)) _ _ (by simp)) (fun b hb => Nat.le_trans (by simpa using SZ2) hb))), Hk4.out.keep (Mod.kp2 (w := w) (Mod.setTwo (Mod.setTwo (Mod.setTwo (Mod.setTwo (Mod.setTwo (Mod.setTwo (Mod.setTwo (Mod.setTwo (Mod.setTwo (Mod.setTwo (Mod.setTwo (Mod.setTwo (Mod.setTwo HK4_5.out _ _ (by simp)) _ _ (by simp)) _ _ (by simp)) _ _ (by simp)) _ _ (by simp)) _ _ (by simp)) _ _ (by simp)) _ _ (by simp)) _ _ (by simp)) _ _ (by simp)) _ _ (by simp)) _ _ (by simp)) _ _ (by simp)) (fun b hb => Nat.le_trans (by simpa using SZ3) hb)) (fun _ _ h => h), Hk5.out.keep (Mod.kp2 (w := w) (Mod.setTwo (Mod.setTwo (Mod.setTwo (Mod.setTwo (Mod.setTwo (Mod.setTwo (Mod.setTwo (Mod.setTwo (Mod.setTwo (Mod.setTwo (Mod.setTwo (Mod.setTwo (Mod.setTwo HK5_5.out _ _ (by simp)) _ _ (by simp)) _ _ (by simp)) _ _ (by simp)) _ _ (by simp)) _ _ (by simp)) _ _ (by simp)) _ _ (by simp)) _ _ (by simp)) _ _ (by simp)) _ _ (by simp)) _ _ (by simp)) _ _ (by simp)) (fun b hb => Nat.le_trans (by simpa using SZ4) hb)) (fun _ _ h => h)⟩
theorem fn_76 : Fn 76 := fn_of Tryz.func76 (by decide +kernel) (by kernel_rfl)
end
end Go.Proofs.YtpodeccpibnlbaaGreatDoor
