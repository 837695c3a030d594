/- A call's own two boxes: what a store into one of them leaves. No program in sight. clonePlace and the closure on statements, walked. The closures on structs and enums of Clone, walked. -/
import Derived.Test.YtpodeccpibnlbaaGreatDoorG11
import Derived.Test.YtpodeccpibnlbaaGreatDoorG04
import Derived.Test.YtpodeccpibnlbaaGreatDoorG12
namespace Go.Proofs.YtpodeccpibnlbaaGreatDoor
set_option linter.unusedVariables false
set_option linter.unusedSimpArgs false
open Go.RowKit

theorem Mod.setNew {w w1 : World} (h : Mod (fun _ => False) w w1) (a : Addr) (v : Value) (ha : w.heap.size ≤ a.block) : Mod (fun _ => False) w (w1.setCell a v) :=
  h.trans (Mod.setCell (S := fun b => b = a.block) w1 a v rfl) (fun i hi => Or.inr (by subst hi; exact ha))
theorem heap_setCell_same {g o : Nat} {e : TypeId} {fr : Nat × Nat} {w : World} {cur : Array Value} (v : Value) (h : w.heap[g]? = some (.cells cur e fr)) : (w.setCell ⟨g, o, none⟩ v).heap[g]? = some (.cells (cur.setIfInBounds o v) e fr) := by
  simp [World.setCell, Array.getElem?_modify, h]
theorem heap_setCell_far {g b o : Nat} {w : World} {x : Option Obj} (v : Value) (h : w.heap[b]? = x) (hne : b ≠ g) : (w.setCell ⟨g, o, none⟩ v).heap[b]? = x := by
  rw [← h]; exact Below.heap_setCell w _ v b hne
/-- All but the two boxes of a call is kept. -/
theorem Mod.kp2 {w wa wb : World} {B : Nat} (h : Mod (fun b => b = w.heap.size ∨ b = w.heap.size + 1) wa wb) (hS : ∀ b, B ≤ b → w.heap.size + 2 ≤ b) : Kp (Nb B wa) wa (Nb w.heap.size wb) wb := fun b hb hl => by
  obtain ⟨hb1, cur, t, hb2⟩ := hb
  have h3 := hS b hb1
  have e := h.block b hl (fun h => by omega)
  exact ⟨⟨by omega, cur, t, e.trans hb2⟩, Nat.lt_of_lt_of_le hl h.size, e⟩
/-- As Mod.kp2, with a further word on each block. -/
theorem Mod.kp3 {w wa wb : World} {B : Nat} {S P : Nat → Prop} (h : Mod (fun b => b = w.heap.size ∨ b = w.heap.size + 1) wa wb) (hS : ∀ b, S b → Nb B wa b) (hB : w.heap.size + 2 ≤ B) (hP : ∀ b, S b → B ≤ b → b < wa.heap.size → P b) : Kp S wa (fun b => Nb w.heap.size wb b ∧ P b) wb := fun b hb hl => by
  obtain ⟨hb1, cur, t, hb2⟩ := hS b hb
  have e := h.block b hl (fun h => by omega)
  exact ⟨⟨⟨by omega, cur, t, e.trans hb2⟩, hP b hb hb1 hl⟩, Nat.lt_of_lt_of_le hl h.size, e⟩
theorem Kp.true {S : Nat → Prop} {w w' : World} {S' : Nat → Prop} (h : Kp S w S' w') : Kp S w (fun _ => True) w' := fun b hb hl => ⟨trivial, (h b hb hl).2⟩
theorem Rw.ne_ge {B : Nat} {w : World} {e : TypeId} {n : Nat} {oa : Option Addr} {cap b : Nat} (hr : Rw B w e n oa cap) (hb : w.heap.size ≤ b) : oa ≠ some ⟨b, 0, none⟩ := by
  rcases hr with ⟨rfl, _⟩ | ⟨g, cur, rfl, _, h, _⟩
  · simp
  · intro e
    have := (Array.getElem?_eq_some_iff.1 h).1
    simp only [Option.some.injEq, Addr.mk.injEq, and_true] at e
    omega
theorem Rw.ne_lt {B : Nat} {w : World} {e : TypeId} {n : Nat} {oa : Option Addr} {cap b : Nat} (hr : Rw B w e n oa cap) (hb : b < B) : oa ≠ some ⟨b, 0, none⟩ := by
  rcases hr with ⟨rfl, _⟩ | ⟨g, cur, rfl, h, _, _⟩
  · simp
  · intro e
    simp only [Option.some.injEq, Addr.mk.injEq, and_true] at e
    omega
theorem Rw.kp2 {w wa wb : World} {B : Nat} {e : TypeId} {n : Nat} {oa : Option Addr} {cap : Nat} (hr : Rw B wa e n oa cap) (h : Mod (fun b => b = w.heap.size ∨ b = w.heap.size + 1) wa wb) (hB : w.heap.size + 2 ≤ B) : Rw w.heap.size wb e n oa cap := by
  rcases hr with hr | ⟨g, cur, h1, h2, h3, h4⟩
  · exact Or.inl hr
  · exact Or.inr ⟨g, cur, h1, by omega, (h.block g (Array.getElem?_eq_some_iff.1 h3).1 (fun h => by omega)).trans h3, h4⟩
theorem Mod.setTwo {w wa wb : World} (h : Mod (fun b => b = w.heap.size ∨ b = w.heap.size + 1) wa wb) (a : Addr) (v : Value) (ha : a.block = w.heap.size ∨ a.block = w.heap.size + 1) :
    Mod (fun b => b = w.heap.size ∨ b = w.heap.size + 1) wa (wb.setCell a v) :=
  h.trans (Mod.setCell (S := fun b => b = w.heap.size ∨ b = w.heap.size + 1) wb a v ha) (fun i hi => Or.inl hi)
theorem putA_all : ∀ (vs : List Value) (cur : Array Value), cur.size = vs.length → putA cur 0 vs = vs.toArray := by
  intro vs cur h
  apply Array.ext_getElem?
  intro j
  by_cases hj : j < vs.length
  · have := putA_in vs cur 0 j vs[j] (by omega) (List.getElem?_eq_getElem hj)
    rw [Nat.zero_add] at this
    rw [this]
    simp [hj]
  · rw [putA_out vs cur 0 j (Or.inr (by omega)), Array.getElem?_eq_none (by omega)]
    simp only [List.getElem?_toArray]
    rw [List.getElem?_eq_none (by omega)]
theorem heap_setCells_all {g : Nat} {e : TypeId} {w : World} {cur : Array Value} (vs : List Value) (h : w.heap[g]? = some (.cells cur e (0, 0))) (hl : cur.size = vs.length) : (w.setCells g 0 vs).heap[g]? = some (.cells vs.toArray e (0, 0)) := by
  rw [heap_setCells vs 0 w cur h, putA_all vs cur hl]
end Go.Proofs.YtpodeccpibnlbaaGreatDoor
namespace Go.Proofs.YtpodeccpibnlbaaGreatDoor
set_option linter.unusedVariables false
set_option linter.unusedSimpArgs false
open Go.RowKit
section
variable {S : Nat → Prop} {w0 wV : World} {oa : Option Addr} {len cap : Nat}

set_option maxRecDepth 100000 in
set_option maxHeartbeats 4000000 in
theorem clonePlace_c {v : Value} {s : Pl} (hv : plV S w0 v s) (w : World) (hw : Mod (fun _ => False) w0 w) :
    Calls Tryz.prog 123 #[v] w fun e w' => ∃ v', e = .returned v' ∧ Mod (fun _ => False) w w' ∧ plV (Nb w.heap.size w') w' v' s := by
  obtain ⟨h1, oa, la, ca, rfl, k1⟩ := hv
  have HC : Hd (∀ w', Mod (fun _ => False) w w' → Calls Tryz.prog 36 #[.slice oa la ca] w' _) := ⟨fun w' h' => cln_str k1 w' (hw.trans h' (fun _ h => Or.inl h))⟩
  clear k1 hw
  go_enter Tryz.func123, Tryz.ntmps123
  go_wp2_with fail
  refine (HC.out _ (by exact ((Mod.alloc _ _ _).trans (Mod.alloc _ _ _) (fun _ h => Or.inl h)))).mono ?_
  rintro e w1 ⟨oa1, ca1, rfl, hM, k2, hx⟩
  have HM1 : Hd (Mod (fun _ => False) w w1) := ⟨by refine Mod.trans ?_ hM (fun _ h => Or.inl h); exact ((Mod.alloc _ _ _).trans (Mod.alloc _ _ _) (fun _ h => Or.inl h))⟩
  have HK1_1 : Hd (Mod (fun b => b = w.heap.size ∨ b = w.heap.size + 1) w1 w1) := ⟨Mod.refl _ _⟩
  have Hk2 : Hd _ := ⟨k2⟩
  have Hhx : Hd _ := ⟨hx⟩
  have hb : w1.heap[w.heap.size]? = some (.cells #[.string s.loc, .slice oa la ca] 24) := (hM.block _ (lt2_0 _ _ _) (fun h => h)).trans (heap2_0 _ _ _)
  have HB1_0 : Hd _ := ⟨hb⟩
  have c1_0_0 : w1.cell? ⟨w.heap.size, 0, none⟩ = some (.string s.loc) := by simp [World.cell?, hb]
  have c1_0_1 : w1.cell? ⟨w.heap.size, 1, none⟩ = some (.slice oa la ca) := by simp [World.cell?, hb]
  have z1_0 : ∀ j, w1.frozen? ⟨w.heap.size, j, none⟩ = false := fun j => by simp [World.frozen?, hb]
  clear hb
  have hb : w1.heap[w.heap.size + 1]? = some (.cells #[.string { data := #[] }, .slice none 0 0] 24) := (hM.block _ (lt2_1 _ _ _) (fun h => h)).trans (heap2_1 _ _ _)
  have HB1_1 : Hd _ := ⟨hb⟩
  have c1_1_0 : w1.cell? ⟨w.heap.size + 1, 0, none⟩ = some (.string { data := #[] }) := by simp [World.cell?, hb]
  have c1_1_1 : w1.cell? ⟨w.heap.size + 1, 1, none⟩ = some (.slice none 0 0) := by simp [World.cell?, hb]
  have z1_1 : ∀ j, w1.frozen? ⟨w.heap.size + 1, j, none⟩ = false := fun j => by simp [World.frozen?, hb]
  clear hb
  clear hM k2 hx
  clear Hhx
  go_wp2
  have hb0 := HB1_1.out
  have hb0 := heap_setCell_far (g := w.heap.size) (o := 1) (.slice oa1 s.steps.length ca1) hb0 (by omega)
  have hb1 := heap_setCells_all [.string s.loc, .slice oa1 s.steps.length ca1] hb0 rfl
  refine bodyPost_ret (results_cell_row (cs := #[.string s.loc, .slice oa1 s.steps.length ca1]) rfl _ _ (w.heap.size + 1) 24 (0, 0) _ rfl hb1 Tryz.underlying24 rfl (by kernel_rfl)) rfl ?_
  clear hb0 hb1
  refine ⟨_, rfl, (by exact (Mod.setNew (Mod.setNew (Mod.setNew HM1.out _ _ (by simp)) _ _ (by simp)) _ _ (by simp))), h1, oa1, _, ca1, rfl, Hk2.out.keep (Mod.kp2 (w := w) (Mod.setTwo (Mod.setTwo (Mod.setTwo HK1_1.out _ _ (by simp)) _ _ (by simp)) _ _ (by simp)) (fun b hb => Nat.le_trans (by simp) hb)) (fun _ _ h => h)⟩
theorem fn_123 : Fn 123 := fn_of Tryz.func123 (by decide +kernel) (by kernel_rfl)

set_option maxRecDepth 100000 in
set_option maxHeartbeats 4000000 in
theorem cloneStmt_c {v : Value} {s : Stm} (hv : stmV S w0 v s) (w : World) (hw : Mod (fun _ => False) w0 w) :
    Calls Tryz.prog 122 #[v] w fun e w' => ∃ v', e = .returned v' ∧ Mod (fun _ => False) w w' ∧ stmV (Nb w.heap.size w') w' v' s := by
  obtain ⟨h0, h1, h2, h3, h4, h5, ob, lb, cb, oa, la, ca, rfl, k1, k2⟩ := hv
  have HP : Hd (∀ w', Mod (fun _ => False) w w' → Calls Tryz.prog 123 #[.agg #[.string s.dest.loc, .slice ob lb cb]] w' _) := ⟨fun w' h' => clonePlace_c (v := .agg #[.string s.dest.loc, .slice ob lb cb]) (s := s.dest) ⟨h5, ob, lb, cb, rfl, k1⟩ w' (hw.trans h' (fun _ h => Or.inl h))⟩
  have HA : Hd (∀ w', Mod (fun _ => False) w w' → Calls Tryz.prog 124 #[.slice oa la ca, .func (.func 123) #[] #[]] w' _) := ⟨fun w' h' => each_pl k2 123 fn_123 (fun v x hv _ w' hw' => clonePlace_c hv w' hw') w' (hw.trans h' (fun _ h => Or.inl h))⟩
  clear k1 k2 hw
  go_enter Tryz.func122, Tryz.ntmps122
  go_wp2_with fail
  have hbD : ((w.alloc (.cells #[.int .i64 s.pos, .int .i64 s.kind, .string s.dest.loc, .slice ob lb cb, .int .i64 s.n, .string s.name, .string s.variant, .slice oa la ca] 68)).alloc (.cells #[.int .i64 0, .int .i64 0, .string { data := #[] }, .slice none 0 0, .int .i64 0, .string { data := #[] }, .string { data := #[] }, .slice none 0 0] 68)).heap[w.heap.size]? = some (.cells #[.int .i64 s.pos, .int .i64 s.kind, .string s.dest.loc, .slice ob lb cb, .int .i64 s.n, .string s.name, .string s.variant, .slice oa la ca] 68) := heap2_0 _ _ _
  have y0 : ((w.alloc (.cells #[.int .i64 s.pos, .int .i64 s.kind, .string s.dest.loc, .slice ob lb cb, .int .i64 s.n, .string s.name, .string s.variant, .slice oa la ca] 68)).alloc (.cells #[.int .i64 0, .int .i64 0, .string { data := #[] }, .slice none 0 0, .int .i64 0, .string { data := #[] }, .string { data := #[] }, .slice none 0 0] 68)).drew.cell? ⟨w.heap.size, 0, none⟩ = some (.int .i64 s.pos) := by simp only [World.cell?, heap_drew, hbD]; rfl
  have y1 : ((w.alloc (.cells #[.int .i64 s.pos, .int .i64 s.kind, .string s.dest.loc, .slice ob lb cb, .int .i64 s.n, .string s.name, .string s.variant, .slice oa la ca] 68)).alloc (.cells #[.int .i64 0, .int .i64 0, .string { data := #[] }, .slice none 0 0, .int .i64 0, .string { data := #[] }, .string { data := #[] }, .slice none 0 0] 68)).drew.cell? ⟨w.heap.size, 1, none⟩ = some (.int .i64 s.kind) := by simp only [World.cell?, heap_drew, hbD]; rfl
  have y2 : ((w.alloc (.cells #[.int .i64 s.pos, .int .i64 s.kind, .string s.dest.loc, .slice ob lb cb, .int .i64 s.n, .string s.name, .string s.variant, .slice oa la ca] 68)).alloc (.cells #[.int .i64 0, .int .i64 0, .string { data := #[] }, .slice none 0 0, .int .i64 0, .string { data := #[] }, .string { data := #[] }, .slice none 0 0] 68)).drew.cell? ⟨w.heap.size, 2, none⟩ = some (.string s.dest.loc) := by simp only [World.cell?, heap_drew, hbD]; rfl
  have y3 : ((w.alloc (.cells #[.int .i64 s.pos, .int .i64 s.kind, .string s.dest.loc, .slice ob lb cb, .int .i64 s.n, .string s.name, .string s.variant, .slice oa la ca] 68)).alloc (.cells #[.int .i64 0, .int .i64 0, .string { data := #[] }, .slice none 0 0, .int .i64 0, .string { data := #[] }, .string { data := #[] }, .slice none 0 0] 68)).drew.cell? ⟨w.heap.size, 3, none⟩ = some (.slice ob lb cb) := by simp only [World.cell?, heap_drew, hbD]; rfl
  have y4 : ((w.alloc (.cells #[.int .i64 s.pos, .int .i64 s.kind, .string s.dest.loc, .slice ob lb cb, .int .i64 s.n, .string s.name, .string s.variant, .slice oa la ca] 68)).alloc (.cells #[.int .i64 0, .int .i64 0, .string { data := #[] }, .slice none 0 0, .int .i64 0, .string { data := #[] }, .string { data := #[] }, .slice none 0 0] 68)).drew.cell? ⟨w.heap.size, 4, none⟩ = some (.int .i64 s.n) := by simp only [World.cell?, heap_drew, hbD]; rfl
  have y5 : ((w.alloc (.cells #[.int .i64 s.pos, .int .i64 s.kind, .string s.dest.loc, .slice ob lb cb, .int .i64 s.n, .string s.name, .string s.variant, .slice oa la ca] 68)).alloc (.cells #[.int .i64 0, .int .i64 0, .string { data := #[] }, .slice none 0 0, .int .i64 0, .string { data := #[] }, .string { data := #[] }, .slice none 0 0] 68)).drew.cell? ⟨w.heap.size, 5, none⟩ = some (.string s.name) := by simp only [World.cell?, heap_drew, hbD]; rfl
  have y6 : ((w.alloc (.cells #[.int .i64 s.pos, .int .i64 s.kind, .string s.dest.loc, .slice ob lb cb, .int .i64 s.n, .string s.name, .string s.variant, .slice oa la ca] 68)).alloc (.cells #[.int .i64 0, .int .i64 0, .string { data := #[] }, .slice none 0 0, .int .i64 0, .string { data := #[] }, .string { data := #[] }, .slice none 0 0] 68)).drew.cell? ⟨w.heap.size, 6, none⟩ = some (.string s.variant) := by simp only [World.cell?, heap_drew, hbD]; rfl
  have y7 : ((w.alloc (.cells #[.int .i64 s.pos, .int .i64 s.kind, .string s.dest.loc, .slice ob lb cb, .int .i64 s.n, .string s.name, .string s.variant, .slice oa la ca] 68)).alloc (.cells #[.int .i64 0, .int .i64 0, .string { data := #[] }, .slice none 0 0, .int .i64 0, .string { data := #[] }, .string { data := #[] }, .slice none 0 0] 68)).drew.cell? ⟨w.heap.size, 7, none⟩ = some (.slice oa la ca) := by simp only [World.cell?, heap_drew, hbD]; rfl
  clear hbD
  go_region_with (first
    | (go_at_call 123
       refine (HP.out _ (by exact (((Mod.alloc _ _ _).trans (Mod.alloc _ _ _) (fun _ h => Or.inl h)).trans (Mod.drew _ _) (fun _ h => Or.inl h)))).mono ?_
       rintro e w1 ⟨v1, rfl, hM, hp⟩
       have HM1 : Hd (Mod (fun _ => False) w w1) := ⟨by refine Mod.trans ?_ hM (fun _ h => Or.inl h); exact (((Mod.alloc _ _ _).trans (Mod.alloc _ _ _) (fun _ h => Or.inl h)).trans (Mod.drew _ _) (fun _ h => Or.inl h))⟩
       have HK1_1 : Hd (Mod (fun b => b = w.heap.size ∨ b = w.heap.size + 1) w1 w1) := ⟨Mod.refl _ _⟩
       have Hhp : Hd _ := ⟨hp⟩
       have hb : w1.heap[w.heap.size]? = some (.cells #[.int .i64 s.pos, .int .i64 s.kind, .string s.dest.loc, .slice ob lb cb, .int .i64 s.n, .string s.name, .string s.variant, .slice oa la ca] 68) := (hM.block _ (lt2_0 _ _ _) (fun h => h)).trans (heap2_0 _ _ _)
       have HB1_0 : Hd _ := ⟨hb⟩
       have c1_0_0 : w1.cell? ⟨w.heap.size, 0, none⟩ = some (.int .i64 s.pos) := by simp [World.cell?, hb]
       have c1_0_1 : w1.cell? ⟨w.heap.size, 1, none⟩ = some (.int .i64 s.kind) := by simp [World.cell?, hb]
       have c1_0_2 : w1.cell? ⟨w.heap.size, 2, none⟩ = some (.string s.dest.loc) := by simp [World.cell?, hb]
       have c1_0_3 : w1.cell? ⟨w.heap.size, 3, none⟩ = some (.slice ob lb cb) := by simp [World.cell?, hb]
       have c1_0_4 : w1.cell? ⟨w.heap.size, 4, none⟩ = some (.int .i64 s.n) := by simp [World.cell?, hb]
       have c1_0_5 : w1.cell? ⟨w.heap.size, 5, none⟩ = some (.string s.name) := by simp [World.cell?, hb]
       have c1_0_6 : w1.cell? ⟨w.heap.size, 6, none⟩ = some (.string s.variant) := by simp [World.cell?, hb]
       have c1_0_7 : w1.cell? ⟨w.heap.size, 7, none⟩ = some (.slice oa la ca) := by simp [World.cell?, hb]
       have z1_0 : ∀ j, w1.frozen? ⟨w.heap.size, j, none⟩ = false := fun j => by simp [World.frozen?, hb]
       clear hb
       have hb : w1.heap[w.heap.size + 1]? = some (.cells #[.int .i64 0, .int .i64 0, .string { data := #[] }, .slice none 0 0, .int .i64 0, .string { data := #[] }, .string { data := #[] }, .slice none 0 0] 68) := (hM.block _ (lt2_1 _ _ _) (fun h => h)).trans (heap2_1 _ _ _)
       have HB1_1 : Hd _ := ⟨hb⟩
       have c1_1_0 : w1.cell? ⟨w.heap.size + 1, 0, none⟩ = some (.int .i64 0) := by simp [World.cell?, hb]
       have c1_1_1 : w1.cell? ⟨w.heap.size + 1, 1, none⟩ = some (.int .i64 0) := by simp [World.cell?, hb]
       have c1_1_2 : w1.cell? ⟨w.heap.size + 1, 2, none⟩ = some (.string { data := #[] }) := by simp [World.cell?, hb]
       have c1_1_3 : w1.cell? ⟨w.heap.size + 1, 3, none⟩ = some (.slice none 0 0) := by simp [World.cell?, hb]
       have c1_1_4 : w1.cell? ⟨w.heap.size + 1, 4, none⟩ = some (.int .i64 0) := by simp [World.cell?, hb]
       have c1_1_5 : w1.cell? ⟨w.heap.size + 1, 5, none⟩ = some (.string { data := #[] }) := by simp [World.cell?, hb]
       have c1_1_6 : w1.cell? ⟨w.heap.size + 1, 6, none⟩ = some (.string { data := #[] }) := by simp [World.cell?, hb]
       have c1_1_7 : w1.cell? ⟨w.heap.size + 1, 7, none⟩ = some (.slice none 0 0) := by simp [World.cell?, hb]
       have z1_1 : ∀ j, w1.frozen? ⟨w.heap.size + 1, j, none⟩ = false := fun j => by simp [World.frozen?, hb]
       clear hb
       clear hM hp
       obtain ⟨_, ob1, lb1, cb1, rfl, j1⟩ := Hhp.out
       have J1 : Hd _ := ⟨j1⟩
       clear j1 Hhp)
    | (go_at_call 124
       refine (HA.out _ (by exact HM1.out)).mono ?_
       rintro e w2 ⟨oa1, ca1, rfl, hM, k2⟩
       have HM2 : Hd (Mod (fun _ => False) w w2) := ⟨by refine Mod.trans ?_ hM (fun _ h => Or.inl h); exact HM1.out⟩
       have HK1_2 : Hd (Mod (fun b => b = w.heap.size ∨ b = w.heap.size + 1) w1 w2) := ⟨by refine Mod.trans ?_ (hM.mono (fun _ h => h.elim)) (fun _ h => Or.inl h); exact HK1_1.out⟩
       have HK2_2 : Hd (Mod (fun b => b = w.heap.size ∨ b = w.heap.size + 1) w2 w2) := ⟨Mod.refl _ _⟩
       have Hk2 : Hd _ := ⟨k2⟩
       have hb0 := HB1_0.out
       have hb : w2.heap[w.heap.size]? = some (.cells #[.int .i64 s.pos, .int .i64 s.kind, .string s.dest.loc, .slice ob lb cb, .int .i64 s.n, .string s.name, .string s.variant, .slice oa la ca] 68) := (hM.block _ (by have := (Array.getElem?_eq_some_iff.1 HB1_0.out).1; simpa using this) (fun h => h)).trans hb0
       have HB2_0 : Hd _ := ⟨hb⟩
       have c2_0_0 : w2.cell? ⟨w.heap.size, 0, none⟩ = some (.int .i64 s.pos) := by simp [World.cell?, hb]
       have c2_0_1 : w2.cell? ⟨w.heap.size, 1, none⟩ = some (.int .i64 s.kind) := by simp [World.cell?, hb]
       have c2_0_2 : w2.cell? ⟨w.heap.size, 2, none⟩ = some (.string s.dest.loc) := by simp [World.cell?, hb]
       have c2_0_3 : w2.cell? ⟨w.heap.size, 3, none⟩ = some (.slice ob lb cb) := by simp [World.cell?, hb]
       have c2_0_4 : w2.cell? ⟨w.heap.size, 4, none⟩ = some (.int .i64 s.n) := by simp [World.cell?, hb]
       have c2_0_5 : w2.cell? ⟨w.heap.size, 5, none⟩ = some (.string s.name) := by simp [World.cell?, hb]
       have c2_0_6 : w2.cell? ⟨w.heap.size, 6, none⟩ = some (.string s.variant) := by simp [World.cell?, hb]
       have c2_0_7 : w2.cell? ⟨w.heap.size, 7, none⟩ = some (.slice oa la ca) := by simp [World.cell?, hb]
       have z2_0 : ∀ j, w2.frozen? ⟨w.heap.size, j, none⟩ = false := fun j => by simp [World.frozen?, hb]
       clear hb
       clear hb0
       clear c1_0_0 c1_0_1 c1_0_2 c1_0_3 c1_0_4 c1_0_5 c1_0_6 c1_0_7 z1_0
       have hb0 := HB1_1.out
       have hb : w2.heap[w.heap.size + 1]? = some (.cells #[.int .i64 0, .int .i64 0, .string { data := #[] }, .slice none 0 0, .int .i64 0, .string { data := #[] }, .string { data := #[] }, .slice none 0 0] 68) := (hM.block _ (by have := (Array.getElem?_eq_some_iff.1 HB1_1.out).1; simpa using this) (fun h => h)).trans hb0
       have HB2_1 : Hd _ := ⟨hb⟩
       have c2_1_0 : w2.cell? ⟨w.heap.size + 1, 0, none⟩ = some (.int .i64 0) := by simp [World.cell?, hb]
       have c2_1_1 : w2.cell? ⟨w.heap.size + 1, 1, none⟩ = some (.int .i64 0) := by simp [World.cell?, hb]
       have c2_1_2 : w2.cell? ⟨w.heap.size + 1, 2, none⟩ = some (.string { data := #[] }) := by simp [World.cell?, hb]
       have c2_1_3 : w2.cell? ⟨w.heap.size + 1, 3, none⟩ = some (.slice none 0 0) := by simp [World.cell?, hb]
       have c2_1_4 : w2.cell? ⟨w.heap.size + 1, 4, none⟩ = some (.int .i64 0) := by simp [World.cell?, hb]
       have c2_1_5 : w2.cell? ⟨w.heap.size + 1, 5, none⟩ = some (.string { data := #[] }) := by simp [World.cell?, hb]
       have c2_1_6 : w2.cell? ⟨w.heap.size + 1, 6, none⟩ = some (.string { data := #[] }) := by simp [World.cell?, hb]
       have c2_1_7 : w2.cell? ⟨w.heap.size + 1, 7, none⟩ = some (.slice none 0 0) := by simp [World.cell?, hb]
       have z2_1 : ∀ j, w2.frozen? ⟨w.heap.size + 1, j, none⟩ = false := fun j => by simp [World.frozen?, hb]
       clear hb
       clear hb0
       clear c1_1_0 c1_1_1 c1_1_2 c1_1_3 c1_1_4 c1_1_5 c1_1_6 c1_1_7 z1_1
       clear hM k2))
  all_goals
    have SZ : w.heap.size + 2 ≤ w1.heap.size := by have := (Array.getElem?_eq_some_iff.1 HB1_1.out).1; omega
    go_wp2
    have hb0 := HB2_1.out
    have hb0 := heap_setCell_far (g := w.heap.size) (o := 2) (.string s.dest.loc) hb0 (by omega)
    have hb0 := heap_setCell_far (g := w.heap.size) (o := 3) (.slice ob1 lb1 cb1) hb0 (by omega)
    have hb0 := heap_setCell_far (g := w.heap.size) (o := 7) (.slice oa1 s.args.length ca1) hb0 (by omega)
    have hb1 := heap_setCells_all [.int .i64 s.pos, .int .i64 s.kind, .string s.dest.loc, .slice ob1 lb1 cb1, .int .i64 s.n, .string s.name, .string s.variant, .slice oa1 s.args.length ca1] hb0 rfl
    refine bodyPost_ret (results_cell_row (cs := #[.int .i64 s.pos, .int .i64 s.kind, .string s.dest.loc, .slice ob1 lb1 cb1, .int .i64 s.n, .string s.name, .string s.variant, .slice oa1 s.args.length ca1]) rfl _ _ (w.heap.size + 1) 68 (0, 0) _ rfl hb1 Tryz.underlying68 rfl (by kernel_rfl)) rfl ?_
    clear hb0 hb1
    refine ⟨_, rfl, (by exact (Mod.setNew (Mod.setNew (Mod.setNew (Mod.setNew (Mod.setNew (Mod.setNew (Mod.setNew (Mod.setNew (Mod.setNew (Mod.setNew (Mod.setNew HM2.out _ _ (by simp)) _ _ (by simp)) _ _ (by simp)) _ _ (by simp)) _ _ (by simp)) _ _ (by simp)) _ _ (by simp)) _ _ (by simp)) _ _ (by simp)) _ _ (by simp)) _ _ (by simp))), h0, h1, h2, h3, h4, h5, ob1, lb1, cb1, oa1, _, ca1, rfl, J1.out.keep (Mod.kp2 (w := w) (Mod.setTwo (Mod.setTwo (Mod.setTwo (Mod.setTwo (Mod.setTwo (Mod.setTwo (Mod.setTwo (Mod.setTwo (Mod.setTwo (Mod.setTwo (Mod.setTwo HK1_2.out _ _ (by simp)) _ _ (by simp)) _ _ (by simp)) _ _ (by simp)) _ _ (by simp)) _ _ (by simp)) _ _ (by simp)) _ _ (by simp)) _ _ (by simp)) _ _ (by simp)) _ _ (by simp)) (fun b hb => Nat.le_trans (by simp) hb)) (fun _ _ h => h), Hk2.out.keep (Mod.kp2 (w := w) (Mod.setTwo (Mod.setTwo (Mod.setTwo (Mod.setTwo (Mod.setTwo (Mod.setTwo (Mod.setTwo (Mod.setTwo (Mod.setTwo (Mod.setTwo (Mod.setTwo HK2_2.out _ _ (by simp)) _ _ (by simp)) _ _ (by simp)) _ _ (by simp)) _ _ (by simp)) _ _ (by simp)) _ _ (by simp)) _ _ (by simp)) _ _ (by simp)) _ _ (by simp)) _ _ (by simp)) (fun b hb => Nat.le_trans SZ hb)) (fun _ _ h => h.keep (Mod.kp2 (w := w) (Mod.setTwo (Mod.setTwo (Mod.setTwo (Mod.setTwo (Mod.setTwo (Mod.setTwo (Mod.setTwo (Mod.setTwo (Mod.setTwo (Mod.setTwo (Mod.setTwo HK2_2.out _ _ (by simp)) _ _ (by simp)) _ _ (by simp)) _ _ (by simp)) _ _ (by simp)) _ _ (by simp)) _ _ (by simp)) _ _ (by simp)) _ _ (by simp)) _ _ (by simp)) _ _ (by simp)) (fun b hb => Nat.le_trans SZ hb)))⟩
theorem fn_122 : Fn 122 := fn_of Tryz.func122 (by decide +kernel) (by kernel_rfl)
end
end Go.Proofs.YtpodeccpibnlbaaGreatDoor
namespace Go.Proofs.YtpodeccpibnlbaaGreatDoor
set_option linter.unusedVariables false
set_option linter.unusedSimpArgs false
open Go.RowKit
section
variable {S : Nat → Prop} {w0 wV : World} {oa : Option Addr} {len cap : Nat}

set_option maxRecDepth 100000 in
set_option maxHeartbeats 4000000 in
theorem cloneStruct_c {v : Value} {s : Sct} (hv : sctV S w0 v s) (w : World) (hw : Mod (fun _ => False) w0 w) :
    Calls Tryz.prog 69 #[v] w fun e w' => ∃ v', e = .returned v' ∧ Mod (fun _ => False) w w' ∧ sctV (Nb w.heap.size w') w' v' s := by
  obtain ⟨h0, h1, oa, la, ca, rfl, k1⟩ := hv
  have HC : Hd (∀ w', Mod (fun _ => False) w w' → Calls Tryz.prog 70 #[.slice oa la ca] w' _) := ⟨fun w' h' => cln_vr k1 w' (hw.trans h' (fun _ h => Or.inl h))⟩
  clear k1 hw
  go_enter Tryz.func69, Tryz.ntmps69
  go_wp2_with fail
  refine (HC.out _ (by exact ((Mod.alloc _ _ _).trans (Mod.alloc _ _ _) (fun _ h => Or.inl h)))).mono ?_
  rintro e w1 ⟨oa1, ca1, rfl, hM, k2, hx⟩
  have HM1 : Hd (Mod (fun _ => False) w w1) := ⟨by refine Mod.trans ?_ hM (fun _ h => Or.inl h); exact ((Mod.alloc _ _ _).trans (Mod.alloc _ _ _) (fun _ h => Or.inl h))⟩
  have HK1_1 : Hd (Mod (fun b => b = w.heap.size ∨ b = w.heap.size + 1) w1 w1) := ⟨Mod.refl _ _⟩
  have Hk2 : Hd _ := ⟨k2⟩
  have Hhx : Hd _ := ⟨hx⟩
  have hb : w1.heap[w.heap.size]? = some (.cells #[.int .i64 s.pos, .string s.name, .bool s.safe, .bool s.hook, .slice oa la ca] 58) := (hM.block _ (lt2_0 _ _ _) (fun h => h)).trans (heap2_0 _ _ _)
  have HB1_0 : Hd _ := ⟨hb⟩
  have c1_0_0 : w1.cell? ⟨w.heap.size, 0, none⟩ = some (.int .i64 s.pos) := by simp [World.cell?, hb]
  have c1_0_1 : w1.cell? ⟨w.heap.size, 1, none⟩ = some (.string s.name) := by simp [World.cell?, hb]
  have c1_0_2 : w1.cell? ⟨w.heap.size, 2, none⟩ = some (.bool s.safe) := by simp [World.cell?, hb]
  have c1_0_3 : w1.cell? ⟨w.heap.size, 3, none⟩ = some (.bool s.hook) := by simp [World.cell?, hb]
  have c1_0_4 : w1.cell? ⟨w.heap.size, 4, none⟩ = some (.slice oa la ca) := by simp [World.cell?, hb]
  have z1_0 : ∀ j, w1.frozen? ⟨w.heap.size, j, none⟩ = false := fun j => by simp [World.frozen?, hb]
  clear hb
  have hb : w1.heap[w.heap.size + 1]? = some (.cells #[.int .i64 0, .string { data := #[] }, .bool false, .bool false, .slice none 0 0] 58) := (hM.block _ (lt2_1 _ _ _) (fun h => h)).trans (heap2_1 _ _ _)
  have HB1_1 : Hd _ := ⟨hb⟩
  have c1_1_0 : w1.cell? ⟨w.heap.size + 1, 0, none⟩ = some (.int .i64 0) := by simp [World.cell?, hb]
  have c1_1_1 : w1.cell? ⟨w.heap.size + 1, 1, none⟩ = some (.string { data := #[] }) := by simp [World.cell?, hb]
  have c1_1_2 : w1.cell? ⟨w.heap.size + 1, 2, none⟩ = some (.bool false) := by simp [World.cell?, hb]
  have c1_1_3 : w1.cell? ⟨w.heap.size + 1, 3, none⟩ = some (.bool false) := by simp [World.cell?, hb]
  have c1_1_4 : w1.cell? ⟨w.heap.size + 1, 4, none⟩ = some (.slice none 0 0) := by simp [World.cell?, hb]
  have z1_1 : ∀ j, w1.frozen? ⟨w.heap.size + 1, j, none⟩ = false := fun j => by simp [World.frozen?, hb]
  clear hb
  clear hM k2 hx
  clear Hhx
  go_wp2
  have hb0 := HB1_1.out
  have hb0 := heap_setCell_far (g := w.heap.size) (o := 4) (.slice oa1 s.fields.length ca1) hb0 (by omega)
  have hb1 := heap_setCells_all [.int .i64 s.pos, .string s.name, .bool s.safe, .bool s.hook, .slice oa1 s.fields.length ca1] hb0 rfl
  refine bodyPost_ret (results_cell_row (cs := #[.int .i64 s.pos, .string s.name, .bool s.safe, .bool s.hook, .slice oa1 s.fields.length ca1]) rfl _ _ (w.heap.size + 1) 58 (0, 0) _ rfl hb1 Tryz.underlying58 rfl (by kernel_rfl)) rfl ?_
  clear hb0 hb1
  refine ⟨_, rfl, (by exact (Mod.setNew (Mod.setNew (Mod.setNew (Mod.setNew (Mod.setNew (Mod.setNew HM1.out _ _ (by simp)) _ _ (by simp)) _ _ (by simp)) _ _ (by simp)) _ _ (by simp)) _ _ (by simp))), h0, h1, oa1, _, ca1, rfl, Hk2.out.keep (Mod.kp2 (w := w) (Mod.setTwo (Mod.setTwo (Mod.setTwo (Mod.setTwo (Mod.setTwo (Mod.setTwo HK1_1.out _ _ (by simp)) _ _ (by simp)) _ _ (by simp)) _ _ (by simp)) _ _ (by simp)) _ _ (by simp)) (fun b hb => Nat.le_trans (by simp) hb)) (fun _ _ h => h)⟩
theorem fn_69 : Fn 69 := fn_of Tryz.func69 (by decide +kernel) (by kernel_rfl)

set_option maxRecDepth 100000 in
set_option maxHeartbeats 4000000 in
theorem cloneEnum_c {v : Value} {s : Enm} (hv : enmV S w0 v s) (w : World) (hw : Mod (fun _ => False) w0 w) :
    Calls Tryz.prog 72 #[v] w fun e w' => ∃ v', e = .returned v' ∧ Mod (fun _ => False) w w' ∧ enmV (Nb w.heap.size w') w' v' s := by
  obtain ⟨h0, h1, oa, la, ca, rfl, k1⟩ := hv
  have HC : Hd (∀ w', Mod (fun _ => False) w w' → Calls Tryz.prog 70 #[.slice oa la ca] w' _) := ⟨fun w' h' => cln_vr k1 w' (hw.trans h' (fun _ h => Or.inl h))⟩
  clear k1 hw
  go_enter Tryz.func72, Tryz.ntmps72
  go_wp2_with fail
  refine (HC.out _ (by exact ((Mod.alloc _ _ _).trans (Mod.alloc _ _ _) (fun _ h => Or.inl h)))).mono ?_
  rintro e w1 ⟨oa1, ca1, rfl, hM, k2, hx⟩
  have HM1 : Hd (Mod (fun _ => False) w w1) := ⟨by refine Mod.trans ?_ hM (fun _ h => Or.inl h); exact ((Mod.alloc _ _ _).trans (Mod.alloc _ _ _) (fun _ h => Or.inl h))⟩
  have HK1_1 : Hd (Mod (fun b => b = w.heap.size ∨ b = w.heap.size + 1) w1 w1) := ⟨Mod.refl _ _⟩
  have Hk2 : Hd _ := ⟨k2⟩
  have Hhx : Hd _ := ⟨hx⟩
  have hb : w1.heap[w.heap.size]? = some (.cells #[.int .i64 s.pos, .string s.name, .slice oa la ca] 70) := (hM.block _ (lt2_0 _ _ _) (fun h => h)).trans (heap2_0 _ _ _)
  have HB1_0 : Hd _ := ⟨hb⟩
  have c1_0_0 : w1.cell? ⟨w.heap.size, 0, none⟩ = some (.int .i64 s.pos) := by simp [World.cell?, hb]
  have c1_0_1 : w1.cell? ⟨w.heap.size, 1, none⟩ = some (.string s.name) := by simp [World.cell?, hb]
  have c1_0_2 : w1.cell? ⟨w.heap.size, 2, none⟩ = some (.slice oa la ca) := by simp [World.cell?, hb]
  have z1_0 : ∀ j, w1.frozen? ⟨w.heap.size, j, none⟩ = false := fun j => by simp [World.frozen?, hb]
  clear hb
  have hb : w1.heap[w.heap.size + 1]? = some (.cells #[.int .i64 0, .string { data := #[] }, .slice none 0 0] 70) := (hM.block _ (lt2_1 _ _ _) (fun h => h)).trans (heap2_1 _ _ _)
  have HB1_1 : Hd _ := ⟨hb⟩
  have c1_1_0 : w1.cell? ⟨w.heap.size + 1, 0, none⟩ = some (.int .i64 0) := by simp [World.cell?, hb]
  have c1_1_1 : w1.cell? ⟨w.heap.size + 1, 1, none⟩ = some (.string { data := #[] }) := by simp [World.cell?, hb]
  have c1_1_2 : w1.cell? ⟨w.heap.size + 1, 2, none⟩ = some (.slice none 0 0) := by simp [World.cell?, hb]
  have z1_1 : ∀ j, w1.frozen? ⟨w.heap.size + 1, j, none⟩ = false := fun j => by simp [World.frozen?, hb]
  clear hb
  clear hM k2 hx
  clear Hhx
  go_wp2
  have hb0 := HB1_1.out
  have hb0 := heap_setCell_far (g := w.heap.size) (o := 2) (.slice oa1 s.variants.length ca1) hb0 (by omega)
  have hb1 := heap_setCells_all [.int .i64 s.pos, .string s.name, .slice oa1 s.variants.length ca1] hb0 rfl
  refine bodyPost_ret (results_cell_row (cs := #[.int .i64 s.pos, .string s.name, .slice oa1 s.variants.length ca1]) rfl _ _ (w.heap.size + 1) 70 (0, 0) _ rfl hb1 Tryz.underlying70 rfl (by kernel_rfl)) rfl ?_
  clear hb0 hb1
  refine ⟨_, rfl, (by exact (Mod.setNew (Mod.setNew (Mod.setNew (Mod.setNew HM1.out _ _ (by simp)) _ _ (by simp)) _ _ (by simp)) _ _ (by simp))), h0, h1, oa1, _, ca1, rfl, Hk2.out.keep (Mod.kp2 (w := w) (Mod.setTwo (Mod.setTwo (Mod.setTwo (Mod.setTwo HK1_1.out _ _ (by simp)) _ _ (by simp)) _ _ (by simp)) _ _ (by simp)) (fun b hb => Nat.le_trans (by simp) hb)) (fun _ _ h => h)⟩
theorem fn_72 : Fn 72 := fn_of Tryz.func72 (by decide +kernel) (by kernel_rfl)
end
end Go.Proofs.YtpodeccpibnlbaaGreatDoor
