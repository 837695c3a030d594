/- The law TreeCounts: what its loop keeps, step by step; what shapes come out. No program in sight. -/
import Derived.Test.YtpodeccpibnlbaaGreatDoorN23
import Derived.Test.YtpodeccpibnlbaaGreatDoorG23
namespace Go.Proofs.YtpodeccpibnlbaaGreatDoor
set_option linter.unusedVariables false
set_option linter.unusedSimpArgs false
open Go.RowKit
def tF : ByteArray := { data := #[102] }
def tBb : ByteArray := { data := #[98] }
def sA : Sct := ⟨0, tA, false, false, []⟩
def bK : Blk := ⟨0, tBb, [], ⟨0, 1, ⟨tE, []⟩, tE, [], [tBb], []⟩⟩
def fF : Fun := ⟨0, tF, [], [], tInt, [bK]⟩
def gF (n : Nat) : Fun := ⟨0, tF, [], [], tInt, List.replicate n bK⟩
theorem struct_sA : structI sA = true := by decide +kernel
theorem block_bK : blockI bK = true := by decide +kernel
theorem func_fF : funcI fF = true := by decide +kernel
theorem all_rep {α : Type} {f : α → Bool} {x : α} (h : f x = true) (n : Nat) : (List.replicate n x).all f = true := by
  rw [List.all_eq_true]
  intro y hy
  rw [(List.mem_replicate.1 hy).2, h]
theorem right_len {p : Prg} (h : rightI p = true) : p.structs.length ≤ 16 ∧ p.enums.length ≤ 16 ∧ p.funcs.length ≤ 16 ∧ p.structs.all structI = true ∧ p.enums.all enumI = true ∧ p.funcs.all funcI = true := by
  simp only [rightI, Bool.and_eq_true, decide_eq_true_eq] at h
  obtain ⟨⟨⟨⟨⟨h1, h2⟩, h3⟩, h4⟩, h5⟩, h6⟩ := h
  exact ⟨h1, h2, h3, h4, h5, h6⟩
theorem right_x {p : Prg} (h : rightI p = true) (n : Nat) : rightI ⟨p.structs ++ List.replicate n sA, p.enums, p.funcs⟩ = decide (p.structs.length + n ≤ 16) := by
  obtain ⟨h1, h2, h3, h4, h5, h6⟩ := right_len h
  simp only [rightI, List.all_append, h4, h5, h6, all_rep struct_sA, List.length_append, List.length_replicate, Bool.and_true]
  simp [h2, h3]
theorem right_y {p : Prg} (h : rightI p = true) (n : Nat) : rightI ⟨p.structs, p.enums, p.funcs ++ List.replicate n fF⟩ = decide (p.funcs.length + n ≤ 16) := by
  obtain ⟨h1, h2, h3, h4, h5, h6⟩ := right_len h
  simp only [rightI, List.all_append, h4, h5, h6, all_rep func_fF, List.length_append, List.length_replicate, Bool.and_true]
  simp [h1, h2]
theorem func_g (n : Nat) : funcI (gF (1 + n)) = decide (n < 64) := by
  have h1 : isName (lst tF) = true := by decide +kernel
  have h2 : plainI (lst tInt) = true := by decide +kernel
  simp only [funcI, gF, h1, h2, all_rep block_bK, List.length_replicate, Bool.and_true, List.all_nil, List.length_nil]
  rw [Bool.eq_iff_iff]
  simp
  omega
theorem right_z (n : Nat) : rightI ⟨[], [], [gF (1 + n)]⟩ = decide (n < 64) := by
  simp [rightI, func_g]

/-- What the loop's memory is told by. -/
structure Cfg where
  W9 : World
  bx : Nat
  by' : Nat
  bg : Nat
  bfb : Nat
  ogx0 : Option Nat
  ogy0 : Option Nat
  VX : Value → Sct → Prop
  VY : Value → Fun → Prop
  VG : Value → Blk → Prop
  X0 : List Sct
  Y0 : List Fun
  xe : Value
  xf : Value
  ys : Value
  ye : Value
def Cfg.T (C : Cfg) (k : Nat) : Prop := k = C.bx ∨ k = C.by' ∨ k = C.bg ∨ some k = C.ogx0 ∨ some k = C.ogy0
structure Cfg.Ok (C : Cfg) : Prop where
  hx : C.bx < C.W9.heap.size
  hy : C.by' < C.W9.heap.size
  hg : C.bg < C.W9.heap.size
  xy : C.bx ≠ C.by'
  yg : C.ogy0 ≠ some C.bg
def gA (v : Value) : Array Value := #[.int .i64 0, .string tF, .slice none 0 0, .slice none 0 0, .string tInt, v]
structure St (C : Cfg) (w : World) (ix iy ig : Nat) (ogx : Option Nat) (cx : Nat) (ogy : Option Nat) (cy : Nat) (ogg : Option Nat) (cg : Nat) : Prop where
  mod : Mod C.T C.W9 w
  box : w.heap[C.bx]? = some (.cells #[sv ogx (C.X0 ++ List.replicate ix sA).length cx, C.xe, C.xf] 36 (0, 0))
  boy : w.heap[C.by']? = some (.cells #[C.ys, C.ye, sv ogy (C.Y0 ++ List.replicate iy fF).length cy] 36 (0, 0))
  bog : w.heap[C.bg]? = some (.cells (gA (sv ogg (List.replicate (1 + ig) bK).length cg)) 45 (0, 0))
  rx : OwnS w 58 5 ogx cx C.VX (C.X0 ++ List.replicate ix sA)
  ry : OwnS w 45 6 ogy cy C.VY (C.Y0 ++ List.replicate iy fF)
  rg : OwnS w 64 11 ogg cg C.VG (List.replicate (1 + ig) bK)
  lx : ogx = C.ogx0 ∨ ∃ g, ogx = some g ∧ C.W9.heap.size ≤ g
  ly : ogy = C.ogy0 ∨ ∃ g, ogy = some g ∧ C.W9.heap.size ≤ g
  lg : (cg = 1 ∧ ig = 0) ∨ ∃ g, ogg = some g ∧ C.W9.heap.size ≤ g
section
variable {w w2 : World} {o : Obj} {og : Option Nat} {g' n c b j : Nat} {v : Value}
/-- What a store into a box leaves, behind an append to row og. -/
def Ap (w : World) (o : Obj) (w2 : World) (og : Option Nat) (g' n c : Nat) : Prop :=
  (some g' = og ∧ n + 1 ≤ c ∧ Mod (fun k => some k = og) (w.alloc o) w2) ∨ (w.heap.size + 1 ≤ g' ∧ Mod (fun _ => False) (w.alloc o) w2)
theorem Ap.mod (h : Ap w o w2 og g' n c) : Mod (fun k => some k = og ∧ n + 1 ≤ c) w w2 := by
  rcases h with ⟨_, h2, h3⟩ | ⟨_, h3⟩
  · exact (Mod.alloc _ _ _).trans h3 (fun k hk => Or.inl ⟨hk, h2⟩)
  · exact (Mod.alloc _ _ _).trans h3 (fun k hk => hk.elim)
theorem Ap.keep (h : Ap w o w2 og g' n c) {k : Nat} (hk : k < w.heap.size) (hb : k ≠ b) (ho : og ≠ some k) : (w2.setCell ⟨b, j, none⟩ v).heap[k]? = w.heap[k]? :=
  (Below.heap_setCell w2 _ v k hb).trans (h.mod.block k hk (fun hh => ho hh.1.symm))
theorem Ap.keep2 (h : Ap w o w2 og g' n c) {k : Nat} (hk : k < w.heap.size) (ho : og ≠ some k) : w2.heap[k]? = w.heap[k]? := h.mod.block k hk (fun hh => ho hh.1.symm)
theorem Ap.loc (h : Ap w o w2 og g' n c) {B : Nat} (hB : B ≤ w.heap.size) {og0 : Option Nat} (hl : og = og0 ∨ ∃ g, og = some g ∧ B ≤ g) : some g' = og0 ∨ ∃ g, some g' = some g ∧ B ≤ g := by
  rcases h with ⟨h1, _, _⟩ | ⟨h1, _⟩
  · rw [h1]; exact hl
  · exact Or.inr ⟨g', rfl, by omega⟩
theorem setc0 (a x y v : Value) : (#[a, x, y] : Array Value).setIfInBounds 0 v = #[v, x, y] := rfl
theorem setc2 (a x y v : Value) : (#[a, x, y] : Array Value).setIfInBounds 2 v = #[a, x, v] := rfl
theorem setg5 (a v : Value) : (gA a).setIfInBounds 5 v = gA v := rfl
end
section
variable {C : Cfg} {w w2 : World} {ix iy ig : Nat} {ogx : Option Nat} {cx : Nat} {ogy : Option Nat} {cy : Nat} {ogg : Option Nat} {cg g' c' : Nat} {o : Obj}
theorem rep_snoc {α : Type} (P : List α) (x : α) (i : Nat) : P ++ List.replicate i x ++ [x] = P ++ List.replicate (i + 1) x := by
  rw [List.append_assoc]
  congr 1
  rw [List.replicate_succ']
theorem rep_snoc1 {α : Type} (x : α) (i : Nat) : List.replicate (1 + i) x ++ [x] = List.replicate (1 + (i + 1)) x := by
  rw [← List.replicate_succ', Nat.add_assoc]
theorem St.ygb (hC : C.Ok) (h : St C w ix iy ig ogx cx ogy cy ogg cg) : ogy ≠ some C.bg := by
  rcases h.ly with h1 | ⟨g, h1, h2⟩
  · rw [h1]; exact hC.yg
  · rw [h1]; intro e; have := hC.hg; cases e; omega
theorem St.x (hC : C.Ok) (h : St C w ix iy ig ogx cx ogy cy ogg cg) (hO : OwnS w2 58 5 (some g') c' C.VX (C.X0 ++ List.replicate ix sA ++ [sA])) (hd : Ap w o w2 ogx g' (C.X0 ++ List.replicate ix sA).length cx) :
    St C (w2.setCell ⟨C.bx, 0, none⟩ (sv (some g') ((C.X0 ++ List.replicate ix sA).length + 1) c')) (ix + 1) iy ig (some g') c' ogy cy ogg cg := by
  have e1 : (C.X0 ++ List.replicate ix sA).length + 1 = (C.X0 ++ List.replicate (ix + 1) sA).length := by rw [← rep_snoc, List.length_append (bs := [sA])]; rfl
  rw [rep_snoc] at hO
  have lt : ∀ {k cs t fr}, w.heap[k]? = some (.cells cs t fr) → k < w.heap.size := fun hh => (Array.getElem?_eq_some_iff.1 hh).1
  have nx := h.rx.ne h.box (by decide)
  have ny := h.rx.ne h.boy (by decide)
  have ng := h.rx.ne h.bog (by decide)
  have q2 := (hd.keep2 (lt h.box) nx).trans h.box
  refine ⟨?_, ?_, (hd.keep (lt h.boy) hC.xy.symm ny).trans h.boy, (hd.keep (lt h.bog) (fun e => by have h1 := h.bog; rw [e, h.box] at h1; simp only [Option.some.injEq, Obj.cells.injEq] at h1; exact absurd h1.2.1 (by decide)) ng).trans h.bog, hO.keep (fun g hg => Below.heap_setCell w2 _ _ g (fun e => hO.ne q2 (by decide) (by rw [hg, e]))), h.ry.keep (fun g hg => hd.keep (h.ry.lt hg) (fun e => h.ry.ne h.box (by decide) (by rw [hg, e])) (fun e => by
    obtain ⟨cur, hb⟩ := h.ry.blk hg
    exact h.rx.ne hb (by decide) e)), h.rg.keep (fun g hg => hd.keep (h.rg.lt hg) (fun e => h.rg.ne h.box (by decide) (by rw [hg, e])) (fun e => by
    obtain ⟨cur, hb⟩ := h.rg.blk hg
    exact h.rx.ne hb (by decide) e)), hd.loc h.mod.size h.lx, h.ly, h.lg⟩
  · refine (h.mod.trans hd.mod (fun k hk => ?_)).trans (Mod.setCell (S := C.T) w2 _ _ (Or.inl rfl)) (fun _ h => Or.inl h)
    rcases h.lx with h1 | ⟨g, h1, h2⟩
    · exact Or.inl (Or.inr (Or.inr (Or.inr (Or.inl (by rw [hk.1, h1])))))
    · right
      have := hk.1
      rw [h1] at this
      cases this
      exact h2
  · rw [heap_setCell_same _ q2, setc0, e1]
theorem St.y (hC : C.Ok) (h : St C w ix iy ig ogx cx ogy cy ogg cg) (hO : OwnS w2 45 6 (some g') c' C.VY (C.Y0 ++ List.replicate iy fF ++ [fF])) (hd : Ap w o w2 ogy g' (C.Y0 ++ List.replicate iy fF).length cy) :
    St C (w2.setCell ⟨C.by', 2, none⟩ (sv (some g') ((C.Y0 ++ List.replicate iy fF).length + 1) c')) ix (iy + 1) ig ogx cx (some g') c' ogg cg := by
  have e1 : (C.Y0 ++ List.replicate iy fF).length + 1 = (C.Y0 ++ List.replicate (iy + 1) fF).length := by rw [← rep_snoc, List.length_append (bs := [fF])]; rfl
  rw [rep_snoc] at hO
  have lt : ∀ {k cs t fr}, w.heap[k]? = some (.cells cs t fr) → k < w.heap.size := fun hh => (Array.getElem?_eq_some_iff.1 hh).1
  have nx := h.ry.ne h.box (by decide)
  have ny := h.ry.ne h.boy (by decide)
  have ng := h.ygb hC
  have q2 := (hd.keep2 (lt h.boy) ny).trans h.boy
  refine ⟨?_, (hd.keep (lt h.box) hC.xy nx).trans h.box, ?_, (hd.keep (lt h.bog) (fun e => by have h1 := h.bog; rw [e, h.boy] at h1; simp only [Option.some.injEq, Obj.cells.injEq] at h1; exact absurd h1.2.1 (by decide)) ng).trans h.bog, h.rx.keep (fun g hg => hd.keep (h.rx.lt hg) (fun e => h.rx.ne h.boy (by decide) (by rw [hg, e])) (fun e => by
    obtain ⟨cur, hb⟩ := h.rx.blk hg
    exact h.ry.ne hb (by decide) e)), hO.keep (fun g hg => Below.heap_setCell w2 _ _ g (fun e => hO.ne q2 (by decide) (by rw [hg, e]))), h.rg.keep (fun g hg => hd.keep (h.rg.lt hg) (fun e => h.rg.ne h.boy (by decide) (by rw [hg, e])) (fun e => by
    obtain ⟨cur, hb⟩ := h.rg.blk hg
    exact h.ry.ne hb (by decide) e)), h.lx, hd.loc h.mod.size h.ly, h.lg⟩
  · refine (h.mod.trans hd.mod (fun k hk => ?_)).trans (Mod.setCell (S := C.T) w2 _ _ (Or.inr (Or.inl rfl))) (fun _ h => Or.inl h)
    rcases h.ly with h1 | ⟨g, h1, h2⟩
    · exact Or.inl (Or.inr (Or.inr (Or.inr (Or.inr (by rw [hk.1, h1])))))
    · right
      have := hk.1
      rw [h1] at this
      cases this
      exact h2
  · rw [heap_setCell_same _ q2, setc2, e1]
theorem St.g (hC : C.Ok) (h : St C w ix iy ig ogx cx ogy cy ogg cg) (hO : OwnS w2 64 11 (some g') c' C.VG (List.replicate (1 + ig) bK ++ [bK])) (hd : Ap w o w2 ogg g' (List.replicate (1 + ig) bK).length cg) :
    St C (w2.setCell ⟨C.bg, 5, none⟩ (sv (some g') ((List.replicate (1 + ig) bK).length + 1) c')) ix iy (ig + 1) ogx cx ogy cy (some g') c' := by
  have e1 : (List.replicate (1 + ig) bK).length + 1 = (List.replicate (1 + (ig + 1)) bK).length := by simp; omega
  rw [rep_snoc1] at hO
  have lt : ∀ {k cs t fr}, w.heap[k]? = some (.cells cs t fr) → k < w.heap.size := fun hh => (Array.getElem?_eq_some_iff.1 hh).1
  have nx := h.rg.ne h.box (by decide)
  have ny := h.rg.ne h.boy (by decide)
  have ng := h.rg.ne h.bog (by decide)
  have q2 := (hd.keep2 (lt h.bog) ng).trans h.bog
  have yb := h.ygb hC
  refine ⟨?_, (hd.keep (lt h.box) (fun e => by have h1 := h.box; rw [e, h.bog] at h1; simp only [Option.some.injEq, Obj.cells.injEq] at h1; exact absurd h1.2.1 (by decide)) nx).trans h.box, (hd.keep (lt h.boy) (fun e => by have h1 := h.boy; rw [e, h.bog] at h1; simp only [Option.some.injEq, Obj.cells.injEq] at h1; exact absurd h1.2.1 (by decide)) ny).trans h.boy, ?_, h.rx.keep (fun g hg => hd.keep (h.rx.lt hg) (fun e => h.rx.ne h.bog (by decide) (by rw [hg, e])) (fun e => by
    obtain ⟨cur, hb⟩ := h.rx.blk hg
    exact h.rg.ne hb (by decide) e)), h.ry.keep (fun g hg => hd.keep (h.ry.lt hg) (fun e => yb (by rw [hg, e])) (fun e => by
    obtain ⟨cur, hb⟩ := h.ry.blk hg
    exact h.rg.ne hb (by decide) e)), hO.keep (fun g hg => Below.heap_setCell w2 _ _ g (fun e => hO.ne q2 (by decide) (by rw [hg, e]))), h.lx, h.ly, ?_⟩
  · refine (h.mod.trans hd.mod (fun k hk => ?_)).trans (Mod.setCell (S := C.T) w2 _ _ (Or.inr (Or.inr (Or.inl rfl)))) (fun _ h => Or.inl h)
    rcases h.lg with ⟨h1, h2⟩ | ⟨g, h1, h2⟩
    · exfalso
      have := hk.2
      rw [h1, h2] at this
      simp at this
    · right
      have := hk.1
      rw [h1] at this
      cases this
      exact h2
  · rw [heap_setCell_same _ q2, setg5, e1]
  · right
    rcases hd with ⟨h1, h2, _⟩ | ⟨h1, _⟩
    · rcases h.lg with ⟨k1, k2⟩ | k
      · exfalso
        rw [k1, k2] at h2
        simp at h2
      · rw [h1]; exact k
    · have := h.mod.size
      exact ⟨g', rfl, by omega⟩
theorem St.old (h : St C w ix iy ig ogx cx ogy cy ogg cg) {k : Nat} (hk : k < C.W9.heap.size) (hT : ¬ C.T k) : w.heap[k]? = C.W9.heap[k]? := h.mod.block k hk hT
theorem St.drew (h : St C w ix iy ig ogx cx ogy cy ogg cg) : St C w.drew ix iy ig ogx cx ogy cy ogg cg :=
  ⟨h.mod.trans (Mod.drew (fun _ => False) w) (fun _ h => h.elim), h.box, h.boy, h.bog, h.rx.keep (fun _ _ => rfl), h.ry.keep (fun _ _ => rfl), h.rg.keep (fun _ _ => rfl), h.lx, h.ly, h.lg⟩
end
end Go.Proofs.YtpodeccpibnlbaaGreatDoor
