/- A world whose texts and numbers may have changed within some rows: what still holds in it. No program in sight. -/
import Derived.Test.YtpodeccpibnlbaaGreatDoorG04
import Derived.Test.YtpodeccpibnlbaaGreatDoorG11
namespace Go.Proofs.YtpodeccpibnlbaaGreatDoor
set_option linter.unusedVariables false
set_option linter.unusedSimpArgs false
open Go.RowKit
/-- v' is v, but for a text (then a text, longer by d letters at most) or a number (then a number of its kind). -/
def soft (d : Nat) (v v' : Value) : Prop :=
  match v with
  | .string s => ∃ s', v' = .string s' ∧ s'.size ≤ s.size + d
  | .int k _ => ∃ n', v' = .int k n'
  | _ => v' = v
theorem soft.refl (d : Nat) (v : Value) : soft d v v := by
  unfold soft
  split
  · exact ⟨_, rfl, by omega⟩
  · exact ⟨_, rfl⟩
  · rfl
theorem soft.mono {d e : Nat} (h : d ≤ e) {v v' : Value} (hs : soft d v v') : soft e v v' := by
  unfold soft at hs ⊢
  split at hs
  · obtain ⟨s', h1, h2⟩ := hs
    exact ⟨s', h1, by omega⟩
  · exact hs
  · exact hs
/-- w came of W by changes of texts and numbers in blocks from B on, and by new blocks. -/
structure Sft (B : Nat) (W : World) (d : Nat) (w : World) : Prop where
  mod : Mod (fun k => B ≤ k ∧ k < W.heap.size) W w
  cells : ∀ (a : Addr) (v : Value), a.block < W.heap.size → W.cell? a = some v → ∃ v', w.cell? a = some v' ∧ soft d v v'
  nb : ∀ b, Nb B W b → Nb B w b
section
variable {B d : Nat} {W w : World}
theorem Sft.start (hB : B ≤ W.heap.size) (h : Mod (fun _ => False) W w) : Sft B W 0 w :=
  ⟨h.mono (fun _ h => h.elim), fun a v hl ha => ⟨v, by rw [← ha]; exact World.cell?_of_block (h.block _ hl (fun h => h)), soft.refl _ _⟩, fun b hb => by
    obtain ⟨h1, cur, e, h2⟩ := hb
    exact ⟨h1, cur, e, (h.block b (Array.getElem?_eq_some_iff.1 h2).1 (fun h => h)).trans h2⟩⟩
theorem Sft.alloc (h : Sft B W d w) (o : Obj) : Sft B W d (w.alloc o) :=
  ⟨h.mod.trans (Mod.alloc (fun _ => False) _ _) (fun _ h => h.elim), fun a v hl ha => by
    obtain ⟨v', h1, h2⟩ := h.cells a v hl ha
    exact ⟨v', Lib.cell?_alloc_some o h1, h2⟩, fun b hb => by
    obtain ⟨h1, cur, e, h2⟩ := h.nb b hb
    exact ⟨h1, cur, e, (Below.heap_alloc _ _ _ (Array.getElem?_eq_some_iff.1 h2).1).trans h2⟩⟩
theorem Sft.set (h : Sft B W d w) {b o : Nat} {v v' : Value} (hb : Nb B W b) (hv : W.cell? ⟨b, o, none⟩ = some v) {e : Nat} (he : d ≤ e) (hs : soft e v v') : Sft B W e (w.setCell ⟨b, o, none⟩ v') := by
  have hlt : b < W.heap.size := (Array.getElem?_eq_some_iff.1 hb.2.choose_spec.choose_spec).1
  refine ⟨h.mod.trans (Mod.setCell (S := fun k => B ≤ k ∧ k < W.heap.size) w _ _ ⟨hb.1, hlt⟩) (fun _ h => Or.inl h), fun a u hl ha => ?_, fun c hc => ?_⟩
  · by_cases e1 : a = ⟨b, o, none⟩
    · subst e1
      rw [hv] at ha
      cases ha
      obtain ⟨u', h1, _⟩ := h.cells _ _ hl hv
      exact ⟨v', World.cell?_setCell_same' _ _ _ (by rw [h1]; rfl), hs⟩
    · obtain ⟨u', h1, h2⟩ := h.cells a u hl ha
      exact ⟨u', by rw [World.cell?_setCell_other _ _ _ _ (fun e => e1 e.symm)]; exact h1, h2.mono he⟩
  · obtain ⟨h1, cur, t, h2⟩ := h.nb c hc
    by_cases e1 : c = b
    · subst e1
      exact ⟨h1, cur.setIfInBounds o v', t, by simp only [World.setCell, Array.getElem?_modify, h2]; simp⟩
    · exact ⟨h1, cur, t, (Below.heap_setCell w _ _ c e1).trans h2⟩
theorem Sft.str (h : Sft B W d w) {b o : Nat} {s : ByteArray} (hl : b < W.heap.size) (ha : W.cell? ⟨b, o, none⟩ = some (.string s)) : ∃ s', w.cell? ⟨b, o, none⟩ = some (.string s') ∧ s'.size ≤ s.size + d := by
  obtain ⟨v', h1, s', rfl, h2⟩ := h.cells _ _ hl ha
  exact ⟨s', h1, h2⟩
theorem Sft.int (h : Sft B W d w) {b o : Nat} {k : IntKind} {n : Int} (hl : b < W.heap.size) (ha : W.cell? ⟨b, o, none⟩ = some (.int k n)) : ∃ n', w.cell? ⟨b, o, none⟩ = some (.int k n') := by
  obtain ⟨v', h1, n', rfl⟩ := h.cells _ _ hl ha
  exact ⟨n', h1⟩
theorem Sft.sl (h : Sft B W d w) {b o : Nat} {x : Option Addr} {m c : Nat} (hl : b < W.heap.size) (ha : W.cell? ⟨b, o, none⟩ = some (.slice x m c)) : w.cell? ⟨b, o, none⟩ = some (.slice x m c) := by
  obtain ⟨v', h1, h2⟩ := h.cells _ _ hl ha
  have h2 : v' = .slice x m c := h2
  rw [h1, h2]
theorem Sft.frz (h : Sft B W d w) {b : Nat} (hb : Nb B W b) (j : Nat) : w.frozen? ⟨b, j, none⟩ = false := by
  obtain ⟨_, cur, t, h2⟩ := h.nb b hb
  simp [World.frozen?, h2]
theorem Sft.setStr (h : Sft B W d w) {b o : Nat} {s s' : ByteArray} (hb : Nb B W b) (hv : W.cell? ⟨b, o, none⟩ = some (.string s)) (hs : s'.size ≤ s.size + d) : Sft B W (d + 1) (w.setCell ⟨b, o, none⟩ (.string (s' ++ ({ data := #[122] } : ByteArray)))) :=
  h.set hb hv (Nat.le_succ d) ⟨_, rfl, by simp [ByteArray.size_append]; have : ({ data := #[122] } : ByteArray).size = 1 := rfl; omega⟩
theorem Sft.setInt (h : Sft B W d w) {b o : Nat} {k : IntKind} {n : Int} (hb : Nb B W b) (hv : W.cell? ⟨b, o, none⟩ = some (.int k n)) (n' : Int) : Sft B W (d + 1) (w.setCell ⟨b, o, none⟩ (.int k n')) :=
  h.set hb hv (Nat.le_succ d) ⟨n', rfl⟩
end
theorem z_size (s : ByteArray) : (s ++ ({ data := #[122] } : ByteArray)).size = s.size + 1 := by simp [ByteArray.size_append]; rfl
theorem drop_sum {α : Type} (c : α → Nat) {l : List α} {i : Nat} {x : α} (hx : l[i]? = some x) : ((l.drop i).map c).sum = c x + ((l.drop (i + 1)).map c).sum := by
  rw [drop_cons hx, List.map_cons, List.sum_cons]
def cS (x : Sct) : Nat := 1 + x.fields.length
def cSt (s : Stm) : Nat := 1 + s.args.length + s.dest.steps.length
def cB (b : Blk) : Nat := 1 + (b.stmts.map cSt).sum + b.term.blocks.length + b.term.arms.length
def cF (f : Fun) : Nat := 1 + (f.blocks.map cB).sum
def cP (p : Prg) : Nat := (p.structs.map cS).sum + p.enums.length + (p.funcs.map cF).sum
end Go.Proofs.YtpodeccpibnlbaaGreatDoor
