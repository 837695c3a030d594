/- The walks of slab's Get, said of cells. -/
import Derived.Test.YtpgoogjaoffdoaaGet
namespace Go.Proofs.Ytpgoogjaoffdoaa
set_option linter.unusedVariables false
set_option linter.unusedSimpArgs false
open Go.RowKit

set_option maxRecDepth 100000 in
set_option maxHeartbeats 400000 in
theorem get_low (b : Nat) (n : Int) (w : World) (h : n < 1) :
    Calls Try.prog 15 #[.pointer (some ⟨b, 0, none⟩), .int .i64 n] w fun e w' => e = .returned (.tuple #[.int .u64 0, .int .i64 11]) ∧ w' = w := by
  go_enter Try.func15, Try.ntmps15
  go_wp2
  go_ret2
  exact ⟨rfl, rfl⟩

set_option maxRecDepth 100000 in
set_option maxHeartbeats 400000 in
theorem get_high (b : Nat) (n : Int) (w : World) (h0 : 1 ≤ n) (h : 4095 < n) :
    Calls Try.prog 15 #[.pointer (some ⟨b, 0, none⟩), .int .i64 n] w fun e w' => e = .returned (.tuple #[.int .u64 0, .int .i64 11]) ∧ w' = w := by
  go_enter Try.func15, Try.ntmps15
  go_wp2
  go_ret2
  exact ⟨rfl, rfl⟩

set_option maxRecDepth 100000 in
set_option maxHeartbeats 400000 in
theorem get_full (b : Nat) (n : Int) (w : World) (h0 : 1 ≤ n) (h : n ≤ 4095) (room used : Nat) (hu : used ≤ 16384) (hr : room ≤ 16384)
    (c0 : w.cell? ⟨b, 0, none⟩ = some (.int .i64 (room : Int))) (c1 : w.cell? ⟨b, 1, none⟩ = some (.int .i64 (used : Int))) (hf : (room : Int) < used + n) :
    Calls Try.prog 15 #[.pointer (some ⟨b, 0, none⟩), .int .i64 n] w fun e w' => e = .returned (.tuple #[.int .u64 0, .int .i64 13]) ∧ w' = w.drew := by
  go_enter Try.func15, Try.ntmps15
  go_wp2
  go_region
  go_wp2
  go_ret2
  exact ⟨rfl, rfl⟩

def zeros (k : Nat) : Array Value := madeCells #[.int .i64 0, .bool false] (k * 2)
theorem make_cells (k : Nat) (hk : k ≤ 4095) (w : World) :
    (Instr.makeSlice 84 (.int .i64 (k : Int)) (.int .i64 (k : Int))).run Try.prog w = .ok (.slice (some ⟨w.heap.size, 0, none⟩) k k) (w.alloc (.cells (zeros k) 89)) := by
  obtain ⟨i0, hi, hz0, hz1, hz2⟩ := info_parts Try.info89
  have hr := run_make (P := Try.prog) w 84 89 i0 _ Try.underlying84 hi hz0 .i64 .i64 k k (by omega) (Int.le_refl _) (by rw [hz2]; omega) (by omega)
  rw [hz1] at hr
  exact hr

theorem one_news {w : World} {u : Value} {t : TypeId} (n : Nat) (k : Nat) (h : n = w.heap.size ∧ k = 0) : ∀ j v, [u][j]? = some v → ((w.alloc (.cells #[u] t)).drew).cell? ((⟨n, k, none⟩ : Addr).add j) = some v := by
  intro j v hj
  obtain ⟨rfl, rfl⟩ := h
  match j, hj with
  | 0, hj => simp at hj; subst hj; rw [Addr.add_lit]; exact cell_one_new' _ _ (by simp)
theorem one_cells (u : Value) (h : u.oneCell' = true) : ∀ v ∈ [u], v.oneCell' = true := by
  intro v hv
  simp at hv
  subst hv
  exact h

/-- What Get finds behind its call of index. -/
structure Mid (w1 : World) (b : Nat) (room used live : Nat) (g np cp i : Nat) (gs : Option Nat) (m cs : Nat) (xs X : List Value) (v4 : Value) : Prop where
  hb : w1.heap[b]? = some (.cells #[.int .i64 (room : Int), .int .i64 (used : Int), .int .i64 (live : Int), .slice (some ⟨g, 0, none⟩) np cp, v4] 69 (0, 0))
  hi : i < np
  hnc : np ≤ cp
  hcm : cp ≤ 9223372036854775807
  hP : Sl w1 86 3 (some g) np cp X
  p0 : X[i * 3]? = some (.slice (gs.map fun g => ⟨g, 0, none⟩) m cs)
  hS : Sl w1 3 1 gs m cs xs
  hbg : b ≠ g
  hsb : gs ≠ some b
  hsg : gs ≠ some g

/-- The stores that stand behind the append. -/
def wStores (w : World) (b g i used live g' m c' y k : Nat) : World :=
  ((((w.setCell ⟨g, i * 3, none⟩ (.slice (some ⟨g', 0, none⟩) (m + 1) c')).setCell ⟨g, i * 3 + 1, none⟩ (.slice (some ⟨y, 0, none⟩) k k)).setCell ⟨g, i * 3 + 2, none⟩ (.bool false)).setCell ⟨b, 1, none⟩ (.int .i64 ((used : Int) + k))).setCell ⟨b, 2, none⟩ (.int .i64 ((live : Int) + 1))

def Got (w1 : World) (b room used live g np cp i : Nat) (gs : Option Nat) (m k : Nat) (xs X : List Value) (v4 : Value) (w' : World) : Prop :=
  ∃ g' c' y, Sl w' 3 1 (some g') (m + 1) c' (xs ++ [.int .i64 (k : Int)]) ∧ (some g' = gs ∨ w1.heap.size ≤ g') ∧
    w'.heap[y]? = some (.cells (zeros k) 89 (0, 0)) ∧ w1.heap.size ≤ y ∧ y ≠ g' ∧
    Sl w' 86 3 (some g) np cp (((X.set (i * 3) (.slice (some ⟨g', 0, none⟩) (m + 1) c')).set (i * 3 + 1) (.slice (some ⟨y, 0, none⟩) k k)).set (i * 3 + 2) (.bool false)) ∧
    w'.heap[b]? = some (.cells #[.int .i64 (room : Int), .int .i64 ((used : Int) + k), .int .i64 ((live : Int) + 1), .slice (some ⟨g, 0, none⟩) np cp, v4] 69 (0, 0)) ∧
    Mod (fun j => some j = gs ∨ j = g ∨ j = b) w1 w'

theorem got_core {w1 w3 : World} {b room used live g np cp i : Nat} {gs : Option Nat} {m cs : Nat} {xs X : List Value} {v4 : Value} (hm : Mid w1 b room used live g np cp i gs m cs xs X v4)
    {g' c' y k : Nat} (hS : Sl w3 3 1 (some g') (m + 1) c' (xs ++ [.int .i64 (k : Int)])) (hor : some g' = gs ∨ w1.heap.size ≤ g') (hM : Mod (fun j => some j = gs) w1 w3)
    (hy : w3.heap[y]? = some (.cells (zeros k) 89 (0, 0))) (hy1 : w1.heap.size ≤ y) (hyg : y ≠ g') : Got w1 b room used live g np cp i gs m k xs X v4 (wStores w3 b g i used live g' m c' y k) := by
  have hbl : b < w1.heap.size := (Array.getElem?_eq_some_iff.1 hm.hb).1
  have hgl : g < w1.heap.size := hm.hP.lt rfl
  have hg'b : some g' ≠ some b := fun e => by
    rcases hor with h | h
    · exact hm.hsb (h.symm.trans e)
    · have := Option.some.inj e; omega
  have hg'g : some g' ≠ some g := fun e => by
    rcases hor with h | h
    · exact hm.hsg (h.symm.trans e)
    · have := Option.some.inj e; omega
  have hP3 : Sl w3 86 3 (some g) np cp X := hm.hP.keep fun x hx => by
    obtain rfl := Option.some.inj hx
    exact hM.block _ hgl (fun e => hm.hsg e.symm)
  have hb3 := (hM.block b hbl (fun e => hm.hsb e.symm)).trans hm.hb
  have hXl : X.length = np * 3 := hm.hP.len
  have hin := hm.hi
  have hgb : g ≠ b := fun e => hm.hbg e.symm
  refine ⟨g', c', y, ?_, hor, ?_, hy1, hyg, ?_, ?_, ?_⟩
  · unfold wStores
    exact ((((hS.setCell _ _ hg'g).setCell _ _ hg'g).setCell _ _ hg'g).setCell _ _ hg'b).setCell _ _ hg'b
  · unfold wStores
    rw [Below.heap_setCell _ _ _ _ (show y ≠ b by omega), Below.heap_setCell _ _ _ _ (show y ≠ b by omega), Below.heap_setCell _ _ _ _ (show y ≠ g by omega), Below.heap_setCell _ _ _ _ (show y ≠ g by omega), Below.heap_setCell _ _ _ _ (show y ≠ g by omega)]
    exact hy
  · unfold wStores
    exact ((((hP3.set rfl (by omega) _).set rfl (by simp; omega) _).set rfl (by simp; omega) _).setCell _ _ (fun e => hgb (Option.some.inj e))).setCell _ _ (fun e => hgb (Option.some.inj e))
  · have e : (((w3.setCell ⟨g, i * 3, none⟩ (.slice (some ⟨g', 0, none⟩) (m + 1) c')).setCell ⟨g, i * 3 + 1, none⟩ (.slice (some ⟨y, 0, none⟩) k k)).setCell ⟨g, i * 3 + 2, none⟩ (.bool false)).heap[b]? = w3.heap[b]? := by
      rw [Below.heap_setCell _ _ _ _ hm.hbg, Below.heap_setCell _ _ _ _ hm.hbg, Below.heap_setCell _ _ _ _ hm.hbg]
    unfold wStores
    rw [heap_setCell_at (heap_setCell_at (e.trans hb3))]
    simp
  · unfold wStores
    exact ((((((hM.mono (fun j h => Or.inl h)).trans (Mod.setCell w3 _ _ (Or.inr (Or.inl rfl))) (fun _ h => Or.inl h)).trans (Mod.setCell _ _ _ (Or.inr (Or.inl rfl))) (fun _ h => Or.inl h)).trans (Mod.setCell _ _ _ (Or.inr (Or.inl rfl))) (fun _ h => Or.inl h)).trans (Mod.setCell _ _ _ (Or.inr (Or.inr rfl))) (fun _ h => Or.inl h)).trans (Mod.setCell _ _ _ (Or.inr (Or.inr rfl))) (fun _ h => Or.inl h))

theorem wStores_alloc (w : World) (o : Obj) (b g i used live g' m c' y k : Nat) (hb : b < w.heap.size) (hg : g < w.heap.size) :
    wStores (w.alloc o) b g i used live g' m c' y k = (wStores w b g i used live g' m c' y k).alloc o := by
  unfold wStores
  simp only [World.setCell_alloc_past, World.size_setCell, hb, hg]

end Go.Proofs.Ytpgoogjaoffdoaa
