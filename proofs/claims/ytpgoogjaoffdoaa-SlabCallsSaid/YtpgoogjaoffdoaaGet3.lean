/- The walk of slab's Get where a piece is got, said of cells. -/
import Derived.Test.YtpgoogjaoffdoaaGet2
namespace Go.Proofs.Ytpgoogjaoffdoaa
set_option linter.unusedVariables false
set_option linter.unusedSimpArgs false
open Go.RowKit

/-- What the stores behind the append want to know of the world that the append leaves. -/
structure After (w1 w2 : World) (b g i used live : Nat) (gs : Option Nat) (m cs : Nat) : Prop where
  r0 : w2.cell? ⟨g, i * 3, none⟩ = some (.slice (gs.map fun g => ⟨g, 0, none⟩) m cs)
  r1 : ∃ v, w2.cell? ⟨g, i * 3 + 1, none⟩ = some v
  r2 : ∃ v, w2.cell? ⟨g, i * 3 + 2, none⟩ = some v
  s0 : w2.frozen? ⟨g, i * 3, none⟩ = false
  s1 : w2.frozen? ⟨g, i * 3 + 1, none⟩ = false
  s2 : w2.frozen? ⟨g, i * 3 + 2, none⟩ = false
  e1 : w2.cell? ⟨b, 1, none⟩ = some (.int .i64 (used : Int))
  e2 : w2.cell? ⟨b, 2, none⟩ = some (.int .i64 (live : Int))
  h1 : w2.frozen? ⟨b, 1, none⟩ = false
  h2 : w2.frozen? ⟨b, 2, none⟩ = false
  hb : b < w2.heap.size
  hg : g < w2.heap.size

theorem after_of {w1 w2 : World} {b room used live g np cp i : Nat} {gs : Option Nat} {m cs : Nat} {xs X : List Value} {v4 : Value} (hm : Mid w1 b room used live g np cp i gs m cs xs X v4)
    (hM : Mod (fun j => some j = gs) w1 w2) : After w1 w2 b g i used live gs m cs := by
  have hbl : b < w1.heap.size := (Array.getElem?_eq_some_iff.1 hm.hb).1
  have hgl : g < w1.heap.size := hm.hP.lt rfl
  have hin := hm.hi
  have hXl : X.length = np * 3 := hm.hP.len
  have hP : Sl w2 86 3 (some g) np cp X := hm.hP.keep fun x hx => by
    obtain rfl := Option.some.inj hx
    exact hM.block _ hgl (fun e => hm.hsg e.symm)
  have hb := (hM.block b hbl (fun e => hm.hsb e.symm)).trans hm.hb
  refine ⟨hP.cell rfl hm.p0, ⟨_, hP.cell rfl (List.getElem?_eq_getElem (by omega))⟩, ⟨_, hP.cell rfl (List.getElem?_eq_getElem (by omega))⟩, hP.frozen rfl _, hP.frozen rfl _, hP.frozen rfl _, ?_, ?_, ?_, ?_, ?_, ?_⟩
  · simp [World.cell?, hb]
  · simp [World.cell?, hb]
  · simp [World.frozen?, hb]
  · simp [World.frozen?, hb]
  · have := hM.size; omega
  · have := hM.size; omega

theorem app1 {w1 w2 : World} {A : Obj} {gs : Option Nat} {g' n c' : Nat} {ys : List Value} (hS : Sl w2 3 1 (some g') n c' ys) (hor : some g' = gs ∨ (w1.alloc A).drew.heap.size ≤ g') (hM : Mod (fun j => some j = gs) (w1.alloc A).drew w2) :
    Hd (Sl w2 3 1 (some g') n c' ys ∧ (some g' = gs ∨ w1.heap.size < g') ∧ Mod (fun j => some j = gs) w1 w2) :=
  ⟨hS, hor.imp id (fun h => by simp [heap_drew] at h; omega), ((Mod.alloc _ w1 A).trans (Mod.drew _ _) (fun _ h => Or.inl h)).trans hM (fun _ h => Or.inl h)⟩
theorem app2 {w1 w2 : World} {A B : Obj} {gs : Option Nat} {g' n c' : Nat} {ys : List Value} (hS : Sl w2 3 1 (some g') n c' ys) (hor : some g' = gs ∨ ((w1.alloc B).alloc A).drew.heap.size ≤ g') (hM : Mod (fun j => some j = gs) ((w1.alloc B).alloc A).drew w2) :
    Hd (Sl w2 3 1 (some g') n c' ys ∧ (some g' = gs ∨ w1.heap.size + 2 ≤ g') ∧ Mod (fun j => some j = gs) w1 w2) :=
  ⟨hS, hor.imp id (fun h => by simp [heap_drew] at h; omega), (((Mod.alloc _ w1 B).trans (Mod.alloc _ _ A) (fun _ h => Or.inl h)).trans (Mod.drew _ _) (fun _ h => Or.inl h)).trans hM (fun _ h => Or.inl h)⟩
theorem one_news2 {w : World} {u : Value} {t : TypeId} (n : Nat) (k : Nat) (o : Obj) (h : n = w.heap.size ∧ k = 0) : ∀ j v, [u][j]? = some v → (((w.alloc (.cells #[u] t)).alloc o).drew).cell? ((⟨n, k, none⟩ : Addr).add j) = some v := by
  intro j v hj
  rw [← one_news n k h j v hj, Addr.add_lit]
  obtain ⟨rfl, rfl⟩ := h
  exact World.cell?_alloc_past _ _ _ (by simp)
/-- Both blocks that were new ahead of the append. -/
theorem app3 {w1 w2 : World} {A B : Obj} {gs : Option Nat} {e s n c : Nat} {ys : List Value} (hS : Sl w1 e s gs n c ys) (hM : Mod (fun j => some j = gs) ((w1.alloc B).alloc A).drew w2) :
    Hd (w2.heap[w1.heap.size]? = some B ∧ w2.heap[w1.heap.size + 1]? = some A) := by
  have h1 : ∀ k, w1.heap.size ≤ k → ¬ some k = gs := fun k hk e => by have := hS.lt e.symm; omega
  refine ⟨?_, ?_⟩
  · rw [hM.block _ (by simp [heap_drew]; omega) (h1 _ (Nat.le_refl _)), heap_drew, Below.heap_alloc _ _ _ (by simp)]
    exact heap_alloc_new w1 B
  · rw [hM.block _ (by simp [heap_drew]) (h1 _ (by omega)), heap_drew]
    have := heap_alloc_new (w1.alloc B) A
    simpa using this

/-- The first three stores. -/
def w3Stores (w : World) (g i g' m c' y k : Nat) : World :=
  ((w.setCell ⟨g, i * 3, none⟩ (.slice (some ⟨g', 0, none⟩) (m + 1) c')).setCell ⟨g, i * 3 + 1, none⟩ (.slice (some ⟨y, 0, none⟩) k k)).setCell ⟨g, i * 3 + 2, none⟩ (.bool false)

def Cut7 (w1 : World) (gs : Option Nat) (g i m k : Nat) (xs : List Value) (wc : World) : Prop :=
  ∃ g' c' y w3, wc = w3Stores w3 g i g' m c' y k ∧ Sl w3 3 1 (some g') (m + 1) c' (xs ++ [.int .i64 (k : Int)]) ∧ (some g' = gs ∨ w1.heap.size ≤ g') ∧ Mod (fun j => some j = gs) w1 w3 ∧
    w3.heap[y]? = some (.cells (zeros k) 89 (0, 0)) ∧ w1.heap.size ≤ y ∧ y ≠ g'

section
variable {w1 w2 : World} {b room used live g np cp i : Nat} {gs : Option Nat} {m cs : Nat} {xs X : List Value} {v4 : Value} (hm : Mid w1 b room used live g np cp i gs m cs xs X v4) {g' c' k : Nat}
include hm
theorem gotA (h : Sl w2 3 1 (some g') (m + 1) c' (xs ++ [.int .i64 (k : Int)]) ∧ (some g' = gs ∨ w1.heap.size < g') ∧ Mod (fun j => some j = gs) w1 w2) :
    Cut7 w1 gs g i m k xs ((w3Stores w2 g i g' m c' w2.heap.size k).alloc (.cells (zeros k) 89)) := by
  obtain ⟨hS, hor, hM⟩ := h
  have hgl : g < w1.heap.size := hm.hP.lt rfl
  have hsz := hM.size
  refine ⟨g', c', w2.heap.size, w2.alloc (.cells (zeros k) 89), ?_, hS.alloc _, hor.imp id (fun h => by omega), hM.trans (Mod.alloc _ _ _) (fun _ h => Or.inl h), heap_alloc_new _ _, by omega, by have := hS.lt rfl; omega⟩
  unfold w3Stores
  have hg2 : g < w2.heap.size := by omega
  simp only [World.setCell_alloc_past, World.size_setCell, hg2]
theorem gotB (h : Sl w2 3 1 (some g') (m + 1) c' (xs ++ [.int .i64 (k : Int)]) ∧ (some g' = gs ∨ w1.heap.size + 2 ≤ g') ∧ Mod (fun j => some j = gs) w1 w2)
    (hz : w2.heap[w1.heap.size]? = some (.cells (zeros k) 89)) :
    Cut7 w1 gs g i m k xs (w3Stores w2 g i g' m c' w1.heap.size k) := by
  obtain ⟨hS, hor, hM⟩ := h
  refine ⟨g', c', _, w2, rfl, hS, hor.imp id (fun h => by omega), hM, hz, Nat.le_refl _, fun e => ?_⟩
  rcases hor with h | h
  · have := hm.hS.lt h.symm; omega
  · omega
theorem gotC (h : Sl w2 3 1 (some g') (m + 1) c' (xs ++ [.int .i64 (k : Int)]) ∧ (some g' = gs ∨ w1.heap.size + 2 ≤ g') ∧ Mod (fun j => some j = gs) w1 w2)
    (hz : w2.heap[w1.heap.size + 1]? = some (.cells (zeros k) 89)) :
    Cut7 w1 gs g i m k xs (w3Stores w2 g i g' m c' (w1.heap.size + 1) k) := by
  obtain ⟨hS, hor, hM⟩ := h
  refine ⟨g', c', _, w2, rfl, hS, hor.imp id (fun h => by omega), hM, hz, by omega, fun e => ?_⟩
  rcases hor with h | h
  · have := hm.hS.lt h.symm; omega
  · omega
end

set_option maxRecDepth 100000 in
set_option maxHeartbeats 4000000 in
theorem get_good (b : Nat) (k : Nat) (w : World) (h0 : 1 ≤ k) (h : k ≤ 4095) (room used live : Nat) (hu : used ≤ 16384) (hl : live ≤ 16384) (hr : room ≤ 16384)
    (c0 : w.cell? ⟨b, 0, none⟩ = some (.int .i64 (room : Int))) (c1 : w.cell? ⟨b, 1, none⟩ = some (.int .i64 (used : Int))) (hf : (used : Int) + k ≤ room)
    (i m : Nat) (hm : m < 1048576) (hi : i < 1048576)
    {α : Type} (R : α → World → Prop) (fg fnp fcp : α → Nat) (fgs : α → Option Nat) (fcs : α → Nat) (fxs fX : α → List Value) (fv : α → Value)
    (hidx : Hid (Calls Try.prog 38 #[.pointer (some ⟨b, 0, none⟩)] w.drew fun e w' => e = .returned (.int .i64 (i : Int)) ∧ ∃ x, R x w')) 
    (hR : ∀ x w1, R x w1 → Mid w1 b room used live (fg x) (fnp x) (fcp x) i (fgs x) m (fcs x) (fxs x) (fX x) (fv x)) :
    Calls Try.prog 15 #[.pointer (some ⟨b, 0, none⟩), .int .i64 (k : Int)] w fun e w' => e = .returned (.tuple #[.int .u64 (4611686018427387904 + (m : Int) * 4294967296 + (i : Int) * 4096 + 0), .int .i64 0]) ∧
      ∃ x w1, R x w1 ∧ Got w1 b room used live (fg x) (fnp x) (fcp x) i (fgs x) m k (fxs x) (fX x) (fv x) w' := by
  obtain ⟨i0, hi0, hz0, hz1, hz2⟩ := info_parts Try.info3
  have hmk := fun w => make_cells k (by omega) w
  go_enter Try.func15, Try.ntmps15
  go_wp2
  go_region
  go_wp2_with fail
  refine (hidx.out).mono ?_
  rintro e w1 ⟨rfl, x, hRw⟩
  obtain ⟨g, np, cp, gs, cs, xs, X, v4, hE, hM⟩ : ∃ g np cp gs cs xs X v4, (g = fg x ∧ np = fnp x ∧ cp = fcp x ∧ gs = fgs x ∧ cs = fcs x ∧ xs = fxs x ∧ X = fX x ∧ v4 = fv x) ∧ Mid w1 b room used live g np cp i gs m cs xs X v4 :=
    ⟨_, _, _, _, _, _, _, _, ⟨rfl, rfl, rfl, rfl, rfl, rfl, rfl, rfl⟩, hR x w1 hRw⟩
  have HE : Hd _ := ⟨hE⟩
  have HR : Hd _ := ⟨hRw⟩
  have HM : Hd _ := ⟨hM⟩
  obtain ⟨p0, ⟨v1, p1⟩, ⟨v2, p2⟩, q0, q1, q2, d1, d2, f1, f2, hbl, hgl⟩ := after_of hM (Mod.refl _ _)
  have d3 : w1.cell? ⟨b, 3, none⟩ = some (.slice (some ⟨g, 0, none⟩) np cp) := by simp [World.cell?, hM.hb]
  have hin := hM.hi
  have hnc := hM.hnc
  have hcm := hM.hcm
  have hgb : g ≠ b := fun e => hM.hbg e.symm
  have hbg := hM.hbg
  clear c0 c1 hR hRw hM hidx hE
  go_upto_region 7 with fail
  go_cut [] (fun wc => Cut7 w1 gs g i m k xs wc)
  case first =>
    go_region_law (first | (refine step_append_sl rfl (.tmp 41) (.tmp 43) 41 rfl 3 i0 (.int .i64 0) 1 8 Try.underlying41 hi0 hz0 hz1 hz2 rfl (by decide) gs m cs xs (by simp [Act.eval, Act.put, sv]) (HM.out.hS.alloc _).drew ⟨w1.heap.size, 0, none⟩ 1 1 [.int .i64 (k : Int)] (by simp [Act.eval, Act.put]) rfl (one_news _ _ (by simp)) (one_cells _ rfl) (by decide) (by unfold maxLen; omega) (by omega) ?_; intro g' c' w2 hS2 hor hM2; have HX := app1 hS2 hor hM2; have HZ := Hd.mk trivial; clear hS2 hor hM2; obtain ⟨r0, ⟨u1, r1⟩, ⟨u2, r2⟩, s0, s1, s2, e1, e2, h1, h2, hbl2, hgl2⟩ := after_of HM.out HX.out.2.2) | (refine step_append_sl rfl (.tmp 41) (.tmp 43) 41 rfl 3 i0 (.int .i64 0) 1 8 Try.underlying41 hi0 hz0 hz1 hz2 rfl (by decide) gs m cs xs (by simp [Act.eval, Act.put, sv]) ((HM.out.hS.alloc _).alloc _).drew ⟨w1.heap.size + 1, 0, none⟩ 1 1 [.int .i64 (k : Int)] (by simp [Act.eval, Act.put]) rfl (one_news _ _ (by simp)) (one_cells _ rfl) (by decide) (by unfold maxLen; omega) (by omega) ?_; intro g' c' w2 hS2 hor hM2; have HX := app2 hS2 hor hM2; have HZ := app3 HM.out.hS hM2; clear hS2 hor hM2; obtain ⟨r0, ⟨u1, r1⟩, ⟨u2, r2⟩, s0, s1, s2, e1, e2, h1, h2, hbl2, hgl2⟩ := after_of HM.out HX.out.2.2) | (refine step_append_sl rfl (.tmp 41) (.tmp 43) 41 rfl 3 i0 (.int .i64 0) 1 8 Try.underlying41 hi0 hz0 hz1 hz2 rfl (by decide) gs m cs xs (by simp [Act.eval, Act.put, sv]) ((HM.out.hS.alloc _).alloc _).drew ⟨w1.heap.size, 0, none⟩ 1 1 [.int .i64 (k : Int)] (by simp [Act.eval, Act.put]) rfl (one_news2 _ _ _ (by simp)) (one_cells _ rfl) (by decide) (by unfold maxLen; omega) (by omega) ?_; intro g' c' w2 hS2 hor hM2; have HX := app2 hS2 hor hM2; have HZ := app3 HM.out.hS hM2; clear hS2 hor hM2; obtain ⟨r0, ⟨u1, r1⟩, ⟨u2, r2⟩, s0, s1, s2, e1, e2, h1, h2, hbl2, hgl2⟩ := after_of HM.out HX.out.2.2))
    all_goals (go_wp2_with fail; go_meet)
    all_goals (case rel => first | exact gotA HM.out HX.out | exact gotB HM.out HX.out HZ.out.1 | exact gotC HM.out HX.out HZ.out.2)
  case rest =>
    obtain ⟨g', c', y, w3, rfl, hS3, hor, hM3, hy, hy1, hyg⟩ := hcut
    have HG : Hd (Got w1 b room used live g np cp i gs m k xs X v4 (wStores w3 b g i used live g' m c' y k)) := ⟨got_core HM.out hS3 hor hM3 hy hy1 hyg⟩
    clear p0 p1 p2 q0 q1 q2 d1 d2 f1 f2 hbl hgl d3
    obtain ⟨p0, ⟨u1, p1⟩, ⟨u2, p2⟩, q0, q1, q2, d1, d2, f1, f2, hbl, hgl⟩ := after_of HM.out hM3
    clear hS3 hor hM3 hy hy1 hyg
    unfold w3Stores
    go_wp2_with (go_at_call 39; refine (addr_any _ _ _ _ (by omega) (by omega) (by omega) (by omega) (by omega) (by omega)).mono ?_; rintro e w' ⟨rfl, rfl⟩)
    go_ret2
    obtain ⟨rfl, rfl, rfl, rfl, rfl, rfl, rfl, rfl⟩ := HE.out
    exact ⟨ret_u64 (by omega), x, w1, HR.out, HG.out⟩
end Go.Proofs.Ytpgoogjaoffdoaa
