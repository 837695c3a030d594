/- do: a call on both slabs: by its walk. -/
import Derived.Test.YtpgoogjaoffdoaaDoS
import Derived.Deep.RegionWith
namespace Go.Proofs.Ytpgoogjaoffdoaa
set_option linter.unusedVariables false
set_option linter.unusedSimpArgs false
open Go.RowKit

section
variable {w : World} {b1 b2 : Nat} {s : SS} {r : RSS} {own1 : Nat → Option Rl} {own2 : Nat → Option Rr} {N : Nat}

theorem Pair.get1 (h : Pair w b1 s own1 b2 r own2) (hW : s.WF N) (n : Int) : Calls Try.prog 15 #[.pointer (some ⟨b1, 0, none⟩), .int .i64 n] w fun e w' => e = .returned (.tuple #[.int .u64 ((s.get n).1.1 : Int), .int .i64 ((s.get n).1.2 : Int)]) ∧ ∃ own1', Pair w' b1 (s.get n).2 own1' b2 r own2 ∧ Aft2 w own1 own2 w' own1' own2 := by
  obtain ⟨L, hL⟩ := h.r1
  exact (get_calls hL hW n).mono fun e w' hx => ⟨hx.1, h.left hx.2⟩
theorem Pair.get2 {s0 : SS} (h : Pair w b1 s own1 b2 r own2) (hS : St s0 r N) (hN : N + 1 < 1048576) (n : Int) : Calls Try.prog 25 #[.pointer (some ⟨b2, 0, none⟩), .int .i64 n] w fun e w' => e = .returned (.tuple #[.int .u64 ((r.get n).1.1 : Int), .int .i64 ((r.get n).1.2 : Int)]) ∧ ∃ own2', Pair w' b1 s own1 b2 (r.get n).2 own2' ∧ Aft2 w own1 own2 w' own1 own2' :=
  (rget_calls h.r2 hS hN n).mono fun e w' hx => ⟨hx.1, h.right hx.2⟩
theorem Pair.free_1 (h : Pair w b1 s own1 b2 r own2) (hW : s.WF N) (a : Nat) (ha : a < 18446744073709551616) : Calls Try.prog 17 #[.pointer (some ⟨b1, 0, none⟩), .int .u64 (a : Int)] w fun e w' => e = .returned (.int .i64 ((s.free1 a).1 : Int)) ∧ ∃ own1', Pair w' b1 (s.free1 a).2 own1' b2 r own2 ∧ Aft2 w own1 own2 w' own1' own2 := by
  obtain ⟨L, hL⟩ := h.r1
  exact (free_calls hL hW a ha).mono fun e w' ⟨y, hx, hy, hc⟩ => ⟨by rw [hx, hy], h.left hc⟩
theorem Pair.free_2 (h : Pair w b1 s own1 b2 r own2) (hO : r.Ok N) (a : Nat) (ha : a < 18446744073709551616) : Calls Try.prog 26 #[.pointer (some ⟨b2, 0, none⟩), .int .u64 (a : Int)] w fun e w' => e = .returned (.int .i64 ((r.free1 a).1 : Int)) ∧ ∃ own2', Pair w' b1 s own1 b2 (r.free1 a).2 own2' ∧ Aft2 w own1 own2 w' own1 own2' := by
  obtain ⟨L, hL⟩ := h.r2
  exact (rfree_calls hL hO a ha).mono fun e w' hx => ⟨hx.1, h.right hx.2⟩
theorem Pair.store1 (h : Pair w b1 s own1 b2 r own2) (hW : s.WF N) (a : Nat) (ha : a < 18446744073709551616) (v : Int) : Calls Try.prog 16 #[.pointer (some ⟨b1, 0, none⟩), .int .u64 (a : Int), .int .i64 v] w fun e w' => e = .returned (.int .i64 ((s.set a (v, true)).1 : Int)) ∧ Pair w' b1 (s.set a (v, true)).2 own1 b2 r own2 ∧ Aft2 w own1 own2 w' own1 own2 := by
  obtain ⟨L, hL⟩ := h.r1
  exact (store_calls hL hW a ha v).mono fun e w' ⟨y, hx, hy, hr, hm⟩ => ⟨by rw [hx, hy], h.left' hr hm⟩
theorem Pair.store2 (h : Pair w b1 s own1 b2 r own2) (hO : r.Ok N) (a : Nat) (ha : a < 18446744073709551616) (v : Int) : Calls Try.prog 28 #[.pointer (some ⟨b2, 0, none⟩), .int .u64 (a : Int), .int .i64 v] w fun e w' => e = .returned (.int .i64 ((r.set a (v, true)).1 : Int)) ∧ Pair w' b1 s own1 b2 (r.set a (v, true)).2 own2 ∧ Aft2 w own1 own2 w' own1 own2 := by
  obtain ⟨L, hL⟩ := h.r2
  exact (rstore_calls hL hO a ha v).mono fun e w' hx => ⟨hx.1, h.right' hx.2.1 hx.2.2⟩
theorem Pair.blank1 (h : Pair w b1 s own1 b2 r own2) (hW : s.WF N) (a : Nat) (ha : a < 18446744073709551616) : Calls Try.prog 21 #[.pointer (some ⟨b1, 0, none⟩), .int .u64 (a : Int)] w fun e w' => e = .returned (.int .i64 ((s.set a (0, false)).1 : Int)) ∧ Pair w' b1 (s.set a (0, false)).2 own1 b2 r own2 ∧ Aft2 w own1 own2 w' own1 own2 := by
  obtain ⟨L, hL⟩ := h.r1
  exact (blank_calls hL hW a ha).mono fun e w' ⟨y, hx, hy, hr, hm⟩ => ⟨by rw [hx, hy], h.left' hr hm⟩
theorem Pair.blank2 (h : Pair w b1 s own1 b2 r own2) (hO : r.Ok N) (a : Nat) (ha : a < 18446744073709551616) : Calls Try.prog 29 #[.pointer (some ⟨b2, 0, none⟩), .int .u64 (a : Int)] w fun e w' => e = .returned (.int .i64 ((r.set a (0, false)).1 : Int)) ∧ Pair w' b1 s own1 b2 (r.set a (0, false)).2 own2 ∧ Aft2 w own1 own2 w' own1 own2 := by
  obtain ⟨L, hL⟩ := h.r2
  exact (rblank_calls hL hO a ha).mono fun e w' hx => ⟨hx.1, h.right' hx.2.1 hx.2.2⟩
theorem Pair.load1 (h : Pair w b1 s own1 b2 r own2) (hW : s.WF N) (a : Nat) (ha : a < 18446744073709551616) : Calls Try.prog 18 #[.pointer (some ⟨b1, 0, none⟩), .int .u64 (a : Int)] w fun e w' => e = .returned (.tuple #[.int .i64 (s.load a).1, .int .i64 ((s.load a).2 : Int)]) ∧ w = w' := by
  obtain ⟨L, hL⟩ := h.r1
  exact (load_calls hL hW a ha).mono fun e w' hx => ⟨hx.1, hx.2.symm⟩
theorem Pair.size1 (h : Pair w b1 s own1 b2 r own2) (hW : s.WF N) (a : Nat) (ha : a < 18446744073709551616) : Calls Try.prog 23 #[.pointer (some ⟨b1, 0, none⟩), .int .u64 (a : Int)] w fun e w' => e = .returned (.tuple #[.int .i64 ((s.size a).1 : Int), .int .i64 ((s.size a).2 : Int)]) ∧ w = w' := by
  obtain ⟨L, hL⟩ := h.r1
  exact (size_calls hL hW a ha).mono fun e w' hx => ⟨hx.1, hx.2.symm⟩
theorem Pair.off1 (h : Pair w b1 s own1 b2 r own2) (hW : s.WF N) (a : Nat) (ha : a < 18446744073709551616) (n : Int) : Calls Try.prog 20 #[.pointer (some ⟨b1, 0, none⟩), .int .u64 (a : Int), .int .i64 n] w fun e w' => e = .returned (.tuple #[.int .u64 ((s.off a n).1 : Int), .int .i64 ((s.off a n).2 : Int)]) ∧ w = w' := by
  obtain ⟨L, hL⟩ := h.r1
  exact (off_calls hL hW a ha n).mono fun e w' hx => ⟨hx.1, hx.2.symm⟩
theorem Pair.same2 (h : Pair w b1 s own1 b2 r own2) {w' : World} (hM : Mod (fun _ => False) w w') : Pair w' b1 s own1 b2 r own2 ∧ Aft2 w own1 own2 w' own1 own2 :=
  ⟨h.mod hM (fun _ h => h.elim), fun _ h => Or.inl h, fun _ h => Or.inl h, hM.mono (fun _ h => h.elim)⟩
theorem Pair.load2 (h : Pair w b1 s own1 b2 r own2) (hO : r.Ok N) (a : Nat) (ha : a < 18446744073709551616) : Calls Try.prog 27 #[.pointer (some ⟨b2, 0, none⟩), .int .u64 (a : Int)] w fun e w' => e = .returned (.tuple #[.int .i64 (r.load a).1, .int .i64 ((r.load a).2 : Int)]) ∧ Pair w' b1 s own1 b2 r own2 ∧ Aft2 w own1 own2 w' own1 own2 := by
  obtain ⟨L, hL⟩ := h.r2
  exact (rload_calls hL hO a ha).mono fun e w' hx => ⟨hx.1, h.same2 hx.2⟩
theorem Pair.size2 (h : Pair w b1 s own1 b2 r own2) (hO : r.Ok N) (a : Nat) (ha : a < 18446744073709551616) : Calls Try.prog 31 #[.pointer (some ⟨b2, 0, none⟩), .int .u64 (a : Int)] w fun e w' => e = .returned (.tuple #[.int .i64 ((r.size a).1 : Int), .int .i64 ((r.size a).2 : Int)]) ∧ Pair w' b1 s own1 b2 r own2 ∧ Aft2 w own1 own2 w' own1 own2 := by
  obtain ⟨L, hL⟩ := h.r2
  exact (rsize_calls hL hO a ha).mono fun e w' hx => ⟨hx.1, h.same2 hx.2⟩
theorem Pair.off2 (h : Pair w b1 s own1 b2 r own2) (hO : r.Ok N) (a : Nat) (ha : a < 18446744073709551616) (n : Int) (hn1 : -9223372036854775808 ≤ n) (hn2 : n ≤ 9223372036854775807) : Calls Try.prog 30 #[.pointer (some ⟨b2, 0, none⟩), .int .u64 (a : Int), .int .i64 n] w fun e w' => e = .returned (.tuple #[.int .u64 ((r.off a n).1 : Int), .int .i64 ((r.off a n).2 : Int)]) ∧ Pair w' b1 s own1 b2 r own2 ∧ Aft2 w own1 own2 w' own1 own2 := by
  obtain ⟨L, hL⟩ := h.r2
  exact (roff_calls hL hO a ha n hn1 hn2).mono fun e w' hx => ⟨hx.1, h.same2 hx.2⟩
end

/-- The addresses that were got. -/
structure Gt (w : World) (x g c : Nat) (L : List Nat) (own1 : Nat → Option Rl) (own2 : Nat → Option Rr) : Prop where
  box : w.heap[x]? = some (.cells #[.slice (some ⟨g, 0, none⟩) L.length c] 34 (0, 0))
  row : Sl w 23 1 (some g) L.length c (encA' L)
  x1 : own1 x = none
  x2 : own2 x = none
  g1 : own1 g = none
  g2 : own2 g = none
  ne : g ≠ x
  small : ∀ a ∈ L, a < 18446744073709551616

theorem Gt.aft {w w' : World} {x g c : Nat} {L : List Nat} {own1 own1' : Nat → Option Rl} {own2 own2' : Nat → Option Rr} (h : Gt w x g c L own1 own2) (ha : Aft2 w own1 own2 w' own1' own2') : Gt w' x g c L own1' own2' := by
  have hx := ha.keep (Array.getElem?_eq_some_iff.1 h.box).1 h.x1 h.x2
  have hg := ha.keep (h.row.lt rfl) h.g1 h.g2
  exact ⟨hx.1.trans h.box, h.row.keep (fun k hk => by obtain rfl := Option.some.inj hk; exact hg.1), hx.2.1, hx.2.2, hg.2.1, hg.2.2, h.ne, h.small⟩
theorem Gt.mod {w w' : World} {x g c : Nat} {L : List Nat} {own1 : Nat → Option Rl} {own2 : Nat → Option Rr} (h : Gt w x g c L own1 own2) (hM : Mod (fun _ => False) w w') : Gt w' x g c L own1 own2 :=
  ⟨(hM.block x (Array.getElem?_eq_some_iff.1 h.box).1 (fun h => h)).trans h.box, h.row.keep (fun k hk => hM.block k (h.row.lt hk) (fun h => h)), h.x1, h.x2, h.g1, h.g2, h.ne, h.small⟩

/-- What do leaves. -/
structure Done (w : World) (b1 b2 x g : Nat) (own1 : Nat → Option Rl) (own2 : Nat → Option Rr) (N : Nat) (w' : World) (s' : SS) (r' : RSS) (own1' : Nat → Option Rl) (own2' : Nat → Option Rr) (g' c' : Nat) (L' : List Nat) : Prop where
  pair : Pair w' b1 s' own1' b2 r' own2'
  st : St s' r' (N + 1)
  gt : Gt w' x g' c' L' own1' own2'
  few : L'.length ≤ N + 1
  o1 : ∀ k, own1' k ≠ none → own1 k ≠ none ∨ w.heap.size ≤ k
  o2 : ∀ k, own2' k ≠ none → own2 k ≠ none ∨ w.heap.size ≤ k
  og : g' = g ∨ w.heap.size ≤ g'
  mod : Mod (fun k => own1 k ≠ none ∨ own2 k ≠ none ∨ k = x ∨ k = g) w w'

theorem done_of {w wc w' : World} {b1 b2 x g c : Nat} {s' : SS} {r' : RSS} {own1 o1 : Nat → Option Rl} {own2 o2 : Nat → Option Rr} {N : Nat} {L : List Nat} (hM : Mod (fun _ => False) w wc) (hG : Gt wc x g c L own1 own2) (hA : Aft2 wc own1 own2 w' o1 o2) (hP : Pair w' b1 s' o1 b2 r' o2) (hSt : St s' r' (N + 1)) (hL : L.length ≤ N) :
    ∃ s' r' own1' own2' g' c' L', Done w b1 b2 x g own1 own2 N w' s' r' own1' own2' g' c' L' := by
  have hs := hM.size
  refine ⟨s', r', o1, o2, g, c, L, hP, hSt, hG.aft hA, by omega, fun k hk => ?_, fun k hk => ?_, Or.inl rfl, ?_⟩
  · rcases hA.g1 k hk with h | h
    · exact Or.inl h
    · exact Or.inr (by omega)
  · rcases hA.g2 k hk with h | h
    · exact Or.inl h
    · exact Or.inr (by omega)
  · exact (hM.mono (fun _ h => h.elim)).trans hA.mod (fun k hk => Or.inl (hk.elim Or.inl (fun h => Or.inr (Or.inl h))))

theorem get_lt {s : SS} {r : RSS} {N : Nat} (h : St s r N) (hN : N + 1 < 1048576) (n : Int) {a : Nat} (he : (r.get n).1 = (a, 0)) : a < 18446744073709551616 := by
  have h1 := (h.sim.get h.wf n).1
  rw [he] at h1
  obtain ⟨i, ps, e, _, _, hi, hp, _⟩ := SS.get_shape (s' := (s.get n).2) h.wf n (by rw [← h1])
  rw [e]
  exact addrOf_lt (by omega) (by omega)

theorem done_app {w wc w3 w4 : World} {b1 b2 x g c g' c' ra : Nat} {o : Obj} {s' : SS} {r' : RSS} {own1 o1 : Nat → Option Rl} {own2 o2 : Nat → Option Rr} {N : Nat} {L : List Nat} (hM : Mod (fun _ => False) w wc) (hG : Gt w3 x g c L o1 o2) (hA : Aft2 wc own1 own2 w3 o1 o2) (hP : Pair w3 b1 s' o1 b2 r' o2) (hSt : St s' r' (N + 1)) (hL : L.length ≤ N)
    (hra : ra < 18446744073709551616) (hS : Sl w4 23 1 (some g') (L.length + 1) c' (encA' L ++ [.int .u64 (ra : Int)])) (hor : g' = g ∨ w3.heap.size + 1 ≤ g') (hM4 : Mod (fun k => k = g) (w3.alloc o) w4) :
    ∃ s' r' own1' own2' g'' c'' L', Done w b1 b2 x g own1 own2 N (w4.setCell ⟨x, 0, none⟩ (.slice (some ⟨g', 0, none⟩) (L.length + 1) c')) s' r' own1' own2' g'' c'' L' := by
  have hs := hM.size
  have hs3 := hA.mod.size
  have hxl : x < w3.heap.size := (Array.getElem?_eq_some_iff.1 hG.box).1
  have hM34 : Mod (fun k => k = g) w3 w4 := (Mod.alloc (fun k => k = g) w3 o).trans hM4 (fun k hk => Or.inl hk)
  have hb4 : w4.heap[x]? = some (.cells #[.slice (some ⟨g, 0, none⟩) L.length c] 34 (0, 0)) := (hM34.block x hxl (fun e => hG.ne e.symm)).trans hG.box
  have hM5 : Mod (fun k => k = g ∨ k = x) w3 (w4.setCell ⟨x, 0, none⟩ (.slice (some ⟨g', 0, none⟩) (L.length + 1) c')) := (hM34.mono (fun k hk => Or.inl hk)).trans (Mod.setCell (S := fun k => k = g ∨ k = x) w4 _ _ (Or.inr rfl)) (fun k hk => Or.inl hk)
  have hg' : o1 g' = none ∧ o2 g' = none ∧ g' ≠ x := by
    rcases hor with rfl | h
    · exact ⟨hG.g1, hG.g2, hG.ne⟩
    · have := hP.new_own (k := g') (by omega)
      exact ⟨this.1, this.2, by omega⟩
  refine ⟨s', r', o1, o2, g', c', L ++ [ra], hP.mod hM5 ?_, hSt, ⟨?_, ?_, hG.x1, hG.x2, hg'.1, hg'.2.1, hg'.2.2, ?_⟩, by simp; omega, fun k hk => ?_, fun k hk => ?_, ?_, ?_⟩
  · rintro k (rfl | rfl)
    · exact ⟨hG.g1, hG.g2⟩
    · exact ⟨hG.x1, hG.x2⟩
  · rw [heap_setCell_at hb4]
    simp
  · have := hS.setCell ⟨x, 0, none⟩ (.slice (some ⟨g', 0, none⟩) (L.length + 1) c') (fun e => hg'.2.2 (Option.some.inj e))
    simpa [encA'] using this
  · intro a ha
    rcases List.mem_append.1 ha with h | h
    · exact hG.small a h
    · simp at h; omega
  · rcases hA.g1 k hk with h | h
    · exact Or.inl h
    · exact Or.inr (by omega)
  · rcases hA.g2 k hk with h | h
    · exact Or.inl h
    · exact Or.inr (by omega)
  · rcases hor with h | h
    · exact Or.inl h
    · exact Or.inr (by omega)
  · exact ((hM.mono (fun _ h => h.elim)).trans hA.mod (fun k hk => Or.inl (hk.elim Or.inl (fun h => Or.inr (Or.inl h))))).trans hM5 (fun k hk => Or.inl (by
      rcases hk with rfl | rfl
      · exact Or.inr (Or.inr (Or.inr rfl))
      · exact Or.inr (Or.inr (Or.inl rfl))))

set_option maxRecDepth 100000 in
set_option maxHeartbeats 4000000 in
theorem do_calls {w : World} {b1 b2 x g c : Nat} {s : SS} {r : RSS} {own1 : Nat → Option Rl} {own2 : Nat → Option Rr} {N : Nat} {L : List Nat} (hP : Pair w b1 s own1 b2 r own2) (hS : St s r N) (hG : Gt w x g c L own1 own2) (hN : N + 1 < 1048576) (hL : L.length ≤ N)
    (what of n : Int) (h_by : Nat) (hof1 : -9223372036854775808 ≤ of) (hof2 : of ≤ 9223372036854775807) (hn1 : -9223372036854775808 ≤ n) (hn2 : n ≤ 9223372036854775807) (hby : h_by < 18446744073709551616) :
    Calls Try.prog 11 #[.pointer (some ⟨b1, 0, none⟩), .pointer (some ⟨b2, 0, none⟩), .agg #[.int .i64 what, .int .i64 of, .int .i64 n, .int .u64 (h_by : Int)], .pointer (some ⟨x, 0, none⟩)] w
      fun e w' => e = .returned (.bool true) ∧ ∃ s' r' own1' own2' g' c' L', Done w b1 b2 x g own1 own2 N w' s' r' own1' own2' g' c' L' := by
  have HP : Hd _ := ⟨hP⟩
  have HS : Hd _ := ⟨hS⟩
  have HG : Hd _ := ⟨hG⟩
  have hcap := hG.row.le
  have hxl : x < w.heap.size := (Array.getElem?_eq_some_iff.1 hG.box).1
  have hgl : g < w.heap.size := hG.row.lt rfl
  clear hP hS hG
  go_enter Try.func11, Try.ntmps11
  go_upto_region 2 with fail
  obtain ⟨y, hy⟩ : ∃ y, w.heap.size = y := ⟨_, rfl⟩
  obtain ⟨w1, hw1⟩ : ∃ w1, w1 = w.alloc (.cells #[.int .i64 what, .int .i64 of, .int .i64 n, .int .u64 (h_by : Int)] 25) := ⟨_, rfl⟩
  have hM1 : Mod (fun _ => False) w w1 := by rw [hw1]; exact Mod.alloc _ _ _
  have hY1 : w1.heap[y]? = some (.cells #[.int .i64 what, .int .i64 of, .int .i64 n, .int .u64 (h_by : Int)] 25 (0, 0)) := by rw [hw1, ← hy]; exact heap_alloc_new _ _
  have HM1 : Hd _ := ⟨hM1⟩
  have HY1 : Hd _ := ⟨hY1⟩
  have HYS : Hd _ := ⟨hy⟩
  rw [← hw1, hy]
  have hG1 := HG.out.mod hM1
  have y1 : w1.cell? ⟨y, 1, none⟩ = some (.int .i64 of) := by simp [World.cell?, hY1]
  have x0 : w1.cell? ⟨x, 0, none⟩ = some (.slice (some ⟨g, 0, none⟩) L.length c) := by simp [World.cell?, hG1.box]
  clear hw1 hM1 hY1 hy hxl hgl
  have hLm : L.length < 1048576 := by omega
  go_cut [39] (fun v39 wc => v39 = .bool (decide (0 ≤ of ∧ of < (L.length : Int))) ∧ Hd (∃ m, wc = w1.drewN m))
  case first =>
    by_cases h0 : 0 ≤ of
    · have hd0 : decide (0 ≤ of) = true := decide_eq_true h0
      go_quiet (fail)
      go_wp2_with fail
      go_meet
      case rel => exact ⟨by simp [h0], ⟨_, rfl⟩⟩
    · have hd0 : decide (0 ≤ of) = false := decide_eq_false h0
      have hd1 : decide (0 ≤ of ∧ of < (L.length : Int)) = false := decide_eq_false (fun h => h0 h.1)
      go_quiet (fail)
      go_wp2_with fail
      go_meet
      case rel => exact ⟨by rw [hd1], ⟨_, rfl⟩⟩
  case rest =>
    obtain ⟨rfl, HDR⟩ := hcut
    obtain ⟨md, hmd⟩ := HDR.out
    have HR1 : Hd (Mod (fun _ => False) w wc) := ⟨by rw [hmd]; exact HM1.out.trans (Mod.drewN (fun _ => False) w1 md) (fun _ h => Or.inl h)⟩
    have HYC : Hd (wc.heap[y]? = some (.cells #[.int .i64 what, .int .i64 of, .int .i64 n, .int .u64 (h_by : Int)] 25 (0, 0))) := ⟨by rw [hmd]; exact HY1.out⟩
    clear hmd HDR y1 x0
    have y1 : wc.cell? ⟨y, 1, none⟩ = some (.int .i64 of) := by simp [World.cell?, HYC.out]
    have x0 : wc.cell? ⟨x, 0, none⟩ = some (.slice (some ⟨g, 0, none⟩) L.length c) := by simp [World.cell?, (HG.out.mod HR1.out).box]
    clear hLm
    go_upto_if 39 with fail
    go_cut [9] (fun v9 wx => ∃ a : Nat, v9 = .int .u64 (a : Int) ∧ a < 18446744073709551616 ∧ Hd (∃ m, wx = wc.drewN m))
    case first =>
      by_cases h0 : 0 ≤ of ∧ of < (L.length : Int)
      · obtain ⟨k, rfl⟩ := Int.eq_ofNat_of_zero_le h0.1
        have hk : k < L.length := by omega
        obtain ⟨z, hz⟩ : ∃ z, L[k]? = some z := ⟨_, List.getElem?_eq_getElem hk⟩
        have hzs := HG.out.small z (List.mem_of_getElem? hz)
        have z0 : wc.cell? ⟨g, k, none⟩ = some (.int .u64 (z : Int)) := (HG.out.mod HR1.out).row.cell rfl (by simp [encA', hz])
        have hwr : IntKind.u64.wrap ((h_by : Int) + (z : Int)) = (((h_by + z) % 18446744073709551616 : Nat) : Int) := by simp [IntKind.wrap, IntKind.bits, IntKind.signed]
        have hlt2 : (h_by + z) % 18446744073709551616 < 18446744073709551616 := Nat.mod_lt _ (by omega)
        generalize (h_by + z) % 18446744073709551616 = a at hwr hlt2
        have h0a : (0 : Int) ≤ (k : Int) := h0.1
        have hka : (k : Int) < (L.length : Int) := h0.2
        clear h0
        go_wp2_with fail
        go_quiet (fail)
        go_wp2_with fail
        go_meet
        case rel => exact ⟨a, by simp, hlt2, ⟨_, rfl⟩⟩
      · have hd : decide (0 ≤ of ∧ of < (L.length : Int)) = false := decide_eq_false h0
        rw [hd]
        clear h0
        go_wp2_with fail
        go_meet
        case rel => exact ⟨h_by, rfl, hby, ⟨0, rfl⟩⟩
    case rest =>
      clear x0 y1 hcap
      obtain ⟨a, rfl, ha, HDR⟩ := hcut
      obtain ⟨md, hmd⟩ := HDR.out
      have HMC : Hd (Mod (fun _ => False) w wc) := ⟨by rw [hmd]; exact HR1.out.trans (Mod.drewN (fun _ => False) _ md) (fun _ h => Or.inl h)⟩
      have HY2 : Hd (wc.heap[y]? = some (.cells #[.int .i64 what, .int .i64 of, .int .i64 n, .int .u64 (h_by : Int)] 25 (0, 0))) := ⟨by rw [hmd]; exact HYC.out⟩
      have HPC : Hd _ := ⟨HP.out.mod HMC.out (fun _ h => h.elim)⟩
      have HGC : Hd _ := ⟨HG.out.mod HMC.out⟩
      clear hmd HDR HR1 HYC HM1 HY1 hG1
      have y0 : wc.cell? ⟨y, 0, none⟩ = some (.int .i64 what) := by simp [World.cell?, HY2.out]
      have y2 : wc.cell? ⟨y, 2, none⟩ = some (.int .i64 n) := by simp [World.cell?, HY2.out]
      have HQ : Hd (∀ (w0 w' : World) o1 o2, w0.heap[y]? = wc.heap[y]? → Aft2 w0 own1 own2 w' o1 o2 → w'.cell? ⟨y, 2, none⟩ = some (.int .i64 n)) := ⟨fun w0 w' o1 o2 h0 hA => by
        have h1 := HP.out.new_own (k := y) (by rw [HYS.out]; exact Nat.le_refl _)
        have h0' := h0.trans HY2.out
        have h2 := (hA.keep (Array.getElem?_eq_some_iff.1 h0').1 h1.1 h1.2).1.trans h0'
        simp [World.cell?, h2]⟩
      by_cases e0 : what = 0
      · subst e0
        have hfe := (HS.out.sim.get HS.out.wf n).1
        obtain ⟨⟨ra, re⟩, hre⟩ : ∃ y, (r.get n).1 = y := ⟨_, rfl⟩
        have HLT : Hd (re = 0 → ra < 18446744073709551616) := ⟨fun h0 => get_lt HS.out hN n (by rw [hre, h0])⟩
        have HC1 : Hd _ := ⟨HPC.out.get1 HS.out.wf n⟩
        have HC2 : Hd (∀ w2 o1, Pair w2 b1 (s.get n).2 o1 b2 r own2 → _) := ⟨fun w2 o1 h => h.get2 HS.out hN n⟩
        rw [hfe, hre] at HC1
        rw [hre] at HC2
        clear hfe hre
        go_wp2_with fail
        refine HC1.out.mono ?_
        rintro e w2 ⟨rfl, o1, hP2, hA2⟩
        have HP2 : Hd _ := ⟨hP2⟩
        have HA2 : Hd _ := ⟨hA2⟩
        have y2' := HQ.out wc _ _ _ rfl hA2
        clear hP2 hA2 y0 y2
        go_wp2_with fail
        refine (HC2.out _ _ HP2.out).mono ?_
        rintro e w3 ⟨rfl, o2, hP3, hA3⟩
        have HP3 : Hd _ := ⟨hP3⟩
        have HA3 : Hd _ := ⟨HA2.out.trans hA3⟩
        have HG3 : Hd _ := ⟨HGC.out.aft HA3.out⟩
        clear hP3 hA3 y2'
        by_cases hre0 : re = 0
        · subst hre0
          have x0 : w3.cell? ⟨x, 0, none⟩ = some (.slice (some ⟨g, 0, none⟩) L.length c) := by simp [World.cell?, HG3.out.box]
          have hxl : x < w3.heap.size := (Array.getElem?_eq_some_iff.1 HG3.out.box).1
          have hcap := HG3.out.row.le
          obtain ⟨i0, hi0, hz0, hz1, hz2⟩ := info_parts Try.info23
          have HI0 : Hd _ := ⟨And.intro hi0 (And.intro hz0 (And.intro hz1 hz2))⟩
          clear hi0 hz0 hz1 hz2
          go_wp2_with (at_builtin; refine wpList_append_sl _ rfl (.tmp 72) (.tmp 74) 34 rfl 23 i0 (.int .u64 0) 1 8 Try.underlying34 HI0.out.1 HI0.out.2.1 HI0.out.2.2.1 HI0.out.2.2.2 rfl (by decide) (some g) L.length c (encA' L) rfl (HG3.out.row.alloc _) ⟨w3.heap.size, 0, none⟩ 1 1 [.int .u64 (ra : Int)] rfl rfl ?k1 (one_only _ rfl) (by decide) ?b1 ?b2 ?grow)
          case k1 => exact one_at (heap_alloc_new _ _)
          case b1 => unfold maxLen; omega
          case b2 => omega
          case grow =>
            intro g' c' w4 hS4 hor hM
            have X4 : Hd _ := ⟨done_app (o := .cells #[.int .u64 (ra : Int)] 23) HMC.out HG3.out HA3.out HP3.out (HS.out.get hN n) hL (HLT.out (by simp)) hS4 (by simpa using hor) (by simpa using hM)⟩
            have hb4 : w4.heap[x]? = some (.cells #[.slice (some ⟨g, 0, none⟩) L.length c] 34 (0, 0)) := by
              have hM' : Mod (fun k => k = g) (w3.alloc (.cells #[.int .u64 (ra : Int)] 23)) w4 := by simpa using hM
              rw [hM'.block x (by simp; omega) (fun e => HG3.out.ne e.symm), Below.heap_alloc _ _ _ hxl]
              exact HG3.out.box
            have x4 : w4.cell? ⟨x, 0, none⟩ = some (.slice (some ⟨g, 0, none⟩) L.length c) := by simp [World.cell?, hb4]
            have f4 : w4.frozen? ⟨x, 0, none⟩ = false := by simp [World.frozen?, hb4]
            clear hS4 hor hM hb4 x0 hxl
            go_wp2
            go_ret
            exact ⟨rfl, X4.out⟩
        · have hre1 : ¬ (re : Int) = 0 := by omega
          go_wp2
          go_ret
          exact ⟨rfl, done_of HMC.out HGC.out HA3.out HP3.out (HS.out.get hN n) hL⟩
      by_cases e1 : what = 1
      · subst e1
        clear e0
        have hfe := (HS.out.sim.free HS.out.wf a).1
        go_wp2_with fail
        refine (HPC.out.free_1 HS.out.wf a ha).mono ?_
        rintro e w2 ⟨rfl, o1, hP2, hA2⟩
        have HP2 : Hd _ := ⟨hP2⟩
        have HA2 : Hd _ := ⟨hA2⟩
        rw [hfe]
        clear hP2 hA2 hfe y0 y2
        go_wp2_with fail
        refine (HP2.out.free_2 HS.out.ok a ha).mono ?_
        rintro e w3 ⟨rfl, o2, hP3, hA3⟩
        have HP3 : Hd _ := ⟨hP3⟩
        have HA3 : Hd _ := ⟨HA2.out.trans hA3⟩
        clear hP3 hA3
        generalize (r.free1 a).1 = e1
        go_wp2
        go_ret
        exact ⟨rfl, done_of HMC.out HGC.out HA3.out HP3.out (HS.out.free hN a) hL⟩
      by_cases e2 : what = 2
      · subst e2
        clear e0 e1
        have hfe := HS.out.sim.load HS.out.wf a
        go_wp2_with fail
        refine (HPC.out.load1 HS.out.wf a ha).mono ?_
        rintro e w2 ⟨rfl, rfl⟩
        rw [hfe]
        clear hfe y0 y2
        go_wp2_with fail
        refine (HPC.out.load2 HS.out.ok a ha).mono ?_
        rintro e w3 ⟨rfl, hP3, hA3⟩
        have HP3 : Hd _ := ⟨hP3⟩
        have HA3 : Hd _ := ⟨hA3⟩
        clear hP3 hA3
        generalize (r.load a).1 = v1
        generalize (r.load a).2 = v2
        go_wp2
        go_ret
        exact ⟨rfl, done_of HMC.out HGC.out HA3.out HP3.out (HS.out.mono (Nat.le_succ N) hN) hL⟩
      by_cases e3 : what = 3
      · subst e3
        clear e0 e1 e2
        have hfe := (HS.out.sim.set HS.out.wf a (n, true)).1
        have HFE : Hd _ := ⟨hfe⟩
        clear hfe
        have HPD : Hd _ := ⟨HPC.out.mod (Mod.drew (fun _ => False) wc) (fun _ h => h.elim)⟩
        have HMD : Hd _ := ⟨HMC.out.trans (Mod.drew (fun _ => False) wc) (fun _ h => Or.inl h)⟩
        have HGD : Hd _ := ⟨HGC.out.mod (Mod.drew (fun _ => False) wc)⟩
        obtain ⟨e1, he1⟩ : ∃ e1, (r.set a (n, true)).1 = e1 := ⟨_, rfl⟩
        have HC1 : Hd _ := ⟨HPD.out.store1 HS.out.wf a ha n⟩
        have HC2 : Hd (∀ w2, Pair w2 b1 (s.set a (n, true)).2 own1 b2 r own2 → _) := ⟨fun w2 h => h.store2 HS.out.ok a ha n⟩
        rw [HFE.out, he1] at HC1
        rw [he1] at HC2
        clear he1
        go_upto_region 18 with fail
        clear y0
        go_region_with (first | (go_at_call 16; refine HC1.out.mono ?_; rintro e w2 ⟨rfl, hP2, hA2⟩; have HP2 : Hd _ := ⟨hP2⟩; have HA2 : Hd _ := ⟨hA2⟩; have y2' := HQ.out wc.drew _ _ _ rfl hA2; clear hP2 hA2) | (go_at_call 28; refine (HC2.out _ HP2.out).mono ?_; rintro e w3 ⟨rfl, hP3, hA3⟩; have HP3 : Hd _ := ⟨hP3⟩; have HA3 : Hd _ := ⟨HA2.out.trans hA3⟩; clear hP3 hA3))
        all_goals (go_wp2; go_ret; exact ⟨rfl, done_of HMD.out HGD.out HA3.out HP3.out (HS.out.set hN a (n, true)) hL⟩)
      by_cases e4 : what = 4
      · subst e4
        clear e0 e1 e2 e3
        have hfe := (HS.out.sim.set HS.out.wf a (0, false)).1
        go_wp2_with fail
        refine (HPC.out.blank1 HS.out.wf a ha).mono ?_
        rintro e w2 ⟨rfl, hP2, hA2⟩
        have HP2 : Hd _ := ⟨hP2⟩
        have HA2 : Hd _ := ⟨hA2⟩
        rw [hfe]
        clear hP2 hA2 hfe y0 y2
        go_wp2_with fail
        refine (HP2.out.blank2 HS.out.ok a ha).mono ?_
        rintro e w3 ⟨rfl, hP3, hA3⟩
        have HP3 : Hd _ := ⟨hP3⟩
        have HA3 : Hd _ := ⟨HA2.out.trans hA3⟩
        clear hP3 hA3
        generalize (r.set a (0, false)).1 = e1
        go_wp2
        go_ret
        exact ⟨rfl, done_of HMC.out HGC.out HA3.out HP3.out (HS.out.set hN a (0, false)) hL⟩
      by_cases e5 : what = 5
      · subst e5
        clear e0 e1 e2 e3 e4
        have hfe := HS.out.sim.off HS.out.wf a n
        go_wp2_with fail
        refine (HPC.out.off1 HS.out.wf a ha n).mono ?_
        rintro e w2 ⟨rfl, rfl⟩
        rw [hfe]
        clear hfe y0
        go_wp2_with fail
        refine (HPC.out.off2 HS.out.ok a ha n hn1 hn2).mono ?_
        rintro e w3 ⟨rfl, hP3, hA3⟩
        have HP3 : Hd _ := ⟨hP3⟩
        have HA3 : Hd _ := ⟨hA3⟩
        clear hP3 hA3
        generalize (r.off a n).1 = v1
        generalize (r.off a n).2 = v2
        go_wp2
        go_ret
        exact ⟨rfl, done_of HMC.out HGC.out HA3.out HP3.out (HS.out.mono (Nat.le_succ N) hN) hL⟩
      by_cases e6 : what = 6
      · subst e6
        clear e0 e1 e2 e3 e4 e5
        have hfe := HS.out.sim.size HS.out.wf a
        go_wp2_with fail
        refine (HPC.out.size1 HS.out.wf a ha).mono ?_
        rintro e w2 ⟨rfl, rfl⟩
        rw [hfe]
        clear hfe y0
        go_wp2_with fail
        refine (HPC.out.size2 HS.out.ok a ha).mono ?_
        rintro e w3 ⟨rfl, hP3, hA3⟩
        have HP3 : Hd _ := ⟨hP3⟩
        have HA3 : Hd _ := ⟨hA3⟩
        clear hP3 hA3
        generalize (r.size a).1 = v1
        generalize (r.size a).2 = v2
        go_wp2
        go_ret
        exact ⟨rfl, done_of HMC.out HGC.out HA3.out HP3.out (HS.out.mono (Nat.le_succ N) hN) hL⟩
      go_wp2
      go_ret
      exact ⟨rfl, done_of HMC.out HGC.out (Aft2.refl _ _ _) HPC.out (HS.out.mono (Nat.le_succ N) hN) hL⟩
end Go.Proofs.Ytpgoogjaoffdoaa
