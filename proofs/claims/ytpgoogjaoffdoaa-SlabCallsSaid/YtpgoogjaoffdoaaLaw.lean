/- What a law's walk needs of a slab's calls: what they leave alone of the blocks that the slab does not own. -/
import Derived.Test.YtpgoogjaoffdoaaAlive
namespace Go.Proofs.Ytpgoogjaoffdoaa
set_option linter.unusedVariables false
set_option linter.unusedSimpArgs false
open Go.RowKit

theorem alive_calls (W : World) : Calls Try.prog 8 #[] W fun e w' => e = .returned (.bool true) ∧ Below W.heap.size W w' := callsIn_wide.1 (alive_in W)

/-- Blocks that the slab does not own are as they were, and are not its own. -/
structure Aft (w : World) (own : Nat → Option Rl) (w' : World) (own' : Nat → Option Rl) : Prop where
  size : w.heap.size ≤ w'.heap.size
  keep : ∀ k, k < w.heap.size → own k = none → w'.heap[k]? = w.heap[k]? ∧ own' k = none

structure E1 (W w : World) (b : Nat) (s : SS) (own : Nat → Option Rl) : Prop where
  rep : Rep w b s own
  old : ∀ k, own k ≠ none → W.heap.size ≤ k
  below : Below W.heap.size W w

/-- A row of the call's own. -/
structure Lst (W w : World) (own : Nat → Option Rl) (e size : Nat) (og : Option Nat) (n c : Nat) (xs : List Value) : Prop where
  sl : Sl w e size og n c xs
  mine : ∀ g, og = some g → own g = none ∧ W.heap.size ≤ g

section
variable {W w w' : World} {b : Nat} {s s' : SS} {own own' : Nat → Option Rl} {N : Nat} {e size : Nat} {og : Option Nat} {n c : Nat} {xs : List Value}

theorem Lst.nilOf (W w : World) (own : Nat → Option Rl) (e size : Nat) : Lst W w own e size none 0 0 [] := ⟨Sl.nilOf _ _ _, fun _ h => by cases h⟩

theorem Lst.aft (h : Lst W w own e size og n c xs) (ha : Aft w own w' own') : Lst W w' own' e size og n c xs :=
  ⟨h.sl.keep fun g hg => (ha.keep g (h.sl.lt hg) (h.mine g hg).1).1, fun g hg => ⟨(ha.keep g (h.sl.lt hg) (h.mine g hg).1).2, (h.mine g hg).2⟩⟩

theorem E1.call (h : E1 W w b s own) (hc : CallPost w b own s' w') : ∃ own', E1 W w' b s' own' ∧ Aft w own w' own' := by
  obtain ⟨own', hr, he, hM⟩ := hc
  have hWw := h.below.size
  refine ⟨own', ⟨hr, ?_, ?_⟩, hM.size, ?_⟩
  · intro k hk
    rcases he k hk with h1 | h1
    · exact h.old k h1
    · omega
  · exact h.below.trans (hM.below (by omega) fun k hk hd => by have := h.old k hd; omega)
  · intro k hk ho
    refine ⟨hM.block k hk (fun hd => hd ho), ?_⟩
    by_cases e : own' k = none
    · exact e
    · rcases he k e with h1 | h1
      · exact absurd ho h1
      · omega

theorem E1.call' (h : E1 W w b s own) (hr : Rep w' b s' own) (hM : Mod (Dom own) w w') : E1 W w' b s' own ∧ Aft w own w' own := by
  have hWw := h.below.size
  exact ⟨⟨hr, h.old, h.below.trans (hM.below (by omega) fun k hk hd => by have := h.old k hd; omega)⟩, hM.size, fun k hk ho => ⟨hM.block k hk (fun hd => hd ho), ho⟩⟩

/-- A turn of what the slab does not own. -/
theorem E1.mod {S : Nat → Prop} (h : E1 W w b s own) (hM : Mod S w w') (hS : ∀ k, S k → own k = none ∧ W.heap.size ≤ k) : E1 W w' b s own := by
  have hWw := h.below.size
  exact ⟨h.rep.keep hM.size fun k hk => hM.block k (h.rep.dom k hk) (fun hs => hk (hS k hs).1), h.old, h.below.trans (hM.below (by omega) fun k hk hd => by have := (hS k hd).2; omega)⟩

theorem E1.new_own (h : E1 W w b s own) {k : Nat} (hk : w.heap.size ≤ k) : own k = none ∧ W.heap.size ≤ k := by
  have hWw := h.below.size
  refine ⟨?_, by omega⟩
  by_cases e : own k = none
  · exact e
  · have := h.rep.dom k e; omega

/-- An append to a row of the call's own. -/
theorem E1.append (h : E1 W w b s own) (hl : Lst W w own e size og n c xs) {g' m c' : Nat} {ys : List Value} (hs : Sl w' e size (some g') m c' ys) (hg : some g' = og ∨ w.heap.size ≤ g') (hM : Mod (fun k => some k = og) w w') :
    E1 W w' b s own ∧ Lst W w' own e size (some g') m c' ys := by
  refine ⟨h.mod hM fun k hk => hl.mine k hk.symm, hs, fun g hgg => ?_⟩
  obtain rfl := Option.some.inj hgg
  rcases hg with hg | hg
  · exact hl.mine _ hg.symm
  · exact h.new_own hg

theorem new1 (n : Int) (h0 : 0 ≤ n) (h1 : n ≤ 16384) (w : World) (hW : Below W.heap.size W w) :
    Calls Try.prog 9 #[.int .i64 n] w fun e w' => e = .returned (.tuple #[.pointer (some ⟨w.heap.size, 0, none⟩), .int .i64 0]) ∧ ∃ own', E1 W w' w.heap.size ⟨n.toNat, 0, 0, [], []⟩ own' ∧ Aft w (fun _ => none) w' own' := by
  refine (new_calls n w).mono ?_
  intro e w' h
  rw [if_neg (by omega)] at h
  obtain ⟨rfl, hM, hlt, hrep⟩ := h
  have hs := hW.size
  refine ⟨rfl, _, ⟨hrep, ?_, hW.trans (hM.below (by omega) (fun k _ h => h))⟩, hM.size, ?_⟩
  · intro k hk
    by_cases e : k = w.heap.size
    · omega
    · simp [e] at hk
  · intro k hk _
    exact ⟨hM.block k hk (fun h => h), by rw [if_neg (by omega)]⟩

theorem E1.get_c (h : E1 W w b s own) (hW : s.WF N) (n : Int) {a e : Nat} {s' : SS} (he : s.get n = ((a, e), s')) :
    Calls Try.prog 15 #[.pointer (some ⟨b, 0, none⟩), .int .i64 n] w fun x w' => x = .returned (.tuple #[.int .u64 (a : Int), .int .i64 (e : Int)]) ∧ ∃ own', E1 W w' b s' own' ∧ Aft w own w' own' := by
  obtain ⟨L, hr⟩ := h.rep
  have := get_calls hr hW n
  rw [he] at this
  exact this.mono fun x w' ⟨hx, hc⟩ => ⟨hx, h.call hc⟩

theorem E1.free_c (h : E1 W w b s own) (hW : s.WF N) (a : Nat) (ha : a < 18446744073709551616) {e : Nat} {s' : SS} (he : s.free1 a = (e, s')) :
    Calls Try.prog 17 #[.pointer (some ⟨b, 0, none⟩), .int .u64 (a : Int)] w fun x w' => x = .returned (.int .i64 (e : Int)) ∧ ∃ own', E1 W w' b s' own' ∧ Aft w own w' own' := by
  obtain ⟨L, hr⟩ := h.rep
  have := free_calls hr hW a ha
  rw [he] at this
  exact this.mono fun x w' ⟨y, hx, hy, hc⟩ => ⟨by rw [hx, hy], h.call hc⟩

theorem E1.store_c (h : E1 W w b s own) (hW : s.WF N) (a : Nat) (ha : a < 18446744073709551616) (v : Int) {e : Nat} {s' : SS} (he : s.set a (v, true) = (e, s')) :
    Calls Try.prog 16 #[.pointer (some ⟨b, 0, none⟩), .int .u64 (a : Int), .int .i64 v] w fun x w' => x = .returned (.int .i64 (e : Int)) ∧ E1 W w' b s' own ∧ Aft w own w' own := by
  obtain ⟨L, hr⟩ := h.rep
  have := store_calls hr hW a ha v
  rw [he] at this
  exact this.mono fun x w' ⟨y, hx, hy, hc⟩ => ⟨by rw [hx, hy], h.call' hc.1 hc.2⟩

theorem E1.blank_c (h : E1 W w b s own) (hW : s.WF N) (a : Nat) (ha : a < 18446744073709551616) {e : Nat} {s' : SS} (he : s.set a (0, false) = (e, s')) :
    Calls Try.prog 21 #[.pointer (some ⟨b, 0, none⟩), .int .u64 (a : Int)] w fun x w' => x = .returned (.int .i64 (e : Int)) ∧ E1 W w' b s' own ∧ Aft w own w' own := by
  obtain ⟨L, hr⟩ := h.rep
  have := blank_calls hr hW a ha
  rw [he] at this
  exact this.mono fun x w' ⟨y, hx, hy, hc⟩ => ⟨by rw [hx, hy], h.call' hc.1 hc.2⟩

theorem E1.load_c (h : E1 W w b s own) (hW : s.WF N) (a : Nat) (ha : a < 18446744073709551616) {e : Nat} {v : Int} (he : s.load a = (v, e)) :
    Calls Try.prog 18 #[.pointer (some ⟨b, 0, none⟩), .int .u64 (a : Int)] w fun x w' => x = .returned (.tuple #[.int .i64 v, .int .i64 (e : Int)]) ∧ w = w' := by
  obtain ⟨L, hr⟩ := h.rep
  have := load_calls hr hW a ha
  rw [he] at this
  exact this.mono fun x w' ⟨hx, hw⟩ => ⟨hx, hw.symm⟩

theorem E1.size_c (h : E1 W w b s own) (hW : s.WF N) (a : Nat) (ha : a < 18446744073709551616) {e n : Nat} (he : s.size a = (n, e)) :
    Calls Try.prog 23 #[.pointer (some ⟨b, 0, none⟩), .int .u64 (a : Int)] w fun x w' => x = .returned (.tuple #[.int .i64 (n : Int), .int .i64 (e : Int)]) ∧ w = w' := by
  obtain ⟨L, hr⟩ := h.rep
  have := size_calls hr hW a ha
  rw [he] at this
  exact this.mono fun x w' ⟨hx, hw⟩ => ⟨hx, hw.symm⟩

theorem E1.off_c (h : E1 W w b s own) (hW : s.WF N) (a : Nat) (ha : a < 18446744073709551616) (n : Int) {e d : Nat} (he : s.off a n = (d, e)) :
    Calls Try.prog 20 #[.pointer (some ⟨b, 0, none⟩), .int .u64 (a : Int), .int .i64 n] w fun x w' => x = .returned (.tuple #[.int .u64 (d : Int), .int .i64 (e : Int)]) ∧ w = w' := by
  obtain ⟨L, hr⟩ := h.rep
  have := off_calls hr hW a ha n
  rw [he] at this
  exact this.mono fun x w' ⟨hx, hw⟩ => ⟨hx, hw.symm⟩

theorem E1.live_c (h : E1 W w b s own) : Calls Try.prog 19 #[.pointer (some ⟨b, 0, none⟩)] w fun x w' => x = .returned (.int .i64 (s.live : Int)) ∧ w = w' := by
  obtain ⟨L, hr⟩ := h.rep
  exact (live_calls hr).mono fun x w' ⟨hx, hw⟩ => ⟨hx, hw.symm⟩

theorem E1.used_c (h : E1 W w b s own) : Calls Try.prog 22 #[.pointer (some ⟨b, 0, none⟩)] w fun x w' => x = .returned (.int .i64 (s.used : Int)) ∧ w = w' := by
  obtain ⟨L, hr⟩ := h.rep
  exact (used_calls hr).mono fun x w' ⟨hx, hw⟩ => ⟨hx, hw.symm⟩
end
end Go.Proofs.Ytpgoogjaoffdoaa
