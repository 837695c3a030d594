/- A world with a slab in it, beside it boxes of one cell, and other slabs: what each call leaves of it. -/
import Derived.Test.YtpgoogjaoffdoaaAll
import Derived.Test.YtpgoogjaoffdoaaP
namespace Go.Proofs.Ytpgoogjaoffdoaa
set_option linter.unusedVariables false
set_option linter.unusedSimpArgs false
open Go.RowKit

structure Env (W w : World) (b : Nat) (s : SS) (own : Nat → Option Rl) (Bs : List (Nat × Value × TypeId)) (Os : List (Nat × SS × (Nat → Option Rl))) : Prop where
  rep : Rep w b s own
  old : ∀ k, own k ≠ none → W.heap.size ≤ k
  box : ∀ x ∈ Bs, w.heap[x.1]? = some (.cells #[x.2.1] x.2.2 (0, 0)) ∧ own x.1 = none ∧ W.heap.size ≤ x.1 ∧ ∀ o ∈ Os, o.2.2 x.1 = none
  oth : ∀ o ∈ Os, Rep w o.1 o.2.1 o.2.2 ∧ ∀ k, o.2.2 k ≠ none → own k = none ∧ W.heap.size ≤ k
  below : Below W.heap.size W w

theorem Rep.dom {w : World} {b : Nat} {s : SS} {own : Nat → Option Rl} (h : Rep w b s own) : ∀ k, own k ≠ none → k < w.heap.size := let ⟨_, h⟩ := h; h.dom

section
variable {W w : World} {b : Nat} {s : SS} {own : Nat → Option Rl} {Bs : List (Nat × Value × TypeId)} {Os : List (Nat × SS × (Nat → Option Rl))}

theorem Env.lt (h : Env W w b s own Bs Os) {x : Nat × Value × TypeId} (hx : x ∈ Bs) : x.1 < w.heap.size := (Array.getElem?_eq_some_iff.1 (h.box x hx).1).1

/-- A call on the slab. -/
theorem Env.call (h : Env W w b s own Bs Os) {s' : SS} {w' : World} (hc : CallPost w b own s' w') : ∃ own', Env W w' b s' own' Bs Os := by
  obtain ⟨own', hr, he, hM⟩ := hc
  have hWw := h.below.size
  have hnew : ∀ k, k < w.heap.size → own k = none → own' k = none := fun k hk ho => by
    by_cases e : own' k = none
    · exact e
    · rcases he k e with h1 | h1
      · exact absurd ho h1
      · omega
  refine ⟨own', hr, ?_, ?_, ?_, ?_⟩
  · intro k hk
    rcases he k hk with h1 | h1
    · exact h.old k h1
    · omega
  · intro x hx
    obtain ⟨h1, h2, h3, h4⟩ := h.box x hx
    exact ⟨(hM.block x.1 (h.lt hx) (fun hd => hd h2)).trans h1, hnew _ (h.lt hx) h2, h3, h4⟩
  · intro o ho
    obtain ⟨h1, h2⟩ := h.oth o ho
    exact ⟨h1.keep hM.size fun k hk => hM.block k (h1.dom k hk) (fun hd => hd (h2 k hk).1), fun k hk => ⟨hnew k (h1.dom k hk) (h2 k hk).1, (h2 k hk).2⟩⟩
  · exact h.below.trans (hM.below (by omega) fun k hk hd => by have := h.old k hd; omega)

theorem Env.call' (h : Env W w b s own Bs Os) {s' : SS} {w' : World} (hr : Rep w' b s' own) (hM : Mod (Dom own) w w') : Env W w' b s' own Bs Os := by
  have hWw := h.below.size
  refine ⟨hr, h.old, ?_, ?_, ?_⟩
  · intro x hx
    obtain ⟨h1, h2, h3, h4⟩ := h.box x hx
    exact ⟨(hM.block x.1 (h.lt hx) (fun hd => hd h2)).trans h1, h2, h3, h4⟩
  · intro o ho
    obtain ⟨h1, h2⟩ := h.oth o ho
    exact ⟨h1.keep hM.size fun k hk => hM.block k (h1.dom k hk) (fun hd => hd (h2 k hk).1), h2⟩
  · exact h.below.trans (hM.below (by omega) fun k hk hd => by have := h.old k hd; omega)

/-- Nothing that was there has turned. -/
theorem Env.keep (h : Env W w b s own Bs Os) {w' : World} (hM : Mod (fun _ => False) w w') : Env W w' b s own Bs Os := by
  have hWw := h.below.size
  refine ⟨h.rep.keep hM.size fun k hk => hM.block k (h.rep.dom k hk) (fun h => h), h.old, ?_, ?_, ?_⟩
  · intro x hx
    obtain ⟨h1, h2, h3, h4⟩ := h.box x hx
    exact ⟨(hM.block x.1 (h.lt hx) (fun h => h)).trans h1, h2, h3, h4⟩
  · intro o ho
    obtain ⟨h1, h2⟩ := h.oth o ho
    exact ⟨h1.keep hM.size fun k hk => hM.block k (h1.dom k hk) (fun h => h), h2⟩
  · exact h.below.trans (hM.below (by omega) fun k hk h => h)

theorem Env.alloc (h : Env W w b s own Bs Os) (v : Value) (t : TypeId) : Env W (w.alloc (.cells #[v] t)) b s own ((w.heap.size, v, t) :: Bs) Os := by
  have h' := h.keep (Mod.alloc (fun _ => False) w (.cells #[v] t))
  have hWw := h.below.size
  refine ⟨h'.rep, h'.old, ?_, h'.oth, h'.below⟩
  intro x hx
  simp only [List.mem_cons] at hx
  rcases hx with rfl | hx
  · refine ⟨heap_alloc_new w _, ?_, hWw, fun o ho => ?_⟩
    · by_cases e : own w.heap.size = none
      · exact e
      · have := h.rep.dom _ e; omega
    · by_cases e : o.2.2 w.heap.size = none
      · exact e
      · have := (h.oth o ho).1.dom _ e; omega
  · exact h'.box x hx

theorem Env.drop (h : Env W w b s own Bs Os) {Bs' : List (Nat × Value × TypeId)} (hs : ∀ x ∈ Bs', x ∈ Bs) : Env W w b s own Bs' Os :=
  ⟨h.rep, h.old, fun x hx => h.box x (hs x hx), h.oth, h.below⟩

theorem Env.dropO (h : Env W w b s own Bs Os) {Os' : List (Nat × SS × (Nat → Option Rl))} (hs : ∀ x ∈ Os', x ∈ Os) : Env W w b s own Bs Os' :=
  ⟨h.rep, h.old, fun x hx => ⟨(h.box x hx).1, (h.box x hx).2.1, (h.box x hx).2.2.1, fun o ho => (h.box x hx).2.2.2 o (hs o ho)⟩, fun o ho => h.oth o (hs o ho), h.below⟩

/-- A store into a box. -/
theorem Env.setBox {x : Nat} {v : Value} {t : TypeId} (h : Env W w b s own ((x, v, t) :: Bs) Os) (u : Value) (hne : ∀ y ∈ Bs, y.1 ≠ x) : Env W (w.setCell ⟨x, 0, none⟩ u) b s own ((x, u, t) :: Bs) Os := by
  obtain ⟨h1, h2, h3, h4⟩ := h.box (x, v, t) (by simp)
  have hk : ∀ k, k ≠ x → (w.setCell ⟨x, 0, none⟩ u).heap[k]? = w.heap[k]? := fun k hk => Below.heap_setCell _ _ _ _ hk
  refine ⟨h.rep.keep (by simp) fun k hk' => hk k (fun e => hk' (e ▸ h2)), h.old, ?_, ?_, h.below.setCell h3 u⟩
  · intro y hy
    simp only [List.mem_cons] at hy
    rcases hy with rfl | hy
    · exact ⟨by rw [heap_setCell_at h1]; rfl, h2, h3, h4⟩
    · obtain ⟨g1, g2, g3, g4⟩ := h.box y (by simp [hy])
      exact ⟨(hk _ (hne y hy)).trans g1, g2, g3, g4⟩
  · intro o ho
    obtain ⟨g1, g2⟩ := h.oth o ho
    exact ⟨g1.keep (by simp) fun k hk' => hk k (fun e => hk' (e ▸ h4 o ho)), g2⟩

/-- The other slab comes to the front. -/
theorem Env.swap {b2 : Nat} {s2 : SS} {own2 : Nat → Option Rl} (h : Env W w b s own Bs ((b2, s2, own2) :: Os)) (hd : ∀ o ∈ Os, ∀ k, o.2.2 k ≠ none → own2 k = none) : Env W w b2 s2 own2 Bs ((b, s, own) :: Os) := by
  obtain ⟨h1, h2⟩ := h.oth (b2, s2, own2) (by simp)
  refine ⟨h1, fun k hk => (h2 k hk).2, ?_, ?_, h.below⟩
  · intro x hx
    obtain ⟨g1, g2, g3, g4⟩ := h.box x hx
    refine ⟨g1, g4 (b2, s2, own2) (by simp), g3, fun o ho => ?_⟩
    simp only [List.mem_cons] at ho
    rcases ho with rfl | ho
    · exact g2
    · exact g4 o (by simp [ho])
  · intro o ho
    simp only [List.mem_cons] at ho
    rcases ho with rfl | ho
    · refine ⟨h.rep, fun k hk => ⟨?_, h.old k hk⟩⟩
      by_cases e : own2 k = none
      · exact e
      · exact absurd (h2 k e).1 hk
    · obtain ⟨g1, g2⟩ := h.oth o (by simp [ho])
      exact ⟨g1, fun k hk => ⟨hd o ho k hk, (g2 k hk).2⟩⟩

/-- A clone comes to the others. -/
theorem Env.clone (h : Env W w b s own Bs Os) {w' : World} {sc : SS} (hn : NewRep w sc w') : ∃ own2, Env W w' b s own Bs ((w.heap.size, sc, own2) :: Os) ∧ ∀ o ∈ Os, ∀ k, o.2.2 k ≠ none → own2 k = none := by
  obtain ⟨own2, hr, hge, hM, hlt⟩ := hn
  have h' := h.keep hM
  have hWw := h.below.size
  have hz : ∀ k, k < w.heap.size → own2 k = none := fun k hk => by
    by_cases e : own2 k = none
    · exact e
    · have := hge k e; omega
  refine ⟨own2, ⟨h'.rep, h'.old, ?_, ?_, h'.below⟩, fun o ho k hk => hz k ((h.oth o ho).1.dom k hk)⟩
  · intro x hx
    obtain ⟨g1, g2, g3, g4⟩ := h'.box x hx
    refine ⟨g1, g2, g3, fun o ho => ?_⟩
    simp only [List.mem_cons] at ho
    rcases ho with rfl | ho
    · exact hz _ (h.lt hx)
    · exact g4 o ho
  · intro o ho
    simp only [List.mem_cons] at ho
    rcases ho with rfl | ho
    · refine ⟨hr, fun k hk => ⟨?_, by have := hge k hk; omega⟩⟩
      by_cases e : own k = none
      · exact e
      · have := h.rep.dom k e; have := hge k hk; omega
    · exact h'.oth o ho

/-- The cell of a box. -/
theorem Env.cell (h : Env W w b s own Bs Os) {x : Nat} {v : Value} {t : TypeId} (hx : (x, v, t) ∈ Bs) : w.cell? ⟨x, 0, none⟩ = some v ∧ w.frozen? ⟨x, 0, none⟩ = false := by
  have := (h.box _ hx).1
  exact ⟨by simp [World.cell?, this], by simp [World.frozen?, this]⟩

/-- Behind a turn of a block beyond all of these. -/
theorem Env.grown (h : Env W w b s own Bs Os) {w' : World} {row : Option Nat} (hg : w.grownBy w' row) (hr : ∀ r, row = some r → W.heap.size ≤ r ∧ own r = none ∧ (∀ x ∈ Bs, x.1 ≠ r) ∧ ∀ o ∈ Os, o.2.2 r = none) : Env W w' b s own Bs Os := by
  have hblk : ∀ k, k < w.heap.size → (∀ r, row = some r → k ≠ r) → w'.heap[k]? = w.heap[k]? := fun k hk hne => hg.block k hk (fun e => hne k e.symm rfl)
  refine ⟨h.rep.keep hg.size fun k hk => hblk k (h.rep.dom k hk) (fun r e e2 => hk (e2 ▸ (hr r e).2.1)), h.old, ?_, ?_, h.below.grown hg h.below.size (fun k e => (hr k e).1)⟩
  · intro x hx
    obtain ⟨h1, h2, h3, h4⟩ := h.box x hx
    exact ⟨(hblk x.1 (h.lt hx) (fun r e => (hr r e).2.2.1 x hx)).trans h1, h2, h3, h4⟩
  · intro o ho
    obtain ⟨h1, h2⟩ := h.oth o ho
    exact ⟨h1.keep hg.size fun k hk => hblk k (h1.dom k hk) (fun r e e2 => hk (e2 ▸ (hr r e).2.2.2 o ho)), h2⟩

/-! ### The calls, over an Env -/
variable {N : Nat}
theorem Env.new_c (w : World) (n : Int) (h0 : 0 ≤ n) (h1 : n ≤ 16384) (hW : Below W.heap.size W w) (hBs : ∀ x ∈ Bs, w.heap[x.1]? = some (.cells #[x.2.1] x.2.2 (0, 0)) ∧ W.heap.size ≤ x.1) :
    Calls Try.prog 9 #[.int .i64 n] w fun e w' => e = .returned (.tuple #[.pointer (some ⟨w.heap.size, 0, none⟩), .int .i64 0]) ∧ ∃ own', Env W w' w.heap.size ⟨n.toNat, 0, 0, [], []⟩ own' Bs [] := by
  refine (new_calls n w).mono ?_
  intro e w' h
  rw [if_neg (by omega)] at h
  obtain ⟨rfl, hM, hlt, hrep⟩ := h
  have hs := hW.size
  refine ⟨rfl, _, hrep, ?_, ?_, fun o ho => by simp at ho, hW.trans (hM.below (by omega) (fun k _ h => h))⟩
  · intro k hk
    by_cases e : k = w.heap.size
    · omega
    · simp [e] at hk
  · intro x hx
    obtain ⟨g1, g2⟩ := hBs x hx
    have hxl := (Array.getElem?_eq_some_iff.1 g1).1
    exact ⟨(hM.block _ hxl (fun h => h)).trans g1, by rw [if_neg (by omega)], g2, fun o ho => by simp at ho⟩

theorem Env.get_c (h : Env W w b s own Bs Os) (hW : s.WF N) (n : Int) {a e : Nat} {s' : SS} (he : s.get n = ((a, e), s')) :
    Calls Try.prog 15 #[.pointer (some ⟨b, 0, none⟩), .int .i64 n] w fun x w' => x = .returned (.tuple #[.int .u64 (a : Int), .int .i64 (e : Int)]) ∧ ∃ own', Env W w' b s' own' Bs Os := by
  obtain ⟨L, hr⟩ := h.rep
  have := get_calls hr hW n
  rw [he] at this
  exact this.mono fun x w' ⟨hx, hc⟩ => ⟨hx, h.call hc⟩

theorem Env.free_c (h : Env W w b s own Bs Os) (hW : s.WF N) (a : Nat) (ha : a < 18446744073709551616) {e : Nat} {s' : SS} (he : s.free1 a = (e, s')) :
    Calls Try.prog 17 #[.pointer (some ⟨b, 0, none⟩), .int .u64 (a : Int)] w fun x w' => x = .returned (.int .i64 (e : Int)) ∧ ∃ own', Env W w' b s' own' Bs Os := by
  obtain ⟨L, hr⟩ := h.rep
  have := free_calls hr hW a ha
  rw [he] at this
  exact this.mono fun x w' ⟨y, hx, hy, hc⟩ => ⟨by rw [hx, hy], h.call hc⟩

theorem Env.store_c (h : Env W w b s own Bs Os) (hW : s.WF N) (a : Nat) (ha : a < 18446744073709551616) (v : Int) {e : Nat} {s' : SS} (he : s.set a (v, true) = (e, s')) :
    Calls Try.prog 16 #[.pointer (some ⟨b, 0, none⟩), .int .u64 (a : Int), .int .i64 v] w fun x w' => x = .returned (.int .i64 (e : Int)) ∧ Env W w' b s' own Bs Os := by
  obtain ⟨L, hr⟩ := h.rep
  have := store_calls hr hW a ha v
  rw [he] at this
  exact this.mono fun x w' ⟨y, hx, hy, hc⟩ => ⟨by rw [hx, hy], h.call' hc.1 hc.2⟩

theorem Env.blank_c (h : Env W w b s own Bs Os) (hW : s.WF N) (a : Nat) (ha : a < 18446744073709551616) {e : Nat} {s' : SS} (he : s.set a (0, false) = (e, s')) :
    Calls Try.prog 21 #[.pointer (some ⟨b, 0, none⟩), .int .u64 (a : Int)] w fun x w' => x = .returned (.int .i64 (e : Int)) ∧ Env W w' b s' own Bs Os := by
  obtain ⟨L, hr⟩ := h.rep
  have := blank_calls hr hW a ha
  rw [he] at this
  exact this.mono fun x w' ⟨y, hx, hy, hc⟩ => ⟨by rw [hx, hy], h.call' hc.1 hc.2⟩

theorem Env.blank_m (h : Env W w b s own Bs Os) (hW : s.WF N) (a : Nat) (ha : a < 18446744073709551616) {e : Nat} {s' : SS} (he : s.set a (0, false) = (e, s')) :
    Calls Try.prog 21 #[.pointer (some ⟨b, 0, none⟩), .int .u64 (a : Int)] w fun x w' => x = .returned (.int .i64 (e : Int)) ∧ Env W w' b s' own Bs Os ∧ Mod (Dom own) w w' := by
  obtain ⟨L, hr⟩ := h.rep
  have := blank_calls hr hW a ha
  rw [he] at this
  exact this.mono fun x w' ⟨y, hx, hy, hc⟩ => ⟨by rw [hx, hy], h.call' hc.1 hc.2, hc.2⟩

/-- A block beyond the world is none of an Env's. -/
theorem Env.beyond (h : Env W w b s own Bs Os) {r : Nat} (hr : w.heap.size ≤ r) : W.heap.size ≤ r ∧ own r = none ∧ (∀ x ∈ Bs, x.1 ≠ r) ∧ ∀ o ∈ Os, o.2.2 r = none := by
  refine ⟨Nat.le_trans h.below.size hr, ?_, fun x hx => by have := h.lt hx; omega, fun o ho => ?_⟩
  · by_cases e : own r = none
    · exact e
    · have := h.rep.dom r e; omega
  · by_cases e : o.2.2 r = none
    · exact e
    · have := (h.oth o ho).1.dom r e; omega

theorem Env.load_c (h : Env W w b s own Bs Os) (hW : s.WF N) (a : Nat) (ha : a < 18446744073709551616) {e : Nat} {v : Int} (he : s.load a = (v, e)) :
    Calls Try.prog 18 #[.pointer (some ⟨b, 0, none⟩), .int .u64 (a : Int)] w fun x w' => x = .returned (.tuple #[.int .i64 v, .int .i64 (e : Int)]) ∧ w = w' := by
  obtain ⟨L, hr⟩ := h.rep
  have := load_calls hr hW a ha
  rw [he] at this
  exact this.mono fun x w' ⟨hx, hw⟩ => ⟨hx, hw.symm⟩

theorem Env.size_c (h : Env W w b s own Bs Os) (hW : s.WF N) (a : Nat) (ha : a < 18446744073709551616) {e n : Nat} (he : s.size a = (n, e)) :
    Calls Try.prog 23 #[.pointer (some ⟨b, 0, none⟩), .int .u64 (a : Int)] w fun x w' => x = .returned (.tuple #[.int .i64 (n : Int), .int .i64 (e : Int)]) ∧ w = w' := by
  obtain ⟨L, hr⟩ := h.rep
  have := size_calls hr hW a ha
  rw [he] at this
  exact this.mono fun x w' ⟨hx, hw⟩ => ⟨hx, hw.symm⟩

theorem Env.off_c (h : Env W w b s own Bs Os) (hW : s.WF N) (a : Nat) (ha : a < 18446744073709551616) (n : Int) {e d : Nat} (he : s.off a n = (d, e)) :
    Calls Try.prog 20 #[.pointer (some ⟨b, 0, none⟩), .int .u64 (a : Int), .int .i64 n] w fun x w' => x = .returned (.tuple #[.int .u64 (d : Int), .int .i64 (e : Int)]) ∧ w = w' := by
  obtain ⟨L, hr⟩ := h.rep
  have := off_calls hr hW a ha n
  rw [he] at this
  exact this.mono fun x w' ⟨hx, hw⟩ => ⟨hx, hw.symm⟩

theorem Env.live_c (h : Env W w b s own Bs Os) : Calls Try.prog 19 #[.pointer (some ⟨b, 0, none⟩)] w fun x w' => x = .returned (.int .i64 (s.live : Int)) ∧ w = w' := by
  obtain ⟨L, hr⟩ := h.rep
  exact (live_calls hr).mono fun x w' ⟨hx, hw⟩ => ⟨hx, hw.symm⟩

theorem Env.used_c (h : Env W w b s own Bs Os) : Calls Try.prog 22 #[.pointer (some ⟨b, 0, none⟩)] w fun x w' => x = .returned (.int .i64 (s.used : Int)) ∧ w = w' := by
  obtain ⟨L, hr⟩ := h.rep
  exact (used_calls hr).mono fun x w' ⟨hx, hw⟩ => ⟨hx, hw.symm⟩

theorem Env.clone_c (h : Env W w b s own Bs Os) (hW : s.WF N) :
    Calls Try.prog 13 #[.pointer (some ⟨b, 0, none⟩)] w fun x w' => x = .returned (.pointer (some ⟨w.heap.size, 0, none⟩)) ∧ ∃ own2, Env W w' b s own Bs ((w.heap.size, s, own2) :: Os) ∧ ∀ o ∈ Os, ∀ k, o.2.2 k ≠ none → own2 k = none := by
  obtain ⟨L, hr⟩ := h.rep
  exact (clone_calls hr hW).mono fun x w' ⟨hx, hn⟩ => ⟨hx, h.clone hn⟩
end
end Go.Proofs.Ytpgoogjaoffdoaa
