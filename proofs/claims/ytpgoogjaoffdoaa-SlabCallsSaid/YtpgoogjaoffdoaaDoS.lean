/- Two slabs beside each other: the plain one and the document's: what a call on one leaves of both. -/
import Derived.Test.YtpgoogjaoffdoaaAgree
namespace Go.Proofs.Ytpgoogjaoffdoaa
set_option linter.unusedVariables false
set_option linter.unusedSimpArgs false
open Go.RowKit

/-- What holds of both, as data. -/
structure St (s : SS) (r : RSS) (N : Nat) : Prop where
  wf : s.WF N
  sim : Sim s r
  many : r.pcs.length ≤ N
  frel : r.fre.length ≤ N

section
variable {s : SS} {r : RSS} {N : Nat}
theorem St.ok (h : St s r N) : r.Ok N where
  bound := h.wf.bound
  many := h.many
  idx p hp := by obtain ⟨j, hj⟩ := List.getElem?_of_mem hp; exact (h.sim.bounds h.wf hj).1
  age p hp := by obtain ⟨j, hj⟩ := List.getElem?_of_mem hp; exact (h.sim.bounds h.wf hj).2.1
  len p hp := by obtain ⟨j, hj⟩ := List.getElem?_of_mem hp; exact ⟨(h.sim.bounds h.wf hj).2.2.1, (h.sim.bounds h.wf hj).2.2.2.1⟩
  next := by rw [h.sim.next]; exact h.wf.nplaces
  fre := h.frel

theorem St.mono {M : Nat} (h : St s r N) (hM : N ≤ M) (hb : M < 1048576) : St s r M := ⟨WF.mono h.wf hM hb, h.sim, Nat.le_trans h.many hM, Nat.le_trans h.frel hM⟩

theorem St.get (h : St s r N) (hN : N + 1 < 1048576) (n : Int) : St (s.get n).2 (r.get n).2 (N + 1) := by
  refine ⟨WF.get h.wf hN n, (h.sim.get h.wf n).2, ?_, ?_⟩
  · have := h.many
    unfold RSS.get
    split
    · dsimp only; omega
    · split
      · dsimp only; omega
      · simp; omega
  · have := h.frel
    unfold RSS.get
    split
    · dsimp only; omega
    · split
      · dsimp only; omega
      · simp; omega
theorem St.free (h : St s r N) (hN : N + 1 < 1048576) (a : Nat) : St (s.free1 a).2 (r.free1 a).2 (N + 1) := by
  refine ⟨WF.mono (WF.free h.wf a) (Nat.le_succ N) hN, (h.sim.free h.wf a).2, ?_, ?_⟩
  · have := h.many
    unfold RSS.free1
    split
    split
    · dsimp only; omega
    · split
      · dsimp only; omega
      · simp [RSS.upd]; omega
  · have := h.frel
    unfold RSS.free1
    split
    split
    · dsimp only; omega
    · split
      · dsimp only; omega
      · simp [RSS.upd]; omega
theorem St.set (h : St s r N) (hN : N + 1 < 1048576) (a : Nat) (c : Int × Bool) : St (s.set a c).2 (r.set a c).2 (N + 1) := by
  refine ⟨WF.mono (WF.set h.wf a c) (Nat.le_succ N) hN, (h.sim.set h.wf a c).2, ?_, ?_⟩
  · have := h.many
    unfold RSS.set
    split
    split
    · dsimp only; omega
    · simp [RSS.upd]; omega
  · have := h.frel
    unfold RSS.set
    split
    split
    · dsimp only; omega
    · simp [RSS.upd]; omega
theorem St.fx (h : St s r N) : ∀ i ∈ r.fre, i < 1048576 := by
  intro i hi
  rw [h.sim.fre] at hi
  obtain ⟨p, hp, _⟩ := (h.wf.freed i).1 hi
  have := (List.getElem?_eq_some_iff.1 hp).1
  have := h.wf.nplaces
  have := h.wf.bound
  omega
theorem St.start (n : Nat) (h : n ≤ 16384) : St ⟨n, 0, 0, [], []⟩ ⟨n, [], [], 0⟩ 0 := ⟨WF.start n h, Sim.start n, by simp, by simp⟩

theorem rget_calls {w : World} {b : Nat} {own : Nat → Option Rr} (h : RRep w b r own) (hS : St s r N) (hN : N + 1 < 1048576) (n : Int) :
    Calls Try.prog 25 #[.pointer (some ⟨b, 0, none⟩), .int .i64 n] w fun e w' => e = .returned (.tuple #[.int .u64 ((r.get n).1.1 : Int), .int .i64 ((r.get n).1.2 : Int)]) ∧ RPost w b own (r.get n).2 w' := by
  obtain ⟨L, hL⟩ := h
  have hroom : r.room ≤ 16384 := by rw [hS.sim.room]; exact hS.wf.room
  by_cases h1 : n < 1 ∨ 4095 < n
  · have e : r.get n = ((0, 11), r) := by unfold RSS.get; rw [if_pos h1]
    rw [e]
    exact (rget_bad n h1).mono fun x w' h => ⟨h.1, by rw [h.2]; exact ⟨own, ⟨L, hL⟩, fun k hk => Or.inl hk, Mod.refl _ _⟩⟩
  by_cases h2 : (r.room : Int) < r.used + n
  · have e : r.get n = ((0, 13), r) := by unfold RSS.get; rw [if_neg h1, if_pos h2]
    rw [e]
    exact (rget_full hL hS.ok hroom n (by omega) (by omega) h2).mono fun x w' h => ⟨h.1, ⟨own, ⟨L, hL.mod h.2⟩, fun k hk => Or.inl hk, h.2.mono (fun _ h => h.elim)⟩⟩
  · obtain ⟨m, rfl⟩ := Int.eq_ofNat_of_zero_le (show 0 ≤ n by omega)
    exact rget_good hL hS.ok (by omega) hS.fx hroom m (by omega) (by omega) (by omega)
end

/-! ### In memory -/
structure Pair (w : World) (b1 : Nat) (s : SS) (own1 : Nat → Option Rl) (b2 : Nat) (r : RSS) (own2 : Nat → Option Rr) : Prop where
  r1 : Rep w b1 s own1
  r2 : RRep w b2 r own2
  dis : ∀ k, own1 k ≠ none → own2 k = none

theorem RRep.dom {w : World} {b : Nat} {r : RSS} {own : Nat → Option Rr} (h : RRep w b r own) : ∀ k, own k ≠ none → k < w.heap.size := let ⟨_, h⟩ := h; h.dom
theorem RRep.keep {w w' : World} {b : Nat} {r : RSS} {own : Nat → Option Rr} (h : RRep w b r own) (hs : w.heap.size ≤ w'.heap.size) (hk : ∀ k, own k ≠ none → w'.heap[k]? = w.heap[k]?) : RRep w' b r own := let ⟨L, h⟩ := h; ⟨L, h.keep hs hk⟩

/-- What calls leave alone. -/
structure Aft2 (w : World) (own1 : Nat → Option Rl) (own2 : Nat → Option Rr) (w' : World) (own1' : Nat → Option Rl) (own2' : Nat → Option Rr) : Prop where
  g1 : ∀ k, own1' k ≠ none → own1 k ≠ none ∨ w.heap.size ≤ k
  g2 : ∀ k, own2' k ≠ none → own2 k ≠ none ∨ w.heap.size ≤ k
  mod : Mod (fun k => own1 k ≠ none ∨ own2 k ≠ none) w w'

section
variable {w w' w2 : World} {b1 b2 : Nat} {s s' : SS} {r r' : RSS} {own1 own1' own1'' : Nat → Option Rl} {own2 own2' own2'' : Nat → Option Rr}

theorem Aft2.refl (w : World) (own1 : Nat → Option Rl) (own2 : Nat → Option Rr) : Aft2 w own1 own2 w own1 own2 := ⟨fun _ h => Or.inl h, fun _ h => Or.inl h, Mod.refl _ _⟩
theorem Aft2.trans (h : Aft2 w own1 own2 w' own1' own2') (k : Aft2 w' own1' own2' w2 own1'' own2'') : Aft2 w own1 own2 w2 own1'' own2'' := by
  have hs := h.mod.size
  refine ⟨fun i hi => ?_, fun i hi => ?_, h.mod.trans k.mod ?_⟩
  · rcases k.g1 i hi with h1 | h1
    · exact h.g1 i h1
    · exact Or.inr (by omega)
  · rcases k.g2 i hi with h1 | h1
    · exact h.g2 i h1
    · exact Or.inr (by omega)
  · rintro i (hi | hi)
    · rcases h.g1 i hi with h1 | h1
      · exact Or.inl (Or.inl h1)
      · exact Or.inr h1
    · rcases h.g2 i hi with h1 | h1
      · exact Or.inl (Or.inr h1)
      · exact Or.inr h1

theorem Pair.mod {S : Nat → Prop} (h : Pair w b1 s own1 b2 r own2) (hM : Mod S w w') (hS : ∀ k, S k → own1 k = none ∧ own2 k = none) : Pair w' b1 s own1 b2 r own2 :=
  ⟨h.r1.keep hM.size fun k hk => hM.block k (h.r1.dom k hk) (fun hs => hk (hS k hs).1), h.r2.keep hM.size fun k hk => hM.block k (h.r2.dom k hk) (fun hs => hk (hS k hs).2), h.dis⟩

theorem Pair.left (h : Pair w b1 s own1 b2 r own2) (hc : CallPost w b1 own1 s' w') : ∃ own1', Pair w' b1 s' own1' b2 r own2 ∧ Aft2 w own1 own2 w' own1' own2 := by
  obtain ⟨own1', hr, hg, hM⟩ := hc
  refine ⟨own1', ⟨hr, h.r2.keep hM.size fun k hk => hM.block k (h.r2.dom k hk) (fun hs => hk (h.dis k hs)), fun k hk => ?_⟩, hg, fun k hk => Or.inl hk, hM.mono fun k hk => Or.inl hk⟩
  rcases hg k hk with h1 | h1
  · exact h.dis k h1
  · cases e : own2 k with
    | none => rfl
    | some x => have := h.r2.dom k (by rw [e]; simp); omega

theorem Pair.right (h : Pair w b1 s own1 b2 r own2) (hc : RPost w b2 own2 r' w') : ∃ own2', Pair w' b1 s own1 b2 r' own2' ∧ Aft2 w own1 own2 w' own1 own2' := by
  obtain ⟨own2', hr, hg, hM⟩ := hc
  refine ⟨own2', ⟨h.r1.keep hM.size fun k hk => hM.block k (h.r1.dom k hk) (fun hs => hs (h.dis k hk)), hr, fun k hk => ?_⟩, fun k hk => Or.inl hk, hg, hM.mono fun k hk => Or.inr hk⟩
  cases e : own2' k with
  | none => rfl
  | some x =>
    rcases hg k (by rw [e]; simp) with h1 | h1
    · exact absurd (h.dis k hk) h1
    · have := h.r1.dom k hk; omega

theorem Pair.left' (h : Pair w b1 s own1 b2 r own2) (hr : Rep w' b1 s' own1) (hM : Mod (Dom own1) w w') : Pair w' b1 s' own1 b2 r own2 ∧ Aft2 w own1 own2 w' own1 own2 := by
  refine ⟨⟨hr, h.r2.keep hM.size fun k hk => hM.block k (h.r2.dom k hk) (fun hs => hk (h.dis k hs)), h.dis⟩, fun k hk => Or.inl hk, fun k hk => Or.inl hk, hM.mono fun k hk => Or.inl hk⟩
theorem Pair.right' (h : Pair w b1 s own1 b2 r own2) (hr : RRep w' b2 r' own2) (hM : Mod (Dom own2) w w') : Pair w' b1 s own1 b2 r' own2 ∧ Aft2 w own1 own2 w' own1 own2 := by
  refine ⟨⟨h.r1.keep hM.size fun k hk => hM.block k (h.r1.dom k hk) (fun hs => hs (h.dis k hk)), hr, h.dis⟩, fun k hk => Or.inl hk, fun k hk => Or.inl hk, hM.mono fun k hk => Or.inr hk⟩

theorem Pair.new_own (h : Pair w b1 s own1 b2 r own2) {k : Nat} (hk : w.heap.size ≤ k) : own1 k = none ∧ own2 k = none := by
  constructor
  · cases e : own1 k with
    | none => rfl
    | some x => have := h.r1.dom k (by rw [e]; simp); omega
  · cases e : own2 k with
    | none => rfl
    | some x => have := h.r2.dom k (by rw [e]; simp); omega

/-- Blocks that neither owns lie as they lay, and are not got. -/
theorem Aft2.keep (h : Aft2 w own1 own2 w' own1' own2') {k : Nat} (hk : k < w.heap.size) (h1 : own1 k = none) (h2 : own2 k = none) : w'.heap[k]? = w.heap[k]? ∧ own1' k = none ∧ own2' k = none := by
  refine ⟨h.mod.block k hk (fun hc => hc.elim (fun hc => hc h1) (fun hc => hc h2)), ?_, ?_⟩
  · cases e : own1' k with
    | none => rfl
    | some x => rcases h.g1 k (by rw [e]; simp) with h3 | h3
                · exact absurd h1 h3
                · omega
  · cases e : own2' k with
    | none => rfl
    | some x => rcases h.g2 k (by rw [e]; simp) with h3 | h3
                · exact absurd h2 h3
                · omega
end
end Go.Proofs.Ytpgoogjaoffdoaa
