/- The document's slab: a piece is marked as freed, in memory. -/
import Derived.Test.YtpgoogjaoffdoaaRef10
namespace Go.Proofs.Ytpgoogjaoffdoaa
set_option linter.unusedVariables false
set_option linter.unusedSimpArgs false
open Go.RowKit

theorem flat5_freed (Q : List RQ) : ∀ (i : Nat) (q : RQ) (c : Bool), Q[i]? = some q → (Q.set i { q with pc := { q.pc with freed := c } }).flatMap RQ.enc = (Q.flatMap RQ.enc).set (i * 5 + 4) (.bool c) := by
  induction Q with
  | nil => intro i q c h; simp at h
  | cons p Q ih =>
    intro i q c h
    cases i with
    | zero =>
      simp only [List.getElem?_cons_zero, Option.some.injEq] at h
      subst h
      simp [RQ.enc]
    | succ i =>
      simp only [List.getElem?_cons_succ] at h
      rw [List.set_cons_succ, List.flatMap_cons, List.flatMap_cons, ih i q c h, List.set_append_right _ _ (by simp [RQ.enc]; omega)]
      congr 2
      simp [RQ.enc]
      omega

theorem RRepS.setFreed {w : World} {b : Nat} {r : RSS} {own : Nat → Option Rr} {L : RLo} (h : RRepS w b r own L) {i : Nat} {q : RQ} (hq : L.Q[i]? = some q) {g : Nat} (hg : L.gp = some g) (c : Bool) :
    RRepS (w.setCell ⟨g, i * 5 + 4, none⟩ (.bool c)) b (r.upd i fun p => { p with freed := c }) own { L with Q := L.Q.set i { q with pc := { q.pc with freed := c } } } := by
  have hil := (List.getElem?_eq_some_iff.1 hq).1
  have og := h.op g hg
  have hblk : ∀ k, k ≠ g → (w.setCell ⟨g, i * 5 + 4, none⟩ (.bool c)).heap[k]? = w.heap[k]? := fun k h1 => Below.heap_setCell _ _ _ _ h1
  have key : ∀ (j : Nat) (p : RQ), (L.Q.set i { q with pc := { q.pc with freed := c } })[j]? = some p → ∃ p0, L.Q[j]? = some p0 ∧ p.gv = p0.gv ∧ p.gh = p0.gh ∧ p.cv = p0.cv ∧ p.ch = p0.ch ∧ p.pc.vals = p0.pc.vals ∧ p.pc.has = p0.pc.has := by
    intro j p hp
    by_cases hj : i = j
    · subst hj
      rw [List.getElem?_set_self hil] at hp
      obtain rfl := Option.some.inj hp
      exact ⟨q, hq, rfl, rfl, rfl, rfl, rfl, rfl⟩
    · rw [List.getElem?_set_ne hj] at hp
      exact ⟨p, hp, rfl, rfl, rfl, rfl, rfl, rfl⟩
  refine ⟨?_, ?_, h.ob, ?_, ?_, h.op, ?_, h.of, ?_, ?_, ?_, ?_⟩
  · intro k' hk'; simpa using h.dom k' hk'
  · rw [hblk b (rr_ne h.ob og (by simp)), h.base]
    simp [rCells, RSS.upd]
  · simp only [RSS.upd]
    rw [h.pcs, List.map_set, modify_set _ i _ q.pc (by rw [List.getElem?_map, hq]; rfl)]
  · rw [flat5_freed L.Q i q c hq, List.length_set]
    exact h.plc.set hg (by rw [flat5_len]; omega) _
  · exact h.fre.keep fun g' hg' => hblk g' (rr_ne (h.of g' hg') og (by simp))
  · intro j p hp
    obtain ⟨p0, h0, e1, e2, e3, e4, e5, e6⟩ := key j p hp
    rw [e1, e3, e5]
    exact (h.val j p0 h0).keep fun g' hg' => hblk g' (rr_ne (h.ov j p0 h0 g' hg') og (by simp))
  · intro j p hp g' hg'
    obtain ⟨p0, h0, e1, e2, e3, e4, e5, e6⟩ := key j p hp
    rw [e1] at hg'
    exact h.ov j p0 h0 g' hg'
  · intro j p hp
    obtain ⟨p0, h0, e1, e2, e3, e4, e5, e6⟩ := key j p hp
    rw [e2, e4, e6]
    exact (h.has j p0 h0).keep fun g' hg' => hblk g' (rr_ne (h.oh j p0 h0 g' hg') og (by simp))
  · intro j p hp g' hg'
    obtain ⟨p0, h0, e1, e2, e3, e4, e5, e6⟩ := key j p hp
    rw [e2] at hg'
    exact h.oh j p0 h0 g' hg'
end Go.Proofs.Ytpgoogjaoffdoaa
