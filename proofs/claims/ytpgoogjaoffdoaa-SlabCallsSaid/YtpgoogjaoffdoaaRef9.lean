/- The document's slab: a store into a slot, in memory. -/
import Derived.Test.YtpgoogjaoffdoaaRef8
import Derived.Test.YtpgoogjaoffdoaaCon2
namespace Go.Proofs.Ytpgoogjaoffdoaa
set_option linter.unusedVariables false
set_option linter.unusedSimpArgs false
open Go.RowKit

theorem flat5_same (Q : List RQ) : ∀ (i : Nat) (q q' : RQ), Q[i]? = some q → q'.enc = q.enc → (Q.set i q').flatMap RQ.enc = Q.flatMap RQ.enc := by
  induction Q with
  | nil => intro i q q' h; simp at h
  | cons p Q ih =>
    intro i q q' h he
    cases i with
    | zero =>
      simp only [List.getElem?_cons_zero, Option.some.injEq] at h
      subst h
      simp [he]
    | succ i =>
      simp only [List.getElem?_cons_succ] at h
      rw [List.set_cons_succ, List.flatMap_cons, List.flatMap_cons, ih i q q' h he]

/-- Two roles: two blocks. -/
theorem rr_ne {own : Nat → Option Rr} {x y : Nat} {a b : Rr} (hx : own x = some a) (hy : own y = some b) (h : a ≠ b) : x ≠ y := by
  rintro rfl
  exact h (Option.some.inj (hx.symm.trans hy))

theorem RRepS.setSlot {w : World} {b : Nat} {r : RSS} {own : Nat → Option Rr} {L : RLo} (h : RRepS w b r own L) {i k : Nat} {q : RQ} (hq : L.Q[i]? = some q) (hk : k < q.pc.vals.length) (hh : q.pc.has.length = q.pc.vals.length)
    {gv gh : Nat} (hgv : q.gv = some gv) (hgh : q.gh = some gh) (v : Int) (c : Bool) :
    RRep ((w.setCell ⟨gv, k, none⟩ (.int .i64 v)).setCell ⟨gh, k, none⟩ (.bool c)) b (r.upd i fun p => { p with vals := p.vals.set k v, has := p.has.set k c }) own := by
  have hil := (List.getElem?_eq_some_iff.1 hq).1
  have ov := h.ov i q hq gv hgv
  have oh := h.oh i q hq gh hgh
  have hblk : ∀ g, g ≠ gv → g ≠ gh → ((w.setCell ⟨gv, k, none⟩ (.int .i64 v)).setCell ⟨gh, k, none⟩ (.bool c)).heap[g]? = w.heap[g]? := fun g h1 h2 => by
    rw [Below.heap_setCell _ _ _ _ h2, Below.heap_setCell _ _ _ _ h1]
  have hvh : gv ≠ gh := rr_ne ov oh (by simp)
  let q' : RQ := { q with pc := { q.pc with vals := q.pc.vals.set k v, has := q.pc.has.set k c } }
  have he : q'.enc = q.enc := by simp [q', RQ.enc]
  refine ⟨{ L with Q := L.Q.set i q' }, ?_, ?_, h.ob, ?_, ?_, h.op, ?_, h.of, ?_, ?_, ?_, ?_⟩
  · intro k' hk'; simpa using h.dom k' hk'
  · rw [hblk b (rr_ne h.ob ov (by simp)) (rr_ne h.ob oh (by simp)), h.base]
    simp [rCells, RSS.upd]
  · simp only [RSS.upd]
    rw [h.pcs, List.map_set, modify_set _ i _ q.pc (by rw [List.getElem?_map, hq]; rfl)]
  · show Sl _ 93 5 L.gp (L.Q.set i q').length L.cp ((L.Q.set i q').flatMap RQ.enc)
    rw [flat5_same L.Q i q q' hq he, List.length_set]
    exact h.plc.keep fun g hg => hblk g (rr_ne (h.op g hg) ov (by simp)) (rr_ne (h.op g hg) oh (by simp))
  · exact h.fre.keep fun g hg => hblk g (rr_ne (h.of g hg) ov (by simp)) (rr_ne (h.of g hg) oh (by simp))
  · intro j p hp
    by_cases hj : i = j
    · subst hj
      rw [List.getElem?_set_self hil] at hp
      obtain rfl := Option.some.inj hp
      have s1 := (h.val i q hq).set hgv (j := k) (by simp [encI]; exact hk) (.int .i64 v)
      have s2 := s1.setCell ⟨gh, k, none⟩ (.bool c) (by rw [hgv]; simp; exact hvh)
      have e1 : (q.pc.vals.set k v).length = q.pc.vals.length := List.length_set
      show Sl _ 2 1 q.gv (q.pc.vals.set k v).length q.cv (encI (q.pc.vals.set k v))
      rw [e1, encI, List.map_set]
      exact s2
    · rw [List.getElem?_set_ne hj] at hp
      exact (h.val j p hp).keep fun g hg => hblk g (rr_ne (h.ov j p hp g hg) ov (by simp; omega)) (rr_ne (h.ov j p hp g hg) oh (by simp))
  · intro j p hp g hg
    by_cases hj : i = j
    · subst hj
      rw [List.getElem?_set_self hil] at hp
      obtain rfl := Option.some.inj hp
      exact h.ov i q hq g hg
    · rw [List.getElem?_set_ne hj] at hp
      exact h.ov j p hp g hg
  · intro j p hp
    by_cases hj : i = j
    · subst hj
      rw [List.getElem?_set_self hil] at hp
      obtain rfl := Option.some.inj hp
      have s1 := (h.has i q hq).setCell ⟨gv, k, none⟩ (.int .i64 v) (by rw [hgh]; simp; exact fun e => hvh e.symm)
      have s2 := s1.set hgh (j := k) (by simp [encB]; omega) (.bool c)
      have e1 : (q.pc.has.set k c).length = q.pc.has.length := List.length_set
      show Sl _ 4 1 q.gh (q.pc.has.set k c).length q.ch (encB (q.pc.has.set k c))
      rw [e1, encB, List.map_set]
      exact s2
    · rw [List.getElem?_set_ne hj] at hp
      exact (h.has j p hp).keep fun g hg => hblk g (rr_ne (h.oh j p hp g hg) ov (by simp)) (rr_ne (h.oh j p hp g hg) oh (by simp; omega))
  · intro j p hp g hg
    by_cases hj : i = j
    · subst hj
      rw [List.getElem?_set_self hil] at hp
      obtain rfl := Option.some.inj hp
      exact h.oh i q hq g hg
    · rw [List.getElem?_set_ne hj] at hp
      exact h.oh j p hp g hg
end Go.Proofs.Ytpgoogjaoffdoaa
