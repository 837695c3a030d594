/- The slab and the document's slab answer alike: Free, Get, All: plain law. -/
import Derived.Test.YtpgoogjaoffdoaaSim
namespace Go.Proofs.Ytpgoogjaoffdoaa
set_option linter.unusedVariables false
set_option linter.unusedSimpArgs false

theorem filter_one {α : Type} (l : List α) (f : α → Bool) : ∀ (j : Nat) (p : α), l[j]? = some p → f p = true → (∀ (k : Nat) (x : α), l[k]? = some x → f x = true → k = j) → l.filter f = [p] := by
  induction l with
  | nil => intro j p h; simp at h
  | cons y l ih =>
    intro j p hp hf hu
    cases j with
    | zero =>
      simp only [List.getElem?_cons_zero, Option.some.injEq] at hp
      subst hp
      rw [List.filter_cons, if_pos hf]
      congr 1
      rw [List.filter_eq_nil_iff]
      intro x hx hfx
      obtain ⟨k, hk⟩ := List.getElem?_of_mem hx
      have := hu (k + 1) x (by simpa using hk) hfx
      omega
    | succ j =>
      have hfy : ¬ f y = true := fun hc => by
        have := hu 0 y (by simp) hc
        omega
      rw [List.filter_cons, if_neg hfy]
      exact ih j p (by simpa using hp) hf (fun k x hx hfx => by have := hu (k + 1) x (by simpa using hx) hfx; omega)

section
variable {s : SS} {r : RSS} {N : Nat}

theorem modP_get {l : List Pl} {j : Nat} {p : Pl} (g : Pl → Pl) (hp : l[j]? = some p) (k : Nat) (x : Pl) : (l.modify j g)[k]? = some x ↔ (k = j ∧ x = g p) ∨ (k ≠ j ∧ l[k]? = some x) := by
  rw [List.getElem?_modify]
  by_cases e : j = k
  · subst e
    rw [hp]
    simp
    exact eq_comm
  · have : k ≠ j := fun h => e h.symm
    simp [e, this]

theorem Sim.free (h : Sim s r) (hW : s.WF N) (a : Nat) : (s.free1 a).1 = (r.free1 a).1 ∧ Sim (s.free1 a).2 (r.free1 a).2 := by
  rcases h.find hW a with ⟨e, i, k, he, h1, h2⟩ | ⟨i, k, j, p, q, h1, h2, hp, hq, hi, ha, hf, hqf, hk, hc, hh, _⟩
  · unfold SS.free1 RSS.free1
    rw [h1, h2]
    dsimp only
    rw [if_pos (by omega), if_pos (by omega)]
    exact ⟨rfl, h⟩
  · unfold SS.free1 RSS.free1
    rw [h1, h2]
    dsimp only
    rw [if_neg (show ¬ ((0 : Nat) ≠ 0) by omega), if_neg (show ¬ ((0 : Nat) ≠ 0) by omega)]
    by_cases hk0 : k = 0
    case neg => rw [if_pos hk0, if_pos hk0]; exact ⟨rfl, h⟩
    case pos =>
    subst hk0
    rw [if_neg (show ¬ ((0 : Nat) ≠ 0) by omega), if_neg (show ¬ ((0 : Nat) ≠ 0) by omega)]
    refine ⟨rfl, ?_⟩
    have hpl := fun i' y => modP_get (fun p => { p with cells := [], freed := true }) hq i' y
    have hrp := fun j' x => modR_get (fun p => { p with freed := true }) hp j' x
    have hclen : q.cells.length = p.vals.length := by rw [hc]; simp [hh]
    refine ⟨h.room, ?_, by simpa [RSS.upd, SS.upd] using h.next, ?_, ?_, ?_, ?_, ?_, ?_⟩
    · simp [RSS.upd, hp, h.fre, hi]
    · intro j' x hx
      rcases (hrp j' x).1 hx with ⟨rfl, rfl⟩ | ⟨hne, hx⟩
      · obtain ⟨q0, hq0, g1, g2, g3, g4⟩ := h.pc j' p hp
        rw [hi, hq] at hq0
        obtain rfl := Option.some.inj hq0
        exact ⟨_, (hpl _ _).2 (Or.inl ⟨hi, rfl⟩), g1, g2, ⟨fun _ => Or.inl rfl, fun _ => rfl⟩, fun hc => by cases hc⟩
      · obtain ⟨q0, hq0, g1, g2, g3, g4⟩ := h.pc j' x hx
        by_cases hid : x.idx = i
        · rw [hid, hq] at hq0
          obtain rfl := Option.some.inj hq0
          have hlt := (List.getElem?_eq_some_iff.1 g1).1
          have hold : x.age + 1 < q.sizes.length := by
            have : x.age ≠ p.age := fun e => hne (h.one j' j x p hx hp (hid.trans hi.symm) e)
            omega
          have hxf : x.freed = true := g3.2 (Or.inr hold)
          exact ⟨_, (hpl _ _).2 (Or.inl ⟨hid, rfl⟩), g1, g2, ⟨fun _ => Or.inl rfl, fun _ => hxf⟩, fun hc => by rw [hxf] at hc; cases hc⟩
        · exact ⟨q0, (hpl _ _).2 (Or.inr ⟨hid, hq0⟩), g1, g2, g3, g4⟩
    · intro i' y a' hy ha'
      have hold : ∃ y0 : Pl, s.places[i']? = some y0 ∧ a' < y0.sizes.length := by
        rcases (hpl i' y).1 hy with ⟨rfl, rfl⟩ | ⟨_, hy⟩
        · exact ⟨q, hq, ha'⟩
        · exact ⟨y, hy, ha'⟩
      obtain ⟨y0, hy0, ha0⟩ := hold
      obtain ⟨j', p', hp', f1, f2⟩ := h.ex i' y0 a' hy0 ha0
      by_cases e : j' = j
      · subst e
        obtain rfl := Option.some.inj (hp.symm.trans hp')
        exact ⟨j', _, (hrp _ _).2 (Or.inl ⟨rfl, rfl⟩), f1, f2⟩
      · exact ⟨j', p', (hrp _ _).2 (Or.inr ⟨e, hp'⟩), f1, f2⟩
    · intro j1 j2 x y hx hy ei ea
      have hold : ∀ (j' : Nat) (x : RPc), (r.pcs.modify j fun p => { p with freed := true })[j']? = some x → ∃ x0 : RPc, r.pcs[j']? = some x0 ∧ x.idx = x0.idx ∧ x.age = x0.age := by
        intro j' x hx
        rcases (hrp j' x).1 hx with ⟨rfl, rfl⟩ | ⟨_, hx⟩
        · exact ⟨p, hp, rfl, rfl⟩
        · exact ⟨x, hx, rfl, rfl⟩
      obtain ⟨x0, hx0, e1, e2⟩ := hold j1 x hx
      obtain ⟨y0, hy0, d1, d2⟩ := hold j2 y hy
      exact h.one j1 j2 x0 y0 hx0 hy0 (by rw [← e1, ← d1, ei]) (by rw [← e2, ← d2, ea])
    · intro i'
      have hsum := sumR_modify r.pcs (fun p => if p.idx = i' then 1 else 0) (fun p => { p with freed := true }) j p hp
      have hcn := h.cnt i'
      dsimp only at hsum
      have hpls : ((s.places.modify i fun p => { p with cells := [], freed := true })[i']?.map fun q => q.sizes.length) = (s.places[i']?.map fun q => q.sizes.length) := by
        rw [List.getElem?_modify]
        by_cases e : i = i'
        · subst e
          rw [hq]
          simp
        · simp [e]
      simp only [RSS.upd, SS.upd]
      rw [hpls, ← hcn]
      omega
    · have hsum := sumR_modify r.pcs (fun p => if p.freed = true then 0 else p.vals.length) (fun p => { p with freed := true }) j p hp
      have hu := h.used
      dsimp only at hsum
      rw [hf, if_neg (by simp), if_pos rfl] at hsum
      simp only [RSS.used, RSS.upd, SS.upd, hq, Option.map_some, Option.getD_some, hclen] at hu ⊢
      omega
    · have hsum := sumR_modify r.pcs (fun p => if p.freed = true then 0 else 1) (fun p => { p with freed := true }) j p hp
      have hu := h.live
      dsimp only at hsum
      rw [hf, if_neg (by simp), if_pos rfl] at hsum
      simp only [RSS.live, RSS.upd, SS.upd] at hu ⊢
      omega

/-- The place of a new piece, in the plain slab. -/
theorem SS.get_good (hW : s.WF N) {n : Int} (h1 : ¬ (n < 1 ∨ 4095 < n)) (h2 : ¬ (s.room : Int) < s.used + n) : ∃ (i : Nat) (ps : List Nat) (s' : SS),
    s.get n = ((addrOf i ps.length 0, 0), s') ∧ i = s.free.getLast?.getD s.places.length ∧ s'.room = s.room ∧ s'.free = s.free.dropLast ∧ s'.used = s.used + n.toNat ∧ s'.live = s.live + 1 ∧
      s'.places.length = (if s.free = [] then s.places.length + 1 else s.places.length) ∧ ps = ((s.places[i]?).map fun q => q.sizes).getD [] ∧ (∀ q : Pl, s.places[i]? = some q → q.freed = true) ∧
      (∀ (j : Nat) (q : Pl), s'.places[j]? = some q ↔ (j = i ∧ q = ⟨ps ++ [n.toNat], List.replicate n.toNat (0, false), false⟩) ∨ (j ≠ i ∧ s.places[j]? = some q)) := by
  have hg : s.get n = s.get n := rfl
  conv at hg => rhs; unfold SS.get
  rw [if_neg h1, if_neg h2] at hg
  dsimp only at hg
  cases hl : s.free.getLast? with
  | some i =>
    have hm : i ∈ s.free := List.mem_of_getLast? hl
    obtain ⟨q, hq, hqf⟩ := (hW.freed i).1 hm
    have hi : s.index = (i, { s with free := s.free.dropLast }) := by unfold SS.index; rw [hl]
    have hne : s.free ≠ [] := fun e => by rw [e] at hm; simp at hm
    rw [hi] at hg
    refine ⟨i, q.sizes, (s.get n).2, ?_, rfl, ?_, ?_, ?_, ?_, ?_, by simp [hq], fun q' hq' => by obtain rfl := Option.some.inj (hq.symm.trans hq'); exact hqf, ?_⟩
    all_goals rw [hg]
    · simp [hq, SS.upd]
    all_goals (try rfl)
    · rw [if_neg hne]; simp [SS.upd]
    · intro j x
      exact (modP_get _ hq j x)
  | none =>
    have hfe : s.free = [] := by simpa using hl
    have hi : s.index = (s.places.length, { s with places := s.places ++ [⟨[], [], false⟩] }) := by unfold SS.index; rw [hl]
    rw [hi] at hg
    have hq : (s.places ++ [(⟨[], [], false⟩ : Pl)])[s.places.length]? = some ⟨[], [], false⟩ := by simp
    refine ⟨s.places.length, [], (s.get n).2, ?_, rfl, ?_, ?_, ?_, ?_, ?_, by simp, fun q' hq' => by simp at hq', ?_⟩
    all_goals rw [hg]
    · simp [hq, SS.upd]
    all_goals (try rfl)
    · rw [hfe]; rfl
    · rw [if_pos hfe]; simp [SS.upd]
    intro j x
    refine (modP_get _ hq j x).trans ?_
    constructor
    · rintro (⟨rfl, rfl⟩ | ⟨hne, hx⟩)
      · exact Or.inl ⟨rfl, rfl⟩
      · refine Or.inr ⟨hne, ?_⟩
        have := (List.getElem?_eq_some_iff.1 hx).1
        rw [List.getElem?_append_left (by simp at this; omega)] at hx
        exact hx
    · rintro (⟨rfl, rfl⟩ | ⟨hne, hx⟩)
      · exact Or.inl ⟨rfl, rfl⟩
      · refine Or.inr ⟨hne, ?_⟩
        have := (List.getElem?_eq_some_iff.1 hx).1
        rw [List.getElem?_append_left this]
        exact hx

theorem Sim.get (h : Sim s r) (hW : s.WF N) (n : Int) : (s.get n).1 = (r.get n).1 ∧ Sim (s.get n).2 (r.get n).2 := by
  by_cases h1 : n < 1 ∨ 4095 < n
  · have e1 : s.get n = ((0, 11), s) := by unfold SS.get; rw [if_pos h1]
    have e2 : r.get n = ((0, 11), r) := by unfold RSS.get; rw [if_pos h1]
    rw [e1, e2]
    exact ⟨rfl, h⟩
  by_cases h2 : (s.room : Int) < s.used + n
  · have e1 : s.get n = ((0, 13), s) := by unfold SS.get; rw [if_neg h1, if_pos h2]
    have e2 : r.get n = ((0, 13), r) := by unfold RSS.get; rw [if_neg h1, if_pos (by rw [h.room, h.used]; exact h2)]
    rw [e1, e2]
    exact ⟨rfl, h⟩
  obtain ⟨i, ps, s', hg, hi, hroom, hfree, hused, hlive, hlen, hps, hfr, hpl⟩ := SS.get_good hW h1 h2
  have hps2 : (r.pcs.map fun p => if p.idx = i then 1 else 0).sum = ps.length := by
    rw [h.cnt i, hps]
    cases s.places[i]? <;> rfl
  have hidx : r.fre.getLast?.getD r.next = i := by rw [h.fre, h.next, hi]
  obtain ⟨m, hm⟩ : ∃ m, n.toNat = m := ⟨_, rfl⟩
  have hr : r.get n = ((addrOf i ps.length 0, 0), { r with pcs := r.pcs ++ [⟨i, ps.length, List.replicate m 0, List.replicate m false, false⟩], fre := r.fre.dropLast, next := if r.fre = [] then r.next + 1 else r.next }) := by
    unfold RSS.get
    rw [if_neg h1, if_neg (by rw [h.room, h.used]; exact h2), hidx]
    dsimp only
    rw [hps2, hm]
    rfl
  rw [hm] at hpl hused
  rw [hg, hr]
  refine ⟨rfl, ?_⟩
  have key : ∀ (j : Nat) (x : RPc), (r.pcs ++ [(⟨i, ps.length, List.replicate m 0, List.replicate m false, false⟩ : RPc)])[j]? = some x ↔ r.pcs[j]? = some x ∨ (j = r.pcs.length ∧ x = ⟨i, ps.length, List.replicate m 0, List.replicate m false, false⟩) := by
    intro j x
    by_cases hj : j < r.pcs.length
    · rw [List.getElem?_append_left hj]
      exact ⟨Or.inl, fun h => h.elim id (fun h => by omega)⟩
    · rw [List.getElem?_append_right (by omega)]
      constructor
      · intro hx
        have hz : j - r.pcs.length = 0 := by
          have := (List.getElem?_eq_some_iff.1 hx).1
          simpa using this
        rw [hz] at hx
        exact Or.inr ⟨by omega, (Option.some.inj hx).symm⟩
      · rintro (hx | ⟨rfl, rfl⟩)
        · exact absurd (List.getElem?_eq_some_iff.1 hx).1 hj
        · simp
  have hold : ∀ (j : Nat) (x : RPc), r.pcs[j]? = some x → x.idx = i → x.age < ps.length := by
    intro j x hx hxi
    obtain ⟨q, hq, hz, _⟩ := h.pc j x hx
    rw [hxi] at hq
    rw [hps, hq]
    exact (List.getElem?_eq_some_iff.1 hz).1
  refine ⟨by rw [hroom]; exact h.room, by rw [hfree]; exact congrArg List.dropLast h.fre, ?_, ?_, ?_, ?_, ?_, ?_, ?_⟩
  · dsimp only
    rw [hlen, h.fre, h.next]
  · intro j x hx
    rcases (key j x).1 hx with hx | ⟨rfl, rfl⟩
    · obtain ⟨q, hq, g1, g2, g3, g4⟩ := h.pc j x hx
      by_cases hid : x.idx = i
      · have hage := hold j x hx hid
        rw [hid] at hq
        have hqf := hfr q hq
        have hxf := g3.2 (Or.inl hqf)
        have hq2 : ps = q.sizes := by rw [hps, hq]; rfl
        refine ⟨_, (hpl _ _).2 (Or.inl ⟨hid, rfl⟩), ?_, g2, ⟨fun _ => Or.inr (by simp; omega), fun _ => hxf⟩, fun hc => by rw [hxf] at hc; cases hc⟩
        dsimp only
        rw [List.getElem?_append_left hage, hq2]
        exact g1
      · exact ⟨q, (hpl _ _).2 (Or.inr ⟨hid, hq⟩), g1, g2, g3, g4⟩
    · refine ⟨_, (hpl _ _).2 (Or.inl ⟨rfl, rfl⟩), by simp, by simp, ?_, fun _ => by simp⟩
      simp
  · intro i' y a' hy ha'
    rcases (hpl i' y).1 hy with ⟨rfl, rfl⟩ | ⟨hne, hy⟩
    · by_cases hlt : a' < ps.length
      · cases hq : s.places[i']? with
        | none => rw [hq] at hps; rw [hps] at hlt; simp at hlt
        | some q =>
          have hq2 : ps = q.sizes := by rw [hps, hq]; rfl
          obtain ⟨j, p, hp, f1, f2⟩ := h.ex i' q a' hq (by rw [← hq2]; exact hlt)
          exact ⟨j, p, (key _ _).2 (Or.inl hp), f1, f2⟩
      · refine ⟨_, _, (key _ _).2 (Or.inr ⟨rfl, rfl⟩), rfl, ?_⟩
        simp at ha'
        simp
        omega
    · obtain ⟨j, p, hp, f1, f2⟩ := h.ex i' y a' hy ha'
      exact ⟨j, p, (key _ _).2 (Or.inl hp), f1, f2⟩
  · intro j k x y hx hy ei ea
    rcases (key j x).1 hx with hx | ⟨rfl, rfl⟩
    · rcases (key k y).1 hy with hy | ⟨rfl, rfl⟩
      · exact h.one j k x y hx hy ei ea
      · have := hold j x hx ei; dsimp only at ea; omega
    · rcases (key k y).1 hy with hy | ⟨rfl, rfl⟩
      · have := hold k y hy ei.symm; dsimp only at ea; omega
      · rfl
  · intro i'
    have hc := h.cnt i'
    simp only [List.map_append, List.sum_append, List.map_cons, List.map_nil, List.sum_cons, List.sum_nil]
    by_cases e : i' = i
    · subst e
      rw [hps2, (hpl i' _).2 (Or.inl ⟨rfl, rfl⟩)]
      simp
    · rw [if_neg (fun h => e h.symm), hc]
      have : s'.places[i']? = s.places[i']? := by
        cases hq : s.places[i']? with
        | some q => exact (hpl i' q).2 (Or.inr ⟨e, hq⟩)
        | none =>
          cases hq' : s'.places[i']? with
          | none => rfl
          | some q' =>
            rcases (hpl i' q').1 hq' with ⟨h1, _⟩ | ⟨_, h1⟩
            · exact absurd h1 e
            · rw [hq] at h1; cases h1
      rw [this]
      rfl
  · have hu := h.used
    simp only [RSS.used] at hu ⊢
    rw [hused, ← hu]
    simp
  · have hu := h.live
    simp only [RSS.live] at hu ⊢
    rw [hlive, ← hu]
    simp

theorem Sim.all (h : Sim s r) (hW : s.WF N) : r.all = s.pieces := by
  have key : ∀ k, k ≤ s.places.length → r.upto k = s.piecesTo k := by
    intro k
    induction k with
    | zero => intro _; rfl
    | succ k ih =>
      intro hk
      obtain ⟨q, hq⟩ : ∃ q, s.places[k]? = some q := ⟨_, List.getElem?_eq_getElem (by omega)⟩
      rw [RSS.upto_succ, ih (by omega), s.piecesTo_succ hq]
      congr 1
      unfold atIdx pieceOf
      dsimp only
      cases hqf : q.freed with
      | true =>
        have : (r.pcs.filter fun p => p.idx == k && !p.freed) = [] := by
          rw [List.filter_eq_nil_iff]
          intro x hx
          obtain ⟨j, hj⟩ := List.getElem?_of_mem hx
          obtain ⟨q', hq', _, _, g3, _⟩ := h.pc j x hj
          by_cases hid : x.idx = k
          · rw [hid, hq] at hq'
            obtain rfl := Option.some.inj hq'
            simp [g3.2 (Or.inl hqf)]
          · simp [hid]
        rw [this]
        rfl
      | false =>
        rw [if_neg (by simp)]
        have hne : q.sizes ≠ [] := hW.has k q hq
        have hpos : 0 < q.sizes.length := List.length_pos_iff.2 hne
        obtain ⟨j, p, hp, f1, f2⟩ := h.ex k q (q.sizes.length - 1) hq (by omega)
        obtain ⟨q', hq', g1, g2, g3, g4⟩ := h.pc j p hp
        rw [f1, hq] at hq'
        obtain rfl := Option.some.inj hq'
        have hpf : p.freed = false := by
          cases hc : p.freed with
          | false => rfl
          | true =>
            rcases g3.1 hc with h1 | h1
            · rw [hqf] at h1; cases h1
            · omega
        have hfil : (r.pcs.filter fun p => p.idx == k && !p.freed) = [p] := by
          refine filter_one r.pcs _ j p hp (by simp [f1, hpf]) ?_
          intro j' x hx hxk
          simp at hxk
          obtain ⟨q', hq', g1', _, g3', _⟩ := h.pc j' x hx
          rw [hxk.1, hq] at hq'
          obtain rfl := Option.some.inj hq'
          refine h.one j' j x p hx hp (by rw [hxk.1, f1]) ?_
          have hlt := (List.getElem?_eq_some_iff.1 g1').1
          have : ¬ (x.age + 1 < q.sizes.length) := fun hc => by rw [g3'.2 (Or.inr hc)] at hxk; simp at hxk
          omega
        rw [hfil]
        simp [RPc.first, f1, f2, g4 hpf, g2]
  have := key s.places.length (Nat.le_refl _)
  rw [show r.all = r.upto r.next from rfl, h.next, this]
  rfl
end
end Go.Proofs.Ytpgoogjaoffdoaa
