/- The slab and the document's slab answer alike: plain law. -/
import Derived.Test.YtpgoogjaoffdoaaRef17
import Derived.Test.YtpgoogjaoffdoaaRef16
import Derived.Test.YtpgoogjaoffdoaaOnceS
import Derived.Test.YtpgoogjaoffdoaaAll
namespace Go.Proofs.Ytpgoogjaoffdoaa
set_option linter.unusedVariables false
set_option linter.unusedSimpArgs false

structure Sim (s : SS) (r : RSS) : Prop where
  room : r.room = s.room
  fre : r.fre = s.free
  next : r.next = s.places.length
  pc : ∀ (j : Nat) (p : RPc), r.pcs[j]? = some p → ∃ q : Pl, s.places[p.idx]? = some q ∧ q.sizes[p.age]? = some p.vals.length ∧ p.has.length = p.vals.length ∧ (p.freed = true ↔ q.freed = true ∨ p.age + 1 < q.sizes.length) ∧ (p.freed = false → q.cells = p.vals.zip p.has)
  ex : ∀ (i : Nat) (q : Pl) (a : Nat), s.places[i]? = some q → a < q.sizes.length → ∃ (j : Nat) (p : RPc), r.pcs[j]? = some p ∧ p.idx = i ∧ p.age = a
  one : ∀ (j k : Nat) (p q : RPc), r.pcs[j]? = some p → r.pcs[k]? = some q → p.idx = q.idx → p.age = q.age → j = k
  cnt : ∀ i, (r.pcs.map fun p => if p.idx = i then 1 else 0).sum = ((s.places[i]?).map fun q => q.sizes.length).getD 0
  used : r.used = s.used
  live : r.live = s.live

theorem Sim.start (n : Nat) : Sim ⟨n, 0, 0, [], []⟩ ⟨n, [], [], 0⟩ where
  room := rfl
  fre := rfl
  next := rfl
  pc j p h := by simp at h
  ex i q a h := by simp at h
  one j k p q h := by simp at h
  cnt i := by simp
  used := by simp [RSS.used]
  live := by simp [RSS.live]

theorem findIn_none (a : Nat) : ∀ (ps : List RPc) (i : Nat), findIn a ps i = (0, 0, 12) → ∀ p ∈ ps, ¬ (p.first ≤ a ∧ a < p.first + p.vals.length)
  | [], i, _ => by simp
  | p :: ps, i, h => by
    unfold findIn at h
    by_cases h1 : p.first ≤ a ∧ a < p.first + p.vals.length
    · rw [if_pos h1] at h
      split at h <;> simp at h
    · rw [if_neg h1] at h
      intro q hq
      rcases List.mem_cons.1 hq with rfl | hq
      · exact h1
      · exact findIn_none a ps (i + 1) h q hq

/-- Where a piece lies: the plain slab's numbers of one of its addresses. -/
theorem addr_parts {i age k a : Nat} (hi : i < 1048576) (ha : age < 1048576) (hk : k < 4096) (h : a = addrOf i age k) :
    ¬ a < lowMark ∧ (a - lowMark) % 4294967296 / 4096 = i ∧ (a - lowMark) / 4294967296 = age ∧ a % 4096 = k := by
  subst h
  unfold addrOf lowMark
  refine ⟨by omega, by omega, by omega, by omega⟩

theorem addr_of_parts {a : Nat} (h : ¬ a < lowMark) : a = addrOf ((a - lowMark) % 4294967296 / 4096) ((a - lowMark) / 4294967296) (a % 4096) := by
  unfold addrOf
  unfold lowMark at *
  omega

theorem RPc.first_add (p : RPc) (k : Nat) : p.first + k = addrOf p.idx p.age k := by unfold RPc.first addrOf; omega

section
variable {s : SS} {r : RSS} {N : Nat}

theorem Sim.bounds (h : Sim s r) (hW : s.WF N) {j : Nat} {p : RPc} (hp : r.pcs[j]? = some p) : p.idx < 1048576 ∧ p.age < 1048576 ∧ p.vals.length ≤ 4095 ∧ p.has.length = p.vals.length ∧ p.idx < s.places.length := by
  obtain ⟨q, hq, hz, hh, _⟩ := h.pc j p hp
  have h1 := (List.getElem?_eq_some_iff.1 hq).1
  have h2 := (List.getElem?_eq_some_iff.1 hz).1
  have h3 := hW.nplaces
  have h4 := hW.nsizes _ q hq
  have h5 := hW.small _ q hq _ (List.mem_of_getElem? hz)
  have h6 := hW.bound
  exact ⟨by omega, by omega, h5.2, hh, h1⟩

theorem Sim.find (h : Sim s r) (hW : s.WF N) (a : Nat) :
    (∃ e i k, (e = 12 ∨ e = 14) ∧ s.find a = (0, 0, e) ∧ r.find a = (i, k, e)) ∨
    (∃ (i k j : Nat) (p : RPc) (q : Pl), s.find a = (i, k, 0) ∧ r.find a = (j, k, 0) ∧ r.pcs[j]? = some p ∧ s.places[i]? = some q ∧ p.idx = i ∧ p.age + 1 = q.sizes.length ∧ p.freed = false ∧ q.freed = false ∧ k < p.vals.length ∧ q.cells = p.vals.zip p.has ∧ p.has.length = p.vals.length ∧ p.vals.length ≤ 4095) := by
  rcases r.find_is a with h0 | ⟨j, p, hp, h1, h2, h3⟩
  · refine Or.inl ⟨12, 0, 0, Or.inl rfl, ?_, h0⟩
    have hnone := findIn_none a r.pcs 0 h0
    unfold SS.find
    split
    · rfl
    · rename_i hlow
      split
      · rfl
      · rename_i q hq
        split
        · rfl
        · rename_i z hz
          split
          · rfl
          · rename_i hslot
            exfalso
            have hlt := (List.getElem?_eq_some_iff.1 hz).1
            obtain ⟨j, p, hp, hpi, hpa⟩ := h.ex _ q _ hq hlt
            obtain ⟨q', hq', hz', _⟩ := h.pc j p hp
            rw [hpi] at hq'
            obtain rfl := Option.some.inj (hq.symm.trans hq')
            rw [hpa, hz] at hz'
            have hzz := Option.some.inj hz'
            refine hnone p (List.mem_of_getElem? hp) ?_
            have e := addr_of_parts hlow
            rw [← hpi, ← hpa, ← RPc.first_add] at e
            omega
  · obtain ⟨q, hq, hz, hh, hfr, hce⟩ := h.pc j p hp
    obtain ⟨b1, b2, b3, _, _⟩ := h.bounds hW hp
    obtain ⟨k, hk⟩ : ∃ k, a = p.first + k := ⟨a - p.first, by omega⟩
    have hkl : k < p.vals.length := by omega
    have hak : a = addrOf p.idx p.age k := by rw [hk, RPc.first_add]
    obtain ⟨c1, c2, c3, c4⟩ := addr_parts b1 b2 (by omega) hak
    have hsub : a - p.first = k := by omega
    have hs : s.find a = if q.freed = true ∨ p.age + 1 < q.sizes.length then (0, 0, 14) else (p.idx, k, 0) := by
      unfold SS.find
      rw [if_neg c1, c2, hq]
      dsimp only
      rw [c3, hz]
      dsimp only
      rw [c4, if_neg (by omega)]
    rw [hsub] at h3
    cases hf : p.freed with
    | true =>
      rw [hf, if_pos rfl] at h3
      rw [if_pos (hfr.1 hf)] at hs
      exact Or.inl ⟨14, j, k, Or.inr rfl, hs, h3⟩
    | false =>
      rw [hf, if_neg (by simp)] at h3
      have hn : ¬ (q.freed = true ∨ p.age + 1 < q.sizes.length) := fun hc => by rw [hfr.2 hc] at hf; cases hf
      rw [if_neg hn] at hs
      have hlt := (List.getElem?_eq_some_iff.1 hz).1
      exact Or.inr ⟨p.idx, k, j, p, q, hs, h3, hp, hq, rfl, by omega, hf, by cases hqf : q.freed with
        | true => exact absurd (Or.inl hqf) hn
        | false => rfl, hkl, hce hf, hh, b3⟩

theorem Sim.load (h : Sim s r) (hW : s.WF N) (a : Nat) : s.load a = r.load a := by
  rcases h.find hW a with ⟨e, i, k, he, h1, h2⟩ | ⟨i, k, j, p, q, h1, h2, hp, hq, hi, ha, hf, hqf, hk, hc, hh, _⟩
  · unfold SS.load RSS.load
    rw [h1, h2]
    dsimp only
    rw [if_pos (by omega), if_pos (by omega)]
  · unfold SS.load RSS.load
    rw [h1, h2]
    dsimp only
    rw [if_neg (show ¬ ((0 : Nat) ≠ 0) by omega), if_neg (show ¬ ((0 : Nat) ≠ 0) by omega), hp]
    dsimp only
    have hx : s.cellAt i k = (p.vals[k], p.has[k]'(by omega)) := by
      unfold SS.cellAt
      rw [hq]
      simp only [Option.bind_some]
      rw [hc, List.getElem?_eq_getElem (by simp; omega)]
      simp
    rw [hx]
    simp only [List.getD_eq_getElem?_getD, List.getElem?_eq_getElem hk, List.getElem?_eq_getElem (show k < p.has.length by omega), Option.getD_some]

theorem Sim.size (h : Sim s r) (hW : s.WF N) (a : Nat) : s.size a = r.size a := by
  rcases h.find hW a with ⟨e, i, k, he, h1, h2⟩ | ⟨i, k, j, p, q, h1, h2, hp, hq, hi, ha, hf, hqf, hk, hc, hh, _⟩
  · unfold SS.size RSS.size
    rw [h1, h2]
    dsimp only
    rw [if_pos (by omega), if_pos (by omega)]
  · unfold SS.size RSS.size
    rw [h1, h2]
    dsimp only
    rw [if_neg (show ¬ ((0 : Nat) ≠ 0) by omega), if_neg (show ¬ ((0 : Nat) ≠ 0) by omega)]
    simp only [SS.lenAt, RSS.lenAt, hq, hp, Option.map_some, Option.getD_some, hc]
    simp [hh]

theorem Sim.off (h : Sim s r) (hW : s.WF N) (a : Nat) (n : Int) : s.off a n = r.off a n := by
  rcases h.find hW a with ⟨e, i, k, he, h1, h2⟩ | ⟨i, k, j, p, q, h1, h2, hp, hq, hi, ha, hf, hqf, hk, hc, hh, _⟩
  · unfold SS.off RSS.off
    rw [h1, h2]
    dsimp only
    rw [if_pos (by omega), if_pos (by omega)]
  · unfold SS.off RSS.off
    rw [h1, h2]
    dsimp only
    rw [if_neg (show ¬ ((0 : Nat) ≠ 0) by omega), if_neg (show ¬ ((0 : Nat) ≠ 0) by omega)]
    have hl : s.lenAt i = p.vals.length := by simp [SS.lenAt, hq, hc, hh]
    have hl2 : r.lenAt j = p.vals.length := by simp [RSS.lenAt, hp]
    have hage : s.ageAt i = p.age := by simp [SS.ageAt, hq]; omega
    rw [hl, hl2, hage, hp]
    by_cases hb : n < -(k : Int) ∨ (p.vals.length : Int) - k ≤ n
    · rw [if_pos hb, if_pos (by omega)]
    · rw [if_neg hb, if_neg (by omega)]
      simp [hi]

theorem sumR_modify (l : List RPc) (f : RPc → Nat) (g : RPc → RPc) : ∀ (i : Nat) (p : RPc), l[i]? = some p → ((l.modify i g).map f).sum + f p = (l.map f).sum + f (g p) := by
  induction l with
  | nil => intro i p h; simp at h
  | cons x l ih =>
    intro i p h
    cases i with
    | zero =>
      simp only [List.getElem?_cons_zero, Option.some.injEq] at h
      subst h
      simp [List.modify_cons]
      omega
    | succ i =>
      simp only [List.getElem?_cons_succ] at h
      have := ih i p h
      simp [List.modify_cons]
      omega

theorem modR_get {l : List RPc} {j : Nat} {p : RPc} (g : RPc → RPc) (hp : l[j]? = some p) (k : Nat) (x : RPc) : (l.modify j g)[k]? = some x ↔ (k = j ∧ x = g p) ∨ (k ≠ j ∧ l[k]? = some x) := by
  rw [List.getElem?_modify]
  by_cases e : j = k
  · subst e
    rw [hp]
    simp
    exact eq_comm
  · have : k ≠ j := fun h => e h.symm
    simp [e, this]

theorem zip_set : ∀ (l : List Int) (m : List Bool) (k : Nat) (a : Int) (b : Bool), (l.set k a).zip (m.set k b) = (l.zip m).set k (a, b)
  | [], m, k, a, b => by simp
  | x :: l, [], k, a, b => by simp
  | x :: l, y :: m, 0, a, b => by simp
  | x :: l, y :: m, k + 1, a, b => by simp [zip_set l m k a b]

theorem Sim.set (h : Sim s r) (hW : s.WF N) (a : Nat) (c : Int × Bool) : (s.set a c).1 = (r.set a c).1 ∧ Sim (s.set a c).2 (r.set a c).2 := by
  rcases h.find hW a with ⟨e, i, k, he, h1, h2⟩ | ⟨i, k, j, p, q, h1, h2, hp, hq, hi, ha, hf, hqf, hk, hc, hh, _⟩
  · unfold SS.set RSS.set
    rw [h1, h2]
    dsimp only
    rw [if_pos (by omega), if_pos (by omega)]
    exact ⟨rfl, h⟩
  · unfold SS.set RSS.set
    rw [h1, h2]
    dsimp only
    rw [if_neg (show ¬ ((0 : Nat) ≠ 0) by omega), if_neg (show ¬ ((0 : Nat) ≠ 0) by omega)]
    refine ⟨rfl, ?_⟩
    have hmod : ∀ (j' : Nat) (x : RPc), (r.pcs.modify j fun p => { p with vals := p.vals.set k c.1, has := p.has.set k c.2 })[j']? = some x → ∃ x0 : RPc, r.pcs[j']? = some x0 ∧ x.idx = x0.idx ∧ x.age = x0.age ∧ x.freed = x0.freed ∧ x.vals.length = x0.vals.length ∧ x.has.length = x0.has.length ∧ (j' ≠ j → x = x0) ∧ (j' = j → x0 = p ∧ x = { p with vals := p.vals.set k c.1, has := p.has.set k c.2 }) := by
      intro j' x hx
      rcases (modR_get _ hp j' x).1 hx with ⟨rfl, rfl⟩ | ⟨hne, hx⟩
      · exact ⟨p, hp, rfl, rfl, rfl, by simp, by simp, fun h => absurd rfl h, fun _ => ⟨rfl, rfl⟩⟩
      · exact ⟨x, hx, rfl, rfl, rfl, rfl, rfl, fun _ => rfl, fun e => absurd e hne⟩
    have hmod2 : ∀ (j' : Nat) (x0 : RPc), r.pcs[j']? = some x0 → ∃ x : RPc, (r.pcs.modify j fun p => { p with vals := p.vals.set k c.1, has := p.has.set k c.2 })[j']? = some x ∧ x.idx = x0.idx ∧ x.age = x0.age := by
      intro j' x0 hx
      by_cases e : j' = j
      · subst e
        obtain rfl := Option.some.inj (hp.symm.trans hx)
        exact ⟨_, (modR_get _ hp j' _).2 (Or.inl ⟨rfl, rfl⟩), rfl, rfl⟩
      · exact ⟨x0, (modR_get _ hp j' _).2 (Or.inr ⟨e, hx⟩), rfl, rfl⟩
    have hms := modify_set s.places i (fun p => { p with cells := p.cells.set k c }) q hq
    have hil := (List.getElem?_eq_some_iff.1 hq).1
    have hpl : ∀ (i' : Nat) (y : Pl), (s.places.modify i fun p => { p with cells := p.cells.set k c })[i']? = some y ↔ (i' = i ∧ y = { q with cells := q.cells.set k c }) ∨ (i' ≠ i ∧ s.places[i']? = some y) := by
      intro i' y
      rw [hms, List.getElem?_set]
      by_cases e : i = i'
      · subst e
        rw [if_pos rfl, if_pos hil]
        simp
        exact eq_comm
      · have : i' ≠ i := fun h => e h.symm
        simp [e, this]
    refine ⟨h.room, h.fre, by simpa [RSS.upd, SS.upd] using h.next, ?_, ?_, ?_, ?_, ?_, ?_⟩
    · intro j' x hx
      obtain ⟨x0, hx0, e1, e2, e3, e4, e5, e6, e7⟩ := hmod j' x hx
      obtain ⟨q0, hq0, g1, g2, g3, g4⟩ := h.pc j' x0 hx0
      by_cases hid : x0.idx = i
      · rw [hid, hq] at hq0
        obtain rfl := Option.some.inj hq0
        refine ⟨_, (hpl _ _).2 (Or.inl ⟨by rw [e1, hid], rfl⟩), by rw [e2, e4]; exact g1, by rw [e4, e5]; exact g2, by rw [e3, e2]; exact g3, ?_⟩
        intro hxf
        rw [e3] at hxf
        have hold : x0.age + 1 = q.sizes.length := by
          have hlt := (List.getElem?_eq_some_iff.1 g1).1
          have : ¬ (x0.age + 1 < q.sizes.length) := fun hc => by rw [g3.2 (Or.inr hc)] at hxf; cases hxf
          omega
        have hjj := h.one j' j x0 p hx0 hp (hid.trans hi.symm) (by omega)
        obtain ⟨_, hxe⟩ := e7 hjj
        rw [hxe, hc]
        exact (zip_set _ _ _ _ _).symm
      · refine ⟨q0, (hpl _ _).2 (Or.inr ⟨by rw [e1]; exact hid, by rw [e1]; exact hq0⟩), by rw [e2, e4]; exact g1, by rw [e4, e5]; exact g2, by rw [e3, e2]; exact g3, ?_⟩
        have hne : j' ≠ j := fun hc => by
          obtain ⟨hx0p, _⟩ := e7 hc
          rw [hx0p] at hid; exact hid hi
        rw [e6 hne]
        exact g4
    · intro i' y a' hy ha'
      rcases (hpl i' y).1 hy with ⟨rfl, rfl⟩ | ⟨_, hy⟩
      · obtain ⟨j', p', hp', f1, f2⟩ := h.ex i' q a' hq ha'
        obtain ⟨x, hx, f3, f4⟩ := hmod2 j' p' hp'
        exact ⟨j', x, hx, f3.trans f1, f4.trans f2⟩
      · obtain ⟨j', p', hp', f1, f2⟩ := h.ex i' y a' hy ha'
        obtain ⟨x, hx, f3, f4⟩ := hmod2 j' p' hp'
        exact ⟨j', x, hx, f3.trans f1, f4.trans f2⟩
    · intro j1 j2 x y hx hy ei ea
      obtain ⟨x0, hx0, e1, e2, _⟩ := hmod j1 x hx
      obtain ⟨y0, hy0, d1, d2, _⟩ := hmod j2 y hy
      exact h.one j1 j2 x0 y0 hx0 hy0 (by rw [← e1, ← d1, ei]) (by rw [← e2, ← d2, ea])
    · intro i'
      have hsum := sumR_modify r.pcs (fun p => if p.idx = i' then 1 else 0) (fun p => { p with vals := p.vals.set k c.1, has := p.has.set k c.2 }) j p hp
      have hcn := h.cnt i'
      dsimp only at hsum
      have hpls : ((s.places.modify i fun p => { p with cells := p.cells.set k c })[i']?.map fun q => q.sizes.length) = (s.places[i']?.map fun q => q.sizes.length) := by
        rw [hms, List.getElem?_set]
        by_cases e : i = i'
        · subst e
          rw [if_pos rfl, if_pos hil, hq]
          rfl
        · rw [if_neg e]
      simp only [RSS.upd, SS.upd]
      rw [hpls, ← hcn]
      omega
    · have hsum := sumR_modify r.pcs (fun p => if p.freed = true then 0 else p.vals.length) (fun p => { p with vals := p.vals.set k c.1, has := p.has.set k c.2 }) j p hp
      have hu := h.used
      simp only [List.length_set] at hsum
      simp only [RSS.used, RSS.upd, SS.upd] at hu ⊢
      omega
    · have hsum := sumR_modify r.pcs (fun p => if p.freed = true then 0 else 1) (fun p => { p with vals := p.vals.set k c.1, has := p.has.set k c.2 }) j p hp
      have hu := h.live
      dsimp only at hsum
      simp only [RSS.live, RSS.upd, SS.upd] at hu ⊢
      omega
end
end Go.Proofs.Ytpgoogjaoffdoaa
