/- The slab as data through SlabOnce: which addresses were got, which are good. -/
import Derived.Test.YtpgoogjaoffdoaaP
namespace Go.Proofs.Ytpgoogjaoffdoaa
set_option linter.unusedVariables false
set_option linter.unusedSimpArgs false

/-- What a get that answers OK leaves of the places. -/
theorem SS.get_shape {s s' : SS} {N a : Nat} (hW : s.WF N) (n : Int) (h : s.get n = ((a, 0), s')) :
    ∃ (i : Nat) (ps : List Nat), a = addrOf i ps.length 0 ∧ 1 ≤ n.toNat ∧ n.toNat ≤ 4095 ∧ i ≤ N ∧ ps.length ≤ N ∧ (∀ q : Pl, s.places[i]? = some q → q.freed = true ∧ q.sizes = ps) ∧ (s.places[i]? = none → ps = []) ∧
      (∀ (j : Nat) (q : Pl), s'.places[j]? = some q ↔ (j = i ∧ q = ⟨ps ++ [n.toNat], List.replicate n.toNat (0, false), false⟩) ∨ (j ≠ i ∧ s.places[j]? = some q)) ∧ s'.live = s.live + 1 := by
  unfold SS.get at h
  by_cases h1 : n < 1 ∨ 4095 < n
  · rw [if_pos h1] at h; simp at h
  · rw [if_neg h1] at h
    by_cases h2 : (s.room : Int) < s.used + n
    · rw [if_pos h2] at h; simp at h
    · rw [if_neg h2] at h
      dsimp only at h
      have e1 := congrArg Prod.fst (congrArg Prod.fst h)
      have e2 := congrArg Prod.snd h
      dsimp only at e1 e2
      have hset : ∀ (l : List Pl) (i : Nat) (p : Pl) (x : Pl), l[i]? = some p → ∀ (j : Nat) (q : Pl), (l.set i x)[j]? = some q ↔ (j = i ∧ q = x) ∨ (j ≠ i ∧ l[j]? = some q) := by
        intro l i p x hp j q
        have hl := (List.getElem?_eq_some_iff.1 hp).1
        rw [List.getElem?_set]
        by_cases e : i = j
        · subst e
          rw [if_pos rfl, if_pos hl]
          constructor
          · intro h; exact Or.inl ⟨rfl, (Option.some.inj h).symm⟩
          · rintro (⟨_, h⟩ | ⟨h, _⟩)
            · rw [h]
            · exact absurd rfl h
        · rw [if_neg e]
          constructor
          · intro h; exact Or.inr ⟨fun h => e h.symm, h⟩
          · rintro (⟨h, _⟩ | ⟨_, h⟩)
            · exact absurd h.symm e
            · exact h
      cases hl : s.free.getLast? with
      | some i =>
        obtain ⟨p, hp, hpf⟩ := (hW.freed i).1 (List.mem_of_getLast? hl)
        have hi : s.index = (i, { s with free := s.free.dropLast }) := by simp [SS.index, hl]
        rw [hi] at e1 e2
        simp only [SS.upd, hp, Option.map_some, Option.getD_some] at e1 e2
        have hil := (List.getElem?_eq_some_iff.1 hp).1
        have hnp := hW.nplaces
        refine ⟨i, p.sizes, e1.symm, by omega, by omega, by omega, hW.nsizes i p hp, fun q hq => ?_, fun hn => ?_, ?_, by rw [← e2]⟩
        · rw [hp] at hq; obtain rfl := Option.some.inj hq; exact ⟨hpf, rfl⟩
        · rw [hp] at hn; cases hn
        · rw [← e2]
          simp only
          rw [modify_set _ _ _ _ hp]
          exact hset _ _ _ _ hp
      | none =>
        have hi : s.index = (s.places.length, { s with places := s.places ++ [⟨[], [], false⟩] }) := by simp [SS.index, hl]
        rw [hi] at e1 e2
        have hp : (s.places ++ [(⟨[], [], false⟩ : Pl)])[s.places.length]? = some ⟨[], [], false⟩ := by simp
        simp only [SS.upd, hp, Option.map_some, Option.getD_some] at e1 e2
        refine ⟨s.places.length, [], e1.symm, by omega, by omega, hW.nplaces, by simp, fun q hq => by simp at hq, fun _ => rfl, ?_, by rw [← e2]⟩
        rw [← e2]
        simp only
        rw [modify_set _ _ _ _ hp]
        intro j q
        rw [hset _ _ _ _ hp]
        constructor
        · rintro (h | ⟨h, hq⟩)
          · exact Or.inl h
          · refine Or.inr ⟨h, ?_⟩
            rw [List.getElem?_append] at hq
            split at hq
            · exact hq
            · rename_i hlt
              cases hd : j - s.places.length with
              | zero => omega
              | succ m => rw [hd] at hq; simp at hq
        · rintro (h | ⟨h, hq⟩)
          · exact Or.inl h
          · exact Or.inr ⟨h, by rw [List.getElem?_append_left (List.getElem?_eq_some_iff.1 hq).1]; exact hq⟩

theorem SS.get_not {s s' : SS} {a e : Nat} {n : Int} (h : s.get n = ((a, e), s')) (he : e ≠ 0) : s' = s := by
  unfold SS.get at h
  by_cases h1 : n < 1 ∨ 4095 < n
  · rw [if_pos h1] at h; exact (congrArg Prod.snd h).symm
  · rw [if_neg h1] at h
    by_cases h2 : (s.room : Int) < s.used + n
    · rw [if_pos h2] at h; exact (congrArg Prod.snd h).symm
    · rw [if_neg h2] at h
      dsimp only at h
      exact absurd (congrArg Prod.snd (congrArg Prod.fst h)).symm he

theorem addrOf_inj {i j a b : Nat} (hi : i < 1048576) (hj : j < 1048576) (h : addrOf i a 0 = addrOf j b 0) : i = j ∧ a = b := by
  unfold addrOf at h
  have h' : a * 4294967296 + i * 4096 = b * 4294967296 + j * 4096 := by omega
  exact ⟨by omega, by omega⟩

/-- Which addresses were got (f), which are good (L); each good piece's first slot is full. -/
structure OInv (s : SS) (L : List Nat) (f : Int → Bool) : Prop where
  nodup : L.Nodup
  live : L.length = s.live
  seen : ∀ a : Nat, f a = true ↔ ∃ (i : Nat) (p : Pl) (age : Nat), s.places[i]? = some p ∧ age < p.sizes.length ∧ a = addrOf i age 0
  good : ∀ a : Nat, a ∈ L ↔ ∃ (i : Nat) (p : Pl), s.places[i]? = some p ∧ p.freed = false ∧ a = addrOf i (p.sizes.length - 1) 0
  full : ∀ (i : Nat) (p : Pl), s.places[i]? = some p → p.freed = false → ∃ v : Int, p.cells[0]? = some (v, true)

theorem OInv.start (R : Nat) : OInv ⟨R, 0, 0, [], []⟩ [] (fun _ => false) := ⟨by simp, rfl, by simp, by simp, by simp⟩

theorem find_last {s : SS} {N i : Nat} {p : Pl} (hW : s.WF N) (hp : s.places[i]? = some p) : s.find (addrOf i (p.sizes.length - 1) 0) = if p.freed = true then (0, 0, 14) else (i, 0, 0) := by
  have hil := (List.getElem?_eq_some_iff.1 hp).1
  have hnp := hW.nplaces
  have hb := hW.bound
  have hns := hW.nsizes i p hp
  have hne : p.sizes.length ≠ 0 := fun h => hW.has i p hp (List.eq_nil_of_length_eq_zero h)
  obtain ⟨m, hm⟩ : ∃ m, p.sizes.length = m + 1 := ⟨p.sizes.length - 1, by omega⟩
  rw [hm, Nat.add_sub_cancel]
  have f1 : ¬ addrOf i m 0 < lowMark := by unfold addrOf lowMark; omega
  have f2 : (addrOf i m 0 - lowMark) % 4294967296 / 4096 = i := by unfold addrOf lowMark; omega
  have f3 : (addrOf i m 0 - lowMark) / 4294967296 = m := by unfold addrOf lowMark; omega
  have f4 : addrOf i m 0 % 4096 = 0 := by unfold addrOf; omega
  have hz : p.sizes[m]? = some p.sizes[m] := List.getElem?_eq_getElem (by omega)
  have hs := (hW.small i p hp _ (List.mem_of_getElem? hz)).1
  unfold SS.find
  rw [if_neg f1, f2, hp, f3, f4]
  dsimp only
  rw [hz]
  dsimp only
  rw [if_neg (by omega)]
  by_cases hf : p.freed = true
  · rw [if_pos (Or.inl hf), if_pos hf]
  · rw [if_neg (by rintro (h | h); exact hf h; omega), if_neg hf]

theorem addrOf_lt {i age : Nat} (hi : i < 1048576) (ha : age < 1048576) : addrOf i age 0 < 18446744073709551616 := by unfold addrOf; omega

theorem upd_shape {s : SS} {i : Nat} {p : Pl} (g : Pl → Pl) (hp : s.places[i]? = some p) (j : Nat) (q : Pl) :
    (s.upd i g).places[j]? = some q ↔ (j = i ∧ q = g p) ∨ (j ≠ i ∧ s.places[j]? = some q) := by
  simp only [SS.upd]
  rw [modify_set _ _ _ _ hp]
  have hl := (List.getElem?_eq_some_iff.1 hp).1
  rw [List.getElem?_set]
  by_cases e : i = j
  · subst e
    rw [if_pos rfl, if_pos hl]
    constructor
    · intro h; exact Or.inl ⟨rfl, (Option.some.inj h).symm⟩
    · rintro (⟨_, h⟩ | ⟨h, _⟩)
      · rw [h]
      · exact absurd rfl h
  · rw [if_neg e]
    constructor
    · intro h; exact Or.inr ⟨fun h => e h.symm, h⟩
    · rintro (⟨h, _⟩ | ⟨_, h⟩)
      · exact absurd h.symm e
      · exact h

theorem SS.load_of {s : SS} {i a : Nat} {p : Pl} {v : Int} (hv : p.cells[0]? = some (v, true)) (hp : s.places[i]? = some p) (e : s.find a = (i, 0, 0)) : s.load a = (v, 0) := by
  have : s.cellAt i 0 = (v, true) := by
    unfold SS.cellAt
    rw [hp]
    show (p.cells[0]?).getD (0, false) = (v, true)
    rw [hv]; rfl
  unfold SS.load
  rw [e]
  dsimp only
  rw [this]
  simp
theorem SS.set_of {s : SS} {i a : Nat} (c : Int × Bool) (e : s.find a = (i, 0, 0)) : s.set a c = (0, s.upd i fun p => { p with cells := p.cells.set 0 c }) := by
  unfold SS.set
  rw [e]
  simp
theorem SS.set_bad {s : SS} {a : Nat} (c : Int × Bool) (e : s.find a = (0, 0, 14)) : s.set a c = (14, s) := by
  unfold SS.set
  rw [e]
  simp
theorem SS.free_bad {s : SS} {a : Nat} (e : s.find a = (0, 0, 14)) : s.free1 a = (14, s) := by
  unfold SS.free1
  rw [e]
  simp
theorem SS.free_of {s : SS} {i a : Nat} (e : s.find a = (i, 0, 0)) : ∃ s', s.free1 a = (0, s') ∧ s'.places = (s.upd i fun p => { p with cells := [], freed := true }).places ∧ s'.live = s.live - 1 := by
  refine ⟨(s.free1 a).2, ?_, ?_, ?_⟩
  · unfold SS.free1
    rw [e]
    simp
  · unfold SS.free1
    rw [e]
    simp
  · unfold SS.free1
    rw [e]
    simp

theorem OInv.lt {s : SS} {N : Nat} {L : List Nat} {f : Int → Bool} (hW : s.WF N) (h : OInv s L f) {b : Nat} (hb : b ∈ L) : b < 18446744073709551616 := by
  obtain ⟨i, p, hp, _, rfl⟩ := (h.good b).1 hb
  have h1 := (List.getElem?_eq_some_iff.1 hp).1
  have h2 := hW.nplaces
  have h3 := hW.bound
  have h4 := hW.nsizes i p hp
  exact addrOf_lt (by omega) (by omega)

theorem OInv.load {s : SS} {N : Nat} {L : List Nat} {f : Int → Bool} (hW : s.WF N) (h : OInv s L f) {b : Nat} (hb : b ∈ L) : ∃ v, s.load b = (v, 0) := by
  obtain ⟨i, p, hp, hf, rfl⟩ := (h.good b).1 hb
  obtain ⟨v, hv⟩ := h.full i p hp hf
  have e := find_last hW hp
  rw [if_neg (by rw [hf]; simp)] at e
  exact ⟨v, SS.load_of hv hp e⟩

theorem OInv.got {s s' : SS} {N a : Nat} {L : List Nat} {f : Int → Bool} (hW : s.WF N) (hN : N + 1 < 1048576) (h : OInv s L f) (n : Int) (hg : s.get n = ((a, 0), s')) (v : Int) :
    f a = false ∧ a < 18446744073709551616 ∧ ∃ s'', s'.set a (v, true) = (0, s'') ∧ OInv s'' (L ++ [a]) (fun m => if m = (a : Int) then true else f m) := by
  have hW' := WF.get hW hN n
  rw [hg] at hW'
  obtain ⟨i, ps, ha, hm1, hm2, hi, hps, hold, hnew, hsh, hlive⟩ := SS.get_shape hW n hg
  have hp : s'.places[i]? = some ⟨ps ++ [n.toNat], List.replicate n.toNat (0, false), false⟩ := (hsh i _).2 (Or.inl ⟨rfl, rfl⟩)
  have hfind := find_last hW' hp
  simp only [List.length_append, List.length_singleton, Nat.add_sub_cancel, Bool.false_eq_true, if_false] at hfind
  rw [← ha] at hfind
  have hfa : f a = false := by
    cases e : f a with
    | false => rfl
    | true =>
      obtain ⟨j, p, age, hj, hage, haj⟩ := (h.seen a).1 e
      rw [ha] at haj
      have h1 := (List.getElem?_eq_some_iff.1 hj).1
      have h2 := hW.nplaces
      obtain ⟨rfl, rfl⟩ := addrOf_inj (by omega) (by omega) haj
      have := (hold p hj).2
      rw [this] at hage
      omega
  have hset := SS.set_of (v, true) hfind
  have hup := upd_shape (s := s') (fun p => { p with cells := p.cells.set 0 (v, true) }) hp
  have key : ∀ (j : Nat) (q : Pl), (s'.upd i fun p => { p with cells := p.cells.set 0 (v, true) }).places[j]? = some q ↔
      (j = i ∧ q = ⟨ps ++ [n.toNat], (List.replicate n.toNat ((0 : Int), false)).set 0 (v, true), false⟩) ∨ (j ≠ i ∧ s.places[j]? = some q) := by
    intro j q
    rw [hup, hsh]
    constructor
    · rintro (h | ⟨h1, h2 | h2⟩)
      · exact Or.inl h
      · exact absurd h2.1 h1
      · exact Or.inr h2
    · rintro (h | h)
      · exact Or.inl h
      · exact Or.inr ⟨h.1, Or.inr h⟩
  have hag : a ∉ L := by
    intro hL
    obtain ⟨j, p, hj, hf, haj⟩ := (h.good a).1 hL
    rw [ha] at haj
    have h1 := (List.getElem?_eq_some_iff.1 hj).1
    have h2 := hW.nplaces
    obtain ⟨rfl, _⟩ := addrOf_inj (by omega) (by omega) haj
    have := (hold p hj).1
    rw [hf] at this; cases this
  refine ⟨hfa, by rw [ha]; exact addrOf_lt (by omega) (by omega), _, hset, ?_, ?_, ?_, ?_, ?_⟩
  · rw [List.nodup_append]
    exact ⟨h.nodup, by simp, fun x hx y hy => by simp at hy; subst hy; rintro rfl; exact hag hx⟩
  · simp only [List.length_append, List.length_singleton, SS.upd]
    rw [hlive, h.live]
  · intro m
    try dsimp only
    by_cases hm : (m : Int) = (a : Int)
    · rw [if_pos hm]
      have hm' : m = a := by omega
      refine ⟨fun _ => ⟨i, _, ps.length, (key i _).2 (Or.inl ⟨rfl, rfl⟩), by simp, by rw [hm', ha]⟩, fun _ => rfl⟩
    · rw [if_neg hm, h.seen]
      constructor
      · rintro ⟨j, p, age, hj, hage, rfl⟩
        by_cases e : j = i
        · subst e
          have := (hold p hj).2
          exact ⟨j, _, age, (key j _).2 (Or.inl ⟨rfl, rfl⟩), by rw [this] at hage; simp; omega, rfl⟩
        · exact ⟨j, p, age, (key j p).2 (Or.inr ⟨e, hj⟩), hage, rfl⟩
      · rintro ⟨j, p, age, hj, hage, rfl⟩
        rcases (key j p).1 hj with ⟨rfl, rfl⟩ | ⟨e, hj'⟩
        · simp only [List.length_append, List.length_singleton] at hage
          have hne : age ≠ ps.length := by rintro rfl; exact hm (by rw [ha])
          cases hq : s.places[j]? with
          | none =>
            rw [hnew hq] at hage hne
            simp only [List.length_nil] at hage hne
            omega
          | some q => exact ⟨j, q, age, hq, by rw [(hold q hq).2]; omega, rfl⟩
        · exact ⟨j, p, age, hj', hage, rfl⟩
  · intro m
    rw [List.mem_append, List.mem_singleton, h.good]
    constructor
    · rintro (⟨j, p, hj, hf, rfl⟩ | rfl)
      · have e : j ≠ i := by
          rintro rfl
          have := (hold p hj).1
          rw [hf] at this; cases this
        exact ⟨j, p, (key j p).2 (Or.inr ⟨e, hj⟩), hf, rfl⟩
      · exact ⟨i, _, (key i _).2 (Or.inl ⟨rfl, rfl⟩), rfl, by simp [ha]⟩
    · rintro ⟨j, p, hj, hf, rfl⟩
      rcases (key j p).1 hj with ⟨rfl, rfl⟩ | ⟨e, hj'⟩
      · exact Or.inr (by simp [ha])
      · exact Or.inl ⟨j, p, hj', hf, rfl⟩
  · intro j p hj hf
    rcases (key j p).1 hj with ⟨rfl, rfl⟩ | ⟨e, hj'⟩
    · exact ⟨v, List.getElem?_set_self (by rw [List.length_replicate]; omega)⟩
    · exact h.full j p hj' hf

theorem OInv.freed {s : SS} {N k b : Nat} {L : List Nat} {f : Int → Bool} (hW : s.WF N) (h : OInv s L f) (hb : L[k]? = some b) :
    ∃ s', s.free1 b = (0, s') ∧ OInv s' (L.eraseIdx k) f ∧ s'.free1 b = (14, s') ∧ s'.set b (1, true) = (14, s') := by
  have hbL : b ∈ L := List.mem_of_getElem? hb
  have hkL := (List.getElem?_eq_some_iff.1 hb).1
  obtain ⟨i, p, hp, hpf, hbi⟩ := (h.good b).1 hbL
  have e := find_last hW hp
  rw [if_neg (by rw [hpf]; simp), ← hbi] at e
  obtain ⟨s', hfr, hpl, hli⟩ := SS.free_of e
  have hW' := WF.free hW b
  rw [hfr] at hW'
  have key : ∀ (j : Nat) (q : Pl), s'.places[j]? = some q ↔ (j = i ∧ q = { p with cells := [], freed := true }) ∨ (j ≠ i ∧ s.places[j]? = some q) := by
    intro j q
    rw [hpl]
    exact upd_shape _ hp j q
  have hpi : s'.places[i]? = some { p with cells := [], freed := true } := (key i _).2 (Or.inl ⟨rfl, rfl⟩)
  have e' := find_last hW' hpi
  simp only [if_true] at e'
  rw [← hbi] at e'
  refine ⟨s', hfr, ⟨?_, ?_, ?_, ?_, ?_⟩, ?_, ?_⟩
  · exact (List.eraseIdx_sublist L k).nodup h.nodup
  · rw [List.length_eraseIdx_of_lt hkL, hli, h.live]
  · intro a
    rw [h.seen]
    constructor
    · rintro ⟨j, q, age, hj, hage, rfl⟩
      by_cases ej : j = i
      · subst ej
        rw [hp] at hj
        obtain rfl := Option.some.inj hj
        exact ⟨j, _, age, hpi, hage, rfl⟩
      · exact ⟨j, q, age, (key j q).2 (Or.inr ⟨ej, hj⟩), hage, rfl⟩
    · rintro ⟨j, q, age, hj, hage, rfl⟩
      rcases (key j q).1 hj with ⟨rfl, rfl⟩ | ⟨ej, hj'⟩
      · exact ⟨j, p, age, hp, hage, rfl⟩
      · exact ⟨j, q, age, hj', hage, rfl⟩
  · intro a
    have hmem : a ∈ L.eraseIdx k ↔ a ∈ L ∧ a ≠ b := by
      rw [List.mem_eraseIdx_iff_getElem?]
      constructor
      · rintro ⟨j, hjk, hj⟩
        refine ⟨List.mem_of_getElem? hj, ?_⟩
        rintro rfl
        exact hjk ((List.getElem?_inj (List.getElem?_eq_some_iff.1 hj).1 h.nodup).1 (hj.trans hb.symm))
      · rintro ⟨ha, hne⟩
        obtain ⟨j, hj⟩ := List.mem_iff_getElem?.1 ha
        refine ⟨j, ?_, hj⟩
        rintro rfl
        rw [hb] at hj
        exact hne (Option.some.inj hj).symm
    rw [hmem, h.good]
    constructor
    · rintro ⟨⟨j, q, hj, hqf, rfl⟩, hne⟩
      have ej : j ≠ i := by
        rintro rfl
        rw [hp] at hj
        obtain rfl := Option.some.inj hj
        exact hne hbi.symm
      exact ⟨j, q, (key j q).2 (Or.inr ⟨ej, hj⟩), hqf, rfl⟩
    · rintro ⟨j, q, hj, hqf, rfl⟩
      rcases (key j q).1 hj with ⟨rfl, rfl⟩ | ⟨ej, hj'⟩
      · simp at hqf
      · refine ⟨⟨j, q, hj', hqf, rfl⟩, fun he => ej ?_⟩
        rw [hbi] at he
        have h1 := (List.getElem?_eq_some_iff.1 hj').1
        have h2 := (List.getElem?_eq_some_iff.1 hp).1
        have h3 := hW.nplaces
        have h4 := hW.bound
        exact (addrOf_inj (by omega) (by omega) he).1
  · intro j q hj hqf
    rcases (key j q).1 hj with ⟨rfl, rfl⟩ | ⟨ej, hj'⟩
    · simp at hqf
    · exact h.full j q hj' hqf
  · exact SS.free_bad e'
  · exact SS.set_bad _ e'
end Go.Proofs.Ytpgoogjaoffdoaa
