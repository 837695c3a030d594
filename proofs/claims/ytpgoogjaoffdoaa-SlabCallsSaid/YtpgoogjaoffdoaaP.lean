/- Plain laws of the slab as data: what always holds of it goes on holding behind each call. -/
import Derived.Test.YtpgoogjaoffdoaaCon5
namespace Go.Proofs.Ytpgoogjaoffdoaa
set_option linter.unusedVariables false
set_option linter.unusedSimpArgs false

theorem WF.start (n : Nat) (h : n ≤ 16384) : (SS.mk n 0 0 [] []).WF 0 where
  bound := by omega
  nplaces := by simp
  nsizes i p h := by simp at h
  small i p h := by simp at h
  cells i p h := by simp at h
  has i p h := by simp at h
  frees := by simp
  freed i := by simp
  room := h
  used := by simp
  live := by simp
  fits := by simp

theorem WF.mono {s : SS} {N M : Nat} (h : s.WF N) (hNM : N ≤ M) (hM : M < 1048576) : s.WF M :=
  { h with bound := hM, nplaces := by have := h.nplaces; omega, nsizes := fun i p hp => by have := h.nsizes i p hp; omega }

theorem SS.find_yes {s : SS} {N a i k : Nat} (hW : s.WF N) (h : s.find a = (i, k, 0)) : ∃ p : Pl, s.places[i]? = some p ∧ p.freed = false ∧ k < p.cells.length :=
  let ⟨p, h1, h2, h3, _⟩ := SS.find_good hW h
  ⟨p, h1, h2, h3⟩

theorem WF.set {s : SS} {N : Nat} (hW : s.WF N) (a : Nat) (c : Int × Bool) : (s.set a c).2.WF N := by
  unfold SS.set
  rcases s.find_cases a with ⟨e, he, hf⟩ | ⟨i, k, hf, _⟩
  · rw [hf]; dsimp only; rw [if_pos (by omega)]; exact hW
  · obtain ⟨p, hp, hpf, hk⟩ := SS.find_yes hW hf
    rw [hf]
    dsimp only
    rw [if_neg (by omega)]
    have hm := modify_set s.places i (fun p => { p with cells := p.cells.set k c }) p hp
    have key : ∀ (j : Nat) (q : Pl), (s.places.set i { p with cells := p.cells.set k c })[j]? = some q → ∃ q0 : Pl, s.places[j]? = some q0 ∧ q.sizes = q0.sizes ∧ q.freed = q0.freed ∧ q.cells.length = q0.cells.length := by
      intro j q hq
      rw [List.getElem?_set] at hq
      by_cases e : i = j
      · subst e
        have := (List.getElem?_eq_some_iff.1 hp).1
        simp only [if_true, this] at hq
        obtain rfl := Option.some.inj hq
        exact ⟨p, hp, rfl, rfl, by simp⟩
      · rw [if_neg e] at hq
        exact ⟨q, hq, rfl, rfl, rfl⟩
    have hsum : ∀ f : Pl → Nat, (∀ q q' : Pl, q.sizes = q'.sizes → q.freed = q'.freed → q.cells.length = q'.cells.length → f q = f q') → ((s.places.modify i (fun p => { p with cells := p.cells.set k c })).map f).sum = (s.places.map f).sum := by
      intro f hf'
      have := sum_modify s.places f (fun p => { p with cells := p.cells.set k c }) i p hp
      rw [hf' { p with cells := p.cells.set k c } p rfl rfl (by simp)] at this
      omega
    refine ⟨hW.bound, ?_, ?_, ?_, ?_, ?_, hW.frees, ?_, hW.room, ?_, ?_, hW.fits⟩
    · simpa [SS.upd] using hW.nplaces
    all_goals simp only [SS.upd]
    · intro j q hq; rw [hm] at hq; obtain ⟨q0, h0, e1, e2, e3⟩ := key j q hq; rw [e1]; exact hW.nsizes j q0 h0
    · intro j q hq; rw [hm] at hq; obtain ⟨q0, h0, e1, e2, e3⟩ := key j q hq; rw [e1]; exact hW.small j q0 h0
    · intro j q hq; rw [hm] at hq; obtain ⟨q0, h0, e1, e2, e3⟩ := key j q hq; rw [e1, e2, e3]; exact hW.cells j q0 h0
    · intro j q hq; rw [hm] at hq; obtain ⟨q0, h0, e1, e2, e3⟩ := key j q hq; rw [e1]; exact hW.has j q0 h0
    · intro j
      rw [hW.freed, hm]
      constructor
      · rintro ⟨q, hq, hqf⟩
        by_cases e : i = j
        · subst e
          rw [hp] at hq
          obtain rfl := Option.some.inj hq
          rw [hpf] at hqf; cases hqf
        · exact ⟨q, by rw [List.getElem?_set_ne e]; exact hq, hqf⟩
      · rintro ⟨q, hq, hqf⟩
        obtain ⟨q0, h0, e1, e2, e3⟩ := key j q hq
        exact ⟨q0, h0, e2 ▸ hqf⟩
    · rw [hsum _ (fun q q' _ _ h => h)]; exact hW.used
    · rw [hsum (fun p => if p.freed = true then 0 else 1) (fun q q' _ h _ => by simp only [h])]; exact hW.live

theorem WF.free {s : SS} {N : Nat} (hW : s.WF N) (a : Nat) : (s.free1 a).2.WF N := by
  unfold SS.free1
  rcases s.find_cases a with ⟨e, he, hf⟩ | ⟨i, k, hf, _⟩
  · rw [hf]; dsimp only; rw [if_pos (by omega)]; exact hW
  · obtain ⟨p, hp, hpf, hk⟩ := SS.find_yes hW hf
    rw [hf]
    dsimp only
    rw [if_neg (by omega)]
    by_cases hk0 : k = 0
    case neg => rw [if_pos hk0]; exact hW
    case pos =>
    rw [if_neg (by omega)]
    have hm := modify_set s.places i (fun p => { p with cells := [], freed := true }) p hp
    have key : ∀ (j : Nat) (q : Pl), (s.places.set i { p with cells := [], freed := true })[j]? = some q → (j = i ∧ q = { p with cells := [], freed := true }) ∨ (j ≠ i ∧ s.places[j]? = some q) := by
      intro j q hq
      rw [List.getElem?_set] at hq
      by_cases e : i = j
      · subst e
        have := (List.getElem?_eq_some_iff.1 hp).1
        simp only [if_true, this] at hq
        exact Or.inl ⟨rfl, (Option.some.inj hq).symm⟩
      · rw [if_neg e] at hq
        exact Or.inr ⟨fun h => e h.symm, hq⟩
    have hnf : i ∉ s.free := fun h => by
      obtain ⟨q, hq, hqf⟩ := (hW.freed i).1 h
      rw [hp] at hq
      obtain rfl := Option.some.inj hq
      rw [hpf] at hqf; cases hqf
    have hlen : (s.places[i]?.map fun p => p.cells.length).getD 0 = p.cells.length := by rw [hp]; rfl
    have hsu := sum_modify s.places (fun p => p.cells.length) (fun p => { p with cells := [], freed := true }) i p hp
    have hsl := sum_modify s.places (fun p => if p.freed = true then 0 else 1) (fun p => { p with cells := [], freed := true }) i p hp
    simp only [hpf, Bool.false_eq_true, if_false, if_true, List.length_nil] at hsu hsl
    refine ⟨hW.bound, ?_, ?_, ?_, ?_, ?_, ?_, ?_, hW.room, ?_, ?_, ?_⟩
    · simpa [SS.upd] using hW.nplaces
    all_goals simp only [SS.upd]
    · intro j q hq; rw [hm] at hq; rcases key j q hq with ⟨rfl, rfl⟩ | ⟨_, h⟩
      · exact hW.nsizes j p hp
      · exact hW.nsizes j q h
    · intro j q hq; rw [hm] at hq; rcases key j q hq with ⟨rfl, rfl⟩ | ⟨_, h⟩
      · exact hW.small j p hp
      · exact hW.small j q h
    · intro j q hq; rw [hm] at hq; rcases key j q hq with ⟨rfl, rfl⟩ | ⟨_, h⟩
      · simp
      · exact hW.cells j q h
    · intro j q hq; rw [hm] at hq; rcases key j q hq with ⟨rfl, rfl⟩ | ⟨_, h⟩
      · exact hW.has j p hp
      · exact hW.has j q h
    · rw [List.nodup_append]
      exact ⟨hW.frees, by simp, fun x hx y hy => by simp at hy; subst hy; rintro rfl; exact hnf hx⟩
    · intro j
      rw [List.mem_append, hm]
      constructor
      · rintro (h | h)
        · obtain ⟨q, hq, hqf⟩ := (hW.freed j).1 h
          have : i ≠ j := fun e => hnf (e ▸ h)
          exact ⟨q, by rw [List.getElem?_set_ne this]; exact hq, hqf⟩
        · simp at h
          subst h
          have := (List.getElem?_eq_some_iff.1 hp).1
          exact ⟨{ p with cells := [], freed := true }, by simp [this], rfl⟩
      · rintro ⟨q, hq, hqf⟩
        rcases key j q hq with ⟨rfl, _⟩ | ⟨_, h⟩
        · right; simp
        · left; exact (hW.freed j).2 ⟨q, h, hqf⟩
    · rw [hlen, hW.used]; omega
    · rw [hW.live]; omega
    · have := hW.fits; omega

theorem WF.get {s : SS} {N : Nat} (hW : s.WF N) (hN : N + 1 < 1048576) (n : Int) : (s.get n).2.WF (N + 1) := by
  unfold SS.get
  by_cases h1 : n < 1 ∨ 4095 < n
  · rw [if_pos h1]; exact WF.mono hW (by omega) hN
  · rw [if_neg h1]
    by_cases h2 : (s.room : Int) < s.used + n
    · rw [if_pos h2]; exact WF.mono hW (by omega) hN
    · rw [if_neg h2]
      obtain ⟨k, rfl⟩ := Int.eq_ofNat_of_zero_le (show 0 ≤ n by omega)
      simp only [Int.toNat_natCast]
      -- the slab behind 'index'
      have hidx : ∃ (i : Nat) (s1 : SS) (p : Pl), s.index = (i, s1) ∧ s1.places[i]? = some p ∧ p.sizes.length ≤ N ∧ p.cells = [] ∧ s1.places.length ≤ N + 1 ∧
          (∀ z ∈ p.sizes, 1 ≤ z ∧ z ≤ 4095) ∧ (∀ (j : Nat) (q : Pl), j ≠ i → s1.places[j]? = some q → s.places[j]? = some q) ∧ s1.room = s.room ∧ s1.used = s.used ∧ s1.live = s.live ∧
          s1.free.Nodup ∧ (∀ j, j ∈ s1.free ↔ j ≠ i ∧ ∃ q : Pl, s1.places[j]? = some q ∧ q.freed = true) ∧ (s1.places.map fun p => p.cells.length).sum = s.used ∧ (s1.places.map fun p => if p.freed = true then 0 else 1).sum = s.live + (if p.freed = true then 0 else 1) := by
        unfold SS.index
        cases hl : s.free.getLast? with
        | some i =>
          have hmem : i ∈ s.free := List.mem_of_getLast? hl
          obtain ⟨p, hp, hpf⟩ := (hW.freed i).1 hmem
          have hc := hW.cells i p hp
          rw [if_pos hpf] at hc
          have hd : s.free = s.free.dropLast ++ [i] := by
            rcases List.eq_nil_or_concat s.free with e | ⟨init, x, e⟩
            · rw [e] at hl; simp at hl
            · rw [List.concat_eq_append] at e; rw [e] at hl ⊢; simp at hl ⊢; exact hl
          have hnd := hW.frees
          rw [hd, List.nodup_append] at hnd
          refine ⟨i, _, p, rfl, hp, hW.nsizes i p hp, List.eq_nil_of_length_eq_zero hc, by have := hW.nplaces; show s.places.length ≤ _; omega, hW.small i p hp, fun j q _ h => h, rfl, rfl, rfl, hnd.1, ?_, hW.used.symm, by rw [if_pos hpf, Nat.add_zero]; exact hW.live.symm⟩
          intro j
          constructor
          · intro hj
            have hj' : j ∈ s.free := by rw [hd]; exact List.mem_append_left _ hj
            refine ⟨fun e => ?_, (hW.freed j).1 hj'⟩
            exact hnd.2.2 j hj i (by simp) e
          · rintro ⟨hne, h⟩
            have hj' : j ∈ s.free := (hW.freed j).2 h
            rw [hd, List.mem_append] at hj'
            rcases hj' with h | h
            · exact h
            · simp at h; exact absurd h hne
        | none =>
          have hnil : s.free = [] := by simpa using hl
          refine ⟨s.places.length, _, ⟨[], [], false⟩, rfl, by simp, by simp, rfl, by have := hW.nplaces; simp; omega, by simp, ?_, rfl, rfl, rfl, hW.frees, ?_, by simp [hW.used], by simp [hW.live]⟩
          · intro j q hne hq
            rw [List.getElem?_append] at hq
            split at hq
            · exact hq
            · rename_i h
              have : j - s.places.length ≠ 0 := by omega
              cases hd : j - s.places.length with
              | zero => exact absurd hd this
              | succ m => rw [hd] at hq; simp at hq
          · intro j
            simp only [hnil, List.not_mem_nil, false_iff]
            rintro ⟨hne, q, hq, hqf⟩
            rw [List.getElem?_append] at hq
            split at hq
            · have := (hW.freed j).2 ⟨q, hq, hqf⟩
              rw [hnil] at this; simp at this
            · cases hd : j - s.places.length with
              | zero => omega
              | succ m => rw [hd] at hq; simp at hq
      obtain ⟨i, s1, p, he, hp, hps, hpc, hlen, hsm, hoth, r1, r2, r3, hnd, hfr, hsu, hsl⟩ := hidx
      rw [he]
      dsimp only
      have hm := modify_set s1.places i (fun p => { sizes := p.sizes ++ [k], cells := List.replicate k (0, false), freed := false }) p hp
      have hsu' := sum_modify s1.places (fun p => p.cells.length) (fun p => { sizes := p.sizes ++ [k], cells := List.replicate k (0, false), freed := false }) i p hp
      have hsl' := sum_modify s1.places (fun p => if p.freed = true then 0 else 1) (fun p => { sizes := p.sizes ++ [k], cells := List.replicate k (0, false), freed := false }) i p hp
      simp only [hpc, List.length_nil, List.length_replicate, Bool.false_eq_true, if_false] at hsu' hsl'
      have key : ∀ (j : Nat) (q : Pl), (s1.places.set i { sizes := p.sizes ++ [k], cells := List.replicate k (0, false), freed := false })[j]? = some q →
          (j = i ∧ q = { sizes := p.sizes ++ [k], cells := List.replicate k (0, false), freed := false }) ∨ (j ≠ i ∧ s.places[j]? = some q) := by
        intro j q hq
        rw [List.getElem?_set] at hq
        by_cases e : i = j
        · subst e
          have := (List.getElem?_eq_some_iff.1 hp).1
          simp only [if_true, this] at hq
          exact Or.inl ⟨rfl, (Option.some.inj hq).symm⟩
        · rw [if_neg e] at hq
          exact Or.inr ⟨fun h => e h.symm, hoth j q (fun h => e h.symm) hq⟩
      refine ⟨hN, ?_, ?_, ?_, ?_, ?_, ?_, ?_, ?_, ?_, ?_, ?_⟩
      all_goals simp only [SS.upd]
      · simpa using hlen
      · intro j q hq; rw [hm] at hq; rcases key j q hq with ⟨rfl, rfl⟩ | ⟨_, h⟩
        · simp; omega
        · have := hW.nsizes j q h; omega
      · intro j q hq; rw [hm] at hq; rcases key j q hq with ⟨rfl, rfl⟩ | ⟨_, h⟩
        · intro z hz
          simp only [List.mem_append, List.mem_singleton] at hz
          rcases hz with hz | rfl
          · exact hsm z hz
          · omega
        · exact hW.small j q h
      · intro j q hq; rw [hm] at hq; rcases key j q hq with ⟨rfl, rfl⟩ | ⟨_, h⟩
        · simp
        · exact hW.cells j q h
      · intro j q hq; rw [hm] at hq; rcases key j q hq with ⟨rfl, rfl⟩ | ⟨_, h⟩
        · simp
        · exact hW.has j q h
      · exact hnd
      · intro j
        rw [hfr, hm]
        constructor
        · rintro ⟨hne, q, hq, hqf⟩
          exact ⟨q, by rw [List.getElem?_set_ne (fun e => hne e.symm)]; exact hq, hqf⟩
        · rintro ⟨q, hq, hqf⟩
          rcases key j q hq with ⟨rfl, rfl⟩ | ⟨hne, h⟩
          · simp at hqf
          · exact ⟨hne, q, by rw [List.getElem?_set_ne (fun e => hne e.symm)] at hq; exact hq, hqf⟩
      · rw [r1]; exact hW.room
      · omega
      · omega
      · have := hW.fits; omega
end Go.Proofs.Ytpgoogjaoffdoaa
