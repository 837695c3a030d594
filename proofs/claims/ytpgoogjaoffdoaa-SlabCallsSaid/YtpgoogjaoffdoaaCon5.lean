/- Contracts over 'RepS' of slab's Get and New. -/
import Derived.Test.YtpgoogjaoffdoaaCon4
namespace Go.Proofs.Ytpgoogjaoffdoaa
set_option linter.unusedVariables false
set_option linter.unusedSimpArgs false
open Go.RowKit

def noLP : LP := ⟨⟨[], [], false⟩, none, 0, none, 0⟩
def qOf (i : Nat) (x : (Nat → Option Rl) × Lo) : LP := (x.2.Q[i]?).getD noLP

section
variable {w : World} {b : Nat} {s : SS} {own : Nat → Option Rl} {L : Lo} {N : Nat}

/-- What index leaves: the index is one of a place; the room and the numbers are as they were. -/
theorem SS.index_facts (hW : s.WF N) : ∃ p : Pl, s.index.2.places[s.index.1]? = some p ∧ p.sizes.length ≤ N ∧ s.index.1 ≤ N ∧
    s.index.2.room = s.room ∧ s.index.2.used = s.used ∧ s.index.2.live = s.live := by
  have hnp := hW.nplaces
  unfold SS.index
  cases hl : s.free.getLast? with
  | some i =>
    have hm : i ∈ s.free := List.mem_of_getLast? hl
    obtain ⟨p, hp, _⟩ := (hW.freed i).1 hm
    have := (List.getElem?_eq_some_iff.1 hp).1
    exact ⟨p, hp, hW.nsizes i p hp, by dsimp only; omega, rfl, rfl, rfl⟩
  | none => exact ⟨⟨[], [], false⟩, by simp, by simp, hnp, rfl, rfl, rfl⟩

theorem get_calls (h : RepS w b s own L) (hW : s.WF N) (n : Int) :
    Calls Try.prog 15 #[.pointer (some ⟨b, 0, none⟩), .int .i64 n] w fun e w' => e = .returned (.tuple #[.int .u64 ((s.get n).1.1 : Int), .int .i64 ((s.get n).1.2 : Int)]) ∧ CallPost w b own (s.get n).2 w' := by
  have same : ∀ w', (w' = w ∨ w' = w.drew) → CallPost w b own s w' := by
    rintro w' (rfl | rfl)
    · exact ⟨own, ⟨L, h⟩, fun _ h => Or.inl h, Mod.refl _ _⟩
    · exact ⟨own, ⟨L, h.keep (Nat.le_refl _) fun _ _ => rfl⟩, fun _ h => Or.inl h, Mod.drew _ _⟩
  have hfits := hW.fits
  have hroom := hW.room
  have hll := SS.live_le hW
  have hNb := hW.bound
  unfold SS.get
  by_cases hlow : n < 1
  · rw [if_pos (Or.inl hlow)]
    exact (get_low b n w hlow).mono fun e w' ⟨he, hw⟩ => ⟨he, same w' (Or.inl hw)⟩
  · by_cases hhigh : 4095 < n
    · rw [if_pos (Or.inr hhigh)]
      exact (get_high b n w (by omega) hhigh).mono fun e w' ⟨he, hw⟩ => ⟨he, same w' (Or.inl hw)⟩
    · rw [if_neg (by omega)]
      by_cases hfull : (s.room : Int) < s.used + n
      · rw [if_pos hfull]
        exact (get_full b n w (by omega) (by omega) s.room s.used (by omega) hroom (by simp [World.cell?, h.base, baseCells]) (by simp [World.cell?, h.base, baseCells]) hfull).mono fun e w' ⟨he, hw⟩ => ⟨he, same w' (Or.inr hw)⟩
      · rw [if_neg hfull]
        obtain ⟨k, rfl⟩ := Int.eq_ofNat_of_zero_le (show 0 ≤ n by omega)
        obtain ⟨p, hp, hps, hil, e1, e2, e3⟩ := SS.index_facts hW
        have hd : RepS w.drew b s own L := h.keep (Nat.le_refl _) fun _ _ => rfl
        have hidx := index_calls hd hW
        dsimp only
        generalize s.index.1 = i at *
        generalize s.index.2 = s1 at *
        have facts : ∀ x w1, IdxPost w.drew b own s1 x w1 → ∃ g, x.2.gp = some g ∧ x.2.Q[i]? = some (qOf i x) ∧ (qOf i x).pl = p ∧
            Mid w1 b s.room s.used s.live (x.2.gp.getD 0) x.2.Q.length x.2.cp i (qOf i x).gs p.sizes.length (qOf i x).cs (encN p.sizes) (x.2.Q.flatMap LP.enc) (sv x.2.gf s1.free.length x.2.cf) := by
          rintro ⟨own1, L1⟩ w1 ⟨hr, _, _⟩
          dsimp only at hr ⊢
          obtain ⟨q, g, hq, hpq, hg, hgl, c0, c1, c2, hfz⟩ := hr.place hp
          have hqo : qOf i (own1, L1) = q := by simp [qOf, hq]
          rw [hqo]
          refine ⟨g, hg, hq, hpq, ?_⟩
          have hil' := (List.getElem?_eq_some_iff.1 hq).1
          have hplc := hr.plc
          have hb := hr.base
          have og := hr.op g hg
          have hsz := hr.siz i q hq
          rw [hpq] at hsz
          rw [hg] at hplc ⊢
          simp only [Option.getD_some]
          have hcm := hplc.max
          unfold maxLen at hcm
          refine ⟨?_, hil', hplc.le, by omega, hplc, ?_, hsz, ne_of_role hr.ob og (by simp), fun e => absurd rfl (ne_of_role (hr.osz i q hq b e) hr.ob (by simp)), fun e => absurd rfl (ne_of_role (hr.osz i q hq g e) og (by simp))⟩
          · rw [hb]; simp [baseCells, e1, e2, e3, hg, sv]
          · have := flat3_get L1.Q i q hq 0 (by omega)
            simpa [LP.enc, hpq, sv] using this
        have hgood := get_good b k w (by omega) (by omega) s.room s.used s.live (by omega) (by omega) hroom (by simp [World.cell?, h.base, baseCells]) (by simp [World.cell?, h.base, baseCells]) (by omega)
          i p.sizes.length (by omega) (by omega) (IdxPost w.drew b own s1) (fun x => x.2.gp.getD 0) (fun x => x.2.Q.length) (fun x => x.2.cp) (fun x => (qOf i x).gs) (fun x => (qOf i x).cs) (fun _ => encN p.sizes) (fun x => x.2.Q.flatMap LP.enc) (fun x => sv x.2.gf s1.free.length x.2.cf)
          hidx (fun x w1 hx => (facts x w1 hx).choose_spec.2.2.2)
        refine hgood.mono ?_
        rintro e w' ⟨rfl, x, w1, hx, hgot⟩
        obtain ⟨g, hg, hq, hpq, hmid⟩ := facts x w1 hx
        obtain ⟨own1, L1⟩ := x
        obtain ⟨hr, hext, hmod⟩ := hx
        dsimp only at *
        rw [hg] at hgot
        simp only [Option.getD_some] at hgot
        generalize hqq : qOf i (own1, L1) = q at *
        obtain ⟨g', c', y, hS, hor, hy, hy1, hyg, hP, hb, hM⟩ := hgot
        refine ⟨?_, ?_⟩
        · refine ret_u64 ?_
          have : (s1.places[i]?.map fun p => p.sizes.length).getD 0 = p.sizes.length := by rw [hp]; rfl
          rw [this]
          unfold addrOf
          omega
        · have og := hr.op g hg
          have hyl : y < w'.heap.size := (Array.getElem?_eq_some_iff.1 hy).1
          have hg'l : g' < w'.heap.size := hS.lt rfl
          have hMs := hM.size
          have hkeep : ∀ j r, own1 j = some r → r ≠ .base → r ≠ .plc → r ≠ .siz i → w'.heap[j]? = w1.heap[j]? := fun j r hj hr1 hr2 hr3 =>
            hM.block j (hr.dom j (by rw [hj]; simp)) (fun hh => by
              rcases hh with e | e | e
              · exact hr3 (Option.some.inj (hj.symm.trans (hr.osz i q hq j e.symm)))
              · exact ne_of_role hj og hr2 e
              · exact ne_of_role hj hr.ob hr1 e)
          have g'ne : ∀ j r, own1 j = some r → r ≠ .siz i → j ≠ g' := fun j r hj hr1 => by
            rintro rfl
            rcases hor with e | e
            · exact hr1 (Option.some.inj (hj.symm.trans (hr.osz i q hq j e.symm)))
            · have := hr.dom j (by rw [hj]; simp); omega
          have yne : ∀ j, own1 j ≠ none → j ≠ y := fun j hj => by
            rintro rfl
            have := hr.dom j hj; omega
          have hlen := flat3_len L1.Q
          refine ⟨fun j => if j = g' then some (.siz i) else if j = y then some (.cel i) else own1 j, ⟨{ L1 with gf := L1.gf, cf := L1.cf, Q := L1.Q.set i { q with pl := { sizes := p.sizes ++ [k], cells := List.replicate k (0, false), freed := false }, gs := some g', cs := c', gc := some y, cc := k } }, hr.upd hq (by omega) ?_ ?_ ?_ ?_ ?_ ?_ ?_ ?_ ?_ ?_ ?_ ?_⟩, ?_, ?_⟩
          · simp only [SS.upd]
            rw [modify_set _ _ _ _ hp]
            simp
          · rw [hb]
            simp [baseCells, SS.upd, e1, hg, sv]
          · intro j r hj h1 h2 h3 h4 h5
            exact hkeep j r hj h1 h2 h4
          · rw [flat3_set L1.Q i q _ hq, hg]
            simpa [sv] using hP
          · exact hr.fre.keep fun x hx => hkeep x _ (hr.of x hx) (by simp) (by simp) (by simp)
          · intro x hx
            have ox := hr.of x hx
            have h1 := g'ne x _ ox (by simp)
            have h2 := yne x (by rw [ox]; simp)
            simp only [h1, h2, if_false]
            exact ox
          · simpa [encN] using hS
          · intro x hx; obtain rfl := Option.some.inj hx; simp
          · have := Sl.of_zeros hy (by unfold maxLen; omega)
            simpa using this
          · intro x hx; obtain rfl := Option.some.inj hx; simp [hyg]
          · intro x hx
            have h2 := yne x hx
            by_cases e : x = g'
            · subst e
              simp only [if_true]
              rcases hor with e | e
              · exact (hr.osz i q hq x e.symm).symm
              · have := hr.dom x hx; omega
            · simp only [e, h2, if_false]
          · intro x hx
            by_cases e : x = g'
            · exact Or.inr (by omega)
            · by_cases e2 : x = y
              · exact Or.inr (by omega)
              · simp only [e, e2, if_false] at hx
                exact Or.inl hx
          · intro x hx
            have hms := hmod.size
            have hdsz : w.drew.heap.size = w.heap.size := rfl
            by_cases e : x = g'
            · rcases hor with e' | e'
              · exact hext x (by rw [e, hr.osz i q hq g' e'.symm]; simp)
              · exact Or.inr (by omega)
            · by_cases e2 : x = y
              · exact Or.inr (by omega)
              · simp only [e, e2, if_false] at hx
                exact hext x hx
          · refine ((Mod.drew (Dom own) w).trans hmod (fun _ h => Or.inl h)).trans hM ?_
            intro j hj
            have : own1 j ≠ none := by
              rcases hj with e | e | e
              · rw [hr.osz i q hq j e.symm]; simp
              · rw [e, og]; simp
              · rw [e, hr.ob]; simp
            exact hext j this

theorem new_calls (n : Int) (w : World) :
    Calls Try.prog 9 #[.int .i64 n] w fun e w' =>
      if n < 0 ∨ 16384 < n then e = .returned (.tuple #[.pointer none, .int .i64 11]) ∧ w' = w
      else e = .returned (.tuple #[.pointer (some ⟨w.heap.size, 0, none⟩), .int .i64 0]) ∧ Mod (fun _ => False) w w' ∧ w.heap.size < w'.heap.size ∧
        Rep w' w.heap.size ⟨n.toNat, 0, 0, [], []⟩ (fun j => if j = w.heap.size then some .base else none) := by
  by_cases hlow : n < 0
  · simp only [hlow, true_or, if_true]
    exact new_low n w hlow
  · by_cases hhigh : 16384 < n
    · simp only [hhigh, or_true, if_true]
      exact new_high n w hhigh
    · simp only [hlow, hhigh, or_self, if_false]
      refine (new_ok n w (by omega) (by omega)).mono ?_
      rintro e w' ⟨rfl, rfl⟩
      refine ⟨rfl, Mod.alloc _ _ _, by simp, ⟨none, 0, none, 0, []⟩, ?_, ?_, by simp, rfl, Sl.nilOf _ _ _, fun _ h => (by cases h), Sl.nilOf _ _ _, fun _ h => (by cases h), fun _ _ h => (by simp at h), fun _ _ h => (by simp at h), fun _ _ h => (by simp at h), fun _ _ h => (by simp at h)⟩
      · intro k hk
        by_cases e : k = w.heap.size
        · subst e; simp
        · simp [e] at hk
      · rw [heap_alloc_new]
        simp [baseCells, newCells, sv]
        omega
end
end Go.Proofs.Ytpgoogjaoffdoaa
