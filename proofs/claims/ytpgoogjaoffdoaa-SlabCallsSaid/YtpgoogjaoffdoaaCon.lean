/- Contracts over 'RepS' of slab's calls that turn nothing but one cell, or nothing: New, Live, Used, Load, Size, Off, set, Store, Blank. -/
import Derived.Test.YtpgoogjaoffdoaaFind2
import Derived.Test.YtpgoogjaoffdoaaOps3
import Derived.Test.YtpgoogjaoffdoaaM2
namespace Go.Proofs.Ytpgoogjaoffdoaa
set_option linter.unusedVariables false
set_option linter.unusedSimpArgs false
open Go.RowKit

/-- What a call may take for its own: what it had, and what is new. -/
def Ext (own own' : Nat → Option Rl) (w : World) : Prop := ∀ k, own' k ≠ none → own k ≠ none ∨ w.heap.size ≤ k

/-! ### Finds -/
theorem SS.find_cases (s : SS) (a : Nat) : (∃ e, 0 < e ∧ s.find a = (0, 0, e)) ∨ (∃ i k, s.find a = (i, k, 0) ∧ k < 4096) := by
  unfold SS.find
  split
  · exact .inl ⟨12, by omega, rfl⟩
  · split
    · exact .inl ⟨12, by omega, rfl⟩
    · split
      · exact .inl ⟨12, by omega, rfl⟩
      · split
        · exact .inl ⟨12, by omega, rfl⟩
        · split
          · exact .inl ⟨14, by omega, rfl⟩
          · exact .inr ⟨_, _, rfl, by omega⟩

/-- Where find says yes there is a piece, of which the slot is one. -/
theorem SS.find_good {s : SS} {N : Nat} (hW : s.WF N) {a i k : Nat} (h : s.find a = (i, k, 0)) :
    ∃ p : Pl, s.places[i]? = some p ∧ p.freed = false ∧ k < p.cells.length ∧ p.cells.length ≤ 4095 ∧ 1 ≤ p.sizes.length ∧ p.sizes.length ≤ N ∧ i < N := by
  unfold SS.find at h
  split at h
  · simp at h
  · split at h
    · simp at h
    · rename_i p hp
      split at h
      · simp at h
      · rename_i z hz
        split at h
        · simp at h
        · split at h
          · simp at h
          · rename_i hzs hfr
            simp only [Prod.mk.injEq, and_true] at h
            obtain ⟨rfl, rfl⟩ := h
            simp only [not_or, Bool.not_eq_true, Nat.not_lt] at hfr
            have hl := (List.getElem?_eq_some_iff.1 hz).1
            have hc := hW.cells _ p hp
            rw [hfr.1] at hc
            have hlast : p.sizes.getLast?.getD 0 = z := by
              rw [List.getLast?_eq_getElem?, show p.sizes.length - 1 = (a - lowMark) / 4294967296 by omega, hz]; rfl
            simp only [Bool.false_eq_true, if_false] at hc
            rw [hlast] at hc
            have hsm := hW.small _ p hp z (List.mem_of_getElem? hz)
            have hi := (List.getElem?_eq_some_iff.1 hp).1
            have hnp := hW.nplaces
            have hns := hW.nsizes _ p hp
            exact ⟨p, hp, hfr.1, by omega, by omega, by omega, by omega, by omega⟩

section
variable {w : World} {b : Nat} {s : SS} {own : Nat → Option Rl} {L : Lo} {N : Nat}

/-- The place of an index, in memory. -/
theorem RepS.place (h : RepS w b s own L) {i : Nat} {p : Pl} (hp : s.places[i]? = some p) :
    ∃ q g, L.Q[i]? = some q ∧ q.pl = p ∧ L.gp = some g ∧ g < w.heap.size ∧ w.cell? ⟨g, i * 3, none⟩ = some (sv q.gs p.sizes.length q.cs) ∧ w.cell? ⟨g, i * 3 + 1, none⟩ = some (sv q.gc p.cells.length q.cc) ∧ w.cell? ⟨g, i * 3 + 2, none⟩ = some (.bool p.freed) ∧
      (∀ j, w.frozen? ⟨g, j, none⟩ = false) := by
  have hlt : i < L.Q.length := by have := (List.getElem?_eq_some_iff.1 hp).1; rwa [h.pls, List.length_map] at this
  obtain ⟨q, hq⟩ : ∃ q, L.Q[i]? = some q := ⟨_, List.getElem?_eq_getElem hlt⟩
  have hpq : q.pl = p := by rw [h.pls, List.getElem?_map, hq] at hp; simpa using hp
  obtain ⟨g, hg⟩ := h.plc.some_of (by omega)
  refine ⟨q, g, hq, hpq, hg, h.plc.lt hg, ?_, ?_, ?_, fun j => h.plc.frozen hg j⟩
  · rw [← hpq]; exact h.plc.cell hg (by rw [← Nat.add_zero (i * 3), flat3_get L.Q i q hq 0 (by omega)]; rfl)
  · rw [← hpq]; exact h.plc.cell hg (by rw [flat3_get L.Q i q hq 1 (by omega)]; rfl)
  · rw [← hpq]; exact h.plc.cell hg (by rw [flat3_get L.Q i q hq 2 (by omega)]; rfl)

theorem find_err (h : RepS w b s own L) (hW : s.WF N) {a e : Nat} (ha : a < 18446744073709551616) (hf : s.find a = (0, 0, e)) (he : 0 < e) : errFind b (a : Int) w 0 0 e := by
  have := find_calls h hW a ha
  rw [hf] at this
  unfold ptrAt at this
  rw [if_neg (by simp; omega)] at this
  exact this

theorem find_yes (h : RepS w b s own L) (hW : s.WF N) {a i k g : Nat} (ha : a < 18446744073709551616) (hf : s.find a = (i, k, 0)) (hg : L.gp = some g) : goodFind b (a : Int) w g i k := by
  have := find_calls h hW a ha
  rw [hf] at this
  unfold ptrAt at this
  rw [if_pos rfl, hg] at this
  exact this

theorem load_calls (h : RepS w b s own L) (hW : s.WF N) (a : Nat) (ha : a < 18446744073709551616) :
    Calls Try.prog 18 #[.pointer (some ⟨b, 0, none⟩), .int .u64 (a : Int)] w fun x w' => x = .returned (.tuple #[.int .i64 (s.load a).1, .int .i64 ((s.load a).2 : Int)]) ∧ w' = w := by
  unfold SS.load
  rcases s.find_cases a with ⟨e, he, hf⟩ | ⟨i, k, hf, _⟩
  · rw [hf]
    dsimp only
    rw [if_pos (by omega)]
    exact load_err b a w 0 0 e (find_err h hW ha hf he) he
  · obtain ⟨p, hp, hpf, hk, hc, h1, hN, hiN⟩ := SS.find_good hW hf
    obtain ⟨q, g, hq, hpq, hg, hgl, c0, c1, c2, hfz⟩ := h.place hp
    have hcel := h.cel i q hq
    rw [hpq] at hcel
    obtain ⟨gc, hgc⟩ := hcel.some_of (by omega)
    rw [hgc] at c1
    have hkk : p.cells[k]? = some p.cells[k] := List.getElem?_eq_getElem hk
    have hck := encC_get p.cells k _ hkk
    have hat : s.cellAt i k = p.cells[k] := by simp [SS.cellAt, hp, hkk]
    rw [hf]
    dsimp only
    rw [if_neg (by omega), hat]
    have d0 := hcel.cell hgc hck.1
    have d1 := hcel.cell hgc hck.2
    cases hb : p.cells[k].2 with
    | false =>
      rw [hb] at d1
      rw [if_pos rfl]
      exact load_blank b a w g i k gc p.cells.length q.cc c1 hk (find_yes h hW ha hf hg) d1
    | true =>
      rw [hb] at d1
      rw [if_neg (by simp)]
      exact load_good b a w g i k gc p.cells.length q.cc c1 hk _ (find_yes h hW ha hf hg) d1 d0

theorem size_calls (h : RepS w b s own L) (hW : s.WF N) (a : Nat) (ha : a < 18446744073709551616) :
    Calls Try.prog 23 #[.pointer (some ⟨b, 0, none⟩), .int .u64 (a : Int)] w fun x w' => x = .returned (.tuple #[.int .i64 ((s.size a).1 : Int), .int .i64 ((s.size a).2 : Int)]) ∧ w' = w := by
  unfold SS.size
  rcases s.find_cases a with ⟨e, he, hf⟩ | ⟨i, k, hf, _⟩
  · rw [hf]
    dsimp only
    rw [if_pos (by omega)]
    exact size_err b a w 0 0 e (find_err h hW ha hf he) he
  · obtain ⟨p, hp, hpf, hk, hc, h1, hN, hiN⟩ := SS.find_good hW hf
    obtain ⟨q, g, hq, hpq, hg, hgl, c0, c1, c2, hfz⟩ := h.place hp
    rw [hf]
    dsimp only
    rw [if_neg (by omega)]
    have : s.lenAt i = p.cells.length := by simp [SS.lenAt, hp]
    rw [this]
    exact size_good b a w g i k p.cells.length q.cc _ (find_yes h hW ha hf hg) c1

theorem off_calls (h : RepS w b s own L) (hW : s.WF N) (a : Nat) (ha : a < 18446744073709551616) (n : Int) :
    Calls Try.prog 20 #[.pointer (some ⟨b, 0, none⟩), .int .u64 (a : Int), .int .i64 n] w fun x w' => x = .returned (.tuple #[.int .u64 ((s.off a n).1 : Int), .int .i64 ((s.off a n).2 : Int)]) ∧ w' = w := by
  unfold SS.off
  rcases s.find_cases a with ⟨e, he, hf⟩ | ⟨i, k, hf, _⟩
  · rw [hf]
    dsimp only
    rw [if_pos (by omega)]
    exact off_err b a w n 0 0 e (find_err h hW ha hf he) he
  · obtain ⟨p, hp, hpf, hk, hc, h1, hN, hiN⟩ := SS.find_good hW hf
    obtain ⟨q, g, hq, hpq, hg, hgl, c0, c1, c2, hfz⟩ := h.place hp
    have hNb := hW.bound
    rw [hf]
    dsimp only
    rw [if_neg (by omega)]
    have hl : s.lenAt i = p.cells.length := by simp [SS.lenAt, hp]
    have hag : s.ageAt i = p.sizes.length - 1 := by simp [SS.ageAt, hp]
    rw [hl, hag]
    by_cases hlow : n < -(k : Int)
    · rw [if_pos (Or.inl hlow)]
      exact off_low b a w g i k n p.cells.length q.cc _ c1 hk (by omega) (find_yes h hW ha hf hg) hlow
    · by_cases hhigh : (p.cells.length : Int) - k ≤ n
      · rw [if_pos (Or.inr hhigh)]
        exact off_high b a w g i k n p.cells.length q.cc _ c1 hk (by omega) (find_yes h hW ha hf hg) (by omega) hhigh
      · rw [if_neg (by omega)]
        have := off_good b a w g i k n p.cells.length q.cc _ c1 p.sizes.length q.cs _ c0 (by omega) (by omega) (by omega) hk (by omega) (find_yes h hW ha hf hg) ((k : Int) + n).toNat (by omega) (by omega)
        refine this.mono fun x w' ⟨hx, hw⟩ => ⟨?_, hw⟩
        rw [hx]
        refine ret_u64 ?_
        unfold addrOf
        simp

theorem live_calls (h : RepS w b s own L) : Calls Try.prog 19 #[.pointer (some ⟨b, 0, none⟩)] w fun x w' => x = .returned (.int .i64 (s.live : Int)) ∧ w' = w :=
  live_any b _ w (by simp [World.cell?, h.base, baseCells])
theorem used_calls (h : RepS w b s own L) : Calls Try.prog 22 #[.pointer (some ⟨b, 0, none⟩)] w fun x w' => x = .returned (.int .i64 (s.used : Int)) ∧ w' = w :=
  used_any b _ w (by simp [World.cell?, h.base, baseCells])
end
end Go.Proofs.Ytpgoogjaoffdoaa
