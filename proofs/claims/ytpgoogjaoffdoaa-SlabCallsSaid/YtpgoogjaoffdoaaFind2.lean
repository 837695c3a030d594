/- slab's find, by its contract: whatever address, it comes to what the plain word 'find' says, and nothing turns. -/
import Derived.Test.YtpgoogjaoffdoaaFind
import Derived.Test.YtpgoogjaoffdoaaS
namespace Go.Proofs.Ytpgoogjaoffdoaa
set_option linter.unusedVariables false
set_option linter.unusedSimpArgs false
open Go.RowKit

theorem u64_wrap (n : Int) (h0 : 0 ≤ n) (h1 : n < 18446744073709551616) : IntKind.u64.wrap n = n := by
  simp only [IntKind.wrap, IntKind.min, IntKind.max, IntKind.bits, IntKind.signed]
  simp
  omega

theorem u64_mask12 (a : Nat) (h : a < 18446744073709551616) : bits .and .u64 (a : Int) 4095 = ((a % 4096 : Nat) : Int) := by
  have := u64_and_nat a 4095 h (by omega)
  rw [show ((4095 : Nat) : Int) = 4095 from rfl] at this
  rw [this, Nat.and_two_pow_sub_one_eq_mod a 12]

theorem u64_mask32 (a : Nat) (h : a < 18446744073709551616) : bits .and .u64 (a : Int) 4294967295 = ((a % 4294967296 : Nat) : Int) := by
  have := u64_and_nat a 4294967295 h (by omega)
  rw [show ((4294967295 : Nat) : Int) = 4294967295 from rfl] at this
  rw [this, Nat.and_two_pow_sub_one_eq_mod a 32]

/-- The pointer that find hands back. -/
def ptrAt (L : Lo) (r : Nat × Nat × Nat) : Value :=
  if r.2.2 = 0 then .pointer (L.gp.map fun g => ⟨g, r.1 * 3, none⟩) else .pointer none

theorem RepS.c3 {w : World} {b : Nat} {s : SS} {own : Nat → Option Rl} {L : Lo} (h : RepS w b s own L) : w.cell? ⟨b, 3, none⟩ = some (sv L.gp L.Q.length L.cp) := by
  simp [World.cell?, h.base, baseCells]

theorem find_calls {w : World} {b : Nat} {s : SS} {own : Nat → Option Rl} {L : Lo} {N : Nat} (h : RepS w b s own L) (hW : s.WF N) (a : Nat) (ha : a < 18446744073709551616) :
    Calls Try.prog 41 #[.pointer (some ⟨b, 0, none⟩), .int .u64 (a : Int)] w fun e w' =>
      e = .returned (.tuple #[ptrAt L (s.find a), .int .i64 ((s.find a).1 : Int), .int .i64 ((s.find a).2.1 : Int), .int .i64 ((s.find a).2.2 : Int)]) ∧ w' = w := by
  have hN := hW.bound
  have hlen : s.places.length = L.Q.length := by rw [h.pls, List.length_map]
  have hnp := hW.nplaces
  have hnc := h.plc.le
  have hcm := h.plc.max
  unfold maxLen at hcm
  by_cases hlow : a < 4611686018427387904
  · have e : s.find a = (0, 0, 12) := by unfold SS.find lowMark; rw [if_pos hlow]
    rw [e]
    exact find_low b a w (by omega)
  · have e1 : IntKind.u64.wrap ((a : Int) - 4611686018427387904) = ((a - 4611686018427387904 : Nat) : Int) := by rw [u64_wrap _ (by omega) (by omega)]; omega
    have h1 : IntKind.u64.wrap ((a : Int) - 4611686018427387904) / 4294967296 = (((a - lowMark) / 4294967296 : Nat) : Int) := by rw [e1]; unfold lowMark; omega
    have h2 : bits .and .u64 (IntKind.u64.wrap ((a : Int) - 4611686018427387904)) 4294967295 / 4096 = (((a - lowMark) % 4294967296 / 4096 : Nat) : Int) := by
      rw [e1, u64_mask32 _ (by omega)]; unfold lowMark; omega
    have h3 := u64_mask12 a ha
    have hn : IntKind.u64.wrap (L.Q.length : Int) = (L.Q.length : Int) := u64_wrap _ (by omega) (by omega)
    have hpl : (a - lowMark) % 4294967296 / 4096 < 1048576 := by omega
    have hac : (a - lowMark) / 4294967296 < 4294967296 := by unfold lowMark; omega
    have c3 := h.c3
    unfold SS.find
    rw [if_neg (show ¬ a < lowMark from hlow)]
    generalize hage : (a - lowMark) / 4294967296 = age at *
    generalize hpl' : (a - lowMark) % 4294967296 / 4096 = pl at *
    cases hp : s.places[pl]? with
    | none =>
      have hle : L.Q.length ≤ pl := by rw [← hlen]; exact List.getElem?_eq_none_iff.1 hp
      exact find_off b a w age pl (a % 4096) L.Q.length L.cp h1 h2 h3 (by omega) (by omega) hn _ c3 hle
    | some p =>
      have hlt : pl < L.Q.length := by rw [← hlen]; exact (List.getElem?_eq_some_iff.1 hp).1
      obtain ⟨q, hq⟩ : ∃ q, L.Q[pl]? = some q := ⟨_, List.getElem?_eq_getElem hlt⟩
      have hpq : q.pl = p := by rw [h.pls, List.getElem?_map, hq] at hp; simpa using hp
      obtain ⟨g, hg⟩ := h.plc.some_of (by omega)
      rw [hg] at c3
      have c3' : w.cell? ⟨b, 3, none⟩ = some (.slice (some ⟨g, 0, none⟩) L.Q.length L.cp) := c3
      have p0 : w.cell? ⟨g, pl * 3, none⟩ = some (.slice (q.gs.map fun g => ⟨g, 0, none⟩) p.sizes.length q.cs) := by
        rw [← hpq]; exact h.plc.cell hg (by rw [← Nat.add_zero (pl * 3), flat3_get L.Q pl q hq 0 (by omega)]; rfl)
      have p2 : w.cell? ⟨g, pl * 3 + 2, none⟩ = some (.bool p.freed) := by
        rw [← hpq]; exact h.plc.cell hg (by rw [flat3_get L.Q pl q hq 2 (by omega)]; rfl)
      have hsiz := h.siz pl q hq
      rw [hpq] at hsiz
      have hmm := hsiz.le
      have hmx := hsiz.max
      unfold maxLen at hmx
      have hm : IntKind.u64.wrap (p.sizes.length : Int) = (p.sizes.length : Int) := u64_wrap _ (by omega) (by omega)
      dsimp only
      cases hz : p.sizes[age]? with
      | none =>
        have hle := List.getElem?_eq_none_iff.1 hz
        exact find_age b a w age pl (a % 4096) L.Q.length L.cp h1 h2 h3 (by omega) (by omega) hn hpl (by omega) hac g _ q.cs _ hlt hnc hm c3' p0 hle
      | some z =>
        have hal := (List.getElem?_eq_some_iff.1 hz).1
        obtain ⟨gs, hgs⟩ := hsiz.some_of (by omega)
        rw [hgs] at p0
        have p0' : w.cell? ⟨g, pl * 3, none⟩ = some (.slice (some ⟨gs, 0, none⟩) p.sizes.length q.cs) := p0
        have pz : w.cell? ⟨gs, age, none⟩ = some (.int .i64 (z : Int)) := hsiz.cell hgs (encN_get _ _ _ hz)
        dsimp only
        by_cases hzs : z ≤ a % 4096
        · rw [if_pos hzs]
          exact find_slot b a w age pl (a % 4096) L.Q.length L.cp h1 h2 h3 (by omega) (by omega) hn hpl (by omega) hac g gs _ q.cs hlt hnc hm c3' p0' hal hmm z pz hzs
        · rw [if_neg hzs]
          cases hf : p.freed with
          | true =>
            rw [hf] at p2
            rw [if_pos (Or.inl rfl)]
            exact find_freed b a w age pl (a % 4096) L.Q.length L.cp h1 h2 h3 (by omega) (by omega) hn hpl (by omega) hac g gs _ q.cs hlt hnc hm c3' p0' hal hmm z pz (by omega) p2
          | false =>
            rw [hf] at p2
            by_cases hold : age + 1 < p.sizes.length
            · rw [if_pos (Or.inr hold)]
              exact find_older b a w age pl (a % 4096) L.Q.length L.cp h1 h2 h3 (by omega) (by omega) hn hpl (by omega) hac g gs _ q.cs hlt hnc hm c3' p0' hal hmm z pz (by omega) p2 hold
            · rw [if_neg (by simp; omega)]
              have := find_good b a w age pl (a % 4096) L.Q.length L.cp h1 h2 h3 (by omega) (by omega) hn hpl (by omega) hac g gs _ q.cs hlt hnc hm c3' p0' hal hmm z pz (by omega) p2 (by omega)
              simpa [ptrAt, hg] using this
end Go.Proofs.Ytpgoogjaoffdoaa
