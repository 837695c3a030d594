/- The document's slab: Load, Size, by their walks. -/
import Derived.Test.YtpgoogjaoffdoaaRef2
namespace Go.Proofs.Ytpgoogjaoffdoaa
set_option linter.unusedVariables false
set_option linter.unusedSimpArgs false
open Go.RowKit

theorem findIn_is (a : Nat) : ∀ (ps : List RPc) (i : Nat), findIn a ps i = (0, 0, 12) ∨ ∃ (j : Nat) (p : RPc), ps[j]? = some p ∧ p.first ≤ a ∧ a < p.first + p.vals.length ∧ findIn a ps i = (i + j, a - p.first, if p.freed = true then 14 else 0)
  | [], i => Or.inl rfl
  | p :: ps, i => by
    by_cases h : p.first ≤ a ∧ a < p.first + p.vals.length
    · exact Or.inr ⟨0, p, rfl, h.1, h.2, by simp [findIn, h]⟩
    · rcases findIn_is a ps (i + 1) with h1 | ⟨j, q, hq, h2, h3, h4⟩
      · exact Or.inl (by simp [findIn, h, h1])
      · exact Or.inr ⟨j + 1, q, by simpa using hq, h2, h3, by simp only [findIn, h, if_false, h4]; congr 1; omega⟩

theorem RSS.find_is (r : RSS) (a : Nat) : r.find a = (0, 0, 12) ∨ ∃ (j : Nat) (p : RPc), r.pcs[j]? = some p ∧ p.first ≤ a ∧ a < p.first + p.vals.length ∧ r.find a = (j, a - p.first, if p.freed = true then 14 else 0) := by
  rcases findIn_is a r.pcs 0 with h | ⟨j, p, h1, h2, h3, h4⟩
  · exact Or.inl h
  · exact Or.inr ⟨j, p, h1, h2, h3, by rw [RSS.find, h4, Nat.zero_add]⟩

/-- Good: a piece, a slot; or else an error. -/
theorem RSS.find_cases (r : RSS) (a : Nat) : (∃ i k e, r.find a = (i, k, e) ∧ (e = 12 ∨ e = 14)) ∨ ∃ (i k : Nat) (p : RPc), r.find a = (i, k, 0) ∧ r.pcs[i]? = some p ∧ p.freed = false ∧ k < p.vals.length ∧ a = p.first + k := by
  rcases r.find_is a with h | ⟨j, p, h1, h2, h3, h4⟩
  · exact Or.inl ⟨0, 0, 12, h, Or.inl rfl⟩
  · cases hf : p.freed with
    | true => exact Or.inl ⟨j, _, 14, by rw [h4, if_pos hf], Or.inr rfl⟩
    | false => exact Or.inr ⟨j, a - p.first, p, by rw [h4, if_neg (by rw [hf]; simp)], h1, hf, by omega, by omega⟩

set_option maxRecDepth 100000 in
set_option maxHeartbeats 4000000 in
theorem rsize_calls {w : World} {b : Nat} {r : RSS} {own : Nat → Option Rr} {L : RLo} {N : Nat} (h : RRepS w b r own L) (hO : r.Ok N) (a : Nat) (ha : a < 18446744073709551616) :
    Calls Try.prog 31 #[.pointer (some ⟨b, 0, none⟩), .int .u64 (a : Int)] w fun e w' => e = .returned (.tuple #[.int .i64 ((r.size a).1 : Int), .int .i64 ((r.size a).2 : Int)]) ∧ Mod (fun _ => False) w w' := by
  have H : Hd _ := ⟨h⟩
  have HO : Hd _ := ⟨hO⟩
  have hlen : L.Q.length = r.pcs.length := by rw [h.pcs, List.length_map]
  have hN : r.pcs.length < 1048576 := by have := hO.many; have := hO.bound; omega
  have hcl := h.plc.le
  have hcm := h.plc.max
  unfold maxLen at hcm
  clear h hO
  rcases r.find_cases a with ⟨i, k, e, hf, he⟩ | ⟨i, k, p, hf, hp, hfr, hk, hak⟩
  · have HS : Hd (r.size a = (0, e)) := ⟨by unfold RSS.size; rw [hf]; dsimp only; rw [if_pos (by omega)]⟩
    have HF : Hd _ := ⟨hf⟩
    have he2 : ¬ (e : Int) = 0 := by omega
    clear hf he
    go_enter Try.func31, Try.ntmps31
    go_wp2_with fail
    refine (rfind_calls H.out HO.out a ha).mono ?_
    rintro e0 w3 ⟨rfl, hM3⟩
    have HM3 : Hd _ := ⟨hM3⟩
    clear hM3
    rw [HF.out]
    go_wp2
    exact bodyPost_ret (v := .tuple #[.int .i64 0, .int .i64 (e : Int)]) (by simp [results, Try.f31, go_sem]) rfl ⟨by rw [HS.out]; rfl, HM3.out⟩
  · have HS : Hd (r.size a = (p.vals.length, 0)) := ⟨by unfold RSS.size; rw [hf]; dsimp only; rw [if_neg (by omega)]; simp [RSS.lenAt, hp]⟩
    have HF : Hd _ := ⟨hf⟩
    have HP : Hd _ := ⟨hp⟩
    have hil := (List.getElem?_eq_some_iff.1 hp).1
    have hz := (HO.out.len _ (List.mem_of_getElem? hp)).1
    clear hf hp hak hk hfr
    go_enter Try.func31, Try.ntmps31
    go_wp2_with fail
    refine (rfind_calls H.out HO.out a ha).mono ?_
    rintro e0 w3 ⟨rfl, hM3⟩
    have HM3 : Hd _ := ⟨hM3⟩
    have hR3 := H.out.mod hM3
    obtain ⟨c0, c1, c2, c3⟩ := hR3.cells
    obtain ⟨q, g, hq, rfl, hg, _, p0, p1, p2, p3, p4⟩ := hR3.piece HP.out
    rw [hg] at c1
    simp only [sv_some] at c1
    simp only [sv] at p2
    clear hM3 hR3 hq hg p0 p1 p3 p4 c0 c2 c3
    rw [HF.out]
    go_wp2
    exact bodyPost_ret (v := .tuple #[.int .i64 (q.pc.vals.length : Int), .int .i64 0]) (by simp [results, Try.f31, go_sem]) rfl ⟨by rw [HS.out]; rfl, HM3.out⟩
end Go.Proofs.Ytpgoogjaoffdoaa
