/- The document's slab: Load, by its walk. -/
import Derived.Test.YtpgoogjaoffdoaaRef3
namespace Go.Proofs.Ytpgoogjaoffdoaa
set_option linter.unusedVariables false
set_option linter.unusedSimpArgs false
open Go.RowKit

/-- A slot's two cells. -/
theorem RRepS.slot {w : World} {b : Nat} {r : RSS} {own : Nat → Option Rr} {L : RLo} (h : RRepS w b r own L) {i k : Nat} {q : RQ} (hq : L.Q[i]? = some q) (hk : k < q.pc.vals.length) (hh : q.pc.has.length = q.pc.vals.length) :
    ∃ gv gh, q.gv = some gv ∧ q.gh = some gh ∧ w.cell? ⟨gv, k, none⟩ = some (.int .i64 (q.pc.vals.getD k 0)) ∧ w.cell? ⟨gh, k, none⟩ = some (.bool (q.pc.has.getD k false)) := by
  obtain ⟨gv, hgv⟩ := (h.val i q hq).some_of (by omega)
  obtain ⟨gh, hgh⟩ := (h.has i q hq).some_of (by omega)
  refine ⟨gv, gh, hgv, hgh, (h.val i q hq).cell hgv ?_, (h.has i q hq).cell hgh ?_⟩
  · simp [encI, List.getD, List.getElem?_eq_getElem hk]
  · simp [encB, List.getD, List.getElem?_eq_getElem (show k < q.pc.has.length by omega)]

set_option maxRecDepth 100000 in
set_option maxHeartbeats 4000000 in
theorem rload_calls {w : World} {b : Nat} {r : RSS} {own : Nat → Option Rr} {L : RLo} {N : Nat} (h : RRepS w b r own L) (hO : r.Ok N) (a : Nat) (ha : a < 18446744073709551616) :
    Calls Try.prog 27 #[.pointer (some ⟨b, 0, none⟩), .int .u64 (a : Int)] w fun e w' => e = .returned (.tuple #[.int .i64 (r.load a).1, .int .i64 ((r.load a).2 : Int)]) ∧ Mod (fun _ => False) w w' := by
  have H : Hd _ := ⟨h⟩
  have HO : Hd _ := ⟨hO⟩
  have hlen : L.Q.length = r.pcs.length := by rw [h.pcs, List.length_map]
  have hN : r.pcs.length < 1048576 := by have := hO.many; have := hO.bound; omega
  have hcl := h.plc.le
  have hcm := h.plc.max
  unfold maxLen at hcm
  clear h hO
  rcases r.find_cases a with ⟨i, k, e, hf, he⟩ | ⟨i, k, p, hf, hp, hfr, hk, hak⟩
  · have HS : Hd (r.load a = (0, e)) := ⟨by unfold RSS.load; rw [hf]; dsimp only; rw [if_pos (by omega)]⟩
    have HF : Hd _ := ⟨hf⟩
    have he2 : ¬ (e : Int) = 0 := by omega
    clear hf he
    go_enter Try.func27, Try.ntmps27
    go_wp2_with fail
    refine (rfind_calls H.out HO.out a ha).mono ?_
    rintro e0 w3 ⟨rfl, hM3⟩
    have HM3 : Hd _ := ⟨hM3⟩
    clear hM3
    rw [HF.out]
    go_wp2
    exact bodyPost_ret (v := .tuple #[.int .i64 0, .int .i64 (e : Int)]) (by simp [results, Try.f27, go_sem]) rfl ⟨by rw [HS.out], HM3.out⟩
  · have HF : Hd _ := ⟨hf⟩
    have HP : Hd _ := ⟨hp⟩
    have hil := (List.getElem?_eq_some_iff.1 hp).1
    have hz := HO.out.len _ (List.mem_of_getElem? hp)
    have HS : Hd (r.load a = if p.has.getD k false = false then (0, 15) else (p.vals.getD k 0, 0)) := ⟨by unfold RSS.load; rw [hf]; dsimp only; rw [if_neg (by omega), hp]⟩
    clear hf hp hak hfr
    go_enter Try.func27, Try.ntmps27
    go_wp2_with fail
    refine (rfind_calls H.out HO.out a ha).mono ?_
    rintro e0 w3 ⟨rfl, hM3⟩
    have HM3 : Hd _ := ⟨hM3⟩
    have hR3 := H.out.mod hM3
    obtain ⟨c0, c1, c2, c3⟩ := hR3.cells
    obtain ⟨q, g, hq, rfl, hg, _, p0, p1, p2, p3, p4⟩ := hR3.piece HP.out
    obtain ⟨gv, gh, hgv, hgh, s1, s2⟩ := hR3.slot hq hk hz.2
    have hvle := (hR3.val _ q hq).le
    have hhle := (hR3.has _ q hq).le
    rw [hg] at c1
    rw [hgv] at p2
    rw [hgh] at p3
    simp only [sv_some] at c1 p2 p3
    clear hM3 hR3 hq hg hgv hgh p0 p1 p4 c0 c2 c3
    rw [HF.out]
    have hz1 := hz.1
    have hz2 := hz.2
    clear hz
    obtain ⟨vv, hvv⟩ : ∃ vv, q.pc.vals.getD k 0 = vv := ⟨_, rfl⟩
    rw [hvv] at s1 HS
    clear hvv
    cases hb : q.pc.has.getD k false with
    | true =>
      rw [hb] at s2
      have HS2 : Hd _ := ⟨HS.out⟩
      rw [hb] at HS2
      clear hb HS
      go_wp2
      exact bodyPost_ret (v := .tuple #[.int .i64 vv, .int .i64 0]) (by simp [results, Try.f27, go_sem]) rfl ⟨by rw [HS2.out]; rfl, HM3.out⟩
    | false =>
      rw [hb] at s2
      have HS2 : Hd _ := ⟨HS.out⟩
      rw [hb] at HS2
      clear hb HS
      go_wp2
      exact bodyPost_ret (v := .tuple #[.int .i64 0, .int .i64 15]) (by simp [results, Try.f27, go_sem]) rfl ⟨by rw [HS2.out]; rfl, HM3.out⟩
end Go.Proofs.Ytpgoogjaoffdoaa
