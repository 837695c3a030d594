/- The document's slab: Off, by its walk. -/
import Derived.Test.YtpgoogjaoffdoaaRef4
namespace Go.Proofs.Ytpgoogjaoffdoaa
set_option linter.unusedVariables false
set_option linter.unusedSimpArgs false
open Go.RowKit

set_option maxRecDepth 100000 in
set_option maxHeartbeats 4000000 in
theorem roff_calls {w : World} {b : Nat} {r : RSS} {own : Nat → Option Rr} {L : RLo} {N : Nat} (h : RRepS w b r own L) (hO : r.Ok N) (a : Nat) (ha : a < 18446744073709551616) (n : Int) (hn1 : -9223372036854775808 ≤ n) (hn2 : n ≤ 9223372036854775807) :
    Calls Try.prog 30 #[.pointer (some ⟨b, 0, none⟩), .int .u64 (a : Int), .int .i64 n] w fun e w' => e = .returned (.tuple #[.int .u64 ((r.off a n).1 : Int), .int .i64 ((r.off a n).2 : Int)]) ∧ Mod (fun _ => False) w w' := by
  have H : Hd _ := ⟨h⟩
  have HO : Hd _ := ⟨hO⟩
  have hlen : L.Q.length = r.pcs.length := by rw [h.pcs, List.length_map]
  have hN : r.pcs.length < 1048576 := by have := hO.many; have := hO.bound; omega
  have hcl := h.plc.le
  have hcm := h.plc.max
  unfold maxLen at hcm
  clear h hO
  rcases r.find_cases a with ⟨i, k, e, hf, he⟩ | ⟨i, k, p, hf, hp, hfr, hk, hak⟩
  · have HS : Hd (r.off a n = (0, e)) := ⟨by unfold RSS.off; rw [hf]; dsimp only; rw [if_pos (by omega)]⟩
    have HF : Hd _ := ⟨hf⟩
    have he2 : ¬ (e : Int) = 0 := by omega
    clear hf he
    go_enter Try.func30, Try.ntmps30
    go_wp2_with fail
    refine (rfind_calls H.out HO.out a ha).mono ?_
    rintro e0 w3 ⟨rfl, hM3⟩
    have HM3 : Hd _ := ⟨hM3⟩
    clear hM3
    rw [HF.out]
    go_wp2
    exact bodyPost_ret (v := .tuple #[.int .u64 0, .int .i64 (e : Int)]) (by simp [results, Try.f30, go_sem]) rfl ⟨by rw [HS.out]; rfl, HM3.out⟩
  · have HF : Hd _ := ⟨hf⟩
    have HP : Hd _ := ⟨hp⟩
    have hil := (List.getElem?_eq_some_iff.1 hp).1
    have hz := (HO.out.len _ (List.mem_of_getElem? hp)).1
    have hix := HO.out.idx _ (List.mem_of_getElem? hp)
    have hag := HO.out.age _ (List.mem_of_getElem? hp)
    have HS : Hd (r.off a n = if (k : Int) + n < 0 ∨ (p.vals.length : Int) ≤ k + n then (0, 11) else (addrOf p.idx p.age ((k : Int) + n).toNat, 0)) := ⟨by unfold RSS.off; rw [hf]; dsimp only; rw [if_neg (by omega)]; simp only [RSS.lenAt, hp, Option.map_some, Option.getD_some]⟩
    clear hf hp hak hfr
    go_enter Try.func30, Try.ntmps30
    go_wp2_with fail
    refine (rfind_calls H.out HO.out a ha).mono ?_
    rintro e0 w3 ⟨rfl, hM3⟩
    have HM3 : Hd _ := ⟨hM3⟩
    have hR3 := H.out.mod hM3
    obtain ⟨c0, c1, c2, c3⟩ := hR3.cells
    obtain ⟨q, g, hq, rfl, hg, _, p0, p1, p2, p3, p4⟩ := hR3.piece HP.out
    rw [hg] at c1
    simp only [sv_some] at c1
    simp only [sv] at p2
    clear hM3 hR3 hq hg c0 c2 c3
    rw [HF.out]
    by_cases h1 : n < -(q.pc.vals.length : Int)
    · have HS2 : Hd _ := ⟨HS.out⟩
      rw [if_pos (by omega)] at HS2
      clear HS
      go_wp2
      exact bodyPost_ret (v := .tuple #[.int .u64 0, .int .i64 11]) (by simp [results, Try.f30, go_sem]) rfl ⟨by rw [HS2.out]; rfl, HM3.out⟩
    by_cases h2 : (q.pc.vals.length : Int) < n
    · have HS2 : Hd _ := ⟨HS.out⟩
      rw [if_pos (by omega)] at HS2
      clear HS
      go_wp2
      exact bodyPost_ret (v := .tuple #[.int .u64 0, .int .i64 11]) (by simp [results, Try.f30, go_sem]) rfl ⟨by rw [HS2.out]; rfl, HM3.out⟩
    by_cases h3 : (k : Int) + n < 0
    · have HS2 : Hd _ := ⟨HS.out⟩
      rw [if_pos (by omega)] at HS2
      clear HS
      go_wp2
      exact bodyPost_ret (v := .tuple #[.int .u64 0, .int .i64 11]) (by simp [results, Try.f30, go_sem]) rfl ⟨by rw [HS2.out]; rfl, HM3.out⟩
    by_cases h4 : (q.pc.vals.length : Int) ≤ (k : Int) + n
    · have HS2 : Hd _ := ⟨HS.out⟩
      rw [if_pos (by omega)] at HS2
      clear HS
      go_wp2
      exact bodyPost_ret (v := .tuple #[.int .u64 0, .int .i64 11]) (by simp [results, Try.f30, go_sem]) rfl ⟨by rw [HS2.out]; rfl, HM3.out⟩
    have HS2 : Hd _ := ⟨HS.out⟩
    rw [if_neg (by omega)] at HS2
    obtain ⟨m, hm⟩ := Int.eq_ofNat_of_zero_le (show 0 ≤ (k : Int) + n by omega)
    rw [hm, Int.toNat_natCast] at HS2
    have hm2 : m < 4096 := by omega
    have HM : Hd _ := ⟨hm⟩
    clear HS hm
    go_wp2_with fail
    rw [HM.out]
    refine (raddr_calls q.pc.idx q.pc.age m hix hag hm2 _ _ _ w3).mono ?_
    rintro e0 w4 ⟨rfl, hM4⟩
    have HM4 : Hd _ := ⟨HM3.out.trans hM4 (fun _ h => h.elim)⟩
    clear hM4
    obtain ⟨ra, hra⟩ : ∃ ra, addrOf q.pc.idx q.pc.age m = ra := ⟨_, rfl⟩
    rw [hra]
    rw [hra] at HS2
    clear hra
    go_wp2
    exact bodyPost_ret (v := .tuple #[.int .u64 (ra : Int), .int .i64 0]) (by simp [results, Try.f30, go_sem]) rfl ⟨by rw [HS2.out]; rfl, HM4.out⟩
end Go.Proofs.Ytpgoogjaoffdoaa
