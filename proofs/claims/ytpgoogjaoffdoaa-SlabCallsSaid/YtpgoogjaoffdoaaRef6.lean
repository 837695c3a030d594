/- The document's slab: Live, by its walk. -/
import Derived.Test.YtpgoogjaoffdoaaRef5
namespace Go.Proofs.Ytpgoogjaoffdoaa
set_option linter.unusedVariables false
set_option linter.unusedSimpArgs false
open Go.RowKit

theorem live_le (ps : List RPc) : (ps.map fun p => if p.freed = true then 0 else 1).sum ≤ ps.length := by
  induction ps with
  | nil => simp
  | cons p ps ih =>
    simp only [List.map_cons, List.sum_cons, List.length_cons]
    split <;> omega

set_option maxRecDepth 100000 in
set_option maxHeartbeats 4000000 in
theorem rlive_calls {w : World} {b : Nat} {r : RSS} {own : Nat → Option Rr} {L : RLo} {N : Nat} (h : RRepS w b r own L) (hO : r.Ok N) :
    Calls Try.prog 33 #[.pointer (some ⟨b, 0, none⟩)] w fun e w' => e = .returned (.int .i64 (r.live : Int)) ∧ w = w' := by
  have H : Hd _ := ⟨h⟩
  have hlen : L.Q.length = r.pcs.length := by rw [h.pcs, List.length_map]
  have hN : r.pcs.length < 1048576 := by have := hO.many; have := hO.bound; omega
  have hcl := h.plc.le
  have hcm := h.plc.max
  unfold maxLen at hcm
  obtain ⟨c0, c1, c2, c3⟩ := h.cells
  clear h hO c0 c2 c3
  go_enter Try.func33, Try.ntmps33
  go_wp2_with fail
  go_loopg [3, 4] r.pcs.length (fun gk v3 v4 wr => w = wr ∧ ∃ (i m : Nat), v3 = .int .i64 m ∧ v4 = .int .i64 i ∧ i + gk = r.pcs.length ∧ m ≤ i ∧ Hd (m + ((r.pcs.drop i).map fun p => if p.freed = true then 0 else 1).sum = r.live))
  case atStart => exact ⟨rfl, 0, 0, rfl, rfl, by omega, by omega, ⟨by simp [RSS.live]⟩⟩
  case round =>
    obtain ⟨rfl, i, m, rfl, rfl, hi, hmi, HF⟩ := hrel
    by_cases hlt : i < r.pcs.length
    · obtain ⟨p, hp⟩ : ∃ p, r.pcs[i]? = some p := ⟨_, List.getElem?_eq_getElem hlt⟩
      obtain ⟨q, g, hq, rfl, hg, hil, p0, p1, p2, p3, p4⟩ := H.out.piece hp
      have hd : r.pcs.drop i = q.pc :: r.pcs.drop (i + 1) := by
        rw [List.drop_eq_getElem_cons hlt]
        rw [List.getElem?_eq_getElem hlt] at hp
        rw [Option.some.inj hp]
      have hs := HF.out
      rw [hd, List.map_cons, List.sum_cons] at hs
      rw [hg] at c1
      simp only [sv_some] at c1
      clear hp hq hg hd HF p0 p1 p2 p3
      cases hfr : q.pc.freed with
      | true =>
        rw [hfr] at p4 hs
        have HS : Hd (m + ((r.pcs.drop (i + 1)).map fun p => if p.freed = true then 0 else 1).sum = r.live) := ⟨by simpa using hs⟩
        clear hfr hs
        go_wp2_with fail
        go_roundg (gk - 1)
        case measure => omega
        case rel => exact ⟨rfl, i + 1, m, rfl, by go_num, by omega, by omega, HS⟩
      | false =>
        rw [hfr] at p4 hs
        have HS : Hd (m + 1 + ((r.pcs.drop (i + 1)).map fun p => if p.freed = true then 0 else 1).sum = r.live) := ⟨by rw [if_neg (by simp)] at hs; omega⟩
        clear hfr hs
        go_wp2_with fail
        go_roundg (gk - 1)
        case measure => omega
        case rel => exact ⟨rfl, i + 1, m + 1, by go_num, by go_num, by omega, by omega, HS⟩
    · have HS : Hd (m = r.live) := ⟨by have := HF.out; rw [List.drop_eq_nil_of_le (by omega)] at this; simpa using this⟩
      clear HF
      simp only [sv] at c1
      go_wp2
      go_ret
      exact ⟨by rw [← HS.out]; rfl, rfl⟩
end Go.Proofs.Ytpgoogjaoffdoaa
