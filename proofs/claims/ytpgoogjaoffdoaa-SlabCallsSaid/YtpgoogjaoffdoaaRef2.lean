/- The document's slab: find, by its walk. -/
import Derived.Test.YtpgoogjaoffdoaaRef1
namespace Go.Proofs.Ytpgoogjaoffdoaa
set_option linter.unusedVariables false
set_option linter.unusedSimpArgs false
open Go.RowKit

theorem RRepS.mod {w w' : World} {b : Nat} {r : RSS} {own : Nat → Option Rr} {L : RLo} (h : RRepS w b r own L) (hM : Mod (fun _ => False) w w') : RRepS w' b r own L :=
  h.keep hM.size fun k hk => hM.block k (h.dom k hk) (fun h => h)

set_option maxRecDepth 100000 in
set_option maxHeartbeats 4000000 in
theorem rfind_calls {w : World} {b : Nat} {r : RSS} {own : Nat → Option Rr} {L : RLo} {N : Nat} (h : RRepS w b r own L) (hO : r.Ok N) (a : Nat) (ha : a < 18446744073709551616) :
    Calls Try.prog 44 #[.pointer (some ⟨b, 0, none⟩), .int .u64 (a : Int)] w fun e w' => e = .returned (.tuple #[.int .i64 ((r.find a).1 : Int), .int .i64 ((r.find a).2.1 : Int), .int .i64 ((r.find a).2.2 : Int)]) ∧ Mod (fun _ => False) w w' := by
  have H : Hd _ := ⟨h⟩
  have HO : Hd _ := ⟨hO⟩
  have hlen : L.Q.length = r.pcs.length := by rw [h.pcs, List.length_map]
  have hN : r.pcs.length < 1048576 := by have := hO.many; have := hO.bound; omega
  have hcl := h.plc.le
  have hcm := h.plc.max
  unfold maxLen at hcm
  obtain ⟨c0, c1, c2, c3⟩ := h.cells
  clear h hO
  go_enter Try.func44, Try.ntmps44
  go_wp2_with fail
  go_loopg [7] r.pcs.length (fun gk v7 wr => ∃ i : Nat, v7 = .int .i64 i ∧ i + gk = r.pcs.length ∧ Hd (findIn a (r.pcs.drop i) i = r.find a) ∧ Hd (Mod (fun _ => False) w wr))
  case atStart => exact ⟨0, rfl, by omega, ⟨rfl⟩, ⟨Mod.refl _ _⟩⟩
  case round =>
    obtain ⟨i, rfl, hi, HF, HM⟩ := hrel
    obtain ⟨c0, c1, c2, c3⟩ := (H.out.mod HM.out).cells
    by_cases hlt : i < r.pcs.length
    · obtain ⟨p, hp⟩ : ∃ p, r.pcs[i]? = some p := ⟨_, List.getElem?_eq_getElem hlt⟩
      obtain ⟨q, g, hq, rfl, hg, hil, p0, p1, p2, p3, p4⟩ := (H.out.mod HM.out).piece hp
      have hpm := List.mem_of_getElem? hp
      have hx := HO.out.idx _ hpm
      have hy := HO.out.age _ hpm
      have hz := (HO.out.len _ hpm).1
      have hd : r.pcs.drop i = q.pc :: r.pcs.drop (i + 1) := by
        rw [List.drop_eq_getElem_cons hlt]
        rw [List.getElem?_eq_getElem hlt] at hp
        rw [Option.some.inj hp]
      have hfi := HF.out
      rw [hd] at hfi
      simp only [findIn] at hfi
      have HFI : Hd _ := ⟨hfi⟩
      have HP : Hd _ := ⟨hp⟩
      have HG : Hd _ := ⟨hg⟩
      have HQ : Hd _ := ⟨hq⟩
      rw [hg] at c1
      simp only [sv_some] at c1
      clear hp hpm hq hg hd HF hfi
      go_wp2_with fail
      refine (raddr_calls q.pc.idx q.pc.age 0 hx hy (by omega) _ _ _ wr).mono ?_
      rintro e0 w3 ⟨rfl, hM3⟩
      have HM3 : Hd _ := ⟨HM.out.trans hM3 (fun _ h => h.elim)⟩
      have hR3 := H.out.mod HM3.out
      obtain ⟨c0, c1, c2, c3⟩ := hR3.cells
      obtain ⟨q', g', hq', hqq, hg', _, p0, p1, p2, p3, p4⟩ := hR3.piece HP.out
      obtain rfl := Option.some.inj (HG.out.symm.trans hg')
      obtain rfl := Option.some.inj (HQ.out.symm.trans hq')
      rw [HG.out] at c1
      simp only [sv_some] at c1
      simp only [sv] at p2
      obtain ⟨f0, hf0⟩ : ∃ f0, addrOf q.pc.idx q.pc.age 0 = f0 := ⟨_, rfl⟩
      have hfb : f0 + 4096 < 18446744073709551616 := by subst hf0; unfold addrOf; omega
      have HFI' : Hd ((if f0 ≤ a ∧ a < f0 + q.pc.vals.length then (i, a - f0, if q.pc.freed = true then 14 else 0) else findIn a (r.pcs.drop (i + 1)) (i + 1)) = r.find a) := ⟨by have := HFI.out; unfold RPc.first at this; rw [hf0] at this; exact this⟩
      rw [hf0]
      clear hM3 hR3 hq' hqq hg' p0 p1 p3 HFI HM hf0
      by_cases h1 : f0 ≤ a
      · by_cases h2 : a < f0 + q.pc.vals.length
        · have hres := HFI'.out
          rw [if_pos ⟨h1, h2⟩] at hres
          have HRES : Hd _ := ⟨hres⟩
          clear hres
          cases hfr : q.pc.freed with
          | true =>
            rw [hfr] at p4
            have HFR : Hd (r.find a = (i, a - f0, 14)) := ⟨by rw [← HRES.out, hfr]; rfl⟩
            have hsub : ((a - f0 : Nat) : Int) = (a : Int) - (f0 : Int) := by omega
            clear hfr HRES
            go_wp2
            exact bodyPost_ret (v := .tuple #[.int .i64 (i : Int), .int .i64 ((a : Int) - (f0 : Int)), .int .i64 14]) (by simp [results, Try.f44, go_sem]) rfl ⟨by rw [HFR.out]; simp only [hsub]; rfl, HM3.out⟩
          | false =>
            rw [hfr] at p4
            have HFR : Hd (r.find a = (i, a - f0, 0)) := ⟨by rw [← HRES.out, hfr]; rfl⟩
            have hsub : ((a - f0 : Nat) : Int) = (a : Int) - (f0 : Int) := by omega
            clear hfr HRES
            go_wp2
            exact bodyPost_ret (v := .tuple #[.int .i64 (i : Int), .int .i64 ((a : Int) - (f0 : Int)), .int .i64 0]) (by simp [results, Try.f44, go_sem]) rfl ⟨by rw [HFR.out]; simp only [hsub]; rfl, HM3.out⟩
        · have h2' : f0 + q.pc.vals.length ≤ a := by omega
          have hres := HFI'.out
          rw [if_neg (by omega)] at hres
          have HRES : Hd _ := ⟨hres⟩
          clear hres
          go_wp2_with fail
          go_roundg (gk - 1)
          case measure => omega
          case rel => exact ⟨i + 1, by go_num, by omega, HRES, HM3⟩
      · have h1' : a < f0 := by omega
        have hres := HFI'.out
        rw [if_neg (by omega)] at hres
        have HRES : Hd _ := ⟨hres⟩
        clear hres
        go_wp2_with fail
        go_roundg (gk - 1)
        case measure => omega
        case rel => exact ⟨i + 1, by go_num, by omega, HRES, HM3⟩
    · have HRES : Hd (r.find a = (0, 0, 12)) := ⟨by rw [← HF.out, List.drop_eq_nil_of_le (by omega)]; rfl⟩
      clear HF
      simp only [sv] at c1
      go_wp2
      exact bodyPost_ret (v := .tuple #[.int .i64 0, .int .i64 0, .int .i64 12]) (by simp [results, Try.f44, go_sem]) rfl ⟨by rw [HRES.out]; rfl, HM.out⟩
end Go.Proofs.Ytpgoogjaoffdoaa
