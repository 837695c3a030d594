/- The document's slab: Store and Blank, by their walks. -/
import Derived.Test.YtpgoogjaoffdoaaRef9
namespace Go.Proofs.Ytpgoogjaoffdoaa
set_option linter.unusedVariables false
set_option linter.unusedSimpArgs false
open Go.RowKit

set_option maxRecDepth 100000 in
set_option maxHeartbeats 4000000 in
theorem rstore_calls {w : World} {b : Nat} {r : RSS} {own : Nat → Option Rr} {L : RLo} {N : Nat} (h : RRepS w b r own L) (hO : r.Ok N) (a : Nat) (ha : a < 18446744073709551616) (v : Int) :
    Calls Try.prog 28 #[.pointer (some ⟨b, 0, none⟩), .int .u64 (a : Int), .int .i64 v] w fun e w' => e = .returned (.int .i64 ((r.set a (v, true)).1 : Int)) ∧ RRep w' b (r.set a (v, true)).2 own ∧ Mod (Dom own) w w' := by
  have H : Hd _ := ⟨h⟩
  have HO : Hd _ := ⟨hO⟩
  have hlen : L.Q.length = r.pcs.length := by rw [h.pcs, List.length_map]
  have hN : r.pcs.length < 1048576 := by have := hO.many; have := hO.bound; omega
  have hcl := h.plc.le
  have hcm := h.plc.max
  unfold maxLen at hcm
  clear h hO
  rcases r.find_cases a with ⟨i, k, e, hf, he⟩ | ⟨i, k, p, hf, hp, hfr, hk, hak⟩
  · have HS : Hd (r.set a (v, true) = (e, r)) := ⟨by unfold RSS.set; rw [hf]; dsimp only; rw [if_pos (by omega)]⟩
    have HF : Hd _ := ⟨hf⟩
    have he2 : ¬ (e : Int) = 0 := by omega
    clear hf he
    go_enter Try.func28, Try.ntmps28
    go_wp2_with fail
    refine (rfind_calls H.out HO.out a ha).mono ?_
    rintro e0 w3 ⟨rfl, hM3⟩
    have HM3 : Hd _ := ⟨hM3⟩
    clear hM3
    rw [HF.out]
    go_wp2
    go_ret
    exact ⟨by rw [HS.out]; rfl, by rw [HS.out]; exact ⟨L, H.out.mod HM3.out⟩, HM3.out.mono (fun _ h => h.elim)⟩
  · have HF : Hd _ := ⟨hf⟩
    have HP : Hd _ := ⟨hp⟩
    have hil := (List.getElem?_eq_some_iff.1 hp).1
    have hz := HO.out.len _ (List.mem_of_getElem? hp)
    have HS : Hd (r.set a (v, true) = (0, r.upd i fun p => { p with vals := p.vals.set k v, has := p.has.set k true })) := ⟨by unfold RSS.set; rw [hf]; dsimp only; rw [if_neg (by omega)]⟩
    clear hf hp hak hfr
    go_enter Try.func28, Try.ntmps28
    go_wp2_with fail
    refine (rfind_calls H.out HO.out a ha).mono ?_
    rintro e0 w3 ⟨rfl, hM3⟩
    have HM3 : Hd _ := ⟨hM3⟩
    have hR3 := H.out.mod hM3
    obtain ⟨c0, c1, c2, c3⟩ := hR3.cells
    obtain ⟨q, g, hq, rfl, hg, _, p0, p1, p2, p3, p4⟩ := hR3.piece HP.out
    obtain ⟨gv, gh, hgv, hgh, s1, s2⟩ := hR3.slot hq hk hz.2
    have z1 := (hR3.val _ q hq).frozen hgv k
    have z2 := (hR3.has _ q hq).frozen hgh k
    have hvle := (hR3.val _ q hq).le
    have hhle := (hR3.has _ q hq).le
    have n1 : gv ≠ b := rr_ne (hR3.ov _ q hq gv hgv) hR3.ob (by simp)
    have n2 : gv ≠ g := rr_ne (hR3.ov _ q hq gv hgv) (hR3.op g hg) (by simp)
    have n3 : gv ≠ gh := rr_ne (hR3.ov _ q hq gv hgv) (hR3.oh _ q hq gh hgh) (by simp)
    have HNEW : Hd _ := ⟨hR3.setSlot hq hk hz.2 hgv hgh v true⟩
    have HOV : Hd (own gv ≠ none ∧ own gh ≠ none) := ⟨by rw [hR3.ov _ q hq gv hgv]; simp, by rw [hR3.oh _ q hq gh hgh]; simp⟩
    rw [hg] at c1
    rw [hgv] at p2
    rw [hgh] at p3
    simp only [sv_some] at c1 p2 p3
    clear hM3 hR3 hq hg hgv hgh p0 p1 p4 c0 c2 c3
    rw [HF.out]
    have hz1 := hz.1
    have hz2 := hz.2
    clear hz
    go_wp2
    go_ret
    exact ⟨by rw [HS.out]; rfl, by rw [HS.out]; exact HNEW.out, (HM3.out.mono (fun _ h => h.elim)).trans ((Mod.setCell (S := Dom own) w3 ⟨gv, k, none⟩ (.int .i64 v) HOV.out.1).trans (Mod.setCell (S := Dom own) _ ⟨gh, k, none⟩ (.bool true) HOV.out.2) (fun _ h => Or.inl h)) (fun _ h => Or.inl h)⟩

set_option maxRecDepth 100000 in
set_option maxHeartbeats 4000000 in
theorem rblank_calls {w : World} {b : Nat} {r : RSS} {own : Nat → Option Rr} {L : RLo} {N : Nat} (h : RRepS w b r own L) (hO : r.Ok N) (a : Nat) (ha : a < 18446744073709551616)  :
    Calls Try.prog 29 #[.pointer (some ⟨b, 0, none⟩), .int .u64 (a : Int)] w fun e w' => e = .returned (.int .i64 ((r.set a (0, false)).1 : Int)) ∧ RRep w' b (r.set a (0, false)).2 own ∧ Mod (Dom own) w w' := by
  have H : Hd _ := ⟨h⟩
  have HO : Hd _ := ⟨hO⟩
  have hlen : L.Q.length = r.pcs.length := by rw [h.pcs, List.length_map]
  have hN : r.pcs.length < 1048576 := by have := hO.many; have := hO.bound; omega
  have hcl := h.plc.le
  have hcm := h.plc.max
  unfold maxLen at hcm
  clear h hO
  rcases r.find_cases a with ⟨i, k, e, hf, he⟩ | ⟨i, k, p, hf, hp, hfr, hk, hak⟩
  · have HS : Hd (r.set a (0, false) = (e, r)) := ⟨by unfold RSS.set; rw [hf]; dsimp only; rw [if_pos (by omega)]⟩
    have HF : Hd _ := ⟨hf⟩
    have he2 : ¬ (e : Int) = 0 := by omega
    clear hf he
    go_enter Try.func29, Try.ntmps29
    go_wp2_with fail
    refine (rfind_calls H.out HO.out a ha).mono ?_
    rintro e0 w3 ⟨rfl, hM3⟩
    have HM3 : Hd _ := ⟨hM3⟩
    clear hM3
    rw [HF.out]
    go_wp2
    go_ret
    exact ⟨by rw [HS.out]; rfl, by rw [HS.out]; exact ⟨L, H.out.mod HM3.out⟩, HM3.out.mono (fun _ h => h.elim)⟩
  · have HF : Hd _ := ⟨hf⟩
    have HP : Hd _ := ⟨hp⟩
    have hil := (List.getElem?_eq_some_iff.1 hp).1
    have hz := HO.out.len _ (List.mem_of_getElem? hp)
    have HS : Hd (r.set a (0, false) = (0, r.upd i fun p => { p with vals := p.vals.set k 0, has := p.has.set k false })) := ⟨by unfold RSS.set; rw [hf]; dsimp only; rw [if_neg (by omega)]⟩
    clear hf hp hak hfr
    go_enter Try.func29, Try.ntmps29
    go_wp2_with fail
    refine (rfind_calls H.out HO.out a ha).mono ?_
    rintro e0 w3 ⟨rfl, hM3⟩
    have HM3 : Hd _ := ⟨hM3⟩
    have hR3 := H.out.mod hM3
    obtain ⟨c0, c1, c2, c3⟩ := hR3.cells
    obtain ⟨q, g, hq, rfl, hg, _, p0, p1, p2, p3, p4⟩ := hR3.piece HP.out
    obtain ⟨gv, gh, hgv, hgh, s1, s2⟩ := hR3.slot hq hk hz.2
    have z1 := (hR3.val _ q hq).frozen hgv k
    have z2 := (hR3.has _ q hq).frozen hgh k
    have hvle := (hR3.val _ q hq).le
    have hhle := (hR3.has _ q hq).le
    have n1 : gv ≠ b := rr_ne (hR3.ov _ q hq gv hgv) hR3.ob (by simp)
    have n2 : gv ≠ g := rr_ne (hR3.ov _ q hq gv hgv) (hR3.op g hg) (by simp)
    have n3 : gv ≠ gh := rr_ne (hR3.ov _ q hq gv hgv) (hR3.oh _ q hq gh hgh) (by simp)
    have HNEW : Hd _ := ⟨hR3.setSlot hq hk hz.2 hgv hgh 0 false⟩
    have HOV : Hd (own gv ≠ none ∧ own gh ≠ none) := ⟨by rw [hR3.ov _ q hq gv hgv]; simp, by rw [hR3.oh _ q hq gh hgh]; simp⟩
    rw [hg] at c1
    rw [hgv] at p2
    rw [hgh] at p3
    simp only [sv_some] at c1 p2 p3
    clear hM3 hR3 hq hg hgv hgh p0 p1 p4 c0 c2 c3
    rw [HF.out]
    have hz1 := hz.1
    have hz2 := hz.2
    clear hz
    go_wp2
    go_ret
    exact ⟨by rw [HS.out]; rfl, by rw [HS.out]; exact HNEW.out, (HM3.out.mono (fun _ h => h.elim)).trans ((Mod.setCell (S := Dom own) w3 ⟨gv, k, none⟩ (.int .i64 0) HOV.out.1).trans (Mod.setCell (S := Dom own) _ ⟨gh, k, none⟩ (.bool false) HOV.out.2) (fun _ h => Or.inl h)) (fun _ h => Or.inl h)⟩

end Go.Proofs.Ytpgoogjaoffdoaa
