/- The document's slab: Free, by its walk. -/
import Derived.Test.YtpgoogjaoffdoaaRef12
namespace Go.Proofs.Ytpgoogjaoffdoaa
set_option linter.unusedVariables false
set_option linter.unusedSimpArgs false
open Go.RowKit

/-- What a call leaves of the reference's slab. -/
def RPost (w : World) (b : Nat) (own : Nat → Option Rr) (r' : RSS) (w' : World) : Prop :=
  ∃ own', RRep w' b r' own' ∧ (∀ k, own' k ≠ none → own k ≠ none ∨ w.heap.size ≤ k) ∧ Mod (Dom own) w w'


/-- What the walk reads of the slab, in a world that has only more blocks. -/
theorem RRepS.facts {w w' : World} {b : Nat} {r : RSS} {own : Nat → Option Rr} {L : RLo} (h : RRepS w b r own L) {i : Nat} {p : RPc} (hp : r.pcs[i]? = some p) {g : Nat} (hg : L.gp = some g) (hM : Mod (fun _ => False) w w') :
    w'.cell? ⟨b, 1, none⟩ = some (.slice (some ⟨g, 0, none⟩) L.Q.length L.cp) ∧ w'.cell? ⟨b, 2, none⟩ = some (.slice (L.gf.map fun g => ⟨g, 0, none⟩) r.fre.length L.cf) ∧ w'.cell? ⟨g, i * 5, none⟩ = some (.int .i64 (p.idx : Int)) ∧
      w'.frozen? ⟨b, 2, none⟩ = false ∧ b < w'.heap.size ∧ g < w'.heap.size := by
  have h' := h.mod hM
  obtain ⟨_, c1, c2, _⟩ := h'.cells
  obtain ⟨q, g', hq, rfl, hg', _, p0, _⟩ := h'.piece hp
  obtain rfl : g = g' := by rw [hg] at hg'; exact Option.some.inj hg'
  refine ⟨by rw [c1, hg]; rfl, c2, p0, by simp [World.frozen?, h'.base], (Array.getElem?_eq_some_iff.1 h'.base).1, h'.plc.lt hg⟩

set_option maxRecDepth 100000 in
set_option maxHeartbeats 4000000 in
theorem rfree_calls {w : World} {b : Nat} {r : RSS} {own : Nat → Option Rr} {L : RLo} {N : Nat} (h : RRepS w b r own L) (hO : r.Ok N) (a : Nat) (ha : a < 18446744073709551616) :
    Calls Try.prog 26 #[.pointer (some ⟨b, 0, none⟩), .int .u64 (a : Int)] w fun e w' => e = .returned (.int .i64 ((r.free1 a).1 : Int)) ∧ RPost w b own (r.free1 a).2 w' := by
  have H : Hd _ := ⟨h⟩
  have HO : Hd _ := ⟨hO⟩
  have hlen : L.Q.length = r.pcs.length := by rw [h.pcs, List.length_map]
  have hN : r.pcs.length < 1048576 := by have := hO.many; have := hO.bound; omega
  have hcl := h.plc.le
  have hcm := h.plc.max
  unfold maxLen at hcm
  clear h hO
  rcases r.find_cases a with ⟨i, k, e, hf, he⟩ | ⟨i, k, p, hf, hp, hfr, hk, hak⟩
  · have HS : Hd (r.free1 a = (e, r)) := ⟨by unfold RSS.free1; rw [hf]; dsimp only; rw [if_pos (by omega)]⟩
    have HF : Hd _ := ⟨hf⟩
    have he2 : ¬ (e : Int) = 0 := by omega
    clear hf he
    go_enter Try.func26, Try.ntmps26
    go_wp2_with fail
    refine (rfind_calls H.out HO.out a ha).mono ?_
    rintro e0 w3 ⟨rfl, hM3⟩
    have HM3 : Hd _ := ⟨hM3⟩
    clear hM3
    rw [HF.out]
    go_wp2
    go_ret
    exact ⟨by rw [HS.out]; rfl, by rw [HS.out]; exact ⟨own, ⟨L, H.out.mod HM3.out⟩, fun k hk => Or.inl hk, HM3.out.mono (fun _ h => h.elim)⟩⟩
  · have HF : Hd _ := ⟨hf⟩
    have HP : Hd _ := ⟨hp⟩
    have hil := (List.getElem?_eq_some_iff.1 hp).1
    by_cases hk0 : k = 0
    · subst hk0
      have HS : Hd (r.free1 a = (0, { r.upd i (fun p => { p with freed := true }) with fre := r.fre ++ [p.idx] })) := ⟨by unfold RSS.free1; rw [hf]; dsimp only; rw [if_neg (by omega), if_neg (by omega), hp]; rfl⟩
      clear hf hp hak hfr hk
      go_enter Try.func26, Try.ntmps26
      go_wp2_with fail
      refine (rfind_calls H.out HO.out a ha).mono ?_
      rintro e0 w3 ⟨rfl, hM3⟩
      have HM3 : Hd _ := ⟨hM3⟩
      have hR3 := H.out.mod hM3
      obtain ⟨c0, c1, c2, c3⟩ := hR3.cells
      obtain ⟨q, g, hq, rfl, hg, _, p0, p1, p2, p3, p4⟩ := hR3.piece HP.out
      have hR4 := hR3.setFreed hq hg true
      have hgb : g ≠ b := rr_ne (hR3.op g hg) hR3.ob (by simp)
      have hfro := hR3.plc.frozen hg (i * 5 + 4)
      rw [hg] at c1
      simp only [sv_some] at c1
      have HM4 : Hd _ := ⟨(hM3.mono (T := Dom own) (fun _ h => h.elim)).trans (Mod.setCell (S := Dom own) w3 ⟨g, i * 5 + 4, none⟩ (.bool true) (by rw [Dom, hR3.op g hg]; simp)) (fun k hk => Or.inl hk)⟩
      obtain ⟨pd, hpd, hpi⟩ : ∃ pd, (r.upd i fun p => { p with freed := true }).pcs[i]? = some pd ∧ pd.idx = q.pc.idx := by
        refine ⟨{ q.pc with freed := true }, by simp [RSS.upd, List.getElem?_modify, HP.out], rfl⟩
      generalize hL4 : ({ L with Q := L.Q.set i { q with pc := { q.pc with freed := true } } } : RLo) = L4 at hR4
      have hg4 : L4.gp = some g := by rw [← hL4]; exact hg
      have hlen4 : L4.Q.length = L.Q.length := by rw [← hL4]; simp
      have hr4 : (r.upd i fun p => { p with freed := true }).fre = r.fre := rfl
      generalize hW : w3.setCell ⟨g, i * 5 + 4, none⟩ (.bool true) = w4 at hR4 HM4
      have HFA : Hd (∀ w', Mod (fun _ => False) w4 w' → _) := ⟨fun w' hM => hR4.facts hpd hg4 hM⟩
      rw [hpi, hlen4, hr4] at HFA
      obtain ⟨d1, d2, d3, d4, hb4, hgl4⟩ := HFA.out w4 (Mod.refl _ _)
      have HR4 : Hd _ := ⟨hR4⟩
      have HFR : Hd _ := ⟨hR4.fre⟩
      have hcf := hR4.fre.le
      have hnf := HO.out.fre
      have hnb := HO.out.bound
      rw [hr4] at HFR hcf
      obtain ⟨i0, hi0, hz0, hz1, hz2⟩ := info_parts Try.info3
      have HI0 : Hd _ := ⟨And.intro hi0 (And.intro hz0 (And.intro hz1 hz2))⟩
      have HID : Hd _ := ⟨hpi⟩
      have HPD : Hd _ := ⟨hpd⟩
      obtain ⟨idx, hidx⟩ : ∃ idx, q.pc.idx = idx := ⟨_, rfl⟩
      obtain ⟨m, hm⟩ : ∃ m, r.fre.length = m := ⟨_, rfl⟩
      rw [hidx] at d3 HFA HID
      rw [hm] at d2 HFA HFR hcf hnf
      have HIX : Hd _ := ⟨hidx⟩
      have HMM : Hd _ := ⟨hm⟩
      clear hi0 hz0 hz1 hz2 hidx hm
      clear hM3 hR3 hR4 hq hg p0 p1 p2 p3 c0 c2 c3 hpd hpi hL4 hg4 hlen4 hr4
      rw [HF.out]
      go_upto_region 7 with fail
      clear hW p4 c1 hfro
      generalize hogf : L4.gf = ogf at d2 HFR
      have HOGF : Hd _ := ⟨hogf⟩
      clear hogf
      go_cut [] (fun wc => ∃ g' c' w5, wc = w5.setCell ⟨b, 2, none⟩ (.slice (some ⟨g', 0, none⟩) (m + 1) c') ∧ Hd (Sl w5 3 1 (some g') (m + 1) c' (encN (r.fre ++ [idx])) ∧ w4.heap.size ≤ g' ∧ Mod (fun _ => False) w4 w5))
      case first =>
        go_region_law (first
          | (refine step_append_src rfl (.tmp 28) (.tmp 32) 41 rfl 3 i0 (.int .i64 0) 8 Try.underlying41 HI0.out.1 HI0.out.2.1 HI0.out.2.2.1 HI0.out.2.2.2 rfl w4.heap.size 0 0 [] (by simp [Act.eval, Act.put, sv]) (Sl.fresh _ _) ogf m L4.cf (encN r.fre) (by simp [Act.eval, Act.put, sv]) (HFR.out.alloc _).drew (encN_ones _) (by unfold maxLen; omega) (by omega) ?_
             intro g1 c1 w5 hS1 hor1 hM1
             have X1 : Hd _ := ⟨fresh1 hS1 hor1 hM1⟩
             clear hS1 hor1 hM1
             obtain ⟨d1, d2, d3, d4, hb4, hgl4⟩ := HFA.out w5 (by exact X1.out.2.2))
          | (refine step_append_src rfl (.tmp 28) (.tmp 32) 41 rfl 3 i0 (.int .i64 0) 8 Try.underlying41 HI0.out.1 HI0.out.2.1 HI0.out.2.2.1 HI0.out.2.2.2 rfl w4.heap.size 0 0 [] (by simp [Act.eval, Act.put, sv]) (Sl.fresh2 _ _ _) ogf m L4.cf (encN r.fre) (by simp [Act.eval, Act.put, sv]) ((HFR.out.alloc _).alloc _).drew (encN_ones _) (by unfold maxLen; omega) (by omega) ?_
             intro g1 c1 w5 hS1 hor1 hM1
             have X1 : Hd _ := ⟨fresh2 hS1 hor1 hM1⟩
             clear hS1 hor1 hM1
             obtain ⟨d1, d2, d3, d4, hb4, hgl4⟩ := HFA.out w5 (by exact X1.out.2.2.1))
          | (refine step_append_src rfl (.tmp 28) (.tmp 32) 41 rfl 3 i0 (.int .i64 0) 8 Try.underlying41 HI0.out.1 HI0.out.2.1 HI0.out.2.2.1 HI0.out.2.2.2 rfl (w4.heap.size + 1) 0 0 [] (by simp [Act.eval, Act.put, sv]) (Sl.fresh3 _ _ _) ogf m L4.cf (encN r.fre) (by simp [Act.eval, Act.put, sv]) ((HFR.out.alloc _).alloc _).drew (encN_ones _) (by unfold maxLen; omega) (by omega) ?_
             intro g1 c1 w5 hS1 hor1 hM1
             have X1 : Hd _ := ⟨fresh3 hS1 hor1 hM1⟩
             clear hS1 hor1 hM1
             obtain ⟨d1, d2, d3, d4, hb4, hgl4⟩ := HFA.out w5 (by exact X1.out.2.2.1))
          | (refine step_append_sls rfl (.tmp 33) (.tmp 42) 41 rfl 3 i0 (.int .i64 0) 8 Try.underlying41 HI0.out.1 HI0.out.2.1 HI0.out.2.2.1 HI0.out.2.2.2 rfl g1 (0 + m) c1 ([] ++ encN r.fre) (by simp [Act.eval, Act.put, sv]) (X1.out.1.alloc _) ⟨w5.heap.size, 0, none⟩ 1 1 [.int .i64 (idx : Int)] (by simp [Act.eval, Act.put]) rfl (one_at (heap_alloc_new _ _)) (one_only _ rfl) (by unfold maxLen; omega) (by omega) ?_
             intro g2 c2 w6 hS2 hor2 hM2
             have X2 : Hd _ := ⟨fresh4 ⟨X1.out.2.1, X1.out.2.2.trans (Mod.alloc _ _ _) (fun _ h => Or.inl h)⟩ hS2 hor2 hM2⟩
             clear hS2 hor2 hM2
             obtain ⟨d1, d2, d3, d4, hb4, hgl4⟩ := HFA.out w6 X2.out.2.2)
          | (refine step_append_sls rfl (.tmp 33) (.tmp 42) 41 rfl 3 i0 (.int .i64 0) 8 Try.underlying41 HI0.out.1 HI0.out.2.1 HI0.out.2.2.1 HI0.out.2.2.2 rfl g1 (0 + m) c1 ([] ++ encN r.fre) (by simp [Act.eval, Act.put, sv]) X1.out.1 ⟨(w4.heap.size + 1), 0, none⟩ 1 1 [.int .i64 (idx : Int)] (by simp [Act.eval, Act.put]) rfl (one_at X1.out.2.2.2.1) (one_only _ rfl) (by unfold maxLen; omega) (by omega) ?_
             intro g2 c2 w6 hS2 hor2 hM2
             have X2 : Hd _ := ⟨fresh4 ⟨X1.out.2.1, X1.out.2.2.1⟩ hS2 hor2 hM2⟩
             clear hS2 hor2 hM2
             obtain ⟨d1, d2, d3, d4, hb4, hgl4⟩ := HFA.out w6 X2.out.2.2)
          | (refine step_append_sls rfl (.tmp 33) (.tmp 42) 41 rfl 3 i0 (.int .i64 0) 8 Try.underlying41 HI0.out.1 HI0.out.2.1 HI0.out.2.2.1 HI0.out.2.2.2 rfl g1 (0 + m) c1 ([] ++ encN r.fre) (by simp [Act.eval, Act.put, sv]) X1.out.1 ⟨w4.heap.size, 0, none⟩ 1 1 [.int .i64 (idx : Int)] (by simp [Act.eval, Act.put]) rfl (one_at X1.out.2.2.2.1) (one_only _ rfl) (by unfold maxLen; omega) (by omega) ?_
             intro g2 c2 w6 hS2 hor2 hM2
             have X2 : Hd _ := ⟨fresh4 ⟨X1.out.2.1, X1.out.2.2.1⟩ hS2 hor2 hM2⟩
             clear hS2 hor2 hM2
             obtain ⟨d1, d2, d3, d4, hb4, hgl4⟩ := HFA.out w6 X2.out.2.2))
        all_goals (go_wp2_with fail; go_meet)
        all_goals (case rel => exact ⟨g2, c2, w6, rfl, ⟨by have := X2.out.1; rw [encN_append]; simpa using this, X2.out.2⟩⟩)
      case rest =>
        clear d1 d2 d3 d4 hb4 hgl4
        obtain ⟨g', c', w5, rfl, HC⟩ := hcut
        go_wp2
        go_ret
        have hM5 := HC.out.2.2
        have hR5 := HR4.out.mod hM5
        have hg' : own g' = none := by
          cases h : own g' with
          | none => rfl
          | some x => have := HR4.out.dom g' (by rw [h]; simp); have := HC.out.2.1; omega
        have hlen5 : (r.fre ++ [idx]).length = m + 1 := by simp [HMM.out]
        have hS5 : Sl w5 3 1 (some g') (r.fre ++ [idx]).length c' (encN (r.fre ++ [idx])) := by rw [hlen5]; exact HC.out.1
        have hR6 := hR5.newFree hS5 hg'
        rw [hlen5] at hR6
        have hms := HM4.out.size
        refine ⟨by rw [HS.out]; rfl, ?_⟩
        rw [HS.out]
        refine ⟨_, ⟨_, by rw [HIX.out]; exact hR6⟩, ?_, ?_⟩
        · intro k hk
          by_cases e : k = g'
          · exact Or.inr (by have := HC.out.2.1; omega)
          · rw [if_neg e] at hk; exact Or.inl hk
        · refine (HM4.out.trans hM5 (fun _ h => h.elim)).trans (Mod.setCell (S := Dom own) w5 _ _ (by rw [Dom, HR4.out.ob]; simp)) (fun k hk => Or.inl hk)
    · have HS : Hd (r.free1 a = (11, r)) := ⟨by unfold RSS.free1; rw [hf]; dsimp only; rw [if_neg (by omega), if_pos hk0]⟩
      have hk2 : ¬ (k : Int) = 0 := by omega
      clear hf hp hak hfr hk hk0
      go_enter Try.func26, Try.ntmps26
      go_wp2_with fail
      refine (rfind_calls H.out HO.out a ha).mono ?_
      rintro e0 w3 ⟨rfl, hM3⟩
      have HM3 : Hd _ := ⟨hM3⟩
      clear hM3
      rw [HF.out]
      go_wp2
      go_ret
      exact ⟨by rw [HS.out]; rfl, by rw [HS.out]; exact ⟨own, ⟨L, H.out.mod HM3.out⟩, fun k hk => Or.inl hk, HM3.out.mono (fun _ h => h.elim)⟩⟩
end Go.Proofs.Ytpgoogjaoffdoaa
