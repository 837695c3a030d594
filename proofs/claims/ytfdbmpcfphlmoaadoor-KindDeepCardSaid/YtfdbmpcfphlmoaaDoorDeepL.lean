/- KindDeep: its walk. -/
import Derived.Test.YtfdbmpcfphlmoaaDoorNames
namespace Go.Proofs.YtfdbmpcfphlmoaaDoor
set_option linter.unusedVariables false
set_option linter.unusedSimpArgs false
open Go.RowKit

theorem boxes_len : ∀ (n : Nat) (l : Bs), (boxes n l).length = 4 * n + l.length
  | 0, l => by simp [boxes]
  | n + 1, l => by
    have := boxes_len n l
    simp [boxes, boxB, this]
    omega

theorem kind_zero {l : Bs} (h : kindI l = 0) : baseI l = ([], false) ∧ deepI l = 0 ∧ plainI l = false := by
  refine ⟨?_, ?_, ?_⟩
  · unfold baseI; rw [if_pos h]
  · unfold deepI; rw [if_pos h]
  · cases hp : plainI l with
    | false => rfl
    | true =>
      have := kind_plain hp
      rw [h] at this
      split at this <;> (try split at this) <;> omega

set_option maxRecDepth 100000 in
set_option maxHeartbeats 2000000 in
theorem deep_long (s : ByteArray) (h : 300 < s.size) (w : World) (hT : Tab w) : Calls Tryd.prog 6 #[.string s] w fun e w' => e = .returned (.bool true) ∧ Below w.heap.size w w' := by
  have HA : Hd _ := ⟨alive_calls w hT⟩
  have HT : Hd _ := ⟨hT⟩
  clear hT
  go_enter Tryd.func6, Tryd.ntmps6
  go_wp2_with fail
  refine HA.out.mono ?_
  rintro e w1 ⟨rfl, hM⟩
  have HM1 : Hd (Mod (fun _ => False) w w1) := ⟨hM⟩
  have HT1 : Hd _ := ⟨HT.out.mod hM⟩
  clear hM
  go_wp2
  go_ret
  exact ⟨rfl, HM1.out.toBelow⟩

set_option maxRecDepth 100000 in
set_option maxHeartbeats 4000000 in
theorem deep_walk (s : ByteArray) (h : s.size ≤ 300) (w : World) (hT : Tab w) : Calls Tryd.prog 6 #[.string s] w fun e w' => e = .returned (.bool true) ∧ Below w.heap.size w w' := by
  have HA : Hd _ := ⟨alive_calls w hT⟩
  have HK : Hd (∀ w, Tab w → _) := ⟨fun w h0 => Kind_calls s (by omega) w h0⟩
  have HB : Hd (∀ w, Tab w → _) := ⟨fun w h0 => Base_calls s (by omega) w h0⟩
  have HD : Hd (∀ w, Tab w → _) := ⟨fun w h0 => Deep_calls s (by omega) w h0⟩
  have HP : Hd (∀ w, Tab w → _) := ⟨fun w h0 => Plain_calls s (by omega) w h0⟩
  have HT : Hd _ := ⟨hT⟩
  clear hT
  by_cases hk0 : kindI (lst s) = 0
  · obtain ⟨z1, z2, z3⟩ := kind_zero hk0
    rw [hk0] at HK
    rw [z1] at HB
    rw [z2] at HD
    rw [z3] at HP
    clear hk0 z1 z2 z3
    go_enter Tryd.func6, Tryd.ntmps6
    go_wp2_with fail
    refine HA.out.mono ?_
    rintro e w1 ⟨rfl, hM⟩
    have HM1 : Hd (Mod (fun _ => False) w w1) := ⟨hM⟩
    have HT1 : Hd _ := ⟨HT.out.mod hM⟩
    clear hM
    go_wp2_with fail
    refine (HK.out _ HT1.out).mono ?_
    rintro e w2 ⟨rfl, hM⟩
    have HM2 : Hd (Mod (fun _ => False) w w2) := ⟨HM1.out.trans hM (fun _ h => Or.inl h)⟩
    have HT2 : Hd _ := ⟨HT1.out.mod hM⟩
    clear hM
    go_wp2_with fail
    refine (HB.out _ HT2.out).mono ?_
    rintro e w3 ⟨rfl, hM⟩
    have HM3 : Hd (Mod (fun _ => False) w w3) := ⟨HM2.out.trans hM (fun _ h => Or.inl h)⟩
    have HT3 : Hd _ := ⟨HT2.out.mod hM⟩
    clear hM
    go_wp2_with fail
    refine (HD.out _ HT3.out).mono ?_
    rintro e w4 ⟨rfl, hM⟩
    have HM4 : Hd (Mod (fun _ => False) w w4) := ⟨HM3.out.trans hM (fun _ h => Or.inl h)⟩
    have HT4 : Hd _ := ⟨HT3.out.mod hM⟩
    clear hM
    go_wp2_with fail
    refine (HP.out _ HT4.out).mono ?_
    rintro e w5 ⟨rfl, hM⟩
    have HM5 : Hd (Mod (fun _ => False) w w5) := ⟨HM4.out.trans hM (fun _ h => Or.inl h)⟩
    have HT5 : Hd _ := ⟨HT4.out.mod hM⟩
    clear hM
    go_wp2
    go_ret
    exact ⟨rfl, HM5.out.toBelow⟩
  · obtain ⟨tp, p1, p2, p3, p4, p5, p6, p7⟩ := kind_parts hk0
    have hkle := kind_le (lst s)
    have hlen := boxes_strip tp.length tp (Nat.le_refl _)
    have hll : tp.length ≤ s.size := by
      rw [← lst_len]
      rcases p7 with ⟨e, _⟩ | ⟨e, _⟩ | ⟨e, _⟩ <;> rw [e] <;> simp
    have hpl : plainI (lst s) = decide (kindI (lst s) < 4) := by
      rcases p7 with ⟨e, h4⟩ | ⟨_, h4, hf⟩ | ⟨_, h4, hf⟩
      · rw [e, p6, ← e]; simp [h4]
      · rw [hf, h4]; rfl
      · rw [hf, h4]; rfl
    have hfin : (kindI (lst s) < 4 ∧ lst s = tp) ∨ (kindI (lst s) = 4 ∧ withI refB tp = (lst s, true)) ∨ (kindI (lst s) = 5 ∧ withI mutB tp = (lst s, true)) := by
      rcases p7 with ⟨e, h4⟩ | ⟨e, h4, _⟩ | ⟨e, h4, _⟩
      · exact Or.inl ⟨h4, e⟩
      · exact Or.inr (Or.inl ⟨h4, by rw [with_ref_plain p6, e]⟩)
      · exact Or.inr (Or.inr ⟨h4, by rw [with_mut_plain p6, e]⟩)
    obtain ⟨bb, hbb⟩ : ∃ bb, mk (strip tp).1 = bb := ⟨_, rfl⟩
    have hbl : (strip tp).1 = lst bb := by rw [← hbb, lst_mk]
    rw [p1, p2, hbb] at HB
    rw [p4] at HD
    rw [hbl] at p3 hlen
    obtain ⟨d, hd⟩ : ∃ d, (strip tp).2 = d := ⟨_, rfl⟩
    rw [hd] at HD p5 hlen
    have hbs : (lst bb).length ≤ 300 := by
      have := boxes_len d (lst bb)
      rw [hlen] at this
      omega
    have HKB : Hd (∀ w, Tab w → _) := ⟨fun w h0 => Kind_calls bb (by rw [← lst_len]; omega) w h0⟩
    have hgk := good_kind p3
    obtain ⟨kb, hkb⟩ : ∃ kb, kindI (lst bb) = kb := ⟨_, rfl⟩
    rw [hkb] at HKB hgk
    obtain ⟨k, hk⟩ : ∃ k, kindI (lst s) = k := ⟨_, rfl⟩
    rw [hk] at HK hfin hpl hk0 hkle
    rw [hpl] at HP
    have HG : Hd _ := ⟨p3⟩
    have HL : Hd _ := ⟨hlen⟩
    have HF : Hd _ := ⟨hfin⟩
    have HBS : Hd _ := ⟨hbs⟩
    have HP6 : Hd _ := ⟨p6⟩
    have hk1 : ((k : Int) == 0) = false := by rw [beq_eq_false_iff_ne]; omega
    have hd8 : ¬ 8 < (d : Int) := by omega
    clear p1 p2 p3 p4 p6 p7 hlen hll hpl hfin hbb hbl hd hbs hkb hk hk0
    have loop : ∀ wl : World, Hd (Mod (fun _ => False) w wl) → True := fun _ _ => trivial
    rcases hgk with hkb | hkb
    · subst hkb
      go_enter Tryd.func6, Tryd.ntmps6
      go_wp2_with fail
      refine HA.out.mono ?_
      rintro e w1 ⟨rfl, hM⟩
      have HM1 : Hd (Mod (fun _ => False) w w1) := ⟨hM⟩
      have HT1 : Hd _ := ⟨HT.out.mod hM⟩
      clear hM
      go_wp2_with fail
      refine (HK.out _ HT1.out).mono ?_
      rintro e w2 ⟨rfl, hM⟩
      have HM2 : Hd (Mod (fun _ => False) w w2) := ⟨HM1.out.trans hM (fun _ h => Or.inl h)⟩
      have HT2 : Hd _ := ⟨HT1.out.mod hM⟩
      clear hM
      go_wp2_with fail
      refine (HB.out _ HT2.out).mono ?_
      rintro e w3 ⟨rfl, hM⟩
      have HM3 : Hd (Mod (fun _ => False) w w3) := ⟨HM2.out.trans hM (fun _ h => Or.inl h)⟩
      have HT3 : Hd _ := ⟨HT2.out.mod hM⟩
      clear hM
      go_wp2_with fail
      refine (HKB.out _ HT3.out).mono ?_
      rintro e w4 ⟨rfl, hM⟩
      have HM4 : Hd (Mod (fun _ => False) w w4) := ⟨HM3.out.trans hM (fun _ h => Or.inl h)⟩
      have HT4 : Hd _ := ⟨HT3.out.mod hM⟩
      clear hM
      go_wp2_with fail
      refine (HD.out _ HT4.out).mono ?_
      rintro e w5 ⟨rfl, hM⟩
      have HM5 : Hd (Mod (fun _ => False) w w5) := ⟨HM4.out.trans hM (fun _ h => Or.inl h)⟩
      have HT5 : Hd _ := ⟨HT4.out.mod hM⟩
      clear hM
      go_wp2_with fail
      clear HA HKB loop
      go_loopg [4, 5, 6] d (fun gk v4 v5 v6 wr => ∃ (j : Nat) (t1 : ByteArray), v4 = .string t1 ∧ v5 = .bool true ∧ v6 = .int .i64 j ∧ j + gk = d ∧ Hd (lst t1 = boxes j (lst bb)) ∧ Hd (Mod (fun _ => False) w wr))
      case atStart => exact ⟨0, bb, rfl, rfl, rfl, by omega, ⟨rfl⟩, HM5⟩
      case round =>
        clear HM5 HT5
        obtain ⟨j, t1, rfl, rfl, rfl, hj, HL1, HMR⟩ := hrel
        have HTR : Hd _ := ⟨HT.out.mod HMR.out⟩
        have hz1 : t1.size ≤ 400 := by
          have h1 := boxes_len j (lst bb)
          rw [← HL1.out, lst_len] at h1
          have := HBS.out
          omega
        go_wp2_with fail
        refine (HD.out _ HTR.out).mono ?_
        rintro e x1 ⟨rfl, hM⟩
        have HX1 : Hd (Mod (fun _ => False) w x1) := ⟨HMR.out.trans hM (fun _ h => Or.inl h)⟩
        have HTX1 : Hd _ := ⟨HTR.out.mod hM⟩
        clear hM
        by_cases hlt : j < d
        · have hw := with_boxes HG.out (n := j) (by omega)
          rw [← HL1.out] at hw
          obtain ⟨u, hu⟩ : ∃ u, mk (boxes (j + 1) (lst bb)) = u := ⟨_, rfl⟩
          have HL2 : Hd (lst u = boxes (j + 1) (lst bb)) := ⟨by rw [← hu, lst_mk]⟩
          have HBX : Hd _ := ⟨Box_calls t1 (by omega) x1 HTX1.out⟩
          rw [hw] at HBX
          rw [hu] at HBX
          clear hw hu
          go_wp2_with fail
          refine HBX.out.mono ?_
          rintro e x2 ⟨rfl, hM⟩
          have HX2 : Hd (Mod (fun _ => False) w x2) := ⟨HX1.out.trans hM (fun _ h => Or.inl h)⟩
          clear hM
          go_wp2_with fail
          go_roundg (gk - 1)
          case measure => omega
          case rel => exact ⟨j + 1, u, rfl, rfl, by go_num, by omega, HL2, HX2⟩
        · have hjd : j = d := by omega
          have htp : lst t1 = tp := by rw [HL1.out, hjd]; exact HL.out
          have HPT : Hd _ := ⟨Plain_calls t1 (by omega) x1 HTX1.out⟩
          rw [htp, HP6.out] at HPT
          rcases HF.out with ⟨h4, he⟩ | ⟨h4, he⟩ | ⟨h4, he⟩
          · have hst : t1 = s := by rw [eq_mk t1, eq_mk s, htp, he]
            have hdk : decide (k < 4) = true := decide_eq_true h4
            have hk4 : (k : Int) < 4 := by omega
            rw [hdk] at HP
            subst hst
            clear hjd htp he hdk
            go_wp2_with fail
            refine HPT.out.mono ?_
            rintro e x2 ⟨rfl, hM⟩
            have HX2 : Hd (Mod (fun _ => False) w x2) := ⟨HX1.out.trans hM (fun _ h => Or.inl h)⟩
            have HTX2 : Hd _ := ⟨HTX1.out.mod hM⟩
            clear hM
            go_wp2_with fail
            refine (HP.out _ HTX2.out).mono ?_
            rintro e x3 ⟨rfl, hM⟩
            have HX3 : Hd (Mod (fun _ => False) w x3) := ⟨HX2.out.trans hM (fun _ h => Or.inl h)⟩
            clear hM
            have q4 : ((k : Int) == 4) = false := by rw [beq_eq_false_iff_ne]; omega
            have q5 : ((k : Int) == 5) = false := by rw [beq_eq_false_iff_ne]; omega
            have q6 : decide ((k : Int) < 4) = true := decide_eq_true hk4
            go_wp2
            go_ret
            exact ⟨by simp, HX3.out.toBelow⟩
          · have HRF : Hd (∀ w, Tab w → _) := ⟨fun w h0 => Ref_calls t1 (by omega) w h0⟩
            rw [htp, he] at HRF
            rw [← eq_mk s] at HRF
            subst h4
            have hdk : decide (4 < 4) = false := rfl
            rw [hdk] at HP
            clear hjd htp he hdk
            go_wp2_with fail
            refine HPT.out.mono ?_
            rintro e x2 ⟨rfl, hM⟩
            have HX2 : Hd (Mod (fun _ => False) w x2) := ⟨HX1.out.trans hM (fun _ h => Or.inl h)⟩
            have HTX2 : Hd _ := ⟨HTX1.out.mod hM⟩
            clear hM
            go_wp2_with fail
            refine (HP.out _ HTX2.out).mono ?_
            rintro e x3 ⟨rfl, hM⟩
            have HX3 : Hd (Mod (fun _ => False) w x3) := ⟨HX2.out.trans hM (fun _ h => Or.inl h)⟩
            have HTX3 : Hd _ := ⟨HTX2.out.mod hM⟩
            clear hM
            go_wp2_with fail
            refine (HRF.out _ HTX3.out).mono ?_
            rintro e x4 ⟨rfl, hM⟩
            have HX4 : Hd (Mod (fun _ => False) w x4) := ⟨HX3.out.trans hM (fun _ h => Or.inl h)⟩
            clear hM
            go_wp2
            go_ret
            exact ⟨by simp, HX4.out.toBelow⟩
          · have HRF : Hd (∀ w, Tab w → _) := ⟨fun w h0 => Mut_calls t1 (by omega) w h0⟩
            rw [htp, he] at HRF
            rw [← eq_mk s] at HRF
            subst h4
            have hdk : decide (5 < 4) = false := rfl
            rw [hdk] at HP
            clear hjd htp he hdk
            go_wp2_with fail
            refine HPT.out.mono ?_
            rintro e x2 ⟨rfl, hM⟩
            have HX2 : Hd (Mod (fun _ => False) w x2) := ⟨HX1.out.trans hM (fun _ h => Or.inl h)⟩
            have HTX2 : Hd _ := ⟨HTX1.out.mod hM⟩
            clear hM
            go_wp2_with fail
            refine (HP.out _ HTX2.out).mono ?_
            rintro e x3 ⟨rfl, hM⟩
            have HX3 : Hd (Mod (fun _ => False) w x3) := ⟨HX2.out.trans hM (fun _ h => Or.inl h)⟩
            have HTX3 : Hd _ := ⟨HTX2.out.mod hM⟩
            clear hM
            go_wp2_with fail
            refine (HRF.out _ HTX3.out).mono ?_
            rintro e x4 ⟨rfl, hM⟩
            have HX4 : Hd (Mod (fun _ => False) w x4) := ⟨HX3.out.trans hM (fun _ h => Or.inl h)⟩
            clear hM
            go_wp2
            go_ret
            exact ⟨by simp, HX4.out.toBelow⟩
    · subst hkb
      go_enter Tryd.func6, Tryd.ntmps6
      go_wp2_with fail
      refine HA.out.mono ?_
      rintro e w1 ⟨rfl, hM⟩
      have HM1 : Hd (Mod (fun _ => False) w w1) := ⟨hM⟩
      have HT1 : Hd _ := ⟨HT.out.mod hM⟩
      clear hM
      go_wp2_with fail
      refine (HK.out _ HT1.out).mono ?_
      rintro e w2 ⟨rfl, hM⟩
      have HM2 : Hd (Mod (fun _ => False) w w2) := ⟨HM1.out.trans hM (fun _ h => Or.inl h)⟩
      have HT2 : Hd _ := ⟨HT1.out.mod hM⟩
      clear hM
      go_wp2_with fail
      refine (HB.out _ HT2.out).mono ?_
      rintro e w3 ⟨rfl, hM⟩
      have HM3 : Hd (Mod (fun _ => False) w w3) := ⟨HM2.out.trans hM (fun _ h => Or.inl h)⟩
      have HT3 : Hd _ := ⟨HT2.out.mod hM⟩
      clear hM
      go_wp2_with fail
      refine (HKB.out _ HT3.out).mono ?_
      rintro e w4 ⟨rfl, hM⟩
      have HM4 : Hd (Mod (fun _ => False) w w4) := ⟨HM3.out.trans hM (fun _ h => Or.inl h)⟩
      have HT4 : Hd _ := ⟨HT3.out.mod hM⟩
      clear hM
      go_wp2_with fail
      refine (HKB.out _ HT4.out).mono ?_
      rintro e w5 ⟨rfl, hM⟩
      have HM5 : Hd (Mod (fun _ => False) w w5) := ⟨HM4.out.trans hM (fun _ h => Or.inl h)⟩
      have HT5 : Hd _ := ⟨HT4.out.mod hM⟩
      clear hM
      go_wp2_with fail
      refine (HD.out _ HT5.out).mono ?_
      rintro e w6 ⟨rfl, hM⟩
      have HM6 : Hd (Mod (fun _ => False) w w6) := ⟨HM5.out.trans hM (fun _ h => Or.inl h)⟩
      have HT6 : Hd _ := ⟨HT5.out.mod hM⟩
      clear hM
      go_wp2_with fail
      clear HA HKB loop
      go_loopg [4, 5, 6] d (fun gk v4 v5 v6 wr => ∃ (j : Nat) (t1 : ByteArray), v4 = .string t1 ∧ v5 = .bool true ∧ v6 = .int .i64 j ∧ j + gk = d ∧ Hd (lst t1 = boxes j (lst bb)) ∧ Hd (Mod (fun _ => False) w wr))
      case atStart => exact ⟨0, bb, rfl, rfl, rfl, by omega, ⟨rfl⟩, HM6⟩
      case round =>
        clear HM6 HT6
        obtain ⟨j, t1, rfl, rfl, rfl, hj, HL1, HMR⟩ := hrel
        have HTR : Hd _ := ⟨HT.out.mod HMR.out⟩
        have hz1 : t1.size ≤ 400 := by
          have h1 := boxes_len j (lst bb)
          rw [← HL1.out, lst_len] at h1
          have := HBS.out
          omega
        go_wp2_with fail
        refine (HD.out _ HTR.out).mono ?_
        rintro e x1 ⟨rfl, hM⟩
        have HX1 : Hd (Mod (fun _ => False) w x1) := ⟨HMR.out.trans hM (fun _ h => Or.inl h)⟩
        have HTX1 : Hd _ := ⟨HTR.out.mod hM⟩
        clear hM
        by_cases hlt : j < d
        · have hw := with_boxes HG.out (n := j) (by omega)
          rw [← HL1.out] at hw
          obtain ⟨u, hu⟩ : ∃ u, mk (boxes (j + 1) (lst bb)) = u := ⟨_, rfl⟩
          have HL2 : Hd (lst u = boxes (j + 1) (lst bb)) := ⟨by rw [← hu, lst_mk]⟩
          have HBX : Hd _ := ⟨Box_calls t1 (by omega) x1 HTX1.out⟩
          rw [hw] at HBX
          rw [hu] at HBX
          clear hw hu
          go_wp2_with fail
          refine HBX.out.mono ?_
          rintro e x2 ⟨rfl, hM⟩
          have HX2 : Hd (Mod (fun _ => False) w x2) := ⟨HX1.out.trans hM (fun _ h => Or.inl h)⟩
          clear hM
          go_wp2_with fail
          go_roundg (gk - 1)
          case measure => omega
          case rel => exact ⟨j + 1, u, rfl, rfl, by go_num, by omega, HL2, HX2⟩
        · have hjd : j = d := by omega
          have htp : lst t1 = tp := by rw [HL1.out, hjd]; exact HL.out
          have HPT : Hd _ := ⟨Plain_calls t1 (by omega) x1 HTX1.out⟩
          rw [htp, HP6.out] at HPT
          rcases HF.out with ⟨h4, he⟩ | ⟨h4, he⟩ | ⟨h4, he⟩
          · have hst : t1 = s := by rw [eq_mk t1, eq_mk s, htp, he]
            have hdk : decide (k < 4) = true := decide_eq_true h4
            have hk4 : (k : Int) < 4 := by omega
            rw [hdk] at HP
            subst hst
            clear hjd htp he hdk
            go_wp2_with fail
            refine HPT.out.mono ?_
            rintro e x2 ⟨rfl, hM⟩
            have HX2 : Hd (Mod (fun _ => False) w x2) := ⟨HX1.out.trans hM (fun _ h => Or.inl h)⟩
            have HTX2 : Hd _ := ⟨HTX1.out.mod hM⟩
            clear hM
            go_wp2_with fail
            refine (HP.out _ HTX2.out).mono ?_
            rintro e x3 ⟨rfl, hM⟩
            have HX3 : Hd (Mod (fun _ => False) w x3) := ⟨HX2.out.trans hM (fun _ h => Or.inl h)⟩
            clear hM
            have q4 : ((k : Int) == 4) = false := by rw [beq_eq_false_iff_ne]; omega
            have q5 : ((k : Int) == 5) = false := by rw [beq_eq_false_iff_ne]; omega
            have q6 : decide ((k : Int) < 4) = true := decide_eq_true hk4
            go_wp2
            go_ret
            exact ⟨by simp, HX3.out.toBelow⟩
          · have HRF : Hd (∀ w, Tab w → _) := ⟨fun w h0 => Ref_calls t1 (by omega) w h0⟩
            rw [htp, he] at HRF
            rw [← eq_mk s] at HRF
            subst h4
            have hdk : decide (4 < 4) = false := rfl
            rw [hdk] at HP
            clear hjd htp he hdk
            go_wp2_with fail
            refine HPT.out.mono ?_
            rintro e x2 ⟨rfl, hM⟩
            have HX2 : Hd (Mod (fun _ => False) w x2) := ⟨HX1.out.trans hM (fun _ h => Or.inl h)⟩
            have HTX2 : Hd _ := ⟨HTX1.out.mod hM⟩
            clear hM
            go_wp2_with fail
            refine (HP.out _ HTX2.out).mono ?_
            rintro e x3 ⟨rfl, hM⟩
            have HX3 : Hd (Mod (fun _ => False) w x3) := ⟨HX2.out.trans hM (fun _ h => Or.inl h)⟩
            have HTX3 : Hd _ := ⟨HTX2.out.mod hM⟩
            clear hM
            go_wp2_with fail
            refine (HRF.out _ HTX3.out).mono ?_
            rintro e x4 ⟨rfl, hM⟩
            have HX4 : Hd (Mod (fun _ => False) w x4) := ⟨HX3.out.trans hM (fun _ h => Or.inl h)⟩
            clear hM
            go_wp2
            go_ret
            exact ⟨by simp, HX4.out.toBelow⟩
          · have HRF : Hd (∀ w, Tab w → _) := ⟨fun w h0 => Mut_calls t1 (by omega) w h0⟩
            rw [htp, he] at HRF
            rw [← eq_mk s] at HRF
            subst h4
            have hdk : decide (5 < 4) = false := rfl
            rw [hdk] at HP
            clear hjd htp he hdk
            go_wp2_with fail
            refine HPT.out.mono ?_
            rintro e x2 ⟨rfl, hM⟩
            have HX2 : Hd (Mod (fun _ => False) w x2) := ⟨HX1.out.trans hM (fun _ h => Or.inl h)⟩
            have HTX2 : Hd _ := ⟨HTX1.out.mod hM⟩
            clear hM
            go_wp2_with fail
            refine (HP.out _ HTX2.out).mono ?_
            rintro e x3 ⟨rfl, hM⟩
            have HX3 : Hd (Mod (fun _ => False) w x3) := ⟨HX2.out.trans hM (fun _ h => Or.inl h)⟩
            have HTX3 : Hd _ := ⟨HTX2.out.mod hM⟩
            clear hM
            go_wp2_with fail
            refine (HRF.out _ HTX3.out).mono ?_
            rintro e x4 ⟨rfl, hM⟩
            have HX4 : Hd (Mod (fun _ => False) w x4) := ⟨HX3.out.trans hM (fun _ h => Or.inl h)⟩
            clear hM
            go_wp2
            go_ret
            exact ⟨by simp, HX4.out.toBelow⟩
end Go.Proofs.YtfdbmpcfphlmoaaDoor
