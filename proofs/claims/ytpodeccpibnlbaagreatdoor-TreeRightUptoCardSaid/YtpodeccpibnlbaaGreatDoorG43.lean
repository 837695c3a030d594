/- The reference's none, opt, places and vars, walked. -/
import Derived.Test.YtpodeccpibnlbaaGreatDoorG30
import Derived.Test.YtpodeccpibnlbaaGreatDoorG07
import Derived.Test.YtpodeccpibnlbaaGreatDoorG03
import Derived.Test.YtpodeccpibnlbaaGreatDoorG20
namespace Go.Proofs.YtpodeccpibnlbaaGreatDoor
set_option linter.unusedVariables false
set_option linter.unusedSimpArgs false
open Go.RowKit
section
variable {S : Nat → Prop} {w0 : World}
set_option maxRecDepth 100000 in
set_option maxHeartbeats 2000000 in
theorem rnone_ans {v : Value} {p : Pl} (hv : plV S w0 v p) : Ans 155 #[v] w0 (.bool (noneI p)) := by
  intro w hw
  obtain ⟨h1, oa, len, cap, rfl, h2⟩ := hv
  have hlen := h2.hlen
  have hbig := h2.hbig
  subst hlen
  clear h2 h1 hw
  obtain ⟨r, hr⟩ : ∃ r, noneI p = r := ⟨_, rfl⟩
  have HR : Hd _ := ⟨hr⟩
  rw [hr]
  clear hr
  go_enter Tryz.func155, Tryz.ntmps155
  cases he : emp p.loc with
  | true =>
    have HE : Hd _ := ⟨he⟩
    obtain ⟨he2, he3⟩ := emp_t he
    clear he
    by_cases h0 : p.steps.length = 0
    · have Hh0 : Hd _ := ⟨h0⟩
      have zh0 : ((p.steps.length : Int) == 0) = true := by rw [h0]; rfl
      clear h0
      go_wp2
      go_ret
      exact ⟨by rw [show r = true from by rw [← HR.out]; simp [noneI, HE.out, Hh0.out]]; first | rfl | (simp; done) | (simp [HE.out, Hh0.out]; done), (Mod.alloc _ _ _)⟩
    · have Hh0 : Hd _ := ⟨h0⟩
      have zh0 : ((p.steps.length : Int) == 0) = false := by rw [beq_eq_false_iff_ne]; omega
      clear h0
      go_wp2
      go_ret
      exact ⟨by rw [show r = false from by rw [← HR.out]; simp [noneI, HE.out, Hh0.out]]; first | rfl | (simp; done) | (simp [HE.out, Hh0.out]; done), (Mod.alloc _ _ _)⟩
  | false =>
    have HE : Hd _ := ⟨he⟩
    obtain ⟨he2, he3⟩ := emp_f he
    clear he
    go_wp2
    go_ret
    exact ⟨by rw [show r = false from by rw [← HR.out]; simp [noneI, HE.out]]; first | rfl | (simp; done) | (simp [HE.out]; done), (Mod.alloc _ _ _)⟩
set_option maxRecDepth 100000 in
set_option maxHeartbeats 2000000 in
theorem rnamed_ans {s : ByteArray} (h : Sm s) (t : Bool) : Ans 154 #[.string s, .bool t] w0 (.bool (namedI s t)) := by
  intro w hw
  have HN : Hd (∀ w', Mod (fun _ => False) w w' → Calls Tryz.prog 41 #[.string s] w' _) := ⟨fun w' h' => (rname_ans h) w' (hw.trans h' (fun _ h => Or.inl h))⟩
  clear h hw
  obtain ⟨r, hr⟩ : ∃ r, namedI s t = r := ⟨_, rfl⟩
  have HR : Hd _ := ⟨hr⟩
  rw [hr]
  clear hr
  cases t with
  | true =>
    go_enter Tryz.func154, Tryz.ntmps154
    go_wp2_with fail
    refine (HN.out _ (by (first | exact Mod.refl _ _))).mono ?_
    rintro e w1 ⟨rfl, hM⟩
    have HM1 : Hd (Mod (fun _ => False) w w1) := ⟨by refine Mod.trans ?_ hM (fun _ h => Or.inl h); (first | exact Mod.refl _ _)⟩
    clear hM
    go_wp2
    go_ret
    exact ⟨by rw [← HR.out]; rfl, HM1.out⟩
  | false =>
    cases he : emp s with
    | true =>
      have HE : Hd _ := ⟨he⟩
      obtain ⟨he2, he3⟩ := emp_t he
      clear he
      go_enter Tryz.func154, Tryz.ntmps154
      go_wp2
      go_ret
      exact ⟨by rw [show r = true from by rw [← HR.out]; simp [namedI, HE.out]]; first | rfl | (simp; done), Mod.refl _ _⟩
    | false =>
      have HE : Hd _ := ⟨he⟩
      obtain ⟨he2, he3⟩ := emp_f he
      clear he
      go_enter Tryz.func154, Tryz.ntmps154
      go_wp2
      go_ret
      exact ⟨by rw [show r = false from by rw [← HR.out]; simp [namedI, HE.out]]; first | rfl | (simp; done), Mod.refl _ _⟩


def placesOk (l : List Pl) (a b : Nat) : Bool := l.all placeI && (decide (a ≤ l.length) && decide (l.length ≤ b))
set_option maxRecDepth 100000 in
set_option maxHeartbeats 4000000 in
theorem rplaces_ans {oa : Option Addr} {la ca : Nat} {l : List Pl} (h : Pls S w0 oa la ca l) (a b : Nat) (ha : a ≤ 100) (hb : b ≤ 100) : Ans 153 #[.slice oa la ca, .int .i64 (a : Int), .int .i64 (b : Int)] w0 (.bool (placesOk l a b)) := by
  intro w hw
  have HS : Hd _ := ⟨h⟩
  have HW : Hd _ := ⟨hw⟩
  have hbig := h.hbig
  have hlen := h.hlen
  subst hlen
  clear h hw
  obtain ⟨r, hr⟩ : ∃ r, placesOk l a b = r := ⟨_, rfl⟩
  have HR : Hd _ := ⟨hr⟩
  rw [hr]
  clear hr
  go_enter Tryz.func153, Tryz.ntmps153
  go_wp2_with fail
  go_loopg [7] l.length (fun gk v7 wr => Hd (Mod (fun _ => False) w wr) ∧ ∃ k : Nat, v7 = .int .i64 k ∧ k + gk = l.length ∧ Hd ((l.drop k).all placeI = l.all placeI))
  case atStart => exact ⟨⟨Mod.refl _ _⟩, 0, rfl, by omega, ⟨rfl⟩⟩
  case round =>
    obtain ⟨HM, k, rfl, hk, HI⟩ := hrel
    by_cases hlt : k < l.length
    · have hx0 : l[k]? = some l[k] := List.getElem?_eq_getElem (by omega)
      obtain ⟨x, hx⟩ : ∃ x, l[k]? = some x := ⟨_, hx0⟩
      obtain ⟨bx, o, oa1, la1, ca1, rfl, _, hbl, e0, e1, hv⟩ := HS.out.pl hx
      have hk2 := HW.out.trans HM.out (fun _ h => Or.inl h)
      have d0 := hk2.cell' e0
      have d1 := hk2.cell' e1
      have HP : Hd _ := ⟨rPlace_ans hv wr hk2⟩
      have HX : Hd _ := ⟨hx⟩
      clear hx hx0 e0 e1 hbl hv hk2
      obtain ⟨q, hq⟩ : ∃ q, placeI x = q := ⟨_, rfl⟩
      rw [hq] at HP
      have HQ : Hd _ := ⟨hq⟩
      clear hq
      go_wp2_with fail
      refine HP.out.mono ?_
      rintro e w1 ⟨rfl, hM⟩
      have HM1 : Hd (Mod (fun _ => False) w w1) := ⟨HM.out.trans hM (fun _ h => Or.inl h)⟩
      clear hM HP
      cases q with
      | true =>
        have HI2 : Hd ((l.drop (k + 1)).all placeI = l.all placeI) := ⟨by rw [← HI.out, all_hit HX.out HQ.out]⟩
        go_wp2_with fail
        go_roundg (gk - 1)
        case measure => omega
        case rel => exact ⟨HM1, k + 1, by go_num, by omega, HI2⟩
      | false =>
        have HF : Hd (r = false) := ⟨by rw [← HR.out, placesOk, ← HI.out, all_miss HX.out HQ.out]; rfl⟩
        go_wp2
        go_ret
        exact ⟨by rw [HF.out]; rfl, HM1.out⟩
    · have HAll : Hd (l.all placeI = true) := ⟨by rw [← HI.out]; exact all_end (by omega)⟩
      by_cases h1 : a ≤ l.length
      · by_cases h2 : l.length ≤ b
        · have HF : Hd (r = true) := ⟨by rw [← HR.out, placesOk, HAll.out]; simp [h1, h2]⟩
          go_wp2
          go_ret
          exact ⟨by rw [HF.out]; first | rfl | (simp; omega), HM.out⟩
        · have HF : Hd (r = false) := ⟨by rw [← HR.out, placesOk]; simp [h2]⟩
          go_wp2
          go_ret
          exact ⟨by rw [HF.out]; first | rfl | (simp; omega), HM.out⟩
      · have HF : Hd (r = false) := ⟨by rw [← HR.out, placesOk]; simp [h1]⟩
        go_wp2
        go_ret
        exact ⟨by rw [HF.out]; first | rfl | (simp; omega), HM.out⟩
/-- Is a name with a type one: of a plain type, of a type, or of none? -/
def varOk (plain bare : Bool) (v : Vr) : Bool := isName (lst v.name) && ((if plain then plainI (lst v.type) else !decide (kindI (lst v.type) = 0)) || (bare && emp v.type))
set_option maxRecDepth 100000 in
set_option maxHeartbeats 8000000 in
theorem rvars_ans {oa : Option Addr} {la ca : Nat} {l : List Vr} (h : Vrs S w0 oa la ca l) (plain bare : Bool) : Ans 52 #[.slice oa la ca, .bool plain, .bool bare] w0 (.bool (l.all (varOk plain bare))) := by
  intro w hw
  have HS : Hd _ := ⟨h⟩
  have HW : Hd _ := ⟨hw⟩
  have hbig := h.hbig
  have hlen := h.hlen
  subst hlen
  clear h hw
  obtain ⟨r, hr⟩ : ∃ r, l.all (varOk plain bare) = r := ⟨_, rfl⟩
  have HR : Hd _ := ⟨hr⟩
  rw [hr]
  clear hr
  go_enter Tryz.func52, Tryz.ntmps52
  go_wp2_with fail
  go_loopg [7] l.length (fun gk v7 wr => Hd (Mod (fun _ => False) w wr) ∧ ∃ k : Nat, v7 = .int .i64 k ∧ k + gk = l.length ∧ Hd ((l.drop k).all (varOk plain bare) = r))
  case atStart => exact ⟨⟨Mod.refl _ _⟩, 0, rfl, by omega, ⟨HR.out⟩⟩
  case round =>
    obtain ⟨HM, k, rfl, hk, HI⟩ := hrel
    by_cases hlt : k < l.length
    · have hx0 : l[k]? = some l[k] := List.getElem?_eq_getElem (by omega)
      obtain ⟨x, hx⟩ : ∃ x, l[k]? = some x := ⟨_, hx0⟩
      obtain ⟨bx, o, rfl, _, hbl, e0, e1, _, hn, ht⟩ := HS.out.vr hx
      have hk2 := HW.out.trans HM.out (fun _ h => Or.inl h)
      have d1 := hk2.cell' e1
      have HE0 : Hd _ := ⟨e0⟩
      have HE1 : Hd _ := ⟨e1⟩
      have HPL : Hd _ := ⟨rPlain_calls x.type ht wr⟩
      have HKI : Hd (∀ w, _) := ⟨fun w => rKind_calls x.type ht w⟩
      have HNA : Hd (∀ w, _) := ⟨fun w => rName_calls x.name hn w⟩
      rw [plainR_snd] at HPL
      rw [kindR_eq] at HKI
      have HK2 : Hd _ := ⟨hk2⟩
      have HIT : Hd (varOk plain bare x = true → (l.drop (k + 1)).all (varOk plain bare) = r) := ⟨fun h => by rw [← HI.out, all_hit hx h]⟩
      have HIF : Hd (varOk plain bare x = false → r = false) := ⟨fun h => by rw [← HI.out, all_miss hx h]⟩
      have HV : Hd (varOk plain bare x = (isName (lst x.name) && ((if plain then plainI (lst x.type) else !decide (kindI (lst x.type) = 0)) || (bare && emp x.type)))) := ⟨rfl⟩
      clear hx hx0 e0 e1 hbl hk2 hn ht
      obtain ⟨qn, hqn⟩ : ∃ q, isName (lst x.name) = q := ⟨_, rfl⟩
      obtain ⟨qp, hqp⟩ : ∃ q, plainI (lst x.type) = q := ⟨_, rfl⟩
      obtain ⟨kn, hkn⟩ : ∃ q, kindI (lst x.type) = q := ⟨_, rfl⟩
      obtain ⟨pn, hpn⟩ : ∃ q, (plainR (lst x.type)).1 = q := ⟨_, rfl⟩
      rw [hqn] at HNA HV
      rw [hqp] at HPL HV
      rw [hpn] at HPL
      rw [hkn] at HKI HV
      clear hqn hqp hkn hpn
      go_wp2_with fail
      refine HPL.out.mono ?_
      rintro e w1 ⟨rfl, hM1⟩
      have HM1 : Hd (Mod (fun _ => False) w w1) := ⟨HM.out.trans hM1 (fun _ h => Or.inl h)⟩
      have HK3 : Hd (Mod (fun _ => False) w0 w1) := ⟨HK2.out.trans hM1 (fun _ h => Or.inl h)⟩
      clear hM1 d1 HPL HM HK2
      cases plain with
      | true =>
        cases qp with
        | true =>
          have d0 := HK3.out.cell' HE0.out
          go_wp2_with fail
          refine (HNA.out _).mono ?_
          rintro e wz ⟨rfl, hMz⟩
          have HMz : Hd (Mod (fun _ => False) w wz) := ⟨HM1.out.trans hMz (fun _ h => Or.inl h)⟩
          have z1 := (HK3.out.trans hMz (fun _ h => Or.inl h)).cell' HE1.out
          clear hMz d0
          cases qn with
          | false =>
            have HF : Hd (r = false) := ⟨HIF.out (by rw [HV.out]; simp)⟩
            go_wp2
            go_ret
            exact ⟨by rw [HF.out]; rfl, HMz.out⟩
          | true =>
            have HI2 : Hd _ := ⟨HIT.out (by rw [HV.out]; simp)⟩
            go_wp2_with fail
            go_roundg (gk - 1)
            case measure => omega
            case rel => exact ⟨HMz, k + 1, by go_num, by omega, HI2⟩
        | false =>
          have d0 := HK3.out.cell' HE0.out
          go_wp2_with fail
          refine (HNA.out _).mono ?_
          rintro e wz ⟨rfl, hMz⟩
          have HMz : Hd (Mod (fun _ => False) w wz) := ⟨HM1.out.trans hMz (fun _ h => Or.inl h)⟩
          have z1 := (HK3.out.trans hMz (fun _ h => Or.inl h)).cell' HE1.out
          clear hMz d0
          cases qn with
          | false =>
            have HF : Hd (r = false) := ⟨HIF.out (by rw [HV.out]; simp)⟩
            go_wp2
            go_ret
            exact ⟨by rw [HF.out]; rfl, HMz.out⟩
          | true =>
            cases bare with
            | false =>
              have HF : Hd (r = false) := ⟨HIF.out (by rw [HV.out]; simp)⟩
              go_wp2
              go_ret
              exact ⟨by rw [HF.out]; rfl, HMz.out⟩
            | true =>
              cases he : emp x.type with
              | true =>
                have HE : Hd _ := ⟨he⟩
                obtain ⟨he2, he3⟩ := emp_t he
                clear he
                have HI2 : Hd _ := ⟨HIT.out (by rw [HV.out]; simp [HE.out])⟩
                go_wp2_with fail
                go_roundg (gk - 1)
                case measure => omega
                case rel => exact ⟨HMz, k + 1, by go_num, by omega, HI2⟩
              | false =>
                have HE : Hd _ := ⟨he⟩
                obtain ⟨he2, he3⟩ := emp_f he
                clear he
                have HF : Hd (r = false) := ⟨HIF.out (by rw [HV.out]; simp [HE.out])⟩
                go_wp2
                go_ret
                exact ⟨by rw [HF.out]; rfl, HMz.out⟩
      | false =>
        have d1 := HK3.out.cell' HE1.out
        go_wp2_with fail
        refine (HKI.out _).mono ?_
        rintro e w4 ⟨rfl, hM4⟩
        have HM4 : Hd (Mod (fun _ => False) w w4) := ⟨HM1.out.trans hM4 (fun _ h => Or.inl h)⟩
        have HK4 : Hd (Mod (fun _ => False) w0 w4) := ⟨HK3.out.trans hM4 (fun _ h => Or.inl h)⟩
        clear hM4 d1
        by_cases hk0 : kn = 0
        · have HK0 : Hd _ := ⟨hk0⟩
          have zk : ((kn : Int) != 0) = false := by rw [hk0]; rfl
          clear hk0
          have d0 := HK4.out.cell' HE0.out
          go_wp2_with fail
          refine (HNA.out _).mono ?_
          rintro e wz ⟨rfl, hMz⟩
          have HMz : Hd (Mod (fun _ => False) w wz) := ⟨HM4.out.trans hMz (fun _ h => Or.inl h)⟩
          have z1 := (HK4.out.trans hMz (fun _ h => Or.inl h)).cell' HE1.out
          clear hMz d0
          cases qn with
          | false =>
            have HF : Hd (r = false) := ⟨HIF.out (by rw [HV.out]; simp)⟩
            go_wp2
            go_ret
            exact ⟨by rw [HF.out]; rfl, HMz.out⟩
          | true =>
            cases bare with
            | false =>
              have HF : Hd (r = false) := ⟨HIF.out (by rw [HV.out]; simp [HK0.out])⟩
              go_wp2
              go_ret
              exact ⟨by rw [HF.out]; rfl, HMz.out⟩
            | true =>
              cases he : emp x.type with
              | true =>
                have HE : Hd _ := ⟨he⟩
                obtain ⟨he2, he3⟩ := emp_t he
                clear he
                have HI2 : Hd _ := ⟨HIT.out (by rw [HV.out]; simp [HK0.out, HE.out])⟩
                go_wp2_with fail
                go_roundg (gk - 1)
                case measure => omega
                case rel => exact ⟨HMz, k + 1, by go_num, by omega, HI2⟩
              | false =>
                have HE : Hd _ := ⟨he⟩
                obtain ⟨he2, he3⟩ := emp_f he
                clear he
                have HF : Hd (r = false) := ⟨HIF.out (by rw [HV.out]; simp [HK0.out, HE.out])⟩
                go_wp2
                go_ret
                exact ⟨by rw [HF.out]; rfl, HMz.out⟩
        · have HK0 : Hd _ := ⟨hk0⟩
          have zk : ((kn : Int) != 0) = true := by rw [bne_iff_ne]; omega
          clear hk0
          have d0 := HK4.out.cell' HE0.out
          go_wp2_with fail
          refine (HNA.out _).mono ?_
          rintro e wz ⟨rfl, hMz⟩
          have HMz : Hd (Mod (fun _ => False) w wz) := ⟨HM4.out.trans hMz (fun _ h => Or.inl h)⟩
          have z1 := (HK4.out.trans hMz (fun _ h => Or.inl h)).cell' HE1.out
          clear hMz d0
          cases qn with
          | false =>
            have HF : Hd (r = false) := ⟨HIF.out (by rw [HV.out]; simp)⟩
            go_wp2
            go_ret
            exact ⟨by rw [HF.out]; rfl, HMz.out⟩
          | true =>
            have HI2 : Hd _ := ⟨HIT.out (by rw [HV.out]; simp [HK0.out])⟩
            go_wp2_with fail
            go_roundg (gk - 1)
            case measure => omega
            case rel => exact ⟨HMz, k + 1, by go_num, by omega, HI2⟩
    · have HF : Hd (r = true) := ⟨by rw [← HI.out]; exact all_end (by omega)⟩
      go_wp2
      go_ret
      exact ⟨by rw [HF.out]; rfl, HM.out⟩
end
end Go.Proofs.YtpodeccpibnlbaaGreatDoor
