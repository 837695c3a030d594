/- The document's Kind, Elem, With, Base, Deep, by walks. -/
import Derived.Test.YtfdbmpcfphlmoaaDoorW7
namespace Go.Proofs.YtfdbmpcfphlmoaaDoor
set_option linter.unusedVariables false
set_option linter.unusedSimpArgs false
open Go.RowKit

theorem heap_new' (w : World) (o : Obj) : (w.alloc o).heap[w.heap.size]? = some o := heap_alloc_new w o
theorem restR_size (l w : Bs) : (restR l w).1.length ≤ l.length := by
  unfold restR
  split
  · simp
  · simp

def kindRef (l : Bs) : Bool := (restR l [114, 101, 102]).2 && (plainR (restR l [114, 101, 102]).1).2
def kindMut (l : Bs) : Bool := (restR l [109, 117, 116]).2 && (plainR (restR l [109, 117, 116]).1).2

set_option maxRecDepth 100000 in
set_option maxHeartbeats 2000000 in
theorem rKind_calls (s : ByteArray) (hs : s.size ≤ 1048576) (w : World) : Calls Tryd.prog 14 #[.string s] w fun e w' => e = .returned (.int .i64 (kindR (lst s) : Int)) ∧ Mod (fun _ => False) w w' := by
  have HP : Hd _ := ⟨rPlain_calls s hs w⟩
  have HN : Hd (∀ w, _) := ⟨fun w => rName_calls s hs w⟩
  have HE : Hd (kindR (lst s) = if (plainR (lst s)).2 then (if lst s = intB then 1 else if isName (lst s) then 2 else 3) else if ((restR (lst s) [114, 101, 102]).2 && (plainR (restR (lst s) [114, 101, 102]).1).2) = true then 4 else if ((restR (lst s) [109, 117, 116]).2 && (plainR (restR (lst s) [109, 117, 116]).1).2) = true then 5 else 0) := ⟨rfl⟩
  obtain ⟨r, hr⟩ : ∃ r, kindR (lst s) = r := ⟨_, rfl⟩
  rw [hr] at HE ⊢
  obtain ⟨m, hm⟩ : ∃ m, (plainR (lst s)).1 = m := ⟨_, rfl⟩
  obtain ⟨p, hp⟩ : ∃ p, (plainR (lst s)).2 = p := ⟨_, rfl⟩
  rw [hm, hp] at HP
  rw [hp] at HE
  obtain ⟨nm, hnm⟩ : ∃ nm, isName (lst s) = nm := ⟨_, rfl⟩
  rw [hnm] at HN HE
  have HR1 : Hd (∀ w, _) := ⟨fun w => rest_calls [114, 101, 102] rfl s hs w⟩
  have HR2 : Hd (∀ w, _) := ⟨fun w => rest_calls [109, 117, 116] rfl s hs w⟩
  have hz1 := restR_size (lst s) [114, 101, 102]
  have hz2 := restR_size (lst s) [109, 117, 116]
  rw [lst_len] at hz1 hz2
  obtain ⟨u1, hu1⟩ : ∃ u, mk (restR (lst s) [114, 101, 102]).1 = u := ⟨_, rfl⟩
  have hul1 : (restR (lst s) [114, 101, 102]).1 = lst u1 := by rw [← hu1, lst_mk]
  obtain ⟨k1, hk1⟩ : ∃ k, (restR (lst s) [114, 101, 102]).2 = k := ⟨_, rfl⟩
  obtain ⟨u2, hu2⟩ : ∃ u, mk (restR (lst s) [109, 117, 116]).1 = u := ⟨_, rfl⟩
  have hul2 : (restR (lst s) [109, 117, 116]).1 = lst u2 := by rw [← hu2, lst_mk]
  obtain ⟨k2, hk2⟩ : ∃ k, (restR (lst s) [109, 117, 116]).2 = k := ⟨_, rfl⟩
  rw [hul1, lst_len] at hz1
  rw [hul2, lst_len] at hz2
  rw [hul1, hk1, hul2, hk2] at HE
  rw [hu1, hk1] at HR1
  rw [hu2, hk2] at HR2
  have HP1 : Hd (∀ w, _) := ⟨fun w => rPlain_calls u1 (by omega) w⟩
  have HP2 : Hd (∀ w, _) := ⟨fun w => rPlain_calls u2 (by omega) w⟩
  obtain ⟨m1, hm1⟩ : ∃ m, (plainR (lst u1)).1 = m := ⟨_, rfl⟩
  obtain ⟨p1, hp1⟩ : ∃ p, (plainR (lst u1)).2 = p := ⟨_, rfl⟩
  obtain ⟨m2, hm2⟩ : ∃ m, (plainR (lst u2)).1 = m := ⟨_, rfl⟩
  obtain ⟨p2, hp2⟩ : ∃ p, (plainR (lst u2)).2 = p := ⟨_, rfl⟩
  rw [hm1, hp1] at HP1
  rw [hm2, hp2] at HP2
  rw [hp1, hp2] at HE
  clear hr hm hp hnm hu1 hul1 hk1 hu2 hul2 hk2 hm1 hp1 hm2 hp2 hz1 hz2
  cases p with
  | true =>
    clear HR1 HR2 HP1 HP2
    by_cases hi : lst s = intB
    · have hq : s = mk intB := (eq_mk s).trans (by rw [hi])
      have HR : Hd (r = 1) := ⟨by rw [HE.out, if_pos rfl, if_pos hi]⟩
      clear HE HN hi
      subst hq
      go_enter Tryd.func14, Tryd.ntmps14
      go_wp2_with fail
      refine HP.out.mono ?_
      rintro e w2 ⟨rfl, hM⟩
      have HM : Hd _ := ⟨hM⟩
      clear hM
      go_wp2
      go_ret
      exact ⟨by rw [HR.out]; rfl, HM.out⟩
    · have hq : ¬ s = mk intB := fun e => hi (by rw [e])
      have hq2 : (s.toList == [105, 110, 116]) = false := by
        rw [ByteArray.toList_eq]
        exact beq_false_of_ne hi
      have HR : Hd (r = if nm = true then 2 else 3) := ⟨by rw [HE.out, if_pos rfl, if_neg hi]⟩
      clear HE hi
      cases nm with
      | true =>
        go_enter Tryd.func14, Tryd.ntmps14
        go_wp2_with fail
        refine HP.out.mono ?_
        rintro e w2 ⟨rfl, hM⟩
        have HM : Hd _ := ⟨hM⟩
        clear hM
        go_wp2_with fail
        refine (HN.out _).mono ?_
        rintro e w3 ⟨rfl, hM⟩
        have HM3 : Hd _ := ⟨HM.out.trans hM (fun _ h => Or.inl h)⟩
        clear hM
        go_wp2
        go_ret
        exact ⟨by rw [HR.out]; rfl, HM3.out⟩
      | false =>
        go_enter Tryd.func14, Tryd.ntmps14
        go_wp2_with fail
        refine HP.out.mono ?_
        rintro e w2 ⟨rfl, hM⟩
        have HM : Hd _ := ⟨hM⟩
        clear hM
        go_wp2_with fail
        refine (HN.out _).mono ?_
        rintro e w3 ⟨rfl, hM⟩
        have HM3 : Hd _ := ⟨HM.out.trans hM (fun _ h => Or.inl h)⟩
        clear hM
        go_wp2
        go_ret
        exact ⟨by rw [HR.out]; rfl, HM3.out⟩
  | false =>
    have HE2 : Hd (r = if (k1 && p1) = true then 4 else if (k2 && p2) = true then 5 else 0) := ⟨by rw [HE.out]; rfl⟩
    clear HE HN
    go_enter Tryd.func14, Tryd.ntmps14
    go_wp2_with fail
    refine HP.out.mono ?_
    rintro e w2 ⟨rfl, hM⟩
    have HM : Hd _ := ⟨hM⟩
    have hML := hM.size
    clear hM
    go_wp2_with fail
    obtain ⟨b, hb⟩ : ∃ b, w2.heap.size = b := ⟨_, rfl⟩
    have HB : Hd _ := ⟨hb⟩
    rw [hb]
    obtain ⟨wb, hwb⟩ : ∃ wb, w2.alloc (.cells #[.string (mk [114, 101, 102]), .string (mk [109, 117, 116])] 9) = wb := ⟨_, rfl⟩
    have hcb : wb.heap[b]? = some (.cells #[.string (mk [114, 101, 102]), .string (mk [109, 117, 116])] 9 (0, 0)) := by rw [← hwb, ← hb]; exact heap_new' _ _
    have HMB : Hd (Mod (fun _ => False) w wb) := ⟨by rw [← hwb]; exact HM.out.trans (Mod.alloc (fun _ => False) _ _) (fun _ h => Or.inl h)⟩
    have HCB : Hd (∀ w', Mod (fun _ => False) wb w' → w'.cell? ⟨b, 0, none⟩ = some (.string (mk [114, 101, 102])) ∧ w'.cell? ⟨b, 1, none⟩ = some (.string (mk [109, 117, 116]))) := ⟨fun w' hM => by
      have h := (hM.block b (Array.getElem?_eq_some_iff.1 hcb).1 (fun h => h)).trans hcb
      exact ⟨by simp [World.cell?, h], by simp [World.cell?, h]⟩⟩
    show Code.wp _ _ _ _ (w2.alloc (.cells #[.string (mk [114, 101, 102]), .string (mk [109, 117, 116])] 9))
    rw [hwb]
    have HM0 : Hd (Mod (fun _ => False) wb wb) := ⟨Mod.refl _ _⟩
    clear hwb hcb hb
    go_loopg [6] 2 (fun gk v6 wr => ∃ k : Nat, v6 = .int .i64 k ∧ k + gk = 2 ∧ Hd (Mod (fun _ => False) wb wr) ∧ Hd ((1 ≤ k → (k1 && p1) = false) ∧ (2 ≤ k → (k2 && p2) = false)))
    case atStart => exact ⟨0, rfl, rfl, HM0, ⟨⟨fun h => by omega, fun h => by omega⟩⟩⟩
    case round =>
      clear HM0
      obtain ⟨k, rfl, hk, HMR, HS⟩ := hrel
      by_cases hk0 : k = 0
      · subst hk0
        have c0 : wr.cell? ⟨b, 0, none⟩ = some (.string (mk [114, 101, 102])) := (HCB.out wr HMR.out).1
        go_wp2_with fail
        refine (HR1.out _).mono ?_
        rintro e w3 ⟨rfl, rfl⟩
        go_wp2_with fail
        refine (HP1.out _).mono ?_
        rintro e w4 ⟨rfl, hM⟩
        have HM4 : Hd _ := ⟨HMR.out.trans hM (fun _ h => Or.inl h)⟩
        clear hM c0
        cases hkk : k1 with
        | true =>
          cases hpp : p1 with
          | true =>
            have HR : Hd (r = 4) := ⟨by rw [HE2.out, if_pos (by rw [hkk, hpp]; rfl)]⟩
            rw [hkk] at HR1
            rw [hpp] at HP1
            clear hkk hpp
            go_wp2
            go_ret
            exact ⟨by rw [HR.out]; rfl, HMB.out.trans HM4.out (fun _ h => Or.inl h)⟩
          | false =>
            have HS2 : Hd ((k1 && p1) = false) := ⟨by rw [hkk, hpp]; rfl⟩
            clear hkk hpp
            go_wp2_with fail
            go_roundg (gk - 1)
            case measure => omega
            case rel => exact ⟨1, rfl, by omega, HM4, ⟨⟨fun _ => HS2.out, fun h => by omega⟩⟩⟩
        | false =>
          have HS2 : Hd ((k1 && p1) = false) := ⟨by rw [hkk]; rfl⟩
          clear hkk
          go_wp2_with fail
          go_roundg (gk - 1)
          case measure => omega
          case rel => exact ⟨1, rfl, by omega, HM4, ⟨⟨fun _ => HS2.out, fun h => by omega⟩⟩⟩
      by_cases hk1 : k = 1
      · subst hk1
        have HS1 : Hd ((k1 && p1) = false) := ⟨HS.out.1 (by omega)⟩
        have c0 : wr.cell? ⟨b, 1, none⟩ = some (.string (mk [109, 117, 116])) := (HCB.out wr HMR.out).2
        go_wp2_with fail
        refine (HR2.out _).mono ?_
        rintro e w3 ⟨rfl, rfl⟩
        go_wp2_with fail
        refine (HP2.out _).mono ?_
        rintro e w4 ⟨rfl, hM⟩
        have HM4 : Hd _ := ⟨HMR.out.trans hM (fun _ h => Or.inl h)⟩
        clear hM c0
        cases hkk : k2 with
        | true =>
          cases hpp : p2 with
          | true =>
            have HR : Hd (r = 5) := ⟨by rw [HE2.out, if_neg (by rw [HS1.out]; simp), if_pos (by rw [hkk, hpp]; rfl)]⟩
            rw [hkk] at HR2
            rw [hpp] at HP2
            clear hkk hpp
            go_wp2
            go_ret
            exact ⟨by rw [HR.out]; rfl, HMB.out.trans HM4.out (fun _ h => Or.inl h)⟩
          | false =>
            have HS2 : Hd ((k2 && p2) = false) := ⟨by rw [hkk, hpp]; rfl⟩
            clear hkk hpp
            go_wp2_with fail
            go_roundg (gk - 1)
            case measure => omega
            case rel => exact ⟨2, rfl, by omega, HM4, ⟨⟨fun _ => HS1.out, fun _ => HS2.out⟩⟩⟩
        | false =>
          have HS2 : Hd ((k2 && p2) = false) := ⟨by rw [hkk]; rfl⟩
          clear hkk
          go_wp2_with fail
          go_roundg (gk - 1)
          case measure => omega
          case rel => exact ⟨2, rfl, by omega, HM4, ⟨⟨fun _ => HS1.out, fun _ => HS2.out⟩⟩⟩
      have hk2 : k = 2 := by omega
      have HR : Hd (r = 0) := ⟨by rw [HE2.out, HS.out.1 (by omega), HS.out.2 (by omega)]; rfl⟩
      subst hk2
      go_wp2
      go_ret
      exact ⟨by rw [HR.out]; rfl, HMB.out.trans HMR.out (fun _ h => Or.inl h)⟩
end Go.Proofs.YtfdbmpcfphlmoaaDoor
