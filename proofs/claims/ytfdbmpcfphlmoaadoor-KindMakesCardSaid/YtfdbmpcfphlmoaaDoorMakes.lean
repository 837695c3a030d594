/- KindMakes: its walk. -/
import Derived.Test.YtfdbmpcfphlmoaaDoorNames
namespace Go.Proofs.YtfdbmpcfphlmoaaDoor
set_option linter.unusedVariables false
set_option linter.unusedSimpArgs false
open Go.RowKit

set_option maxRecDepth 100000 in
theorem rWith_box (s : ByteArray) (hs : s.size ≤ 1048576) (w : World) : Calls Tryd.prog 23 #[.string (mk [98, 111, 120]), .string s] w fun e w' => e = .returned (.tuple #[.string (mk (withI boxB (lst s)).1), .bool (withI boxB (lst s)).2]) ∧ Mod (fun _ => False) w w' := by
  have HP : Hd _ := ⟨rPlain_calls s hs w⟩
  have HE : Hd (withI boxB (lst s) = if !(plainR (lst s)).2 || (decide (([98, 111, 120] : Bs) = [98, 111, 120]) && decide ((plainR (lst s)).1 = 8)) then ([], false) else ([98, 111, 120] ++ [32] ++ lst s, true)) := ⟨(with_box (lst s)).symm⟩
  obtain ⟨r, hr⟩ : ∃ r, withI boxB (lst s) = r := ⟨_, rfl⟩
  rw [hr] at HE ⊢
  obtain ⟨n, hn⟩ : ∃ n, (plainR (lst s)).1 = n := ⟨_, rfl⟩
  obtain ⟨p, hp⟩ : ∃ p, (plainR (lst s)).2 = p := ⟨_, rfl⟩
  rw [hn, hp] at HP HE
  obtain ⟨u, hu⟩ : ∃ u, (mk [98, 111, 120] ++ (⟨#[32]⟩ : ByteArray)) ++ s = u := ⟨_, rfl⟩
  have HU : Hd (mk ([98, 111, 120] ++ [32] ++ lst s) = u) := ⟨by rw [← hu]; show _ = mk [98, 111, 120] ++ mk [32] ++ s; conv => rhs; rw [eq_mk s, mk_append, mk_append]⟩
  clear hr hn hp
  cases p with
  | false =>
    have HR : Hd (r = ([], false)) := ⟨by rw [HE.out]; rfl⟩
    clear HE
    go_enter Tryd.func23, Tryd.ntmps23
    go_wp2_with fail
    refine HP.out.mono ?_
    rintro e w2 ⟨rfl, hM⟩
    have HM : Hd _ := ⟨hM⟩
    clear hM
    go_wp2
    exact bodyPost_ret (v := .tuple #[.string (mk []), .bool false]) (by simp [results, Tryd.f23, go_sem]) rfl ⟨by rw [HR.out], HM.out⟩
  | true =>
    by_cases h8 : n = 8
    · subst h8
      have HR : Hd (r = ([], false)) := ⟨by rw [HE.out]; rfl⟩
      clear HE
      go_enter Tryd.func23, Tryd.ntmps23
      go_wp2_with fail
      refine HP.out.mono ?_
      rintro e w2 ⟨rfl, hM⟩
      have HM : Hd _ := ⟨hM⟩
      clear hM
      go_wp2
      exact bodyPost_ret (v := .tuple #[.string (mk []), .bool false]) (by simp [results, Tryd.f23, go_sem]) rfl ⟨by rw [HR.out], HM.out⟩
    · have HR : Hd (r = ([98, 111, 120] ++ [32] ++ lst s, true)) := ⟨by rw [HE.out]; simp [h8]⟩
      have h9 : ((n : Int) == 8) = false := by rw [beq_eq_false_iff_ne]; omega
      clear HE h8
      go_enter Tryd.func23, Tryd.ntmps23
      go_wp2_with fail
      refine HP.out.mono ?_
      rintro e w2 ⟨rfl, hM⟩
      have HM : Hd _ := ⟨hM⟩
      clear hM
      go_wp2
      exact bodyPost_ret (v := .tuple #[.string u, .bool true]) (by simp [results, Tryd.f23, go_sem, hu]) rfl ⟨by rw [HR.out, ← HU.out], HM.out⟩

set_option maxRecDepth 100000 in
theorem rWith_ref (s : ByteArray) (hs : s.size ≤ 1048576) (w : World) : Calls Tryd.prog 23 #[.string (mk [114, 101, 102]), .string s] w fun e w' => e = .returned (.tuple #[.string (mk (withI refB (lst s)).1), .bool (withI refB (lst s)).2]) ∧ Mod (fun _ => False) w w' := by
  have HP : Hd _ := ⟨rPlain_calls s hs w⟩
  have HE : Hd (withI refB (lst s) = if !(plainR (lst s)).2 || (decide (([114, 101, 102] : Bs) = [98, 111, 120]) && decide ((plainR (lst s)).1 = 8)) then ([], false) else ([114, 101, 102] ++ [32] ++ lst s, true)) := ⟨(with_ref (lst s)).symm⟩
  obtain ⟨r, hr⟩ : ∃ r, withI refB (lst s) = r := ⟨_, rfl⟩
  rw [hr] at HE ⊢
  obtain ⟨n, hn⟩ : ∃ n, (plainR (lst s)).1 = n := ⟨_, rfl⟩
  obtain ⟨p, hp⟩ : ∃ p, (plainR (lst s)).2 = p := ⟨_, rfl⟩
  rw [hn, hp] at HP HE
  obtain ⟨u, hu⟩ : ∃ u, (mk [114, 101, 102] ++ (⟨#[32]⟩ : ByteArray)) ++ s = u := ⟨_, rfl⟩
  have HU : Hd (mk ([114, 101, 102] ++ [32] ++ lst s) = u) := ⟨by rw [← hu]; show _ = mk [114, 101, 102] ++ mk [32] ++ s; conv => rhs; rw [eq_mk s, mk_append, mk_append]⟩
  clear hr hn hp
  cases p with
  | false =>
    have HR : Hd (r = ([], false)) := ⟨by rw [HE.out]; rfl⟩
    clear HE
    go_enter Tryd.func23, Tryd.ntmps23
    go_wp2_with fail
    refine HP.out.mono ?_
    rintro e w2 ⟨rfl, hM⟩
    have HM : Hd _ := ⟨hM⟩
    clear hM
    go_wp2
    exact bodyPost_ret (v := .tuple #[.string (mk []), .bool false]) (by simp [results, Tryd.f23, go_sem]) rfl ⟨by rw [HR.out], HM.out⟩
  | true =>
    have HR : Hd (r = ([114, 101, 102] ++ [32] ++ lst s, true)) := ⟨by rw [HE.out]; simp⟩
    clear HE
    go_enter Tryd.func23, Tryd.ntmps23
    go_wp2_with fail
    refine HP.out.mono ?_
    rintro e w2 ⟨rfl, hM⟩
    have HM : Hd _ := ⟨hM⟩
    clear hM
    go_wp2
    exact bodyPost_ret (v := .tuple #[.string u, .bool true]) (by simp [results, Tryd.f23, go_sem, hu]) rfl ⟨by rw [HR.out, ← HU.out], HM.out⟩

set_option maxRecDepth 100000 in
theorem rWith_mut (s : ByteArray) (hs : s.size ≤ 1048576) (w : World) : Calls Tryd.prog 23 #[.string (mk [109, 117, 116]), .string s] w fun e w' => e = .returned (.tuple #[.string (mk (withI mutB (lst s)).1), .bool (withI mutB (lst s)).2]) ∧ Mod (fun _ => False) w w' := by
  have HP : Hd _ := ⟨rPlain_calls s hs w⟩
  have HE : Hd (withI mutB (lst s) = if !(plainR (lst s)).2 || (decide (([109, 117, 116] : Bs) = [98, 111, 120]) && decide ((plainR (lst s)).1 = 8)) then ([], false) else ([109, 117, 116] ++ [32] ++ lst s, true)) := ⟨(with_mut (lst s)).symm⟩
  obtain ⟨r, hr⟩ : ∃ r, withI mutB (lst s) = r := ⟨_, rfl⟩
  rw [hr] at HE ⊢
  obtain ⟨n, hn⟩ : ∃ n, (plainR (lst s)).1 = n := ⟨_, rfl⟩
  obtain ⟨p, hp⟩ : ∃ p, (plainR (lst s)).2 = p := ⟨_, rfl⟩
  rw [hn, hp] at HP HE
  obtain ⟨u, hu⟩ : ∃ u, (mk [109, 117, 116] ++ (⟨#[32]⟩ : ByteArray)) ++ s = u := ⟨_, rfl⟩
  have HU : Hd (mk ([109, 117, 116] ++ [32] ++ lst s) = u) := ⟨by rw [← hu]; show _ = mk [109, 117, 116] ++ mk [32] ++ s; conv => rhs; rw [eq_mk s, mk_append, mk_append]⟩
  clear hr hn hp
  cases p with
  | false =>
    have HR : Hd (r = ([], false)) := ⟨by rw [HE.out]; rfl⟩
    clear HE
    go_enter Tryd.func23, Tryd.ntmps23
    go_wp2_with fail
    refine HP.out.mono ?_
    rintro e w2 ⟨rfl, hM⟩
    have HM : Hd _ := ⟨hM⟩
    clear hM
    go_wp2
    exact bodyPost_ret (v := .tuple #[.string (mk []), .bool false]) (by simp [results, Tryd.f23, go_sem]) rfl ⟨by rw [HR.out], HM.out⟩
  | true =>
    have HR : Hd (r = ([109, 117, 116] ++ [32] ++ lst s, true)) := ⟨by rw [HE.out]; simp⟩
    clear HE
    go_enter Tryd.func23, Tryd.ntmps23
    go_wp2_with fail
    refine HP.out.mono ?_
    rintro e w2 ⟨rfl, hM⟩
    have HM : Hd _ := ⟨hM⟩
    clear hM
    go_wp2
    exact bodyPost_ret (v := .tuple #[.string u, .bool true]) (by simp [results, Tryd.f23, go_sem, hu]) rfl ⟨by rw [HR.out, ← HU.out], HM.out⟩

theorem with_size (p l : Bs) (hp : p.length = 4) : (withI p l).1.length ≤ l.length + 4 := by
  unfold withI
  split
  · simp
  · simp [hp]; omega

set_option maxRecDepth 100000 in
set_option maxHeartbeats 2000000 in
theorem makes_long (s : ByteArray) (h : 300 < s.size) (w : World) (hT : Tab w) : Calls Tryd.prog 5 #[.string s] w fun e w' => e = .returned (.bool true) ∧ Below w.heap.size w w' := by
  have HA : Hd _ := ⟨alive_calls w hT⟩
  have HT : Hd _ := ⟨hT⟩
  clear hT
  go_enter Tryd.func5, Tryd.ntmps5
  go_wp2_with fail
  refine HA.out.mono ?_
  rintro e w1 ⟨rfl, hM⟩
  have HM1 : Hd (Mod (fun _ => False) w w1) := ⟨hM⟩
  have HT1 : Hd _ := ⟨HT.out.mod hM⟩
  clear hM
  go_wp2
  go_ret
  exact ⟨rfl, HM1.out.toBelow⟩

set_option maxRecDepth 100000 in
set_option maxHeartbeats 4000000 in
theorem makes_walk (s : ByteArray) (h : s.size ≤ 300) (w : World) (hT : Tab w) : Calls Tryd.prog 5 #[.string s] w fun e w' => e = .returned (.bool true) ∧ Below w.heap.size w w' := by
  have HA : Hd _ := ⟨alive_calls w hT⟩
  have HB0 : Hd (∀ w, Tab w → _) := ⟨fun w h0 => Box_calls s (by omega) w h0⟩
  have HW0 : Hd (∀ w, _) := ⟨fun w => rWith_box s (by omega) w⟩
  have hmd0 := made (w := boxB) (l := lst s) (k := 3) (by simp)
  have hsz0 := with_size boxB (lst s) rfl
  obtain ⟨a0, ha0⟩ : ∃ a, mk (withI boxB (lst s)).1 = a := ⟨_, rfl⟩
  have hal0 : (withI boxB (lst s)).1 = lst a0 := by rw [← ha0, lst_mk]
  obtain ⟨o0, ho0⟩ : ∃ o, (withI boxB (lst s)).2 = o := ⟨_, rfl⟩
  rw [ha0, ho0] at HB0 HW0
  rw [ho0, hal0] at hmd0
  rw [hal0, lst_len, lst_len] at hsz0
  have HE0 : Hd (∀ w, Tab w → _) := ⟨fun w h0 => Elem_calls a0 (by omega) w h0⟩
  have HK0 : Hd (∀ w, Tab w → _) := ⟨fun w h0 => Kind_calls a0 (by omega) w h0⟩
  have HG0 : Hd (o0 = true → kindI (lst a0) = 3 ∧ elemI (lst a0) = (lst s, true)) := ⟨fun ht => by have := hmd0 ht; rw [this.1]; exact this.2⟩
  clear hmd0 hsz0 ha0 hal0 ho0
  have HB1 : Hd (∀ w, Tab w → _) := ⟨fun w h0 => Ref_calls s (by omega) w h0⟩
  have HW1 : Hd (∀ w, _) := ⟨fun w => rWith_ref s (by omega) w⟩
  have hmd1 := made (w := refB) (l := lst s) (k := 4) (by simp)
  have hsz1 := with_size refB (lst s) rfl
  obtain ⟨a1, ha1⟩ : ∃ a, mk (withI refB (lst s)).1 = a := ⟨_, rfl⟩
  have hal1 : (withI refB (lst s)).1 = lst a1 := by rw [← ha1, lst_mk]
  obtain ⟨o1, ho1⟩ : ∃ o, (withI refB (lst s)).2 = o := ⟨_, rfl⟩
  rw [ha1, ho1] at HB1 HW1
  rw [ho1, hal1] at hmd1
  rw [hal1, lst_len, lst_len] at hsz1
  have HE1 : Hd (∀ w, Tab w → _) := ⟨fun w h0 => Elem_calls a1 (by omega) w h0⟩
  have HK1 : Hd (∀ w, Tab w → _) := ⟨fun w h0 => Kind_calls a1 (by omega) w h0⟩
  have HG1 : Hd (o1 = true → kindI (lst a1) = 4 ∧ elemI (lst a1) = (lst s, true)) := ⟨fun ht => by have := hmd1 ht; rw [this.1]; exact this.2⟩
  clear hmd1 hsz1 ha1 hal1 ho1
  have HB2 : Hd (∀ w, Tab w → _) := ⟨fun w h0 => Mut_calls s (by omega) w h0⟩
  have HW2 : Hd (∀ w, _) := ⟨fun w => rWith_mut s (by omega) w⟩
  have hmd2 := made (w := mutB) (l := lst s) (k := 5) (by simp)
  have hsz2 := with_size mutB (lst s) rfl
  obtain ⟨a2, ha2⟩ : ∃ a, mk (withI mutB (lst s)).1 = a := ⟨_, rfl⟩
  have hal2 : (withI mutB (lst s)).1 = lst a2 := by rw [← ha2, lst_mk]
  obtain ⟨o2, ho2⟩ : ∃ o, (withI mutB (lst s)).2 = o := ⟨_, rfl⟩
  rw [ha2, ho2] at HB2 HW2
  rw [ho2, hal2] at hmd2
  rw [hal2, lst_len, lst_len] at hsz2
  have HE2 : Hd (∀ w, Tab w → _) := ⟨fun w h0 => Elem_calls a2 (by omega) w h0⟩
  have HK2 : Hd (∀ w, Tab w → _) := ⟨fun w h0 => Kind_calls a2 (by omega) w h0⟩
  have HG2 : Hd (o2 = true → kindI (lst a2) = 5 ∧ elemI (lst a2) = (lst s, true)) := ⟨fun ht => by have := hmd2 ht; rw [this.1]; exact this.2⟩
  clear hmd2 hsz2 ha2 hal2 ho2
  have HT : Hd _ := ⟨hT⟩
  clear hT
  go_enter Tryd.func5, Tryd.ntmps5
  go_wp2_with fail
  refine HA.out.mono ?_
  rintro e w1 ⟨rfl, hM⟩
  have HM1 : Hd (Mod (fun _ => False) w w1) := ⟨hM⟩
  have HT1 : Hd _ := ⟨HT.out.mod hM⟩
  clear hM
  have hbs := HM1.out.size
  go_wp2_with fail
  obtain ⟨b, hb⟩ : ∃ b, w1.heap.size = b := ⟨_, rfl⟩
  rw [hb]
  obtain ⟨wb, hwb⟩ : ∃ wb, w1.alloc (.cells #[.string (mk [98, 111, 120]), .string (mk [114, 101, 102]), .string (mk [109, 117, 116])] 9) = wb := ⟨_, rfl⟩
  have hcb : wb.heap[b]? = some (.cells #[.string (mk [98, 111, 120]), .string (mk [114, 101, 102]), .string (mk [109, 117, 116])] 9 (0, 0)) := by rw [← hwb, ← hb]; exact heap_new' _ _
  have HMB : Hd (Mod (fun _ => False) w wb) := ⟨by rw [← hwb]; exact HM1.out.trans (Mod.alloc (fun _ => False) _ _) (fun _ h => Or.inl h)⟩
  have HTB : Hd (Tab wb) := ⟨HT.out.mod HMB.out⟩
  have HCB : Hd (∀ w', Mod (fun _ => False) wb w' → w'.cell? ⟨b, 0, none⟩ = some (.string (mk [98, 111, 120])) ∧ w'.cell? ⟨b, 1, none⟩ = some (.string (mk [114, 101, 102])) ∧ w'.cell? ⟨b, 2, none⟩ = some (.string (mk [109, 117, 116]))) := ⟨fun w' hM => by
    have h := (hM.block b (Array.getElem?_eq_some_iff.1 hcb).1 (fun h => h)).trans hcb
    exact ⟨by simp [World.cell?, h], by simp [World.cell?, h], by simp [World.cell?, h]⟩⟩
  show Code.wp _ _ _ _ (w1.alloc (.cells #[.string (mk [98, 111, 120]), .string (mk [114, 101, 102]), .string (mk [109, 117, 116])] 9))
  rw [hwb]
  have HM0 : Hd (Mod (fun _ => False) wb wb) := ⟨Mod.refl _ _⟩
  clear hwb hcb hb hbs HM1 HT1 HT HA
  go_loopg [4] 3 (fun gk v4 wr => ∃ k : Nat, v4 = .int .i64 k ∧ k + gk = 3 ∧ Hd (Mod (fun _ => False) wb wr))
  case atStart => exact ⟨0, rfl, rfl, HM0⟩
  case round =>
    clear HM0
    obtain ⟨k, rfl, hk, HMR⟩ := hrel
    have HTR : Hd _ := ⟨HTB.out.mod HMR.out⟩
    by_cases hk0 : k = 0
    · subst hk0
      have HMr0 : Hd _ := ⟨HMR.out⟩
      have HTr0 : Hd _ := ⟨HTR.out⟩
      cases ho : o0 with
      | true =>
        obtain ⟨g1, g2⟩ := HG0.out ho
        rw [g1] at HK0
        rw [g2] at HE0
        rw [← eq_mk s] at HE0
        rw [ho] at HB0 HW0
        clear ho g1 g2
        go_wp2_with fail
        refine (HB0.out _ HTr0.out).mono ?_
        rintro e x1 ⟨rfl, hM⟩
        have HMr1 : Hd (Mod (fun _ => False) wb x1) := ⟨HMr0.out.trans hM (fun _ h => Or.inl h)⟩
        have HTr1 : Hd _ := ⟨HTr0.out.mod hM⟩
        clear hM
        have cw := (HCB.out x1 HMr1.out).1
        go_wp2_with fail
        refine (HW0.out _).mono ?_
        rintro e x2 ⟨rfl, hM⟩
        have HMr2 : Hd (Mod (fun _ => False) wb x2) := ⟨HMr1.out.trans hM (fun _ h => Or.inl h)⟩
        have HTr2 : Hd _ := ⟨HTr1.out.mod hM⟩
        clear hM
        clear cw
        go_wp2_with fail
        refine (HE0.out _ HTr2.out).mono ?_
        rintro e x3 ⟨rfl, hM⟩
        have HMr3 : Hd (Mod (fun _ => False) wb x3) := ⟨HMr2.out.trans hM (fun _ h => Or.inl h)⟩
        have HTr3 : Hd _ := ⟨HTr2.out.mod hM⟩
        clear hM
        go_wp2_with fail
        refine (HK0.out _ HTr3.out).mono ?_
        rintro e x4 ⟨rfl, hM⟩
        have HMr4 : Hd (Mod (fun _ => False) wb x4) := ⟨HMr3.out.trans hM (fun _ h => Or.inl h)⟩
        have HTr4 : Hd _ := ⟨HTr3.out.mod hM⟩
        clear hM
        go_wp2_with fail
        go_roundg (gk - 1)
        case measure => omega
        case rel => exact ⟨1, rfl, by omega, HMr4⟩
      | false =>
        rw [ho] at HB0 HW0
        clear ho
        go_wp2_with fail
        refine (HB0.out _ HTr0.out).mono ?_
        rintro e x1 ⟨rfl, hM⟩
        have HMr1 : Hd (Mod (fun _ => False) wb x1) := ⟨HMr0.out.trans hM (fun _ h => Or.inl h)⟩
        have HTr1 : Hd _ := ⟨HTr0.out.mod hM⟩
        clear hM
        have cw := (HCB.out x1 HMr1.out).1
        go_wp2_with fail
        refine (HW0.out _).mono ?_
        rintro e x2 ⟨rfl, hM⟩
        have HMr2 : Hd (Mod (fun _ => False) wb x2) := ⟨HMr1.out.trans hM (fun _ h => Or.inl h)⟩
        have HTr2 : Hd _ := ⟨HTr1.out.mod hM⟩
        clear hM
        clear cw
        go_wp2_with fail
        refine (HE0.out _ HTr2.out).mono ?_
        rintro e x3 ⟨rfl, hM⟩
        have HMr3 : Hd (Mod (fun _ => False) wb x3) := ⟨HMr2.out.trans hM (fun _ h => Or.inl h)⟩
        have HTr3 : Hd _ := ⟨HTr2.out.mod hM⟩
        clear hM
        go_wp2_with fail
        go_roundg (gk - 1)
        case measure => omega
        case rel => exact ⟨1, rfl, by omega, HMr3⟩
    by_cases hk1 : k = 1
    · subst hk1
      have HMr0 : Hd _ := ⟨HMR.out⟩
      have HTr0 : Hd _ := ⟨HTR.out⟩
      cases ho : o1 with
      | true =>
        obtain ⟨g1, g2⟩ := HG1.out ho
        rw [g1] at HK1
        rw [g2] at HE1
        rw [← eq_mk s] at HE1
        rw [ho] at HB1 HW1
        clear ho g1 g2
        go_wp2_with fail
        refine (HB0.out _ HTr0.out).mono ?_
        rintro e x1 ⟨rfl, hM⟩
        have HMr1 : Hd (Mod (fun _ => False) wb x1) := ⟨HMr0.out.trans hM (fun _ h => Or.inl h)⟩
        have HTr1 : Hd _ := ⟨HTr0.out.mod hM⟩
        clear hM
        go_wp2_with fail
        refine (HB1.out _ HTr1.out).mono ?_
        rintro e x2 ⟨rfl, hM⟩
        have HMr2 : Hd (Mod (fun _ => False) wb x2) := ⟨HMr1.out.trans hM (fun _ h => Or.inl h)⟩
        have HTr2 : Hd _ := ⟨HTr1.out.mod hM⟩
        clear hM
        have cw := (HCB.out x2 HMr2.out).2.1
        go_wp2_with fail
        refine (HW1.out _).mono ?_
        rintro e x3 ⟨rfl, hM⟩
        have HMr3 : Hd (Mod (fun _ => False) wb x3) := ⟨HMr2.out.trans hM (fun _ h => Or.inl h)⟩
        have HTr3 : Hd _ := ⟨HTr2.out.mod hM⟩
        clear hM
        clear cw
        go_wp2_with fail
        refine (HE1.out _ HTr3.out).mono ?_
        rintro e x4 ⟨rfl, hM⟩
        have HMr4 : Hd (Mod (fun _ => False) wb x4) := ⟨HMr3.out.trans hM (fun _ h => Or.inl h)⟩
        have HTr4 : Hd _ := ⟨HTr3.out.mod hM⟩
        clear hM
        go_wp2_with fail
        refine (HK1.out _ HTr4.out).mono ?_
        rintro e x5 ⟨rfl, hM⟩
        have HMr5 : Hd (Mod (fun _ => False) wb x5) := ⟨HMr4.out.trans hM (fun _ h => Or.inl h)⟩
        have HTr5 : Hd _ := ⟨HTr4.out.mod hM⟩
        clear hM
        go_wp2_with fail
        go_roundg (gk - 1)
        case measure => omega
        case rel => exact ⟨2, rfl, by omega, HMr5⟩
      | false =>
        rw [ho] at HB1 HW1
        clear ho
        go_wp2_with fail
        refine (HB0.out _ HTr0.out).mono ?_
        rintro e x1 ⟨rfl, hM⟩
        have HMr1 : Hd (Mod (fun _ => False) wb x1) := ⟨HMr0.out.trans hM (fun _ h => Or.inl h)⟩
        have HTr1 : Hd _ := ⟨HTr0.out.mod hM⟩
        clear hM
        go_wp2_with fail
        refine (HB1.out _ HTr1.out).mono ?_
        rintro e x2 ⟨rfl, hM⟩
        have HMr2 : Hd (Mod (fun _ => False) wb x2) := ⟨HMr1.out.trans hM (fun _ h => Or.inl h)⟩
        have HTr2 : Hd _ := ⟨HTr1.out.mod hM⟩
        clear hM
        have cw := (HCB.out x2 HMr2.out).2.1
        go_wp2_with fail
        refine (HW1.out _).mono ?_
        rintro e x3 ⟨rfl, hM⟩
        have HMr3 : Hd (Mod (fun _ => False) wb x3) := ⟨HMr2.out.trans hM (fun _ h => Or.inl h)⟩
        have HTr3 : Hd _ := ⟨HTr2.out.mod hM⟩
        clear hM
        clear cw
        go_wp2_with fail
        refine (HE1.out _ HTr3.out).mono ?_
        rintro e x4 ⟨rfl, hM⟩
        have HMr4 : Hd (Mod (fun _ => False) wb x4) := ⟨HMr3.out.trans hM (fun _ h => Or.inl h)⟩
        have HTr4 : Hd _ := ⟨HTr3.out.mod hM⟩
        clear hM
        go_wp2_with fail
        go_roundg (gk - 1)
        case measure => omega
        case rel => exact ⟨2, rfl, by omega, HMr4⟩
    by_cases hk2 : k = 2
    · subst hk2
      have HMr0 : Hd _ := ⟨HMR.out⟩
      have HTr0 : Hd _ := ⟨HTR.out⟩
      cases ho : o2 with
      | true =>
        obtain ⟨g1, g2⟩ := HG2.out ho
        rw [g1] at HK2
        rw [g2] at HE2
        rw [← eq_mk s] at HE2
        rw [ho] at HB2 HW2
        clear ho g1 g2
        go_wp2_with fail
        refine (HB0.out _ HTr0.out).mono ?_
        rintro e x1 ⟨rfl, hM⟩
        have HMr1 : Hd (Mod (fun _ => False) wb x1) := ⟨HMr0.out.trans hM (fun _ h => Or.inl h)⟩
        have HTr1 : Hd _ := ⟨HTr0.out.mod hM⟩
        clear hM
        go_wp2_with fail
        refine (HB2.out _ HTr1.out).mono ?_
        rintro e x2 ⟨rfl, hM⟩
        have HMr2 : Hd (Mod (fun _ => False) wb x2) := ⟨HMr1.out.trans hM (fun _ h => Or.inl h)⟩
        have HTr2 : Hd _ := ⟨HTr1.out.mod hM⟩
        clear hM
        have cw := (HCB.out x2 HMr2.out).2.2
        go_wp2_with fail
        refine (HW2.out _).mono ?_
        rintro e x3 ⟨rfl, hM⟩
        have HMr3 : Hd (Mod (fun _ => False) wb x3) := ⟨HMr2.out.trans hM (fun _ h => Or.inl h)⟩
        have HTr3 : Hd _ := ⟨HTr2.out.mod hM⟩
        clear hM
        clear cw
        go_wp2_with fail
        refine (HE2.out _ HTr3.out).mono ?_
        rintro e x4 ⟨rfl, hM⟩
        have HMr4 : Hd (Mod (fun _ => False) wb x4) := ⟨HMr3.out.trans hM (fun _ h => Or.inl h)⟩
        have HTr4 : Hd _ := ⟨HTr3.out.mod hM⟩
        clear hM
        go_wp2_with fail
        refine (HK2.out _ HTr4.out).mono ?_
        rintro e x5 ⟨rfl, hM⟩
        have HMr5 : Hd (Mod (fun _ => False) wb x5) := ⟨HMr4.out.trans hM (fun _ h => Or.inl h)⟩
        have HTr5 : Hd _ := ⟨HTr4.out.mod hM⟩
        clear hM
        go_wp2_with fail
        go_roundg (gk - 1)
        case measure => omega
        case rel => exact ⟨3, rfl, by omega, HMr5⟩
      | false =>
        rw [ho] at HB2 HW2
        clear ho
        go_wp2_with fail
        refine (HB0.out _ HTr0.out).mono ?_
        rintro e x1 ⟨rfl, hM⟩
        have HMr1 : Hd (Mod (fun _ => False) wb x1) := ⟨HMr0.out.trans hM (fun _ h => Or.inl h)⟩
        have HTr1 : Hd _ := ⟨HTr0.out.mod hM⟩
        clear hM
        go_wp2_with fail
        refine (HB2.out _ HTr1.out).mono ?_
        rintro e x2 ⟨rfl, hM⟩
        have HMr2 : Hd (Mod (fun _ => False) wb x2) := ⟨HMr1.out.trans hM (fun _ h => Or.inl h)⟩
        have HTr2 : Hd _ := ⟨HTr1.out.mod hM⟩
        clear hM
        have cw := (HCB.out x2 HMr2.out).2.2
        go_wp2_with fail
        refine (HW2.out _).mono ?_
        rintro e x3 ⟨rfl, hM⟩
        have HMr3 : Hd (Mod (fun _ => False) wb x3) := ⟨HMr2.out.trans hM (fun _ h => Or.inl h)⟩
        have HTr3 : Hd _ := ⟨HTr2.out.mod hM⟩
        clear hM
        clear cw
        go_wp2_with fail
        refine (HE2.out _ HTr3.out).mono ?_
        rintro e x4 ⟨rfl, hM⟩
        have HMr4 : Hd (Mod (fun _ => False) wb x4) := ⟨HMr3.out.trans hM (fun _ h => Or.inl h)⟩
        have HTr4 : Hd _ := ⟨HTr3.out.mod hM⟩
        clear hM
        go_wp2_with fail
        go_roundg (gk - 1)
        case measure => omega
        case rel => exact ⟨3, rfl, by omega, HMr4⟩
    have hk3 : k = 3 := by omega
    subst hk3
    go_wp2
    go_ret
    exact ⟨rfl, (HMB.out.trans HMR.out (fun _ h => Or.inl h)).toBelow⟩
end Go.Proofs.YtfdbmpcfphlmoaaDoor
