/- KindNames: its walk. -/
import Derived.Test.YtfdbmpcfphlmoaaDoorTexts
import Derived.Test.YtfdbmpcfphlmoaaDoorK2
namespace Go.Proofs.YtfdbmpcfphlmoaaDoor
set_option linter.unusedVariables false
set_option linter.unusedSimpArgs false
open Go.RowKit

theorem lst_append (a b : ByteArray) : lst (a ++ b) = lst a ++ lst b := by
  conv => lhs; rw [eq_mk a, eq_mk b, mk_append, lst_mk]
theorem size_append (a b : ByteArray) : (a ++ b).size = a.size + b.size := by
  rw [← lst_len, lst_append, List.length_append, lst_len, lst_len]

set_option maxRecDepth 100000 in
set_option maxHeartbeats 2000000 in
theorem names_long (s : ByteArray) (h : 100 < s.size) (w : World) (hT : Tab w) : Calls Tryd.prog 4 #[.string s] w fun e w' => e = .returned (.bool true) ∧ Below w.heap.size w w' := by
  have HA : Hd _ := ⟨alive_calls w hT⟩
  have HT : Hd _ := ⟨hT⟩
  clear hT
  go_enter Tryd.func4, Tryd.ntmps4
  go_wp2_with fail
  refine HA.out.mono ?_
  rintro e w1 ⟨rfl, hM⟩
  have HM1 : Hd (Mod (fun _ => False) w w1) := ⟨hM⟩
  have HT1 : Hd _ := ⟨HT.out.mod hM⟩
  clear hM
  go_wp2
  go_ret
  exact ⟨rfl, HM1.out.toBelow⟩

set_option maxRecDepth 100000 in
set_option maxHeartbeats 4000000 in
theorem names_walk (s : ByteArray) (h : s.size ≤ 100) (w : World) (hT : Tab w) : Calls Tryd.prog 4 #[.string s] w fun e w' => e = .returned (.bool true) ∧ Below w.heap.size w w' := by
  have HA : Hd _ := ⟨alive_calls w hT⟩
  have HN : Hd (∀ w, Tab w → _) := ⟨fun w h0 => Name_calls s (by omega) w h0⟩
  have HB : Hd (∀ w, Tab w → _) := ⟨fun w h0 => Base_calls s (by omega) w h0⟩
  have HK : Hd (∀ w, Tab w → _) := ⟨fun w h0 => Kind_calls s (by omega) w h0⟩
  have HP : Hd (∀ w, Tab w → _) := ⟨fun w h0 => Plain_calls s (by omega) w h0⟩
  have HW : Hd (∀ w, Tab w → _) := ⟨fun w h0 => Word_calls s w h0⟩
  have HT : Hd _ := ⟨hT⟩
  clear hT
  cases hn : isName (lst s) with
  | true =>
    obtain ⟨n1, n2, n3, n4, n5, n6, n7⟩ := name_kind hn
    obtain ⟨u1, hu1⟩ : ∃ u, s ++ (⟨#[32]⟩ : ByteArray) = u := ⟨_, rfl⟩
    obtain ⟨u2, hu2⟩ : ∃ u, (⟨#[102, 110, 32]⟩ : ByteArray) ++ s = u := ⟨_, rfl⟩
    obtain ⟨u3, hu3⟩ : ∃ u, u1 ++ s = u := ⟨_, rfl⟩
    obtain ⟨u4, hu4⟩ : ∃ u, (⟨#[98, 111, 120, 32, 32]⟩ : ByteArray) ++ s = u := ⟨_, rfl⟩
    have l1 : lst u1 = lst s ++ [32] := by rw [← hu1, lst_append]
    have l2 : lst u2 = [102, 110, 32] ++ lst s := by rw [← hu2, lst_append]
    have l3 : lst u3 = lst s ++ [32] ++ lst s := by rw [← hu3, lst_append, l1]
    have l4 : lst u4 = [98, 111, 120, 32, 32] ++ lst s := by rw [← hu4, lst_append]
    have z1 : u1.size ≤ 101 := by rw [← lst_len, l1, List.length_append, lst_len]; simp; omega
    have z2 : u2.size ≤ 1048576 := by rw [← lst_len, l2, List.length_append, lst_len]; simp; omega
    have z3 : u3.size ≤ 1048576 := by rw [← lst_len, l3, List.length_append, List.length_append, lst_len]; simp; omega
    have z4 : u4.size ≤ 1048576 := by rw [← lst_len, l4, List.length_append, lst_len]; simp; omega
    have K1 : Hd (∀ w, Tab w → _) := ⟨fun w h0 => Kind_calls u1 (by omega) w h0⟩
    have K2 : Hd (∀ w, Tab w → _) := ⟨fun w h0 => Kind_calls u2 z2 w h0⟩
    have K3 : Hd (∀ w, Tab w → _) := ⟨fun w h0 => Kind_calls u3 z3 w h0⟩
    have K4 : Hd (∀ w, Tab w → _) := ⟨fun w h0 => Kind_calls u4 z4 w h0⟩
    rw [l1, n4] at K1
    rw [l2, n5] at K2
    rw [l3, n6] at K3
    rw [l4, n7] at K4
    rw [n1] at HK
    rw [n2] at HP
    rw [n3] at HB
    rw [← eq_mk s] at HB
    rw [hn] at HN
    clear n1 n2 n3 n4 n5 n6 n7 l1 l2 l3 l4 z2 z3 z4 hn HW
    go_enter Tryd.func4, Tryd.ntmps4
    go_wp2_with fail
    refine HA.out.mono ?_
    rintro e w1 ⟨rfl, hM⟩
    have HM1 : Hd (Mod (fun _ => False) w w1) := ⟨hM⟩
    have HT1 : Hd _ := ⟨HT.out.mod hM⟩
    clear hM
    go_wp2_with fail
    refine (HN.out _ HT1.out).mono ?_
    rintro e w2 ⟨rfl, hM⟩
    have HM2 : Hd (Mod (fun _ => False) w w2) := ⟨HM1.out.trans hM (fun _ h => Or.inl h)⟩
    have HT2 : Hd _ := ⟨HT1.out.mod hM⟩
    clear hM
    go_wp2_with fail
    refine (HB.out _ HT2.out).mono ?_
    rintro e w3 ⟨rfl, hM⟩
    have HM3 : Hd (Mod (fun _ => False) w w3) := ⟨HM2.out.trans hM (fun _ h => Or.inl h)⟩
    have HT3 : Hd _ := ⟨HT2.out.mod hM⟩
    clear hM
    go_wp2_with fail
    refine (HK.out _ HT3.out).mono ?_
    rintro e w4 ⟨rfl, hM⟩
    have HM4 : Hd (Mod (fun _ => False) w w4) := ⟨HM3.out.trans hM (fun _ h => Or.inl h)⟩
    have HT4 : Hd _ := ⟨HT3.out.mod hM⟩
    clear hM
    go_wp2_with fail
    refine (HP.out _ HT4.out).mono ?_
    rintro e w5 ⟨rfl, hM⟩
    have HM5 : Hd (Mod (fun _ => False) w w5) := ⟨HM4.out.trans hM (fun _ h => Or.inl h)⟩
    have HT5 : Hd _ := ⟨HT4.out.mod hM⟩
    clear hM
    go_wp2_with fail
    refine (K1.out _ HT5.out).mono ?_
    rintro e w6 ⟨rfl, hM⟩
    have HM6 : Hd (Mod (fun _ => False) w w6) := ⟨HM5.out.trans hM (fun _ h => Or.inl h)⟩
    have HT6 : Hd _ := ⟨HT5.out.mod hM⟩
    clear hM
    go_wp2_with fail
    refine (K2.out _ HT6.out).mono ?_
    rintro e w7 ⟨rfl, hM⟩
    have HM7 : Hd (Mod (fun _ => False) w w7) := ⟨HM6.out.trans hM (fun _ h => Or.inl h)⟩
    have HT7 : Hd _ := ⟨HT6.out.mod hM⟩
    clear hM
    go_wp2_with fail
    refine (K3.out _ HT7.out).mono ?_
    rintro e w8 ⟨rfl, hM⟩
    have HM8 : Hd (Mod (fun _ => False) w w8) := ⟨HM7.out.trans hM (fun _ h => Or.inl h)⟩
    have HT8 : Hd _ := ⟨HT7.out.mod hM⟩
    clear hM
    go_wp2_with fail
    refine (K4.out _ HT8.out).mono ?_
    rintro e w9 ⟨rfl, hM⟩
    have HM9 : Hd (Mod (fun _ => False) w w9) := ⟨HM8.out.trans hM (fun _ h => Or.inl h)⟩
    have HT9 : Hd _ := ⟨HT8.out.mod hM⟩
    clear hM
    go_wp2
    go_ret
    exact ⟨by simp, HM9.out.toBelow⟩
  | false =>
    rw [hn] at HN
    clear hn
    cases hw : isWord (lst s) with
    | false =>
      rw [hw] at HW
      clear hw HK HP HB
      go_enter Tryd.func4, Tryd.ntmps4
      go_wp2_with fail
      refine HA.out.mono ?_
      rintro e w1 ⟨rfl, hM⟩
      have HM1 : Hd (Mod (fun _ => False) w w1) := ⟨hM⟩
      have HT1 : Hd _ := ⟨HT.out.mod hM⟩
      clear hM
      go_wp2_with fail
      refine (HN.out _ HT1.out).mono ?_
      rintro e w2 ⟨rfl, hM⟩
      have HM2 : Hd (Mod (fun _ => False) w w2) := ⟨HM1.out.trans hM (fun _ h => Or.inl h)⟩
      have HT2 : Hd _ := ⟨HT1.out.mod hM⟩
      clear hM
      go_wp2_with fail
      refine (HW.out _ HT2.out).mono ?_
      rintro e w3 ⟨rfl, hM⟩
      have HM3 : Hd (Mod (fun _ => False) w w3) := ⟨HM2.out.trans hM (fun _ h => Or.inl h)⟩
      have HT3 : Hd _ := ⟨HT2.out.mod hM⟩
      clear hM
      go_wp2
      go_ret
      exact ⟨rfl, HM3.out.toBelow⟩
    | true =>
      rw [hw] at HW
      have hk := kind_one (lst s)
      clear hw HP HB
      by_cases hi : lst s = intB
      · have hq : s = mk intB := (eq_mk s).trans (by rw [hi])
        have hk1 : kindI (lst s) = 1 := by rw [hi]; decide +kernel
        rw [hk1] at HK
        clear hk hk1 hi
        subst hq
        go_enter Tryd.func4, Tryd.ntmps4
        go_wp2_with fail
        refine HA.out.mono ?_
        rintro e w1 ⟨rfl, hM⟩
        have HM1 : Hd (Mod (fun _ => False) w w1) := ⟨hM⟩
        have HT1 : Hd _ := ⟨HT.out.mod hM⟩
        clear hM
        go_wp2_with fail
        refine (HN.out _ HT1.out).mono ?_
        rintro e w2 ⟨rfl, hM⟩
        have HM2 : Hd (Mod (fun _ => False) w w2) := ⟨HM1.out.trans hM (fun _ h => Or.inl h)⟩
        have HT2 : Hd _ := ⟨HT1.out.mod hM⟩
        clear hM
        go_wp2_with fail
        refine (HW.out _ HT2.out).mono ?_
        rintro e w3 ⟨rfl, hM⟩
        have HM3 : Hd (Mod (fun _ => False) w w3) := ⟨HM2.out.trans hM (fun _ h => Or.inl h)⟩
        have HT3 : Hd _ := ⟨HT2.out.mod hM⟩
        clear hM
        go_wp2_with fail
        refine (HK.out _ HT3.out).mono ?_
        rintro e w4 ⟨rfl, hM⟩
        have HM4 : Hd (Mod (fun _ => False) w w4) := ⟨HM3.out.trans hM (fun _ h => Or.inl h)⟩
        have HT4 : Hd _ := ⟨HT3.out.mod hM⟩
        clear hM
        go_wp2
        go_ret
        exact ⟨rfl, HM4.out.toBelow⟩
      · have hq : ¬ s = mk intB := fun e => hi (by rw [e])
        have hq2 : (s.toList == [105, 110, 116]) = false := by
          rw [ByteArray.toList_eq]
          exact beq_false_of_ne hi
        obtain ⟨k, hkk⟩ : ∃ k, kindI (lst s) = k := ⟨_, rfl⟩
        rw [hkk] at HK hk
        have hk1 : ((k : Int) == 1) = false := by
          rw [beq_eq_false_iff_ne]
          intro e
          have : k = 1 := by omega
          rw [this] at hk
          simp [hi] at hk
        clear hk hkk hi
        go_enter Tryd.func4, Tryd.ntmps4
        go_wp2_with fail
        refine HA.out.mono ?_
        rintro e w1 ⟨rfl, hM⟩
        have HM1 : Hd (Mod (fun _ => False) w w1) := ⟨hM⟩
        have HT1 : Hd _ := ⟨HT.out.mod hM⟩
        clear hM
        go_wp2_with fail
        refine (HN.out _ HT1.out).mono ?_
        rintro e w2 ⟨rfl, hM⟩
        have HM2 : Hd (Mod (fun _ => False) w w2) := ⟨HM1.out.trans hM (fun _ h => Or.inl h)⟩
        have HT2 : Hd _ := ⟨HT1.out.mod hM⟩
        clear hM
        go_wp2_with fail
        refine (HW.out _ HT2.out).mono ?_
        rintro e w3 ⟨rfl, hM⟩
        have HM3 : Hd (Mod (fun _ => False) w w3) := ⟨HM2.out.trans hM (fun _ h => Or.inl h)⟩
        have HT3 : Hd _ := ⟨HT2.out.mod hM⟩
        clear hM
        go_wp2_with fail
        refine (HK.out _ HT3.out).mono ?_
        rintro e w4 ⟨rfl, hM⟩
        have HM4 : Hd (Mod (fun _ => False) w w4) := ⟨HM3.out.trans hM (fun _ h => Or.inl h)⟩
        have HT4 : Hd _ := ⟨HT3.out.mod hM⟩
        clear hM
        go_wp2
        go_ret
        exact ⟨rfl, HM4.out.toBelow⟩
end Go.Proofs.YtfdbmpcfphlmoaaDoor
