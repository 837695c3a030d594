/- kind's base, Plain, front, by walks. -/
import Derived.Test.YtfdbmpcfphlmoaaDoorW2
namespace Go.Proofs.YtfdbmpcfphlmoaaDoor
set_option linter.unusedVariables false
set_option linter.unusedSimpArgs false
open Go.RowKit

abbrev mk (l : Bs) : ByteArray := ⟨l.toArray⟩
theorem eq_mk (s : ByteArray) : s = mk (lst s) := (mk_lst s).symm

theorem lst_extract (s : ByteArray) (a : Nat) : lst (s.extract a s.size) = (lst s).drop a := by
  have h : s = mk (lst s) := (mk_lst s).symm
  have hl := lst_len s
  rw [h, ByteArray.extract_mk, lst_mk, lst_mk]
  rw [show (mk (lst s)).size = (lst s).length by rw [← h, ← hl]]
  exact List.take_of_length_le (by simp)

set_option maxRecDepth 100000 in
theorem base_calls (s : ByteArray) (hs : s.size ≤ 1048576) (w : World) : Calls Tryd.prog 27 #[.string s] w fun e w' => e = .returned (.tuple #[.string (mk (strip (lst s)).1), .int .i64 ((strip (lst s)).2 : Int)]) ∧ w = w' := by
  go_enter Tryd.func27, Tryd.ntmps27
  go_wp2_with fail
  go_loopg [0, 4] s.size (fun gk v0 v4 wr => w = wr ∧ ∃ (t : ByteArray) (n : Nat), v0 = .string t ∧ v4 = .int .i64 n ∧ t.size ≤ gk ∧ n + gk ≤ s.size ∧ Hd (strip (lst s) = ((strip (lst t)).1, (strip (lst t)).2 + n)))
  case atStart => exact ⟨rfl, s, 0, rfl, rfl, by omega, by omega, ⟨rfl⟩⟩
  case round =>
    obtain ⟨rfl, t, n, rfl, rfl, ht, hn, HS⟩ := hrel
    have HP : Hd _ := ⟨Tryd.strings_HasPrefix t (mk boxB) w⟩
    go_wp2_with fail
    refine HP.out.mono ?_
    rintro e w2 ⟨rfl, rfl⟩
    cases hb : Lib.hasPrefix t.data.toList boxB with
    | true =>
      obtain ⟨t2, hl⟩ := (fronted_iff boxB (lst t)).1 hb
      have hlen := lst_len t
      have h4 : 4 ≤ t.size := by rw [← hlen, hl]; simp [boxB]
      obtain ⟨u, hu⟩ : ∃ u, t.extract 4 t.size = u := ⟨_, rfl⟩
      have hlu : lst u = t2 := by rw [← hu, lst_extract, hl]; rfl
      have hus : u.size + 4 = t.size := by rw [← lst_len u, hlu, ← hlen, hl]; simp [boxB]
      have HS2 : Hd (strip (lst s) = ((strip (lst u)).1, (strip (lst u)).2 + (n + 1))) := ⟨by
        rw [HS.out, hl, strip_box, hlu]
        simp only [Prod.mk.injEq, true_and]
        omega⟩
      clear hb hl hlen hlu
      go_wp2_with fail
      go_roundg (gk - 1)
      case measure => omega
      case rel => exact ⟨rfl, u, n + 1, by simp [hu], by go_num, by omega, by omega, HS2⟩
    | false =>
      have hst := strip_not (l := lst t) hb
      have HS2 : Hd (strip (lst s) = (lst t, n)) := ⟨by rw [HS.out, hst]; simp⟩
      clear hb hst
      go_wp2
      exact bodyPost_ret (v := .tuple #[.string t, .int .i64 (n : Int)]) (by simp [results, Tryd.f27, go_sem]) rfl ⟨by rw [HS2.out, eq_mk t], rfl⟩

theorem strip_len (l : Bs) : (strip l).1.length ≤ l.length := by
  have : ∀ (n : Nat) (l : Bs), l.length ≤ n → (strip l).1.length ≤ l.length := by
    intro n
    induction n with
    | zero => intro l hl; obtain rfl := List.eq_nil_of_length_eq_zero (show l.length = 0 by omega); simp [strip]
    | succ n ih =>
      intro l hl
      cases hb : fronted boxB l with
      | true =>
        obtain ⟨t, rfl⟩ := (fronted_iff _ _).1 hb
        rw [strip_box]
        have := ih t (by simp [boxB] at hl; omega)
        simp [boxB]
        omega
      | false => rw [strip_not hb]; exact Nat.le_refl _
  exact this l.length l (Nat.le_refl _)

theorem strip_num (l : Bs) : (strip l).2 ≤ l.length := by
  have : ∀ (n : Nat) (l : Bs), l.length ≤ n → (strip l).2 ≤ l.length := by
    intro n
    induction n with
    | zero => intro l hl; obtain rfl := List.eq_nil_of_length_eq_zero (show l.length = 0 by omega); simp [strip]
    | succ n ih =>
      intro l hl
      cases hb : fronted boxB l with
      | true =>
        obtain ⟨t, rfl⟩ := (fronted_iff _ _).1 hb
        rw [strip_box]
        have := ih t (by simp [boxB] at hl; omega)
        simp [boxB]
        omega
      | false => rw [strip_not hb]; simp
  exact this l.length l (Nat.le_refl _)

set_option maxRecDepth 100000 in
theorem Plain_calls (s : ByteArray) (hs : s.size ≤ 1048576) (w : World) (hT : Tab w) : Calls Tryd.prog 15 #[.string s] w fun e w' => e = .returned (.bool (plainI (lst s))) ∧ Mod (fun _ => False) w w' := by
  have HB : Hd _ := ⟨base_calls s hs w⟩
  have hn1 := strip_num (lst s)
  have ht1 := strip_len (lst s)
  rw [lst_len] at hn1 ht1
  have HP : Hd (plainI (lst s) = (decide ((strip (lst s)).2 ≤ 8) && goodB (strip (lst s)).1)) := ⟨rfl⟩
  obtain ⟨r, hr⟩ : ∃ r, plainI (lst s) = r := ⟨_, rfl⟩
  rw [hr] at HP ⊢
  obtain ⟨n, hn⟩ : ∃ n, (strip (lst s)).2 = n := ⟨_, rfl⟩
  obtain ⟨tb, htb⟩ : ∃ tb, mk (strip (lst s)).1 = tb := ⟨_, rfl⟩
  have htl : (strip (lst s)).1 = lst tb := by rw [← htb, lst_mk]
  rw [htb, hn] at HB
  rw [hn, htl] at HP
  rw [hn] at hn1
  rw [htl, lst_len] at ht1
  clear hr hn htb htl
  by_cases h8 : n ≤ 8
  · by_cases hi : lst tb = intB
    · have hq : tb = mk intB := (eq_mk tb).trans (by rw [hi])
      have HR : Hd (r = true) := ⟨by rw [HP.out]; simp [h8, goodB, hi]⟩
      subst hq
      clear HP hi
      go_enter Tryd.func15, Tryd.ntmps15
      go_wp2_with fail
      refine HB.out.mono ?_
      rintro e w2 ⟨rfl, rfl⟩
      go_wp2
      go_ret
      exact ⟨by rw [HR.out]; rfl, Mod.refl _ _⟩
    · have hq : ¬ tb = mk intB := fun e => hi (by rw [e])
      have hq2 : (tb.toList == [105, 110, 116]) = false := by
        rw [ByteArray.toList_eq]
        exact beq_false_of_ne hi
      have HR : Hd (r = isName (lst tb)) := ⟨by rw [HP.out]; simp [h8, goodB, hi]⟩
      have HN : Hd (∀ w, Tab w → _) := ⟨fun w h => Name_calls tb (by omega) w h⟩
      obtain ⟨nm, hnm⟩ : ∃ nm, isName (lst tb) = nm := ⟨_, rfl⟩
      rw [hnm] at HR HN
      have HT : Hd _ := ⟨HN.out w hT⟩
      clear HP hi hnm HN hT
      go_enter Tryd.func15, Tryd.ntmps15
      go_wp2_with fail
      refine HB.out.mono ?_
      rintro e w2 ⟨rfl, rfl⟩
      go_wp2_with fail
      refine HT.out.mono ?_
      rintro e w3 ⟨rfl, hM⟩
      have HM : Hd _ := ⟨hM⟩
      clear hM
      go_wp2
      go_ret
      exact ⟨by rw [HR.out]; rfl, HM.out⟩
  · have HR : Hd (r = false) := ⟨by rw [HP.out]; simp [h8]⟩
    clear HP hT
    go_enter Tryd.func15, Tryd.ntmps15
    go_wp2_with fail
    refine HB.out.mono ?_
    rintro e w2 ⟨rfl, rfl⟩
    go_wp2
    go_ret
    exact ⟨by rw [HR.out]; rfl, Mod.refl _ _⟩

theorem Tab.mod {w w' : World} (h : Tab w) (hM : Mod (fun _ => False) w w') : Tab w' := by
  unfold Tab Lib.TabIs World.var? at h ⊢
  cases hg : Tryd.prog.globalNamed "strings.asciiSpace" with
  | none => rw [hg] at h; cases h
  | some g =>
    rw [hg] at h
    simp only [Option.bind_some] at h ⊢
    have hlt : g < w.heap.size := by
      cases hh : w.heap[g]? with
      | none => rw [hh] at h; cases h
      | some o => exact (Array.getElem?_eq_some_iff.1 hh).1
    rw [hM.block g hlt (fun h => h)]
    exact h

theorem cut_calls (s : ByteArray) (p : Bs) (w : World) : Calls Tryd.prog 37 #[.string s, .string (mk p)] w fun e w' => e = .returned (.tuple #[.string (if fronted p (lst s) then mk ((lst s).drop p.length) else s), .bool (fronted p (lst s))]) ∧ w = w' := by
  refine (Tryd.strings_CutPrefix s (mk p) w).mono ?_
  rintro e w' ⟨rfl, rfl⟩
  refine ⟨?_, rfl⟩
  have hm : (mk p).data.toList = p := lst_mk p
  rw [hm]
  unfold Lib.trimPrefix
  have hf : Lib.hasPrefix s.data.toList p = fronted p (lst s) := rfl
  rw [hf]
  cases fronted p (lst s) with
  | true => rfl
  | false =>
    rw [if_neg (by simp), if_neg (by simp), show (⟨s.data.toList.toArray⟩ : ByteArray) = s from mk_lst s]
theorem has_calls (s : ByteArray) (p : Bs) (w : World) : Calls Tryd.prog 28 #[.string s, .string (mk p)] w fun e w' => e = .returned (.bool (fronted p (lst s))) ∧ w = w' := by
  refine (Tryd.strings_HasPrefix s (mk p) w).mono ?_
  rintro e w' ⟨rfl, rfl⟩
  have hm : (mk p).data.toList = p := lst_mk p
  rw [hm]
  exact ⟨rfl, rfl⟩

set_option maxRecDepth 100000 in
theorem front_calls (s : ByteArray) (w : World) : Calls Tryd.prog 26 #[.string s] w fun e w' => e = .returned (.tuple #[.int .i64 ((frontI (lst s)).1 : Int), .string (mk (frontI (lst s)).2)]) ∧ w = w' := by
  have H1 : Hd (∀ w, _) := ⟨fun w => cut_calls s refB w⟩
  have H2 : Hd (∀ w, _) := ⟨fun w => cut_calls s mutB w⟩
  have HF : Hd (frontI (lst s) = if fronted refB (lst s) then (4, (lst s).drop 4) else if fronted mutB (lst s) then (5, (lst s).drop 4) else (0, lst s)) := ⟨rfl⟩
  obtain ⟨f, hf⟩ : ∃ f, frontI (lst s) = f := ⟨_, rfl⟩
  rw [hf] at HF ⊢
  clear hf
  obtain ⟨u, hu⟩ : ∃ u, mk ((lst s).drop 4) = u := ⟨_, rfl⟩
  have HU : Hd _ := ⟨hu⟩
  have h4 : refB.length = 4 := rfl
  have h4' : mutB.length = 4 := rfl
  rw [h4, hu] at H1
  rw [h4', hu] at H2
  clear hu h4 h4'
  cases h1 : fronted refB (lst s) with
  | true =>
    rw [h1, if_pos rfl] at HF H1
    clear h1 H2
    go_enter Tryd.func26, Tryd.ntmps26
    go_wp2_with fail
    refine (H1.out _).mono ?_
    rintro e w2 ⟨rfl, rfl⟩
    go_wp2
    exact bodyPost_ret (v := .tuple #[.int .i64 4, .string u]) (by simp [results, Tryd.f26, go_sem]) rfl ⟨by rw [HF.out, ← HU.out]; rfl, rfl⟩
  | false =>
    rw [h1] at H1 HF
    simp only [Bool.false_eq_true, if_false] at HF H1
    cases h2 : fronted mutB (lst s) with
    | true =>
      rw [h2, if_pos rfl] at HF H2
      clear h1 h2
      go_enter Tryd.func26, Tryd.ntmps26
      go_wp2_with fail
      refine (H1.out _).mono ?_
      rintro e w2 ⟨rfl, rfl⟩
      go_wp2_with fail
      refine (H2.out _).mono ?_
      rintro e w2 ⟨rfl, rfl⟩
      go_wp2
      exact bodyPost_ret (v := .tuple #[.int .i64 5, .string u]) (by simp [results, Tryd.f26, go_sem]) rfl ⟨by rw [HF.out, ← HU.out]; rfl, rfl⟩
    | false =>
      rw [h2] at HF H2
      simp only [Bool.false_eq_true, if_false] at HF H2
      clear h1 h2
      go_enter Tryd.func26, Tryd.ntmps26
      go_wp2_with fail
      refine (H1.out _).mono ?_
      rintro e w2 ⟨rfl, rfl⟩
      go_wp2_with fail
      refine (H2.out _).mono ?_
      rintro e w2 ⟨rfl, rfl⟩
      go_wp2
      exact bodyPost_ret (v := .tuple #[.int .i64 0, .string s]) (by simp [results, Tryd.f26, go_sem]) rfl ⟨by rw [HF.out]; dsimp only; rw [← eq_mk s]; rfl, rfl⟩
end Go.Proofs.YtfdbmpcfphlmoaaDoor
