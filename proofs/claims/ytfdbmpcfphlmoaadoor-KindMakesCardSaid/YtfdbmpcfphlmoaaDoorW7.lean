/- The document's rest, Plain, by walks. -/
import Derived.Test.YtfdbmpcfphlmoaaDoorW6
import Derived.Test.YtfdbmpcfphlmoaaDoorW5
namespace Go.Proofs.YtfdbmpcfphlmoaaDoor
set_option linter.unusedVariables false
set_option linter.unusedSimpArgs false
open Go.RowKit

theorem lst_front (s : ByteArray) (b : Nat) : lst (s.extract 0 b) = (lst s).take b := by
  conv => lhs; rw [eq_mk s, ByteArray.extract_mk, lst_mk]
  simp

set_option maxRecDepth 100000 in
theorem rest_calls (p : Bs) (hp : p.length = 3) (s : ByteArray) (hs : s.size ≤ 1048576) (w : World) : Calls Tryd.prog 25 #[.string s, .string (mk p)] w fun e w' => e = .returned (.tuple #[.string (mk (restR (lst s) p).1), .bool (restR (lst s) p).2]) ∧ w = w' := by
  have HE : Hd (restR (lst s) p = if 4 < s.size ∧ (lst s).take 4 = p ++ [32] then ((lst s).drop 4, true) else ([], false)) := ⟨by unfold restR; rw [hp, lst_len]⟩
  obtain ⟨r, hr⟩ : ∃ r, restR (lst s) p = r := ⟨_, rfl⟩
  rw [hr] at HE ⊢
  obtain ⟨q, hq⟩ : ∃ q, mk p = q := ⟨_, rfl⟩
  have hqs : q.size = 3 := by rw [← hq, ← lst_len, lst_mk, hp]
  have hqs2 : (q.size : Int) = 3 := by omega
  obtain ⟨y, hy⟩ : ∃ y, q ++ (⟨#[32]⟩ : ByteArray) = y := ⟨_, rfl⟩
  have hyl : lst y = p ++ [32] := by rw [← hy, ← hq]; show lst (mk p ++ mk [32]) = _; rw [mk_append, lst_mk]
  rw [hq]
  clear hr hq hp
  by_cases h4 : 4 < s.size
  · obtain ⟨x, hx⟩ : ∃ x, s.extract 0 4 = x := ⟨_, rfl⟩
    obtain ⟨u, hu⟩ : ∃ u, s.extract 4 s.size = u := ⟨_, rfl⟩
    have hxl : lst x = (lst s).take 4 := by rw [← hx, lst_front]
    have HU : Hd (mk ((lst s).drop 4) = u) := ⟨by rw [← lst_extract, hu]⟩
    rw [← hxl, ← hyl] at HE
    by_cases he : x = y
    · have HR : Hd (r = ((lst s).drop 4, true)) := ⟨by rw [HE.out, if_pos ⟨h4, by rw [he]⟩]⟩
      subst he
      clear HE hyl hxl
      go_enter Tryd.func25, Tryd.ntmps25
      go_wp2
      exact bodyPost_ret (v := .tuple #[.string u, .bool true]) (by simp [results, Tryd.f25, go_sem, hu]) rfl ⟨by rw [HR.out, ← HU.out], rfl⟩
    · have he1 : ¬ lst x = lst y := fun h => he (by rw [eq_mk x, eq_mk y, h])
      have he2 : (x.toList == y.toList) = false := by
        rw [ByteArray.toList_eq, ByteArray.toList_eq]
        exact beq_false_of_ne he1
      have HR : Hd (r = ([], false)) := ⟨by rw [HE.out, if_neg (fun h => he1 h.2)]⟩
      clear HE hyl hxl he1
      go_enter Tryd.func25, Tryd.ntmps25
      go_wp2
      exact bodyPost_ret (v := .tuple #[.string (mk []), .bool false]) (by simp [results, Tryd.f25, go_sem]) rfl ⟨by rw [HR.out], rfl⟩
  · have HR : Hd (r = ([], false)) := ⟨by rw [HE.out, if_neg (fun h => h4 h.1)]⟩
    clear HE hyl
    go_enter Tryd.func25, Tryd.ntmps25
    go_wp2
    exact bodyPost_ret (v := .tuple #[.string (mk []), .bool false]) (by simp [results, Tryd.f25, go_sem]) rfl ⟨by rw [HR.out], rfl⟩

theorem plainR_unfold (l : Bs) : plainR l = if goodB l then (0, true) else if (restR l [98, 111, 120]).2 then (if !(plainR (restR l [98, 111, 120]).1).2 || decide ((plainR (restR l [98, 111, 120]).1).1 = 8) then (0, false) else ((plainR (restR l [98, 111, 120]).1).1 + 1, true)) else (0, false) := by
  rw [plainR]
  split
  · rfl
  · split
    · rename_i s h; rw [h]; rfl
    · rename_i s h; rw [h]; rfl
theorem plainR_le (l : Bs) : (plainR l).1 ≤ 8 := by
  rw [plainR_is]
  cases hp : plainI l with
  | false => simp
  | true =>
    unfold plainI at hp
    simp at hp
    simp [hp.1]
theorem restR_len (l w : Bs) (h : (restR l w).2 = true) : (restR l w).1.length < l.length := restR_lt (l := l) (w := w) (s := (restR l w).1) (by rw [← h])

set_option maxRecDepth 100000 in
theorem rPlain_step (s : ByteArray) (hs : s.size ≤ 1048576) (ih : ∀ u : ByteArray, u.size < s.size → ∀ (w : World), Calls Tryd.prog 8 #[.string u] w fun e w' => e = .returned (.tuple #[.int .i64 ((plainR (lst u)).1 : Int), .bool (plainR (lst u)).2]) ∧ Mod (fun _ => False) w w') (w : World) :
    Calls Tryd.prog 8 #[.string s] w fun e w' => e = .returned (.tuple #[.int .i64 ((plainR (lst s)).1 : Int), .bool (plainR (lst s)).2]) ∧ Mod (fun _ => False) w w' := by
  have HE : Hd _ := ⟨plainR_unfold (lst s)⟩
  have HN : Hd _ := ⟨rName_calls s hs w⟩
  have HR3 : Hd (∀ w, _) := ⟨fun w => rest_calls [98, 111, 120] rfl s hs w⟩
  have hrl := restR_len (lst s) [98, 111, 120]
  rw [lst_len] at hrl
  obtain ⟨r, hr⟩ : ∃ r, plainR (lst s) = r := ⟨_, rfl⟩
  rw [hr] at HE ⊢
  obtain ⟨u, hu⟩ : ∃ u, mk (restR (lst s) [98, 111, 120]).1 = u := ⟨_, rfl⟩
  have hul : (restR (lst s) [98, 111, 120]).1 = lst u := by rw [← hu, lst_mk]
  obtain ⟨ok, hok⟩ : ∃ ok, (restR (lst s) [98, 111, 120]).2 = ok := ⟨_, rfl⟩
  rw [hul, lst_len, hok] at hrl
  rw [hul, hok] at HE
  rw [hu, hok] at HR3
  obtain ⟨nm, hnm⟩ : ∃ nm, isName (lst s) = nm := ⟨_, rfl⟩
  have hg : goodB (lst s) = (decide (lst s = intB) || nm) := by unfold goodB; rw [hnm]
  rw [hnm] at HN
  rw [hg] at HE
  have h8 := plainR_le (lst u)
  obtain ⟨m, hm⟩ : ∃ m, (plainR (lst u)).1 = m := ⟨_, rfl⟩
  obtain ⟨is, his⟩ : ∃ is, (plainR (lst u)).2 = is := ⟨_, rfl⟩
  rw [hm, his] at HE
  rw [hm] at h8
  have HI : Hd (ok = true → ∀ w, Calls Tryd.prog 8 #[.string u] w fun e w' => e = .returned (.tuple #[.int .i64 (m : Int), .bool is]) ∧ Mod (fun _ => False) w w') := ⟨fun h w => by have := ih u (hrl h) w; rw [hm, his] at this; exact this⟩
  clear ih hr hu hul hok hnm hg hm his hrl
  by_cases hi : lst s = intB
  · have hq : s = mk intB := (eq_mk s).trans (by rw [hi])
    have HR : Hd (r = (0, true)) := ⟨by rw [HE.out, hi]; rfl⟩
    clear HE HN HR3 HI hi
    subst hq
    go_enter Tryd.func8, Tryd.ntmps8
    go_wp2
    exact bodyPost_ret (v := .tuple #[.int .i64 0, .bool true]) (by simp [results, Tryd.f8, go_sem]) rfl ⟨by rw [HR.out]; rfl, Mod.refl _ _⟩
  · have hq : ¬ s = mk intB := fun e => hi (by rw [e])
    have hq2 : (s.toList == [105, 110, 116]) = false := by
      rw [ByteArray.toList_eq]
      exact beq_false_of_ne hi
    have HE2 : Hd (r = if nm = true then (0, true) else if ok = true then if (!is || decide (m = 8)) = true then (0, false) else (m + 1, true) else (0, false)) := ⟨by rw [HE.out]; simp [hi]⟩
    clear HE hi
    cases nm with
    | true =>
      have HR : Hd (r = (0, true)) := ⟨by rw [HE2.out]; rfl⟩
      clear HE2 HR3 HI
      go_enter Tryd.func8, Tryd.ntmps8
      go_wp2_with fail
      refine HN.out.mono ?_
      rintro e w2 ⟨rfl, hM⟩
      have HM : Hd _ := ⟨hM⟩
      clear hM
      go_wp2
      exact bodyPost_ret (v := .tuple #[.int .i64 0, .bool true]) (by simp [results, Tryd.f8, go_sem]) rfl ⟨by rw [HR.out]; rfl, HM.out⟩
    | false =>
      cases ok with
      | false =>
        have HR : Hd (r = (0, false)) := ⟨by rw [HE2.out]; rfl⟩
        clear HE2 HI
        go_enter Tryd.func8, Tryd.ntmps8
        go_wp2_with fail
        refine HN.out.mono ?_
        rintro e w2 ⟨rfl, hM⟩
        have HM : Hd _ := ⟨hM⟩
        clear hM
        go_wp2_with fail
        refine (HR3.out _).mono ?_
        rintro e w3 ⟨rfl, rfl⟩
        go_wp2
        exact bodyPost_ret (v := .tuple #[.int .i64 0, .bool false]) (by simp [results, Tryd.f8, go_sem]) rfl ⟨by rw [HR.out]; rfl, HM.out⟩
      | true =>
        cases is with
        | false =>
          have HR : Hd (r = (0, false)) := ⟨by rw [HE2.out]; rfl⟩
          clear HE2
          go_enter Tryd.func8, Tryd.ntmps8
          go_wp2_with fail
          refine HN.out.mono ?_
          rintro e w2 ⟨rfl, hM⟩
          have HM : Hd _ := ⟨hM⟩
          clear hM
          go_wp2_with fail
          refine (HR3.out _).mono ?_
          rintro e w3 ⟨rfl, rfl⟩
          go_wp2_with fail
          refine (HI.out (by simp) _).mono ?_
          rintro e w3 ⟨rfl, hM⟩
          have HM3 : Hd _ := ⟨HM.out.trans hM (fun _ h => Or.inl h)⟩
          clear hM
          go_wp2
          exact bodyPost_ret (v := .tuple #[.int .i64 0, .bool false]) (by simp [results, Tryd.f8, go_sem]) rfl ⟨by rw [HR.out]; rfl, HM3.out⟩
        | true =>
          by_cases h88 : m = 8
          · subst h88
            have HR : Hd (r = (0, false)) := ⟨by rw [HE2.out]; rfl⟩
            clear HE2
            go_enter Tryd.func8, Tryd.ntmps8
            go_wp2_with fail
            refine HN.out.mono ?_
            rintro e w2 ⟨rfl, hM⟩
            have HM : Hd _ := ⟨hM⟩
            clear hM
            go_wp2_with fail
            refine (HR3.out _).mono ?_
            rintro e w3 ⟨rfl, rfl⟩
            go_wp2_with fail
            refine (HI.out (by simp) _).mono ?_
            rintro e w3 ⟨rfl, hM⟩
            have HM3 : Hd _ := ⟨HM.out.trans hM (fun _ h => Or.inl h)⟩
            clear hM
            go_wp2
            exact bodyPost_ret (v := .tuple #[.int .i64 0, .bool false]) (by simp [results, Tryd.f8, go_sem]) rfl ⟨by rw [HR.out]; rfl, HM3.out⟩
          · have h89 : ¬ (m : Int) = 8 := by omega
            have HR : Hd (r = (m + 1, true)) := ⟨by rw [HE2.out]; simp [h88]⟩
            clear HE2 h88
            go_enter Tryd.func8, Tryd.ntmps8
            go_wp2_with fail
            refine HN.out.mono ?_
            rintro e w2 ⟨rfl, hM⟩
            have HM : Hd _ := ⟨hM⟩
            clear hM
            go_wp2_with fail
            refine (HR3.out _).mono ?_
            rintro e w3 ⟨rfl, rfl⟩
            go_wp2_with fail
            refine (HI.out (by simp) _).mono ?_
            rintro e w3 ⟨rfl, hM⟩
            have HM3 : Hd _ := ⟨HM.out.trans hM (fun _ h => Or.inl h)⟩
            clear hM
            go_wp2
            exact bodyPost_ret (v := .tuple #[.int .i64 ((m : Int) + 1), .bool true]) (by simp [results, Tryd.f8, go_sem]) rfl ⟨by rw [HR.out]; rfl, HM3.out⟩

theorem rPlain_calls (s : ByteArray) (hs : s.size ≤ 1048576) (w : World) : Calls Tryd.prog 8 #[.string s] w fun e w' => e = .returned (.tuple #[.int .i64 ((plainR (lst s)).1 : Int), .bool (plainR (lst s)).2]) ∧ Mod (fun _ => False) w w' := by
  have : ∀ (n : Nat) (s : ByteArray), s.size < n → s.size ≤ 1048576 → ∀ (w : World), Calls Tryd.prog 8 #[.string s] w fun e w' => e = .returned (.tuple #[.int .i64 ((plainR (lst s)).1 : Int), .bool (plainR (lst s)).2]) ∧ Mod (fun _ => False) w w' := by
    intro n
    induction n with
    | zero => intro s h; omega
    | succ n ih => intro s h hs w; exact rPlain_step s hs (fun u hu w => ih u (by omega) (by omega) w) w
  exact this (s.size + 1) s (by omega) hs w
end Go.Proofs.YtfdbmpcfphlmoaaDoor
