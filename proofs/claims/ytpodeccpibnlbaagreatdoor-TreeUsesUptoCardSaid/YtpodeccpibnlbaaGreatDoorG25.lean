/- Front and Equal at places whose texts are of any size; the plain law of TreeFronts. Regions of a function, by their numbers. -/
import Derived.Test.YtpodeccpibnlbaaGreatDoorG19
import Derived.BigRegion
import Derived.Deep.RegionHeld3
namespace Go.Proofs.YtpodeccpibnlbaaGreatDoor
set_option linter.unusedVariables false
set_option linter.unusedSimpArgs false
open Go.RowKit

def tU (v : Value) (s : ByteArray) : Prop := v = .string s
def plU (S : Nat → Prop) (w : World) (v : Value) (p : Pl) : Prop := ∃ oa len cap, v = .agg #[.string p.loc, .slice oa len cap] ∧ SR S w 1 tU oa len cap p.steps
theorem plU.mod {S : Nat → Prop} {w w' : World} {v : Value} {p : Pl} (h : plU S w v p) (hm : Mod (fun _ => False) w w') : plU S w' v p := by
  obtain ⟨oa, len, cap, e, h2⟩ := h
  exact ⟨oa, len, cap, e, h2.keep (hm.kp S) (fun _ _ h => h)⟩
section
variable {S : Nat → Prop} {w0 : World}
theorem SR.strU {l : List ByteArray} {oa : Option Addr} {len cap : Nat} (h : SR S w0 1 tU oa len cap l) {i : Nat} {x : ByteArray} (hi : l[i]? = some x) : ∃ b o, oa = some ⟨b, o, none⟩ ∧ w0.cell? ⟨b, o + i, none⟩ = some (.string x) := by
  obtain ⟨b, o, v, h1, h2, h3, h4, h5⟩ := h.at' i x hi
  have e : v = .string x := h5
  subst e
  have h6 := h4 0 _ rfl
  simp only [Nat.mul_one, Nat.add_zero] at h6
  exact ⟨b, o, h1, h6⟩
theorem SR.strsU {b o : Nat} {oa : Option Addr} {len cap : Nat} {l : List ByteArray} (h : SR S w0 1 tU oa len cap l) (hoa : oa = some ⟨b, o, none⟩) : ∀ j, j < l.length → w0.cell? ⟨b, o + j, none⟩ = some (.string (l.getD j ByteArray.empty)) := fun j hj => by
  obtain ⟨b', o', h1, h4⟩ := h.strU (List.getElem?_eq_getElem hj)
  rw [hoa] at h1
  simp only [Option.some.injEq, Addr.mk.injEq] at h1
  obtain ⟨rfl, rfl, _⟩ := h1
  rw [h4]
  simp [List.getD, hj]
/-- slices.Equal on texts only reads. -/
theorem eqq_strU {oa ob : Option Addr} {la ca lb cb : Nat} {l m : List ByteArray} (h : SR S w0 1 tU oa la ca l) (h2 : SR S w0 1 tU ob lb cb m) : Calls Tryz.prog 40 #[.slice oa la ca, .slice ob lb cb] w0 fun e w' => e = .returned (.bool (allZ eqB l m)) ∧ ∃ q, w' = w0.drewN q := by
  have e1 := h.hlen
  have e2 := h2.hlen
  have b1 := h.hbig
  have b2 := h2.hbig
  subst e1
  subst e2
  by_cases hlm : l.length = m.length
  · cases l with
    | nil =>
      refine (Tryz.slices_Equal_string_empty oa ob ca m.length cb w0 (by omega)).mono ?_
      rintro e w' ⟨rfl, rfl⟩
      have : m = [] := List.eq_nil_of_length_eq_zero hlm.symm
      subst this
      exact ⟨rfl, 0, rfl⟩
    | cons x r =>
      obtain ⟨ab, ao, h1, _⟩ := h.strU (i := 0) rfl
      obtain ⟨bb, bo, k1, _⟩ := h2.strU (i := 0) (List.getElem?_eq_getElem (by rw [← hlm]; simp))
      have c1 := h.strsU h1
      have c2 := h2.strsU k1
      subst h1
      subst k1
      refine (Tryz.slices_Equal_string ab ao (x :: r).length ca bb bo m.length cb (x :: r) m w0 (Nat.le_refl _) (Nat.le_refl _) (by omega) (by omega) c1 c2).mono ?_
      rintro e w' ⟨rfl, q, rfl⟩
      refine ⟨?_, q, rfl⟩
      rw [List.take_length, List.take_length, allZ_eqB]
  · refine (Tryz.slices_Equal_string_lens oa ob l.length ca m.length cb w0 hlm).mono ?_
    rintro e w' ⟨rfl, rfl⟩
    exact ⟨by rw [allZ_len _ _ _ hlm], 0, rfl⟩
set_option maxRecDepth 100000 in
set_option maxHeartbeats 4000000 in
theorem Front_u {v v2 : Value} {s t : Pl} (hv : plU S w0 v s) (hv2 : plU S w0 v2 t) : Ans 16 #[v, v2] w0 (.bool (frontP s t)) := by
  intro w hw
  obtain ⟨oa, la, ca, rfl, k1⟩ := hv
  obtain ⟨oa2, la2, ca2, rfl, k12⟩ := hv2
  have hl1 := k1.hlen
  have hl2 := k12.hlen
  have hb1 := k1.hbig
  have hb2 := k12.hbig
  subst hl1
  subst hl2
  obtain ⟨r, hr⟩ : ∃ r, frontP s t = r := ⟨_, rfl⟩
  have HR : Hd _ := ⟨hr⟩
  rw [hr]
  clear hr
  cases hq : (s.loc.toList == t.loc.toList) with
  | false =>
    have HF : Hd (r = false) := ⟨by rw [← HR.out]; simp [frontP, show eqB s.loc t.loc = false from hq]⟩
    clear k1 k12 hw
    go_enter Tryz.func16, Tryz.ntmps16
    go_wp2_with fail
    go_quiet (fail)
    go_wp2
    go_ret
    exact ⟨by rw [HF.out]; rfl, (((Mod.alloc _ _ _).trans (Mod.alloc _ _ _) (fun _ h => Or.inl h)).trans (Mod.drewN _ _ _) (fun _ h => Or.inl h))⟩
  | true =>
    by_cases hle : s.steps.length ≤ t.steps.length
    · obtain ⟨i0, hi, _, _, _⟩ := info_parts info_9
      have hsl : ∀ w, (Instr.slice 22 (.slice oa2 t.steps.length ca2) none (some (.int .i64 (s.steps.length : Int))) none).run Tryz.prog w = .ok (.slice oa2 s.steps.length ca2) w := fun w => by
        cases oa2 with
        | some a => exact run_slice_hi 22 9 i0 Tryz.underlying22 hi a _ _ _ hle k12.hle w
        | none =>
          have e2 : t.steps = [] := k12.nil_of rfl
          have e1 : s.steps.length = 0 := by rw [e2] at hle; simpa using hle
          rw [e1, e2]
          exact run_slice_hi_nil 22 9 i0 Tryz.underlying22 hi ca2 w
      have HE : Hd (∀ w', Mod (fun _ => False) w w' → _) := ⟨fun w' h' => eqq_strU (k1.keep ((hw.trans h' (fun _ h => Or.inl h)).kp S) (fun _ _ h => h)) ((k12.take hle).keep ((hw.trans h' (fun _ h => Or.inl h)).kp S) (fun _ _ h => h))⟩
      have HF : Hd (r = allZ eqB s.steps (t.steps.take s.steps.length)) := ⟨by rw [← HR.out]; simp [frontP, show eqB s.loc t.loc = true from hq, hle]⟩
      clear k1 k12 hw hi
      obtain ⟨q, hq'⟩ : ∃ q, allZ eqB s.steps (t.steps.take s.steps.length) = q := ⟨_, rfl⟩
      rw [hq'] at HE HF
      clear hq'
      go_enter Tryz.func16, Tryz.ntmps16
      go_wp2_with fail
      go_quiet (first | (go_at_call 40; refine Calls.quiet_of (HE.out _ ?_); exact ((Mod.alloc _ _ _).trans (Mod.alloc _ _ _) (fun _ h => Or.inl h)).trans (Mod.drewN _ _ _) (fun _ h => Or.inl h)))
      go_wp2
      go_ret
      exact ⟨by rw [HF.out]; rfl, (((Mod.alloc _ _ _).trans (Mod.alloc _ _ _) (fun _ h => Or.inl h)).trans (Mod.drewN _ _ _) (fun _ h => Or.inl h))⟩
    · have HF : Hd (r = false) := ⟨by rw [← HR.out]; simp [frontP, hle]⟩
      clear k1 k12 hw
      have hle' : ¬ ((s.steps.length : Int) ≤ (t.steps.length : Int)) := by omega
      go_enter Tryz.func16, Tryz.ntmps16
      go_wp2_with fail
      go_quiet (fail)
      go_wp2
      go_ret
      exact ⟨by rw [HF.out]; rfl, (((Mod.alloc _ _ _).trans (Mod.alloc _ _ _) (fun _ h => Or.inl h)).trans (Mod.drewN _ _ _) (fun _ h => Or.inl h))⟩

set_option maxRecDepth 100000 in
set_option maxHeartbeats 2000000 in
theorem Equal_u {v v2 : Value} {s t : Pl} (hv : plU S w0 v s) (hv2 : plU S w0 v2 t) : Ans 15 #[v, v2] w0 (.bool (equalP s t)) := by
  intro w hw
  obtain ⟨oa, la, ca, rfl, k1⟩ := hv
  obtain ⟨oa2, la2, ca2, rfl, k12⟩ := hv2
  have HE : Hd (∀ w', Mod (fun _ => False) w w' → _) := ⟨fun w' h' => eqq_strU (k1.keep ((hw.trans h' (fun _ h => Or.inl h)).kp S) (fun _ _ h => h)) (k12.keep ((hw.trans h' (fun _ h => Or.inl h)).kp S) (fun _ _ h => h))⟩
  obtain ⟨r, hr⟩ : ∃ r, equalP s t = r := ⟨_, rfl⟩
  have HR : Hd _ := ⟨hr⟩
  rw [hr]
  clear hr k1 k12 hw
  obtain ⟨q, hq'⟩ : ∃ q, allZ eqB s.steps t.steps = q := ⟨_, rfl⟩
  rw [hq'] at HE
  have HQ : Hd _ := ⟨hq'⟩
  clear hq'
  cases hq : (s.loc.toList == t.loc.toList) with
  | false =>
    have HF : Hd (r = false) := ⟨by rw [← HR.out]; simp [equalP, show eqB s.loc t.loc = false from hq]⟩
    go_enter Tryz.func15, Tryz.ntmps15
    go_wp2
    go_ret
    exact ⟨by rw [HF.out]; rfl, (Mod.alloc _ _ _).trans (Mod.alloc _ _ _) (fun _ h => Or.inl h)⟩
  | true =>
    have HF : Hd (r = q) := ⟨by rw [← HR.out]; simp [equalP, show eqB s.loc t.loc = true from hq, HQ.out]⟩
    go_enter Tryz.func15, Tryz.ntmps15
    go_wp2_with fail
    refine (HE.out _ ((Mod.alloc _ _ _).trans (Mod.alloc _ _ _) (fun _ h => Or.inl h))).mono ?_
    rintro e w1 ⟨rfl, n, rfl⟩
    go_wp2
    go_ret
    exact ⟨by rw [HF.out]; rfl, ((Mod.alloc _ _ _).trans (Mod.alloc _ _ _) (fun _ h => Or.inl h)).trans (Mod.drewN _ _ _) (fun _ h => Or.inl h)⟩

theorem allZ_refl (l : List ByteArray) : allZ eqB l l = true := by rw [allZ_eqB]; simp
theorem frontP_iff (s t : Pl) : frontP s t = true ↔ s.loc = t.loc ∧ s.steps <+: t.steps := by
  unfold frontP
  rw [allZ_eqB, Bool.and_eq_true, Bool.and_eq_true, eqB_iff, decide_eq_true_iff, decide_eq_true_iff]
  constructor
  · rintro ⟨⟨h1, h2⟩, h3⟩
    exact ⟨h1, by rw [h3]; exact List.take_prefix _ _⟩
  · rintro ⟨h1, h2⟩
    refine ⟨⟨h1, h2.length_le⟩, ?_⟩
    obtain ⟨q, hq⟩ := h2
    rw [← hq, List.take_left']
    rfl
theorem equalP_iff (s t : Pl) : equalP s t = true ↔ s.loc = t.loc ∧ s.steps = t.steps := by
  unfold equalP
  rw [allZ_eqB, Bool.and_eq_true, eqB_iff, decide_eq_true_iff]
theorem law_1 (p : Pl) (i : Nat) : frontP ⟨p.loc, p.steps.take i⟩ p = true := (frontP_iff _ _).2 ⟨rfl, List.take_prefix _ _⟩
theorem law_3 (p : Pl) : frontP p p = true := (frontP_iff _ _).2 ⟨rfl, List.prefix_refl _⟩
theorem law_4 (p : Pl) (i k : Nat) (h : frontP ⟨p.loc, p.steps.take i⟩ ⟨p.loc, p.steps.take k⟩ = false) : frontP ⟨p.loc, p.steps.take k⟩ ⟨p.loc, p.steps.take i⟩ = true := by
  rw [frontP_iff]
  refine ⟨rfl, ?_⟩
  by_cases hik : i ≤ k
  · exfalso
    have : frontP ⟨p.loc, p.steps.take i⟩ ⟨p.loc, p.steps.take k⟩ = true := (frontP_iff _ _).2 ⟨rfl, List.take_prefix_take_left hik⟩
    rw [h] at this
    cases this
  · exact List.take_prefix_take_left (by omega)
theorem law_5 (p o : Pl) (i : Nat) (h : frontP p o = true) : frontP ⟨p.loc, p.steps.take i⟩ o = true := by
  rw [frontP_iff] at h ⊢
  exact ⟨h.1, (List.take_prefix _ _).trans h.2⟩
theorem law_6 (p o : Pl) : (frontP p o && frontP o p) = equalP p o := by
  rw [Bool.eq_iff_iff, Bool.and_eq_true, frontP_iff, frontP_iff, equalP_iff]
  constructor
  · rintro ⟨⟨h1, h2⟩, _, h3⟩
    exact ⟨h1, h2.eq_of_length (Nat.le_antisymm h2.length_le h3.length_le)⟩
  · rintro ⟨h1, h2⟩
    exact ⟨⟨h1, by rw [h2]; exact List.prefix_refl _⟩, h1.symm, by rw [h2]; exact List.prefix_refl _⟩
end
end Go.Proofs.YtpodeccpibnlbaaGreatDoor
namespace Go.Proofs.YtpodeccpibnlbaaGreatDoor
set_option linter.unusedVariables false
set_option linter.unusedSimpArgs false
open Go.RowKit
/-- A region of a function's text, by its number. -/
def regAt (n : Nat) : Code → Option Code
  | .region k o b => if k == n then some (.region k o b) else none
  | .seq a b => match regAt n a with
    | some c => some c
    | none => regAt n b
  | .block _ c => regAt n c
  | .scope c => regAt n c
  | .loop c => regAt n c
  | .cond _ a b => match regAt n a with
    | some c => some c
    | none => regAt n b
  | _ => none
theorem Calls.at' {N : Nat} {args args' : Array Value} {w : World} {Q : Ending → World → Prop} (h : Calls Tryz.prog N args' w Q) (he : args' = args) : Calls Tryz.prog N args w Q := he ▸ h
end Go.Proofs.YtpodeccpibnlbaaGreatDoor
