/- Front, walked. -/
import Derived.Test.YtpodeccpibnlbaaGreatDoorG17
import Derived.Test.YtpodeccpibnlbaaGreatDoorG10
import Derived.Deep.QuietTactic
import Derived.BigQuiet
namespace Go.Proofs.YtpodeccpibnlbaaGreatDoor
set_option linter.unusedVariables false
set_option linter.unusedSimpArgs false
open Go.RowKit

theorem SR.take {α : Type} {S : Nat → Prop} {w : World} {n : Nat} {V : Value → α → Prop} {oa : Option Addr} {len cap : Nat} {l : List α} (h : SR S w n V oa len cap l) {k : Nat} (hk : k ≤ l.length) : SR S w n V oa k cap (l.take k) :=
  ⟨by simp; omega, by have := h.hbig; simp; omega, by have := h.hle; have := h.hlen; omega, h.hmax, fun i x hi => by
    rw [List.getElem?_take] at hi
    split at hi
    · exact h.at' i x hi
    · cases hi⟩
theorem run_slice_hi {P : Program} (t e : TypeId) (i : TypeInfo) (ht : P.underlying t = some (.slice e)) (hi : P.info? e = some i) (a : Addr) (n c k : Nat) (hk : k ≤ n) (hn : n ≤ c) (w : World) :
    (Instr.slice t (.slice (some a) n c) none (some (.int .i64 (k : Int))) none).run P w = .ok (.slice (some a) k c) w := by
  have h1 : k ≤ c := by omega
  by_cases hc : c = 0
  · subst hc
    have hk0 : k = 0 := by omega
    subst hk0
    simp [Instr.slice, run_underlying ht, Instr.sliceBounds, Instr.sliceBound, asIntOf, Result.andThen, sizeOf, typeInfo, hi]
  · simp [Instr.slice, run_underlying ht, Instr.sliceBounds, Instr.sliceBound, asIntOf, Result.andThen, sizeOf, typeInfo, hi, h1, hc, Addr.add]
theorem run_slice_hi_nil {P : Program} (t e : TypeId) (i : TypeInfo) (ht : P.underlying t = some (.slice e)) (hi : P.info? e = some i) (c : Nat) (w : World) :
    (Instr.slice t (.slice none 0 c) none (some (.int .i64 0)) none).run P w = .ok (.slice none 0 c) w := by
  simp [Instr.slice, run_underlying ht, Instr.sliceBounds, Instr.sliceBound, asIntOf, Result.andThen, sizeOf, typeInfo, hi]
theorem Mod.drewN (S : Nat → Prop) (w : World) (n : Nat) : Mod S w (w.drewN n) := ⟨rfl, rfl, rfl, Nat.le_refl _, fun _ _ _ => rfl⟩
theorem allZ_eqB : ∀ l m : List ByteArray, allZ eqB l m = decide (l = m)
  | [], [] => by simp [allZ]
  | [], _ :: _ => by simp [allZ]
  | _ :: _, [] => by simp [allZ]
  | x :: r, y :: s => by
    rw [allZ, allZ_eqB r s]
    by_cases h : x = y
    · subst h; simp [eqB_self]
    · have : eqB x y = false := by cases hq : eqB x y with | false => rfl | true => exact absurd ((eqB_iff x y).1 hq) h
      simp [this, h]
section
variable {S : Nat → Prop} {w0 : World}
theorem SR.strs {b o : Nat} {oa : Option Addr} {len cap : Nat} {l : List ByteArray} (h : Strs S w0 oa len cap l) (hoa : oa = some ⟨b, o, none⟩) : ∀ j, j < l.length → w0.cell? ⟨b, o + j, none⟩ = some (.string (l.getD j ByteArray.empty)) := fun j hj => by
  obtain ⟨b', o', h1, _, _, h4, _⟩ := h.str (List.getElem?_eq_getElem hj)
  rw [hoa] at h1
  simp only [Option.some.injEq, Addr.mk.injEq] at h1
  obtain ⟨rfl, rfl, _⟩ := h1
  rw [h4]
  simp [List.getD, hj]
/-- slices.Equal on texts only reads. -/
theorem eqq_str {oa ob : Option Addr} {la ca lb cb : Nat} {l m : List ByteArray} (h : Strs S w0 oa la ca l) (h2 : Strs S w0 ob lb cb m) : Calls Tryz.prog 40 #[.slice oa la ca, .slice ob lb cb] w0 fun e w' => e = .returned (.bool (allZ eqB l m)) ∧ ∃ q, w' = w0.drewN q := by
  have e1 := h.hlen
  have e2 := h2.hlen
  have b1 := h.hbig
  have b2 := h2.hbig
  subst e1
  subst e2
  by_cases hlm : l.length = m.length
  · cases l with
    | nil =>
      refine (Tryz.slices_Equal_string_empty oa ob ca m.length cb w0 (by omega)).mono ?_
      rintro e w' ⟨rfl, rfl⟩
      have : m = [] := List.eq_nil_of_length_eq_zero hlm.symm
      subst this
      exact ⟨rfl, 0, rfl⟩
    | cons x r =>
      obtain ⟨ab, ao, h1, _⟩ := h.str (i := 0) rfl
      obtain ⟨bb, bo, k1, _⟩ := h2.str (i := 0) (List.getElem?_eq_getElem (by rw [← hlm]; simp))
      have c1 := h.strs h1
      have c2 := h2.strs k1
      subst h1
      subst k1
      refine (Tryz.slices_Equal_string ab ao (x :: r).length ca bb bo m.length cb (x :: r) m w0 (Nat.le_refl _) (Nat.le_refl _) (by omega) (by omega) c1 c2).mono ?_
      rintro e w' ⟨rfl, q, rfl⟩
      refine ⟨?_, q, rfl⟩
      rw [List.take_length, List.take_length, allZ_eqB]
  · refine (Tryz.slices_Equal_string_lens oa ob l.length ca m.length cb w0 hlm).mono ?_
    rintro e w' ⟨rfl, rfl⟩
    exact ⟨by rw [allZ_len _ _ _ hlm], 0, rfl⟩
set_option maxRecDepth 100000 in
set_option maxHeartbeats 4000000 in
theorem Front_ans {v v2 : Value} {s t : Pl} (hv : plV S w0 v s) (hv2 : plV S w0 v2 t) : Ans 16 #[v, v2] w0 (.bool (frontP s t)) := by
  intro w hw
  obtain ⟨h1, oa, la, ca, rfl, k1⟩ := hv
  obtain ⟨h12, oa2, la2, ca2, rfl, k12⟩ := hv2
  have hl1 := k1.hlen
  have hl2 := k12.hlen
  have hb1 := k1.hbig
  have hb2 := k12.hbig
  subst hl1
  subst hl2
  obtain ⟨r, hr⟩ : ∃ r, frontP s t = r := ⟨_, rfl⟩
  have HR : Hd _ := ⟨hr⟩
  rw [hr]
  clear hr
  cases hq : (s.loc.toList == t.loc.toList) with
  | false =>
    have HF : Hd (r = false) := ⟨by rw [← HR.out]; simp [frontP, show eqB s.loc t.loc = false from hq]⟩
    clear k1 k12 h1 h12 hw
    go_enter Tryz.func16, Tryz.ntmps16
    go_wp2_with fail
    go_quiet (fail)
    go_wp2
    go_ret
    exact ⟨by rw [HF.out]; rfl, (((Mod.alloc _ _ _).trans (Mod.alloc _ _ _) (fun _ h => Or.inl h)).trans (Mod.drewN _ _ _) (fun _ h => Or.inl h))⟩
  | true =>
    by_cases hle : s.steps.length ≤ t.steps.length
    · obtain ⟨i0, hi, _, _, _⟩ := info_parts info_9
      have hsl : ∀ w, (Instr.slice 22 (.slice oa2 t.steps.length ca2) none (some (.int .i64 (s.steps.length : Int))) none).run Tryz.prog w = .ok (.slice oa2 s.steps.length ca2) w := fun w => by
        cases oa2 with
        | some a => exact run_slice_hi 22 9 i0 Tryz.underlying22 hi a _ _ _ hle k12.hle w
        | none =>
          have e2 : t.steps = [] := k12.nil_of rfl
          have e1 : s.steps.length = 0 := by rw [e2] at hle; simpa using hle
          rw [e1, e2]
          exact run_slice_hi_nil 22 9 i0 Tryz.underlying22 hi ca2 w
      have HE : Hd (∀ w', Mod (fun _ => False) w w' → _) := ⟨fun w' h' => eqq_str (k1.keep ((hw.trans h' (fun _ h => Or.inl h)).kp S) (fun _ _ h => h)) ((k12.take hle).keep ((hw.trans h' (fun _ h => Or.inl h)).kp S) (fun _ _ h => h))⟩
      have HF : Hd (r = allZ eqB s.steps (t.steps.take s.steps.length)) := ⟨by rw [← HR.out]; simp [frontP, show eqB s.loc t.loc = true from hq, hle]⟩
      clear k1 k12 h1 h12 hw hi
      obtain ⟨q, hq'⟩ : ∃ q, allZ eqB s.steps (t.steps.take s.steps.length) = q := ⟨_, rfl⟩
      rw [hq'] at HE HF
      clear hq'
      go_enter Tryz.func16, Tryz.ntmps16
      go_wp2_with fail
      go_quiet (first | (go_at_call 40; refine Calls.quiet_of (HE.out _ ?_); exact ((Mod.alloc _ _ _).trans (Mod.alloc _ _ _) (fun _ h => Or.inl h)).trans (Mod.drewN _ _ _) (fun _ h => Or.inl h)))
      go_wp2
      go_ret
      exact ⟨by rw [HF.out]; rfl, (((Mod.alloc _ _ _).trans (Mod.alloc _ _ _) (fun _ h => Or.inl h)).trans (Mod.drewN _ _ _) (fun _ h => Or.inl h))⟩
    · have HF : Hd (r = false) := ⟨by rw [← HR.out]; simp [frontP, hle]⟩
      clear k1 k12 h1 h12 hw
      have hle' : ¬ ((s.steps.length : Int) ≤ (t.steps.length : Int)) := by omega
      go_enter Tryz.func16, Tryz.ntmps16
      go_wp2_with fail
      go_quiet (fail)
      go_wp2
      go_ret
      exact ⟨by rw [HF.out]; rfl, (((Mod.alloc _ _ _).trans (Mod.alloc _ _ _) (fun _ h => Or.inl h)).trans (Mod.drewN _ _ _) (fun _ h => Or.inl h))⟩
end
end Go.Proofs.YtpodeccpibnlbaaGreatDoor
