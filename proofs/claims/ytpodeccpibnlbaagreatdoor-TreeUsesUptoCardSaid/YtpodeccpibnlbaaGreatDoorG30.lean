/- The reference's SameTexts, Equal and Front, walked: they answer as tree's. The reference's Place, walked: it answers as tree's. The reference's Text, walked: it answers as tree's. -/
import Derived.Test.YtpodeccpibnlbaaGreatDoorG25
import Derived.Test.YtpodeccpibnlbaaGreatDoorG07
import Derived.Test.YtpodeccpibnlbaaGreatDoorG04
import Derived.Test.YtpodeccpibnlbaaGreatDoorG03
import Derived.Test.YtpodeccpibnlbaaGreatDoorG17
namespace Go.Proofs.YtpodeccpibnlbaaGreatDoor
set_option linter.unusedVariables false
set_option linter.unusedSimpArgs false
open Go.RowKit
section
variable {S : Nat → Prop} {w0 : World}

set_option maxRecDepth 100000 in
set_option maxHeartbeats 4000000 in
/-- The reference's SameTexts only reads. -/
theorem same_q {oa ob : Option Addr} {la ca lb cb : Nat} {l m : List ByteArray} (h : SR S w0 1 tU oa la ca l) (h2 : SR S w0 1 tU ob lb cb m) : Calls Tryz.prog 38 #[.slice oa la ca, .slice ob lb cb] w0 fun e w' => e = .returned (.bool (allZ eqB l m)) ∧ ∃ q, w' = w0.drewN q := by
  have HS : Hd _ := ⟨h⟩
  have HS2 : Hd _ := ⟨h2⟩
  have hbig := h.hbig
  have hbig2 := h2.hbig
  have hlen := h.hlen
  have hlen2 := h2.hlen
  subst hlen
  subst hlen2
  clear h h2
  obtain ⟨r, hr⟩ : ∃ r, allZ eqB l m = r := ⟨_, rfl⟩
  have HR : Hd _ := ⟨hr⟩
  rw [hr]
  clear hr
  by_cases hlm : l.length = m.length
  · have HL : Hd _ := ⟨hlm⟩
    rw [← hlm]
    rw [← hlm] at hbig2
    clear hlm
    go_enter Tryz.func38, Tryz.ntmps38
    go_wp2_with fail
    go_loopg [5] l.length (fun gk v5 wr => (∃ q, wr = w0.drewN q) ∧ ∃ k : Nat, v5 = .int .i64 k ∧ k + gk = l.length ∧ Hd (allZ eqB (l.drop k) (m.drop k) = r))
    case atStart => exact ⟨⟨0, rfl⟩, 0, rfl, by omega, ⟨by rw [← HR.out]; rfl⟩⟩
    case round =>
      obtain ⟨⟨q, rfl⟩, k, rfl, hk, HI⟩ := hrel
      by_cases hlt : k < l.length
      · have hx0 : l[k]? = some l[k] := List.getElem?_eq_getElem (by omega)
        have hy0 : m[k]? = some (m[k]'(by have := HL.out; omega)) := List.getElem?_eq_getElem (by have := HL.out; omega)
        obtain ⟨x, hx⟩ : ∃ x, l[k]? = some x := ⟨_, hx0⟩
        obtain ⟨y, hy⟩ : ∃ y, m[k]? = some y := ⟨_, hy0⟩
        obtain ⟨b, o, rfl, e0⟩ := HS.out.strU hx
        obtain ⟨b2, o2, rfl, g0⟩ := HS2.out.strU hy
        have HX : Hd _ := ⟨hx⟩
        have HY : Hd _ := ⟨hy⟩
        clear hx0 hy0 hx hy
        cases q0 : (x.toList == y.toList) with
        | false =>
          have HE : Hd (allZ eqB (l.drop k) (m.drop k) = false) := ⟨allZ_miss HX.out HY.out (by simp only [eqB, q0])⟩
          go_wp2_with fail
          go_region
          go_wp2
          go_ret
          exact ⟨by rw [← HI.out, HE.out]; rfl, q + 1, rfl⟩
        | true =>
          have HI2 : Hd (allZ eqB (l.drop (k + 1)) (m.drop (k + 1)) = r) := ⟨by rw [← HI.out, allZ_hit HX.out HY.out (by simp only [eqB, q0])]⟩
          go_wp2_with fail
          go_region
          go_wp2_with fail
          go_roundg (gk - 1)
          case measure => omega
          case rel => exact ⟨⟨q + 1, rfl⟩, k + 1, by go_num, by omega, HI2⟩
      · have HI2 : Hd (r = true) := ⟨by rw [← HI.out]; exact allZ_end (by omega) (by have := HL.out; omega)⟩
        go_wp2
        go_ret
        exact ⟨by rw [HI2.out]; rfl, q, rfl⟩
  · have HR2 : Hd (r = false) := ⟨by rw [← HR.out]; exact allZ_len eqB l m hlm⟩
    have hlm' : ¬ (l.length : Int) = (m.length : Int) := by omega
    go_enter Tryz.func38, Tryz.ntmps38
    go_wp2
    go_ret
    exact ⟨by rw [HR2.out]; rfl, 0, rfl⟩
set_option maxRecDepth 100000 in
set_option maxHeartbeats 4000000 in
theorem rFront_u {v v2 : Value} {s t : Pl} (hv : plU S w0 v s) (hv2 : plU S w0 v2 t) : Ans 17 #[v, v2] w0 (.bool (frontP s t)) := by
  intro w hw
  obtain ⟨oa, la, ca, rfl, k1⟩ := hv
  obtain ⟨oa2, la2, ca2, rfl, k12⟩ := hv2
  have hl1 := k1.hlen
  have hl2 := k12.hlen
  have hb1 := k1.hbig
  have hb2 := k12.hbig
  subst hl1
  subst hl2
  obtain ⟨r, hr⟩ : ∃ r, frontP s t = r := ⟨_, rfl⟩
  have HR : Hd _ := ⟨hr⟩
  rw [hr]
  clear hr
  cases hq : (s.loc.toList == t.loc.toList) with
  | false =>
    have HF : Hd (r = false) := ⟨by rw [← HR.out]; simp [frontP, show eqB s.loc t.loc = false from hq]⟩
    clear k1 k12 hw
    go_enter Tryz.func17, Tryz.ntmps17
    go_wp2_with fail
    go_quiet (fail)
    go_wp2
    go_ret
    exact ⟨by rw [HF.out]; rfl, (((Mod.alloc _ _ _).trans (Mod.alloc _ _ _) (fun _ h => Or.inl h)).trans (Mod.drewN _ _ _) (fun _ h => Or.inl h))⟩
  | true =>
    by_cases hle : s.steps.length ≤ t.steps.length
    · obtain ⟨i0, hi, _, _, _⟩ := info_parts info_9
      have hsl : ∀ w, (Instr.slice 22 (.slice oa2 t.steps.length ca2) none (some (.int .i64 (s.steps.length : Int))) none).run Tryz.prog w = .ok (.slice oa2 s.steps.length ca2) w := fun w => by
        cases oa2 with
        | some a => exact run_slice_hi 22 9 i0 Tryz.underlying22 hi a _ _ _ hle k12.hle w
        | none =>
          have e2 : t.steps = [] := k12.nil_of rfl
          have e1 : s.steps.length = 0 := by rw [e2] at hle; simpa using hle
          rw [e1, e2]
          exact run_slice_hi_nil 22 9 i0 Tryz.underlying22 hi ca2 w
      have HE : Hd (∀ w', Mod (fun _ => False) w w' → _) := ⟨fun w' h' => same_q (k1.keep ((hw.trans h' (fun _ h => Or.inl h)).kp S) (fun _ _ h => h)) ((k12.take hle).keep ((hw.trans h' (fun _ h => Or.inl h)).kp S) (fun _ _ h => h))⟩
      have HF : Hd (r = allZ eqB s.steps (t.steps.take s.steps.length)) := ⟨by rw [← HR.out]; simp [frontP, show eqB s.loc t.loc = true from hq, hle]⟩
      clear k1 k12 hw hi
      obtain ⟨q, hq'⟩ : ∃ q, allZ eqB s.steps (t.steps.take s.steps.length) = q := ⟨_, rfl⟩
      rw [hq'] at HE HF
      clear hq'
      go_enter Tryz.func17, Tryz.ntmps17
      go_wp2_with fail
      go_quiet (first | (go_at_call 38; refine Calls.quiet_of (HE.out _ ?_); exact ((Mod.alloc _ _ _).trans (Mod.alloc _ _ _) (fun _ h => Or.inl h)).trans (Mod.drewN _ _ _) (fun _ h => Or.inl h)))
      go_wp2
      go_ret
      exact ⟨by rw [HF.out]; rfl, (((Mod.alloc _ _ _).trans (Mod.alloc _ _ _) (fun _ h => Or.inl h)).trans (Mod.drewN _ _ _) (fun _ h => Or.inl h))⟩
    · have HF : Hd (r = false) := ⟨by rw [← HR.out]; simp [frontP, hle]⟩
      clear k1 k12 hw
      have hle' : ¬ ((s.steps.length : Int) ≤ (t.steps.length : Int)) := by omega
      go_enter Tryz.func17, Tryz.ntmps17
      go_wp2_with fail
      go_quiet (fail)
      go_wp2
      go_ret
      exact ⟨by rw [HF.out]; rfl, (((Mod.alloc _ _ _).trans (Mod.alloc _ _ _) (fun _ h => Or.inl h)).trans (Mod.drewN _ _ _) (fun _ h => Or.inl h))⟩

set_option maxRecDepth 100000 in
set_option maxHeartbeats 2000000 in
theorem rEqual_u {v v2 : Value} {s t : Pl} (hv : plU S w0 v s) (hv2 : plU S w0 v2 t) : Ans 12 #[v, v2] w0 (.bool (equalP s t)) := by
  intro w hw
  obtain ⟨oa, la, ca, rfl, k1⟩ := hv
  obtain ⟨oa2, la2, ca2, rfl, k12⟩ := hv2
  have HE : Hd (∀ w', Mod (fun _ => False) w w' → _) := ⟨fun w' h' => same_q (k1.keep ((hw.trans h' (fun _ h => Or.inl h)).kp S) (fun _ _ h => h)) (k12.keep ((hw.trans h' (fun _ h => Or.inl h)).kp S) (fun _ _ h => h))⟩
  obtain ⟨r, hr⟩ : ∃ r, equalP s t = r := ⟨_, rfl⟩
  have HR : Hd _ := ⟨hr⟩
  rw [hr]
  clear hr k1 k12 hw
  obtain ⟨q, hq'⟩ : ∃ q, allZ eqB s.steps t.steps = q := ⟨_, rfl⟩
  rw [hq'] at HE
  have HQ : Hd _ := ⟨hq'⟩
  clear hq'
  cases hq : (s.loc.toList == t.loc.toList) with
  | false =>
    have HF : Hd (r = false) := ⟨by rw [← HR.out]; simp [equalP, show eqB s.loc t.loc = false from hq]⟩
    go_enter Tryz.func12, Tryz.ntmps12
    go_wp2
    go_ret
    exact ⟨by rw [HF.out]; rfl, (Mod.alloc _ _ _).trans (Mod.alloc _ _ _) (fun _ h => Or.inl h)⟩
  | true =>
    have HF : Hd (r = q) := ⟨by rw [← HR.out]; simp [equalP, show eqB s.loc t.loc = true from hq, HQ.out]⟩
    go_enter Tryz.func12, Tryz.ntmps12
    go_wp2_with fail
    refine (HE.out _ ((Mod.alloc _ _ _).trans (Mod.alloc _ _ _) (fun _ h => Or.inl h))).mono ?_
    rintro e w1 ⟨rfl, n, rfl⟩
    go_wp2
    go_ret
    exact ⟨by rw [HF.out]; rfl, ((Mod.alloc _ _ _).trans (Mod.alloc _ _ _) (fun _ h => Or.inl h)).trans (Mod.drewN _ _ _) (fun _ h => Or.inl h)⟩

end
end Go.Proofs.YtpodeccpibnlbaaGreatDoor
namespace Go.Proofs.YtpodeccpibnlbaaGreatDoor
set_option linter.unusedVariables false
set_option linter.unusedSimpArgs false
open Go.RowKit
section
variable {S : Nat → Prop} {w0 : World}
theorem rname_ans {s : ByteArray} (h : Sm s) : Ans 41 #[.string s] w0 (.bool (isName (lst s))) := fun w hw => rName_calls s h w
set_option maxRecDepth 100000 in
set_option maxHeartbeats 4000000 in
theorem rPlace_ans {v : Value} {p : Pl} (hv : plV S w0 v p) : Ans 18 #[v] w0 (.bool (placeI p)) := by
  intro w hw
  obtain ⟨h1, oa, len, cap, rfl, h2⟩ := hv
  have hlen := h2.hlen
  have hbig := h2.hbig
  subst hlen
  have HN : Hd (∀ w', Mod (fun _ => False) w w' → _) := ⟨fun w' h' => rname_ans h1 w' (Mod.refl _ _)⟩
  have HS : Hd _ := ⟨h2⟩
  have HW : Hd _ := ⟨hw⟩
  clear h1 h2 hw
  obtain ⟨r, hr⟩ : ∃ r, placeI p = r := ⟨_, rfl⟩
  have HR : Hd _ := ⟨hr⟩
  rw [hr]
  clear hr
  obtain ⟨q0, hq⟩ : ∃ q, isName (lst p.loc) = q := ⟨_, rfl⟩
  rw [hq] at HN
  have HQ0 : Hd _ := ⟨hq⟩
  clear hq
  have HB : Hd (∀ w', Mod (fun _ => False) (w.alloc (.cells #[.string p.loc, .slice oa p.steps.length cap] 24)) w' → w'.heap[w.heap.size]? = some (.cells #[.string p.loc, .slice oa p.steps.length cap] 24)) := ⟨fun w' h => (h.block _ (lt1_0 _ _) (fun h => h)).trans (heap_new' _ _)⟩
  go_enter Tryz.func18, Tryz.ntmps18
  go_wp2_with fail
  go_loopg [3] p.steps.length (fun gk v3 wr => Hd (Mod (fun _ => False) (w.alloc (.cells #[.string p.loc, .slice oa p.steps.length cap] 24)) wr) ∧ ∃ k : Nat, v3 = .int .i64 k ∧ k + gk = p.steps.length ∧ Hd ((p.steps.drop k).all stepI = p.steps.all stepI))
  case atStart => exact ⟨⟨Mod.refl _ _⟩, 0, rfl, by omega, ⟨rfl⟩⟩
  case round =>
    obtain ⟨HM, k, rfl, hk, HI⟩ := hrel
    have hb := HB.out wr HM.out
    have c0 : wr.cell? ⟨w.heap.size, 0, none⟩ = some (.string p.loc) := by simp [World.cell?, hb]
    have c1 : wr.cell? ⟨w.heap.size, 1, none⟩ = some (.slice oa p.steps.length cap) := by simp [World.cell?, hb]
    clear hb
    have HMw : Hd (Mod (fun _ => False) w wr) := ⟨(Mod.alloc _ _ _).trans HM.out (fun _ h => Or.inl h)⟩
    by_cases hlt : k < p.steps.length
    · have hx0 : p.steps[k]? = some p.steps[k] := List.getElem?_eq_getElem (by omega)
      obtain ⟨x, hx⟩ : ∃ x, p.steps[k]? = some x := ⟨_, hx0⟩
      obtain ⟨b, o, rfl, _, hbl, e0, hv⟩ := HS.out.str hx
      have d0 : wr.cell? ⟨b, o + k, none⟩ = some (.string x) := by rw [← e0]; exact World.cell?_of_block ((HW.out.trans HMw.out (fun _ h => Or.inl h)).block b hbl (fun h => h))
      have HNx : Hd _ := ⟨rname_ans (w0 := wr) hv.2 wr (Mod.refl _ _)⟩
      have HX : Hd _ := ⟨hx⟩
      clear hx0 hx e0 hbl hv
      obtain ⟨qx, hqx⟩ : ∃ q, isName (lst x) = q := ⟨_, rfl⟩
      rw [hqx] at HNx
      have HQX : Hd _ := ⟨hqx⟩
      clear hqx
      cases hs : (x.toList == [42]) with
      | true =>
        have HSt : Hd (stepI x = true) := ⟨by
          rw [ByteArray.toList_eq] at hs
          simp [stepI, lst, beq_iff_eq.1 hs]⟩
        have HI2 : Hd ((p.steps.drop (k + 1)).all stepI = p.steps.all stepI) := ⟨by rw [← HI.out, all_hit HX.out HSt.out]⟩
        go_wp2_with fail
        go_roundg (gk - 1)
        case measure => omega
        case rel => exact ⟨HM, k + 1, by go_num, by omega, HI2⟩
      | false =>
        have HSf : Hd (¬ lst x = [42]) := ⟨fun e => by
          rw [ByteArray.toList_eq] at hs
          rw [show x.data.toList = [42] from e] at hs
          simp at hs⟩
        go_wp2_with fail
        refine HNx.out.mono ?_
        rintro e w2 ⟨rfl, hM2⟩
        have HM2 : Hd (Mod (fun _ => False) (w.alloc (.cells #[.string p.loc, .slice (some ⟨b, o, none⟩) p.steps.length cap] 24)) w2) := ⟨HM.out.trans hM2 (fun _ h => Or.inl h)⟩
        clear hM2
        cases qx with
        | true =>
          have HI2 : Hd ((p.steps.drop (k + 1)).all stepI = p.steps.all stepI) := ⟨by rw [← HI.out, all_hit HX.out (by simp [stepI, HQX.out])]⟩
          go_wp2_with fail
          go_roundg (gk - 1)
          case measure => omega
          case rel => exact ⟨HM2, k + 1, by go_num, by omega, HI2⟩
        | false =>
          have HF : Hd (r = false) := ⟨by
            rw [← HR.out, placeI, ← HI.out, all_miss HX.out (by simp [stepI, HQX.out, HSf.out])]
            simp⟩
          go_wp2
          go_ret
          exact ⟨by rw [HF.out]; rfl, (Mod.alloc _ _ _).trans HM2.out (fun _ h => Or.inl h)⟩
    · have HAll : Hd (p.steps.all stepI = true) := ⟨by rw [← HI.out]; exact all_end (by omega)⟩
      go_wp2_with fail
      refine (HN.out wr HMw.out).mono ?_
      rintro e w2 ⟨rfl, hM2⟩
      have HM2 : Hd (Mod (fun _ => False) w w2) := ⟨HMw.out.trans hM2 (fun _ h => Or.inl h)⟩
      have hb := HB.out w2 (HM.out.trans hM2 (fun _ h => Or.inl h))
      have c1' : w2.cell? ⟨w.heap.size, 1, none⟩ = some (.slice oa p.steps.length cap) := by simp [World.cell?, hb]
      clear hb hM2 c0 c1
      cases q0 with
      | true =>
        by_cases h8 : p.steps.length ≤ 8
        · have HF : Hd (r = true) := ⟨by rw [← HR.out]; simp [placeI, HQ0.out, h8, HAll.out]⟩
          go_wp2
          go_ret
          exact ⟨by rw [HF.out]; first | rfl | (simp; done) | (simp; omega), HM2.out⟩
        · have HF : Hd (r = false) := ⟨by rw [← HR.out]; simp [placeI, h8]⟩
          go_wp2
          go_ret
          exact ⟨by rw [HF.out]; first | rfl | (simp; done) | (simp; omega), HM2.out⟩
      | false =>
        have HF : Hd (r = false) := ⟨by rw [← HR.out]; simp [placeI, HQ0.out]⟩
        go_wp2
        go_ret
        exact ⟨by rw [HF.out]; rfl, HM2.out⟩
end
end Go.Proofs.YtpodeccpibnlbaaGreatDoor
namespace Go.Proofs.YtpodeccpibnlbaaGreatDoor
set_option linter.unusedVariables false
set_option linter.unusedSimpArgs false
open Go.RowKit
def textTo (p : Pl) (k : Nat) : List UInt8 := lst p.loc ++ ((p.steps.take k).map (fun s => 46 :: lst s)).flatten
theorem textTo_succ {p : Pl} {k : Nat} {x : ByteArray} (hx : p.steps[k]? = some x) : textTo p (k + 1) = textTo p k ++ (46 :: lst x) := by
  unfold textTo
  rw [List.take_add_one, hx]
  simp
theorem text_of {p : Pl} {s : ByteArray} (h : lst s = textTo p p.steps.length) : s = textI p := by
  unfold textTo at h
  rw [List.take_length] at h
  cases s with
  | mk d =>
    unfold textI textL
    congr 1
    apply Array.ext'
    simpa [lst] using h
section
variable {S : Nat → Prop} {w0 : World}
set_option maxRecDepth 100000 in
set_option maxHeartbeats 4000000 in
theorem rText_ans {v : Value} {p : Pl} (hv : plV S w0 v p) : Ans 14 #[v] w0 (.string (textI p)) := by
  intro w hw
  obtain ⟨h1, oa, len, cap, rfl, h2⟩ := hv
  have hlen := h2.hlen
  have hbig := h2.hbig
  subst hlen
  have HS : Hd _ := ⟨h2⟩
  have HW : Hd _ := ⟨hw⟩
  have H1 : Hd _ := ⟨h1⟩
  clear h1 h2 hw
  obtain ⟨r, hr⟩ : ∃ r, textI p = r := ⟨_, rfl⟩
  have HR : Hd _ := ⟨hr⟩
  rw [hr]
  clear hr
  have HB : Hd (∀ w', Mod (fun _ => False) (w.alloc (.cells #[.string p.loc, .slice oa p.steps.length cap] 24)) w' → w'.heap[w.heap.size]? = some (.cells #[.string p.loc, .slice oa p.steps.length cap] 24)) := ⟨fun w' h => (h.block _ (lt1_0 _ _) (fun h => h)).trans (heap_new' _ _)⟩
  go_enter Tryz.func14, Tryz.ntmps14
  go_wp2_with fail
  go_loopg [3, 4] p.steps.length (fun gk v3 v4 wr => Hd (Mod (fun _ => False) (w.alloc (.cells #[.string p.loc, .slice oa p.steps.length cap] 24)) wr) ∧ ∃ k : Nat, ∃ s : ByteArray, v4 = .int .i64 k ∧ v3 = .string s ∧ k + gk = p.steps.length ∧ s.size ≤ 1048576 + k * 1048577 ∧ Hd (lst s = textTo p k))
  case atStart => exact ⟨⟨Mod.refl _ _⟩, 0, p.loc, rfl, rfl, by omega, by have := H1.out; unfold Sm at this; omega, ⟨by simp [textTo]⟩⟩
  case round =>
    obtain ⟨HM, k, s, rfl, rfl, hk, hs, HI⟩ := hrel
    have hb := HB.out wr HM.out
    have c1 : wr.cell? ⟨w.heap.size, 1, none⟩ = some (.slice oa p.steps.length cap) := by simp [World.cell?, hb]
    clear hb
    have HMw : Hd (Mod (fun _ => False) w wr) := ⟨(Mod.alloc _ _ _).trans HM.out (fun _ h => Or.inl h)⟩
    by_cases hlt : k < p.steps.length
    · have hx0 : p.steps[k]? = some p.steps[k] := List.getElem?_eq_getElem (by omega)
      obtain ⟨x, hx⟩ : ∃ x, p.steps[k]? = some x := ⟨_, hx0⟩
      obtain ⟨b, o, rfl, _, hbl, e0, hv⟩ := HS.out.str hx
      have d0 : wr.cell? ⟨b, o + k, none⟩ = some (.string x) := by rw [← e0]; exact World.cell?_of_block ((HW.out.trans HMw.out (fun _ h => Or.inl h)).block b hbl (fun h => h))
      have HX : Hd _ := ⟨hx⟩
      have hxs : x.size ≤ 1048576 := hv.2
      clear hx0 hx e0 hbl hv
      have hsz : (s ++ (({ data := #[46] } : ByteArray) ++ x)).size = s.size + (1 + x.size) := by simp [ByteArray.size_append]; rfl
      have hsz2 : (({ data := #[46] } : ByteArray) ++ x).size = 1 + x.size := by simp [ByteArray.size_append]; rfl
      go_wp2_with fail
      go_roundg (gk - 1)
      case measure => omega
      case rel => exact ⟨HM, k + 1, _, by go_num, rfl, by omega, by rw [hsz]; omega, ⟨by rw [textTo_succ HX.out, ← HI.out]; simp [lst, ByteArray.data_append]⟩⟩
    · have hk2 : Hd (k = p.steps.length) := ⟨by omega⟩
      have HF : Hd (s = r) := ⟨by rw [← HR.out]; exact text_of (by rw [HI.out, hk2.out])⟩
      go_wp2
      go_ret
      exact ⟨by rw [HF.out]; rfl, HMw.out⟩
end
end Go.Proofs.YtpodeccpibnlbaaGreatDoor
