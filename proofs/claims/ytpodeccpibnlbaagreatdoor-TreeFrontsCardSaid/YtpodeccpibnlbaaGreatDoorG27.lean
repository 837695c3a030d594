/- The law TreeFronts, walked. -/
import Derived.Test.YtpodeccpibnlbaaGreatDoorG26
import Derived.Test.YtpodeccpibnlbaaGreatDoorG24
import Derived.BigRegion
import Derived.Deep.RegionHeld3
namespace Go.Proofs.YtpodeccpibnlbaaGreatDoor
set_option linter.unusedVariables false
set_option linter.unusedSimpArgs false
open Go.RowKit

theorem alive_tmp (W : World) (hT : Tab W) {m : Int} (hm : W.cell? ⟨0, 0, none⟩ = some (.int .i64 m)) : Calls Tryz.prog 9 #[] W fun e w' => e = .returned (.bool true) ∧ Mod (fun _ => False) W w' := callsIn_wide.1 (alive_in W hT hm)

theorem cell_of' {w : World} {k j : Nat} {cs : Array Value} {t : TypeId} {fr : Nat × Nat} {v : Value} (h : w.heap[k]? = some (.cells cs t fr)) (hv : cs[j]? = some v) : w.cell? ⟨k, j, none⟩ = some v := by simp [World.cell?, h, hv]
theorem rem_nat (i n : Nat) (hi : i < 256) : ((i : Int)).tmod ((n : Int) + 1) = ((i % (n + 1) : Nat) : Int) := by
  rw [Int.tmod_eq_emod_of_nonneg (by omega)]
  push_cast
  rfl

set_option maxRecDepth 100000 in
set_option maxHeartbeats 8000000 in
theorem fronts_c {S : Nat → Prop} {W : World} (hT : Tab W) {m : Int} (hm : W.cell? ⟨0, 0, none⟩ = some (.int .i64 m)) {p o : Pl} {oa ob : Option Addr} {la ca lb cb : Nat}
    (hla : la ≤ 140737488355328) (hlb : lb ≤ 140737488355328)
    (hp : la ≤ 100 → lb ≤ 100 → SR S W 1 tU oa la ca p.steps ∧ SR S W 1 tU ob lb cb o.steps) (i k : Nat) (hi : i < 256) (hk : k < 256) :
    Calls Tryz.prog 7 #[.agg #[.string p.loc, .slice oa la ca], .int .u8 (i : Int), .int .u8 (k : Int), .agg #[.string o.loc, .slice ob lb cb]] W fun e w' => e = .returned (.bool true) ∧ Mod (fun _ => False) W w' := by
  have HA : Hd (∀ A B : Obj, _) := ⟨fun A B => alive_tmp ((W.alloc A).alloc B) (hT.mod ((Mod.alloc _ _ _).trans (Mod.alloc _ _ _) (fun _ h => Or.inl h))) (((Mod.alloc (fun _ => False) W A).trans (Mod.alloc _ _ B) (fun _ h => Or.inl h)).cell' hm)⟩
  clear hT hm
  go_enter Tryz.func7, Tryz.ntmps7
  go_wp2_with fail
  refine (HA.out _ _).mono ?_
  rintro e w1 ⟨rfl, hM⟩
  have hb0 := (hM.block _ (lt2_0 _ _ _) (fun h => h)).trans (heap2_0 W (.cells #[.string p.loc, .slice oa la ca] 24) (.cells #[.string o.loc, .slice ob lb cb] 24))
  have hb1 := (hM.block _ (lt2_1 _ _ _) (fun h => h)).trans (heap2_1 W (.cells #[.string p.loc, .slice oa la ca] 24) (.cells #[.string o.loc, .slice ob lb cb] 24))
  have HB0 : Hd _ := ⟨hb0⟩
  have HB1 : Hd _ := ⟨hb1⟩
  have HM1 : Hd (Mod (fun _ => False) W w1) := ⟨((Mod.alloc _ _ _).trans (Mod.alloc _ _ _) (fun _ h => Or.inl h)).trans hM (fun _ h => Or.inl h)⟩
  have c0 : w1.cell? ⟨W.heap.size, 0, none⟩ = some (.string p.loc) := by simp [World.cell?, hb0]
  have c1 : w1.cell? ⟨W.heap.size, 1, none⟩ = some (.slice oa la ca) := by simp [World.cell?, hb0]
  have d0 : w1.cell? ⟨W.heap.size + 1, 0, none⟩ = some (.string o.loc) := by simp [World.cell?, hb1]
  have d1 : w1.cell? ⟨W.heap.size + 1, 1, none⟩ = some (.slice ob lb cb) := by simp [World.cell?, hb1]
  clear hb0 hb1 hM HA
  by_cases h1 : la ≤ 100
  · by_cases h2 : lb ≤ 100
    · obtain ⟨hs1, hs2⟩ := hp h1 h2
      have HS1 : Hd _ := ⟨hs1⟩
      have HS2 : Hd _ := ⟨hs2⟩
      have hl1 := hs1.hlen
      have hl2 := hs2.hlen
      subst hl1
      subst hl2
      obtain ⟨i0, hinf, _, _, _⟩ := info_parts info_9
      have HSL : Hd (∀ j, j ≤ p.steps.length → ∀ w, (Instr.slice 22 (.slice oa p.steps.length ca) none (some (.int .i64 (j : Int))) none).run Tryz.prog w = .ok (.slice oa j ca) w) := ⟨fun j hj w => by
        cases oa with
        | some a => exact run_slice_hi 22 9 i0 Tryz.underlying22 hinf a _ _ _ hj hs1.hle w
        | none =>
          have e2 : p.steps = [] := hs1.nil_of rfl
          have e1 : j = 0 := by rw [e2] at hj; simpa using hj
          rw [e1, e2]
          exact run_slice_hi_nil 22 9 i0 Tryz.underlying22 hinf ca w⟩
      clear hp hs1 hs2 hinf
      have hri := rem_nat i p.steps.length hi
      have hrk := rem_nat k p.steps.length hk
      obtain ⟨x, hx⟩ : ∃ x, i % (p.steps.length + 1) = x := ⟨_, rfl⟩
      obtain ⟨y, hy⟩ : ∃ y, k % (p.steps.length + 1) = y := ⟨_, rfl⟩
      rw [hx] at hri
      rw [hy] at hrk
      have hxl : x ≤ p.steps.length := by rw [← hx]; have := Nat.mod_lt i (show 0 < p.steps.length + 1 by omega); omega
      have hyl : y ≤ p.steps.length := by rw [← hy]; have := Nat.mod_lt k (show 0 < p.steps.length + 1 by omega); omega
      clear hx hy
      have sx := HSL.out x hxl
      have sy := HSL.out y hyl
      have hw1 : IntKind.i64.wrap ((p.steps.length : Int) + 1) = (p.steps.length : Int) + 1 := by rw [IntKind.wrap_i64]; omega
      have hwi : IntKind.i64.wrap (i : Int) = (i : Int) := by rw [IntKind.wrap_i64]; omega
      have hwk : IntKind.i64.wrap (k : Int) = (k : Int) := by rw [IntKind.wrap_i64]; omega
      have hne : ¬ ((p.steps.length : Int) + 1 = 0) := by omega
      have a0 : ∀ O, (w1.alloc O).drew.cell? ⟨W.heap.size, 0, none⟩ = some (.string p.loc) := fun O => Lib.cell?_alloc_some O c0
      have a1 : ∀ O, (w1.alloc O).drew.cell? ⟨W.heap.size, 1, none⟩ = some (.slice oa p.steps.length ca) := fun O => Lib.cell?_alloc_some O c1
      go_wp2_with fail
      go_region
      go_wp2_with fail
      have HQa : Hd ((w1.alloc (.cells #[.string p.loc, .slice oa x ca] 24)).drew.heap[w1.heap.size]? = some (.cells #[.string p.loc, .slice oa x ca] 24)) := ⟨heap_alloc_new w1 _⟩
      have hMa : Mod (fun _ => False) w1 (w1.alloc (.cells #[.string p.loc, .slice oa x ca] 24)).drew := (Mod.alloc _ _ _).trans (Mod.drew _ _) (fun _ h => Or.inl h)
      obtain ⟨w2, hw2⟩ : ∃ w, (w1.alloc (.cells #[.string p.loc, .slice oa x ca] 24)).drew = w := ⟨_, rfl⟩
      rw [hw2] at HQa hMa ⊢
      clear hw2 c0 c1 d0 d1 a0 a1
      have HMa : Hd _ := ⟨hMa⟩
      have c0 : w2.cell? ⟨W.heap.size, 0, none⟩ = some (.string p.loc) := cell_of' ((hMa.block _ (Array.getElem?_eq_some_iff.1 HB0.out).1 (fun h => h)).trans HB0.out) rfl
      have c1 : w2.cell? ⟨W.heap.size, 1, none⟩ = some (.slice oa p.steps.length ca) := cell_of' ((hMa.block _ (Array.getElem?_eq_some_iff.1 HB0.out).1 (fun h => h)).trans HB0.out) rfl
      have a0 : ∀ O, (w2.alloc O).drew.cell? ⟨W.heap.size, 0, none⟩ = some (.string p.loc) := fun O => Lib.cell?_alloc_some O c0
      have a1 : ∀ O, (w2.alloc O).drew.cell? ⟨W.heap.size, 1, none⟩ = some (.slice oa p.steps.length ca) := fun O => Lib.cell?_alloc_some O c1
      clear hMa
      go_region
      have hMb : Mod (fun _ => False) w2 (w2.alloc (.cells #[.string p.loc, .slice oa y ca] 24)).drew := (Mod.alloc _ _ _).trans (Mod.drew _ _) (fun _ h => Or.inl h)
      have HQb : Hd ((w2.alloc (.cells #[.string p.loc, .slice oa y ca] 24)).drew.heap[w2.heap.size]? = some (.cells #[.string p.loc, .slice oa y ca] 24)) := ⟨heap_alloc_new w2 _⟩
      obtain ⟨w3, hw3⟩ : ∃ w, (w2.alloc (.cells #[.string p.loc, .slice oa y ca] 24)).drew = w := ⟨_, rfl⟩
      rw [hw3] at HQb hMb ⊢
      clear hw3 c0 c1 a0 a1 hri hrk hwi hwk hw1 hne sx sy
      have HM13 : Hd _ := ⟨HMa.out.trans hMb (fun _ h => Or.inl h)⟩
      have HQa' : Hd _ := ⟨(hMb.block _ (Array.getElem?_eq_some_iff.1 HQa.out).1 (fun h => h)).trans HQa.out⟩
      have HQp : Hd _ := ⟨(HM13.out.block _ (Array.getElem?_eq_some_iff.1 HB0.out).1 (fun h => h)).trans HB0.out⟩
      have HQo : Hd _ := ⟨(HM13.out.block _ (Array.getElem?_eq_some_iff.1 HB1.out).1 (fun h => h)).trans HB1.out⟩
      clear hMb HQa HB0 HB1
      have HQa := HQa'
      clear HQa'
      have HM3 : Hd (Mod (fun _ => False) W w3) := ⟨HM1.out.trans HM13.out (fun _ h => Or.inl h)⟩
      have hPP : plU S w3 (.agg #[.string p.loc, .slice oa p.steps.length ca]) p := ⟨oa, _, ca, rfl, HS1.out.keep (HM3.out.kp S) (fun _ _ h => h)⟩
      have hPO : plU S w3 (.agg #[.string o.loc, .slice ob o.steps.length cb]) o := ⟨ob, _, cb, rfl, HS2.out.keep (HM3.out.kp S) (fun _ _ h => h)⟩
      have hPA : plU S w3 (.agg #[.string p.loc, .slice oa x ca]) ⟨p.loc, p.steps.take x⟩ := ⟨oa, _, ca, rfl, (HS1.out.keep (HM3.out.kp S) (fun _ _ h => h)).take hxl⟩
      have hPB : plU S w3 (.agg #[.string p.loc, .slice oa y ca]) ⟨p.loc, p.steps.take y⟩ := ⟨oa, _, ca, rfl, (HS1.out.keep (HM3.out.kp S) (fun _ _ h => h)).take hyl⟩
      have Fap : Hd (∀ w', Mod (fun _ => False) w3 w' → _) := ⟨fun w' h => Front_u hPA hPP w' h⟩
      have Fbp : Hd (∀ w', Mod (fun _ => False) w3 w' → _) := ⟨fun w' h => Front_u hPB hPP w' h⟩
      have Fpp : Hd (∀ w', Mod (fun _ => False) w3 w' → _) := ⟨fun w' h => Front_u hPP hPP w' h⟩
      have Fab : Hd (∀ w', Mod (fun _ => False) w3 w' → _) := ⟨fun w' h => Front_u hPA hPB w' h⟩
      have Fba : Hd (∀ w', Mod (fun _ => False) w3 w' → _) := ⟨fun w' h => Front_u hPB hPA w' h⟩
      have Fpo : Hd (∀ w', Mod (fun _ => False) w3 w' → _) := ⟨fun w' h => Front_u hPP hPO w' h⟩
      have Fao : Hd (∀ w', Mod (fun _ => False) w3 w' → _) := ⟨fun w' h => Front_u hPA hPO w' h⟩
      have Fop : Hd (∀ w', Mod (fun _ => False) w3 w' → _) := ⟨fun w' h => Front_u hPO hPP w' h⟩
      have Epo : Hd (∀ w', Mod (fun _ => False) w3 w' → _) := ⟨fun w' h => Equal_u hPP hPO w' h⟩
      rw [law_1] at Fap Fbp
      rw [law_3] at Fpp
      have L4 : Hd _ := ⟨law_4 p x y⟩
      have L5 : Hd _ := ⟨law_5 p o x⟩
      have L6 : Hd _ := ⟨law_6 p o⟩
      obtain ⟨q1, e1⟩ : ∃ q, frontP p o = q := ⟨_, rfl⟩
      obtain ⟨q2, e2⟩ : ∃ q, frontP o p = q := ⟨_, rfl⟩
      obtain ⟨q3, e3⟩ : ∃ q, frontP ⟨p.loc, p.steps.take x⟩ ⟨p.loc, p.steps.take y⟩ = q := ⟨_, rfl⟩
      obtain ⟨q4, e4⟩ : ∃ q, frontP ⟨p.loc, p.steps.take y⟩ ⟨p.loc, p.steps.take x⟩ = q := ⟨_, rfl⟩
      obtain ⟨q5, e5⟩ : ∃ q, frontP ⟨p.loc, p.steps.take x⟩ o = q := ⟨_, rfl⟩
      obtain ⟨q6, e6⟩ : ∃ q, equalP p o = q := ⟨_, rfl⟩
      rw [e1] at Fpo L5 L6
      rw [e2] at Fop L6
      rw [e3] at Fab L4
      rw [e4] at Fba L4
      rw [e5] at Fao L5
      rw [e6] at Epo L6
      clear e1 e2 e3 e4 e5 e6 hPP hPO hPA hPB HS1 HS2 HSL
      have u0 : w3.cell? ⟨W.heap.size, 0, none⟩ = some (.string p.loc) := cell_of' (((Mod.refl (fun _ => False) w3).block _ (Array.getElem?_eq_some_iff.1 HQp.out).1 (fun h => h)).trans HQp.out) rfl
      have u1 : w3.cell? ⟨W.heap.size, 1, none⟩ = some (.slice oa p.steps.length ca) := cell_of' (((Mod.refl (fun _ => False) w3).block _ (Array.getElem?_eq_some_iff.1 HQp.out).1 (fun h => h)).trans HQp.out) rfl
      have u2 : w3.cell? ⟨W.heap.size + 1, 0, none⟩ = some (.string o.loc) := cell_of' (((Mod.refl (fun _ => False) w3).block _ (Array.getElem?_eq_some_iff.1 HQo.out).1 (fun h => h)).trans HQo.out) rfl
      have u3 : w3.cell? ⟨W.heap.size + 1, 1, none⟩ = some (.slice ob o.steps.length cb) := cell_of' (((Mod.refl (fun _ => False) w3).block _ (Array.getElem?_eq_some_iff.1 HQo.out).1 (fun h => h)).trans HQo.out) rfl
      have u4 : w3.cell? ⟨w1.heap.size, 0, none⟩ = some (.string p.loc) := cell_of' (((Mod.refl (fun _ => False) w3).block _ (Array.getElem?_eq_some_iff.1 HQa.out).1 (fun h => h)).trans HQa.out) rfl
      have u5 : w3.cell? ⟨w1.heap.size, 1, none⟩ = some (.slice oa x ca) := cell_of' (((Mod.refl (fun _ => False) w3).block _ (Array.getElem?_eq_some_iff.1 HQa.out).1 (fun h => h)).trans HQa.out) rfl
      have u6 : w3.cell? ⟨w2.heap.size, 0, none⟩ = some (.string p.loc) := cell_of' (((Mod.refl (fun _ => False) w3).block _ (Array.getElem?_eq_some_iff.1 HQb.out).1 (fun h => h)).trans HQb.out) rfl
      have u7 : w3.cell? ⟨w2.heap.size, 1, none⟩ = some (.slice oa y ca) := cell_of' (((Mod.refl (fun _ => False) w3).block _ (Array.getElem?_eq_some_iff.1 HQb.out).1 (fun h => h)).trans HQb.out) rfl
      have HSF : Hd (∀ w', Mod (fun _ => False) w3 w' → w'.cell? ⟨W.heap.size, 0, none⟩ = some (.string p.loc) ∧ w'.cell? ⟨W.heap.size, 1, none⟩ = some (.slice oa p.steps.length ca) ∧ w'.cell? ⟨W.heap.size + 1, 0, none⟩ = some (.string o.loc) ∧ w'.cell? ⟨W.heap.size + 1, 1, none⟩ = some (.slice ob o.steps.length cb) ∧ w'.cell? ⟨w1.heap.size, 0, none⟩ = some (.string p.loc) ∧ w'.cell? ⟨w1.heap.size, 1, none⟩ = some (.slice oa x ca) ∧ w'.cell? ⟨w2.heap.size, 0, none⟩ = some (.string p.loc) ∧ w'.cell? ⟨w2.heap.size, 1, none⟩ = some (.slice oa y ca)) := ⟨fun w' hm => ⟨cell_of' ((hm.block _ (Array.getElem?_eq_some_iff.1 HQp.out).1 (fun h => h)).trans HQp.out) rfl, cell_of' ((hm.block _ (Array.getElem?_eq_some_iff.1 HQp.out).1 (fun h => h)).trans HQp.out) rfl, cell_of' ((hm.block _ (Array.getElem?_eq_some_iff.1 HQo.out).1 (fun h => h)).trans HQo.out) rfl, cell_of' ((hm.block _ (Array.getElem?_eq_some_iff.1 HQo.out).1 (fun h => h)).trans HQo.out) rfl, cell_of' ((hm.block _ (Array.getElem?_eq_some_iff.1 HQa.out).1 (fun h => h)).trans HQa.out) rfl, cell_of' ((hm.block _ (Array.getElem?_eq_some_iff.1 HQa.out).1 (fun h => h)).trans HQa.out) rfl, cell_of' ((hm.block _ (Array.getElem?_eq_some_iff.1 HQb.out).1 (fun h => h)).trans HQb.out) rfl, cell_of' ((hm.block _ (Array.getElem?_eq_some_iff.1 HQb.out).1 (fun h => h)).trans HQb.out) rfl⟩⟩
      go_upto_region 7 with fail
      go_cut [76] from 11 to 75 (fun v76 wx => v76 = .bool false ∧ Hd (Mod (fun _ => False) w3 wx))
      case first =>
        go_wp2_with fail
        refine (Fap.out _ (Mod.refl (fun _ => False) w3)).mono ?_
        rintro e w4 ⟨rfl, hM⟩
        have HZw4 : Hd (Mod (fun _ => False) w3 w4) := ⟨(Mod.refl (fun _ => False) w3).trans hM (fun _ h => Or.inl h)⟩
        clear hM
        try clear u0 u1 u2 u3 u4 u5 u6 u7
        have u0 : w4.cell? ⟨W.heap.size, 0, none⟩ = some (.string p.loc) := cell_of' ((HZw4.out.block _ (Array.getElem?_eq_some_iff.1 HQp.out).1 (fun h => h)).trans HQp.out) rfl
        have u1 : w4.cell? ⟨W.heap.size, 1, none⟩ = some (.slice oa p.steps.length ca) := cell_of' ((HZw4.out.block _ (Array.getElem?_eq_some_iff.1 HQp.out).1 (fun h => h)).trans HQp.out) rfl
        have u2 : w4.cell? ⟨W.heap.size + 1, 0, none⟩ = some (.string o.loc) := cell_of' ((HZw4.out.block _ (Array.getElem?_eq_some_iff.1 HQo.out).1 (fun h => h)).trans HQo.out) rfl
        have u3 : w4.cell? ⟨W.heap.size + 1, 1, none⟩ = some (.slice ob o.steps.length cb) := cell_of' ((HZw4.out.block _ (Array.getElem?_eq_some_iff.1 HQo.out).1 (fun h => h)).trans HQo.out) rfl
        have u4 : w4.cell? ⟨w1.heap.size, 0, none⟩ = some (.string p.loc) := cell_of' ((HZw4.out.block _ (Array.getElem?_eq_some_iff.1 HQa.out).1 (fun h => h)).trans HQa.out) rfl
        have u5 : w4.cell? ⟨w1.heap.size, 1, none⟩ = some (.slice oa x ca) := cell_of' ((HZw4.out.block _ (Array.getElem?_eq_some_iff.1 HQa.out).1 (fun h => h)).trans HQa.out) rfl
        have u6 : w4.cell? ⟨w2.heap.size, 0, none⟩ = some (.string p.loc) := cell_of' ((HZw4.out.block _ (Array.getElem?_eq_some_iff.1 HQb.out).1 (fun h => h)).trans HQb.out) rfl
        have u7 : w4.cell? ⟨w2.heap.size, 1, none⟩ = some (.slice oa y ca) := cell_of' ((HZw4.out.block _ (Array.getElem?_eq_some_iff.1 HQb.out).1 (fun h => h)).trans HQb.out) rfl
        go_wp2_with fail
        refine (Fbp.out _ HZw4.out).mono ?_
        rintro e w5 ⟨rfl, hM⟩
        have HZw5 : Hd (Mod (fun _ => False) w3 w5) := ⟨HZw4.out.trans hM (fun _ h => Or.inl h)⟩
        clear hM
        try clear u0 u1 u2 u3 u4 u5 u6 u7
        have u0 : w5.cell? ⟨W.heap.size, 0, none⟩ = some (.string p.loc) := cell_of' ((HZw5.out.block _ (Array.getElem?_eq_some_iff.1 HQp.out).1 (fun h => h)).trans HQp.out) rfl
        have u1 : w5.cell? ⟨W.heap.size, 1, none⟩ = some (.slice oa p.steps.length ca) := cell_of' ((HZw5.out.block _ (Array.getElem?_eq_some_iff.1 HQp.out).1 (fun h => h)).trans HQp.out) rfl
        have u2 : w5.cell? ⟨W.heap.size + 1, 0, none⟩ = some (.string o.loc) := cell_of' ((HZw5.out.block _ (Array.getElem?_eq_some_iff.1 HQo.out).1 (fun h => h)).trans HQo.out) rfl
        have u3 : w5.cell? ⟨W.heap.size + 1, 1, none⟩ = some (.slice ob o.steps.length cb) := cell_of' ((HZw5.out.block _ (Array.getElem?_eq_some_iff.1 HQo.out).1 (fun h => h)).trans HQo.out) rfl
        have u4 : w5.cell? ⟨w1.heap.size, 0, none⟩ = some (.string p.loc) := cell_of' ((HZw5.out.block _ (Array.getElem?_eq_some_iff.1 HQa.out).1 (fun h => h)).trans HQa.out) rfl
        have u5 : w5.cell? ⟨w1.heap.size, 1, none⟩ = some (.slice oa x ca) := cell_of' ((HZw5.out.block _ (Array.getElem?_eq_some_iff.1 HQa.out).1 (fun h => h)).trans HQa.out) rfl
        have u6 : w5.cell? ⟨w2.heap.size, 0, none⟩ = some (.string p.loc) := cell_of' ((HZw5.out.block _ (Array.getElem?_eq_some_iff.1 HQb.out).1 (fun h => h)).trans HQb.out) rfl
        have u7 : w5.cell? ⟨w2.heap.size, 1, none⟩ = some (.slice oa y ca) := cell_of' ((HZw5.out.block _ (Array.getElem?_eq_some_iff.1 HQb.out).1 (fun h => h)).trans HQb.out) rfl
        go_wp2_with fail
        refine (Fpp.out _ HZw5.out).mono ?_
        rintro e w6 ⟨rfl, hM⟩
        have HZw6 : Hd (Mod (fun _ => False) w3 w6) := ⟨HZw5.out.trans hM (fun _ h => Or.inl h)⟩
        clear hM
        try clear u0 u1 u2 u3 u4 u5 u6 u7
        have u0 : w6.cell? ⟨W.heap.size, 0, none⟩ = some (.string p.loc) := cell_of' ((HZw6.out.block _ (Array.getElem?_eq_some_iff.1 HQp.out).1 (fun h => h)).trans HQp.out) rfl
        have u1 : w6.cell? ⟨W.heap.size, 1, none⟩ = some (.slice oa p.steps.length ca) := cell_of' ((HZw6.out.block _ (Array.getElem?_eq_some_iff.1 HQp.out).1 (fun h => h)).trans HQp.out) rfl
        have u2 : w6.cell? ⟨W.heap.size + 1, 0, none⟩ = some (.string o.loc) := cell_of' ((HZw6.out.block _ (Array.getElem?_eq_some_iff.1 HQo.out).1 (fun h => h)).trans HQo.out) rfl
        have u3 : w6.cell? ⟨W.heap.size + 1, 1, none⟩ = some (.slice ob o.steps.length cb) := cell_of' ((HZw6.out.block _ (Array.getElem?_eq_some_iff.1 HQo.out).1 (fun h => h)).trans HQo.out) rfl
        have u4 : w6.cell? ⟨w1.heap.size, 0, none⟩ = some (.string p.loc) := cell_of' ((HZw6.out.block _ (Array.getElem?_eq_some_iff.1 HQa.out).1 (fun h => h)).trans HQa.out) rfl
        have u5 : w6.cell? ⟨w1.heap.size, 1, none⟩ = some (.slice oa x ca) := cell_of' ((HZw6.out.block _ (Array.getElem?_eq_some_iff.1 HQa.out).1 (fun h => h)).trans HQa.out) rfl
        have u6 : w6.cell? ⟨w2.heap.size, 0, none⟩ = some (.string p.loc) := cell_of' ((HZw6.out.block _ (Array.getElem?_eq_some_iff.1 HQb.out).1 (fun h => h)).trans HQb.out) rfl
        have u7 : w6.cell? ⟨w2.heap.size, 1, none⟩ = some (.slice oa y ca) := cell_of' ((HZw6.out.block _ (Array.getElem?_eq_some_iff.1 HQb.out).1 (fun h => h)).trans HQb.out) rfl
        go_wp2_with fail
        refine (Fab.out _ HZw6.out).mono ?_
        rintro e w7 ⟨rfl, hM⟩
        have HZw7 : Hd (Mod (fun _ => False) w3 w7) := ⟨HZw6.out.trans hM (fun _ h => Or.inl h)⟩
        clear hM
        try clear u0 u1 u2 u3 u4 u5 u6 u7
        have u0 : w7.cell? ⟨W.heap.size, 0, none⟩ = some (.string p.loc) := cell_of' ((HZw7.out.block _ (Array.getElem?_eq_some_iff.1 HQp.out).1 (fun h => h)).trans HQp.out) rfl
        have u1 : w7.cell? ⟨W.heap.size, 1, none⟩ = some (.slice oa p.steps.length ca) := cell_of' ((HZw7.out.block _ (Array.getElem?_eq_some_iff.1 HQp.out).1 (fun h => h)).trans HQp.out) rfl
        have u2 : w7.cell? ⟨W.heap.size + 1, 0, none⟩ = some (.string o.loc) := cell_of' ((HZw7.out.block _ (Array.getElem?_eq_some_iff.1 HQo.out).1 (fun h => h)).trans HQo.out) rfl
        have u3 : w7.cell? ⟨W.heap.size + 1, 1, none⟩ = some (.slice ob o.steps.length cb) := cell_of' ((HZw7.out.block _ (Array.getElem?_eq_some_iff.1 HQo.out).1 (fun h => h)).trans HQo.out) rfl
        have u4 : w7.cell? ⟨w1.heap.size, 0, none⟩ = some (.string p.loc) := cell_of' ((HZw7.out.block _ (Array.getElem?_eq_some_iff.1 HQa.out).1 (fun h => h)).trans HQa.out) rfl
        have u5 : w7.cell? ⟨w1.heap.size, 1, none⟩ = some (.slice oa x ca) := cell_of' ((HZw7.out.block _ (Array.getElem?_eq_some_iff.1 HQa.out).1 (fun h => h)).trans HQa.out) rfl
        have u6 : w7.cell? ⟨w2.heap.size, 0, none⟩ = some (.string p.loc) := cell_of' ((HZw7.out.block _ (Array.getElem?_eq_some_iff.1 HQb.out).1 (fun h => h)).trans HQb.out) rfl
        have u7 : w7.cell? ⟨w2.heap.size, 1, none⟩ = some (.slice oa y ca) := cell_of' ((HZw7.out.block _ (Array.getElem?_eq_some_iff.1 HQb.out).1 (fun h => h)).trans HQb.out) rfl
        cases q3 with
        | true =>
          go_wp2_with fail
          go_meet
          exact ⟨rfl, HZw7⟩
        | false =>
          have h4 := L4.out rfl
          subst h4
          go_wp2_with fail
          refine (Fba.out _ HZw7.out).mono ?_
          rintro e w8 ⟨rfl, hM⟩
          have HZw8 : Hd (Mod (fun _ => False) w3 w8) := ⟨HZw7.out.trans hM (fun _ h => Or.inl h)⟩
          clear hM
          try clear u0 u1 u2 u3 u4 u5 u6 u7
          have u0 : w8.cell? ⟨W.heap.size, 0, none⟩ = some (.string p.loc) := cell_of' ((HZw8.out.block _ (Array.getElem?_eq_some_iff.1 HQp.out).1 (fun h => h)).trans HQp.out) rfl
          have u1 : w8.cell? ⟨W.heap.size, 1, none⟩ = some (.slice oa p.steps.length ca) := cell_of' ((HZw8.out.block _ (Array.getElem?_eq_some_iff.1 HQp.out).1 (fun h => h)).trans HQp.out) rfl
          have u2 : w8.cell? ⟨W.heap.size + 1, 0, none⟩ = some (.string o.loc) := cell_of' ((HZw8.out.block _ (Array.getElem?_eq_some_iff.1 HQo.out).1 (fun h => h)).trans HQo.out) rfl
          have u3 : w8.cell? ⟨W.heap.size + 1, 1, none⟩ = some (.slice ob o.steps.length cb) := cell_of' ((HZw8.out.block _ (Array.getElem?_eq_some_iff.1 HQo.out).1 (fun h => h)).trans HQo.out) rfl
          have u4 : w8.cell? ⟨w1.heap.size, 0, none⟩ = some (.string p.loc) := cell_of' ((HZw8.out.block _ (Array.getElem?_eq_some_iff.1 HQa.out).1 (fun h => h)).trans HQa.out) rfl
          have u5 : w8.cell? ⟨w1.heap.size, 1, none⟩ = some (.slice oa x ca) := cell_of' ((HZw8.out.block _ (Array.getElem?_eq_some_iff.1 HQa.out).1 (fun h => h)).trans HQa.out) rfl
          have u6 : w8.cell? ⟨w2.heap.size, 0, none⟩ = some (.string p.loc) := cell_of' ((HZw8.out.block _ (Array.getElem?_eq_some_iff.1 HQb.out).1 (fun h => h)).trans HQb.out) rfl
          have u7 : w8.cell? ⟨w2.heap.size, 1, none⟩ = some (.slice oa y ca) := cell_of' ((HZw8.out.block _ (Array.getElem?_eq_some_iff.1 HQb.out).1 (fun h => h)).trans HQb.out) rfl
          go_wp2_with fail
          go_meet
          exact ⟨rfl, HZw8⟩
      case rest =>
        obtain ⟨rfl, HZw7⟩ := hcut
        clear u0 u1 u2 u3 u4 u5 u6 u7
        have HSF2 : Hd (∀ w', Mod (fun _ => False) w3 w' → w'.cell? ⟨W.heap.size, 0, none⟩ = some (.string p.loc) ∧ w'.cell? ⟨W.heap.size, 1, none⟩ = some (.slice oa p.steps.length ca) ∧ w'.cell? ⟨W.heap.size + 1, 0, none⟩ = some (.string o.loc) ∧ w'.cell? ⟨W.heap.size + 1, 1, none⟩ = some (.slice ob o.steps.length cb) ∧ w'.cell? ⟨w1.heap.size, 0, none⟩ = some (.string p.loc) ∧ w'.cell? ⟨w1.heap.size, 1, none⟩ = some (.slice oa x ca)) := ⟨fun w' h => by
          obtain ⟨a0, a1, a2, a3, a4, a5, _, _⟩ := HSF.out w' h
          exact ⟨a0, a1, a2, a3, a4, a5⟩⟩
        repeat (go_not_at_region 9; go_step)
        refine freg9_c Fpo Fao L5 HSF2 HZw7 _ _ _ _ _ _ _ _ _ _ _ _ _ _ _ _ _ _ _ _ _ _ _ _ _ _ _ _ _ _ _ _ _ _ _ _ _ _ _ _ _ _ _ _ _ _ _ _ _ _ _ _ _ _ _ _ _ _ _ _ _ _ _ _ _ _ _ _ _ _ _ _ _ _ _ _ _ _ _ _ _ _ _ _ _ _ _ _ _ _ _ _ _ _ _ _ _ _ _ _ _ _ _ _ _ _ _ _ _ _ _ ?_
        intro wd v77 v78 v79 v80 v81 v82 v83 v84 v85 v86 v87 HZw8
        clear HZw7
        repeat (go_not_at_region 11; go_step)
        refine freg11_c hxl Fpo Fop Epo Fap L6 HSF2 HZw8 _ _ _ _ _ _ _ _ _ _ _ _ _ _ _ _ _ _ _ _ _ _ _ _ _ _ _ _ _ _ _ _ _ _ _ _ _ _ _ _ _ _ _ _ _ _ _ _ _ _ _ _ _ _ _ _ _ _ _ _ _ _ _ _ _ _ _ _ _ _ _ _ _ _ _ _ _ _ _ _ _ _ _ _ _ _ _ _ _ _ _ _ _ _ _ _ _ _ _ _ _ _ _ _ _ _ _ _ _ _ _ ?_
        intro we v89 v90 v91 v92 v93 v94 v95 v96 v97 v98 v99 v100 v101 v102 v103 v104 v105 v106 v107 v108 v109 v110 v111 v112 v113 HZw9
        clear HZw8
        go_wp2
        go_ret
        exact ⟨rfl, HM3.out.trans HZw9.out (fun _ h => Or.inl h)⟩
    · have h2' : ¬ ((lb : Int) ≤ 100) := by omega
      clear hp
      go_wp2
      go_ret
      exact ⟨rfl, HM1.out⟩
  · clear hp
    go_wp2
    go_ret
    exact ⟨rfl, HM1.out⟩
end Go.Proofs.YtpodeccpibnlbaaGreatDoor
