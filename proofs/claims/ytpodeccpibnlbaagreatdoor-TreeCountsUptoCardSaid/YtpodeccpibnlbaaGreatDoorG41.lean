/- The reference's Great, walked: it answers, and lays new blocks alone. -/
import Derived.Test.YtpodeccpibnlbaaGreatDoorG40
namespace Go.Proofs.YtpodeccpibnlbaaGreatDoor
set_option linter.unusedVariables false
set_option linter.unusedSimpArgs false
open Go.RowKit
section
variable {S : Nat → Prop} {w0 : World}
set_option maxRecDepth 100000 in
set_option maxHeartbeats 8000000 in
theorem Great_c {v : Value} {p : Prg} (hv : prgV S w0 v p) (hb : (keyL p).length ≤ 1099511627776) (hU : ∀ f ∈ p.funcs, (usesI f).length ≤ 1048576) (w : World) (hw : Mod (fun _ => False) w0 w) :
    Calls Tryz.prog 19 #[v] w fun e w' => ∃ b, e = .returned (.bool b) ∧ Mod (fun _ => False) w w' := by
  have HKEY : Hd _ := ⟨Key_ans hv hb⟩
  obtain ⟨oa, la, ca, ob, lb, cb, oc, lc, cc, rfl, k1, k2, k3⟩ := hv
  have l1 := k1.hlen
  have l2 := k2.hlen
  have l3 := k3.hlen
  have b1 := k1.hbig
  have b2 := k2.hbig
  have b3 := k3.hbig
  subst l1
  subst l2
  subst l3
  have HS1 : Hd _ := ⟨k1⟩
  have HS2 : Hd _ := ⟨k2⟩
  have HS3 : Hd _ := ⟨k3⟩
  have HW : Hd _ := ⟨hw⟩
  have HUU : Hd _ := ⟨hU⟩
  clear k1 k2 k3 hw hU hb
  obtain ⟨K, hK⟩ : ∃ K, Value.string (bs (keyL p)) = K := ⟨_, rfl⟩
  obtain ⟨ks, hks⟩ : ∃ ks, bs (keyL p) = ks := ⟨_, rfl⟩
  rw [hks] at HKEY
  clear hks hK K
  obtain ⟨C, hC⟩ : ∃ C : Array Value, #[.slice oa p.structs.length ca, .slice ob p.enums.length cb, .slice oc p.funcs.length cc] = C := ⟨_, rfl⟩
  have HCC : Hd (C[0]? = some (.slice oa p.structs.length ca) ∧ C[1]? = some (.slice ob p.enums.length cb) ∧ C[2]? = some (.slice oc p.funcs.length cc)) := ⟨by rw [← hC]; exact ⟨rfl, rfl, rfl⟩⟩
  have HC : Hd _ := ⟨hC⟩
  clear hC
  have HBB : Hd (∀ W, Mod (fun _ => False) (w.alloc (.cells C 36)) W → W.heap[w.heap.size]? = some (.cells C 36 (0, 0))) := ⟨fun W h => (h.block _ (lt1_0 _ _) (fun h => h)).trans (heap_new' _ _)⟩
  by_cases hn0 : (100 : Int) < (p.structs.length : Int) + p.enums.length + p.funcs.length
  · go_enter Tryz.func19, Tryz.ntmps19
    go_wp2
    go_ret
    exact ⟨true, rfl, Mod.alloc _ _ _⟩
  go_enter Tryz.func19, Tryz.ntmps19
  go_wp2_with fail
  rw [HC.out]
  clear hn0
  go_loopg [3, 4] p.structs.length (fun gk v3 v4 wr => wr = w.alloc (.cells C 36) ∧ ∃ (i : Nat) (z : Int), v4 = .int .i64 i ∧ v3 = .int .i64 z ∧ i + gk = p.structs.length)
  case atStart => exact ⟨rfl, 0, _, rfl, rfl, by omega⟩
  case round =>
    obtain ⟨rfl, i, z, rfl, rfl, hk⟩ := hrel
    have c0 : (w.alloc (.cells C 36)).cell? ⟨w.heap.size, 0, none⟩ = some (.slice oa p.structs.length ca) := cell_in (HBB.out _ (Mod.refl _ _)) HCC.out.1
    by_cases hlt : i < p.structs.length
    · have hx0 : p.structs[i]? = some p.structs[i] := List.getElem?_eq_getElem (by omega)
      obtain ⟨x, hx⟩ : ∃ x, p.structs[i]? = some x := ⟨_, hx0⟩
      obtain ⟨b, o, oa1, la1, ca1, rfl, _, hbl, f0, f1, f2, f3, f4, hvx⟩ := HS1.out.sct hx
      have d4 := (HW.out.trans (Mod.alloc _ _ (.cells C 36)) (fun _ h => Or.inl h)).cell' f4
      clear hx hx0 f0 f1 f2 f3 f4 hbl hvx
      go_wp2_with fail
      go_roundg (gk - 1)
      case measure => omega
      case rel => exact ⟨rfl, i + 1, _, by go_num, rfl, by omega⟩
    · have c1 : (w.alloc (.cells C 36)).cell? ⟨w.heap.size, 1, none⟩ = some (.slice ob p.enums.length cb) := cell_in (HBB.out _ (Mod.refl _ _)) HCC.out.2.1
      go_wp2_with fail
      clear hlt c0 c1
      go_loopg [3, 5] p.enums.length (fun gk v3 v4 wr => wr = w.alloc (.cells C 36) ∧ ∃ (i : Nat) (z : Int), v4 = .int .i64 i ∧ v3 = .int .i64 z ∧ i + gk = p.enums.length)
      case atStart => exact ⟨rfl, 0, _, rfl, rfl, by omega⟩
      case round =>
        obtain ⟨rfl, i, z, rfl, rfl, hk⟩ := hrel
        have c1 : (w.alloc (.cells C 36)).cell? ⟨w.heap.size, 1, none⟩ = some (.slice ob p.enums.length cb) := cell_in (HBB.out _ (Mod.refl _ _)) HCC.out.2.1
        by_cases hlt : i < p.enums.length
        · have hx0 : p.enums[i]? = some p.enums[i] := List.getElem?_eq_getElem (by omega)
          obtain ⟨x, hx⟩ : ∃ x, p.enums[i]? = some x := ⟨_, hx0⟩
          obtain ⟨b, o, oa1, la1, ca1, rfl, _, hbl, f0, f1, f2, hvx⟩ := HS2.out.enm hx
          have d4 := (HW.out.trans (Mod.alloc _ _ (.cells C 36)) (fun _ h => Or.inl h)).cell' f2
          clear hx hx0 f0 f1 f2 hbl hvx
          go_wp2_with fail
          go_roundg (gk - 1)
          case measure => omega
          case rel => exact ⟨rfl, i + 1, _, by go_num, rfl, by omega⟩
        · have c2 : (w.alloc (.cells C 36)).cell? ⟨w.heap.size, 2, none⟩ = some (.slice oc p.funcs.length cc) := cell_in (HBB.out _ (Mod.refl _ _)) HCC.out.2.2
          go_wp2_with fail
          clear hlt c1 c2
          go_loopg [3, 6] p.funcs.length (fun gk v3 v4 wr => Hd (Mod (fun _ => False) (w.alloc (.cells C 36)) wr) ∧ ∃ (i : Nat) (z : Int), v4 = .int .i64 i ∧ v3 = .int .i64 z ∧ i + gk = p.funcs.length)
          case atStart => exact ⟨⟨Mod.refl _ _⟩, 0, _, rfl, rfl, by omega⟩
          case round =>
            obtain ⟨HM, i, z, rfl, rfl, hk⟩ := hrel
            obtain ⟨gk3, rfl⟩ : ∃ g, g = gk := ⟨_, rfl⟩
            have c2 : wr.cell? ⟨w.heap.size, 2, none⟩ = some (.slice oc p.funcs.length cc) := cell_in (HBB.out _ HM.out) HCC.out.2.2
            have HK : Hd (Mod (fun _ => False) w0 wr) := ⟨HW.out.trans ((Mod.alloc _ _ _).trans HM.out (fun _ h => Or.inl h)) (fun _ h => Or.inl h)⟩
            by_cases hlt : i < p.funcs.length
            · have hx0 : p.funcs[i]? = some p.funcs[i] := List.getElem?_eq_getElem (by omega)
              obtain ⟨x, hx⟩ : ∃ z_, p.funcs[i]? = some z_ := ⟨_, hx0⟩
              obtain ⟨b, o, oa1, la1, ca1, ob1, lb1, cb1, oc1, lc1, cc1, rfl, _, hbl, f0, f1, f2, f3, f4, f5, hvx⟩ := HS3.out.fun hx
              have HFV : Hd (funV S w0 (.agg #[.int .i64 x.pos, .string x.name, .slice oa1 la1 ca1, .slice ob1 lb1 cb1, .string x.result, .slice oc1 lc1 cc1]) x) := ⟨hvx⟩
              obtain ⟨_, _, _, oa2, la2, ca2, ob2, lb2, cb2, oc2, lc2, cc2, hve, hpa, hlo, hbk⟩ := hvx
              simp only [Value.agg.injEq, Array.mk.injEq, List.cons.injEq, Value.slice.injEq, true_and, and_true] at hve
              obtain ⟨⟨rfl, rfl, rfl⟩, ⟨rfl, rfl, rfl⟩, ⟨rfl, rfl, rfl⟩⟩ := hve
              have hbkl := hbk.hlen
              have hbkb := hbk.hbig
              subst hbkl
              have HBK : Hd _ := ⟨hbk⟩
              have HUX : Hd _ := ⟨HUU.out x (List.mem_of_getElem? hx)⟩
              clear hpa hlo hbk
              have d0 := HK.out.cell' f0
              have d1 := HK.out.cell' f1
              have d2 := HK.out.cell' f2
              have d3 := HK.out.cell' f3
              have d4 := HK.out.cell' f4
              have d5 := HK.out.cell' f5
              clear hx hx0 f0 f1 f2 f3 f4 f5 hbl
              repeat (go_not_at_region 16; first | go_values | go_skip | go_guarded | go_step | go_upon | go_back)
              clear d0 d1 d2 d3 d4 d5 c2
              obtain ⟨bf, hbx⟩ : ∃ b, wr.heap.size = b := ⟨_, rfl⟩
              have HA : Hd (Mod (fun _ => False) wr (wr.alloc (.cells #[.int .i64 x.pos, .string x.name, .slice oa1 la1 ca1, .slice ob1 lb1 cb1, .string x.result, .slice oc1 x.blocks.length cc1] 45))) := ⟨Mod.alloc _ _ _⟩
              have HXF : Hd ((wr.alloc (.cells #[.int .i64 x.pos, .string x.name, .slice oa1 la1 ca1, .slice ob1 lb1 cb1, .string x.result, .slice oc1 x.blocks.length cc1] 45)).heap[bf]? = some (.cells #[.int .i64 x.pos, .string x.name, .slice oa1 la1 ca1, .slice ob1 lb1 cb1, .string x.result, .slice oc1 x.blocks.length cc1] 45 (0, 0))) := ⟨by rw [← hbx]; exact heap_new' _ _⟩
              obtain ⟨W1, hW1⟩ : ∃ W1, wr.alloc (.cells #[.int .i64 x.pos, .string x.name, .slice oa1 la1 ca1, .slice ob1 lb1 cb1, .string x.result, .slice oc1 x.blocks.length cc1] 45) = W1 := ⟨_, rfl⟩
              rw [hW1] at HA HXF
              rw [hbx, hW1]
              have HMF : Hd (Mod (fun _ => False) (w.alloc (.cells C 36)) W1) := ⟨HM.out.trans HA.out (fun _ h => Or.inl h)⟩
              have HKF : Hd (Mod (fun _ => False) w0 W1) := ⟨HK.out.trans HA.out (fun _ h => Or.inl h)⟩
              clear hW1 hbx HA HM HK
              have HMW : Hd (Mod (fun _ => False) w W1) := ⟨(Mod.alloc _ _ _).trans HMF.out (fun _ h => Or.inl h)⟩
              have c2 : W1.cell? ⟨bf, 2, none⟩ = some (.slice oa1 la1 ca1) := cell_in HXF.out rfl
              have c3 : W1.cell? ⟨bf, 3, none⟩ = some (.slice ob1 lb1 cb1) := cell_in HXF.out rfl
              have c5 : W1.cell? ⟨bf, 5, none⟩ = some (.slice oc1 x.blocks.length cc1) := cell_in HXF.out rfl
              go_wp2_with fail
              · go_ret
                exact ⟨true, rfl, HMW.out⟩
              clear c2 c3 c5
              go_loopg [3, 8] x.blocks.length (fun gk v3 v4 wr => Hd (Mod (fun _ => False) W1 wr) ∧ ∃ (j : Nat) (z : Int), v4 = .int .i64 j ∧ v3 = .int .i64 z ∧ j + gk = x.blocks.length)
              case atStart => exact ⟨⟨Mod.refl _ _⟩, 0, _, rfl, rfl, by omega⟩
              case round =>
                obtain ⟨HM, j, z, rfl, rfl, hkj⟩ := hrel
                obtain ⟨gk4, rfl⟩ : ∃ g, g = gk := ⟨_, rfl⟩
                have HXX := (HM.out.block _ (Array.getElem?_eq_some_iff.1 HXF.out).1 (fun h => h)).trans HXF.out
                have HXW : Hd _ := ⟨HXX⟩
                clear HXX
                have HK : Hd (Mod (fun _ => False) w0 wr) := ⟨HKF.out.trans HM.out (fun _ h => Or.inl h)⟩
                have HMW2 : Hd (Mod (fun _ => False) w wr) := ⟨HMW.out.trans HM.out (fun _ h => Or.inl h)⟩
                have c5 : wr.cell? ⟨bf, 5, none⟩ = some (.slice oc1 x.blocks.length cc1) := cell_in HXW.out rfl
                by_cases hltj : j < x.blocks.length
                · have hx0 : x.blocks[j]? = some x.blocks[j] := List.getElem?_eq_getElem (by omega)
                  obtain ⟨y, hx⟩ : ∃ z_, x.blocks[j]? = some z_ := ⟨_, hx0⟩
                  obtain ⟨b, o, oa3, la3, ca3, ob3, lb3, cb3, oc3, lc3, cc3, od3, ld3, cd3, oe3, le3, ce3, rfl, _, hbl, f0, f1, f2, f3, f4, f5, f6, f7, f8, f9, f10, hvx⟩ := HBK.out.blk hx
                  obtain ⟨_, _, oa4, la4, ca4, ob4, lb4, cb4, oc4, lc4, cc4, od4, ld4, cd4, oe4, le4, ce4, hve, hst, htr⟩ := hvx
                  simp only [Value.agg.injEq, Array.mk.injEq, List.cons.injEq, Value.slice.injEq, true_and, and_true] at hve
                  obtain ⟨⟨rfl, rfl, rfl⟩, ⟨rfl, rfl, rfl⟩, ⟨rfl, rfl, rfl⟩, ⟨rfl, rfl, rfl⟩, ⟨rfl, rfl, rfl⟩⟩ := hve
                  have hl1 := hst.hlen
                  have hstb := hst.hbig
                  subst hl1
                  have HST : Hd _ := ⟨hst⟩
                  have HG2 : Hd _ := ⟨f2⟩
                  have HG8 : Hd _ := ⟨f8⟩
                  have HG9 : Hd _ := ⟨f9⟩
                  have HG10 : Hd _ := ⟨f10⟩
                  clear hst htr
                  clear hx hx0 f0 f1 f2 f3 f4 f5 f6 f7 f8 f9 f10 hbl
                  repeat (go_not_at_region 22; first | go_values | go_skip | go_guarded | go_step | go_upon | go_back)
                  clear c5
                  have e2 : ∀ n, (wr.drewN n).cell? ⟨b, o + j * 11 + 2, none⟩ = some (.slice oa3 y.stmts.length ca3) := fun n => HK.out.cell' HG2.out
                  have e8 : ∀ n, (wr.drewN n).cell? ⟨b, o + j * 11 + 8, none⟩ = some (.slice oc3 lc3 cc3) := fun n => HK.out.cell' HG8.out
                  have e9 : ∀ n, (wr.drewN n).cell? ⟨b, o + j * 11 + 9, none⟩ = some (.slice od3 ld3 cd3) := fun n => HK.out.cell' HG9.out
                  have e10 : ∀ n, (wr.drewN n).cell? ⟨b, o + j * 11 + 10, none⟩ = some (.slice oe3 le3 ce3) := fun n => HK.out.cell' HG10.out
                  have e5 : ∀ n, (wr.drewN n).cell? ⟨bf, 5, none⟩ = some (.slice (some ⟨b, o, none⟩) x.blocks.length cc1) := fun n => cell_in (t := 45) HXW.out rfl
                  go_quiet (fail)
                  obtain ⟨W2, hW2⟩ : ∃ W2, wr.drewN nq = W2 := ⟨_, rfl⟩
                  have k2 : W2.cell? ⟨b, o + j * 11 + 2, none⟩ = some (.slice oa3 y.stmts.length ca3) := by rw [← hW2]; exact e2 nq
                  have k5 : W2.cell? ⟨bf, 5, none⟩ = some (.slice (some ⟨b, o, none⟩) x.blocks.length cc1) := by rw [← hW2]; exact e5 nq
                  have HM2 : Hd (Mod (fun _ => False) wr W2) := ⟨by rw [← hW2]; exact modN _ _⟩
                  rw [hW2]
                  clear hW2 e2 e8 e9 e10 e5
                  go_wp2_with fail
                  · go_ret
                    exact ⟨true, rfl, HMW2.out.trans HM2.out (fun _ h => Or.inl h)⟩
                  go_loopg [3, 9] y.stmts.length (fun gk v3 v4 wr' => wr' = W2 ∧ ∃ (k : Nat) (z : Int), v4 = .int .i64 k ∧ v3 = .int .i64 z ∧ k + gk = y.stmts.length)
                  case atStart => exact ⟨rfl, 0, _, rfl, rfl, by omega⟩
                  case round =>
                    obtain ⟨rfl, k, z, rfl, rfl, hkk⟩ := hrel
                    have HK : Hd (Mod (fun _ => False) w0 wr) := ⟨HK.out.trans HM2.out (fun _ h => Or.inl h)⟩
                    by_cases hltk : k < y.stmts.length
                    · have hx0 : y.stmts[k]? = some y.stmts[k] := List.getElem?_eq_getElem (by omega)
                      obtain ⟨s, hx⟩ : ∃ z_, y.stmts[k]? = some z_ := ⟨_, hx0⟩
                      obtain ⟨b2, o2, oa6, la6, ca6, ob6, lb6, cb6, rfl, _, hbl, f0, f1, f2, f3, f4, f5, f6, f7, hvx⟩ := HST.out.stm hx
                      obtain ⟨_, _, _, _, _, _, _⟩ := hvx
                      have d7 := HK.out.cell' f7
                      clear hx hx0 f0 f1 f2 f3 f4 f5 f6 f7 hbl
                      go_wp2_with fail
                      go_roundg (gk - 1)
                      case measure => omega
                      case rel => exact ⟨rfl, k + 1, _, by go_num, rfl, by omega⟩
                    · go_wp2_with fail
                      go_roundg (gk4 - 1)
                      case measure => omega
                      case rel => exact ⟨⟨HM.out.trans HM2.out (fun _ h => Or.inl h)⟩, j + 1, _, by go_num, rfl, by omega⟩
                · have k0 : wr.cell? ⟨bf, 0, none⟩ = some (.int .i64 x.pos) := cell_in HXW.out rfl
                  have k1 : wr.cell? ⟨bf, 1, none⟩ = some (.string x.name) := cell_in HXW.out rfl
                  have k2 : wr.cell? ⟨bf, 2, none⟩ = some (.slice oa1 la1 ca1) := cell_in HXW.out rfl
                  have k3 : wr.cell? ⟨bf, 3, none⟩ = some (.slice ob1 lb1 cb1) := cell_in HXW.out rfl
                  have k4 : wr.cell? ⟨bf, 4, none⟩ = some (.string x.result) := cell_in HXW.out rfl
                  have k5 : wr.cell? ⟨bf, 5, none⟩ = some (.slice oc1 x.blocks.length cc1) := cell_in HXW.out rfl
                  go_wp2_with fail
                  refine (rUses_c HFV.out HUX.out wr HK.out).mono ?_
                  rintro e w2 ⟨ou, cu, rfl, hM2, hSU⟩
                  have HMU : Hd (Mod (fun _ => False) w w2) := ⟨HMW2.out.trans hM2 (fun _ h => Or.inl h)⟩
                  have HMC : Hd (Mod (fun _ => False) (w.alloc (.cells C 36)) w2) := ⟨HMF.out.trans (HM.out.trans hM2 (fun _ h => Or.inl h)) (fun _ h => Or.inl h)⟩
                  have HSU : Hd _ := ⟨hSU⟩
                  have hub := hSU.hbig
                  clear hM2 hSU k0 k1 k2 k3 k4 k5 c5
                  go_wp2_with fail
                  go_loopg [3, 11] (usesI x).length (fun gk v3 v4 wr' => wr' = w2 ∧ ∃ (k : Nat) (z : Int), v4 = .int .i64 k ∧ v3 = .int .i64 z ∧ k + gk = (usesI x).length)
                  case atStart => exact ⟨rfl, 0, _, rfl, rfl, by omega⟩
                  case round =>
                    obtain ⟨rfl, k, z, rfl, rfl, hkk⟩ := hrel
                    by_cases hltk : k < (usesI x).length
                    · have hx0 : (usesI x)[k]? = some (usesI x)[k] := List.getElem?_eq_getElem (by omega)
                      obtain ⟨y, hx⟩ : ∃ z_, (usesI x)[k]? = some z_ := ⟨_, hx0⟩
                      obtain ⟨b, o, oa6, la6, ca6, rfl, _, hbl, f0, f1, hvx⟩ := HSU.out.pl' hx
                      clear hx hx0 f0 hbl hvx
                      go_wp2_with fail
                      go_roundg (gk - 1)
                      case measure => omega
                      case rel => exact ⟨rfl, k + 1, _, by go_num, rfl, by omega⟩
                    · go_wp2_with fail
                      go_roundg (gk3 - 1)
                      case measure => omega
                      case rel => exact ⟨HMC, i + 1, _, by go_num, rfl, by omega⟩
            · have HMW : Hd (Mod (fun _ => False) w wr) := ⟨(Mod.alloc _ _ _).trans HM.out (fun _ h => Or.inl h)⟩
              have c0 : wr.cell? ⟨w.heap.size, 0, none⟩ = some (.slice oa p.structs.length ca) := cell_in (HBB.out _ HM.out) HCC.out.1
              have c1 : wr.cell? ⟨w.heap.size, 1, none⟩ = some (.slice ob p.enums.length cb) := cell_in (HBB.out _ HM.out) HCC.out.2.1
              by_cases hz : 5000 < z
              · go_wp2
                go_ret
                exact ⟨true, rfl, HMW.out⟩
              · go_wp2_with fail
                refine (HKEY.out wr HK.out).mono ?_
                rintro e w2 ⟨rfl, hM2⟩
                have HMU : Hd (Mod (fun _ => False) w w2) := ⟨HMW.out.trans hM2 (fun _ h => Or.inl h)⟩
                clear hM2
                go_wp2
                go_ret
                exact ⟨_, rfl, HMU.out⟩
end
end Go.Proofs.YtpodeccpibnlbaaGreatDoor
