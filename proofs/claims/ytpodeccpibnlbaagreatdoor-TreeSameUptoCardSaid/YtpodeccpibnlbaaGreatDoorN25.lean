/- The law's spoil, walked: it writes into its argument's rows alone. -/
import Derived.Test.YtpodeccpibnlbaaGreatDoorN24
import Derived.Test.YtpodeccpibnlbaaGreatDoorG04
namespace Go.Proofs.YtpodeccpibnlbaaGreatDoor
set_option linter.unusedVariables false
set_option linter.unusedSimpArgs false
open Go.RowKit
section
theorem cell_b {w : World} {k j : Nat} {cs : Array Value} {t : TypeId} {fr : Nat × Nat} {v : Value} (h : w.heap[k]? = some (.cells cs t fr)) (hv : cs[j]? = some v) : w.cell? ⟨k, j, none⟩ = some v := by simp [World.cell?, h, hv]
variable {B D : Nat} {W : World}
set_option maxRecDepth 100000 in
set_option maxHeartbeats 16000000 in
theorem spoil_c {v : Value} {p : Prg} (hv : prgV (Nb B W) W v p) (hB : B ≤ W.heap.size) (hP : cP p ≤ D) (hD : D ≤ 1099511627776) (w : World) (hw : Mod (fun _ => False) W w) :
    Calls Tryz.prog 25 #[v] w fun e w' => (∃ u, e = .returned u) ∧ Mod (fun k => B ≤ k ∧ k < W.heap.size) W w' := by
  obtain ⟨oa, la, ca, ob, lb, cb, oc, lc, cc, rfl, k1, k2, k3⟩ := hv
  have hl1 := k1.hlen
  have hl2 := k2.hlen
  have hl3 := k3.hlen
  have hb1 := k1.hbig
  have hb2 := k2.hbig
  have hb3 := k3.hbig
  subst hl1
  subst hl2
  subst hl3
  have HS1 : Hd _ := ⟨k1⟩
  have HS2 : Hd _ := ⟨k2⟩
  have HS3 : Hd _ := ⟨k3⟩
  have HDD : Hd _ := ⟨hD⟩
  have HWS : Hd (W.heap.size ≤ w.heap.size) := ⟨hw.size⟩
  have HF0 : Hd (Sft B W 0 (w.alloc (.cells #[.slice oa p.structs.length ca, .slice ob p.enums.length cb, .slice oc p.funcs.length cc] 36))) := ⟨Sft.start hB (hw.trans (Mod.alloc _ _ _) (fun _ h => Or.inl h))⟩
  have HPP : Hd _ := ⟨hP⟩
  have HBX : Hd (∀ w', Mod (fun k => B ≤ k ∧ k < W.heap.size) (w.alloc (.cells #[.slice oa p.structs.length ca, .slice ob p.enums.length cb, .slice oc p.funcs.length cc] 36)) w' → w'.cell? ⟨w.heap.size, 0, none⟩ = some (.slice oa p.structs.length ca) ∧ w'.cell? ⟨w.heap.size, 1, none⟩ = some (.slice ob p.enums.length cb) ∧ w'.cell? ⟨w.heap.size, 2, none⟩ = some (.slice oc p.funcs.length cc)) := ⟨fun w' h => by
    have q := (h.block _ (lt1_0 _ _) (fun h => by have := HWS.out; omega)).trans (heap_new' _ _)
    exact ⟨cell_b q rfl, cell_b q rfl, cell_b q rfl⟩⟩
  clear k1 k2 k3 hw hP hD hB
  go_enter Tryz.func25, Tryz.ntmps25
  go_wp2_with fail
  go_loopg [2] p.structs.length (fun gk v2 wr => Hd (Mod (fun k => B ≤ k ∧ k < W.heap.size) (w.alloc (.cells #[.slice oa p.structs.length ca, .slice ob p.enums.length cb, .slice oc p.funcs.length cc] 36)) wr) ∧ ∃ (i d : Nat), v2 = .int .i64 i ∧ i + gk = p.structs.length ∧ Hd (d + (((p.structs.drop i).map cS).sum + (p.enums.length + (p.funcs.map cF).sum)) ≤ D ∧ Sft B W d wr))
  case atStart => exact ⟨⟨Mod.refl _ _⟩, 0, _, rfl, by omega, ⟨by have h := HPP.out; unfold cP at h; simp only [List.drop_zero]; omega, HF0.out⟩⟩
  case round =>
    obtain ⟨HM, i2, d, rfl, hk2, HR⟩ := hrel
    obtain ⟨gk2, rfl⟩ : ∃ g, g = gk := ⟨_, rfl⟩
    obtain ⟨c0, c1, c2⟩ := HBX.out wr HM.out
    by_cases hlt2 : i2 < p.structs.length
    · have hx0 : p.structs[i2]? = some p.structs[i2] := List.getElem?_eq_getElem (by omega)
      obtain ⟨x, hxx⟩ : ∃ x_, p.structs[i2]? = some x_ := ⟨_, hx0⟩
      clear hx0
      obtain ⟨b, o, oa1, la1, ca1, hoa, hS, hlt, f0, f1, f2, f3, f4, hvx⟩ := HS1.out.sct hxx
      subst hoa
      obtain ⟨_, hnm, oa2, la2, ca2, hve, hfi⟩ := hvx
      simp only [Value.agg.injEq, Array.mk.injEq, List.cons.injEq, Value.slice.injEq, true_and, and_true] at hve
      obtain ⟨rfl, rfl, rfl⟩ := hve
      have hfl := hfi.hlen
      have hfb := hfi.hbig
      subst hfl
      have HFI : Hd _ := ⟨hfi⟩
      have F4 : Hd _ := ⟨f4⟩
      obtain ⟨s1, q1, hz1⟩ := HR.out.2.str hlt f1
      have hs1 : s1.size ≤ 2199023255552 := by have h1 := HR.out.1; have h2 := HDD.out; have h3 : x.name.size ≤ 1048576 := hnm; omega
      have ht1 := z_size s1
      have HZ1 : Hd _ := ⟨hz1⟩
      clear hz1
      have z1 : ∀ j, wr.frozen? ⟨b, j, none⟩ = false := fun j => HR.out.2.frz hS j
      have HQ0 : Hd (Sft B W (d + 1) (wr.setCell ⟨b, o + i2 * 5 + 1, none⟩ (.string (s1 ++ ({ data := #[122] } : ByteArray))))) := ⟨HR.out.2.setStr hS f1 HZ1.out⟩
      have HM2 : Hd (Mod (fun k => B ≤ k ∧ k < W.heap.size) _ (wr.setCell ⟨b, o + i2 * 5 + 1, none⟩ (.string (s1 ++ ({ data := #[122] } : ByteArray))))) := ⟨HM.out.trans (Mod.setCell (S := fun k => B ≤ k ∧ k < W.heap.size) _ _ _ ⟨hS.1, hlt⟩) (fun _ h => Or.inl h)⟩
      have HRS : Hd (d + 1 + ((x.fields.length - 0) + (((p.structs.drop (i2 + 1)).map cS).sum + (p.enums.length + (p.funcs.map cF).sum))) ≤ D) := ⟨by have h := HR.out.1; rw [drop_sum cS hxx] at h; unfold cS at h ⊢; omega⟩
      clear hfi hnm f0 f1 f2 f3 f4
      go_wp2_with fail
      clear c0 c1 c2 q1 z1 hs1 ht1
      go_loopg [3] x.fields.length (fun gk v3 wr => Hd (Mod (fun k => B ≤ k ∧ k < W.heap.size) (w.alloc (.cells #[.slice (some ⟨b, o, none⟩) p.structs.length ca, .slice ob p.enums.length cb, .slice oc p.funcs.length cc] 36)) wr) ∧ ∃ (i d : Nat), v3 = .int .i64 i ∧ i + gk = x.fields.length ∧ Hd (d + ((x.fields.length - i) + (((p.structs.drop (i2 + 1)).map cS).sum + (p.enums.length + (p.funcs.map cF).sum))) ≤ D ∧ Sft B W d wr))
      case atStart => exact ⟨HM2, 0, _, rfl, by omega, ⟨HRS.out, HQ0.out⟩⟩
      case round =>
        clear HM HR HQ0 HM2 HRS HZ1
        obtain ⟨HM, i3, d, rfl, hk3, HR⟩ := hrel
        obtain ⟨gk3, rfl⟩ : ∃ g, g = gk := ⟨_, rfl⟩
        obtain ⟨c0, _, _⟩ := HBX.out wr HM.out
        have e4 := HR.out.2.sl hlt F4.out
        by_cases hlt3 : i3 < x.fields.length
        · have hx0 : x.fields[i3]? = some x.fields[i3] := List.getElem?_eq_getElem (by omega)
          obtain ⟨y, hxy⟩ : ∃ x_, x.fields[i3]? = some x_ := ⟨_, hx0⟩
          clear hx0
          obtain ⟨b2, o2, hoa, hS2, hlt2, g0, _, hyv⟩ := HFI.out.vr hxy
          subst hoa
          obtain ⟨s3, q3, hz3⟩ := HR.out.2.str hlt2 g0
          have hs3 : s3.size ≤ 2199023255552 := by have h1 := HR.out.1; have h2 := HDD.out; have h3 : y.name.size ≤ 1048576 := hyv.2.1; omega
          have ht3 := z_size s3
          have HZ3 : Hd _ := ⟨hz3⟩
          clear hz3
          have z2 : ∀ j, wr.frozen? ⟨b2, j, none⟩ = false := fun j => HR.out.2.frz hS2 j
          have HS3b : Hd (Sft B W (d + 1) (wr.setCell ⟨b2, o2 + i3 * 2, none⟩ (.string (s3 ++ ({ data := #[122] } : ByteArray))))) := ⟨HR.out.2.setStr hS2 g0 HZ3.out⟩
          have HM3 : Hd (Mod (fun k => B ≤ k ∧ k < W.heap.size) _ (wr.setCell ⟨b2, o2 + i3 * 2, none⟩ (.string (s3 ++ ({ data := #[122] } : ByteArray))))) := ⟨HM.out.trans (Mod.setCell (S := fun k => B ≤ k ∧ k < W.heap.size) _ _ _ ⟨hS2.1, hlt2⟩) (fun _ h => Or.inl h)⟩
          clear hxy hyv g0 hS2 hlt2
          go_wp2_with fail
          go_roundg (gk3 - 1)
          case measure => omega
          case rel => exact ⟨HM3, i3 + 1, _, by go_num, by omega, ⟨by have h := HR.out.1; omega, HS3b.out⟩⟩
        · go_wp2_with fail
          clear hlt3 c0 e4
          have HXS : Hd _ := ⟨drop_sum cS hxx⟩
          go_roundg (gk2 - 1)
          case measure => omega
          case rel => exact ⟨HM, i2 + 1, _, by go_num, by omega, ⟨by have h := HR.out.1; omega, HR.out.2⟩⟩
    · go_wp2_with fail
      clear c0 c1 c2
      go_loopg [4] p.enums.length (fun gk v4 wr => Hd (Mod (fun k => B ≤ k ∧ k < W.heap.size) (w.alloc (.cells #[.slice oa p.structs.length ca, .slice ob p.enums.length cb, .slice oc p.funcs.length cc] 36)) wr) ∧ ∃ (i d : Nat), v4 = .int .i64 i ∧ i + gk = p.enums.length ∧ Hd (d + ((p.enums.length - i) + (p.funcs.map cF).sum) ≤ D ∧ Sft B W d wr))
      case atStart => exact ⟨HM, 0, _, rfl, by omega, ⟨by have h := HR.out.1; rw [List.drop_eq_nil_of_le (by omega : p.structs.length ≤ i2)] at h; simp at h; omega, HR.out.2⟩⟩
      case round =>
        clear HM HR
        obtain ⟨HM, i4, d, rfl, hk4, HR⟩ := hrel
        obtain ⟨gk4, rfl⟩ : ∃ g, g = gk := ⟨_, rfl⟩
        obtain ⟨c0, c1, c2⟩ := HBX.out wr HM.out
        by_cases hlt4 : i4 < p.enums.length
        · have hx0 : p.enums[i4]? = some p.enums[i4] := List.getElem?_eq_getElem (by omega)
          obtain ⟨x, hxx⟩ : ∃ x_, p.enums[i4]? = some x_ := ⟨_, hx0⟩
          clear hx0
          obtain ⟨b, o, oa1, la1, ca1, hoa, hS, hlt, f0, f1, f2, hvx⟩ := HS2.out.enm hxx
          subst hoa
          have hnm := hvx.2.1
          obtain ⟨s1, q1, hz1⟩ := HR.out.2.str hlt f1
          have hs1 : s1.size ≤ 2199023255552 := by have h1 := HR.out.1; have h2 := HDD.out; have h3 : x.name.size ≤ 1048576 := hnm; omega
          have ht1 := z_size s1
          have HZ1 : Hd _ := ⟨hz1⟩
          clear hz1
          have z1 : ∀ j, wr.frozen? ⟨b, j, none⟩ = false := fun j => HR.out.2.frz hS j
          have HQ0 : Hd (Sft B W (d + 1) (wr.setCell ⟨b, o + i4 * 3 + 1, none⟩ (.string (s1 ++ ({ data := #[122] } : ByteArray))))) := ⟨HR.out.2.setStr hS f1 HZ1.out⟩
          have HM2 : Hd (Mod (fun k => B ≤ k ∧ k < W.heap.size) _ (wr.setCell ⟨b, o + i4 * 3 + 1, none⟩ (.string (s1 ++ ({ data := #[122] } : ByteArray))))) := ⟨HM.out.trans (Mod.setCell (S := fun k => B ≤ k ∧ k < W.heap.size) _ _ _ ⟨hS.1, hlt⟩) (fun _ h => Or.inl h)⟩
          clear hxx hvx hnm f0 f1 f2
          go_wp2_with fail
          go_roundg (gk4 - 1)
          case measure => omega
          case rel => exact ⟨HM2, i4 + 1, _, by go_num, by omega, ⟨by have h := HR.out.1; omega, HQ0.out⟩⟩
        · go_wp2_with fail
          clear hlt4 c0 c1 c2
          go_loopg [5] p.funcs.length (fun gk v5 wr => Hd (Mod (fun k => B ≤ k ∧ k < W.heap.size) (w.alloc (.cells #[.slice oa p.structs.length ca, .slice ob p.enums.length cb, .slice oc p.funcs.length cc] 36)) wr) ∧ ∃ (i d : Nat), v5 = .int .i64 i ∧ i + gk = p.funcs.length ∧ Hd (d + (((p.funcs.drop i).map cF).sum) ≤ D ∧ Sft B W d wr))
          case atStart => exact ⟨HM, 0, _, rfl, by omega, ⟨by have h := HR.out.1; simp only [List.drop_zero]; omega, HR.out.2⟩⟩
          case round =>
            clear HM HR
            obtain ⟨HM, i5, d, rfl, hk5, HR⟩ := hrel
            obtain ⟨gk5, rfl⟩ : ∃ g, g = gk := ⟨_, rfl⟩
            obtain ⟨_, _, c2⟩ := HBX.out wr HM.out
            by_cases hlt5 : i5 < p.funcs.length
            · have hx0 : p.funcs[i5]? = some p.funcs[i5] := List.getElem?_eq_getElem (by omega)
              obtain ⟨x, hxx⟩ : ∃ x_, p.funcs[i5]? = some x_ := ⟨_, hx0⟩
              clear hx0
              obtain ⟨b, o, oa1, la1, ca1, ob1, lb1, cb1, oc1, lc1, cc1, hoa, hS, hlt, f0, f1, f2, f3, f4, f5, hvx⟩ := HS3.out.fun hxx
              subst hoa
              obtain ⟨_, hnm, hrs, oa2, la2, ca2, ob2, lb2, cb2, oc2, lc2, cc2, hve, _, _, hbk⟩ := hvx
              simp only [Value.agg.injEq, Array.mk.injEq, List.cons.injEq, Value.slice.injEq, true_and, and_true] at hve
              obtain ⟨⟨rfl, rfl, rfl⟩, ⟨rfl, rfl, rfl⟩, ⟨rfl, rfl, rfl⟩⟩ := hve
              have hl1 := hbk.hlen
              have hlb1 := hbk.hbig
              subst hl1
              have HBK : Hd _ := ⟨hbk⟩
              obtain ⟨m0, q0⟩ := HR.out.2.int hlt f0
              obtain ⟨s1, q1, hz1⟩ := HR.out.2.str hlt f1
              have hs1 : s1.size ≤ 2199023255552 := by have h1 := HR.out.1; have h2 := HDD.out; have h3 : x.name.size ≤ 1048576 := hnm; omega
              have ht1 := z_size s1
              have HZ1 : Hd _ := ⟨hz1⟩
              clear hz1
              have q2 := HR.out.2.sl hlt f2
              have q3 := HR.out.2.sl hlt f3
              obtain ⟨s4, q4, _⟩ := HR.out.2.str hlt f4
              have q5 := HR.out.2.sl hlt f5
              have a1 : ∀ O, (wr.alloc O).cell? ⟨b, o + i5 * 6 + 1, none⟩ = some (.string s1) := fun O => Lib.cell?_alloc_some O q1
              have zz1 : ∀ O : Obj, ∀ j, (wr.alloc O).frozen? ⟨b, j, none⟩ = false := fun O j => (HR.out.2.alloc O).frz hS j
              have a2 : ∀ O, (wr.alloc O).cell? ⟨w.heap.size, 2, none⟩ = some (.slice (some ⟨b, o, none⟩) p.funcs.length cc) := fun O => Lib.cell?_alloc_some O c2
              have HWR : Hd (W.heap.size ≤ wr.heap.size) := ⟨HR.out.2.mod.size⟩
              have HQ0 : Hd (Sft B W (d + 1) ((wr.alloc (.cells #[.int .i64 m0, .string s1, .slice oa1 la1 ca1, .slice ob1 lb1 cb1, .string s4, .slice oc1 x.blocks.length cc1] 45)).setCell ⟨b, o + i5 * 6 + 1, none⟩ (.string (s1 ++ ({ data := #[122] } : ByteArray))))) := ⟨(HR.out.2.alloc _).setStr hS f1 HZ1.out⟩
              have HMX : Hd (Mod (fun k => B ≤ k ∧ k < W.heap.size) (wr.alloc (.cells #[.int .i64 m0, .string s1, .slice oa1 la1 ca1, .slice ob1 lb1 cb1, .string s4, .slice oc1 x.blocks.length cc1] 45)) ((wr.alloc (.cells #[.int .i64 m0, .string s1, .slice oa1 la1 ca1, .slice ob1 lb1 cb1, .string s4, .slice oc1 x.blocks.length cc1] 45)).setCell ⟨b, o + i5 * 6 + 1, none⟩ (.string (s1 ++ ({ data := #[122] } : ByteArray))))) := ⟨Mod.setCell (S := fun k => B ≤ k ∧ k < W.heap.size) _ _ _ ⟨hS.1, hlt⟩⟩
              have HFB : Hd (∀ w', Mod (fun k => B ≤ k ∧ k < W.heap.size) (wr.alloc (.cells #[.int .i64 m0, .string s1, .slice oa1 la1 ca1, .slice ob1 lb1 cb1, .string s4, .slice oc1 x.blocks.length cc1] 45)) w' → (w'.cell? ⟨wr.heap.size, 5, none⟩ = some (.slice oc1 x.blocks.length cc1) ∧ True)) := ⟨fun w' h => by
                have q := (h.block _ (lt1_0 _ _) (fun h => by have := HWR.out; omega)).trans (heap_new' _ _)
                exact ⟨cell_b q rfl, trivial⟩⟩
              have HMG : Hd (Mod (fun k => B ≤ k ∧ k < W.heap.size) (w.alloc (.cells #[.slice oa p.structs.length ca, .slice ob p.enums.length cb, .slice (some ⟨b, o, none⟩) p.funcs.length cc] 36)) (wr.alloc (.cells #[.int .i64 m0, .string s1, .slice oa1 la1 ca1, .slice ob1 lb1 cb1, .string s4, .slice oc1 x.blocks.length cc1] 45))) := ⟨by
                have h := HM.out.trans (Mod.alloc (fun _ => False) wr (.cells #[.int .i64 m0, .string s1, .slice oa1 la1 ca1, .slice ob1 lb1 cb1, .string s4, .slice oc1 x.blocks.length cc1] 45)) (fun _ h => h.elim)
                exact h⟩
              have HRS : Hd (d + 1 + (((x.blocks.drop 0).map cB).sum + ((p.funcs.drop (i5 + 1)).map cF).sum) ≤ D) := ⟨by have h := HR.out.1; rw [drop_sum cF hxx] at h; unfold cF at h ⊢; simp only [List.drop_zero]; omega⟩
              clear f0 f1 f2 f3 f4 f5 hbk hnm hrs hxx
              go_wp2_with fail
              clear c2 q0 q1 q2 q3 q4 q5 a1 zz1 a2 hs1 ht1
              obtain ⟨bF, hbF⟩ : ∃ x_, wr.heap.size = x_ := ⟨_, rfl⟩
              obtain ⟨WF, hWF⟩ : ∃ x_, wr.alloc (.cells #[.int .i64 m0, .string s1, .slice oa1 la1 ca1, .slice ob1 lb1 cb1, .string s4, .slice oc1 x.blocks.length cc1] 45) = x_ := ⟨_, rfl⟩
              rw [hbF, hWF] at HFB
              rw [hWF] at HMG HMX HQ0
              rw [hWF]
              try rw [hbF]
              clear hbF hWF
              go_loopg [7] x.blocks.length (fun gk v7 wr => Hd (Mod (fun k => B ≤ k ∧ k < W.heap.size) WF wr) ∧ ∃ (i d : Nat), v7 = .int .i64 i ∧ i + gk = x.blocks.length ∧ Hd (d + (((x.blocks.drop i).map cB).sum + ((p.funcs.drop (i5 + 1)).map cF).sum) ≤ D ∧ Sft B W d wr))
              case atStart => exact ⟨HMX, 0, _, rfl, by omega, ⟨HRS.out, HQ0.out⟩⟩
              case round =>
                clear HM HR HQ0 HMX HRS HZ1
                obtain ⟨HM, i7, d, rfl, hk7, HR⟩ := hrel
                obtain ⟨gk7, rfl⟩ : ∃ g, g = gk := ⟨_, rfl⟩
                obtain ⟨c5, _⟩ := HFB.out wr HM.out
                by_cases hlt7 : i7 < x.blocks.length
                · have hx0 : x.blocks[i7]? = some x.blocks[i7] := List.getElem?_eq_getElem (by omega)
                  obtain ⟨y, hxy⟩ : ∃ x_, x.blocks[i7]? = some x_ := ⟨_, hx0⟩
                  clear hx0
                  obtain ⟨b, o, oa3, la3, ca3, ob3, lb3, cb3, oc3, lc3, cc3, od3, ld3, cd3, oe3, le3, ce3, hoa, hS, hlt, f0, f1, f2, f3, f4, f5, f6, f7, f8, f9, f10, hvx⟩ := HBK.out.blk hxy
                  subst hoa
                  obtain ⟨_, hnm, oa4, la4, ca4, ob4, lb4, cb4, oc4, lc4, cc4, od4, ld4, cd4, oe4, le4, ce4, hve, hst, htr⟩ := hvx
                  simp only [Value.agg.injEq, Array.mk.injEq, List.cons.injEq, Value.slice.injEq, true_and, and_true] at hve
                  obtain ⟨⟨rfl, rfl, rfl⟩, ⟨rfl, rfl, rfl⟩, ⟨rfl, rfl, rfl⟩, ⟨rfl, rfl, rfl⟩, ⟨rfl, rfl, rfl⟩⟩ := hve
                  obtain ⟨_, _, _, _, oe1, le1, ce1, of1, lf1, cf1, og1, lg1, cg1, oh1, lh1, ch1, hve, _, _, htb, hta⟩ := htr
                  simp only [trmA, Value.agg.injEq, Array.mk.injEq, List.cons.injEq, Value.slice.injEq, true_and, and_true] at hve
                  obtain ⟨⟨rfl, rfl, rfl⟩, ⟨rfl, rfl, rfl⟩, ⟨rfl, rfl, rfl⟩, ⟨rfl, rfl, rfl⟩⟩ := hve
                  have hl1 := hst.hlen
                  have hl2 := htb.hlen
                  have hl3 := hta.hlen
                  have hlb1 := hst.hbig
                  have hlb2 := htb.hbig
                  have hlb3 := hta.hbig
                  subst hl1
                  subst hl2
                  subst hl3
                  have HST : Hd _ := ⟨hst⟩
                  have HTB : Hd _ := ⟨htb⟩
                  have HTA : Hd _ := ⟨hta⟩
                  obtain ⟨n0, q0⟩ := HR.out.2.int hlt f0
                  obtain ⟨s1, q1, hz1⟩ := HR.out.2.str hlt f1
                  have hs1 : s1.size ≤ 2199023255552 := by have h1 := HR.out.1; have h2 := HDD.out; have h3 : y.name.size ≤ 1048576 := hnm; omega
                  have ht1 := z_size s1
                  have HZ1 : Hd _ := ⟨hz1⟩
                  clear hz1
                  have q2 := HR.out.2.sl hlt f2
                  obtain ⟨n3, q3⟩ := HR.out.2.int hlt f3
                  obtain ⟨n4, q4⟩ := HR.out.2.int hlt f4
                  obtain ⟨s5, q5, _⟩ := HR.out.2.str hlt f5
                  have q6 := HR.out.2.sl hlt f6
                  obtain ⟨s7, q7, _⟩ := HR.out.2.str hlt f7
                  have q8 := HR.out.2.sl hlt f8
                  have q9 := HR.out.2.sl hlt f9
                  have q10 := HR.out.2.sl hlt f10
                  have z1 : ∀ j, wr.frozen? ⟨b, j, none⟩ = false := fun j => HR.out.2.frz hS j
                  have a1 : ∀ O, (wr.alloc O).cell? ⟨b, o + i7 * 11 + 1, none⟩ = some (.string s1) := fun O => Lib.cell?_alloc_some O q1
                  have zz1 : ∀ O : Obj, ∀ j, (wr.alloc O).frozen? ⟨b, j, none⟩ = false := fun O j => (HR.out.2.alloc O).frz hS j
                  have a5 : ∀ O, (wr.alloc O).cell? ⟨bF, 5, none⟩ = some (.slice (some ⟨b, o, none⟩) x.blocks.length cc1) := fun O => Lib.cell?_alloc_some O c5
                  have hWr : W.heap.size ≤ wr.heap.size := HR.out.2.mod.size
                  have HWR : Hd _ := ⟨hWr⟩
                  have HQ0 : Hd (Sft B W (d + 1) ((wr.alloc (.cells #[.int .i64 n0, .string s1, .slice oa3 y.stmts.length ca3, .int .i64 n3, .int .i64 n4, .string s5, .slice ob3 lb3 cb3, .string s7, .slice oc3 lc3 cc3, .slice od3 y.term.blocks.length cd3, .slice oe3 y.term.arms.length ce3] 64)).setCell ⟨b, o + i7 * 11 + 1, none⟩ (.string (s1 ++ ({ data := #[122] } : ByteArray))))) := ⟨(HR.out.2.alloc _).setStr hS f1 HZ1.out⟩
                  have HMX : Hd (Mod (fun k => B ≤ k ∧ k < W.heap.size) (wr.alloc (.cells #[.int .i64 n0, .string s1, .slice oa3 y.stmts.length ca3, .int .i64 n3, .int .i64 n4, .string s5, .slice ob3 lb3 cb3, .string s7, .slice oc3 lc3 cc3, .slice od3 y.term.blocks.length cd3, .slice oe3 y.term.arms.length ce3] 64)) ((wr.alloc (.cells #[.int .i64 n0, .string s1, .slice oa3 y.stmts.length ca3, .int .i64 n3, .int .i64 n4, .string s5, .slice ob3 lb3 cb3, .string s7, .slice oc3 lc3 cc3, .slice od3 y.term.blocks.length cd3, .slice oe3 y.term.arms.length ce3] 64)).setCell ⟨b, o + i7 * 11 + 1, none⟩ (.string (s1 ++ ({ data := #[122] } : ByteArray))))) := ⟨Mod.setCell (S := fun k => B ≤ k ∧ k < W.heap.size) _ _ _ ⟨hS.1, hlt⟩⟩
                  have HBB : Hd (∀ w', Mod (fun k => B ≤ k ∧ k < W.heap.size) (wr.alloc (.cells #[.int .i64 n0, .string s1, .slice oa3 y.stmts.length ca3, .int .i64 n3, .int .i64 n4, .string s5, .slice ob3 lb3 cb3, .string s7, .slice oc3 lc3 cc3, .slice od3 y.term.blocks.length cd3, .slice oe3 y.term.arms.length ce3] 64)) w' → w'.cell? ⟨wr.heap.size, 2, none⟩ = some (.slice oa3 y.stmts.length ca3) ∧ w'.cell? ⟨wr.heap.size, 9, none⟩ = some (.slice od3 y.term.blocks.length cd3) ∧ w'.cell? ⟨wr.heap.size, 10, none⟩ = some (.slice oe3 y.term.arms.length ce3)) := ⟨fun w' h => by
                    have q := (h.block _ (lt1_0 _ _) (fun h => by have := HWR.out; omega)).trans (heap_new' _ _)
                    exact ⟨cell_b q rfl, cell_b q rfl, cell_b q rfl⟩⟩
                  have HMF : Hd (Mod (fun k => B ≤ k ∧ k < W.heap.size) _ (wr.alloc (.cells #[.int .i64 n0, .string s1, .slice oa3 y.stmts.length ca3, .int .i64 n3, .int .i64 n4, .string s5, .slice ob3 lb3 cb3, .string s7, .slice oc3 lc3 cc3, .slice od3 y.term.blocks.length cd3, .slice oe3 y.term.arms.length ce3] 64))) := ⟨HM.out.trans (Mod.alloc (fun _ => False) _ _) (fun _ h => h.elim)⟩
                  have HRS : Hd (d + 1 + (((y.stmts.drop 0).map cSt).sum + (y.term.blocks.length + y.term.arms.length + (((x.blocks.drop (i7 + 1)).map cB).sum + ((p.funcs.drop (i5 + 1)).map cF).sum))) ≤ D) := ⟨by have h := HR.out.1; rw [drop_sum cB hxy] at h; unfold cB at h ⊢; simp only [List.drop_zero]; omega⟩
                  clear f0 f1 f2 f3 f4 f5 f6 f7 f8 f9 f10 hst htb hta hnm hxy hWr
                  go_wp2_with fail
                  clear c5 q0 q1 q2 q3 q4 q5 q6 q7 q8 q9 q10 z1 a1 zz1 a5 hs1 ht1
                  obtain ⟨bB, hbB⟩ : ∃ x_, wr.heap.size = x_ := ⟨_, rfl⟩
                  obtain ⟨WB, hWB⟩ : ∃ x_, wr.alloc (.cells #[.int .i64 n0, .string s1, .slice oa3 y.stmts.length ca3, .int .i64 n3, .int .i64 n4, .string s5, .slice ob3 lb3 cb3, .string s7, .slice oc3 lc3 cc3, .slice od3 y.term.blocks.length cd3, .slice oe3 y.term.arms.length ce3] 64) = x_ := ⟨_, rfl⟩
                  rw [hbB, hWB] at HBB
                  rw [hWB] at HMF HMX HQ0
                  rw [hWB]
                  try rw [hbB]
                  clear hbB hWB
                  have HMK : Hd (Mod (fun k => B ≤ k ∧ k < W.heap.size) WB WB) := ⟨Mod.refl _ _⟩
                  go_loopg [9] y.stmts.length (fun gk v9 wr => Hd (Mod (fun k => B ≤ k ∧ k < W.heap.size) WB wr) ∧ ∃ (i d : Nat), v9 = .int .i64 i ∧ i + gk = y.stmts.length ∧ Hd (d + (((y.stmts.drop i).map cSt).sum + (y.term.blocks.length + y.term.arms.length + (((x.blocks.drop (i7 + 1)).map cB).sum + ((p.funcs.drop (i5 + 1)).map cF).sum))) ≤ D ∧ Sft B W d wr))
                  case atStart => exact ⟨HMX, 0, _, rfl, by omega, ⟨HRS.out, HQ0.out⟩⟩
                  case round =>
                    clear HM HR HQ0 HMX HRS HZ1
                    obtain ⟨HM, i9, d, rfl, hk9, HR⟩ := hrel
                    obtain ⟨gk9, rfl⟩ : ∃ g, g = gk := ⟨_, rfl⟩
                    obtain ⟨c2, c9, c10⟩ := HBB.out wr HM.out
                    by_cases hlt9 : i9 < y.stmts.length
                    · have hx0 : y.stmts[i9]? = some y.stmts[i9] := List.getElem?_eq_getElem (by omega)
                      obtain ⟨z, hxz⟩ : ∃ x_, y.stmts[i9]? = some x_ := ⟨_, hx0⟩
                      clear hx0
                      obtain ⟨b3, o3, oa6, la6, ca6, ob6, lb6, cb6, hoa, hSz, hltz0, h0, h1, h2, h3, h4, h5, h6, h7, hvz⟩ := HST.out.stm hxz
                      subst hoa
                      obtain ⟨_, _, _, _, _, _, oc6, lc6, cc6, od6, ld6, cd6, hve, hzs, hza⟩ := hvz
                      simp only [Value.agg.injEq, Array.mk.injEq, List.cons.injEq, Value.slice.injEq, true_and, and_true] at hve
                      obtain ⟨⟨rfl, rfl, rfl⟩, ⟨rfl, rfl, rfl⟩⟩ := hve
                      have hl1 := hzs.hlen
                      have hl2 := hza.hlen
                      have hlb1 := hzs.hbig
                      have hlb2 := hza.hbig
                      subst hl1
                      subst hl2
                      have HZS : Hd _ := ⟨hzs⟩
                      have HZA : Hd _ := ⟨hza⟩
                      have FZ3 : Hd _ := ⟨h3⟩
                      have FZ7 : Hd _ := ⟨h7⟩
                      obtain ⟨n9, q9⟩ := HR.out.2.int hltz0 h4
                      have z1 : ∀ j, wr.frozen? ⟨b3, j, none⟩ = false := fun j => HR.out.2.frz hSz j
                      have HQ0 : Hd (∀ n' : Int, Sft B W (d + 1) (wr.setCell ⟨b3, o3 + i9 * 8 + 4, none⟩ (.int .i64 n'))) := ⟨fun n' => HR.out.2.setInt hSz h4 n'⟩
                      have HM2 : Hd (∀ n' : Int, Mod (fun k => B ≤ k ∧ k < W.heap.size) _ (wr.setCell ⟨b3, o3 + i9 * 8 + 4, none⟩ (.int .i64 n'))) := ⟨fun n' => HM.out.trans (Mod.setCell (S := fun k => B ≤ k ∧ k < W.heap.size) _ _ _ ⟨hSz.1, hltz0⟩) (fun _ h => Or.inl h)⟩
                      have HRS : Hd (d + 1 + ((z.args.length - 0) + (z.dest.steps.length + (((y.stmts.drop (i9 + 1)).map cSt).sum + (y.term.blocks.length + y.term.arms.length + (((x.blocks.drop (i7 + 1)).map cB).sum + ((p.funcs.drop (i5 + 1)).map cF).sum))))) ≤ D) := ⟨by have h := HR.out.1; rw [drop_sum cSt hxz] at h; unfold cSt at h ⊢; omega⟩
                      clear h0 h1 h2 h3 h4 h5 h6 h7 hzs hza hxz hSz
                      go_wp2_with fail
                      clear c2 c9 c10 q9 z1
                      go_loopg [10] z.args.length (fun gk v10 wr => Hd (Mod (fun k => B ≤ k ∧ k < W.heap.size) WB wr) ∧ ∃ (i d : Nat), v10 = .int .i64 i ∧ i + gk = z.args.length ∧ Hd (d + ((z.args.length - i) + (z.dest.steps.length + (((y.stmts.drop (i9 + 1)).map cSt).sum + (y.term.blocks.length + y.term.arms.length + (((x.blocks.drop (i7 + 1)).map cB).sum + ((p.funcs.drop (i5 + 1)).map cF).sum))))) ≤ D ∧ Sft B W d wr))
                      case atStart => exact ⟨⟨HM2.out _⟩, 0, _, rfl, by omega, ⟨HRS.out, HQ0.out _⟩⟩
                      case round =>
                        clear HM HR HQ0 HM2 HRS
                        obtain ⟨HM, i10, d, rfl, hk10, HR⟩ := hrel
                        obtain ⟨gk10, rfl⟩ : ∃ g, g = gk := ⟨_, rfl⟩
                        obtain ⟨c2, c9, c10⟩ := HBB.out wr HM.out
                        have e7 := HR.out.2.sl hltz0 FZ7.out
                        by_cases hltz : i10 < z.args.length
                        · have hx0 : z.args[i10]? = some z.args[i10] := List.getElem?_eq_getElem (by omega)
                          obtain ⟨u, hxu⟩ : ∃ x_, z.args[i10]? = some x_ := ⟨_, hx0⟩
                          clear hx0
                          obtain ⟨b2, o2, _, _, _, hoa, hS2, hlt2, g0, _, hyv⟩ := HZA.out.pl hxu
                          subst hoa
                          obtain ⟨s3, q3, hz3⟩ := HR.out.2.str hlt2 g0
                          have hs3 : s3.size ≤ 2199023255552 := by have h1 := HR.out.1; have h2 := HDD.out; have h3 : u.loc.size ≤ 1048576 := hyv.1; omega
                          have ht3 := z_size s3
                          have HZ3 : Hd _ := ⟨hz3⟩
                          clear hz3
                          have z2 : ∀ j, wr.frozen? ⟨b2, j, none⟩ = false := fun j => HR.out.2.frz hS2 j
                          have HS3b : Hd (Sft B W (d + 1) (wr.setCell ⟨b2, o2 + i10 * 2, none⟩ (.string (s3 ++ ({ data := #[122] } : ByteArray))))) := ⟨HR.out.2.setStr hS2 g0 HZ3.out⟩
                          have HM3 : Hd (Mod (fun k => B ≤ k ∧ k < W.heap.size) _ (wr.setCell ⟨b2, o2 + i10 * 2, none⟩ (.string (s3 ++ ({ data := #[122] } : ByteArray))))) := ⟨HM.out.trans (Mod.setCell (S := fun k => B ≤ k ∧ k < W.heap.size) _ _ _ ⟨hS2.1, hlt2⟩) (fun _ h => Or.inl h)⟩
                          clear hxu hyv g0 hS2 hlt2
                          go_wp2_with fail
                          go_roundg (gk10 - 1)
                          case measure => omega
                          case rel => exact ⟨HM3, i10 + 1, _, by go_num, by omega, ⟨by have h := HR.out.1; omega, HS3b.out⟩⟩
                        · go_wp2_with fail
                          clear hltz c2 c9 c10 e7
                          go_loopg [11] z.dest.steps.length (fun gk v11 wr => Hd (Mod (fun k => B ≤ k ∧ k < W.heap.size) WB wr) ∧ ∃ (i d : Nat), v11 = .int .i64 i ∧ i + gk = z.dest.steps.length ∧ Hd (d + ((z.dest.steps.length - i) + (((y.stmts.drop (i9 + 1)).map cSt).sum + (y.term.blocks.length + y.term.arms.length + (((x.blocks.drop (i7 + 1)).map cB).sum + ((p.funcs.drop (i5 + 1)).map cF).sum)))) ≤ D ∧ Sft B W d wr))
                          case atStart => exact ⟨HM, 0, _, rfl, by omega, ⟨by have h := HR.out.1; omega, HR.out.2⟩⟩
                          case round =>
                            clear HM HR
                            obtain ⟨HM, i11, d, rfl, hk11, HR⟩ := hrel
                            obtain ⟨gk11, rfl⟩ : ∃ g, g = gk := ⟨_, rfl⟩
                            obtain ⟨c2, c9, c10⟩ := HBB.out wr HM.out
                            have e3 := HR.out.2.sl hltz0 FZ3.out
                            by_cases hltz : i11 < z.dest.steps.length
                            · have hx0 : z.dest.steps[i11]? = some z.dest.steps[i11] := List.getElem?_eq_getElem (by omega)
                              obtain ⟨u, hxu⟩ : ∃ x_, z.dest.steps[i11]? = some x_ := ⟨_, hx0⟩
                              clear hx0
                              obtain ⟨b2, o2, hoa, hS2, hlt2, g0, hyv⟩ := HZS.out.str hxu
                              subst hoa
                              obtain ⟨s3, q3, hz3⟩ := HR.out.2.str hlt2 g0
                              have hs3 : s3.size ≤ 2199023255552 := by have h1 := HR.out.1; have h2 := HDD.out; have h3 : u.size ≤ 1048576 := hyv.2; omega
                              have ht3 := z_size s3
                              have HZ3 : Hd _ := ⟨hz3⟩
                              clear hz3
                              have z2 : ∀ j, wr.frozen? ⟨b2, j, none⟩ = false := fun j => HR.out.2.frz hS2 j
                              have HS3b : Hd (Sft B W (d + 1) (wr.setCell ⟨b2, o2 + i11, none⟩ (.string (s3 ++ ({ data := #[122] } : ByteArray))))) := ⟨HR.out.2.setStr hS2 g0 HZ3.out⟩
                              have HM3 : Hd (Mod (fun k => B ≤ k ∧ k < W.heap.size) _ (wr.setCell ⟨b2, o2 + i11, none⟩ (.string (s3 ++ ({ data := #[122] } : ByteArray))))) := ⟨HM.out.trans (Mod.setCell (S := fun k => B ≤ k ∧ k < W.heap.size) _ _ _ ⟨hS2.1, hlt2⟩) (fun _ h => Or.inl h)⟩
                              clear hxu hyv g0 hS2 hlt2
                              go_wp2_with fail
                              go_roundg (gk11 - 1)
                              case measure => omega
                              case rel => exact ⟨HM3, i11 + 1, _, by go_num, by omega, ⟨by have h := HR.out.1; omega, HS3b.out⟩⟩
                            · go_wp2_with fail
                              clear hltz c2 c9 c10 e3
                              go_roundg (gk9 - 1)
                              case measure => omega
                              case rel => exact ⟨HM, i9 + 1, _, by go_num, by omega, ⟨by have h := HR.out.1; omega, HR.out.2⟩⟩
                    · go_wp2_with fail
                      clear hlt9 c2 c9 c10
                      go_loopg [12] y.term.blocks.length (fun gk v12 wr => Hd (Mod (fun k => B ≤ k ∧ k < W.heap.size) WB wr) ∧ ∃ (i d : Nat), v12 = .int .i64 i ∧ i + gk = y.term.blocks.length ∧ Hd (d + ((y.term.blocks.length - i) + (y.term.arms.length + (((x.blocks.drop (i7 + 1)).map cB).sum + ((p.funcs.drop (i5 + 1)).map cF).sum))) ≤ D ∧ Sft B W d wr))
                      case atStart => exact ⟨HM, 0, _, rfl, by omega, ⟨by have h := HR.out.1; omega, HR.out.2⟩⟩
                      case round =>
                        clear HM HR
                        obtain ⟨HM, i12, d, rfl, hk12, HR⟩ := hrel
                        obtain ⟨gk12, rfl⟩ : ∃ g, g = gk := ⟨_, rfl⟩
                        obtain ⟨c2, c9, c10⟩ := HBB.out wr HM.out
                        by_cases hltz : i12 < y.term.blocks.length
                        · have hx0 : y.term.blocks[i12]? = some y.term.blocks[i12] := List.getElem?_eq_getElem (by omega)
                          obtain ⟨u, hxu⟩ : ∃ x_, y.term.blocks[i12]? = some x_ := ⟨_, hx0⟩
                          clear hx0
                          obtain ⟨b2, o2, hoa, hS2, hlt2, g0, hyv⟩ := HTB.out.str hxu
                          subst hoa
                          obtain ⟨s3, q3, hz3⟩ := HR.out.2.str hlt2 g0
                          have hs3 : s3.size ≤ 2199023255552 := by have h1 := HR.out.1; have h2 := HDD.out; have h3 : u.size ≤ 1048576 := hyv.2; omega
                          have ht3 := z_size s3
                          have HZ3 : Hd _ := ⟨hz3⟩
                          clear hz3
                          have z2 : ∀ j, wr.frozen? ⟨b2, j, none⟩ = false := fun j => HR.out.2.frz hS2 j
                          have HS3b : Hd (Sft B W (d + 1) (wr.setCell ⟨b2, o2 + i12, none⟩ (.string (s3 ++ ({ data := #[122] } : ByteArray))))) := ⟨HR.out.2.setStr hS2 g0 HZ3.out⟩
                          have HM3 : Hd (Mod (fun k => B ≤ k ∧ k < W.heap.size) _ (wr.setCell ⟨b2, o2 + i12, none⟩ (.string (s3 ++ ({ data := #[122] } : ByteArray))))) := ⟨HM.out.trans (Mod.setCell (S := fun k => B ≤ k ∧ k < W.heap.size) _ _ _ ⟨hS2.1, hlt2⟩) (fun _ h => Or.inl h)⟩
                          clear hxu hyv g0 hS2 hlt2
                          go_wp2_with fail
                          go_roundg (gk12 - 1)
                          case measure => omega
                          case rel => exact ⟨HM3, i12 + 1, _, by go_num, by omega, ⟨by have h := HR.out.1; omega, HS3b.out⟩⟩
                        · go_wp2_with fail
                          clear hltz c2 c9 c10
                          go_loopg [13] y.term.arms.length (fun gk v13 wr => Hd (Mod (fun k => B ≤ k ∧ k < W.heap.size) WB wr) ∧ ∃ (i d : Nat), v13 = .int .i64 i ∧ i + gk = y.term.arms.length ∧ Hd (d + ((y.term.arms.length - i) + (((x.blocks.drop (i7 + 1)).map cB).sum + ((p.funcs.drop (i5 + 1)).map cF).sum)) ≤ D ∧ Sft B W d wr))
                          case atStart => exact ⟨HM, 0, _, rfl, by omega, ⟨by have h := HR.out.1; omega, HR.out.2⟩⟩
                          case round =>
                            clear HM HR
                            obtain ⟨HM, i13, d, rfl, hk13, HR⟩ := hrel
                            obtain ⟨gk13, rfl⟩ : ∃ g, g = gk := ⟨_, rfl⟩
                            obtain ⟨c2, c9, c10⟩ := HBB.out wr HM.out
                            by_cases hltz : i13 < y.term.arms.length
                            · have hx0 : y.term.arms[i13]? = some y.term.arms[i13] := List.getElem?_eq_getElem (by omega)
                              obtain ⟨u, hxu⟩ : ∃ x_, y.term.arms[i13]? = some x_ := ⟨_, hx0⟩
                              clear hx0
                              obtain ⟨b2, o2, hoa, hS2, hlt2, _, _, g0, hyv⟩ := HTA.out.arm hxu
                              subst hoa
                              obtain ⟨s3, q3, hz3⟩ := HR.out.2.str hlt2 g0
                              have hs3 : s3.size ≤ 2199023255552 := by have h1 := HR.out.1; have h2 := HDD.out; have h3 : u.block.size ≤ 1048576 := hyv.2.2.2; omega
                              have ht3 := z_size s3
                              have HZ3 : Hd _ := ⟨hz3⟩
                              clear hz3
                              have z2 : ∀ j, wr.frozen? ⟨b2, j, none⟩ = false := fun j => HR.out.2.frz hS2 j
                              have HS3b : Hd (Sft B W (d + 1) (wr.setCell ⟨b2, o2 + i13 * 3 + 2, none⟩ (.string (s3 ++ ({ data := #[122] } : ByteArray))))) := ⟨HR.out.2.setStr hS2 g0 HZ3.out⟩
                              have HM3 : Hd (Mod (fun k => B ≤ k ∧ k < W.heap.size) _ (wr.setCell ⟨b2, o2 + i13 * 3 + 2, none⟩ (.string (s3 ++ ({ data := #[122] } : ByteArray))))) := ⟨HM.out.trans (Mod.setCell (S := fun k => B ≤ k ∧ k < W.heap.size) _ _ _ ⟨hS2.1, hlt2⟩) (fun _ h => Or.inl h)⟩
                              clear hxu hyv g0 hS2 hlt2
                              go_wp2_with fail
                              go_roundg (gk13 - 1)
                              case measure => omega
                              case rel => exact ⟨HM3, i13 + 1, _, by go_num, by omega, ⟨by have h := HR.out.1; omega, HS3b.out⟩⟩
                            · go_wp2_with fail
                              clear hltz c2 c9 c10
                              go_roundg (gk7 - 1)
                              case measure => omega
                              case rel => exact ⟨⟨HMF.out.trans HM.out (fun _ h => Or.inl h)⟩, i7 + 1, _, by go_num, by omega, ⟨by have h := HR.out.1; omega, HR.out.2⟩⟩
                · go_wp2_with fail
                  clear c5
                  go_roundg (gk5 - 1)
                  case measure => omega
                  case rel => exact ⟨⟨HMG.out.trans HM.out (fun _ h => Or.inl h)⟩, i5 + 1, _, by go_num, by omega, ⟨by have h := HR.out.1; rw [List.drop_eq_nil_of_le (by omega : x.blocks.length ≤ i7)] at h; simp only [List.map_nil, List.sum_nil, Nat.zero_add] at h; omega, HR.out.2⟩⟩
            · go_wp2
              try simp only [Exit.inBlock, Exit.then]
              refine bodyPost_end (results_none rfl _ _ _) rfl ?_
              exact ⟨⟨_, rfl⟩, HR.out.2.mod⟩
end
end Go.Proofs.YtpodeccpibnlbaaGreatDoor
