/- The reference's Key, walked. -/
import Derived.Test.YtpodeccpibnlbaaGreatDoorG39
namespace Go.Proofs.YtpodeccpibnlbaaGreatDoor
set_option linter.unusedVariables false
set_option linter.unusedSimpArgs false
open Go.RowKit
section
variable {S : Nat → Prop} {w0 : World}
set_option maxRecDepth 100000 in
set_option maxHeartbeats 8000000 in
theorem Key_ans {v : Value} {p : Prg} (hv : prgV S w0 v p) (hb : (keyL p).length ≤ 1099511627776) : Ans 22 #[v] w0 (.string (bs (keyL p))) := by
  intro w hw
  obtain ⟨oa, la, ca, ob, lb, cb, oc, lc, cc, rfl, k1, k2, k3⟩ := hv
  have l1 := k1.hlen
  have l2 := k2.hlen
  have l3 := k3.hlen
  have b1 := k1.hbig
  have b2 := k2.hbig
  have b3 := k3.hbig
  subst l1
  subst l2
  subst l3
  have HS1 : Hd _ := ⟨k1⟩
  have HS2 : Hd _ := ⟨k2⟩
  have HS3 : Hd _ := ⟨k3⟩
  have HW : Hd _ := ⟨hw⟩
  obtain ⟨E, hE⟩ : ∃ E : List UInt8, E = [] := ⟨[], rfl⟩
  have HE : Hd _ := ⟨hE⟩
  clear hE
  have HT0 : Hd (lst { data := #[] } ++ (listK 115 sctK p.structs ++ (listK 101 enmK p.enums ++ (listK 102 funK p.funcs ++ E))) = keyL p) := ⟨by unfold keyL; rw [HE.out]; simp⟩
  obtain ⟨T, hT⟩ : ∃ T, keyL p = T := ⟨_, rfl⟩
  rw [hT] at HT0 hb ⊢
  clear k1 k2 k3 hw hT
  obtain ⟨C, hC⟩ : ∃ C : Array Value, #[.slice oa p.structs.length ca, .slice ob p.enums.length cb, .slice oc p.funcs.length cc] = C := ⟨_, rfl⟩
  have HCC : Hd (C[0]? = some (.slice oa p.structs.length ca) ∧ C[1]? = some (.slice ob p.enums.length cb) ∧ C[2]? = some (.slice oc p.funcs.length cc)) := ⟨by rw [← hC]; exact ⟨rfl, rfl, rfl⟩⟩
  have HC : Hd _ := ⟨hC⟩
  clear hC
  have HBB : Hd (∀ W, Mod (fun _ => False) (w.alloc (.cells C 36)) W → W.heap[w.heap.size]? = some (.cells C 36 (0, 0))) := ⟨fun W h => (h.block _ (lt1_0 _ _) (fun h => h)).trans (heap_new' _ _)⟩
  have e1 : IntKind.u64.wrap (p.structs.length : Int) = (p.structs.length : Int) := by rw [IntKind.wrap_u64]; omega
  have e2 : IntKind.u64.wrap (p.enums.length : Int) = (p.enums.length : Int) := by rw [IntKind.wrap_u64]; omega
  have e3 : IntKind.u64.wrap (p.funcs.length : Int) = (p.funcs.length : Int) := by rw [IntKind.wrap_u64]; omega
  have HT := HT0
  have HTT : Hd _ := ⟨list_open HT.out⟩
  have HD : Hd (∀ W, _) := ⟨fun W => digits_q p.structs.length (by omega) W⟩
  obtain ⟨R1, hR1⟩ : ∃ R, listK 101 enmK p.enums ++ (listK 102 funK p.funcs ++ E) = R := ⟨_, rfl⟩
  have HR1 : Hd _ := ⟨hR1⟩
  rw [hR1] at HTT
  clear hR1 HT HT0
  have HK0 : Hd (lst (bs (digL p.structs.length) ++ ({ data := #[115] } : ByteArray)) ++ (((p.structs.drop 0).map sctK).flatten ++ R1) = T) := ⟨by rw [← HTT.out]; simp [lst_app, lst_bs]⟩
  have hz := digL_len20 (n := p.structs.length) (by omega)
  rw [← bs_size] at hz
  obtain ⟨d1, hd1⟩ : ∃ d, bs (digL p.structs.length) = d := ⟨_, rfl⟩
  rw [hd1] at HK0 HD hz
  clear hd1 HTT
  go_enter Tryz.func22, Tryz.ntmps22
  go_wp2_with fail
  refine (HD.out _).mono ?_
  rintro e w1 ⟨rfl, rfl⟩
  go_wp2_with fail
  rw [HC.out]
  go_loopg [3, 4] p.structs.length (fun gk v3 v4 wr => Hd (Mod (fun _ => False) (w.alloc (.cells C 36)) wr) ∧ ∃ (i : Nat) (s : ByteArray), v4 = .int .i64 i ∧ v3 = .string s ∧ i + gk = p.structs.length ∧ Hd (lst s ++ (((p.structs.drop i).map sctK).flatten ++ R1) = T))
  case atStart => exact ⟨⟨Mod.refl _ _⟩, 0, _, rfl, rfl, by omega, HK0⟩
  case round =>
    obtain ⟨HM, i, s, rfl, rfl, hk, HI⟩ := hrel
    have c0 : wr.cell? ⟨w.heap.size, 0, none⟩ = some (.slice oa p.structs.length ca) := cell_in (HBB.out _ HM.out) HCC.out.1
    have HK : Hd (Mod (fun _ => False) w0 wr) := ⟨HW.out.trans ((Mod.alloc _ _ _).trans HM.out (fun _ h => Or.inl h)) (fun _ h => Or.inl h)⟩
    by_cases hlt : i < p.structs.length
    · have hx0 : p.structs[i]? = some p.structs[i] := List.getElem?_eq_getElem (by omega)
      obtain ⟨x, hx⟩ : ∃ x, p.structs[i]? = some x := ⟨_, hx0⟩
      obtain ⟨b, o, oa1, la1, ca1, rfl, _, hbl, f0, f1, f2, f3, f4, hvx⟩ := HS1.out.sct hx
      obtain ⟨_, _, oa2, la2, ca2, hve, hfl⟩ := hvx
      simp only [Value.agg.injEq, Array.mk.injEq, List.cons.injEq, Value.slice.injEq, true_and, and_true] at hve
      obtain ⟨rfl, rfl, rfl⟩ := hve
      have HFL : Hd _ := ⟨hfl⟩
      have HI2 : Hd _ := ⟨rest_hit HI.out hx⟩
      obtain ⟨R, hR⟩ : ∃ R, ((p.structs.drop (i + 1)).map sctK).flatten ++ R1 = R := ⟨_, rfl⟩
      rw [hR] at HI2
      have HR : Hd _ := ⟨hR⟩
      have d0 := HK.out.cell' f0
      have d1 := HK.out.cell' f1
      have d2 := HK.out.cell' f2
      have d3 := HK.out.cell' f3
      have d4 := HK.out.cell' f4
      clear hx hx0 f0 f1 f2 f3 f4 hbl hfl hR HI
      go_wp2_with fail
      clear d0 d1 d2 d3 d4 c0
      obtain ⟨bx, hbx⟩ : ∃ b, wr.heap.size = b := ⟨_, rfl⟩
      have HA : Hd (Mod (fun _ => False) wr (wr.alloc (.cells #[.int .i64 x.pos, .string x.name, .bool x.safe, .bool x.hook, .slice oa1 la1 ca1] 58))) := ⟨Mod.alloc _ _ _⟩
      have HBX : Hd ((wr.alloc (.cells #[.int .i64 x.pos, .string x.name, .bool x.safe, .bool x.hook, .slice oa1 la1 ca1] 58)).heap[bx]? = some (.cells #[.int .i64 x.pos, .string x.name, .bool x.safe, .bool x.hook, .slice oa1 la1 ca1] 58 (0, 0))) := ⟨by rw [← hbx]; exact heap_new' _ _⟩
      obtain ⟨W1, hW1⟩ : ∃ W1, wr.alloc (.cells #[.int .i64 x.pos, .string x.name, .bool x.safe, .bool x.hook, .slice oa1 la1 ca1] 58) = W1 := ⟨_, rfl⟩
      rw [hW1] at HA HBX
      rw [hbx, hW1]
      have HM1 : Hd (Mod (fun _ => False) (w.alloc (.cells C 36)) W1) := ⟨HM.out.trans HA.out (fun _ h => Or.inl h)⟩
      have HK1 : Hd (Mod (fun _ => False) w0 W1) := ⟨HK.out.trans HA.out (fun _ h => Or.inl h)⟩
      clear hW1 hbx HA HM HK
      have HI3 : Hd (lst s ++ (keyB x.name ++ (flagL x.safe ++ (flagL x.hook ++ (varKeysL x.fields ++ R)))) = T) := ⟨by rw [← HI2.out]; unfold sctK; simp only [List.append_assoc]⟩
      have HB : Hd (lst (s ++ (((bs (keyB x.name) ++ bs (flagL x.safe)) ++ bs (flagL x.hook)) ++ bs (varKeysL x.fields))) ++ R = T) := ⟨by
        rw [← HI3.out]
        simp only [lst_app, lst_bs, List.append_assoc, List.cons_append, List.nil_append, lst_lit, List.toList_toArray]⟩
      have hzz := congrArg List.length HB.out
      simp only [lst_app, lst_bs, List.length_append, lst_lit, List.toList_toArray, List.length_cons, List.length_nil] at hzz
      rw [lst_len] at hzz
      have HC0 : Hd (∀ n : Nat, _) := ⟨fun n => key_u x.name (by omega) (W1.drewN n)⟩
      have z0 : (bs (keyB x.name)).size = (keyB x.name).length := bs_size _
      obtain ⟨y0, h0⟩ : ∃ z_, bs (keyB x.name) = z_ := ⟨_, rfl⟩
      rw [h0] at HC0 HB z0
      have HC1 : Hd (∀ n : Nat, _) := ⟨fun n => flag_u x.safe (W1.drewN n)⟩
      have z1 : (bs (flagL x.safe)).size = (flagL x.safe).length := bs_size _
      obtain ⟨y1, h1⟩ : ∃ z_, bs (flagL x.safe) = z_ := ⟨_, rfl⟩
      rw [h1] at HC1 HB z1
      have HC2 : Hd (∀ n : Nat, _) := ⟨fun n => flag_u x.hook (W1.drewN n)⟩
      have z2 : (bs (flagL x.hook)).size = (flagL x.hook).length := bs_size _
      obtain ⟨y2, h2⟩ : ∃ z_, bs (flagL x.hook) = z_ := ⟨_, rfl⟩
      rw [h2] at HC2 HB z2
      have HC3 : Hd (∀ n : Nat, _) := ⟨fun n => varKeys_at HFL.out (by omega) (W1.drewN n) (HK1.out.trans (modN W1 n) (fun _ h => Or.inl h))⟩
      have z3 : (bs (varKeysL x.fields)).size = (varKeysL x.fields).length := bs_size _
      obtain ⟨y3, h3⟩ : ∃ z_, bs (varKeysL x.fields) = z_ := ⟨_, rfl⟩
      rw [h3] at HC3 HB z3
      rw [← z0] at hzz
      rw [← z1] at hzz
      rw [← z2] at hzz
      rw [← z3] at hzz
      have zz : s.size + (y0.size + y1.size + y2.size + y3.size) ≤ 1099511627776 := by omega
      clear hzz z0 h0 z1 h1 z2 h2 z3 h3
      have g1 : ∀ n, (W1.drewN n).cell? ⟨bx, 1, none⟩ = some (.string x.name) := fun n => cell_in HBX.out rfl
      have g2 : ∀ n, (W1.drewN n).cell? ⟨bx, 2, none⟩ = some (.bool x.safe) := fun n => cell_in HBX.out rfl
      have g3 : ∀ n, (W1.drewN n).cell? ⟨bx, 3, none⟩ = some (.bool x.hook) := fun n => cell_in HBX.out rfl
      have g4 : ∀ n, (W1.drewN n).cell? ⟨bx, 4, none⟩ = some (.slice oa1 la1 ca1) := fun n => cell_in HBX.out rfl
      go_quiet (first | (go_at_call 55; exact Calls.quiet_of (Qui.at (HC0.out _) (by with_reducible rfl))) | (go_at_call 56; exact Calls.quiet_of (Qui.at (HC1.out _) (by with_reducible rfl))) | (go_at_call 56; exact Calls.quiet_of (Qui.at (HC2.out _) (by with_reducible rfl))) | (go_at_call 57; exact Calls.quiet_of (Qui.at (HC3.out _) (by with_reducible rfl))))
      go_wp2_with fail
      go_roundg (gk - 1)
      case measure => omega
      case rel => exact ⟨⟨HM1.out.trans (modN _ _) (fun _ h => Or.inl h)⟩, i + 1, _, by go_num, rfl, by omega, ⟨by rw [HR.out]; exact HB.out⟩⟩
    · have ht2 := rest_end HI.out (by omega)
      rw [← HR1.out] at ht2
      have HT2 : Hd _ := ⟨list_open ht2⟩
      clear ht2
      obtain ⟨R2, hR2⟩ : ∃ R, listK 102 funK p.funcs ++ E = R := ⟨_, rfl⟩
      have HR2 : Hd _ := ⟨hR2⟩
      rw [hR2] at HT2
      clear hR2
      have HD : Hd (∀ W, _) := ⟨fun W => digits_q p.enums.length (by omega) W⟩
      have HK0 : Hd (lst (s ++ (bs (digL p.enums.length) ++ ({ data := #[101] } : ByteArray))) ++ (((p.enums.drop 0).map enmK).flatten ++ R2) = T) := ⟨by rw [← HT2.out]; simp [lst_app, lst_bs]⟩
      have hz := congrArg List.length HK0.out
      simp only [lst_app, lst_bs, List.length_append, lst_lit, List.toList_toArray, List.length_cons, List.length_nil] at hz
      rw [lst_len] at hz
      have z1 : (bs (digL p.enums.length)).size = (digL p.enums.length).length := bs_size _
      obtain ⟨d2, hd1⟩ : ∃ d, bs (digL p.enums.length) = d := ⟨_, rfl⟩
      rw [hd1] at HK0 HD z1
      rw [← z1] at hz
      have zz : s.size + (d2.size + 1) ≤ 1099511627776 := by omega
      clear hd1 HT2 hz z1
      have c1 : wr.cell? ⟨w.heap.size, 1, none⟩ = some (.slice ob p.enums.length cb) := cell_in (HBB.out _ HM.out) HCC.out.2.1
      go_wp2_with fail
      refine (HD.out _).mono ?_
      rintro e w1 ⟨rfl, rfl⟩
      go_wp2_with fail
      clear c0 c1 HI hlt zz HK
      go_loopg [3, 6] p.enums.length (fun gk v3 v4 wr => Hd (Mod (fun _ => False) (w.alloc (.cells C 36)) wr) ∧ ∃ (i : Nat) (s : ByteArray), v4 = .int .i64 i ∧ v3 = .string s ∧ i + gk = p.enums.length ∧ Hd (lst s ++ (((p.enums.drop i).map enmK).flatten ++ R2) = T))
      case atStart => exact ⟨HM, 0, _, rfl, rfl, by omega, HK0⟩
      case round =>
        obtain ⟨HM, i, s, rfl, rfl, hk, HI⟩ := hrel
        have c1 : wr.cell? ⟨w.heap.size, 1, none⟩ = some (.slice ob p.enums.length cb) := cell_in (HBB.out _ HM.out) HCC.out.2.1
        have HK : Hd (Mod (fun _ => False) w0 wr) := ⟨HW.out.trans ((Mod.alloc _ _ _).trans HM.out (fun _ h => Or.inl h)) (fun _ h => Or.inl h)⟩
        by_cases hlt : i < p.enums.length
        · have hx0 : p.enums[i]? = some p.enums[i] := List.getElem?_eq_getElem (by omega)
          obtain ⟨x, hx⟩ : ∃ x, p.enums[i]? = some x := ⟨_, hx0⟩
          obtain ⟨b, o, oa1, la1, ca1, rfl, _, hbl, f0, f1, f2, hvx⟩ := HS2.out.enm hx
          obtain ⟨_, _, oa2, la2, ca2, hve, hfl⟩ := hvx
          simp only [Value.agg.injEq, Array.mk.injEq, List.cons.injEq, Value.slice.injEq, true_and, and_true] at hve
          obtain ⟨rfl, rfl, rfl⟩ := hve
          have HFL : Hd _ := ⟨hfl⟩
          have HF1 : Hd _ := ⟨f1⟩
          have HF2 : Hd _ := ⟨f2⟩
          have HI2 : Hd _ := ⟨rest_hit HI.out hx⟩
          obtain ⟨R, hR⟩ : ∃ R, ((p.enums.drop (i + 1)).map enmK).flatten ++ R2 = R := ⟨_, rfl⟩
          rw [hR] at HI2
          have HR : Hd _ := ⟨hR⟩
          clear hx hx0 f0 f1 f2 hbl hR HI
          have HI3 : Hd (lst s ++ (keyB x.name ++ (varKeysL x.variants ++ R)) = T) := ⟨by rw [← HI2.out]; unfold enmK; simp only [List.append_assoc]⟩
          have HB : Hd (lst (s ++ (bs (keyB x.name) ++ bs (varKeysL x.variants))) ++ R = T) := ⟨by
            rw [← HI3.out]
            simp only [lst_app, lst_bs, List.append_assoc, List.cons_append, List.nil_append, lst_lit, List.toList_toArray]⟩
          have hzz := congrArg List.length HB.out
          simp only [lst_app, lst_bs, List.length_append, lst_lit, List.toList_toArray, List.length_cons, List.length_nil] at hzz
          rw [lst_len] at hzz
          have HC0 : Hd (∀ n : Nat, _) := ⟨fun n => key_u x.name (by omega) (wr.drewN n)⟩
          have z0 : (bs (keyB x.name)).size = (keyB x.name).length := bs_size _
          obtain ⟨y0, h0⟩ : ∃ z_, bs (keyB x.name) = z_ := ⟨_, rfl⟩
          rw [h0] at HC0 HB z0
          have HC1 : Hd (∀ n : Nat, _) := ⟨fun n => varKeys_at HFL.out (by omega) (wr.drewN n) (HK.out.trans (modN wr n) (fun _ h => Or.inl h))⟩
          have z1 : (bs (varKeysL x.variants)).size = (varKeysL x.variants).length := bs_size _
          obtain ⟨y1, h1⟩ : ∃ z_, bs (varKeysL x.variants) = z_ := ⟨_, rfl⟩
          rw [h1] at HC1 HB z1
          rw [← z0] at hzz
          rw [← z1] at hzz
          have zz : s.size + (y0.size + y1.size) ≤ 1099511627776 := by omega
          clear hzz z0 h0 z1 h1
          have d1 : ∀ n, (wr.drewN n).cell? ⟨b, o + i * 3 + 1, none⟩ = some (.string x.name) := fun n => HK.out.cell' HF1.out
          have d2 : ∀ n, (wr.drewN n).cell? ⟨b, o + i * 3 + 2, none⟩ = some (.slice oa1 la1 ca1) := fun n => HK.out.cell' HF2.out
          have c1' : ∀ n, (wr.drewN n).cell? ⟨w.heap.size, 1, none⟩ = some (.slice (some ⟨b, o, none⟩) p.enums.length cb) := fun n => c1
          go_wp2_with fail
          go_quiet (first | (go_at_call 55; exact Calls.quiet_of (Qui.at (HC0.out _) (by with_reducible rfl))) | (go_at_call 57; exact Calls.quiet_of (Qui.at (HC1.out _) (by with_reducible rfl))))
          go_wp2_with fail
          go_roundg (gk - 1)
          case measure => omega
          case rel => exact ⟨⟨HM.out.trans (modN _ _) (fun _ h => Or.inl h)⟩, i + 1, _, by go_num, rfl, by omega, ⟨by rw [HR.out]; exact HB.out⟩⟩
        · have ht2 := rest_end HI.out (by omega)
          rw [← HR2.out] at ht2
          have HT2 : Hd _ := ⟨list_open ht2⟩
          clear ht2
          obtain ⟨R3, hR2⟩ : ∃ R, E = R := ⟨_, rfl⟩
          have HR3 : Hd _ := ⟨hR2⟩
          rw [hR2] at HT2
          clear hR2
          have HD : Hd (∀ W, _) := ⟨fun W => digits_q p.funcs.length (by omega) W⟩
          have HK0 : Hd (lst (s ++ (bs (digL p.funcs.length) ++ ({ data := #[102] } : ByteArray))) ++ (((p.funcs.drop 0).map funK).flatten ++ R3) = T) := ⟨by rw [← HT2.out]; simp [lst_app, lst_bs]⟩
          have hz := congrArg List.length HK0.out
          simp only [lst_app, lst_bs, List.length_append, lst_lit, List.toList_toArray, List.length_cons, List.length_nil] at hz
          rw [lst_len] at hz
          have z1 : (bs (digL p.funcs.length)).size = (digL p.funcs.length).length := bs_size _
          obtain ⟨d3, hd1⟩ : ∃ d, bs (digL p.funcs.length) = d := ⟨_, rfl⟩
          rw [hd1] at HK0 HD z1
          rw [← z1] at hz
          have zz : s.size + (d3.size + 1) ≤ 1099511627776 := by omega
          clear hd1 HT2 hz z1
          have c2 : wr.cell? ⟨w.heap.size, 2, none⟩ = some (.slice oc p.funcs.length cc) := cell_in (HBB.out _ HM.out) HCC.out.2.2
          go_wp2_with fail
          refine (HD.out _).mono ?_
          rintro e w1 ⟨rfl, rfl⟩
          go_wp2_with fail
          clear c1 c2 HI hlt zz HK
          go_loopg [3, 7] p.funcs.length (fun gk v3 v4 wr => Hd (Mod (fun _ => False) (w.alloc (.cells C 36)) wr) ∧ ∃ (i : Nat) (s : ByteArray), v4 = .int .i64 i ∧ v3 = .string s ∧ i + gk = p.funcs.length ∧ Hd (lst s ++ (((p.funcs.drop i).map funK).flatten ++ R3) = T))
          case atStart => exact ⟨HM, 0, _, rfl, rfl, by omega, HK0⟩
          case round =>
            obtain ⟨HM, i, s, rfl, rfl, hk, HI⟩ := hrel
            obtain ⟨gk3, rfl⟩ : ∃ g, g = gk := ⟨_, rfl⟩
            have c2 : wr.cell? ⟨w.heap.size, 2, none⟩ = some (.slice oc p.funcs.length cc) := cell_in (HBB.out _ HM.out) HCC.out.2.2
            have HK : Hd (Mod (fun _ => False) w0 wr) := ⟨HW.out.trans ((Mod.alloc _ _ _).trans HM.out (fun _ h => Or.inl h)) (fun _ h => Or.inl h)⟩
            by_cases hlt : i < p.funcs.length
            · have hx0 : p.funcs[i]? = some p.funcs[i] := List.getElem?_eq_getElem (by omega)
              obtain ⟨x, hx⟩ : ∃ z_, p.funcs[i]? = some z_ := ⟨_, hx0⟩
              obtain ⟨b, o, oa1, la1, ca1, ob1, lb1, cb1, oc1, lc1, cc1, rfl, _, hbl, f0, f1, f2, f3, f4, f5, hvx⟩ := HS3.out.fun hx
              obtain ⟨_, _, _, oa2, la2, ca2, ob2, lb2, cb2, oc2, lc2, cc2, hve, hpa, hlo, hbk⟩ := hvx
              simp only [Value.agg.injEq, Array.mk.injEq, List.cons.injEq, Value.slice.injEq, true_and, and_true] at hve
              obtain ⟨⟨rfl, rfl, rfl⟩, ⟨rfl, rfl, rfl⟩, ⟨rfl, rfl, rfl⟩⟩ := hve
              have HPA : Hd _ := ⟨hpa⟩
              have HLO : Hd _ := ⟨hlo⟩
              have hbkl := hbk.hlen
              have hbkb := hbk.hbig
              subst hbkl
              have HBK : Hd _ := ⟨hbk⟩
              clear hpa hlo hbk
              have eb : IntKind.u64.wrap (x.blocks.length : Int) = (x.blocks.length : Int) := by rw [IntKind.wrap_u64]; omega
              have HI2 : Hd _ := ⟨rest_hit HI.out hx⟩
              obtain ⟨R4, hR⟩ : ∃ R, ((p.funcs.drop (i + 1)).map funK).flatten ++ R3 = R := ⟨_, rfl⟩
              rw [hR] at HI2
              have HR4 : Hd _ := ⟨hR⟩
              have d0 := HK.out.cell' f0
              have d1 := HK.out.cell' f1
              have d2 := HK.out.cell' f2
              have d3 := HK.out.cell' f3
              have d4 := HK.out.cell' f4
              have d5 := HK.out.cell' f5
              clear hx hx0 f0 f1 f2 f3 f4 f5 hbl hR HI
              repeat (go_not_at_region 17; first | go_values | go_skip | go_guarded | go_step | go_upon | go_back)
              clear d0 d1 d2 d3 d4 d5 c2
              obtain ⟨bf, hbx⟩ : ∃ b, wr.heap.size = b := ⟨_, rfl⟩
              have HA : Hd (Mod (fun _ => False) wr (wr.alloc (.cells #[.int .i64 x.pos, .string x.name, .slice oa1 la1 ca1, .slice ob1 lb1 cb1, .string x.result, .slice oc1 x.blocks.length cc1] 45))) := ⟨Mod.alloc _ _ _⟩
              have HXF : Hd ((wr.alloc (.cells #[.int .i64 x.pos, .string x.name, .slice oa1 la1 ca1, .slice ob1 lb1 cb1, .string x.result, .slice oc1 x.blocks.length cc1] 45)).heap[bf]? = some (.cells #[.int .i64 x.pos, .string x.name, .slice oa1 la1 ca1, .slice ob1 lb1 cb1, .string x.result, .slice oc1 x.blocks.length cc1] 45 (0, 0))) := ⟨by rw [← hbx]; exact heap_new' _ _⟩
              obtain ⟨W1, hW1⟩ : ∃ W1, wr.alloc (.cells #[.int .i64 x.pos, .string x.name, .slice oa1 la1 ca1, .slice ob1 lb1 cb1, .string x.result, .slice oc1 x.blocks.length cc1] 45) = W1 := ⟨_, rfl⟩
              rw [hW1] at HA HXF
              rw [hbx, hW1]
              have HMF : Hd (Mod (fun _ => False) (w.alloc (.cells C 36)) W1) := ⟨HM.out.trans HA.out (fun _ h => Or.inl h)⟩
              have HKF : Hd (Mod (fun _ => False) w0 W1) := ⟨HK.out.trans HA.out (fun _ h => Or.inl h)⟩
              clear hW1 hbx HA HM HK
              have HI3 : Hd (lst s ++ (keyB x.name ++ (varKeysL x.params ++ (varKeysL x.locals ++ (keyB x.result ++ (digL x.blocks.length ++ (98 :: (((x.blocks.drop 0).map blkK).flatten ++ R4))))))) = T) := ⟨by rw [← HI2.out]; unfold funK listK; simp only [List.append_assoc, List.cons_append, List.drop_zero]⟩
              have HB : Hd (lst (s ++ (((((bs (keyB x.name) ++ bs (varKeysL x.params)) ++ bs (varKeysL x.locals)) ++ bs (keyB x.result)) ++ bs (digL x.blocks.length)) ++ ({ data := #[98] } : ByteArray))) ++ (((x.blocks.drop 0).map blkK).flatten ++ R4) = T) := ⟨by
                rw [← HI3.out]
                simp only [lst_app, lst_bs, List.append_assoc, List.cons_append, List.nil_append, lst_lit, List.toList_toArray]⟩
              have hzz := congrArg List.length HB.out
              simp only [lst_app, lst_bs, List.length_append, lst_lit, List.toList_toArray, List.length_cons, List.length_nil] at hzz
              rw [lst_len] at hzz
              have HC0 : Hd (∀ n : Nat, _) := ⟨fun n => key_u x.name (by omega) (W1.drewN n)⟩
              have z0 : (bs (keyB x.name)).size = (keyB x.name).length := bs_size _
              obtain ⟨y0, h0⟩ : ∃ z_, bs (keyB x.name) = z_ := ⟨_, rfl⟩
              rw [h0] at HC0 HB z0
              have HC1 : Hd (∀ n : Nat, _) := ⟨fun n => varKeys_at HPA.out (by omega) (W1.drewN n) (HKF.out.trans (modN W1 n) (fun _ h => Or.inl h))⟩
              have z1 : (bs (varKeysL x.params)).size = (varKeysL x.params).length := bs_size _
              obtain ⟨y1, h1⟩ : ∃ z_, bs (varKeysL x.params) = z_ := ⟨_, rfl⟩
              rw [h1] at HC1 HB z1
              have HC2 : Hd (∀ n : Nat, _) := ⟨fun n => varKeys_at HLO.out (by omega) (W1.drewN n) (HKF.out.trans (modN W1 n) (fun _ h => Or.inl h))⟩
              have z2 : (bs (varKeysL x.locals)).size = (varKeysL x.locals).length := bs_size _
              obtain ⟨y2, h2⟩ : ∃ z_, bs (varKeysL x.locals) = z_ := ⟨_, rfl⟩
              rw [h2] at HC2 HB z2
              have HC3 : Hd (∀ n : Nat, _) := ⟨fun n => key_u x.result (by omega) (W1.drewN n)⟩
              have z3 : (bs (keyB x.result)).size = (keyB x.result).length := bs_size _
              obtain ⟨y3, h3⟩ : ∃ z_, bs (keyB x.result) = z_ := ⟨_, rfl⟩
              rw [h3] at HC3 HB z3
              have HC4 : Hd (∀ n : Nat, _) := ⟨fun n => digits_u x.blocks.length (by omega) (W1.drewN n)⟩
              have z4 : (bs (digL x.blocks.length)).size = (digL x.blocks.length).length := bs_size _
              obtain ⟨y4, h4⟩ : ∃ z_, bs (digL x.blocks.length) = z_ := ⟨_, rfl⟩
              rw [h4] at HC4 HB z4
              rw [← z0] at hzz
              rw [← z1] at hzz
              rw [← z2] at hzz
              rw [← z3] at hzz
              rw [← z4] at hzz
              have zz : s.size + (y0.size + y1.size + y2.size + y3.size + y4.size + 1) ≤ 1099511627776 := by omega
              clear hzz z0 h0 z1 h1 z2 h2 z3 h3 z4 h4
              have g1 : ∀ n, (W1.drewN n).cell? ⟨bf, 1, none⟩ = some (.string x.name) := fun n => cell_in HXF.out rfl
              have g2 : ∀ n, (W1.drewN n).cell? ⟨bf, 2, none⟩ = some (.slice oa1 la1 ca1) := fun n => cell_in HXF.out rfl
              have g3 : ∀ n, (W1.drewN n).cell? ⟨bf, 3, none⟩ = some (.slice ob1 lb1 cb1) := fun n => cell_in HXF.out rfl
              have g4 : ∀ n, (W1.drewN n).cell? ⟨bf, 4, none⟩ = some (.string x.result) := fun n => cell_in HXF.out rfl
              have g5 : ∀ n, (W1.drewN n).cell? ⟨bf, 5, none⟩ = some (.slice oc1 x.blocks.length cc1) := fun n => cell_in HXF.out rfl
              go_quiet (first | (go_at_call 55; exact Calls.quiet_of (Qui.at (HC0.out _) (by with_reducible rfl))) | (go_at_call 57; exact Calls.quiet_of (Qui.at (HC1.out _) (by with_reducible rfl))) | (go_at_call 57; exact Calls.quiet_of (Qui.at (HC2.out _) (by with_reducible rfl))) | (go_at_call 55; exact Calls.quiet_of (Qui.at (HC3.out _) (by with_reducible rfl))) | (go_at_call 54; exact Calls.quiet_of (Qui.at (HC4.out _) (by with_reducible rfl))))
              clear g1 g2 g3 g4 g5 zz HC0 HC1 HC2 HC3 HC4 HPA HLO
              obtain ⟨W2, hW2⟩ : ∃ W2, W1.drewN nq = W2 := ⟨_, rfl⟩
              have HXXF : Hd (∀ W, Mod (fun _ => False) W2 W → W.heap[bf]? = some (.cells #[.int .i64 x.pos, .string x.name, .slice oa1 la1 ca1, .slice ob1 lb1 cb1, .string x.result, .slice oc1 x.blocks.length cc1] 45 (0, 0))) := ⟨fun W h => by
                rw [← hW2] at h
                exact (h.block _ (Array.getElem?_eq_some_iff.1 HXF.out).1 (fun h => h)).trans HXF.out⟩
              have HMMF : Hd (Mod (fun _ => False) (w.alloc (.cells C 36)) W2) := ⟨by rw [← hW2]; exact HMF.out.trans (modN _ _) (fun _ h => Or.inl h)⟩
              have HKKF : Hd (Mod (fun _ => False) w0 W2) := ⟨by rw [← hW2]; exact HKF.out.trans (modN _ _) (fun _ h => Or.inl h)⟩
              rw [hW2]
              clear hW2 HMF HKF HXF
              have c5 : W2.cell? ⟨bf, 5, none⟩ = some (.slice oc1 x.blocks.length cc1) := cell_in (HXXF.out _ (Mod.refl _ _)) rfl
              go_wp2_with fail
              clear c5
              go_loopg [3, 9] x.blocks.length (fun gk v3 v4 wr => Hd (Mod (fun _ => False) W2 wr) ∧ ∃ (j : Nat) (s : ByteArray), v4 = .int .i64 j ∧ v3 = .string s ∧ j + gk = x.blocks.length ∧ Hd (lst s ++ (((x.blocks.drop j).map blkK).flatten ++ R4) = T))
              case atStart => exact ⟨⟨Mod.refl _ _⟩, 0, _, rfl, rfl, by omega, HB⟩
              case round =>
                obtain ⟨HM, j, s, rfl, rfl, hkj, HI⟩ := hrel
                obtain ⟨gk4, rfl⟩ : ∃ g, g = gk := ⟨_, rfl⟩
                have c5 : wr.cell? ⟨bf, 5, none⟩ = some (.slice oc1 x.blocks.length cc1) := cell_in (HXXF.out _ HM.out) rfl
                have HK : Hd (Mod (fun _ => False) w0 wr) := ⟨HKKF.out.trans HM.out (fun _ h => Or.inl h)⟩
                by_cases hltj : j < x.blocks.length
                · have hx0 : x.blocks[j]? = some x.blocks[j] := List.getElem?_eq_getElem (by omega)
                  obtain ⟨y, hx⟩ : ∃ z_, x.blocks[j]? = some z_ := ⟨_, hx0⟩
                  obtain ⟨b, o, oa3, la3, ca3, ob3, lb3, cb3, oc3, lc3, cc3, od3, ld3, cd3, oe3, le3, ce3, rfl, _, hbl, f0, f1, f2, f3, f4, f5, f6, f7, f8, f9, f10, hvx⟩ := HBK.out.blk hx
                  obtain ⟨_, _, oa4, la4, ca4, ob4, lb4, cb4, oc4, lc4, cc4, od4, ld4, cd4, oe4, le4, ce4, hve, hst, htr⟩ := hvx
                  obtain ⟨_, htk, _, htl, ob5, lb5, cb5, oc5, lc5, cc5, od5, ld5, cd5, oe5, le5, ce5, hte, ht1, ht2, ht3, ht4⟩ := htr
                  unfold trmA at hte
                  simp only [Value.agg.injEq, Array.mk.injEq, List.cons.injEq, Value.slice.injEq, true_and, and_true] at hve hte
                  obtain ⟨⟨rfl, rfl, rfl⟩, ⟨rfl, rfl, rfl⟩, ⟨rfl, rfl, rfl⟩, ⟨rfl, rfl, rfl⟩, ⟨rfl, rfl, rfl⟩⟩ := hve
                  obtain ⟨⟨rfl, rfl, rfl⟩, ⟨rfl, rfl, rfl⟩, ⟨rfl, rfl, rfl⟩, ⟨rfl, rfl, rfl⟩⟩ := hte
                  have hl1 := hst.hlen
                  have hl2 := ht2.hlen
                  have hl3 := ht3.hlen
                  have hl4 := ht4.hlen
                  have hstb := hst.hbig
                  have hamb := ht4.hbig
                  subst hl1
                  subst hl2
                  subst hl3
                  subst hl4
                  have HST : Hd _ := ⟨hst⟩
                  have HTD : Hd (plV S w0 (.agg #[.string y.term.dest.loc, .slice ob3 lb3 cb3]) y.term.dest) := ⟨⟨htl, ob3, lb3, cb3, rfl, ht1⟩⟩
                  have HTA : Hd _ := ⟨ht2⟩
                  have HTB : Hd _ := ⟨ht3⟩
                  have HTM : Hd _ := ⟨ht4⟩
                  have HTK : Hd _ := ⟨htk⟩
                  clear hst ht1 ht2 ht3 ht4 htk htl
                  have es : IntKind.u64.wrap (y.stmts.length : Int) = (y.stmts.length : Int) := by rw [IntKind.wrap_u64]; omega
                  have ea : IntKind.u64.wrap (y.term.arms.length : Int) = (y.term.arms.length : Int) := by rw [IntKind.wrap_u64]; omega
                  have HI2 : Hd _ := ⟨rest_hit HI.out hx⟩
                  obtain ⟨R5, hR⟩ : ∃ R, ((x.blocks.drop (j + 1)).map blkK).flatten ++ R4 = R := ⟨_, rfl⟩
                  rw [hR] at HI2
                  have HR5 : Hd _ := ⟨hR⟩
                  have d0 := HK.out.cell' f0
                  have d1 := HK.out.cell' f1
                  have d2 := HK.out.cell' f2
                  have d3 := HK.out.cell' f3
                  have d4 := HK.out.cell' f4
                  have d5 := HK.out.cell' f5
                  have d6 := HK.out.cell' f6
                  have d7 := HK.out.cell' f7
                  have d8 := HK.out.cell' f8
                  have d9 := HK.out.cell' f9
                  have d10 := HK.out.cell' f10
                  clear hx hx0 f0 f1 f2 f3 f4 f5 f6 f7 f8 f9 f10 hbl hR HI
                  repeat (go_not_at_region 22; first | go_values | go_skip | go_guarded | go_step | go_upon | go_back)
                  clear d0 d1 d2 d3 d4 d5 d6 d7 d8 d9 d10 c5
                  obtain ⟨bb, hbx⟩ : ∃ b, wr.heap.size = b := ⟨_, rfl⟩
                  have HA : Hd (Mod (fun _ => False) wr (wr.alloc (.cells #[.int .i64 y.pos, .string y.name, .slice oa3 y.stmts.length ca3, .int .i64 y.term.pos, .int .i64 y.term.kind, .string y.term.dest.loc, .slice ob3 lb3 cb3, .string y.term.name, .slice oc3 y.term.args.length cc3, .slice od3 y.term.blocks.length cd3, .slice oe3 y.term.arms.length ce3] 64))) := ⟨Mod.alloc _ _ _⟩
                  have HXB : Hd ((wr.alloc (.cells #[.int .i64 y.pos, .string y.name, .slice oa3 y.stmts.length ca3, .int .i64 y.term.pos, .int .i64 y.term.kind, .string y.term.dest.loc, .slice ob3 lb3 cb3, .string y.term.name, .slice oc3 y.term.args.length cc3, .slice od3 y.term.blocks.length cd3, .slice oe3 y.term.arms.length ce3] 64)).heap[bb]? = some (.cells #[.int .i64 y.pos, .string y.name, .slice oa3 y.stmts.length ca3, .int .i64 y.term.pos, .int .i64 y.term.kind, .string y.term.dest.loc, .slice ob3 lb3 cb3, .string y.term.name, .slice oc3 y.term.args.length cc3, .slice od3 y.term.blocks.length cd3, .slice oe3 y.term.arms.length ce3] 64 (0, 0))) := ⟨by rw [← hbx]; exact heap_new' _ _⟩
                  obtain ⟨W3, hW1⟩ : ∃ W1, wr.alloc (.cells #[.int .i64 y.pos, .string y.name, .slice oa3 y.stmts.length ca3, .int .i64 y.term.pos, .int .i64 y.term.kind, .string y.term.dest.loc, .slice ob3 lb3 cb3, .string y.term.name, .slice oc3 y.term.args.length cc3, .slice od3 y.term.blocks.length cd3, .slice oe3 y.term.arms.length ce3] 64) = W1 := ⟨_, rfl⟩
                  rw [hW1] at HA HXB
                  rw [hbx, hW1]
                  have HMB : Hd (Mod (fun _ => False) W2 W3) := ⟨HM.out.trans HA.out (fun _ h => Or.inl h)⟩
                  have HKB : Hd (Mod (fun _ => False) w0 W3) := ⟨HK.out.trans HA.out (fun _ h => Or.inl h)⟩
                  clear hW1 hbx HA HM HK
                  obtain ⟨R6, hR6⟩ : ∃ R, trmK y.term ++ R5 = R := ⟨_, rfl⟩
                  have HR6 : Hd _ := ⟨hR6⟩
                  have HI3 : Hd (lst s ++ (keyB y.name ++ (digL y.stmts.length ++ (116 :: (((y.stmts.drop 0).map stmK).flatten ++ R6)))) = T) := ⟨by rw [← HI2.out, ← hR6]; unfold blkK listK; simp only [List.append_assoc, List.cons_append, List.drop_zero]⟩
                  clear hR6
                  have HB : Hd (lst (s ++ ((bs (keyB y.name) ++ bs (digL y.stmts.length)) ++ ({ data := #[116] } : ByteArray))) ++ (((y.stmts.drop 0).map stmK).flatten ++ R6) = T) := ⟨by
                    rw [← HI3.out]
                    simp only [lst_app, lst_bs, List.append_assoc, List.cons_append, List.nil_append, lst_lit, List.toList_toArray]⟩
                  have hzz := congrArg List.length HB.out
                  simp only [lst_app, lst_bs, List.length_append, lst_lit, List.toList_toArray, List.length_cons, List.length_nil] at hzz
                  rw [lst_len] at hzz
                  have HC0 : Hd (∀ n : Nat, _) := ⟨fun n => key_u y.name (by omega) (W3.drewN n)⟩
                  have z0 : (bs (keyB y.name)).size = (keyB y.name).length := bs_size _
                  obtain ⟨y0, h0⟩ : ∃ z_, bs (keyB y.name) = z_ := ⟨_, rfl⟩
                  rw [h0] at HC0 HB z0
                  have HC1 : Hd (∀ n : Nat, _) := ⟨fun n => digits_u y.stmts.length (by omega) (W3.drewN n)⟩
                  have z1 : (bs (digL y.stmts.length)).size = (digL y.stmts.length).length := bs_size _
                  obtain ⟨y1, h1⟩ : ∃ z_, bs (digL y.stmts.length) = z_ := ⟨_, rfl⟩
                  rw [h1] at HC1 HB z1
                  rw [← z0] at hzz
                  rw [← z1] at hzz
                  have zz : s.size + (y0.size + y1.size + 1) ≤ 1099511627776 := by omega
                  clear hzz z0 h0 z1 h1
                  have g1 : ∀ n, (W3.drewN n).cell? ⟨bb, 1, none⟩ = some (.string y.name) := fun n => cell_in HXB.out rfl
                  have g2 : ∀ n, (W3.drewN n).cell? ⟨bb, 2, none⟩ = some (.slice oa3 y.stmts.length ca3) := fun n => cell_in HXB.out rfl
                  go_quiet (first | (go_at_call 55; exact Calls.quiet_of (Qui.at (HC0.out _) (by with_reducible rfl))) | (go_at_call 54; exact Calls.quiet_of (Qui.at (HC1.out _) (by with_reducible rfl))))
                  clear g1 g2 zz HC0 HC1
                  obtain ⟨W4, hW2⟩ : ∃ W2, W3.drewN nq = W2 := ⟨_, rfl⟩
                  have HXXB : Hd (∀ W, Mod (fun _ => False) W4 W → W.heap[bb]? = some (.cells #[.int .i64 y.pos, .string y.name, .slice oa3 y.stmts.length ca3, .int .i64 y.term.pos, .int .i64 y.term.kind, .string y.term.dest.loc, .slice ob3 lb3 cb3, .string y.term.name, .slice oc3 y.term.args.length cc3, .slice od3 y.term.blocks.length cd3, .slice oe3 y.term.arms.length ce3] 64 (0, 0))) := ⟨fun W h => by
                    rw [← hW2] at h
                    exact (h.block _ (Array.getElem?_eq_some_iff.1 HXB.out).1 (fun h => h)).trans HXB.out⟩
                  have HMMB : Hd (Mod (fun _ => False) W2 W4) := ⟨by rw [← hW2]; exact HMB.out.trans (modN _ _) (fun _ h => Or.inl h)⟩
                  have HKKB : Hd (Mod (fun _ => False) w0 W4) := ⟨by rw [← hW2]; exact HKB.out.trans (modN _ _) (fun _ h => Or.inl h)⟩
                  rw [hW2]
                  clear hW2 HMB HKB HXB
                  have c2 : W4.cell? ⟨bb, 2, none⟩ = some (.slice oa3 y.stmts.length ca3) := cell_in (HXXB.out _ (Mod.refl _ _)) rfl
                  go_wp2_with fail
                  clear c2
                  go_loopg [3, 11] y.stmts.length (fun gk v3 v4 wr => Hd (Mod (fun _ => False) W4 wr) ∧ ∃ (k : Nat) (s : ByteArray), v4 = .int .i64 k ∧ v3 = .string s ∧ k + gk = y.stmts.length ∧ Hd (lst s ++ (((y.stmts.drop k).map stmK).flatten ++ R6) = T))
                  case atStart => exact ⟨⟨Mod.refl _ _⟩, 0, _, rfl, rfl, by omega, HB⟩
                  case round =>
                    obtain ⟨HM, k, s, rfl, rfl, hkk, HI⟩ := hrel
                    have c2 : wr.cell? ⟨bb, 2, none⟩ = some (.slice oa3 y.stmts.length ca3) := cell_in (HXXB.out _ HM.out) rfl
                    have HK : Hd (Mod (fun _ => False) w0 wr) := ⟨HKKB.out.trans HM.out (fun _ h => Or.inl h)⟩
                    by_cases hltk : k < y.stmts.length
                    · have hx0 : y.stmts[k]? = some y.stmts[k] := List.getElem?_eq_getElem (by omega)
                      obtain ⟨z, hx⟩ : ∃ z_, y.stmts[k]? = some z_ := ⟨_, hx0⟩
                      obtain ⟨b, o, oa6, la6, ca6, ob6, lb6, cb6, rfl, _, hbl, f0, f1, f2, f3, f4, f5, f6, f7, hvx⟩ := HST.out.stm hx
                      obtain ⟨_, hzk, hzn, _, _, hzl, oa7, la7, ca7, ob7, lb7, cb7, hve, hzs, hza⟩ := hvx
                      simp only [Value.agg.injEq, Array.mk.injEq, List.cons.injEq, Value.slice.injEq, true_and, and_true] at hve
                      obtain ⟨⟨rfl, rfl, rfl⟩, ⟨rfl, rfl, rfl⟩⟩ := hve
                      have HZD : Hd (plV S w0 (.agg #[.string z.dest.loc, .slice oa6 la6 ca6]) z.dest) := ⟨⟨hzl, oa6, la6, ca6, rfl, hzs⟩⟩
                      have HZA : Hd _ := ⟨hza⟩
                      have HZK : Hd _ := ⟨hzk⟩
                      have HZN : Hd _ := ⟨hzn⟩
                      clear hzk hzn hzl hzs hza
                      have HI2 : Hd _ := ⟨rest_hit HI.out hx⟩
                      obtain ⟨R7, hR⟩ : ∃ R, ((y.stmts.drop (k + 1)).map stmK).flatten ++ R6 = R := ⟨_, rfl⟩
                      rw [hR] at HI2
                      have HR7 : Hd _ := ⟨hR⟩
                      have d0 := HK.out.cell' f0
                      have d1 := HK.out.cell' f1
                      have d2 := HK.out.cell' f2
                      have d3 := HK.out.cell' f3
                      have d4 := HK.out.cell' f4
                      have d5 := HK.out.cell' f5
                      have d6 := HK.out.cell' f6
                      have d7 := HK.out.cell' f7
                      clear hx hx0 f0 f1 f2 f3 f4 f5 f6 f7 hbl hR HI
                      repeat (go_not_at_region 27; first | go_values | go_skip | go_guarded | go_step | go_upon | go_back)
                      clear d0 d1 d2 d3 d4 d5 d6 d7 c2
                      obtain ⟨bz, hbx⟩ : ∃ b, wr.heap.size = b := ⟨_, rfl⟩
                      have HA : Hd (Mod (fun _ => False) wr (wr.alloc (.cells #[.int .i64 z.pos, .int .i64 z.kind, .string z.dest.loc, .slice oa6 la6 ca6, .int .i64 z.n, .string z.name, .string z.variant, .slice ob6 lb6 cb6] 68))) := ⟨Mod.alloc _ _ _⟩
                      have HXS : Hd ((wr.alloc (.cells #[.int .i64 z.pos, .int .i64 z.kind, .string z.dest.loc, .slice oa6 la6 ca6, .int .i64 z.n, .string z.name, .string z.variant, .slice ob6 lb6 cb6] 68)).heap[bz]? = some (.cells #[.int .i64 z.pos, .int .i64 z.kind, .string z.dest.loc, .slice oa6 la6 ca6, .int .i64 z.n, .string z.name, .string z.variant, .slice ob6 lb6 cb6] 68 (0, 0))) := ⟨by rw [← hbx]; exact heap_new' _ _⟩
                      obtain ⟨W5, hW1⟩ : ∃ W1, wr.alloc (.cells #[.int .i64 z.pos, .int .i64 z.kind, .string z.dest.loc, .slice oa6 la6 ca6, .int .i64 z.n, .string z.name, .string z.variant, .slice ob6 lb6 cb6] 68) = W1 := ⟨_, rfl⟩
                      rw [hW1] at HA HXS
                      rw [hbx, hW1]
                      have HMS : Hd (Mod (fun _ => False) W4 W5) := ⟨HM.out.trans HA.out (fun _ h => Or.inl h)⟩
                      have HKS : Hd (Mod (fun _ => False) w0 W5) := ⟨HK.out.trans HA.out (fun _ h => Or.inl h)⟩
                      clear hW1 hbx HA HM HK
                      have HI3 : Hd (lst s ++ (numberL z.kind ++ (placeKeysL [z.dest] ++ (numberL z.n ++ (59 :: (keyB z.name ++ (keyB z.variant ++ (placeKeysL z.args ++ R7))))))) = T) := ⟨by rw [← HI2.out]; unfold stmK; simp only [List.append_assoc, List.cons_append]⟩
                      refine reg27_c hb HXS HKS HZD HZA HZK HZN HI3 _ _ _ _ _ _ _ _ _ _ _ _ _ _ _ _ _ _ _ _ _ _ _ _ _ _ _ _ _ _ _ _ _ _ _ _ _ _ _ _ _ _ _ _ _ _ _ _ _ _ _ _ _ _ _ _ _ _ _ _ _ _ _ _ _ _ _ _ _ _ _ _ _ _ _ _ _ _ _ _ _ _ _ _ _ _ _ _ _ _ _ _ _ _ _ _ _ _ _ _ _ _ _ _ _ _ _ _ _ _ _ _ _ _ _ _ _ _ _ _ _ _ _ _ _ _ _ _ _ _ _ _ _ _ _ _ _ _ _ _ _ _ _ _ _ _ _ _ _ _ _ _ _ _ _ _ _ _ _ _ _ _ _ _ _ _ _ _ _ _ _ _ _ _ _ _ _ _ _ _ _ _ _ _ _ _ _ _ _ _ _ _ _ _ _ _ _ _ _ _ _ _ _ _ _ _ _ _ _ _ _ _ _ _ _ _ _ _ _ _ _ _ _ _ _ _ _ _ _ _ _ _ _ _ _ _ _ _ _ _ _ _ _ _ _ _ _ _ _ _ _ ?_
                      intro s2 w' v162 v163 v164 v165 v166 v167 v168 v169 v170 v171 v172 v173 v174 v175 v176 v177 v178 v179 v180 v181 v182 v183 v184 v185 v186 v187 v188 HWz HSz
                      clear HXS HKS HZD HZA HZK HZN HI3 HI2
                      go_wp2_with fail
                      go_roundg (gk - 1)
                      case measure => omega
                      case rel => exact ⟨⟨HMS.out.trans HWz.out (fun _ h => Or.inl h)⟩, k + 1, _, by go_num, rfl, by omega, ⟨by rw [HR7.out]; exact HSz.out⟩⟩
                    · have ht2 := rest_end HI.out (by omega)
                      rw [← HR6.out] at ht2
                      have HT2 : Hd _ := ⟨ht2⟩
                      clear ht2 HI
                      have d3 : wr.cell? ⟨bb, 3, none⟩ = some (.int .i64 y.term.pos) := cell_in (HXXB.out _ HM.out) rfl
                      have d4 : wr.cell? ⟨bb, 4, none⟩ = some (.int .i64 y.term.kind) := cell_in (HXXB.out _ HM.out) rfl
                      have d5 : wr.cell? ⟨bb, 5, none⟩ = some (.string y.term.dest.loc) := cell_in (HXXB.out _ HM.out) rfl
                      have d6 : wr.cell? ⟨bb, 6, none⟩ = some (.slice ob3 lb3 cb3) := cell_in (HXXB.out _ HM.out) rfl
                      have d7 : wr.cell? ⟨bb, 7, none⟩ = some (.string y.term.name) := cell_in (HXXB.out _ HM.out) rfl
                      have d8 : wr.cell? ⟨bb, 8, none⟩ = some (.slice oc3 y.term.args.length cc3) := cell_in (HXXB.out _ HM.out) rfl
                      have d9 : wr.cell? ⟨bb, 9, none⟩ = some (.slice od3 y.term.blocks.length cd3) := cell_in (HXXB.out _ HM.out) rfl
                      have d10 : wr.cell? ⟨bb, 10, none⟩ = some (.slice oe3 y.term.arms.length ce3) := cell_in (HXXB.out _ HM.out) rfl
                      repeat (go_not_at_region 29; first | go_values | go_skip | go_guarded | go_step | go_upon | go_back)
                      clear d3 d4 d5 d6 d7 d8 d9 d10 c2
                      obtain ⟨bt, hbx⟩ : ∃ b, wr.heap.size = b := ⟨_, rfl⟩
                      have HA : Hd (Mod (fun _ => False) wr (wr.alloc (.cells #[.int .i64 y.term.pos, .int .i64 y.term.kind, .string y.term.dest.loc, .slice ob3 lb3 cb3, .string y.term.name, .slice oc3 y.term.args.length cc3, .slice od3 y.term.blocks.length cd3, .slice oe3 y.term.arms.length ce3] 61))) := ⟨Mod.alloc _ _ _⟩
                      have HXT : Hd ((wr.alloc (.cells #[.int .i64 y.term.pos, .int .i64 y.term.kind, .string y.term.dest.loc, .slice ob3 lb3 cb3, .string y.term.name, .slice oc3 y.term.args.length cc3, .slice od3 y.term.blocks.length cd3, .slice oe3 y.term.arms.length ce3] 61)).heap[bt]? = some (.cells #[.int .i64 y.term.pos, .int .i64 y.term.kind, .string y.term.dest.loc, .slice ob3 lb3 cb3, .string y.term.name, .slice oc3 y.term.args.length cc3, .slice od3 y.term.blocks.length cd3, .slice oe3 y.term.arms.length ce3] 61 (0, 0))) := ⟨by rw [← hbx]; exact heap_new' _ _⟩
                      obtain ⟨W6, hW1⟩ : ∃ W1, wr.alloc (.cells #[.int .i64 y.term.pos, .int .i64 y.term.kind, .string y.term.dest.loc, .slice ob3 lb3 cb3, .string y.term.name, .slice oc3 y.term.args.length cc3, .slice od3 y.term.blocks.length cd3, .slice oe3 y.term.arms.length ce3] 61) = W1 := ⟨_, rfl⟩
                      rw [hW1] at HA HXT
                      rw [hbx, hW1]
                      have HMT : Hd (Mod (fun _ => False) W4 W6) := ⟨HM.out.trans HA.out (fun _ h => Or.inl h)⟩
                      have HKT : Hd (Mod (fun _ => False) w0 W6) := ⟨HK.out.trans HA.out (fun _ h => Or.inl h)⟩
                      clear hW1 hbx HA HM HK
                      have HI3 : Hd (lst s ++ (numberL y.term.kind ++ (placeKeysL [y.term.dest] ++ (keyB y.term.name ++ (placeKeysL y.term.args ++ (keysL y.term.blocks ++ (digL y.term.arms.length ++ (97 :: (((y.term.arms.drop 0).map armK).flatten ++ R5)))))))) = T) := ⟨by rw [← HT2.out]; unfold trmK listK; simp only [List.append_assoc, List.cons_append, List.drop_zero]⟩
                      clear HT2
                      refine reg29_c hb hamb ea HXT HKT HTD HTA HTB HTK HI3 _ _ _ _ _ _ _ _ _ _ _ _ _ _ _ _ _ _ _ _ _ _ _ _ _ _ _ _ _ _ _ _ _ _ _ _ _ _ _ _ _ _ _ _ _ _ _ _ _ _ _ _ _ _ _ _ _ _ _ _ _ _ _ _ _ _ _ _ _ _ _ _ _ _ _ _ _ _ _ _ _ _ _ _ _ _ _ _ _ _ _ _ _ _ _ _ _ _ _ _ _ _ _ _ _ _ _ _ _ _ _ _ _ _ _ _ _ _ _ _ _ _ _ _ _ _ _ _ _ _ _ _ _ _ _ _ _ _ _ _ _ _ _ _ _ _ _ _ _ _ _ _ _ _ _ _ _ _ _ _ _ _ _ _ _ _ _ _ _ _ _ _ _ _ _ _ _ _ _ _ _ _ _ _ _ _ _ _ _ _ _ _ _ _ _ _ _ _ _ _ _ _ _ _ _ _ _ _ _ _ _ _ _ _ _ _ _ _ _ _ _ _ _ _ _ _ _ _ _ _ _ _ _ _ _ _ _ _ _ _ _ _ _ _ _ _ _ _ _ _ _ ?_
                      intro s2 w' v191 v192 v193 v194 v195 v196 v197 v198 v199 v200 v201 v202 v203 v204 v205 v206 v207 v208 v209 v210 v211 v212 v213 v214 v215 v216 v217 v218 v219 HWz HSz
                      clear HTD HTA HTB HTK HI3
                      have c7 : w'.cell? ⟨bt, 7, none⟩ = some (.slice oe3 y.term.arms.length ce3) := cell_in ((HWz.out.block _ (Array.getElem?_eq_some_iff.1 HXT.out).1 (fun h => h)).trans HXT.out) rfl
                      go_wp2_with fail
                      clear c7
                      go_loopg [3, 14] y.term.arms.length (fun gk v3 v4 wr => Hd (Mod (fun _ => False) W6 wr) ∧ ∃ (q : Nat) (s : ByteArray), v4 = .int .i64 q ∧ v3 = .string s ∧ q + gk = y.term.arms.length ∧ Hd (lst s ++ (((y.term.arms.drop q).map armK).flatten ++ R5) = T))
                      case atStart => exact ⟨HWz, 0, _, rfl, rfl, by omega, HSz⟩
                      case round =>
                        obtain ⟨HM, q, s, rfl, rfl, hkq, HI⟩ := hrel
                        have c7 : wr.cell? ⟨bt, 7, none⟩ = some (.slice oe3 y.term.arms.length ce3) := cell_in ((HM.out.block _ (Array.getElem?_eq_some_iff.1 HXT.out).1 (fun h => h)).trans HXT.out) rfl
                        have HK : Hd (Mod (fun _ => False) w0 wr) := ⟨HKT.out.trans HM.out (fun _ h => Or.inl h)⟩
                        by_cases hltq : q < y.term.arms.length
                        · have hx0 : y.term.arms[q]? = some y.term.arms[q] := List.getElem?_eq_getElem (by omega)
                          obtain ⟨a, hx⟩ : ∃ z_, y.term.arms[q]? = some z_ := ⟨_, hx0⟩
                          obtain ⟨b, o, rfl, _, hbl, f0, f1, f2, hvx⟩ := HTM.out.arm hx
                          obtain ⟨_, _, _, _⟩ := hvx
                          have HF0 : Hd _ := ⟨f0⟩
                          have HF1 : Hd _ := ⟨f1⟩
                          have HF2 : Hd _ := ⟨f2⟩
                          have HI2 : Hd _ := ⟨rest_hit HI.out hx⟩
                          obtain ⟨R8, hR⟩ : ∃ R, ((y.term.arms.drop (q + 1)).map armK).flatten ++ R5 = R := ⟨_, rfl⟩
                          rw [hR] at HI2
                          have HR8 : Hd _ := ⟨hR⟩
                          clear hx hx0 f0 f1 f2 hbl hR HI
                          have HI3 : Hd (lst s ++ (keyB a.variant ++ (keyB a.loc ++ (keyB a.block ++ R8))) = T) := ⟨by rw [← HI2.out]; unfold armK; simp only [List.append_assoc]⟩
                          have HB : Hd (lst (s ++ ((bs (keyB a.variant) ++ bs (keyB a.loc)) ++ bs (keyB a.block))) ++ R8 = T) := ⟨by
                            rw [← HI3.out]
                            simp only [lst_app, lst_bs, List.append_assoc, List.cons_append, List.nil_append, lst_lit, List.toList_toArray]⟩
                          have hzz := congrArg List.length HB.out
                          simp only [lst_app, lst_bs, List.length_append, lst_lit, List.toList_toArray, List.length_cons, List.length_nil] at hzz
                          rw [lst_len] at hzz
                          have HC0 : Hd (∀ n : Nat, _) := ⟨fun n => key_u a.variant (by omega) (wr.drewN n)⟩
                          have z0 : (bs (keyB a.variant)).size = (keyB a.variant).length := bs_size _
                          obtain ⟨y0, h0⟩ : ∃ z_, bs (keyB a.variant) = z_ := ⟨_, rfl⟩
                          rw [h0] at HC0 HB z0
                          have HC1 : Hd (∀ n : Nat, _) := ⟨fun n => key_u a.loc (by omega) (wr.drewN n)⟩
                          have z1 : (bs (keyB a.loc)).size = (keyB a.loc).length := bs_size _
                          obtain ⟨y1, h1⟩ : ∃ z_, bs (keyB a.loc) = z_ := ⟨_, rfl⟩
                          rw [h1] at HC1 HB z1
                          have HC2 : Hd (∀ n : Nat, _) := ⟨fun n => key_u a.block (by omega) (wr.drewN n)⟩
                          have z2 : (bs (keyB a.block)).size = (keyB a.block).length := bs_size _
                          obtain ⟨y2, h2⟩ : ∃ z_, bs (keyB a.block) = z_ := ⟨_, rfl⟩
                          rw [h2] at HC2 HB z2
                          rw [← z0] at hzz
                          rw [← z1] at hzz
                          rw [← z2] at hzz
                          have zz : s.size + (y0.size + y1.size + y2.size) ≤ 1099511627776 := by omega
                          clear hzz z0 h0 z1 h1 z2 h2
                          have d0 : ∀ n, (wr.drewN n).cell? ⟨b, o + q * 3, none⟩ = some (.string a.variant) := fun n => HK.out.cell' HF0.out
                          have d1 : ∀ n, (wr.drewN n).cell? ⟨b, o + q * 3 + 1, none⟩ = some (.string a.loc) := fun n => HK.out.cell' HF1.out
                          have d2 : ∀ n, (wr.drewN n).cell? ⟨b, o + q * 3 + 2, none⟩ = some (.string a.block) := fun n => HK.out.cell' HF2.out
                          have c7' : ∀ n, (wr.drewN n).cell? ⟨bt, 7, none⟩ = some (.slice (some ⟨b, o, none⟩) y.term.arms.length ce3) := fun n => c7
                          repeat (go_not_at_region 33; first | go_values | go_skip | go_guarded | go_step | go_upon | go_back)
                          go_quiet (first | (go_at_call 55; exact Calls.quiet_of (Qui.at (HC0.out _) (by with_reducible rfl))) | (go_at_call 55; exact Calls.quiet_of (Qui.at (HC1.out _) (by with_reducible rfl))) | (go_at_call 55; exact Calls.quiet_of (Qui.at (HC2.out _) (by with_reducible rfl))))
                          go_wp2_with fail
                          go_roundg (gk - 1)
                          case measure => omega
                          case rel => exact ⟨⟨HM.out.trans (modN _ _) (fun _ h => Or.inl h)⟩, q + 1, _, by go_num, rfl, by omega, ⟨by rw [HR8.out]; exact HB.out⟩⟩
                        · have HE6 : Hd _ := ⟨rest_end HI.out (by omega)⟩
                          clear HI
                          go_wp2_with fail
                          go_roundg (gk4 - 1)
                          case measure => omega
                          case rel => exact ⟨⟨HMMB.out.trans (HMT.out.trans HM.out (fun _ h => Or.inl h)) (fun _ h => Or.inl h)⟩, j + 1, _, by go_num, rfl, by omega, ⟨by rw [HR5.out]; exact HE6.out⟩⟩
                · have HE4 : Hd _ := ⟨rest_end HI.out (by omega)⟩
                  clear HI
                  go_wp2_with fail
                  go_roundg (gk3 - 1)
                  case measure => omega
                  case rel => exact ⟨⟨HMMF.out.trans HM.out (fun _ h => Or.inl h)⟩, i + 1, _, by go_num, rfl, by omega, ⟨by rw [HR4.out]; exact HE4.out⟩⟩
            · have HE3 : Hd _ := ⟨rest_end HI.out (by omega)⟩
              have HF : Hd (s = bs T) := ⟨bs_of (by rw [← HE3.out, ← HR3.out, HE.out, List.append_nil])⟩
              have HMw : Hd (Mod (fun _ => False) w wr) := ⟨(Mod.alloc _ _ _).trans HM.out (fun _ h => Or.inl h)⟩
              clear HI HE3
              go_wp2
              go_ret
              exact ⟨by rw [HF.out]; rfl, HMw.out⟩
end
end Go.Proofs.YtpodeccpibnlbaaGreatDoor
