/- The reference's Func and Right, walked. -/
import Derived.Test.YtpodeccpibnlbaaGreatDoorN15
namespace Go.Proofs.YtpodeccpibnlbaaGreatDoor
set_option linter.unusedVariables false
set_option linter.unusedSimpArgs false
open Go.RowKit
section
variable {S : Nat → Prop} {w0 : World}
theorem rvars_l {oa : Option Addr} {la ca : Nat} {l : List Vr} (h : Vrs S w0 oa la ca l) : Ans 52 #[.slice oa la ca, .bool false, .bool false] w0 (.bool (l.all localI)) := by
  rw [← localI_eq]; exact rvars_ans h false false
theorem rvars_f {oa : Option Addr} {la ca : Nat} {l : List Vr} (h : Vrs S w0 oa la ca l) : Ans 52 #[.slice oa la ca, .bool true, .bool false] w0 (.bool (l.all fieldI)) := by
  rw [← fieldI_eq]; exact rvars_ans h true false
theorem rvars_v {oa : Option Addr} {la ca : Nat} {l : List Vr} (h : Vrs S w0 oa la ca l) : Ans 52 #[.slice oa la ca, .bool true, .bool true] w0 (.bool (l.all variantI)) := by
  rw [← variantI_eq]; exact rvars_ans h true true
theorem rStmt_i {v : Value} {s : Stm} (hv : stmV S w0 v s) : Ans 111 #[v] w0 (.bool (stmtI s)) := by
  rw [← stmtR_eq]; exact rStmt_ans hv
theorem rTerm_i {v : Value} {s : Trm} (hv : trmV S w0 v s) : Ans 110 #[v] w0 (.bool (termI s)) := by
  rw [← termR_eq]; exact rTerm_ans hv
set_option maxRecDepth 100000 in
set_option maxHeartbeats 16000000 in
theorem rFunc_ans {v : Value} {f : Fun} (hv : funV S w0 v f) : Ans 53 #[v] w0 (.bool (funcI f)) := by
  intro w hw
  obtain ⟨_, hnm, hrs, oa, la, ca, ob, lb, cb, oc, lc, cc, rfl, k1, k2, k3⟩ := hv
  have hl1 := k1.hlen
  have hl2 := k2.hlen
  have hl3 := k3.hlen
  have hb1 := k1.hbig
  have hb2 := k2.hbig
  have hb3 := k3.hbig
  subst hl1
  subst hl2
  subst hl3
  have HBS : Hd _ := ⟨k3⟩
  obtain ⟨r, hr⟩ : ∃ r, funcI f = r := ⟨_, rfl⟩
  have HMA : Hd (Mod (fun _ => False) w (w.alloc (.cells #[.int .i64 f.pos, .string f.name, .slice oa f.params.length ca, .slice ob f.locals.length cb, .string f.result, .slice oc f.blocks.length cc] 45))) := ⟨Mod.alloc _ _ _⟩
  have HKA : Hd (∀ w', Mod (fun _ => False) (w.alloc (.cells #[.int .i64 f.pos, .string f.name, .slice oa f.params.length ca, .slice ob f.locals.length cb, .string f.result, .slice oc f.blocks.length cc] 45)) w' → Mod (fun _ => False) w0 w') := ⟨fun w' h => hw.trans ((Mod.alloc _ _ _).trans h (fun _ h => Or.inl h)) (fun _ h => Or.inl h)⟩
  have HSF : Hd (∀ w', Mod (fun _ => False) (w.alloc (.cells #[.int .i64 f.pos, .string f.name, .slice oa f.params.length ca, .slice ob f.locals.length cb, .string f.result, .slice oc f.blocks.length cc] 45)) w' → w'.cell? ⟨w.heap.size, 0, none⟩ = some (.int .i64 f.pos) ∧ w'.cell? ⟨w.heap.size, 1, none⟩ = some (.string f.name) ∧ w'.cell? ⟨w.heap.size, 2, none⟩ = some (.slice oa f.params.length ca) ∧ w'.cell? ⟨w.heap.size, 3, none⟩ = some (.slice ob f.locals.length cb) ∧ w'.cell? ⟨w.heap.size, 4, none⟩ = some (.string f.result) ∧ w'.cell? ⟨w.heap.size, 5, none⟩ = some (.slice oc f.blocks.length cc)) := ⟨fun w' h => by
    have q := (h.block _ (lt1_0 _ _) (fun h => h)).trans (heap_new' _ _)
    exact ⟨cell_i q rfl, cell_i q rfl, cell_i q rfl, cell_i q rfl, cell_i q rfl, cell_i q rfl⟩⟩
  have HPL : Hd (∀ w, _) := ⟨fun w => rPlain_calls f.result hrs w⟩
  rw [plainR_snd] at HPL
  have HNA : Hd (∀ w, _) := ⟨fun w => rName_calls f.name hnm w⟩
  have HVA : Hd (∀ w', Mod (fun _ => False) (w.alloc (.cells #[.int .i64 f.pos, .string f.name, .slice oa f.params.length ca, .slice ob f.locals.length cb, .string f.result, .slice oc f.blocks.length cc] 45)) w' → _) := ⟨fun w' h => rvars_l k1 w' (HKA.out w' h)⟩
  have HVB : Hd (∀ w', Mod (fun _ => False) (w.alloc (.cells #[.int .i64 f.pos, .string f.name, .slice oa f.params.length ca, .slice ob f.locals.length cb, .string f.result, .slice oc f.blocks.length cc] 45)) w' → _) := ⟨fun w' h => rvars_l k2 w' (HKA.out w' h)⟩
  obtain ⟨qn, hqn⟩ : ∃ q, isName (lst f.name) = q := ⟨_, rfl⟩
  obtain ⟨qp, hqp⟩ : ∃ q, plainI (lst f.result) = q := ⟨_, rfl⟩
  obtain ⟨pn, hpn⟩ : ∃ q, (plainR (lst f.result)).1 = q := ⟨_, rfl⟩
  obtain ⟨qa, hqa⟩ : ∃ q, f.params.all localI = q := ⟨_, rfl⟩
  obtain ⟨qb, hqb⟩ : ∃ q, f.locals.all localI = q := ⟨_, rfl⟩
  have HRC : Hd (r = (qn && qp && (decide (f.params.length ≤ 16) && decide (f.params.length + f.locals.length ≤ 24) && qa && qb) && decide (1 ≤ f.blocks.length) && decide (f.blocks.length ≤ 64) && f.blocks.all blockI)) := ⟨by rw [← hr, ← hqn, ← hqp, ← hqa, ← hqb]; rfl⟩
  rw [hqn] at HNA
  rw [hqp, hpn] at HPL
  rw [hqa] at HVA
  rw [hqb] at HVB
  rw [hr]
  clear hr hqn hqp hpn hqa hqb k1 k2 k3 hw hnm hrs
  go_enter Tryz.func53, Tryz.ntmps53
  go_wp2_with fail
  refine (HPL.out _).mono ?_
  rintro e w1 ⟨rfl, hM⟩
  have H1 : Hd (Mod (fun _ => False) (w.alloc (.cells #[.int .i64 f.pos, .string f.name, .slice oa f.params.length ca, .slice ob f.locals.length cb, .string f.result, .slice oc f.blocks.length cc] 45)) w1) := ⟨hM⟩
  clear hM HPL
  obtain ⟨c0, c1, c2, c3, c4, c5⟩ := HSF.out w1 H1.out
  go_wp2_with fail
  refine (HNA.out _).mono ?_
  rintro e w2 ⟨rfl, hM⟩
  have H2 : Hd (Mod (fun _ => False) (w.alloc (.cells #[.int .i64 f.pos, .string f.name, .slice oa f.params.length ca, .slice ob f.locals.length cb, .string f.result, .slice oc f.blocks.length cc] 45)) w2) := ⟨H1.out.trans hM (fun _ h => Or.inl h)⟩
  clear hM HNA
  clear c0 c1 c2 c3 c4 c5
  obtain ⟨c0, c1, c2, c3, c4, c5⟩ := HSF.out w2 H2.out
  cases qn with
  | false =>
    have HF : Hd (r = false) := ⟨by rw [HRC.out]; simp []⟩
    go_wp2
    go_ret
    exact ⟨by rw [HF.out]; first | rfl | (simp; done), HMA.out.trans H2.out (fun _ h => Or.inl h)⟩
  | true =>
    cases qp with
    | false =>
      have HF : Hd (r = false) := ⟨by rw [HRC.out]; simp []⟩
      go_wp2
      go_ret
      exact ⟨by rw [HF.out]; first | rfl | (simp; done), HMA.out.trans H2.out (fun _ h => Or.inl h)⟩
    | true =>
      by_cases n1 : (16 : Int) < (f.params.length : Int)
      · have m1 : ¬ f.params.length ≤ 16 := by omega
        have HF : Hd (r = false) := ⟨by rw [HRC.out]; simp [m1]⟩
        go_wp2
        go_ret
        exact ⟨by rw [HF.out]; first | rfl | (simp; done), HMA.out.trans H2.out (fun _ h => Or.inl h)⟩
      have m1 : f.params.length ≤ 16 := by omega
      by_cases n2 : (24 : Int) < (f.params.length : Int) + (f.locals.length : Int)
      · have m2 : ¬ f.params.length + f.locals.length ≤ 24 := by omega
        have HF : Hd (r = false) := ⟨by rw [HRC.out]; simp [m2]⟩
        go_wp2
        go_ret
        exact ⟨by rw [HF.out]; first | rfl | (simp; done), HMA.out.trans H2.out (fun _ h => Or.inl h)⟩
      have m2 : f.params.length + f.locals.length ≤ 24 := by omega
      by_cases n3 : (f.blocks.length : Int) < 1
      · have m3 : ¬ 1 ≤ f.blocks.length := by omega
        have HF : Hd (r = false) := ⟨by rw [HRC.out]; simp [m3]⟩
        go_wp2
        go_ret
        exact ⟨by rw [HF.out]; first | rfl | (simp; done), HMA.out.trans H2.out (fun _ h => Or.inl h)⟩
      have m3 : 1 ≤ f.blocks.length := by omega
      by_cases n4 : (64 : Int) < (f.blocks.length : Int)
      · have m4 : ¬ f.blocks.length ≤ 64 := by omega
        have HF : Hd (r = false) := ⟨by rw [HRC.out]; simp [m4]⟩
        go_wp2
        go_ret
        exact ⟨by rw [HF.out]; first | rfl | (simp; done), HMA.out.trans H2.out (fun _ h => Or.inl h)⟩
      have m4 : f.blocks.length ≤ 64 := by omega
      have HM1 : Hd _ := ⟨m1⟩
      have HM2 : Hd _ := ⟨m2⟩
      have HM3 : Hd _ := ⟨m3⟩
      have HM4 : Hd _ := ⟨m4⟩
      clear m1 m2 m3 m4
      go_wp2_with fail
      refine (HVA.out w2 H2.out).mono ?_
      rintro e w3 ⟨rfl, hM⟩
      have H3 : Hd (Mod (fun _ => False) (w.alloc (.cells #[.int .i64 f.pos, .string f.name, .slice oa f.params.length ca, .slice ob f.locals.length cb, .string f.result, .slice oc f.blocks.length cc] 45)) w3) := ⟨H2.out.trans hM (fun _ h => Or.inl h)⟩
      clear hM HVA n1 n2 n3 n4
      clear c0 c1 c2 c3 c4 c5
      obtain ⟨c0, c1, c2, c3, c4, c5⟩ := HSF.out w3 H3.out
      cases qa with
      | false =>
        have HF : Hd (r = false) := ⟨by rw [HRC.out]; simp []⟩
        go_wp2
        go_ret
        exact ⟨by rw [HF.out]; first | rfl | (simp; done), HMA.out.trans H3.out (fun _ h => Or.inl h)⟩
      | true =>
        go_wp2_with fail
        refine (HVB.out w3 H3.out).mono ?_
        rintro e w4 ⟨rfl, hM⟩
        have H4 : Hd (Mod (fun _ => False) (w.alloc (.cells #[.int .i64 f.pos, .string f.name, .slice oa f.params.length ca, .slice ob f.locals.length cb, .string f.result, .slice oc f.blocks.length cc] 45)) w4) := ⟨H3.out.trans hM (fun _ h => Or.inl h)⟩
        clear hM HVB
        clear c0 c1 c2 c3 c4 c5
        obtain ⟨c0, c1, c2, c3, c4, c5⟩ := HSF.out w4 H4.out
        cases qb with
        | false =>
          have HF : Hd (r = false) := ⟨by rw [HRC.out]; simp []⟩
          go_wp2
          go_ret
          exact ⟨by rw [HF.out]; first | rfl | (simp; done), HMA.out.trans H4.out (fun _ h => Or.inl h)⟩
        | true =>
          have HRC2 : Hd (r = f.blocks.all blockI) := ⟨by rw [HRC.out]; simp [HM1.out, HM2.out, HM3.out, HM4.out]⟩
          clear HRC HM1 HM2 HM3 HM4
          go_wp2_with fail
          clear c0 c1 c2 c3 c4 c5
          go_loopg [5] f.blocks.length (fun gk v5 wr => Hd (Mod (fun _ => False) (w.alloc (.cells #[.int .i64 f.pos, .string f.name, .slice oa f.params.length ca, .slice ob f.locals.length cb, .string f.result, .slice oc f.blocks.length cc] 45)) wr) ∧ ∃ i : Nat, v5 = .int .i64 i ∧ i + gk = f.blocks.length ∧ Hd ((f.blocks.drop i).all blockI = f.blocks.all blockI))
          case atStart => exact ⟨H4, 0, rfl, by omega, ⟨rfl⟩⟩
          case round =>
            clear H1 H2 H3 H4
            obtain ⟨HM, i, rfl, hi, HI⟩ := hrel
            obtain ⟨gk1, rfl⟩ : ∃ g, g = gk := ⟨_, rfl⟩
            obtain ⟨c0, c1, c2, c3, c4, c5⟩ := HSF.out wr HM.out
            by_cases hlt : i < f.blocks.length
            · have hx0 : f.blocks[i]? = some f.blocks[i] := List.getElem?_eq_getElem (by omega)
              obtain ⟨y, hx⟩ : ∃ y, f.blocks[i]? = some y := ⟨_, hx0⟩
              obtain ⟨b, o, oa3, la3, ca3, ob3, lb3, cb3, oc3, lc3, cc3, od3, ld3, cd3, oe3, le3, ce3, rfl, _, hbl, f0, f1, f2, f3, f4, f5, f6, f7, f8, f9, f10, hvx⟩ := HBS.out.blk hx
              obtain ⟨_, hyn, oa4, la4, ca4, ob4, lb4, cb4, oc4, lc4, cc4, od4, ld4, cd4, oe4, le4, ce4, hve, hst, htr⟩ := hvx
              simp only [Value.agg.injEq, Array.mk.injEq, List.cons.injEq, Value.slice.injEq, true_and, and_true] at hve
              obtain ⟨⟨rfl, rfl, rfl⟩, ⟨rfl, rfl, rfl⟩, ⟨rfl, rfl, rfl⟩, ⟨rfl, rfl, rfl⟩, ⟨rfl, rfl, rfl⟩⟩ := hve
              have hl1 := hst.hlen
              have hstb := hst.hbig
              subst hl1
              have HST : Hd _ := ⟨hst⟩
              have hkk := HKA.out wr HM.out
              have d0 := hkk.cell' f0
              have d1 := hkk.cell' f1
              have d2 := hkk.cell' f2
              have d3 := hkk.cell' f3
              have d4 := hkk.cell' f4
              have d5 := hkk.cell' f5
              have d6 := hkk.cell' f6
              have d7 := hkk.cell' f7
              have d8 := hkk.cell' f8
              have d9 := hkk.cell' f9
              have d10 := hkk.cell' f10
              have HKB : Hd _ := ⟨hkk⟩
              have HTE : Hd (∀ w', Mod (fun _ => False) wr w' → Calls Tryz.prog 110 #[.agg #[.int .i64 y.term.pos, .int .i64 y.term.kind, .string y.term.dest.loc, .slice ob3 lb3 cb3, .string y.term.name, .slice oc3 lc3 cc3, .slice od3 ld3 cd3, .slice oe3 le3 ce3]] w' _) := ⟨fun w' h => rTerm_i htr w' (HKB.out.trans h (fun _ h => Or.inl h))⟩
              have HNA : Hd (∀ w, _) := ⟨fun w => rName_calls y.name hyn w⟩
              have HIT : Hd (blockI y = true → (f.blocks.drop (i + 1)).all blockI = f.blocks.all blockI) := ⟨fun h => by rw [← HI.out, all_hit hx h]⟩
              have HIF : Hd (blockI y = false → r = false) := ⟨fun h => by rw [HRC2.out, ← HI.out, all_miss hx h]⟩
              obtain ⟨qn, hqn⟩ : ∃ q, isName (lst y.name) = q := ⟨_, rfl⟩
              obtain ⟨qt, hqt⟩ : ∃ q, termI y.term = q := ⟨_, rfl⟩
              have HV : Hd (blockI y = (qn && decide (y.stmts.length ≤ 64) && y.stmts.all stmtI && qt)) := ⟨by rw [← hqn, ← hqt]; rfl⟩
              rw [hqn] at HNA
              rw [hqt] at HTE
              clear hqn hqt hx hx0 f0 f1 f2 f3 f4 f5 f6 f7 f8 f9 f10 hst htr hyn hkk hbl
              have HX : Hd (∀ w', Mod (fun _ => False) (wr.alloc (.cells #[.int .i64 y.pos, .string y.name, .slice oa3 y.stmts.length ca3, .int .i64 y.term.pos, .int .i64 y.term.kind, .string y.term.dest.loc, .slice ob3 lb3 cb3, .string y.term.name, .slice oc3 lc3 cc3, .slice od3 ld3 cd3, .slice oe3 le3 ce3] 64)) w' → w'.cell? ⟨wr.heap.size, 0, none⟩ = some (.int .i64 y.pos) ∧ w'.cell? ⟨wr.heap.size, 1, none⟩ = some (.string y.name) ∧ w'.cell? ⟨wr.heap.size, 2, none⟩ = some (.slice oa3 y.stmts.length ca3) ∧ w'.cell? ⟨wr.heap.size, 3, none⟩ = some (.int .i64 y.term.pos) ∧ w'.cell? ⟨wr.heap.size, 4, none⟩ = some (.int .i64 y.term.kind) ∧ w'.cell? ⟨wr.heap.size, 5, none⟩ = some (.string y.term.dest.loc) ∧ w'.cell? ⟨wr.heap.size, 6, none⟩ = some (.slice ob3 lb3 cb3) ∧ w'.cell? ⟨wr.heap.size, 7, none⟩ = some (.string y.term.name) ∧ w'.cell? ⟨wr.heap.size, 8, none⟩ = some (.slice oc3 lc3 cc3) ∧ w'.cell? ⟨wr.heap.size, 9, none⟩ = some (.slice od3 ld3 cd3) ∧ w'.cell? ⟨wr.heap.size, 10, none⟩ = some (.slice oe3 le3 ce3)) := ⟨fun w' h => by
                have q := (h.block _ (lt1_0 _ _) (fun h => h)).trans (heap_new' _ _)
                exact ⟨cell_i q rfl, cell_i q rfl, cell_i q rfl, cell_i q rfl, cell_i q rfl, cell_i q rfl, cell_i q rfl, cell_i q rfl, cell_i q rfl, cell_i q rfl, cell_i q rfl⟩⟩
              have HMB : Hd (Mod (fun _ => False) wr (wr.alloc (.cells #[.int .i64 y.pos, .string y.name, .slice oa3 y.stmts.length ca3, .int .i64 y.term.pos, .int .i64 y.term.kind, .string y.term.dest.loc, .slice ob3 lb3 cb3, .string y.term.name, .slice oc3 lc3 cc3, .slice od3 ld3 cd3, .slice oe3 le3 ce3] 64))) := ⟨Mod.alloc _ _ _⟩
              have HMB2 : Hd (Mod (fun _ => False) w (wr.alloc (.cells #[.int .i64 y.pos, .string y.name, .slice oa3 y.stmts.length ca3, .int .i64 y.term.pos, .int .i64 y.term.kind, .string y.term.dest.loc, .slice ob3 lb3 cb3, .string y.term.name, .slice oc3 lc3 cc3, .slice od3 ld3 cd3, .slice oe3 le3 ce3] 64))) := ⟨HMA.out.trans (HM.out.trans HMB.out (fun _ h => Or.inl h)) (fun _ h => Or.inl h)⟩
              go_wp2_with fail
              clear c0 c1 c2 c3 c4 c5
              refine (HNA.out _).mono ?_
              rintro e w5 ⟨rfl, hM⟩
              have H5 : Hd (Mod (fun _ => False) (wr.alloc (.cells #[.int .i64 y.pos, .string y.name, .slice oa3 y.stmts.length ca3, .int .i64 y.term.pos, .int .i64 y.term.kind, .string y.term.dest.loc, .slice ob3 lb3 cb3, .string y.term.name, .slice oc3 lc3 cc3, .slice od3 ld3 cd3, .slice oe3 le3 ce3] 64)) w5) := ⟨hM⟩
              clear hM HNA d0 d1 d2 d3 d4 d5 d6 d7 d8 d9 d10
              obtain ⟨x0, x1, x2, x3, x4, x5, x6, x7, x8, x9, x10⟩ := HX.out w5 H5.out
              cases qn with
              | false =>
                have HF : Hd (r = false) := ⟨HIF.out (by rw [HV.out]; simp)⟩
                go_wp2
                go_ret
                exact ⟨by rw [HF.out]; first | rfl | (simp; done), HMB2.out.trans H5.out (fun _ h => Or.inl h)⟩
              | true =>
                by_cases n1 : (64 : Int) < (y.stmts.length : Int)
                · have HF : Hd (r = false) := ⟨HIF.out (by rw [HV.out]; simp [show ¬ y.stmts.length ≤ 64 by omega])⟩
                  go_wp2
                  go_ret
                  exact ⟨by rw [HF.out]; first | rfl | (simp; done), HMB2.out.trans H5.out (fun _ h => Or.inl h)⟩
                have HN1 : Hd (y.stmts.length ≤ 64) := ⟨by omega⟩
                go_wp2_with fail
                refine (HTE.out w5 (HMB.out.trans H5.out (fun _ h => Or.inl h))).mono ?_
                rintro e w6 ⟨rfl, hM⟩
                have H6 : Hd (Mod (fun _ => False) (wr.alloc (.cells #[.int .i64 y.pos, .string y.name, .slice oa3 y.stmts.length ca3, .int .i64 y.term.pos, .int .i64 y.term.kind, .string y.term.dest.loc, .slice ob3 lb3 cb3, .string y.term.name, .slice oc3 lc3 cc3, .slice od3 ld3 cd3, .slice oe3 le3 ce3] 64)) w6) := ⟨H5.out.trans hM (fun _ h => Or.inl h)⟩
                clear hM HTE x0 x1 x2 x3 x4 x5 x6 x7 x8 x9 x10
                obtain ⟨x0, x1, x2, x3, x4, x5, x6, x7, x8, x9, x10⟩ := HX.out w6 H6.out
                cases qt with
                | false =>
                  have HF : Hd (r = false) := ⟨HIF.out (by rw [HV.out]; simp)⟩
                  go_wp2
                  go_ret
                  exact ⟨by rw [HF.out]; first | rfl | (simp; done), HMB2.out.trans H6.out (fun _ h => Or.inl h)⟩
                | true =>
                  have HV2 : Hd (blockI y = y.stmts.all stmtI) := ⟨by rw [HV.out]; simp [HN1.out]⟩
                  clear HV HN1
                  go_wp2_with fail
                  clear x0 x1 x2 x3 x4 x5 x6 x7 x8 x9 x10
                  go_loopg [7] y.stmts.length (fun gk v7 wq => Hd (Mod (fun _ => False) (wr.alloc (.cells #[.int .i64 y.pos, .string y.name, .slice oa3 y.stmts.length ca3, .int .i64 y.term.pos, .int .i64 y.term.kind, .string y.term.dest.loc, .slice ob3 lb3 cb3, .string y.term.name, .slice oc3 lc3 cc3, .slice od3 ld3 cd3, .slice oe3 le3 ce3] 64)) wq) ∧ ∃ j : Nat, v7 = .int .i64 j ∧ j + gk = y.stmts.length ∧ Hd ((y.stmts.drop j).all stmtI = y.stmts.all stmtI))
                  case atStart => exact ⟨H6, 0, rfl, by omega, ⟨rfl⟩⟩
                  case round =>
                    clear H5 H6
                    obtain ⟨HQ, j, rfl, hj, HJ⟩ := hrel
                    obtain ⟨x0, x1, x2, x3, x4, x5, x6, x7, x8, x9, x10⟩ := HX.out _ HQ.out
                    by_cases hltj : j < y.stmts.length
                    · have hx0 : y.stmts[j]? = some y.stmts[j] := List.getElem?_eq_getElem (by omega)
                      obtain ⟨s, hx⟩ : ∃ y_, y.stmts[j]? = some y_ := ⟨_, hx0⟩
                      obtain ⟨b2, o2, oa6, la6, ca6, ob6, lb6, cb6, rfl, _, hbl, f0, f1, f2, f3, f4, f5, f6, f7, hvs⟩ := HST.out.stm hx
                      have hkk := HKB.out.trans (HMB.out.trans HQ.out (fun _ h => Or.inl h)) (fun _ h => Or.inl h)
                      have HSA : Hd _ := ⟨rStmt_i hvs _ hkk⟩
                      have HJT : Hd (stmtI s = true → (y.stmts.drop (j + 1)).all stmtI = y.stmts.all stmtI) := ⟨fun h => by rw [← HJ.out, all_hit hx h]⟩
                      have HJF : Hd (stmtI s = false → r = false) := ⟨fun h => HIF.out (by rw [HV2.out, ← HJ.out, all_miss hx h])⟩
                      obtain ⟨qs, hqs⟩ : ∃ q, stmtI s = q := ⟨_, rfl⟩
                      rw [hqs] at HSA HJT HJF
                      have d0 := hkk.cell' f0
                      have d1 := hkk.cell' f1
                      have d2 := hkk.cell' f2
                      have d3 := hkk.cell' f3
                      have d4 := hkk.cell' f4
                      have d5 := hkk.cell' f5
                      have d6 := hkk.cell' f6
                      have d7 := hkk.cell' f7
                      clear hqs hx hx0 f0 f1 f2 f3 f4 f5 f6 f7 hvs hkk hbl
                      go_wp2_with fail
                      refine HSA.out.mono ?_
                      rintro e w7 ⟨rfl, hM⟩
                      have H7 : Hd (Mod (fun _ => False) _ w7) := ⟨HQ.out.trans hM (fun _ h => Or.inl h)⟩
                      clear hM HSA d0 d1 d2 d3 d4 d5 d6 d7 x0 x1 x2 x3 x4 x5 x6 x7 x8 x9 x10
                      cases qs with
                      | false =>
                        have HF : Hd (r = false) := ⟨HJF.out rfl⟩
                        go_wp2
                        go_ret
                        exact ⟨by rw [HF.out]; first | rfl | (simp; done), HMB2.out.trans H7.out (fun _ h => Or.inl h)⟩
                      | true =>
                        have HJ2 : Hd _ := ⟨HJT.out rfl⟩
                        go_wp2_with fail
                        go_roundg (gk - 1)
                        case measure => omega
                        case rel => exact ⟨H7, j + 1, by go_num, by omega, HJ2⟩
                    · have HI2 : Hd _ := ⟨HIT.out (by rw [HV2.out, ← HJ.out]; exact all_end (by omega))⟩
                      go_wp2_with fail
                      go_roundg (gk1 - 1)
                      case measure => omega
                      case rel => exact ⟨⟨HM.out.trans (HMB.out.trans HQ.out (fun _ h => Or.inl h)) (fun _ h => Or.inl h)⟩, i + 1, by go_num, by omega, HI2⟩
            · have HF : Hd (r = true) := ⟨by rw [HRC2.out, ← HI.out]; exact all_end (by omega)⟩
              go_wp2
              go_ret
              exact ⟨by rw [HF.out]; first | rfl | (simp; done), HMA.out.trans HM.out (fun _ h => Or.inl h)⟩
set_option maxRecDepth 100000 in
set_option maxHeartbeats 16000000 in
theorem rRight_ans {v : Value} {p : Prg} (hv : prgV S w0 v p) : Ans 21 #[v] w0 (.bool (rightI p)) := by
  intro w hw
  obtain ⟨oa, la, ca, ob, lb, cb, oc, lc, cc, rfl, k1, k2, k3⟩ := hv
  have hl1 := k1.hlen
  have hl2 := k2.hlen
  have hl3 := k3.hlen
  have hb1 := k1.hbig
  have hb2 := k2.hbig
  have hb3 := k3.hbig
  subst hl1
  subst hl2
  subst hl3
  have HS1 : Hd _ := ⟨k1⟩
  have HS2 : Hd _ := ⟨k2⟩
  have HS3 : Hd _ := ⟨k3⟩
  obtain ⟨r, hr⟩ : ∃ r, rightI p = r := ⟨_, rfl⟩
  have HMA : Hd (Mod (fun _ => False) w (w.alloc (.cells #[.slice oa p.structs.length ca, .slice ob p.enums.length cb, .slice oc p.funcs.length cc] 36))) := ⟨Mod.alloc _ _ _⟩
  have HKA : Hd (∀ w', Mod (fun _ => False) (w.alloc (.cells #[.slice oa p.structs.length ca, .slice ob p.enums.length cb, .slice oc p.funcs.length cc] 36)) w' → Mod (fun _ => False) w0 w') := ⟨fun w' h => hw.trans ((Mod.alloc _ _ _).trans h (fun _ h => Or.inl h)) (fun _ h => Or.inl h)⟩
  have HSF : Hd (∀ w', Mod (fun _ => False) (w.alloc (.cells #[.slice oa p.structs.length ca, .slice ob p.enums.length cb, .slice oc p.funcs.length cc] 36)) w' → w'.cell? ⟨w.heap.size, 0, none⟩ = some (.slice oa p.structs.length ca) ∧ w'.cell? ⟨w.heap.size, 1, none⟩ = some (.slice ob p.enums.length cb) ∧ w'.cell? ⟨w.heap.size, 2, none⟩ = some (.slice oc p.funcs.length cc)) := ⟨fun w' h => by
    have q := (h.block _ (lt1_0 _ _) (fun h => h)).trans (heap_new' _ _)
    exact ⟨cell_i q rfl, cell_i q rfl, cell_i q rfl⟩⟩
  have HRC : Hd (r = (decide (p.structs.length ≤ 16) && decide (p.enums.length ≤ 16) && decide (p.funcs.length ≤ 16) && p.structs.all structI && p.enums.all enumI && p.funcs.all funcI)) := ⟨hr.symm⟩
  rw [hr]
  clear hr k1 k2 k3 hw
  by_cases n1 : (16 : Int) < (p.structs.length : Int)
  · have HF : Hd (r = false) := ⟨by rw [HRC.out]; simp [show ¬ p.structs.length ≤ 16 by omega]⟩
    go_enter Tryz.func21, Tryz.ntmps21
    go_wp2
    go_ret
    exact ⟨by rw [HF.out]; first | rfl | (simp; done), HMA.out⟩
  by_cases n2 : (16 : Int) < (p.enums.length : Int)
  · have HF : Hd (r = false) := ⟨by rw [HRC.out]; simp [show ¬ p.enums.length ≤ 16 by omega]⟩
    go_enter Tryz.func21, Tryz.ntmps21
    go_wp2
    go_ret
    exact ⟨by rw [HF.out]; first | rfl | (simp; done), HMA.out⟩
  by_cases n3 : (16 : Int) < (p.funcs.length : Int)
  · have HF : Hd (r = false) := ⟨by rw [HRC.out]; simp [show ¬ p.funcs.length ≤ 16 by omega]⟩
    go_enter Tryz.func21, Tryz.ntmps21
    go_wp2
    go_ret
    exact ⟨by rw [HF.out]; first | rfl | (simp; done), HMA.out⟩
  have HRC2 : Hd (r = (p.structs.all structI && (p.enums.all enumI && p.funcs.all funcI))) := ⟨by rw [HRC.out]; simp [show p.structs.length ≤ 16 by omega, show p.enums.length ≤ 16 by omega, show p.funcs.length ≤ 16 by omega, Bool.and_assoc]⟩
  clear HRC
  have HRC : Hd _ := ⟨HRC2.out⟩
  clear HRC2
  have HM0 : Hd (Mod (fun _ => False) (w.alloc (.cells #[.slice oa p.structs.length ca, .slice ob p.enums.length cb, .slice oc p.funcs.length cc] 36)) (w.alloc (.cells #[.slice oa p.structs.length ca, .slice ob p.enums.length cb, .slice oc p.funcs.length cc] 36))) := ⟨Mod.refl _ _⟩
  go_enter Tryz.func21, Tryz.ntmps21
  go_wp2_with fail
  clear n1 n2 n3
  go_loopg [3] p.structs.length (fun gk v3 wr => Hd (Mod (fun _ => False) (w.alloc (.cells #[.slice oa p.structs.length ca, .slice ob p.enums.length cb, .slice oc p.funcs.length cc] 36)) wr) ∧ ∃ i : Nat, v3 = .int .i64 i ∧ i + gk = p.structs.length ∧ Hd ((p.structs.drop i).all structI = p.structs.all structI))
  case atStart => exact ⟨HM0, 0, rfl, by omega, ⟨rfl⟩⟩
  case round =>
    clear HM0
    obtain ⟨HM, i, rfl, hi, HI⟩ := hrel
    obtain ⟨c0, c1, c2⟩ := HSF.out wr HM.out
    by_cases hlt : i < p.structs.length
    · have hx0 : p.structs[i]? = some p.structs[i] := List.getElem?_eq_getElem (by omega)
      obtain ⟨y, hx⟩ : ∃ y, p.structs[i]? = some y := ⟨_, hx0⟩
      obtain ⟨b, o, oa3, la3, ca3, rfl, _, hbl, f0, f1, f2, f3, f4, hvx⟩ := HS1.out.sct hx
      obtain ⟨_, hyn, oa4, la4, ca4, hve, hvr⟩ := hvx
      simp only [Value.agg.injEq, Array.mk.injEq, List.cons.injEq, Value.slice.injEq, true_and, and_true] at hve
      obtain ⟨rfl, rfl, rfl⟩ := hve
      have hl1 := hvr.hlen
      have hvb := hvr.hbig
      subst hl1
      have hkk := HKA.out wr HM.out
      have d0 := hkk.cell' f0
      have d1 := hkk.cell' f1
      have d2 := hkk.cell' f2
      have d3 := hkk.cell' f3
      have d4 := hkk.cell' f4
      have HVA : Hd (∀ w', Mod (fun _ => False) wr w' → _) := ⟨fun w' h => rvars_f hvr w' (hkk.trans h (fun _ h => Or.inl h))⟩
      have HNA : Hd (∀ w, _) := ⟨fun w => rName_calls y.name hyn w⟩
      have HIT : Hd (structI y = true → (p.structs.drop (i + 1)).all structI = p.structs.all structI) := ⟨fun h => by rw [← HI.out, all_hit hx h]⟩
      have HIF : Hd (structI y = false → r = false) := ⟨fun h => by rw [HRC.out, ← HI.out, all_miss hx h]; rfl⟩
      obtain ⟨qn, hqn⟩ : ∃ q, isName (lst y.name) = q := ⟨_, rfl⟩
      obtain ⟨qv, hqv⟩ : ∃ q, y.fields.all fieldI = q := ⟨_, rfl⟩
      have HV : Hd (structI y = (qn && decide (y.fields.length ≤ 16) && qv)) := ⟨by rw [← hqn, ← hqv]; rfl⟩
      rw [hqn] at HNA
      rw [hqv] at HVA
      clear hqn hqv hx hx0 f0 f1 f2 f3 f4 hvr hyn hkk hbl
      have HX : Hd (∀ w', Mod (fun _ => False) (wr.alloc (.cells #[.int .i64 y.pos, .string y.name, .bool y.safe, .bool y.hook, .slice oa3 y.fields.length ca3] 58)) w' → w'.cell? ⟨wr.heap.size, 0, none⟩ = some (.int .i64 y.pos) ∧ w'.cell? ⟨wr.heap.size, 1, none⟩ = some (.string y.name) ∧ w'.cell? ⟨wr.heap.size, 2, none⟩ = some (.bool y.safe) ∧ w'.cell? ⟨wr.heap.size, 3, none⟩ = some (.bool y.hook) ∧ w'.cell? ⟨wr.heap.size, 4, none⟩ = some (.slice oa3 y.fields.length ca3)) := ⟨fun w' h => by
        have q := (h.block _ (lt1_0 _ _) (fun h => h)).trans (heap_new' _ _)
        exact ⟨cell_i q rfl, cell_i q rfl, cell_i q rfl, cell_i q rfl, cell_i q rfl⟩⟩
      have HMB : Hd (Mod (fun _ => False) wr (wr.alloc (.cells #[.int .i64 y.pos, .string y.name, .bool y.safe, .bool y.hook, .slice oa3 y.fields.length ca3] 58))) := ⟨Mod.alloc _ _ _⟩
      have HMB2 : Hd (Mod (fun _ => False) w (wr.alloc (.cells #[.int .i64 y.pos, .string y.name, .bool y.safe, .bool y.hook, .slice oa3 y.fields.length ca3] 58))) := ⟨HMA.out.trans (HM.out.trans HMB.out (fun _ h => Or.inl h)) (fun _ h => Or.inl h)⟩
      go_wp2_with fail
      clear c0 c1 c2
      refine (HNA.out _).mono ?_
      rintro e w5 ⟨rfl, hM⟩
      have H5 : Hd (Mod (fun _ => False) (wr.alloc (.cells #[.int .i64 y.pos, .string y.name, .bool y.safe, .bool y.hook, .slice oa3 y.fields.length ca3] 58)) w5) := ⟨hM⟩
      clear hM HNA d0 d1 d2 d3 d4
      obtain ⟨x0, x1, x2, x3, x4⟩ := HX.out w5 H5.out
      cases qn with
      | false =>
        have HF : Hd (r = false) := ⟨HIF.out (by rw [HV.out]; simp)⟩
        go_wp2
        go_ret
        exact ⟨by rw [HF.out]; first | rfl | (simp; done), HMB2.out.trans H5.out (fun _ h => Or.inl h)⟩
      | true =>
        by_cases n1 : (16 : Int) < (y.fields.length : Int)
        · have HF : Hd (r = false) := ⟨HIF.out (by rw [HV.out]; simp [show ¬ y.fields.length ≤ 16 by omega])⟩
          go_wp2
          go_ret
          exact ⟨by rw [HF.out]; first | rfl | (simp; done), HMB2.out.trans H5.out (fun _ h => Or.inl h)⟩
        have HN1 : Hd (y.fields.length ≤ 16) := ⟨by omega⟩
        go_wp2_with fail
        refine (HVA.out w5 (HMB.out.trans H5.out (fun _ h => Or.inl h))).mono ?_
        rintro e w6 ⟨rfl, hM⟩
        have H6 : Hd (Mod (fun _ => False) (wr.alloc (.cells #[.int .i64 y.pos, .string y.name, .bool y.safe, .bool y.hook, .slice oa3 y.fields.length ca3] 58)) w6) := ⟨H5.out.trans hM (fun _ h => Or.inl h)⟩
        clear hM HVA x0 x1 x2 x3 x4
        cases qv with
        | false =>
          have HF : Hd (r = false) := ⟨HIF.out (by rw [HV.out]; simp)⟩
          go_wp2
          go_ret
          exact ⟨by rw [HF.out]; first | rfl | (simp; done), HMB2.out.trans H6.out (fun _ h => Or.inl h)⟩
        | true =>
          have HI2 : Hd _ := ⟨HIT.out (by rw [HV.out]; simp [HN1.out])⟩
          go_wp2_with fail
          go_roundg (gk - 1)
          case measure => omega
          case rel => exact ⟨⟨HM.out.trans (HMB.out.trans H6.out (fun _ h => Or.inl h)) (fun _ h => Or.inl h)⟩, i + 1, by go_num, by omega, HI2⟩
    · have HAB : Hd (p.structs.all structI = true) := ⟨by rw [← HI.out]; exact all_end (by omega)⟩
      have HRC2 : Hd (r = (p.enums.all enumI && p.funcs.all funcI)) := ⟨by rw [HRC.out, HAB.out]; rfl⟩
      clear HRC HAB HI
      have HRC : Hd _ := ⟨HRC2.out⟩
      clear HRC2
      go_wp2_with fail
      clear c0 c1 c2
      go_loopg [5] p.enums.length (fun gk v5 wr => Hd (Mod (fun _ => False) (w.alloc (.cells #[.slice oa p.structs.length ca, .slice ob p.enums.length cb, .slice oc p.funcs.length cc] 36)) wr) ∧ ∃ i : Nat, v5 = .int .i64 i ∧ i + gk = p.enums.length ∧ Hd ((p.enums.drop i).all enumI = p.enums.all enumI))
      case atStart => exact ⟨HM, 0, rfl, by omega, ⟨rfl⟩⟩
      case round =>
        clear HM hi hlt
        obtain ⟨HM, i, rfl, hi, HI⟩ := hrel
        obtain ⟨c0, c1, c2⟩ := HSF.out wr HM.out
        by_cases hlt : i < p.enums.length
        · have hx0 : p.enums[i]? = some p.enums[i] := List.getElem?_eq_getElem (by omega)
          obtain ⟨y, hx⟩ : ∃ y, p.enums[i]? = some y := ⟨_, hx0⟩
          obtain ⟨b, o, oa3, la3, ca3, rfl, _, hbl, f0, f1, f2, hvx⟩ := HS2.out.enm hx
          obtain ⟨_, hyn, oa4, la4, ca4, hve, hvr⟩ := hvx
          simp only [Value.agg.injEq, Array.mk.injEq, List.cons.injEq, Value.slice.injEq, true_and, and_true] at hve
          obtain ⟨rfl, rfl, rfl⟩ := hve
          have hl1 := hvr.hlen
          have hvb := hvr.hbig
          subst hl1
          have hkk := HKA.out wr HM.out
          have d0 := hkk.cell' f0
          have d1 := hkk.cell' f1
          have d2 := hkk.cell' f2
          have HVA : Hd (∀ w', Mod (fun _ => False) wr w' → _) := ⟨fun w' h => rvars_v hvr w' (hkk.trans h (fun _ h => Or.inl h))⟩
          have HNA : Hd (∀ w, _) := ⟨fun w => rName_calls y.name hyn w⟩
          have HIT : Hd (enumI y = true → (p.enums.drop (i + 1)).all enumI = p.enums.all enumI) := ⟨fun h => by rw [← HI.out, all_hit hx h]⟩
          have HIF : Hd (enumI y = false → r = false) := ⟨fun h => by rw [HRC.out, ← HI.out, all_miss hx h]; rfl⟩
          obtain ⟨qn, hqn⟩ : ∃ q, isName (lst y.name) = q := ⟨_, rfl⟩
          obtain ⟨qv, hqv⟩ : ∃ q, y.variants.all variantI = q := ⟨_, rfl⟩
          have HV : Hd (enumI y = (qn && decide (1 ≤ y.variants.length) && decide (y.variants.length ≤ 16) && qv)) := ⟨by rw [← hqn, ← hqv]; rfl⟩
          rw [hqn] at HNA
          rw [hqv] at HVA
          clear hqn hqv hx hx0 f0 f1 f2 hvr hyn hkk hbl
          have HX : Hd (∀ w', Mod (fun _ => False) (wr.alloc (.cells #[.int .i64 y.pos, .string y.name, .slice oa3 y.variants.length ca3] 70)) w' → w'.cell? ⟨wr.heap.size, 0, none⟩ = some (.int .i64 y.pos) ∧ w'.cell? ⟨wr.heap.size, 1, none⟩ = some (.string y.name) ∧ w'.cell? ⟨wr.heap.size, 2, none⟩ = some (.slice oa3 y.variants.length ca3)) := ⟨fun w' h => by
            have q := (h.block _ (lt1_0 _ _) (fun h => h)).trans (heap_new' _ _)
            exact ⟨cell_i q rfl, cell_i q rfl, cell_i q rfl⟩⟩
          have HMB : Hd (Mod (fun _ => False) wr (wr.alloc (.cells #[.int .i64 y.pos, .string y.name, .slice oa3 y.variants.length ca3] 70))) := ⟨Mod.alloc _ _ _⟩
          have HMB2 : Hd (Mod (fun _ => False) w (wr.alloc (.cells #[.int .i64 y.pos, .string y.name, .slice oa3 y.variants.length ca3] 70))) := ⟨HMA.out.trans (HM.out.trans HMB.out (fun _ h => Or.inl h)) (fun _ h => Or.inl h)⟩
          go_wp2_with fail
          clear c0 c1 c2
          refine (HNA.out _).mono ?_
          rintro e w5 ⟨rfl, hM⟩
          have H5 : Hd (Mod (fun _ => False) (wr.alloc (.cells #[.int .i64 y.pos, .string y.name, .slice oa3 y.variants.length ca3] 70)) w5) := ⟨hM⟩
          clear hM HNA d0 d1 d2
          obtain ⟨x0, x1, x2⟩ := HX.out w5 H5.out
          cases qn with
          | false =>
            have HF : Hd (r = false) := ⟨HIF.out (by rw [HV.out]; simp)⟩
            go_wp2
            go_ret
            exact ⟨by rw [HF.out]; first | rfl | (simp; done), HMB2.out.trans H5.out (fun _ h => Or.inl h)⟩
          | true =>
            by_cases n0 : (y.variants.length : Int) < 1
            · have HF : Hd (r = false) := ⟨HIF.out (by rw [HV.out]; simp [show ¬ 1 ≤ y.variants.length by omega])⟩
              go_wp2
              go_ret
              exact ⟨by rw [HF.out]; first | rfl | (simp; done), HMB2.out.trans H5.out (fun _ h => Or.inl h)⟩
            have HN0 : Hd (1 ≤ y.variants.length) := ⟨by omega⟩
            by_cases n1 : (16 : Int) < (y.variants.length : Int)
            · have HF : Hd (r = false) := ⟨HIF.out (by rw [HV.out]; simp [show ¬ y.variants.length ≤ 16 by omega])⟩
              go_wp2
              go_ret
              exact ⟨by rw [HF.out]; first | rfl | (simp; done), HMB2.out.trans H5.out (fun _ h => Or.inl h)⟩
            have HN1 : Hd (y.variants.length ≤ 16) := ⟨by omega⟩
            go_wp2_with fail
            refine (HVA.out w5 (HMB.out.trans H5.out (fun _ h => Or.inl h))).mono ?_
            rintro e w6 ⟨rfl, hM⟩
            have H6 : Hd (Mod (fun _ => False) (wr.alloc (.cells #[.int .i64 y.pos, .string y.name, .slice oa3 y.variants.length ca3] 70)) w6) := ⟨H5.out.trans hM (fun _ h => Or.inl h)⟩
            clear hM HVA x0 x1 x2
            cases qv with
            | false =>
              have HF : Hd (r = false) := ⟨HIF.out (by rw [HV.out]; simp)⟩
              go_wp2
              go_ret
              exact ⟨by rw [HF.out]; first | rfl | (simp; done), HMB2.out.trans H6.out (fun _ h => Or.inl h)⟩
            | true =>
              have HI2 : Hd _ := ⟨HIT.out (by rw [HV.out]; simp [HN0.out, HN1.out])⟩
              go_wp2_with fail
              go_roundg (gk - 1)
              case measure => omega
              case rel => exact ⟨⟨HM.out.trans (HMB.out.trans H6.out (fun _ h => Or.inl h)) (fun _ h => Or.inl h)⟩, i + 1, by go_num, by omega, HI2⟩
        · have HAB : Hd (p.enums.all enumI = true) := ⟨by rw [← HI.out]; exact all_end (by omega)⟩
          have HRC2 : Hd (r = (p.funcs.all funcI)) := ⟨by rw [HRC.out, HAB.out]; rfl⟩
          clear HRC HAB HI
          have HRC : Hd _ := ⟨HRC2.out⟩
          clear HRC2
          go_wp2_with fail
          clear c0 c1 c2
          go_loopg [7] p.funcs.length (fun gk v7 wr => Hd (Mod (fun _ => False) (w.alloc (.cells #[.slice oa p.structs.length ca, .slice ob p.enums.length cb, .slice oc p.funcs.length cc] 36)) wr) ∧ ∃ i : Nat, v7 = .int .i64 i ∧ i + gk = p.funcs.length ∧ Hd ((p.funcs.drop i).all funcI = p.funcs.all funcI))
          case atStart => exact ⟨HM, 0, rfl, by omega, ⟨rfl⟩⟩
          case round =>
            clear HM hi hlt
            obtain ⟨HM, i, rfl, hi, HI⟩ := hrel
            obtain ⟨c0, c1, c2⟩ := HSF.out wr HM.out
            by_cases hlt : i < p.funcs.length
            · have hx0 : p.funcs[i]? = some p.funcs[i] := List.getElem?_eq_getElem (by omega)
              obtain ⟨y, hx⟩ : ∃ y, p.funcs[i]? = some y := ⟨_, hx0⟩
              obtain ⟨b, o, oa1, la1, ca1, ob1, lb1, cb1, oc1, lc1, cc1, rfl, _, hbl, f0, f1, f2, f3, f4, f5, hvx⟩ := HS3.out.fun hx
              have hkk := HKA.out wr HM.out
              have d0 := hkk.cell' f0
              have d1 := hkk.cell' f1
              have d2 := hkk.cell' f2
              have d3 := hkk.cell' f3
              have d4 := hkk.cell' f4
              have d5 := hkk.cell' f5
              have HFU : Hd _ := ⟨rFunc_ans hvx wr hkk⟩
              have HIT : Hd (funcI y = true → (p.funcs.drop (i + 1)).all funcI = p.funcs.all funcI) := ⟨fun h => by rw [← HI.out, all_hit hx h]⟩
              have HIF : Hd (funcI y = false → r = false) := ⟨fun h => by rw [HRC.out, ← HI.out, all_miss hx h]⟩
              obtain ⟨q, hq⟩ : ∃ q, funcI y = q := ⟨_, rfl⟩
              rw [hq] at HFU HIT HIF
              clear hq hx hx0 f0 f1 f2 f3 f4 f5 hvx hkk hbl
              go_wp2_with fail
              refine HFU.out.mono ?_
              rintro e w6 ⟨rfl, hM⟩
              have H6 : Hd (Mod (fun _ => False) _ w6) := ⟨HM.out.trans hM (fun _ h => Or.inl h)⟩
              clear hM HFU d0 d1 d2 d3 d4 d5 c0 c1 c2
              cases q with
              | false =>
                have HF : Hd (r = false) := ⟨HIF.out rfl⟩
                go_wp2
                go_ret
                exact ⟨by rw [HF.out]; first | rfl | (simp; done), HMA.out.trans H6.out (fun _ h => Or.inl h)⟩
              | true =>
                have HI2 : Hd _ := ⟨HIT.out rfl⟩
                go_wp2_with fail
                go_roundg (gk - 1)
                case measure => omega
                case rel => exact ⟨H6, i + 1, by go_num, by omega, HI2⟩
            · have HF : Hd (r = true) := ⟨by rw [HRC.out, ← HI.out]; exact all_end (by omega)⟩
              go_wp2
              go_ret
              exact ⟨by rw [HF.out]; first | rfl | (simp; done), HMA.out.trans HM.out (fun _ h => Or.inl h)⟩
end
end Go.Proofs.YtpodeccpibnlbaaGreatDoor
