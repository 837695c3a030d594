/- The reference's Uses, walked. -/
import Derived.Test.YtpodeccpibnlbaaGreatDoorG37
namespace Go.Proofs.YtpodeccpibnlbaaGreatDoor
set_option linter.unusedVariables false
set_option linter.unusedSimpArgs false
open Go.RowKit
theorem prefix_of_take {α β : Type} (g : α → List β) {l : List α} {k : Nat} {x : α} (hx : l[k]? = some x) : ((l.take k).map g).flatten ++ g x <+: (l.map g).flatten := flat_prefix g hx (List.prefix_refl _)
theorem len_le_of_prefix {β : Type} {a b : List β} (h : a <+: b) {n : Nat} (hb : b.length ≤ n) : a.length ≤ n := Nat.le_trans h.length_le hb
theorem uses_bound {bl : List Blk} (hU : (blksUses bl).length ≤ 1048576) {i : Nat} {x : Blk} (hx : bl[i]? = some x) {Q : List Pl} (hQ : Q <+: blkUses x) : (blksUses (bl.take i) ++ Q).length ≤ 1048576 :=
  len_le_of_prefix (flat_prefix blkUses hx hQ) hU
theorem stms_pre {x : Blk} {k : Nat} {y : Stm} (hy : x.stmts[k]? = some y) {Q : List Pl} (hQ : Q <+: stmUses y) : stmsUses (x.stmts.take k) ++ Q <+: blkUses x :=
  (flat_prefix stmUses hy hQ).trans (List.prefix_append _ _)
theorem trm_pre {x : Blk} {Q : List Pl} (hQ : Q <+: trmUses x.term) : stmsUses x.stmts ++ Q <+: blkUses x := by
  unfold blkUses
  exact (List.prefix_append_right_inj _).2 hQ
theorem args_pre (args : List Pl) (p : Pl) : args <+: placesI args p := by
  unfold placesI
  split
  · exact List.prefix_refl _
  · exact List.prefix_append _ _
theorem stms_all (l : List Stm) : stmsUses (l.take l.length) = stmsUses l := by rw [List.take_length]
theorem cell_in {w : World} {k j : Nat} {cs : Array Value} {t : TypeId} {fr : Nat × Nat} {v : Value} (h : w.heap[k]? = some (.cells cs t fr)) (hv : cs[j]? = some v) : w.cell? ⟨k, j, none⟩ = some v := by simp [World.cell?, h, hv]
theorem own_ne {α : Type} {W : World} {base : Nat} {e t : TypeId} {n : Nat} {v : Value} {V : Value → α → Prop} {P : List α} (h : Own W base e n v V P) {k : Nat} {X : Array Value} {fr : Nat × Nat} (hk : W.heap[k]? = some (.cells X t fr)) (he : e ≠ t) : v.ownBlock ≠ some k := by
  intro hv
  obtain ⟨news, ⟨_, ⟨rfl, _⟩ | ⟨g, cap, cur, rfl, _, h2, _⟩⟩, _⟩ := h
  · simp [Value.ownBlock] at hv
  · simp [Value.ownBlock] at hv
    subst hv
    rw [h2] at hk
    simp only [Option.some.injEq, Obj.cells.injEq] at hk
    exact he hk.2.1
theorem grown_keep {W W' : World} {v : Value} (hg : W.grownBy W' v.ownBlock) {k : Nat} {o : Obj} (hk : W.heap[k]? = some o) (hv : v.ownBlock ≠ some k) : W'.heap[k]? = some o :=
  (hg.block k (Array.getElem?_eq_some_iff.1 hk).1 (fun e => hv e.symm)).trans hk
theorem stms_succ1 {l : List Stm} {k : Nat} {y : Stm} (hy : l[k]? = some y) (he : emp y.dest.loc = true) (Q : List Pl) : (Q ++ stmsUses (l.take k)) ++ y.args = Q ++ stmsUses (l.take (k + 1)) := by
  rw [stmsUses_succ hy, List.append_assoc]; simp [stmUses, placesI, he]
theorem stms_succ2 {l : List Stm} {k : Nat} {y : Stm} (hy : l[k]? = some y) (he : emp y.dest.loc = false) (Q : List Pl) : ((Q ++ stmsUses (l.take k)) ++ y.args) ++ [y.dest] = Q ++ stmsUses (l.take (k + 1)) := by
  rw [stmsUses_succ hy, List.append_assoc, List.append_assoc]; simp [stmUses, placesI, he]
theorem trm_succ1 {l : List Blk} {i : Nat} {x : Blk} (hx : l[i]? = some x) (he : emp x.term.dest.loc = true) : (blksUses (l.take i) ++ stmsUses x.stmts) ++ x.term.args = blksUses (l.take (i + 1)) := by
  rw [blksUses_succ hx, List.append_assoc]; simp [trmUses, placesI, he]
theorem trm_succ2 {l : List Blk} {i : Nat} {x : Blk} (hx : l[i]? = some x) (he : emp x.term.dest.loc = false) : ((blksUses (l.take i) ++ stmsUses x.stmts) ++ x.term.args) ++ [x.term.dest] = blksUses (l.take (i + 1)) := by
  rw [blksUses_succ hx, List.append_assoc, List.append_assoc]; simp [trmUses, placesI, he]
section
variable {S : Nat → Prop} {w0 : World}
set_option maxRecDepth 100000 in
set_option maxHeartbeats 8000000 in
theorem rUses_c {v : Value} {s : Fun} (hv : funV S w0 v s) (hU : (usesI s).length ≤ 1048576) (w : World) (hw : Mod (fun _ => False) w0 w) :
    Calls Tryz.prog 26 #[v] w fun e w' => ∃ oc cc, e = .returned (.slice oc (usesI s).length cc) ∧ Mod (fun _ => False) w w' ∧ SR (fun b => w.heap.size ≤ b) w' 2 (plV S w0) oc (usesI s).length cc (usesI s) := by
  obtain ⟨h0, h1, h2, oa, la, ca, ob, lb, cb, oc, lc, cc, rfl, k1, k2, k3⟩ := hv
  have hlen := k3.hlen
  have hbig := k3.hbig
  subst hlen
  have HR : Hd _ := ⟨k3⟩
  have HW : Hd _ := ⟨hw⟩
  have HU : Hd ((blksUses s.blocks).length ≤ 1048576) := ⟨hU⟩
  have HE : Hd (usesI s = blksUses s.blocks) := ⟨rfl⟩
  rw [HE.out]
  clear h0 h1 h2 k1 k2 k3 hw hU HE
  obtain ⟨i0, hi, hz0, hz1, hz2⟩ := info_parts info_24
  have HI0 : Hd _ := ⟨hi⟩
  have HZ0 : Hd _ := ⟨hz0⟩
  have HZ1 : Hd _ := ⟨hz1⟩
  have HZ2 : Hd _ := ⟨hz2⟩
  obtain ⟨C, hC⟩ : ∃ C : Array Value, #[.int .i64 s.pos, .string s.name, .slice oa la ca, .slice ob lb cb, .string s.result, .slice oc s.blocks.length cc] = C := ⟨_, rfl⟩
  have HC5 : Hd (C[5]? = some (.slice oc s.blocks.length cc)) := ⟨by rw [← hC]; rfl⟩
  have HC : Hd _ := ⟨hC⟩
  clear hC hi hz0 hz1 hz2
  go_enter Tryz.func26, Tryz.ntmps26
  go_wp2_with fail
  rw [HC.out]
  go_loopg [3, 4] s.blocks.length (fun gk v3 v4 wr => Hd (Mod (fun _ => False) (w.alloc (.cells C 45)) wr) ∧ ∃ i : Nat, v4 = .int .i64 i ∧ i + gk = s.blocks.length ∧ Hd (Own wr (w.heap.size + 1) 24 2 v3 (plV S w0) (blksUses (s.blocks.take i))))
  case atStart => exact ⟨⟨Mod.alloc _ _ _⟩, 0, rfl, by omega, ⟨by have h := own_made (plV S w0) (w.alloc (.cells C 45)) 24 2; rw [World.size_alloc] at h; exact h⟩⟩
  case round =>
    obtain ⟨HM, i, rfl, hk, HO⟩ := hrel
    obtain ⟨gk0, rfl⟩ : ∃ g, g = gk := ⟨_, rfl⟩
    have HMw : Hd (Mod (fun _ => False) w wr) := ⟨(Mod.alloc _ _ _).trans HM.out (fun _ h => Or.inl h)⟩
    have hb := (HM.out.block _ (lt1_0 _ _) (fun h => h)).trans (heap_new' _ _)
    have c5 : wr.cell? ⟨w.heap.size, 5, none⟩ = some (.slice oc s.blocks.length cc) := by exact cell_in hb HC5.out
    clear hb
    by_cases hlt : i < s.blocks.length
    · have hx0 : s.blocks[i]? = some s.blocks[i] := List.getElem?_eq_getElem (by omega)
      obtain ⟨x, hx⟩ : ∃ x, s.blocks[i]? = some x := ⟨_, hx0⟩
      obtain ⟨b, o, oa1, la1, ca1, ob1, lb1, cb1, oc1, lc1, cc1, od1, ld1, cd1, oe1, le1, ce1, rfl, _, hbl, e0, e1, e2, e3, e4, e5, e6, e7, e8, e9, e10, hvx⟩ := HR.out.blk hx
      have HX : Hd _ := ⟨hx⟩
      have hkk := HW.out.trans HMw.out (fun _ h => Or.inl h)
      have d0 := hkk.cell' e0
      have d1 := hkk.cell' e1
      have d2 := hkk.cell' e2
      have d3 := hkk.cell' e3
      have d4 := hkk.cell' e4
      have d5 := hkk.cell' e5
      have d6 := hkk.cell' e6
      have d7 := hkk.cell' e7
      have d8 := hkk.cell' e8
      have d9 := hkk.cell' e9
      have d10 := hkk.cell' e10
      obtain ⟨_, _, oa2, la2, ca2, ob2, lb2, cb2, oc2, lc2, cc2, od2, ld2, cd2, oe2, le2, ce2, hve, hst, htr⟩ := hvx
      obtain ⟨_, _, _, htl, ob3, lb3, cb3, oc3, lc3, cc3, od3, ld3, cd3, oe3, le3, ce3, hte, ht1, ht2, _, _⟩ := htr
      unfold trmA at hte
      simp only [Value.agg.injEq, Array.mk.injEq, List.cons.injEq, Value.slice.injEq, true_and, and_true] at hve hte
      obtain ⟨⟨rfl, rfl, rfl⟩, ⟨rfl, rfl, rfl⟩, ⟨rfl, rfl, rfl⟩, ⟨rfl, rfl, rfl⟩, ⟨rfl, rfl, rfl⟩⟩ := hve
      obtain ⟨⟨rfl, rfl, rfl⟩, ⟨rfl, rfl, rfl⟩, ⟨rfl, rfl, rfl⟩, ⟨rfl, rfl, rfl⟩⟩ := hte
      have HST : Hd _ := ⟨hst⟩
      have HT1 : Hd _ := ⟨ht1⟩
      have HT2 : Hd _ := ⟨ht2⟩
      have HTL : Hd _ := ⟨htl⟩
      have hsl := hst.hlen
      have hsb := hst.hbig
      subst hsl
      clear hx hx0 e0 e1 e2 e3 e4 e5 e6 e7 e8 e9 e10 hkk hbl hst ht1 ht2 htl
      go_wp2_with fail
      clear d0 d1 d2 d3 d4 d5 d6 d7 d8 d9 d10 c5
      obtain ⟨X, hX⟩ : ∃ X : Array Value, #[.int .i64 x.pos, .string x.name, .slice oa1 x.stmts.length ca1, .int .i64 x.term.pos, .int .i64 x.term.kind, .string x.term.dest.loc, .slice ob1 lb1 cb1, .string x.term.name, .slice oc1 lc1 cc1, .slice od1 ld1 cd1, .slice oe1 le1 ce1] = X := ⟨_, rfl⟩
      have HX2 : Hd (X[2]? = some (.slice oa1 x.stmts.length ca1) ∧ X[5]? = some (.string x.term.dest.loc) ∧ X[6]? = some (.slice ob1 lb1 cb1) ∧ X[8]? = some (.slice oc1 lc1 cc1)) := ⟨by rw [← hX]; exact ⟨rfl, rfl, rfl, rfl⟩⟩
      rw [hX]
      clear hX
      obtain ⟨bx, hbx⟩ : ∃ bx, wr.heap.size = bx := ⟨_, rfl⟩
      obtain ⟨W1, hW1⟩ : ∃ W1, wr.alloc (.cells X 64) = W1 := ⟨_, rfl⟩
      have HB1 : Hd (W1.heap[bx]? = some (.cells X 64 (0, 0))) := ⟨by rw [← hW1, ← hbx]; exact heap_new' _ _⟩
      have HM1 : Hd (Mod (fun _ => False) (w.alloc (.cells C 45)) W1) := ⟨by rw [← hW1]; exact HM.out.trans (Mod.alloc _ _ _) (fun _ h => Or.inl h)⟩
      have HO1 : Hd (Own W1 (w.heap.size + 1) 24 2 u3 (plV S w0) (blksUses (s.blocks.take i))) := ⟨by rw [← hW1]; exact HO.out.alloc _⟩
      have HBX : Hd (w.heap.size + 1 ≤ bx) := ⟨by have := HM.out.size; simp at this; omega⟩
      rw [hbx, hW1]
      clear hW1 hbx HM HO HMw
      have c2 : W1.cell? ⟨bx, 2, none⟩ = some (.slice oa1 x.stmts.length ca1) := cell_in HB1.out HX2.out.1
      go_wp2_with fail
      clear c2
      go_loopg [3, 6] x.stmts.length (fun gk v3 v6 wi => Hd (Mod (fun _ => False) (w.alloc (.cells C 45)) wi) ∧ Hd (wi.heap[bx]? = some (.cells X 64 (0, 0))) ∧ ∃ k : Nat, v6 = .int .i64 k ∧ k + gk = x.stmts.length ∧ Hd (Own wi (w.heap.size + 1) 24 2 v3 (plV S w0) (blksUses (s.blocks.take i) ++ stmsUses (x.stmts.take k))))
      case atStart => exact ⟨HM1, HB1, 0, rfl, by omega, ⟨by have h := HO1.out; simpa [stmsUses] using h⟩⟩
      case round =>
        obtain ⟨HM, HB, k, rfl, hkk, HO⟩ := hrel
        have c2 : wr.cell? ⟨bx, 2, none⟩ = some (.slice oa1 x.stmts.length ca1) := cell_in HB.out HX2.out.1
        have HK : Hd (Mod (fun _ => False) w0 wr) := ⟨HW.out.trans ((Mod.alloc _ _ _).trans HM.out (fun _ h => Or.inl h)) (fun _ h => Or.inl h)⟩
        by_cases hlk : k < x.stmts.length
        · have hy0 : x.stmts[k]? = some x.stmts[k] := List.getElem?_eq_getElem (by omega)
          obtain ⟨y, hy⟩ : ∃ y, x.stmts[k]? = some y := ⟨_, hy0⟩
          obtain ⟨b2, o2, of1, lf1, cf1, og1, lg1, cg1, rfl, _, _, f0, f1, f2, f3, f4, f5, f6, f7, hvy⟩ := HST.out.stm hy
          obtain ⟨_, _, _, _, _, hdl, of2, lf2, cf2, og2, lg2, cg2, hve, hds, hag⟩ := hvy
          simp only [Value.agg.injEq, Array.mk.injEq, List.cons.injEq, Value.slice.injEq, true_and, and_true] at hve
          obtain ⟨⟨rfl, rfl, rfl⟩, ⟨rfl, rfl, rfl⟩⟩ := hve
          have HY : Hd _ := ⟨hy⟩
          have HF2 : Hd _ := ⟨f2⟩
          have HF3 : Hd _ := ⟨f3⟩
          have g7 := HK.out.cell' f7
          have hagl := hag.hlen
          subst hagl
          have HAG : Hd _ := ⟨hag⟩
          have HPD : Hd (plV S w0 (.agg #[.string y.dest.loc, .slice of1 lf1 cf1]) y.dest) := ⟨⟨hdl, of1, lf1, cf1, rfl, hds⟩⟩
          have HL1 : Hd ((blksUses (s.blocks.take i) ++ stmsUses (x.stmts.take k)).length + y.args.length ≤ 1048576) := ⟨by
            have := uses_bound HU.out HX.out (stms_pre HY.out (args_pre y.args y.dest))
            rw [← List.append_assoc, List.length_append] at this
            exact this⟩
          have HE1 : Hd (emp y.dest.loc = true → ((blksUses (s.blocks.take i) ++ stmsUses (x.stmts.take k)) ++ y.args) = blksUses (s.blocks.take i) ++ stmsUses (x.stmts.take (k + 1))) := ⟨fun he => stms_succ1 HY.out he _⟩
          have HE2 : Hd (emp y.dest.loc = false → ((blksUses (s.blocks.take i) ++ stmsUses (x.stmts.take k)) ++ y.args) ++ [y.dest] = blksUses (s.blocks.take i) ++ stmsUses (x.stmts.take (k + 1))) := ⟨fun he => stms_succ2 HY.out he _⟩
          have HL2 : Hd (emp y.dest.loc = false → ((blksUses (s.blocks.take i) ++ stmsUses (x.stmts.take k)) ++ y.args).length + 1 ≤ 1048576) := ⟨fun he => by
            have := uses_bound HU.out HX.out (stms_pre HY.out (List.prefix_refl (stmUses y)))
            have e := stms_succ2 HY.out he (blksUses (s.blocks.take i))
            rw [stmsUses_succ HY.out, ← List.append_assoc] at e
            have e2 := congrArg List.length e
            rw [List.length_append (bs := [y.dest])] at e2
            rw [← List.append_assoc] at this
            rw [← e2] at this
            exact this⟩
          obtain ⟨P1, hP1⟩ : ∃ P1, blksUses (s.blocks.take i) ++ stmsUses (x.stmts.take k) = P1 := ⟨_, rfl⟩
          rw [hP1] at HO HL1 HE1 HE2 HL2
          clear hP1 hy hy0 f0 f1 f2 f3 f4 f5 f6 f7 hdl hds hag
          go_wp2_with (at_builtin; refine wpList_append_rows _ rfl _ _ 46 rfl (w.heap.size + 1) 24 i0 (.agg #[.string { data := #[] }, .slice none 0 0]) 2 40 Tryz.underlying46 HI0.out HZ0.out HZ1.out HZ2.out ?z1 ?z2 _ P1 rfl HO.out og1 y.args.length cg1 y.args rfl (HAG.out.keep (HK.out.kp S) (fun _ _ h => h)) (fun v x hv => one_pl hv) ?m63 ?bt ?ba ?_)
          case z1 => simp [Value.cells]
          case z2 => decide
          case m63 => have := HL1.out; unfold maxLen; omega
          case bt => have := HL1.out; omega
          case ba => have := HM.out.size; simp at this; omega
          intro v2 w2 ho hg
          have HM2 : Hd (Mod (fun _ => False) (w.alloc (.cells C 45)) w2) := ⟨Mod.of_grown HM.out hg (fun k hk => by rw [World.size_alloc]; exact HO.out.lt hk)⟩
          have HB2 : Hd (w2.heap[bx]? = some (.cells X 64 (0, 0))) := ⟨grown_keep hg HB.out (own_ne HO.out HB.out (by decide))⟩
          have HO2 : Hd (Own w2 (w.heap.size + 1) 24 2 v2 (plV S w0) (P1 ++ y.args)) := ⟨by first | exact ho | (rw [List.append_assoc]; exact ho)⟩
          clear ho hg
          have HK2 : Hd (Mod (fun _ => False) w0 w2) := ⟨HW.out.trans ((Mod.alloc _ _ _).trans HM2.out (fun _ h => Or.inl h)) (fun _ h => Or.inl h)⟩
          clear c2 g7
          have c2 : w2.cell? ⟨bx, 2, none⟩ = some (.slice (some ⟨b2, o2, none⟩) x.stmts.length ca1) := cell_in HB2.out HX2.out.1
          have g2 := HK2.out.cell' HF2.out
          have g3 := HK2.out.cell' HF3.out
          cases he : emp y.dest.loc with
          | true =>
            have HO3 : Hd _ := ⟨HE1.out he ▸ HO2.out⟩
            obtain ⟨he2, he3⟩ := emp_t he
            clear he
            go_wp2_with fail
            go_roundg (gk - 1)
            case measure => omega
            case rel => exact ⟨HM2, HB2, k + 1, by go_num, by omega, HO3⟩
          | false =>
            have HE3 : Hd _ := ⟨HE2.out he⟩
            have HL3 : Hd _ := ⟨HL2.out he⟩
            obtain ⟨he2, he3⟩ := emp_f he
            clear he HE1 HE2 HL2
            have HN : Hd (SR (fun _ => True) (w2.alloc (.cells #[.string y.dest.loc, .slice of1 lf1 cf1] 24)) 2 (plV S w0) (some ⟨w2.heap.size, 0, none⟩) 1 1 [y.dest]) := ⟨.one_ (heap_new' _ _) trivial (.agg #[.string y.dest.loc, .slice of1 lf1 cf1]) (by simp [Value.cells]) HPD.out⟩
            go_wp2_with (at_builtin; refine wpList_append_rows _ rfl _ _ 46 rfl (w.heap.size + 1) 24 i0 (.agg #[.string { data := #[] }, .slice none 0 0]) 2 40 Tryz.underlying46 HI0.out HZ0.out HZ1.out HZ2.out ?z1 ?z2 _ (P1 ++ y.args) rfl (HO2.out.alloc _) (some ⟨w2.heap.size, 0, none⟩) 1 1 [y.dest] rfl HN.out (fun v x hv => one_pl hv) ?m63 ?bt ?ba ?_)
            case z1 => simp [Value.cells]
            case z2 => decide
            case m63 => have := HL3.out; unfold maxLen; omega
            case bt => have := HL3.out; omega
            case ba => have := HM2.out.size; simp at this ⊢; omega
            intro v3 w3 ho hg
            have HM3 : Hd (Mod (fun _ => False) (w.alloc (.cells C 45)) w3) := ⟨Mod.of_grown (HM2.out.trans (Mod.alloc _ _ _) (fun _ h => Or.inl h)) hg (fun k hk => by rw [World.size_alloc]; exact HO2.out.lt hk)⟩
            have HB3 : Hd (w3.heap[bx]? = some (.cells X 64 (0, 0))) := ⟨grown_keep hg ((Below.heap_alloc _ _ _ (Array.getElem?_eq_some_iff.1 HB2.out).1).trans HB2.out) (own_ne HO2.out HB2.out (by decide))⟩
            have HO3 : Hd (Own w3 (w.heap.size + 1) 24 2 v3 (plV S w0) ((P1 ++ y.args) ++ [y.dest])) := ⟨by first | exact ho | (rw [List.append_assoc]; exact ho)⟩
            clear ho hg
            rw [HE3.out] at HO3
            go_wp2_with fail
            go_roundg (gk - 1)
            case measure => omega
            case rel => exact ⟨HM3, HB3, k + 1, by go_num, by omega, HO3⟩
        · have hke : k = x.stmts.length := by omega
          subst hke
          have c8 : wr.cell? ⟨bx, 8, none⟩ = some (.slice oc1 lc1 cc1) := cell_in HB.out HX2.out.2.2.2
          have htl := HT2.out.hlen
          subst htl
          have HPD : Hd (plV S w0 (.agg #[.string x.term.dest.loc, .slice ob1 lb1 cb1]) x.term.dest) := ⟨⟨HTL.out, ob1, lb1, cb1, rfl, HT1.out⟩⟩
          have HO' : Hd (Own wr (w.heap.size + 1) 24 2 u3 (plV S w0) (blksUses (s.blocks.take i) ++ stmsUses x.stmts)) := ⟨by rw [← stms_all x.stmts]; exact HO.out⟩
          have HL1 : Hd ((blksUses (s.blocks.take i) ++ stmsUses x.stmts).length + x.term.args.length ≤ 1048576) := ⟨by
            have := uses_bound HU.out HX.out (trm_pre (args_pre x.term.args x.term.dest))
            rw [← List.append_assoc, List.length_append] at this
            exact this⟩
          have HE1 : Hd (emp x.term.dest.loc = true → ((blksUses (s.blocks.take i) ++ stmsUses x.stmts) ++ x.term.args) = blksUses (s.blocks.take (i + 1))) := ⟨fun he => trm_succ1 HX.out he⟩
          have HE2 : Hd (emp x.term.dest.loc = false → ((blksUses (s.blocks.take i) ++ stmsUses x.stmts) ++ x.term.args) ++ [x.term.dest] = blksUses (s.blocks.take (i + 1))) := ⟨fun he => trm_succ2 HX.out he⟩
          have HL2 : Hd (emp x.term.dest.loc = false → ((blksUses (s.blocks.take i) ++ stmsUses x.stmts) ++ x.term.args).length + 1 ≤ 1048576) := ⟨fun he => by
            have := uses_bound HU.out HX.out (trm_pre (List.prefix_refl (trmUses x.term)))
            have e := trm_succ2 HX.out he
            rw [blksUses_succ HX.out] at e
            have e2 := congrArg List.length e
            rw [List.length_append (bs := [x.term.dest])] at e2
            rw [← e2] at this
            exact this⟩
          obtain ⟨P1, hP1⟩ : ∃ P1, blksUses (s.blocks.take i) ++ stmsUses x.stmts = P1 := ⟨_, rfl⟩
          rw [hP1] at HO' HL1 HE1 HE2 HL2
          clear hP1 HO
          go_wp2_with (at_builtin; refine wpList_append_rows _ rfl _ _ 46 rfl (w.heap.size + 1) 24 i0 (.agg #[.string { data := #[] }, .slice none 0 0]) 2 40 Tryz.underlying46 HI0.out HZ0.out HZ1.out HZ2.out ?z1 ?z2 _ P1 rfl HO'.out oc1 x.term.args.length cc1 x.term.args rfl (HT2.out.keep (HK.out.kp S) (fun _ _ h => h)) (fun v x hv => one_pl hv) ?m63 ?bt ?ba ?_)
          case z1 => simp [Value.cells]
          case z2 => decide
          case m63 => have := HL1.out; unfold maxLen; omega
          case bt => have := HL1.out; omega
          case ba => have := HM.out.size; simp at this; omega
          intro v2 w2 ho hg
          have HM2 : Hd (Mod (fun _ => False) (w.alloc (.cells C 45)) w2) := ⟨Mod.of_grown HM.out hg (fun k hk => by rw [World.size_alloc]; exact HO'.out.lt hk)⟩
          have HB2 : Hd (w2.heap[bx]? = some (.cells X 64 (0, 0))) := ⟨grown_keep hg HB.out (own_ne HO'.out HB.out (by decide))⟩
          have HO2 : Hd (Own w2 (w.heap.size + 1) 24 2 v2 (plV S w0) (P1 ++ x.term.args)) := ⟨by first | exact ho | (rw [List.append_assoc]; exact ho)⟩
          clear ho hg
          clear c2 c8
          have c5 : w2.cell? ⟨bx, 5, none⟩ = some (.string x.term.dest.loc) := cell_in HB2.out HX2.out.2.1
          have c6 : w2.cell? ⟨bx, 6, none⟩ = some (.slice ob1 lb1 cb1) := cell_in HB2.out HX2.out.2.2.1
          cases he : emp x.term.dest.loc with
          | true =>
            have HO3 : Hd _ := ⟨HE1.out he ▸ HO2.out⟩
            obtain ⟨he2, he3⟩ := emp_t he
            clear he
            go_wp2_with fail
            go_roundg (gk0 - 1)
            case measure => omega
            case rel => exact ⟨HM2, i + 1, by go_num, by omega, HO3⟩
          | false =>
            have HE3 : Hd _ := ⟨HE2.out he⟩
            have HL3 : Hd _ := ⟨HL2.out he⟩
            obtain ⟨he2, he3⟩ := emp_f he
            clear he HE1 HE2 HL2
            have HN : Hd (SR (fun _ => True) (w2.alloc (.cells #[.string x.term.dest.loc, .slice ob1 lb1 cb1] 24)) 2 (plV S w0) (some ⟨w2.heap.size, 0, none⟩) 1 1 [x.term.dest]) := ⟨.one_ (heap_new' _ _) trivial (.agg #[.string x.term.dest.loc, .slice ob1 lb1 cb1]) (by simp [Value.cells]) HPD.out⟩
            go_wp2_with (at_builtin; refine wpList_append_rows _ rfl _ _ 46 rfl (w.heap.size + 1) 24 i0 (.agg #[.string { data := #[] }, .slice none 0 0]) 2 40 Tryz.underlying46 HI0.out HZ0.out HZ1.out HZ2.out ?z1 ?z2 _ (P1 ++ x.term.args) rfl (HO2.out.alloc _) (some ⟨w2.heap.size, 0, none⟩) 1 1 [x.term.dest] rfl HN.out (fun v x hv => one_pl hv) ?m63 ?bt ?ba ?_)
            case z1 => simp [Value.cells]
            case z2 => decide
            case m63 => have := HL3.out; unfold maxLen; omega
            case bt => have := HL3.out; omega
            case ba => have := HM2.out.size; simp at this ⊢; omega
            intro v3 w3 ho hg
            have HM3 : Hd (Mod (fun _ => False) (w.alloc (.cells C 45)) w3) := ⟨Mod.of_grown (HM2.out.trans (Mod.alloc _ _ _) (fun _ h => Or.inl h)) hg (fun k hk => by rw [World.size_alloc]; exact HO2.out.lt hk)⟩
            have HB3 : Hd (w3.heap[bx]? = some (.cells X 64 (0, 0))) := ⟨grown_keep hg ((Below.heap_alloc _ _ _ (Array.getElem?_eq_some_iff.1 HB2.out).1).trans HB2.out) (own_ne HO2.out HB2.out (by decide))⟩
            have HO3 : Hd (Own w3 (w.heap.size + 1) 24 2 v3 (plV S w0) ((P1 ++ x.term.args) ++ [x.term.dest])) := ⟨by first | exact ho | (rw [List.append_assoc]; exact ho)⟩
            clear ho hg
            rw [HE3.out] at HO3
            go_wp2_with fail
            go_roundg (gk0 - 1)
            case measure => omega
            case rel => exact ⟨HM3, i + 1, by go_num, by omega, HO3⟩
    · have hie : i = s.blocks.length := by omega
      subst hie
      rw [List.take_length] at HO
      obtain ⟨od, cd, rfl, hS⟩ := HO.out.row HU.out
      have HS : Hd _ := ⟨hS⟩
      clear hS HO
      go_wp2
      go_ret
      exact ⟨od, cd, rfl, HMw.out, HS.out.keep (fun b hb hl => ⟨by omega, hl, rfl⟩) (fun _ _ h => h)⟩
end
end Go.Proofs.YtpodeccpibnlbaaGreatDoor
