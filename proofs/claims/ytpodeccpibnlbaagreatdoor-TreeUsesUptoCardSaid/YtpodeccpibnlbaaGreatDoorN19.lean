/- The law TreeUses, walked. -/
import Derived.Test.YtpodeccpibnlbaaGreatDoorN20
import Derived.Test.YtpodeccpibnlbaaGreatDoorG37
import Derived.Test.YtpodeccpibnlbaaGreatDoorG37
import Derived.Test.YtpodeccpibnlbaaGreatDoorG30
import Derived.Test.YtpodeccpibnlbaaGreatDoorG38
import Derived.Test.YtpodeccpibnlbaaGreatDoorG24
namespace Go.Proofs.YtpodeccpibnlbaaGreatDoor
set_option linter.unusedVariables false
set_option linter.unusedSimpArgs false
open Go.RowKit Go.Shelf

attribute [local go_sem] Oper.semAt_some
theorem equalP_same (p : Pl) : equalP p p = true := by
  unfold equalP
  rw [eqB_self, Bool.true_and]
  induction p.steps with
  | nil => rfl
  | cons x r ih => rw [allZ, eqB_self, ih]; rfl
theorem kept_cells {A B : World} {row : Option Nat} {n0 : Nat} (hg : A.grownBy B row) (hr : ∀ r, row = some r → n0 ≤ r ∧ ∃ o : Obj, A.heap[r]? = some o ∧ o.isCells = false) {k : Nat} {c : Array Value} {t : TypeId} {fr : Nat × Nat} (h : A.heap[k]? = some (.cells c t fr)) : B.heap[k]? = some (.cells c t fr) :=
  (hg.block k (Array.getElem?_eq_some_iff.1 h).1 (fun e => by
    obtain ⟨_, o, h1, h2⟩ := hr k e.symm
    rw [h] at h1
    cases h1
    simp [Obj.isCells] at h2)).trans h
theorem kept_mod {W A B : World} {row : Option Nat} {n0 : Nat} (hW : W.heap.size ≤ n0) (hg : A.grownBy B row) (hr : ∀ r, row = some r → n0 ≤ r ∧ ∃ o : Obj, A.heap[r]? = some o ∧ o.isCells = false) (h : Mod (fun _ => False) W A) : Mod (fun _ => False) W B :=
  ⟨hg.os.trans h.os, hg.tape.trans h.tape, hg.output.trans h.output, Nat.le_trans h.size hg.size, fun k hk hf => (hg.block k (Nat.lt_of_lt_of_le hk h.size) (fun e => by have := (hr k e.symm).1; omega)).trans (h.block k hk hf)⟩
theorem alive_b (W : World) (hT : Tab W) {m : Int} (hm : W.cell? ⟨0, 0, none⟩ = some (.int .i64 m)) : Calls Tryz.prog 9 #[] W fun e w' => e = .returned (.bool true) ∧ Mod (fun _ => False) W w' := callsIn_wide.1 (alive_in W hT hm)
set_option maxRecDepth 100000 in
set_option maxHeartbeats 16000000 in
theorem law_uses_in (W : World) (hT : Tab W) {m : Int} (hm : W.cell? ⟨0, 0, none⟩ = some (.int .i64 m)) {f : Fun} {v : Value} (hv : funV (fun _ => True) W v f) (s : ByteArray)
    (hG : ∀ w, Mod (fun _ => False) W w → ∀ k : Nat, ∀ oa la ca ob lb cb oc lc cc, w.heap[k]? = some (.cells #[.int .i64 f.pos, .string f.name, .slice oa la ca, .slice ob lb cb, .string f.result, .slice oc lc cc] 45) → v = .agg #[.int .i64 f.pos, .string f.name, .slice oa la ca, .slice ob lb cb, .string f.result, .slice oc lc cc] →
      Calls Tryz.prog 19 #[.agg #[.slice none 0 0, .slice none 0 0, .slice (some ⟨k, 0, none⟩) 1 1]] w fun e w' => ∃ b, e = .returned (.bool b) ∧ Mod (fun _ => False) w w')
    (hU : (usesI f).length ≤ 1048576) (hsum : f.params.length + f.locals.length ≤ 1048576) (hsz : ∀ b ∈ f.blocks, (∀ s ∈ b.stmts, s.args.length + 1 ≤ 1048576) ∧ b.term.args.length + 1 ≤ 1048576) :
    CallsIn Fence.wide 10 Tryz.prog 6 #[v, .string s] W fun e w' => e = .returned (.bool true) ∧ Mod (fun _ => False) W w' := by
  have HV : Hd _ := ⟨hv⟩
  have HG : Hd _ := ⟨hG⟩
  have HU : Hd _ := ⟨hU⟩
  have HSU : Hd _ := ⟨hsum⟩
  have HSZ : Hd _ := ⟨hsz⟩
  have HT : Hd _ := ⟨hT⟩
  have HM0 : Hd _ := ⟨hm⟩
  clear hG hU hsum hsz hT hm
  obtain ⟨_, _, _, oa, la, ca, ob, lb, cb, oc, lc, cc, rfl, k1, k2, k3⟩ := hv
  clear k1 k2 k3
  refine callsIn_of_wp_marks Tryz.func6 rfl trivial ?_ rfl
  simp only [Tryz.ntmps6, List.size_toArray, List.length_cons, List.length_nil, Nat.reduceAdd, Nat.reduceSub, Array.replicate_succ, Array.replicate_zero, List.push_toArray, List.append_toArray, List.nil_append, List.cons_append]
  gi_wp2_with fail
  refine ⟨trivial, ?_⟩
  have HMa : Hd (Mod (fun _ => False) W ((W.alloc (.cells #[.int .i64 f.pos, .string f.name, .slice oa la ca, .slice ob lb cb, .string f.result, .slice oc lc cc] 45)).alloc (.cells #[.bool false] 4))) := ⟨(Mod.alloc _ _ _).trans (Mod.alloc _ _ _) (fun _ h => Or.inl h)⟩
  refine (callsIn_wide.2 (alive_b _ (HT.out.mod HMa.out) (HMa.out.cell' HM0.out))).mono ?_
  rintro e w1 ⟨rfl, hM⟩
  have HX1 : Hd (∀ w', Mod (fun _ => False) w1 w' → w'.heap[W.heap.size]? = some (.cells #[.int .i64 f.pos, .string f.name, .slice oa la ca, .slice ob lb cb, .string f.result, .slice oc lc cc] 45 (0, 0)) ∧ w'.heap[W.heap.size + 1]? = some (.cells #[.bool false] 4 (0, 0))) := ⟨fun w' h => by
    have h2 := hM.trans h (fun _ h => Or.inl h)
    exact ⟨(h2.block _ (lt2_0 _ _ _) (fun h => h)).trans (heap2_0 _ _ _), (h2.block _ (lt2_1 _ _ _) (fun h => h)).trans (heap2_1 _ _ _)⟩⟩
  have HM1 : Hd (Mod (fun _ => False) W w1) := ⟨HMa.out.trans hM (fun _ h => Or.inl h)⟩
  clear hM HMa
  obtain ⟨q0, q1⟩ := HX1.out w1 (Mod.refl _ _)
  have c0 : w1.cell? ⟨W.heap.size, 0, none⟩ = some (.int .i64 f.pos) := cell_of q0 rfl
  have c1 : w1.cell? ⟨W.heap.size, 1, none⟩ = some (.string f.name) := cell_of q0 rfl
  have c2 : w1.cell? ⟨W.heap.size, 2, none⟩ = some (.slice oa la ca) := cell_of q0 rfl
  have c3 : w1.cell? ⟨W.heap.size, 3, none⟩ = some (.slice ob lb cb) := cell_of q0 rfl
  have c4 : w1.cell? ⟨W.heap.size, 4, none⟩ = some (.string f.result) := cell_of q0 rfl
  have c5 : w1.cell? ⟨W.heap.size, 5, none⟩ = some (.slice oc lc cc) := cell_of q0 rfl
  clear q0 q1
  gi_wp2_with fail
  refine ⟨trivial, ?_⟩
  refine (callsIn_wide.2 (HG.out _ (HM1.out.trans (Mod.alloc _ _ _) (fun _ h => Or.inl h)) w1.heap.size _ _ _ _ _ _ _ _ _ (heap_new' _ _) rfl)).mono ?_
  rintro e w2 ⟨bg, rfl, hM⟩
  have HM2 : Hd (Mod (fun _ => False) w1 w2) := ⟨(Mod.alloc _ _ _).trans hM (fun _ h => Or.inl h)⟩
  obtain ⟨q0, q1⟩ := HX1.out w2 HM2.out
  have z1 : ∀ j, w2.frozen? ⟨W.heap.size + 1, j, none⟩ = false := fun j => frozen_of q1 j
  have r0 : w2.cell? ⟨W.heap.size + 1, 0, none⟩ = some (.bool false) := cell_of q1 rfl
  have e0 : w2.cell? ⟨W.heap.size, 0, none⟩ = some (.int .i64 f.pos) := cell_of q0 rfl
  have e1 : w2.cell? ⟨W.heap.size, 1, none⟩ = some (.string f.name) := cell_of q0 rfl
  have e2 : w2.cell? ⟨W.heap.size, 2, none⟩ = some (.slice oa la ca) := cell_of q0 rfl
  have e3 : w2.cell? ⟨W.heap.size, 3, none⟩ = some (.slice ob lb cb) := cell_of q0 rfl
  have e4 : w2.cell? ⟨W.heap.size, 4, none⟩ = some (.string f.result) := cell_of q0 rfl
  have e5 : w2.cell? ⟨W.heap.size, 5, none⟩ = some (.slice oc lc cc) := cell_of q0 rfl
  have HQ1 : Hd _ := ⟨q1⟩
  clear hM c0 c1 c2 c3 c4 c5 q0 q1
  cases bg with
  | true =>
    gi_wp2_with fail
    have hr : (w2.setCell ⟨W.heap.size + 1, 0, none⟩ (.bool true)).cell? ⟨W.heap.size + 1, 0, none⟩ = some (.bool true) := World.cell?_setCell_same' _ _ _ (by rw [r0]; rfl)
    refine ⟨.bool true, ?_, rfl, ?_⟩
    · simp [results, Tryz.f6, go_sem, hr]
    · exact (HM1.out.trans HM2.out (fun _ h => Or.inl h)).trans (Mod.setCell (S := fun k => k = W.heap.size + 1) _ _ _ rfl) (fun i hi => Or.inr (by subst hi; simp))
  | false =>
    have HRU : Hd (∀ w, Mod (fun _ => False) W w → _) := ⟨fun w hw => rUses_c HV.out HU.out w hw⟩
    gi_wp2_with fail
    refine ⟨trivial, ?_⟩
    refine (callsIn_wide.2 (HRU.out w2 (HM1.out.trans HM2.out (fun _ h => Or.inl h)))).mono ?_
    rintro e w3 ⟨ou, cu, rfl, hM, hS⟩
    have HM3 : Hd (Mod (fun _ => False) w1 w3) := ⟨HM2.out.trans hM (fun _ h => Or.inl h)⟩
    have HS3 : Hd _ := ⟨hS⟩
    have hn := hS.hbig
    obtain ⟨q0, q1⟩ := HX1.out w3 HM3.out
    have g0 : ∀ A B : Obj, ((w3.alloc A).alloc B).cell? ⟨W.heap.size, 0, none⟩ = some (.int .i64 f.pos) := fun A B => Lib.cell?_alloc_some B (Lib.cell?_alloc_some A (cell_of q0 rfl))
    have g1 : ∀ A B : Obj, ((w3.alloc A).alloc B).cell? ⟨W.heap.size, 1, none⟩ = some (.string f.name) := fun A B => Lib.cell?_alloc_some B (Lib.cell?_alloc_some A (cell_of q0 rfl))
    have g2 : ∀ A B : Obj, ((w3.alloc A).alloc B).cell? ⟨W.heap.size, 2, none⟩ = some (.slice oa la ca) := fun A B => Lib.cell?_alloc_some B (Lib.cell?_alloc_some A (cell_of q0 rfl))
    have g3 : ∀ A B : Obj, ((w3.alloc A).alloc B).cell? ⟨W.heap.size, 3, none⟩ = some (.slice ob lb cb) := fun A B => Lib.cell?_alloc_some B (Lib.cell?_alloc_some A (cell_of q0 rfl))
    have g4 : ∀ A B : Obj, ((w3.alloc A).alloc B).cell? ⟨W.heap.size, 4, none⟩ = some (.string f.result) := fun A B => Lib.cell?_alloc_some B (Lib.cell?_alloc_some A (cell_of q0 rfl))
    have g5 : ∀ A B : Obj, ((w3.alloc A).alloc B).cell? ⟨W.heap.size, 5, none⟩ = some (.slice oc lc cc) := fun A B => Lib.cell?_alloc_some B (Lib.cell?_alloc_some A (cell_of q0 rfl))
    clear hM hS q0 q1 HRU e0 e1 e2 e3 e4 e5 r0 z1 HQ1
    gi_wp2_with fail
    refine ⟨trivial, ?_⟩
    refine (callsIn_wide.2 (Uses_c _)).mono ?_
    rintro e w6 ⟨rfl, rfl⟩
    clear g0 g1 g2 g3 g4 g5
    gi_wp2_with fail
    obtain ⟨wp, hwp⟩ : ∃ wp, w3.alloc (.cells #[.slice ou (usesI f).length cu] 46) = wp := ⟨_, rfl⟩
    have HL : Hd (wp.heap[w3.heap.size]? = some (.cells #[.slice ou (usesI f).length cu] 46 (0, 0))) := ⟨by rw [← hwp]; exact heap_new' _ _⟩
    have hsz : w3.heap.size + 1 = wp.heap.size := by rw [← hwp]; simp
    have HMp : Hd (Mod (fun _ => False) w3 wp) := ⟨by rw [← hwp]; exact Mod.alloc _ _ _⟩
    rw [hwp]
    try rw [hsz]
    obtain ⟨bI, hbI⟩ : ∃ b, wp.heap.size = b := ⟨_, rfl⟩
    obtain ⟨bL, hbL⟩ : ∃ b, w3.heap.size = b := ⟨_, rfl⟩
    have HW1 : Hd (bL + 1 = bI) := ⟨by rw [← hbI, ← hbL]; exact hsz⟩
    have HBI : Hd _ := ⟨hbI⟩
    have HBL : Hd _ := ⟨hbL⟩
    obtain ⟨w7, hw7⟩ : ∃ x, (wp.alloc (.cells #[.int .i64 0] 3)).alloc (.cells #[.int .i64 f.pos, .string f.name, .slice oa la ca, .slice ob lb cb, .string f.result, .slice oc lc cc] 45) = x := ⟨_, rfl⟩
    have HM7 : Hd (Mod (fun _ => False) wp w7) := ⟨by rw [← hw7]; exact (Mod.alloc _ _ _).trans (Mod.alloc _ _ _) (fun _ h => Or.inl h)⟩
    have HN7 : Hd (w7.heap[bI]? = some (.cells #[.int .i64 0] 3 (0, 0))) := ⟨by rw [← hw7, ← hbI]; exact heap2_0 _ _ _⟩
    have HF7 : Hd (w7.heap[bI + 1]? = some (.cells #[.int .i64 f.pos, .string f.name, .slice oa la ca, .slice ob lb cb, .string f.result, .slice oc lc cc] 45 (0, 0))) := ⟨by rw [← hw7, ← hbI]; exact heap2_1 _ _ _⟩
    have hFB : w7.cell? ⟨bI + 1, 5, none⟩ = some (.slice oc lc cc) := cell_of HF7.out rfl
    have HKP : Hd (Mod (fun _ => False) W w7) := ⟨HM1.out.trans (HM3.out.trans (HMp.out.trans HM7.out (fun _ h => Or.inl h)) (fun _ h => Or.inl h)) (fun _ h => Or.inl h)⟩
    have HBK : Hd (SR (fun k => k < W.heap.size) w7 11 (blkV (fun k => k < W.heap.size) w7) oc lc cc f.blocks) := ⟨by
      obtain ⟨_, _, _, oa', la', ca', ob', lb', cb', oc', lc', cc', e, _, _, k3⟩ := HV.out
      simp only [Value.agg.injEq, Array.mk.injEq, List.cons.injEq, and_true, true_and, Value.slice.injEq] at e
      obtain ⟨_, _, rfl, rfl, rfl⟩ := e
      have hk : Kp (fun _ => True) W (fun k => k < W.heap.size) w7 := fun b _ hl => ⟨hl, Nat.lt_of_lt_of_le hl HKP.out.size, HKP.out.block b hl (fun h => h)⟩
      exact k3.keep hk (fun _ _ h => h.keep hk)⟩
    have hWI : W.heap.size ≤ bL := by rw [← hbL]; exact (HM1.out.trans HM3.out (fun _ h => Or.inl h)).size
    have HWI : Hd _ := ⟨hWI⟩
    rw [hw7, hbI, hbL]
    clear hsz hwp hbI hbL hw7 hWI
    have HNB : Hd (bI < w7.heap.size) := ⟨(Array.getElem?_eq_some_iff.1 HN7.out).1⟩
    apply wpIn_rangeFunc_box1 (α := UE (fun k => k < W.heap.size) w7) (n := 10) (q := 7) (gf := 77) (lb := #[.pointer (some ⟨bI + 1, 0, none⟩)]) (by omega) ?hg (enters_of Tryz.func77 (by kernel_rfl) rfl) (enc := fun x => x.1.1)
      (uses_stops 9 (by omega) (fun k => k = bI) HBK.out (fun b hb he => by have := HWI.out; have := HW1.out; omega) (fun k hk => by have := HNB.out; omega) HSZ.out hFB) (Below.refl _ _)
      (fun pre w' => Mod (fun _ => False) wp w' ∧ w'.heap[bI]? = some (.cells #[.int .i64 (pre.length : Int)] 3 (0, 0)))
      (fun c pre _ => c = .ret ∧ ¬ (toP pre <+: usesI f))
      (fun pre x bp w' => Mod (fun _ => False) wp w' ∧ w'.heap[bI]? = some (.cells #[.int .i64 (pre.length : Int)] 3 (0, 0)) ∧ bI < bp ∧ (∃ ox lx cx, x.1.1 = .agg #[.string x.1.2.loc, .slice ox lx cx] ∧ w'.heap[bp]? = some (.cells #[.string x.1.2.loc, .slice ox lx cx] 24 (0, 0))) ∧ pre.length < (usesI f).length)
    case hg => rfl
    case hI =>
      rintro pre A' B' row ⟨h1, h2⟩ hg hr
      exact ⟨kept_mod (by have := HNB.out; have := HBI.out; omega) hg hr h1, kept_cells hg hr h2⟩
    case hIx => exact fun c pre A' B' row hs _ _ => hs
    case hB =>
      rintro pre x bp _ A' B' row ⟨h1, h2, h3, ⟨ox, lx, cx, h4, h5⟩, h6⟩ hg hr
      exact ⟨kept_mod (by have := HNB.out; have := HBI.out; omega) hg hr h1, kept_cells hg hr h2, h3, ⟨ox, lx, cx, h4, kept_cells hg hr h5⟩, h6⟩
    case h0 => exact ⟨HM7.out, HN7.out⟩
    case hassign =>
      rintro l pre ⟨⟨xv, xp⟩, hx⟩ W' K ⟨h1, h2⟩ hlen hK
      obtain ⟨_, ox, lx, cx, hxe, _⟩ := hx
      dsimp only at hxe hK ⊢
      subst hxe
      have H1 : Hd _ := ⟨h1⟩
      have H2 : Hd _ := ⟨h2⟩
      have hb := (Array.getElem?_eq_some_iff.1 h2).1
      have hK' := hK W'.heap.size (W'.alloc (.cells #[.string xp.loc, .slice ox lx cx] 24)) ⟨h1.trans (Mod.alloc _ _ _) (fun _ h => Or.inl h), (Below.heap_alloc _ _ _ hb).trans h2, hb, ⟨ox, lx, cx, rfl, heap_new' _ _⟩, hlen⟩ (KeepsOthers.alloc _ _) (KC.alloc _ _ _)
      have HK' : Hd _ := ⟨hK'⟩
      clear hK hK' h1 h2
      simp only [List.setIfInBounds_toArray, List.set_cons_zero, List.set_cons_succ] at HK' ⊢
      gi_wp2
      exact HK'.out
    case hbody =>
      rintro l pre ⟨⟨xv, xp⟩, hx⟩ bp W' ⟨h1, h2, h3, ⟨ox, lx, cx, hxe, h4⟩, h5⟩
      dsimp only at hx hxe h4 ⊢
      subst hxe
      simp only [List.setIfInBounds_toArray, List.set_cons_zero, List.set_cons_succ]
      have H1 : Hd _ := ⟨h1⟩
      have H2 : Hd _ := ⟨h2⟩
      have H4 : Hd _ := ⟨h4⟩
      have H5 : Hd (pre.length < (usesI f).length) := ⟨h5⟩
      have HWW : Hd (Mod (fun _ => False) W W') := ⟨HM1.out.trans (HM3.out.trans (HMp.out.trans h1 (fun _ h => Or.inl h)) (fun _ h => Or.inl h)) (fun _ h => Or.inl h)⟩
      have hy0 : (usesI f)[pre.length]? = some (usesI f)[pre.length] := List.getElem?_eq_getElem h5
      obtain ⟨y, hy⟩ : ∃ y, (usesI f)[pre.length]? = some y := ⟨_, hy0⟩
      obtain ⟨b, o, oa6, la6, ca6, rfl, _, _, y0, y1, hvy⟩ := HS3.out.pl' hy
      have hyW : plU (fun _ => True) W' (.agg #[.string y.loc, .slice oa6 la6 ca6]) y := by
        obtain ⟨_, o1, l1, c1, e, k⟩ := hvy.keep (HWW.out.kp (fun _ => True))
        exact ⟨o1, l1, c1, e, k.keep (fun b _ hl => ⟨trivial, hl, rfl⟩) (fun v x h => h.1)⟩
      have hxW : plU (fun _ => True) W' (.agg #[.string xp.loc, .slice ox lx cx]) xp := by
        obtain ⟨_, o1, l1, c1, e, k⟩ := hx
        exact ⟨o1, l1, c1, e, k.keep (fun b hb hl => ⟨trivial, Nat.lt_of_lt_of_le hb HWW.out.size, (HWW.out.block b hb (fun h => h)).trans (HKP.out.block b hb (fun h => h)).symm⟩) (fun v x h => h.1)⟩
      have HEQ : Hd (∀ w', Mod (fun _ => False) W' w' → _) := ⟨fun w' h => rEqual_u hxW hyW w' h⟩
      have HCL : Hd (∀ w', Mod (fun _ => False) W' w' → w'.cell? ⟨bI, 0, none⟩ = some (.int .i64 (pre.length : Int)) ∧ w'.cell? ⟨bL, 0, none⟩ = some (.slice (some ⟨b, o, none⟩) (usesI f).length cu) ∧ w'.cell? ⟨bp, 0, none⟩ = some (.string xp.loc) ∧ w'.cell? ⟨bp, 1, none⟩ = some (.slice ox lx cx) ∧ w'.cell? ⟨b, o + pre.length * 2, none⟩ = some (.string y.loc) ∧ w'.cell? ⟨b, o + pre.length * 2 + 1, none⟩ = some (.slice oa6 la6 ca6)) := ⟨fun w' h => by
        have qi := (h.block _ (Array.getElem?_eq_some_iff.1 H2.out).1 (fun h => h)).trans H2.out
        have qp := (h.block _ (Array.getElem?_eq_some_iff.1 H4.out).1 (fun h => h)).trans H4.out
        have hm := H1.out.trans h (fun _ h => Or.inl h)
        have ql := (hm.block _ (Array.getElem?_eq_some_iff.1 HL.out).1 (fun h => h)).trans HL.out
        have hm3 := HMp.out.trans hm (fun _ h => Or.inl h)
        exact ⟨cell_of qi rfl, cell_of (by rw [← HBL.out]; exact ql) rfl, cell_of qp rfl, cell_of qp rfl, hm3.cell' y0, hm3.cell' y1⟩⟩
      have HPX : Hd (∀ q, equalP xp y = q → q = false → ¬ (toP (pre ++ [⟨(.agg #[.string xp.loc, .slice ox lx cx], xp), hx⟩] : List (UE (fun k => k < W.heap.size) w7)) <+: usesI f)) := ⟨fun q hq hqf hp => by
        have h2 : (toP (pre ++ [⟨(.agg #[.string xp.loc, .slice ox lx cx], xp), hx⟩] : List (UE (fun k => k < W.heap.size) w7)))[pre.length]? = some xp := by simp [toP]
        have h3 := List.prefix_iff_getElem?.1 hp pre.length (by simp [toP])
        rw [hy] at h3
        have h4 : y = xp := by
          rw [List.getElem?_eq_getElem (by simp [toP])] at h2
          exact (Option.some.inj h3).trans (Option.some.inj h2)
        subst h4
        rw [equalP_same] at hq
        rw [← hq] at hqf
        cases hqf⟩
      obtain ⟨q, hq⟩ : ∃ q, equalP xp y = q := ⟨_, rfl⟩
      rw [hq] at HEQ
      have HQ : Hd _ := ⟨hq⟩
      have n1 : ¬ ((usesI f).length : Int) ≤ (pre.length : Int) := by omega
      have n2 : (pre.length : Int) < ((usesI f).length : Int) := by omega
      have n3 : (0 : Int) ≤ (pre.length : Int) := by omega
      clear hq h1 h2 h4 hy hy0 y0 y1 hyW hxW hvy
      repeat (gi_not_at_region 9; first | go_values | gi_guarded | gi_step | gi_upon | gi_back)
      refine wpIn_region_quiet_round (C := fun w' => Mod (fun _ => False) W' w') rfl (by kernel_rfl) (by kernel_rfl) (by kernel_rfl) (Mod.drew _ _) ?_
      simp only [List.toList_toArray]
      gi_big_quiet_want
      refine ⟨.int .i64 (pre.length : Int), fun w hw => ?_, ?_⟩
      · obtain ⟨s0, s1, s2, s3, s4, s5⟩ := HCL.out w hw
        unfold Oper.quietAtIn
        go_simp
      go_big_quiet_on
      try simp only [Act.put, List.setIfInBounds_toArray, List.set_cons_zero, List.set_cons_succ]
      gi_big_quiet_want
      refine ⟨.slice (some ⟨b, o, none⟩) (usesI f).length cu, fun w hw => ?_, ?_⟩
      · obtain ⟨s0, s1, s2, s3, s4, s5⟩ := HCL.out w hw
        unfold Oper.quietAtIn
        go_simp
      go_big_quiet_on
      try simp only [Act.put, List.setIfInBounds_toArray, List.set_cons_zero, List.set_cons_succ]
      gi_big_quiet_want
      refine ⟨.int .i64 ((usesI f).length : Int), fun w hw => ?_, ?_⟩
      · obtain ⟨s0, s1, s2, s3, s4, s5⟩ := HCL.out w hw
        unfold Oper.quietAtIn
        go_simp
      go_big_quiet_on
      try simp only [Act.put, List.setIfInBounds_toArray, List.set_cons_zero, List.set_cons_succ]
      gi_big_quiet_want
      refine ⟨.bool false, fun w hw => ?_, ?_⟩
      · obtain ⟨s0, s1, s2, s3, s4, s5⟩ := HCL.out w hw
        unfold Oper.quietAtIn
        go_simp
      go_big_quiet_on
      try simp only [Act.put, List.setIfInBounds_toArray, List.set_cons_zero, List.set_cons_succ]
      gi_big_quiet_want
      refine ⟨.bool false, fun w hw => ?_, ?_⟩
      · obtain ⟨s0, s1, s2, s3, s4, s5⟩ := HCL.out w hw
        unfold Oper.quietAtIn
        go_simp
      go_big_quiet_on
      try simp only [Act.put, List.setIfInBounds_toArray, List.set_cons_zero, List.set_cons_succ]
      gi_big_quiet_want
      refine ⟨.agg #[.string xp.loc, .slice ox lx cx], fun w hw => ?_, ?_⟩
      · obtain ⟨s0, s1, s2, s3, s4, s5⟩ := HCL.out w hw
        unfold Oper.quietAtIn
        go_simp
      go_big_quiet_on
      try simp only [Act.put, List.setIfInBounds_toArray, List.set_cons_zero, List.set_cons_succ]
      gi_big_quiet_want
      refine ⟨.slice (some ⟨b, o, none⟩) (usesI f).length cu, fun w hw => ?_, ?_⟩
      · obtain ⟨s0, s1, s2, s3, s4, s5⟩ := HCL.out w hw
        unfold Oper.quietAtIn
        go_simp
      go_big_quiet_on
      try simp only [Act.put, List.setIfInBounds_toArray, List.set_cons_zero, List.set_cons_succ]
      gi_big_quiet_want
      refine ⟨.int .i64 (pre.length : Int), fun w hw => ?_, ?_⟩
      · obtain ⟨s0, s1, s2, s3, s4, s5⟩ := HCL.out w hw
        unfold Oper.quietAtIn
        go_simp
      go_big_quiet_on
      try simp only [Act.put, List.setIfInBounds_toArray, List.set_cons_zero, List.set_cons_succ]
      gi_big_quiet_want
      refine ⟨.pointer (some ⟨b, o + pre.length * 2, none⟩), fun w hw => ?_, ?_⟩
      · obtain ⟨s0, s1, s2, s3, s4, s5⟩ := HCL.out w hw
        unfold Oper.quietAtIn
        go_simp
      go_big_quiet_on
      try simp only [Act.put, List.setIfInBounds_toArray, List.set_cons_zero, List.set_cons_succ]
      gi_big_quiet_want
      refine ⟨.agg #[.string y.loc, .slice oa6 la6 ca6], fun w hw => ?_, ?_⟩
      · obtain ⟨s0, s1, s2, s3, s4, s5⟩ := HCL.out w hw
        unfold Oper.quietAtIn
        go_simp
      go_big_quiet_on
      try simp only [Act.put, List.setIfInBounds_toArray, List.set_cons_zero, List.set_cons_succ]
      refine wpQuietIn_step (fun _ _ _ _ => trivial) (fun K hK => ?_)
      rw [if_pos (by kernel_rfl)]
      refine ⟨.bool q, fun w hw => ?_, ?_⟩
      · unfold Oper.quietAtIn
        go_simp
        refine (callsIn_wide.2 (Calls.at' (HEQ.out w hw) (by with_reducible rfl))).mono ?_
        rintro e w2 ⟨rfl, hM⟩
        exact ⟨rfl, hw.trans hM (fun _ h => Or.inl h)⟩
      refine hK _ ?_
      clear hK K
      try simp only [Act.put, List.setIfInBounds_toArray, List.set_cons_zero, List.set_cons_succ]
      gi_big_quiet_want
      refine ⟨.bool (!q), fun w hw => ?_, ?_⟩
      · obtain ⟨s0, s1, s2, s3, s4, s5⟩ := HCL.out w hw
        unfold Oper.quietAtIn
        go_simp
      go_big_quiet_on
      try simp only [Act.put, List.setIfInBounds_toArray, List.set_cons_zero, List.set_cons_succ]
      gi_big_quiet_want
      refine ⟨.bool (!q), fun w hw => ?_, ?_⟩
      · obtain ⟨s0, s1, s2, s3, s4, s5⟩ := HCL.out w hw
        unfold Oper.quietAtIn
        go_simp
      go_big_quiet_on
      try simp only [Act.put, List.setIfInBounds_toArray, List.set_cons_zero, List.set_cons_succ]
      refine wpQuietIn_nil ?_
      intro wd hwd
      have HD : Hd (Mod (fun _ => False) W' wd) := ⟨hwd⟩
      have qi := (hwd.block _ (Array.getElem?_eq_some_iff.1 H2.out).1 (fun h => h)).trans H2.out
      have HQI : Hd _ := ⟨qi⟩
      have ci : wd.cell? ⟨bI, 0, none⟩ = some (.int .i64 (pre.length : Int)) := cell_of qi rfl
      have zi : ∀ j, wd.frozen? ⟨bI, j, none⟩ = false := fun j => frozen_of qi j
      have qr := ((H1.out.trans hwd (fun _ h => Or.inl h)).block (W.heap.size + 1) (by have := HMp.out.size; have h := (HX1.out w3 HM3.out).2; have := (Array.getElem?_eq_some_iff.1 h).1; omega) (fun h => h)).trans (HX1.out wp (HM3.out.trans HMp.out (fun _ h => Or.inl h))).2
      have cr : wd.cell? ⟨W.heap.size + 1, 0, none⟩ = some (.bool false) := cell_of qr rfl
      have zr : ∀ j, wd.frozen? ⟨W.heap.size + 1, j, none⟩ = false := fun j => frozen_of qr j
      clear hwd qi qr
      cases q with
      | true =>
        gi_wp2
        exact ⟨(KeepsOthers.of_mod HD.out).trans (KeepsOthers.setCell _ _ _), (KC.mod HD.out).trans (KC.setCell _ _ _ rfl), Mod.setNew (H1.out.trans HD.out (fun _ h => Or.inl h)) _ _ (by have := HBI.out; simp; omega), by rw [heap_setCell_same _ HQI.out]; simp⟩
      | false =>
        gi_wp2
        exact ⟨(KeepsOthers.of_mod HD.out).trans (KeepsOthers.setCell _ _ _), rfl, HPX.out false HQ.out rfl⟩
    case hstop =>
      rintro D c pre W' _ hp ⟨_, hn⟩ _
      exact absurd hp hn
    case hdone =>
      rintro D xs W' hD hS ⟨hM8, hN8⟩ hK
      have hxl : xs.length = (usesI f).length := by
        have h1 : (toP xs).length = xs.length := by simp [toP]
        rw [← h1, hS]
        rfl
      rw [hxl] at hN8
      have HN8 : Hd _ := ⟨hN8⟩
      have HM8 : Hd (Mod (fun _ => False) wp W') := ⟨hM8⟩
      have HK8 : Hd (W'.heap[D]? = some (.deferred (some []))) := ⟨hK⟩
      have HWW : Hd (Mod (fun _ => False) W W') := ⟨HM1.out.trans (HM3.out.trans (HMp.out.trans hM8 (fun _ h => Or.inl h)) (fun _ h => Or.inl h)) (fun _ h => Or.inl h)⟩
      have HDR : Hd (W.heap.size + 1 < wp.heap.size) := ⟨by have h := (HX1.out wp (HM3.out.trans HMp.out (fun _ h => Or.inl h))).2; exact (Array.getElem?_eq_some_iff.1 h).1⟩
      have HD2 : Hd (W.heap.size + 1 < D) := ⟨by have h1 := HM7.out.size; have := HDR.out; omega⟩
      have HCL : Hd (∀ w', Mod (fun _ => False) W' w' → w'.cell? ⟨bI, 0, none⟩ = some (.int .i64 ((usesI f).length : Int)) ∧ w'.cell? ⟨bL, 0, none⟩ = some (.slice ou (usesI f).length cu) ∧ w'.cell? ⟨W.heap.size, 0, none⟩ = some (.int .i64 f.pos) ∧ w'.cell? ⟨W.heap.size, 1, none⟩ = some (.string f.name) ∧ w'.cell? ⟨W.heap.size, 2, none⟩ = some (.slice oa la ca) ∧ w'.cell? ⟨W.heap.size, 3, none⟩ = some (.slice ob lb cb) ∧ w'.cell? ⟨W.heap.size, 4, none⟩ = some (.string f.result) ∧ w'.cell? ⟨W.heap.size, 5, none⟩ = some (.slice oc lc cc) ∧ w'.cell? ⟨W.heap.size + 1, 0, none⟩ = some (.bool false) ∧ w'.frozen? ⟨W.heap.size + 1, 0, none⟩ = false) := ⟨fun w' h => by
        have qi := (h.block _ (Array.getElem?_eq_some_iff.1 HN8.out).1 (fun h => h)).trans HN8.out
        have hm := HM8.out.trans h (fun _ h => Or.inl h)
        have ql := (hm.block _ (Array.getElem?_eq_some_iff.1 HL.out).1 (fun h => h)).trans HL.out
        have qq := HX1.out w' (HM3.out.trans (HMp.out.trans hm (fun _ h => Or.inl h)) (fun _ h => Or.inl h))
        exact ⟨cell_of qi rfl, cell_of (by rw [← HBL.out]; exact ql) rfl, cell_of qq.1 rfl, cell_of qq.1 rfl, cell_of qq.1 rfl, cell_of qq.1 rfl, cell_of qq.1 rfl, cell_of qq.1 rfl, cell_of qq.2 rfl, frozen_of qq.2 0⟩⟩
      have HVA : Hd (∀ w, Mod (fun _ => False) W w → _) := ⟨fun w hw => Vars_c HV.out HSU.out w hw⟩
      have HVB : Hd (∀ w, Mod (fun _ => False) W w → _) := ⟨fun w hw => rVars_c HV.out HSU.out w hw⟩
      have HBA : Hd (∀ w, Mod (fun _ => False) W w → _) := ⟨fun w hw => Block_ans HV.out s w hw⟩
      have HBB : Hd (∀ w, Mod (fun _ => False) W w → _) := ⟨fun w hw => rBlock_ans HV.out s w hw⟩
      have HPB : Hd ((f.params ++ f.locals).length ≤ 1048576) := ⟨by rw [List.length_append]; exact HSU.out⟩
      obtain ⟨pl, hpl⟩ : ∃ pl, f.params ++ f.locals = pl := ⟨_, rfl⟩
      obtain ⟨bx, hbx⟩ : ∃ bx, blockIx f.blocks s = bx := ⟨_, rfl⟩
      rw [hpl] at HVA HVB HPB
      rw [hbx] at HBA HBB
      have hpb := HPB.out
      clear hpl hbx hN8 hM8 hK hD hS hxl HN7 HM7 HF7 hFB HBK HS3 HN8
      obtain ⟨c0, c1, c2, c3, c4, c5, c6, c7, c8, c9⟩ := HCL.out W' (Mod.refl _ _)
      gi_wp2_with fail
      refine ⟨trivial, ?_⟩
      refine (callsIn_wide.2 (HVA.out W' HWW.out)).mono ?_
      rintro e w9 ⟨ov, cv, rfl, hM, hSV⟩
      have HM9 : Hd (Mod (fun _ => False) W' w9) := ⟨hM⟩
      have HSV : Hd _ := ⟨hSV⟩
      clear hM hSV c0 c1 c2 c3 c4 c5 c6 c7 c8 c9
      obtain ⟨c0, c1, c2, c3, c4, c5, c6, c7, c8, c9⟩ := HCL.out w9 HM9.out
      gi_wp2_with fail
      refine ⟨trivial, ?_⟩
      refine (callsIn_wide.2 (HVB.out w9 (HWW.out.trans HM9.out (fun _ h => Or.inl h)))).mono ?_
      rintro e w10 ⟨ow, cw, rfl, hM, hSW⟩
      have HM10 : Hd (Mod (fun _ => False) W' w10) := ⟨HM9.out.trans hM (fun _ h => Or.inl h)⟩
      have HSV2 : Hd _ := ⟨HSV.out.keep (hM.kp _) (fun _ _ h => h)⟩
      have HSW : Hd _ := ⟨hSW⟩
      clear hM hSW c0 c1 c2 c3 c4 c5 c6 c7 c8 c9 HSV
      obtain ⟨c0, c1, c2, c3, c4, c5, c6, c7, c8, c9⟩ := HCL.out w10 HM10.out
      gi_wp2_with fail
      clear c0 c1 c2 c3 c4 c5 c6 c7 c8 c9
      gi_loopg [10] pl.length (fun gk v10 wr => Hd (Mod (fun _ => False) w10 wr) ∧ ∃ k : Nat, v10 = .int .i64 k ∧ k + gk = pl.length)
      case atStart => exact ⟨⟨Mod.refl _ _⟩, 0, rfl, by omega⟩
      case round =>
        obtain ⟨HM, k, rfl, hk⟩ := hrel
        by_cases hlt : k < pl.length
        · have hx0 : pl[k]? = some pl[k] := List.getElem?_eq_getElem (by omega)
          obtain ⟨x, hx⟩ : ∃ x, pl[k]? = some x := ⟨_, hx0⟩
          obtain ⟨b, o, rfl, _, _, f0, f1, _⟩ := HSV2.out.vr hx
          obtain ⟨b2, o2, rfl, _, _, g0, g1, _⟩ := HSW.out.vr hx
          have HCR : Hd (∀ w', Mod (fun _ => False) w10 w' → w'.cell? ⟨b, o + k * 2, none⟩ = some (.string x.name) ∧ w'.cell? ⟨b, o + k * 2 + 1, none⟩ = some (.string x.type) ∧ w'.cell? ⟨b2, o2 + k * 2, none⟩ = some (.string x.name) ∧ w'.cell? ⟨b2, o2 + k * 2 + 1, none⟩ = some (.string x.type)) := ⟨fun w' h => ⟨h.cell' f0, h.cell' f1, h.cell' g0, h.cell' g1⟩⟩
          clear hx hx0 f0 f1 g0 g1
          repeat (gi_not_at_region 19; first | go_values | gi_guarded | gi_step | gi_upon | gi_back)
          refine wpIn_region_quiet (C := fun w' => Mod (fun _ => False) w10 w') rfl (by kernel_rfl) (by kernel_rfl) (HM.out.trans (Mod.drew _ _) (fun _ h => Or.inl h)) ?_
          simp only [List.toList_toArray]
          gi_big_quiet_want
          refine ⟨.slice (some ⟨b, o, none⟩) pl.length cv, fun w hw => ?_, ?_⟩
          · obtain ⟨s0, s1, s2, s3⟩ := HCR.out w hw
            unfold Oper.quietAtIn
            go_simp
          go_big_quiet_on
          try simp only [Act.put, List.setIfInBounds_toArray, List.set_cons_zero, List.set_cons_succ]
          gi_big_quiet_want
          refine ⟨.int .i64 (k : Int), fun w hw => ?_, ?_⟩
          · obtain ⟨s0, s1, s2, s3⟩ := HCR.out w hw
            unfold Oper.quietAtIn
            go_simp
          go_big_quiet_on
          try simp only [Act.put, List.setIfInBounds_toArray, List.set_cons_zero, List.set_cons_succ]
          gi_big_quiet_want
          refine ⟨.pointer (some ⟨b, o + k * 2, none⟩), fun w hw => ?_, ?_⟩
          · obtain ⟨s0, s1, s2, s3⟩ := HCR.out w hw
            unfold Oper.quietAtIn
            go_simp
          go_big_quiet_on
          try simp only [Act.put, List.setIfInBounds_toArray, List.set_cons_zero, List.set_cons_succ]
          gi_big_quiet_want
          refine ⟨.agg #[.string x.name, .string x.type], fun w hw => ?_, ?_⟩
          · obtain ⟨s0, s1, s2, s3⟩ := HCR.out w hw
            unfold Oper.quietAtIn
            go_simp
          go_big_quiet_on
          try simp only [Act.put, List.setIfInBounds_toArray, List.set_cons_zero, List.set_cons_succ]
          gi_big_quiet_want
          refine ⟨.slice (some ⟨b2, o2, none⟩) pl.length cw, fun w hw => ?_, ?_⟩
          · obtain ⟨s0, s1, s2, s3⟩ := HCR.out w hw
            unfold Oper.quietAtIn
            go_simp
          go_big_quiet_on
          try simp only [Act.put, List.setIfInBounds_toArray, List.set_cons_zero, List.set_cons_succ]
          gi_big_quiet_want
          refine ⟨.int .i64 (k : Int), fun w hw => ?_, ?_⟩
          · obtain ⟨s0, s1, s2, s3⟩ := HCR.out w hw
            unfold Oper.quietAtIn
            go_simp
          go_big_quiet_on
          try simp only [Act.put, List.setIfInBounds_toArray, List.set_cons_zero, List.set_cons_succ]
          gi_big_quiet_want
          refine ⟨.pointer (some ⟨b2, o2 + k * 2, none⟩), fun w hw => ?_, ?_⟩
          · obtain ⟨s0, s1, s2, s3⟩ := HCR.out w hw
            unfold Oper.quietAtIn
            go_simp
          go_big_quiet_on
          try simp only [Act.put, List.setIfInBounds_toArray, List.set_cons_zero, List.set_cons_succ]
          gi_big_quiet_want
          refine ⟨.agg #[.string x.name, .string x.type], fun w hw => ?_, ?_⟩
          · obtain ⟨s0, s1, s2, s3⟩ := HCR.out w hw
            unfold Oper.quietAtIn
            go_simp
          go_big_quiet_on
          try simp only [Act.put, List.setIfInBounds_toArray, List.set_cons_zero, List.set_cons_succ]
          gi_big_quiet_want
          refine ⟨.bool false, fun w hw => ?_, ?_⟩
          · obtain ⟨s0, s1, s2, s3⟩ := HCR.out w hw
            unfold Oper.quietAtIn
            go_simp
          go_big_quiet_on
          try simp only [Act.put, List.setIfInBounds_toArray, List.set_cons_zero, List.set_cons_succ]
          refine wpQuietIn_nil ?_
          intro wd hwd
          have HD : Hd _ := ⟨hwd⟩
          clear hwd
          gi_wp2_with fail
          gi_roundg (gk - 1)
          case measure => omega
          case rel => exact ⟨HD, k + 1, by go_num, by omega⟩
        · have HWV : Hd (Mod (fun _ => False) W w10) := ⟨HWW.out.trans HM10.out (fun _ h => Or.inl h)⟩
          have HFA : Hd (∀ w, Mod (fun _ => False) w10 w → _) := ⟨fun w hw => Find_ans HSV2.out s w hw⟩
          have HFB : Hd (∀ w, Mod (fun _ => False) w10 w → Calls Tryz.prog 31 #[.slice ow pl.length cw, .string s] w fun e w' => e = .returned (.int .i64 (findI pl s)) ∧ Mod (fun _ => False) w w') := ⟨fun w hw => (rFind_q (HSW.out.keep (hw.kp _) (fun _ _ h => h)) s).mono fun e w' h => ⟨h.1, by rw [h.2]; exact Mod.refl _ _⟩⟩
          obtain ⟨fx, hfx⟩ : ∃ fx, findI pl s = fx := ⟨_, rfl⟩
          rw [hfx] at HFA HFB
          have HCC : Hd (∀ w', Mod (fun _ => False) w10 w' → w'.cell? ⟨W.heap.size, 0, none⟩ = some (.int .i64 f.pos) ∧ w'.cell? ⟨W.heap.size, 1, none⟩ = some (.string f.name) ∧ w'.cell? ⟨W.heap.size, 2, none⟩ = some (.slice oa la ca) ∧ w'.cell? ⟨W.heap.size, 3, none⟩ = some (.slice ob lb cb) ∧ w'.cell? ⟨W.heap.size, 4, none⟩ = some (.string f.result) ∧ w'.cell? ⟨W.heap.size, 5, none⟩ = some (.slice oc lc cc)) := ⟨fun w' h => by
            obtain ⟨_, _, h1, h2, h3, h4, h5, h6, _, _⟩ := HCL.out w' (HM10.out.trans h (fun _ h => Or.inl h))
            exact ⟨h1, h2, h3, h4, h5, h6⟩⟩
          have HST : Hd (∀ w' u, Mod (fun _ => False) w10 w' → (w'.setCell ⟨W.heap.size + 1, 0, none⟩ u).cell? ⟨W.heap.size, 0, none⟩ = some (.int .i64 f.pos) ∧ (w'.setCell ⟨W.heap.size + 1, 0, none⟩ u).cell? ⟨W.heap.size, 1, none⟩ = some (.string f.name) ∧ (w'.setCell ⟨W.heap.size + 1, 0, none⟩ u).cell? ⟨W.heap.size, 2, none⟩ = some (.slice oa la ca) ∧ (w'.setCell ⟨W.heap.size + 1, 0, none⟩ u).cell? ⟨W.heap.size, 3, none⟩ = some (.slice ob lb cb) ∧ (w'.setCell ⟨W.heap.size + 1, 0, none⟩ u).cell? ⟨W.heap.size, 4, none⟩ = some (.string f.result) ∧ (w'.setCell ⟨W.heap.size + 1, 0, none⟩ u).cell? ⟨W.heap.size, 5, none⟩ = some (.slice oc lc cc)) := ⟨fun w' u h => by
            obtain ⟨h1, h2, h3, h4, h5, h6⟩ := HCC.out w' h
            refine ⟨?_, ?_, ?_, ?_, ?_, ?_⟩
            all_goals rw [World.cell?_setCell_other _ _ _ _ (by intro h; simp only [Addr.mk.injEq] at h; omega)]; assumption⟩
          clear hfx
          repeat (gi_not_at_region 21; first | go_values | gi_guarded | gi_step | gi_upon | gi_back)
          refine wpIn_wide.2 ?_
          have TOK0 : True := trivial
          go_region_held3 (fun w' => w'.cell? ⟨W.heap.size, 0, none⟩ = some (.int .i64 f.pos) ∧ w'.cell? ⟨W.heap.size, 1, none⟩ = some (.string f.name) ∧ w'.cell? ⟨W.heap.size, 2, none⟩ = some (.slice oa la ca) ∧ w'.cell? ⟨W.heap.size, 3, none⟩ = some (.slice ob lb cb) ∧ w'.cell? ⟨W.heap.size, 4, none⟩ = some (.string f.result) ∧ w'.cell? ⟨W.heap.size, 5, none⟩ = some (.slice oc lc cc)) (first | with_reducible exact HST.out _ _ Hwq3.out | with_reducible exact HCC.out _ Hwq3.out | with_reducible exact HCC.out _ Hwq2.out | with_reducible exact HCC.out _ Hwq1.out | with_reducible exact HCC.out _ Hwq0.out | with_reducible exact HCC.out _ (HM.out.trans (Mod.drew _ _) (fun _ h => Or.inl h))) (first
    | (clear TOK0
       go_at_call 30
       refine (Calls.at' (HFA.out _ (HM.out.trans (Mod.drew _ _) (fun _ h => Or.inl h))) (by with_reducible rfl)).mono ?_
       rintro e wq0 ⟨rfl, hM⟩
       have Hwq0 : Hd (Mod (fun _ => False) w10 wq0) := ⟨(HM.out.trans (Mod.drew _ _) (fun _ h => Or.inl h)).trans hM (fun _ h => Or.inl h)⟩
       clear hM
       have TOK1 : True := trivial)
    | (clear TOK1
       go_at_call 31
       refine (Calls.at' (HFB.out _ Hwq0.out) (by with_reducible rfl)).mono ?_
       rintro e wq1 ⟨rfl, hM⟩
       have Hwq1 : Hd (Mod (fun _ => False) w10 wq1) := ⟨Hwq0.out.trans hM (fun _ h => Or.inl h)⟩
       clear hM
       have TOK2 : True := trivial)
    | (clear TOK2
       go_at_call 32
       refine (Calls.at' (HBA.out _ (HWV.out.trans Hwq1.out (fun _ h => Or.inl h))) (by with_reducible rfl)).mono ?_
       rintro e wq2 ⟨rfl, hM⟩
       have Hwq2 : Hd (Mod (fun _ => False) w10 wq2) := ⟨Hwq1.out.trans hM (fun _ h => Or.inl h)⟩
       clear hM
       have TOK3 : True := trivial)
    | (clear TOK3
       go_at_call 33
       refine (Calls.at' (HBB.out _ (HWV.out.trans Hwq2.out (fun _ h => Or.inl h))) (by with_reducible rfl)).mono ?_
       rintro e wq3 ⟨rfl, hM⟩
       have Hwq3 : Hd (Mod (fun _ => False) w10 wq3) := ⟨Hwq2.out.trans hM (fun _ h => Or.inl h)⟩
       clear hM
       obtain ⟨_, _, _, _, _, _, _, _, u8, u9⟩ := HCL.out wq3 (HM10.out.trans Hwq3.out (fun _ h => Or.inl h))
       have TOK4 : True := trivial))
          all_goals
            gi_wp2_with fail
            have hKd := ((HM10.out.trans Hwq3.out (fun _ h => Or.inl h)).block D (Array.getElem?_eq_some_iff.1 HK8.out).1 (fun h => h)).trans HK8.out
            have hK2 : (wq3.setCell ⟨W.heap.size + 1, 0, none⟩ (.bool true)).heap[D]? = some (.deferred (some [])) := heap_setCell_far _ hKd (by have := HD2.out; omega)
            have hMS : Mod (fun _ => False) W (wq3.setCell ⟨W.heap.size + 1, 0, none⟩ (.bool true)) := Mod.setNew (HWV.out.trans Hwq3.out (fun _ h => Or.inl h)) _ _ (by simp)
            have hr : ((wq3.setCell ⟨W.heap.size + 1, 0, none⟩ (.bool true)).putObj D (.deferred none)).cell? ⟨W.heap.size + 1, 0, none⟩ = some (.bool true) := by
              rw [World.cell?_of_block (w := wq3.setCell ⟨W.heap.size + 1, 0, none⟩ (.bool true)) (World.putObj_heap_other (by have := HD2.out; simp; omega))]
              exact World.cell?_setCell_same' _ _ _ (by rw [u8]; rfl)
            have hg := grownBy_putObj' (wq3.setCell ⟨W.heap.size + 1, 0, none⟩ (.bool true)) D (.deferred none)
            refine ⟨by simp, .inl ⟨_, _, rfl, run_takeDeferred hK2, ?_⟩⟩
            refine ⟨.bool true, ?_, rfl, ?_⟩
            · simp [results, Tryz.f6, go_sem, hr]
            · exact hMS.trans (⟨hg.os, hg.tape, hg.output, hg.size, fun k hk hn => hg.block k hk (fun e => hn (Option.some.inj e))⟩ : Mod (fun k => k = D) _ _) (fun i hi => Or.inr (by subst hi; have := HD2.out; omega))
end Go.Proofs.YtpodeccpibnlbaaGreatDoor
