/- agree: the slab has the pieces that the document says: by its walk. -/
import Derived.Test.YtpgoogjaoffdoaaSim2
import Derived.Test.YtpgoogjaoffdoaaLaw
namespace Go.Proofs.Ytpgoogjaoffdoaa
set_option linter.unusedVariables false
set_option linter.unusedSimpArgs false
open Go.RowKit Go.Shelf

attribute [local go_sem] Oper.semAt_some

theorem Mod.of_below {w w' : World} (h : Below w.heap.size w w') : Mod (fun _ => False) w w' := ⟨h.os, h.tape, h.output, h.size, fun k hk _ => h.block k hk⟩
theorem Mod.grown {S : Nat → Prop} {w A B : World} {row : Option Nat} (h : Mod S w A) (hg : A.grownBy B row) (hr : ∀ r, row = some r → w.heap.size ≤ r) : Mod S w B := by
  refine ⟨hg.os.trans h.os, hg.tape.trans h.tape, hg.output.trans h.output, Nat.le_trans h.size hg.size, fun k hk hS => ?_⟩
  have hs := h.size
  rw [hg.block k (by omega) (fun e => by have := hr k e.symm; omega)]
  exact h.block k hk hS

theorem four (w : World) (A B C D : Obj) : Mod (fun _ => False) w ((((w.alloc A).alloc B).alloc C).alloc D) ∧ ((((w.alloc A).alloc B).alloc C).alloc D).heap[w.heap.size]? = some A ∧
    ((((w.alloc A).alloc B).alloc C).alloc D).heap[w.heap.size + 1]? = some B ∧ ((((w.alloc A).alloc B).alloc C).alloc D).heap[w.heap.size + 1 + 1]? = some C ∧ ((((w.alloc A).alloc B).alloc C).alloc D).heap[w.heap.size + 1 + 1 + 1]? = some D ∧ ((((w.alloc A).alloc B).alloc C).alloc D).heap.size = w.heap.size + 1 + 1 + 1 + 1 := by
  obtain ⟨t1, t2, t3, t4⟩ := three w A B C
  refine ⟨(((Mod.alloc (fun _ => False) w A).trans (Mod.alloc (fun _ => False) _ B) (fun _ h => Or.inl h)).trans (Mod.alloc (fun _ => False) _ C) (fun _ h => Or.inl h)).trans (Mod.alloc (fun _ => False) _ D) (fun _ h => Or.inl h), ?_, ?_, ?_, ?_, by simp⟩
  · rw [Below.heap_alloc _ _ _ (by simp; omega)]; exact t2
  · rw [Below.heap_alloc _ _ _ (by simp)]; exact t3
  · rw [Below.heap_alloc _ _ _ (by simp)]; exact t4
  · have := heap_alloc_new (((w.alloc A).alloc B).alloc C) D
    simpa using this

/-- What the iterator's body finds, and what it leaves. -/
structure AgI (wL : World) (A7 : Nat) (ps : List (Nat × Nat)) (pre : List (Nat × Nat)) (w' : World) : Prop where
  mod : Mod (fun k => k = A7) wL w'
  box : w'.heap[A7]? = some (.cells #[.int .i64 (pre.length : Int)] 3 (0, 0))
  pre : pre <+: ps

theorem AgI.own {wL : World} {A7 : Nat} {ps : List (Nat × Nat)} (hA : A7 < wL.heap.size) {pre : List (Nat × Nat)} {A B : World} {row : Option Nat} (h : AgI wL A7 ps pre A) (hg : A.grownBy B row) (hr : ∀ r, row = some r → wL.heap.size ≤ r) : AgI wL A7 ps pre B :=
  ⟨h.mod.grown hg hr, (hg.block A7 (by have := h.mod.size; omega) (fun e => by have := hr A7 e.symm; omega)).trans h.box, h.pre⟩

theorem prefix_snoc {ps pre : List (Nat × Nat)} {x : Nat × Nat} (h : pre <+: ps) (hx : ps[pre.length]? = some x) : pre ++ [x] <+: ps := by
  obtain ⟨t, rfl⟩ := h
  rw [List.getElem?_append_right (Nat.le_refl _), Nat.sub_self] at hx
  cases t with
  | nil => simp at hx
  | cons y t =>
    simp at hx
    subst hx
    exact ⟨t, by simp⟩
theorem prefix_get {ps pre : List (Nat × Nat)} {x : Nat × Nat} (h : pre ++ [x] <+: ps) : ps[pre.length]? = some x := by
  obtain ⟨t, rfl⟩ := h
  simp

set_option maxRecDepth 100000 in
set_option maxHeartbeats 4000000 in
theorem agree_in {W : World} {b1 b2 : Nat} {s : SS} {r : RSS} {own1 : Nat → Option Rl} {own2 : Nat → Option Rr} {N : Nat} (h1 : Rep W b1 s own1) (hW : s.WF N) (h2 : RRep W b2 r own2) (hO : r.Ok N) (hS : Sim s r) :
    CallsIn Fence.wide 10 Try.prog 12 #[.pointer (some ⟨b1, 0, none⟩), .pointer (some ⟨b2, 0, none⟩)] W fun e w' => e = .returned (.bool true) ∧ Below W.heap.size W w' := by
  obtain ⟨L2, hr2⟩ := h2
  have H1 : Hd _ := ⟨h1⟩
  have H2 : Hd _ := ⟨hr2⟩
  have HW : Hd _ := ⟨hW⟩
  have HO : Hd _ := ⟨hO⟩
  have HS : Hd _ := ⟨hS⟩
  have hbW : b1 < W.heap.size := h1.dom b1 (by obtain ⟨L, h⟩ := h1; rw [h.ob]; simp)
  have hb2 : b2 < W.heap.size := hr2.dom b2 (by rw [hr2.ob]; simp)
  clear h1 hr2 hW hO hS
  refine callsIn_of_wp_marks Try.func12 rfl trivial ?_ rfl
  simp only [Try.ntmps12, List.size_toArray, List.length_cons, List.length_nil, Nat.reduceAdd, Nat.reduceSub, Array.replicate_succ, Array.replicate_zero, List.push_toArray, List.append_toArray, List.nil_append, List.cons_append]
  gi_wp2_with fail
  refine ⟨trivial, ?_⟩
  refine (callsIn_wide.2 (rall_calls (H2.out.mod (Mod.alloc _ W (.cells #[.bool false] 4))) HO.out)).mono ?_
  rintro e w1 ⟨ga, ca, gs, cs, rfl, hA⟩
  have HA : Hd _ := ⟨hA⟩
  clear hA
  gi_wp2_with fail
  refine ⟨trivial, ?_⟩
  refine (callsIn_wide.2 (all_any _ _)).mono ?_
  rintro e w15 ⟨rfl, rfl⟩
  have hF := four w1 (.cells #[.slice (some ⟨ga, 0, none⟩) r.all.length ca] 34) (.cells #[.slice (some ⟨gs, 0, none⟩) r.all.length cs] 41) (.cells #[.int .i64 0] 3) (.cells #[.pointer (some ⟨b1, 0, none⟩)] 27)
  have hall : r.all = s.pieces := HS.out.all HW.out
  rw [hall] at hF
  rw [hall] at HA
  obtain ⟨len, hlen⟩ : ∃ len, s.pieces.length = len := ⟨_, rfl⟩
  rw [hall, hlen]
  rw [hlen] at hF
  have hM1 := HA.out.mod
  have hs1 := hM1.size
  simp only [World.size_alloc] at hs1
  have hML : Mod (fun _ => False) W ((((w1.alloc (.cells #[.slice (some ⟨ga, 0, none⟩) len ca] 34)).alloc (.cells #[.slice (some ⟨gs, 0, none⟩) len cs] 41)).alloc (.cells #[.int .i64 0] 3)).alloc (.cells #[.pointer (some ⟨b1, 0, none⟩)] 27)) :=
    ((Mod.alloc (fun _ => False) W (.cells #[.bool false] 4)).trans hM1 (fun _ h => h.elim)).trans hF.1 (fun _ h => h.elim)
  have HML : Hd _ := ⟨hML⟩
  have HF : Hd _ := ⟨hF⟩
  have HLEN : Hd _ := ⟨hlen⟩
  have HALL : Hd _ := ⟨hall⟩
  have hR4 : w1.heap[W.heap.size]? = some (.cells #[.bool false] 4 (0, 0)) := (hM1.block W.heap.size (by simp) (fun h => h)).trans (heap_alloc_new W _)
  have HR4 : Hd _ := ⟨hR4⟩
  clear hML hF hlen hall hM1 hR4
  gi_wp2_with fail
  apply wpIn_rangeFunc_ownF (α := Nat × Nat) (n := 10) (gf := 42) (lb := #[.pointer (some ⟨w1.heap.size + 1 + 1 + 1, 0, none⟩)]) rfl (by omega) ?hg trivial (enters_of Try.func42 (by kernel_rfl) rfl)
    (all_stops 9 (by omega) (fun k => k = w1.heap.size + 1 + 1 ∨ k = W.heap.size) (H1.out.keep HML.out.size (fun k hk => HML.out.block k (H1.out.dom k hk) (fun h => h))) HW.out ?hbx ?hc) (fun h k => KC.trans h k) (fun W l o o' _ h ho _ => KC.putObj W l o o' h ho) (Below.refl _ _) (fun _ => rfl)
    (fun pre w' => AgI _ (w1.heap.size + 1 + 1) s.pieces pre w')
    (fun _ pre _ => ¬ pre <+: s.pieces)
  case hg => rfl
  case hbx => simp only [World.cell?, HF.out.2.2.2.2.1]; rfl
  case hc => intro k hk; rw [HF.out.2.2.2.2.2]; omega
  case hI =>
    rintro pre A B row hE hg hr
    exact hE.own (by rw [HF.out.2.2.2.2.2]; omega) hg (fun r e => (hr r e).1)
  case hIx => exact fun c pre A B row hs _ _ => hs
  case h0 => exact ⟨Mod.refl _ _, HF.out.2.2.2.1, List.nil_prefix⟩
  case hassign =>
    intro l x W2 K hK
    simp only [encP2]
    gi_wp2
    exact hK
  case hbody =>
    rintro l pre x W' hE hlenN
    have hnp := HW.out.nplaces
    have hNb := HW.out.bound
    obtain ⟨x1, x2⟩ := x
    obtain ⟨i, hi⟩ : ∃ i, pre.length = i := ⟨_, rfl⟩
    have HI : Hd _ := ⟨hi⟩
    have HE : Hd _ := ⟨hE⟩
    have hbx := hE.box
    rw [hi] at hbx hlenN
    have cm : W'.cell? ⟨w1.heap.size + 1 + 1, 0, none⟩ = some (.int .i64 (i : Int)) := by simp [World.cell?, hbx]
    have fm : W'.frozen? ⟨w1.heap.size + 1 + 1, 0, none⟩ = false := by simp [World.frozen?, hbx]
    have hLs := HF.out.2.2.2.2.2
    have c5 : W'.cell? ⟨w1.heap.size, 0, none⟩ = some (.slice (some ⟨ga, 0, none⟩) len ca) := by simp [World.cell?, (hE.mod.block w1.heap.size (by omega) (by omega)).trans HF.out.2.1]
    have c6 : W'.cell? ⟨w1.heap.size + 1, 0, none⟩ = some (.slice (some ⟨gs, 0, none⟩) len cs) := by simp [World.cell?, (hE.mod.block (w1.heap.size + 1) (by omega) (by omega)).trans HF.out.2.2.1]
    have hr4 := (hE.mod.block W.heap.size (by omega) (by omega)).trans ((HF.out.1.block W.heap.size (by omega) (fun h => h)).trans HR4.out)
    have cr : W'.cell? ⟨W.heap.size, 0, none⟩ = some (.bool false) := by simp [World.cell?, hr4]
    have fr : W'.frozen? ⟨W.heap.size, 0, none⟩ = false := by simp [World.frozen?, hr4]
    have hgal := HA.out.sa.lt rfl
    have hgsl := HA.out.ss.lt rfl
    have hca := HA.out.sa.le
    have hcs := HA.out.ss.le
    rw [HLEN.out] at hca hcs
    have hcell : ∀ (g j : Nat) (v : Value), g < w1.heap.size → w1.cell? ⟨g, j, none⟩ = some v → W'.cell? ⟨g, j, none⟩ = some v := fun g j v hg hv => by
      rw [← hv]
      simp only [World.cell?]
      rw [(hE.mod.block g (by omega) (by omega)).trans (HF.out.1.block g hg (fun h => h))]
    have HB : Hd _ := ⟨hbx⟩
    by_cases hlt : i < len
    · obtain ⟨⟨pa, pn⟩, hp⟩ : ∃ y, s.pieces[i]? = some y := ⟨_, List.getElem?_eq_getElem (by rw [HLEN.out]; exact hlt)⟩
      have d1 : W'.cell? ⟨ga, i, none⟩ = some (.int .u64 (pa : Int)) := hcell _ _ _ hgal (HA.out.sa.cell rfl (by simp [encA', hp]))
      have d2 : W'.cell? ⟨gs, i, none⟩ = some (.int .i64 (pn : Int)) := hcell _ _ _ hgsl (HA.out.ss.cell rfl (by simp [encN, hp]))
      have HP : Hd _ := ⟨hp⟩
      clear hE hbx hi hr4 hcell hp hLs hgal hgsl
      by_cases e1 : x1 = pa
      · by_cases e2 : x2 = pn
        · subst e1; subst e2
          gi_wp2
          refine ⟨KeepsOthers.setCell _ _ _, KC.setCell _ _ _ (Or.inl rfl), HE.out.mod.trans (Mod.setCell (S := fun k => k = w1.heap.size + 1 + 1) W' _ _ rfl) (fun _ h => Or.inl h), ?_, prefix_snoc HE.out.pre (by rw [HI.out]; exact HP.out)⟩
          rw [heap_setCell_at HB.out, List.length_append, HI.out]
          simp
        · have ht : ((x2 : Int) != (pn : Int)) = true := by rw [bne_iff_ne]; omega
          subst e1
          have HN : Hd (¬ (pre ++ [(x1, x2)] <+: s.pieces)) := ⟨fun hc => by have := prefix_get hc; rw [HI.out, HP.out] at this; exact e2 (congrArg Prod.snd (Option.some.inj this)).symm⟩
          clear e2
          gi_wp2
          exact ⟨KeepsOthers.setCell _ _ _, HN.out⟩
      · have ht : ((x1 : Int) != (pa : Int)) = true := by rw [bne_iff_ne]; omega
        have HN : Hd (¬ (pre ++ [(x1, x2)] <+: s.pieces)) := ⟨fun hc => by have := prefix_get hc; rw [HI.out, HP.out] at this; exact e1 (congrArg Prod.fst (Option.some.inj this)).symm⟩
        clear e1
        gi_wp2
        exact ⟨KeepsOthers.setCell _ _ _, HN.out⟩
    · have HN : Hd (¬ (pre ++ [(x1, x2)] <+: s.pieces)) := ⟨fun hc => by have := prefix_get hc; rw [HI.out, List.getElem?_eq_none (by rw [HLEN.out]; omega)] at this; cases this⟩
      clear hE hbx hi hr4 hcell hLs hgal hgsl
      gi_wp2
      exact ⟨KeepsOthers.setCell _ _ _, HN.out⟩
  case hdone =>
    rintro D xs W' hD rfl hE hK
    have hLs := HF.out.2.2.2.2.2
    have hbx := hE.box
    have hL0 := HLEN.out
    rw [hL0] at hbx
    have cm : W'.cell? ⟨w1.heap.size + 1 + 1, 0, none⟩ = some (.int .i64 (len : Int)) := by simp [World.cell?, hbx]
    have c5 : W'.cell? ⟨w1.heap.size, 0, none⟩ = some (.slice (some ⟨ga, 0, none⟩) len ca) := by simp [World.cell?, (hE.mod.block w1.heap.size (by omega) (by omega)).trans HF.out.2.1]
    have hr4 := (hE.mod.block W.heap.size (by omega) (by omega)).trans ((HF.out.1.block W.heap.size (by omega) (fun h => h)).trans HR4.out)
    have cr : W'.cell? ⟨W.heap.size, 0, none⟩ = some (.bool false) := by simp [World.cell?, hr4]
    have fr : W'.frozen? ⟨W.heap.size, 0, none⟩ = false := by simp [World.frozen?, hr4]
    have hMW : Mod (fun _ => False) W W' := HML.out.trans hE.mod (fun k hk => Or.inr (by rw [hk]; omega))
    have hR1' : Rep W' b1 s own1 := H1.out.keep hMW.size fun k hk => hMW.block k (H1.out.dom k hk) (fun h => h)
    have hR2' := H2.out.mod hMW
    obtain ⟨L1, hR1''⟩ := hR1'
    have HL : Hd _ := ⟨(live_calls hR1'').mono (fun _ _ h => (⟨h.1, h.2.symm⟩ : _ ∧ W' = _))⟩
    have HUs : Hd _ := ⟨(used_calls hR1'').mono (fun _ _ h => (⟨h.1, h.2.symm⟩ : _ ∧ W' = _))⟩
    have HRL : Hd _ := ⟨rlive_calls hR2' HO.out⟩
    have HRU : Hd _ := ⟨rused_calls hR2' HO.out⟩
    rw [HS.out.live] at HRL
    rw [HS.out.used] at HRU
    obtain ⟨sl, hsl⟩ : ∃ sl, s.live = sl := ⟨_, rfl⟩
    obtain ⟨su, hsu⟩ : ∃ su, s.used = su := ⟨_, rfl⟩
    rw [hsl] at HL HRL
    rw [hsu] at HUs HRU
    have HK : Hd _ := ⟨hK⟩
    have HD : Hd _ := ⟨hD⟩
    have HMW : Hd _ := ⟨hMW⟩
    have HB4 : Hd _ := ⟨hr4⟩
    clear hE hLs hbx hL0 hr4 hMW hR2' hR1'' hsl hsu hK hD
    gi_wp2_with fail
    refine ⟨trivial, ?_⟩
    refine (callsIn_wide.2 HL.out).mono ?_
    rintro e w16 ⟨rfl, rfl⟩
    gi_wp2_with fail
    refine ⟨trivial, ?_⟩
    refine (callsIn_wide.2 HRL.out).mono ?_
    rintro e w16 ⟨rfl, rfl⟩
    gi_wp2_with fail
    refine ⟨trivial, ?_⟩
    refine (callsIn_wide.2 HUs.out).mono ?_
    rintro e w16 ⟨rfl, rfl⟩
    gi_wp2_with fail
    refine ⟨trivial, ?_⟩
    refine (callsIn_wide.2 HRU.out).mono ?_
    rintro e w16 ⟨rfl, rfl⟩
    gi_wp2_with fail
    have hKs := (KeepsOthers.setCell W' ⟨W.heap.size, 0, none⟩ (.bool true)).same D _ HK.out rfl
    have hc4 : (W'.setCell ⟨W.heap.size, 0, none⟩ (.bool true)).cell? ⟨W.heap.size, 0, none⟩ = some (.bool true) := by
      simp [World.cell?, heap_setCell_at HB4.out]
    have hBl : Below W.heap.size W (W'.setCell ⟨W.heap.size, 0, none⟩ (.bool true)) := (HMW.out.below (Nat.le_refl _) (fun k _ h => h)).setCell (Nat.le_refl _) _
    refine ⟨by simp, .inl ⟨_, _, rfl, run_takeDeferred hKs, ?_⟩⟩
    have hc5 := cell_kept hc4 (grownBy_putObj' _ D (.deferred none)) (fun r e => by cases e; exact ⟨_, hKs, rfl⟩)
    refine ⟨.bool true, ?_, rfl, hBl.trans (belowK_b (w := W) (Nat.le_refl _) _ D _ _ ?_ hKs rfl rfl)⟩
    · simp [results, Try.f12, go_sem, hc5]
    · have := HD.out; rw [HF.out.2.2.2.2.2] at this; omega
  case hstop =>
    rintro D c pre W' _ hpre hne _
    exact absurd hpre hne

theorem agree_calls {w : World} {b1 b2 : Nat} {s : SS} {r : RSS} {own1 : Nat → Option Rl} {own2 : Nat → Option Rr} {N : Nat} (h1 : Rep w b1 s own1) (hW : s.WF N) (h2 : RRep w b2 r own2) (hO : r.Ok N) (hS : Sim s r) :
    Calls Try.prog 12 #[.pointer (some ⟨b1, 0, none⟩), .pointer (some ⟨b2, 0, none⟩)] w fun e w' => e = .returned (.bool true) ∧ Mod (fun _ => False) w w' :=
  (callsIn_wide.1 (agree_in h1 hW h2 hO hS)).mono fun e w' h => ⟨h.1, Mod.of_below h.2⟩
end Go.Proofs.Ytpgoogjaoffdoaa
