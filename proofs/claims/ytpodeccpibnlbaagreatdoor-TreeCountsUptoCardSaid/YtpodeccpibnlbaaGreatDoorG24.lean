/- The law's 'alive': it answers true, and leaves all that was there. -/
import Derived.Test.YtpodeccpibnlbaaGreatDoorG23
import Derived.WalkKit
import Derived.OwnWalkIn
import Derived.TacticsInMore
import Derived.LoopNIn
import Derived.LoopIn
import Derived.Stop.RegionWithIn
import Derived.Sort.QuietIn
import Derived.Sort.CutIn
import Derived.Deep.RegionHeld3
namespace Go.Proofs.YtpodeccpibnlbaaGreatDoor
set_option linter.unusedVariables false
set_option linter.unusedSimpArgs false
open Go.RowKit Go.Shelf

attribute [local go_sem] Oper.semAt_some

theorem sm_tXSA : Sm tXSA := by unfold Sm; decide
theorem sm_tXDA : Sm tXDA := by unfold Sm; decide
theorem plV.narrow {S : Nat → Prop} {w : World} {v : Value} {p : Pl} (h : plV S w v p) : plV (fun b => b < w.heap.size) w v p := h.keep (fun b _ hl => ⟨hl, hl, rfl⟩)
theorem plV.mod {S : Nat → Prop} {w w' : World} {v : Value} {p : Pl} (h : plV S w v p) (hm : Mod (fun _ => False) w w') : plV S w' v p := h.keep (hm.kp S)
theorem Has.new (w : World) (o : Obj) : Has (w.alloc o) [(w.heap.size, o)] := fun p hp => by
  simp only [List.mem_singleton] at hp
  subst hp
  exact heap_alloc_new w o
theorem Has.hd {w : World} {k : Nat} {o : Obj} {L : List (Nat × Obj)} (h : Has w ((k, o) :: L)) : w.heap[k]? = some o := h _ (List.mem_cons_self)
theorem cell_of {w : World} {k j : Nat} {cs : Array Value} {t : TypeId} {fr : Nat × Nat} {v : Value} (h : w.heap[k]? = some (.cells cs t fr)) (hv : cs[j]? = some v) : w.cell? ⟨k, j, none⟩ = some v := by simp [World.cell?, h, hv]
theorem frozen_of {w : World} {k : Nat} {cs : Array Value} {t : TypeId} (h : w.heap[k]? = some (.cells cs t (0, 0))) (j : Nat) : w.frozen? ⟨k, j, none⟩ = false := by simp [World.frozen?, h]
theorem x_pl (S : Nat → Prop) (w : World) : plV S w (.agg #[.string { data := #[120] }, .slice none 0 0]) ⟨tX, []⟩ := ⟨sm_tX, none, 0, 0, rfl, .nil_⟩
theorem text_xsa' : textI pXSA = { data := #[120, 46, 42, 46, 97] } := text_xsa
theorem small_5 {w : World} {b : Nat} (h : Has w (smallL b 5 0 (vs0 b))) : prgV (fun k => b + 2 ≤ k) w (smallV b) (smallP 5 0 vars0) := small_prg h i64_5 i64_0 (small_vs0 h)
theorem small_6 {w : World} {b : Nat} (h : Has w (smallL b 6 0 (vs0 b))) : prgV (fun k => b + 2 ≤ k) w (smallV b) (smallP 6 0 vars0) := small_prg h i64_6 i64_0 (small_vs0 h)
theorem small_9 {w : World} {b : Nat} (h : Has w (smallL b 5 9 (vs0 b))) : prgV (fun k => b + 2 ≤ k) w (smallV b) (smallP 5 9 vars0) := small_prg h i64_5 i64_9 (small_vs0 h)
theorem small_n {w : World} {b : Nat} (h : Has w (smallL b 5 0 (.slice none 0 0))) : prgV (fun k => b + 2 ≤ k) w (smallV b) (smallP 5 0 []) := small_prg h i64_5 i64_0 small_vsn
theorem prgV.mod {S : Nat → Prop} {w w' : World} {v : Value} {p : Prg} (h : prgV S w v p) (hm : Mod (fun _ => False) w w') : prgV S w' v p := h.keep (hm.kp S)
theorem prgV.wide {S : Nat → Prop} {w : World} {v : Value} {p : Prg} (h : prgV S w v p) : prgV (fun _ => True) w v p := h.keep (fun b _ hl => ⟨trivial, hl, rfl⟩)
theorem plV.wide {S : Nat → Prop} {w : World} {v : Value} {p : Pl} (h : plV S w v p) : plV (fun _ => True) w v p := h.keep (fun b _ hl => ⟨trivial, hl, rfl⟩)
theorem funV.wide {S : Nat → Prop} {w : World} {v : Value} {p : Fun} (h : funV S w v p) : funV (fun _ => True) w v p := h.keep (fun b _ hl => ⟨trivial, hl, rfl⟩)

theorem field36 (x y z : Option Addr) (w : World) : Sem.run Tryz.prog (Instr.field 36 (.agg #[.slice x 1 1, .slice y 1 1, .slice z 1 1]) 2) w = .ok (.slice z 1 1) w := by
  simp [Instr.field, go_sem, asAgg]
set_option maxRecDepth 100000 in
set_option maxHeartbeats 16000000 in
theorem alive_in (W : World) (hT : Tab W) {m : Int} (hm : W.cell? ⟨0, 0, none⟩ = some (.int .i64 m)) : CallsIn Fence.wide 10 Tryz.prog 9 #[] W fun e w' => e = .returned (.bool true) ∧ Mod (fun _ => False) W w' := by
  have HT : Hd _ := ⟨hT⟩
  have HM0 : Hd _ := ⟨hm⟩
  clear hT hm
  refine callsIn_of_wp_marks Tryz.func9 rfl trivial ?_ rfl
  simp only [Tryz.ntmps9, List.size_toArray, List.length_cons, List.length_nil, Nat.reduceAdd, Nat.reduceSub, Array.replicate_succ, Array.replicate_zero, List.push_toArray, List.append_toArray, List.nil_append, List.cons_append]
  gi_wp2_with fail
  refine ⟨trivial, ?_⟩
  refine (callsIn_wide.2 (Place_c (s := tXSA) HT.out HM0.out sm_tXSA W (Mod.refl _ _))).mono ?_
  rintro e w1 ⟨v1, rfl, hM, hv⟩
  rw [place_xsa] at hv
  rw [show ((PlaceI tXSA).2) = true from by rw [place_xsa]]
  have HP : Hd _ := ⟨hv.narrow⟩
  obtain ⟨_, o1, l1, c1, ev, hr⟩ := hv
  have hl : l1 = 2 := hr.hlen
  subst hl
  have ev' : v1 = .agg #[.string { data := #[120] }, .slice o1 2 c1] := ev
  subst ev'
  have HMW : Hd (Mod (fun _ => False) W w1) := ⟨hM⟩
  clear hM hr ev
  gi_wp2_with fail
  refine ⟨trivial, ?_⟩
  refine (callsIn_wide.2 (Place_c (s := tXDA) HT.out HM0.out sm_tXDA _ (HMW.out.trans (Mod.alloc _ _ (.cells #[.string { data := #[120] }, .slice o1 2 c1] 24)) (fun _ h => Or.inl h)))).mono ?_
  rintro e w2 ⟨v2, rfl, hM, hv⟩
  rw [place_xda] at hv
  rw [show ((PlaceI tXDA).2) = false from by rw [place_xda]]
  obtain ⟨_, o2, l2, c2, ev, hr⟩ := hv
  have hl : l2 = 0 := hr.hlen
  subst hl
  have ev' : v2 = .agg #[.string { data := #[] }, .slice o2 0 c2] := ev
  subst ev'
  have HB1 : Hd (Has w2 [(w1.heap.size, .cells #[.string { data := #[120] }, .slice o1 2 c1] 24)]) := ⟨(Has.new w1 _).mod hM⟩
  have hM' := (Mod.alloc (fun _ => False) w1 (.cells #[.string { data := #[120] }, .slice o1 2 c1] 24)).trans hM (fun _ h => Or.inl h)
  have HP2 : Hd _ := ⟨HP.out.mod hM'⟩
  have HMW2 : Hd (Mod (fun _ => False) W w2) := ⟨HMW.out.trans hM' (fun _ h => Or.inl h)⟩
  clear hM hM' hr ev HP HMW
  gi_wp2_with fail
  refine ⟨trivial, ?_⟩
  refine (callsIn_wide.2 (small_c _)).mono ?_
  rintro e w3 ⟨rfl, hM, hS⟩
  obtain ⟨b1, hb1⟩ : ∃ b, (w2.alloc (.cells #[.string { data := #[] }, .slice o2 0 c2] 24)).heap.size = b := ⟨_, rfl⟩
  rw [hb1] at hS ⊢
  have hM' := (Mod.alloc (fun _ => False) w2 (.cells #[.string { data := #[] }, .slice o2 0 c2] 24)).trans hM (fun _ h => Or.inl h)
  have HS1 : Hd _ := ⟨hS⟩
  have HB1b : Hd _ := ⟨HB1.out.mod hM'⟩
  have HP3 : Hd _ := ⟨HP2.out.mod hM'⟩
  have HMW3 : Hd (Mod (fun _ => False) W w3) := ⟨HMW2.out.trans hM' (fun _ h => Or.inl h)⟩
  have h11 := hS.at' (b1 + 11) _ (by simp [smallL]; rfl)
  have f0 : w3.cell? ⟨b1 + 11, 0, none⟩ = some (.int .i64 0) := cell_of h11 rfl
  have f1 : w3.cell? ⟨b1 + 11, 1, none⟩ = some (.string tMain) := cell_of h11 rfl
  have f2 : w3.cell? ⟨b1 + 11, 2, none⟩ = some (.slice none 0 0) := cell_of h11 rfl
  have f3 : w3.cell? ⟨b1 + 11, 3, none⟩ = some (.slice (some ⟨b1 + 6, 0, none⟩) 1 1) := cell_of h11 rfl
  have f4 : w3.cell? ⟨b1 + 11, 4, none⟩ = some (.string tInt) := cell_of h11 rfl
  have f5 : w3.cell? ⟨b1 + 11, 5, none⟩ = some (.slice (some ⟨b1 + 10, 0, none⟩) 1 1) := cell_of h11 rfl
  clear hM hM' hS h11 hb1 HB1 HP2 HMW2
  unfold smallV
  have hfld := field36
  gi_wp2_with fail
  refine ⟨trivial, ?_⟩
  refine (callsIn_wide.2 (small_c ((w3.alloc (.cells #[.int .i64 0, .string tMain, .slice none 0 0, .slice (some ⟨b1 + 6, 0, none⟩) 1 1, .string tInt, .slice (some ⟨b1 + 10, 0, none⟩) 1 1] 45)).alloc (.cells #[.int .i64 0] 3)))).mono ?_
  rintro e w4 ⟨rfl, hM, hS⟩
  obtain ⟨wp, hwp⟩ : ∃ wp, (w3.alloc (.cells #[.int .i64 0, .string tMain, .slice none 0 0, .slice (some ⟨b1 + 6, 0, none⟩) 1 1, .string tInt, .slice (some ⟨b1 + 10, 0, none⟩) 1 1] 45)) = wp := ⟨_, rfl⟩
  have HB5 : Hd (Has wp [(w3.heap.size, .cells #[.int .i64 0, .string tMain, .slice none 0 0, .slice (some ⟨b1 + 6, 0, none⟩) 1 1, .string tInt, .slice (some ⟨b1 + 10, 0, none⟩) 1 1] 45)]) := ⟨by rw [← hwp]; exact Has.new w3 _⟩
  have hMp : Mod (fun _ => False) w3 wp := by rw [← hwp]; exact Mod.alloc _ _ _
  have HS1p : Hd _ := ⟨HS1.out.mod hMp⟩
  have HB1p : Hd _ := ⟨HB1b.out.mod hMp⟩
  have HPp : Hd _ := ⟨HP3.out.mod hMp⟩
  have HMWp : Hd (Mod (fun _ => False) W wp) := ⟨HMW3.out.trans hMp (fun _ h => Or.inl h)⟩
  have HLp : Hd (w3.heap.size < wp.heap.size) := ⟨by rw [← hwp]; simp⟩
  have hsz : w3.heap.size + 1 = wp.heap.size := by rw [← hwp]; simp
  rw [hwp] at hM hS ⊢
  obtain ⟨b2, hb2⟩ : ∃ b, (wp.alloc (.cells #[.int .i64 0] 3)).heap.size = b := ⟨_, rfl⟩
  rw [hb2] at hS ⊢
  clear hb2
  have HN6 : Hd (w4.heap[wp.heap.size]? = some (.cells #[.int .i64 0] 3)) := ⟨(hM.block _ (lt1_0 _ _) (fun h => h)).trans (heap_alloc_new wp _)⟩
  have HM4 : Hd (Mod (fun _ => False) wp w4) := ⟨(Mod.alloc _ _ _).trans hM (fun _ h => Or.inl h)⟩
  have HR4 : Hd _ := ⟨Right_ans (HT.out.mod (HMWp.out.trans HM4.out (fun _ h => Or.inl h))) (small_5 hS) w4 (Mod.refl _ _)⟩
  rw [right_1] at HR4
  try rw [hsz]
  clear hsz hwp
  clear hM hS hMp f0 f1 f2 f3 f4 f5 HS1 HB1b HP3 HMW3
  gi_wp2_with fail
  refine ⟨trivial, ?_⟩
  refine (callsIn_wide.2 (HR4.out)).mono ?_
  rintro e w5 ⟨rfl, hM⟩
  have HN6b : Hd (w5.heap[wp.heap.size]? = some (.cells #[.int .i64 0] 3)) := ⟨(hM.block _ (Array.getElem?_eq_some_iff.1 HN6.out).1 (fun h => h)).trans HN6.out⟩
  have HM5 : Hd (Mod (fun _ => False) wp w5) := ⟨HM4.out.trans hM (fun _ h => Or.inl h)⟩
  have h5 := (HB5.out.mod HM5.out).hd
  have f0 : w5.cell? ⟨w3.heap.size, 0, none⟩ = some (.int .i64 0) := cell_of h5 rfl
  have f1 : w5.cell? ⟨w3.heap.size, 1, none⟩ = some (.string tMain) := cell_of h5 rfl
  have f2 : w5.cell? ⟨w3.heap.size, 2, none⟩ = some (.slice none 0 0) := cell_of h5 rfl
  have f3 : w5.cell? ⟨w3.heap.size, 3, none⟩ = some (.slice (some ⟨b1 + 6, 0, none⟩) 1 1) := cell_of h5 rfl
  have f4 : w5.cell? ⟨w3.heap.size, 4, none⟩ = some (.string tInt) := cell_of h5 rfl
  have f5 : w5.cell? ⟨w3.heap.size, 5, none⟩ = some (.slice (some ⟨b1 + 10, 0, none⟩) 1 1) := cell_of h5 rfl
  clear hM h5 HN6 HM4 HR4
  gi_wp2_with fail
  refine ⟨trivial, ?_⟩
  refine (callsIn_wide.2 (Uses_c _)).mono ?_
  rintro e w6 ⟨rfl, rfl⟩
  clear f0 f1 f2 f3 f4 f5
  have HFUN : Hd (funV (fun k => k < wp.heap.size) (w5.alloc (.cells #[.int .i64 0, .string tMain, .slice none 0 0, .slice (some ⟨b1 + 6, 0, none⟩) 1 1, .string tInt, .slice (some ⟨b1 + 10, 0, none⟩) 1 1] 45)) (smallFV b1 0) (smallF 0 5)) := ⟨by
    have h1 := small_fun HS1p.out i64_5 i64_0
    exact h1.keep (fun b _ hl => ⟨hl, Nat.lt_of_lt_of_le hl (HM5.out.trans (Mod.alloc _ _ _) (fun _ h => Or.inl h)).size, (HM5.out.trans (Mod.alloc _ _ _) (fun _ h => Or.inl h)).block b hl (fun h => h)⟩)⟩
  have HBLK : Hd (∃ oc lc cc, Value.slice (some ⟨b1 + 10, 0, none⟩) 1 1 = .slice oc lc cc ∧ SR (fun k => k < wp.heap.size) (w5.alloc (.cells #[.int .i64 0, .string tMain, .slice none 0 0, .slice (some ⟨b1 + 6, 0, none⟩) 1 1, .string tInt, .slice (some ⟨b1 + 10, 0, none⟩) 1 1] 45)) 11 (blkV (fun k => k < wp.heap.size) (w5.alloc (.cells #[.int .i64 0, .string tMain, .slice none 0 0, .slice (some ⟨b1 + 6, 0, none⟩) 1 1, .string tInt, .slice (some ⟨b1 + 10, 0, none⟩) 1 1] 45))) oc lc cc (smallF 0 5).blocks) := ⟨by
    obtain ⟨_, _, _, oa, la, ca, ob, lb, cb, oc, lc, cc, e, _, _, k3⟩ := HFUN.out
    simp only [smallFV, Value.agg.injEq, Array.mk.injEq, List.cons.injEq, and_true, true_and] at e
    exact ⟨oc, lc, cc, e.2.2.2.2.2, k3⟩⟩
  gi_wp2_with fail
  obtain ⟨oc, lc, cc, eoc, hblk⟩ := HBLK.out
  simp only [Value.slice.injEq] at eoc
  obtain ⟨rfl, rfl, rfl⟩ := eoc
  have HBL : Hd _ := ⟨hblk⟩
  have hfb : (w5.alloc (.cells #[.int .i64 0, .string tMain, .slice none 0 0, .slice (some ⟨b1 + 6, 0, none⟩) 1 1, .string tInt, .slice (some ⟨b1 + 10, 0, none⟩) 1 1] 45)).cell? ⟨w5.heap.size, 5, none⟩ = some (.slice (some ⟨b1 + 10, 0, none⟩) 1 1) := cell_of (heap_alloc_new w5 _) rfl
  have h67 : wp.heap.size < (w5.alloc (.cells #[.int .i64 0, .string tMain, .slice none 0 0, .slice (some ⟨b1 + 6, 0, none⟩) 1 1, .string tInt, .slice (some ⟨b1 + 10, 0, none⟩) 1 1] 45)).heap.size := Nat.lt_of_lt_of_le (Array.getElem?_eq_some_iff.1 HN6b.out).1 (by simp)
  have hM7 : Mod (fun _ => False) wp (w5.alloc (.cells #[.int .i64 0, .string tMain, .slice none 0 0, .slice (some ⟨b1 + 6, 0, none⟩) 1 1, .string tInt, .slice (some ⟨b1 + 10, 0, none⟩) 1 1] 45)) := HM5.out.trans (Mod.alloc _ _ _) (fun _ h => Or.inl h)
  have hN7 : (w5.alloc (.cells #[.int .i64 0, .string tMain, .slice none 0 0, .slice (some ⟨b1 + 6, 0, none⟩) 1 1, .string tInt, .slice (some ⟨b1 + 10, 0, none⟩) 1 1] 45)).heap[wp.heap.size]? = some (.cells #[.int .i64 0] 3) := (Below.heap_alloc _ _ _ (Array.getElem?_eq_some_iff.1 HN6b.out).1).trans HN6b.out
  obtain ⟨w7, hw7⟩ : ∃ x, w5.alloc (.cells #[.int .i64 0, .string tMain, .slice none 0 0, .slice (some ⟨b1 + 6, 0, none⟩) 1 1, .string tInt, .slice (some ⟨b1 + 10, 0, none⟩) 1 1] 45) = x := ⟨_, rfl⟩
  rw [hw7] at hfb h67 hM7 hN7
  have HFB : Hd _ := ⟨hfb⟩
  have H67 : Hd _ := ⟨h67⟩
  have HM7 : Hd _ := ⟨hM7⟩
  have HN7 : Hd _ := ⟨hN7⟩
  have HBL7 : Hd (SR (fun k => k < wp.heap.size) w7 11 (blkV (fun k => k < wp.heap.size) w7) (some ⟨b1 + 10, 0, none⟩) 1 1 (smallF 0 5).blocks) := ⟨by rw [← hw7]; exact HBL.out⟩
  rw [hw7]
  clear hfb h67 hM7 hN7 hblk HBL HBLK HFUN hw7 HN6b HM5
  apply wpIn_rangeFunc_ownF (α := UE (fun k => k < wp.heap.size) w7) (n := 10) (gf := 77) (lb := #[.pointer (some ⟨w5.heap.size, 0, none⟩)]) rfl (by omega) ?hg trivial (enters_of Tryz.func77 (by kernel_rfl) rfl)
    (uses_stops 9 (by omega) (fun k => k = wp.heap.size) HBL7.out (fun b hb he => by omega) (fun k hk => by have := H67.out; omega) ?hsz HFB.out) (fun h k => KC.trans h k) (fun W l o o' _ h ho _ => KC.putObj W l o o' h ho) (Below.refl _ _) (fun _ => rfl)
    (fun pre w' => Mod (fun _ => False) wp w' ∧ w'.heap[wp.heap.size]? = some (.cells #[.int .i64 (pre.length : Int)] 3))
    (fun _ _ _ => False)
  case hg => rfl
  case hsz =>
    intro b hb
    simp only [smallF, List.mem_singleton] at hb
    subst hb
    refine ⟨fun s hs => ?_, by simp⟩
    simp only [List.mem_cons, List.not_mem_nil, or_false] at hs
    rcases hs with rfl | rfl <;> simp
  case hI =>
    rintro pre A B row ⟨h1, h2⟩ hg hr
    have hl := (Array.getElem?_eq_some_iff.1 h2).1
    have h67 := H67.out
    refine ⟨⟨hg.os.trans h1.os, hg.tape.trans h1.tape, hg.output.trans h1.output, Nat.le_trans h1.size hg.size, fun k hk hf => (hg.block k (Nat.lt_of_lt_of_le hk h1.size) (fun e => ?_)).trans (h1.block k hk hf)⟩, (hg.block _ hl (fun e => ?_)).trans h2⟩
    · have := (hr k e.symm).1; omega
    · have := (hr _ e.symm).1; omega
  case hIx => exact fun c pre A B row hs _ _ => hs
  case h0 => exact ⟨HM7.out, HN7.out⟩
  case hassign =>
    intro l x W2 K hK
    simp only [encU]
    gi_wp2
    exact hK
  case hbody =>
    rintro l pre x W' ⟨h1, h2⟩ hlen
    rw [uses_len] at hlen
    have H1 : Hd _ := ⟨h1⟩
    have H2 : Hd _ := ⟨h2⟩
    have c0 : W'.cell? ⟨wp.heap.size, 0, none⟩ = some (.int .i64 (pre.length : Int)) := cell_of h2 rfl
    have z0 : ∀ j, W'.frozen? ⟨wp.heap.size, j, none⟩ = false := fun j => frozen_of h2 j
    clear h1 h2
    gi_wp2
    refine ⟨KeepsOthers.setCell _ _ _, KC.setCell _ _ _ rfl, Mod.setNew H1.out _ _ (Nat.le_refl _), ?_⟩
    rw [heap_setCell_same _ H2.out]
    simp
  case hstop => rintro D c pre W' _ _ h _; exact h.elim
  case hdone =>
    rintro D xs W' hD hS ⟨hM8, hN8⟩ hK
    have hxl : xs.length = 3 := by
      have h1 : (toP xs).length = xs.length := by simp [toP]
      rw [← h1, hS, uses_len]
    rw [hxl] at hN8
    have HN8 : Hd _ := ⟨hN8⟩
    have HM8 : Hd _ := ⟨hM8⟩
    have HK8 : Hd (Has W' [(D, .deferred (some []))]) := ⟨fun p hp => by simp only [List.mem_singleton] at hp; subst hp; exact hK⟩
    have HD2 : Hd (W.heap.size ≤ D) := ⟨by have h1 := HMWp.out.size; have h2 := H67.out; omega⟩
    clear hD hS hM8 hN8 hK hxl HFB H67 HM7 HN7 HBL7
    have HPc : Hd _ := ⟨HPp.out.mod HM8.out⟩
    have HS1c : Hd _ := ⟨HS1p.out.mod HM8.out⟩
    have HB1c : Hd _ := ⟨HB1p.out.mod HM8.out⟩
    have HB5c : Hd _ := ⟨HB5.out.mod HM8.out⟩
    have HNc : Hd (Has W' [(wp.heap.size, .cells #[.int .i64 3] 3)]) := ⟨fun p hp => by simp only [List.mem_singleton] at hp; subst hp; exact HN8.out⟩
    have HMWc : Hd (Mod (fun _ => False) W W') := ⟨HMWp.out.trans HM8.out (fun _ h => Or.inl h)⟩
    clear HPp HS1p HB1p HB5 HN8 HMWp HM8
    gi_wp2_with fail
    refine ⟨trivial, ?_⟩
    refine (callsIn_wide.2 (small_c _)).mono ?_
    rintro e w9 ⟨rfl, hM, hS⟩
    obtain ⟨b3, hb⟩ : ∃ b, (W').heap.size = b := ⟨_, rfl⟩
    rw [hb] at hS ⊢
    have hh0 := hS.at' (b3 + 8) _ (by simp [smallL]; rfl)
    have hlt : b3 + 8 < w9.heap.size := (Array.getElem?_eq_some_iff.1 hh0).1
    clear hh0
    have hh11 := hS.at' (b3 + 11) _ (by simp [smallL]; rfl)
    have q11 : ∀ O, (w9.alloc O).cell? ⟨b3 + 11, 5, none⟩ = some (.slice (some ⟨b3 + 10, 0, none⟩) 1 1) := fun O => Lib.cell?_alloc_some O (cell_of hh11 rfl)
    have hh10 := hS.at' (b3 + 10) _ (by simp [smallL]; rfl)
    have q10 : ∀ O, (w9.alloc O).cell? ⟨b3 + 10, 2, none⟩ = some (.slice (some ⟨b3 + 8, 0, none⟩) 2 2) := fun O => Lib.cell?_alloc_some O (cell_of hh10 rfl)
    have hh8 := hS.at' (b3 + 8) _ (by simp [smallL]; rfl)
    have q8 : ∀ O, (w9.alloc O).cell? ⟨b3 + 8, 4, none⟩ = some (.int .i64 5) := fun O => Lib.cell?_alloc_some O (cell_of hh8 rfl)
    have qz : ∀ O, (w9.alloc O).frozen? ⟨b3 + 8, 4, none⟩ = false := fun O => frozen_of ((Below.heap_alloc _ _ _ hlt).trans hh8) _
    clear hh11 hh10 hh8
    have hMx : Mod (fun _ => False) W' ((w9.setCell ⟨b3 + 8, 4, none⟩ (.int .i64 6)).alloc (.cells #[.slice (some ⟨b3 + 3, 0, none⟩) 1 1, .slice (some ⟨b3 + 5, 0, none⟩) 1 1, .slice (some ⟨b3 + 11, 0, none⟩) 1 1] 36)) := (Mod.setNew hM _ _ (by rw [hb]; simp)).trans (Mod.alloc _ _ _) (fun _ h => Or.inl h)
    have hSx := (small_set_n hS 6).mod (Mod.alloc (fun _ => False) (w9.setCell ⟨b3 + 8, 4, none⟩ (.int .i64 6)) (.cells #[.slice (some ⟨b3 + 3, 0, none⟩) 1 1, .slice (some ⟨b3 + 5, 0, none⟩) 1 1, .slice (some ⟨b3 + 11, 0, none⟩) 1 1] 36))
    have hBx : ((w9.setCell ⟨b3 + 8, 4, none⟩ (.int .i64 6)).alloc (.cells #[.slice (some ⟨b3 + 3, 0, none⟩) 1 1, .slice (some ⟨b3 + 5, 0, none⟩) 1 1, .slice (some ⟨b3 + 11, 0, none⟩) 1 1] 36)).heap[w9.heap.size]? = some (.cells #[.slice (some ⟨b3 + 3, 0, none⟩) 1 1, .slice (some ⟨b3 + 5, 0, none⟩) 1 1, .slice (some ⟨b3 + 11, 0, none⟩) 1 1] 36) := by
      have := heap_alloc_new (w9.setCell ⟨b3 + 8, 4, none⟩ (.int .i64 6)) (.cells #[.slice (some ⟨b3 + 3, 0, none⟩) 1 1, .slice (some ⟨b3 + 5, 0, none⟩) 1 1, .slice (some ⟨b3 + 11, 0, none⟩) 1 1] 36)
      rwa [World.size_setCell] at this
    clear hM hS hb
    unfold smallV
    gi_wp2_with fail
    obtain ⟨x9, hx⟩ : ∃ x, ((w9.setCell ⟨b3 + 8, 4, none⟩ (.int .i64 6)).alloc (.cells #[.slice (some ⟨b3 + 3, 0, none⟩) 1 1, .slice (some ⟨b3 + 5, 0, none⟩) 1 1, .slice (some ⟨b3 + 11, 0, none⟩) 1 1] 36)) = x := ⟨_, rfl⟩
    rw [hx] at hMx hSx hBx ⊢
    have HP_a : Hd _ := ⟨HPc.out.mod hMx⟩
    clear HPc
    have HS1_a : Hd _ := ⟨HS1c.out.mod hMx⟩
    clear HS1c
    have HB1_a : Hd _ := ⟨HB1c.out.mod hMx⟩
    clear HB1c
    have HB5_a : Hd _ := ⟨HB5c.out.mod hMx⟩
    clear HB5c
    have HN_a : Hd _ := ⟨HNc.out.mod hMx⟩
    clear HNc
    have HK_a : Hd _ := ⟨HK8.out.mod hMx⟩
    clear HK8
    have HMW_a : Hd (Mod (fun _ => False) W x9) := ⟨HMWc.out.trans hMx (fun _ h => Or.inl h)⟩
    clear HMWc
    have HSa : Hd _ := ⟨hSx⟩
    have HBa : Hd (Has x9 [(w9.heap.size, .cells #[.slice (some ⟨b3 + 3, 0, none⟩) 1 1, .slice (some ⟨b3 + 5, 0, none⟩) 1 1, .slice (some ⟨b3 + 11, 0, none⟩) 1 1] 36)]) := ⟨fun p hp => by simp only [List.mem_singleton] at hp; subst hp; exact hBx⟩
    clear hMx hSx hBx hx hlt qz q11 q10 q8
    gi_wp2_with fail
    refine ⟨trivial, ?_⟩
    refine (callsIn_wide.2 (small_c _)).mono ?_
    rintro e w10 ⟨rfl, hM, hS⟩
    obtain ⟨b4, hb⟩ : ∃ b, (x9).heap.size = b := ⟨_, rfl⟩
    rw [hb] at hS ⊢
    have hh0 := hS.at' (b4 + 11) _ (by simp [smallL]; rfl)
    have hlt : b4 + 11 < w10.heap.size := (Array.getElem?_eq_some_iff.1 hh0).1
    clear hh0
    have hh11 := hS.at' (b4 + 11) _ (by simp [smallL]; rfl)
    have q11 : ∀ O, (w10.alloc O).cell? ⟨b4 + 11, 0, none⟩ = some (.int .i64 0) := fun O => Lib.cell?_alloc_some O (cell_of hh11 rfl)
    have qz : ∀ O, (w10.alloc O).frozen? ⟨b4 + 11, 0, none⟩ = false := fun O => frozen_of ((Below.heap_alloc _ _ _ hlt).trans hh11) _
    clear hh11
    have hMx : Mod (fun _ => False) x9 ((w10.setCell ⟨b4 + 11, 0, none⟩ (.int .i64 9)).alloc (.cells #[.slice (some ⟨b4 + 3, 0, none⟩) 1 1, .slice (some ⟨b4 + 5, 0, none⟩) 1 1, .slice (some ⟨b4 + 11, 0, none⟩) 1 1] 36)) := (Mod.setNew hM _ _ (by rw [hb]; simp)).trans (Mod.alloc _ _ _) (fun _ h => Or.inl h)
    have hSx := (small_set_at hS 9).mod (Mod.alloc (fun _ => False) (w10.setCell ⟨b4 + 11, 0, none⟩ (.int .i64 9)) (.cells #[.slice (some ⟨b4 + 3, 0, none⟩) 1 1, .slice (some ⟨b4 + 5, 0, none⟩) 1 1, .slice (some ⟨b4 + 11, 0, none⟩) 1 1] 36))
    have hBx : ((w10.setCell ⟨b4 + 11, 0, none⟩ (.int .i64 9)).alloc (.cells #[.slice (some ⟨b4 + 3, 0, none⟩) 1 1, .slice (some ⟨b4 + 5, 0, none⟩) 1 1, .slice (some ⟨b4 + 11, 0, none⟩) 1 1] 36)).heap[w10.heap.size]? = some (.cells #[.slice (some ⟨b4 + 3, 0, none⟩) 1 1, .slice (some ⟨b4 + 5, 0, none⟩) 1 1, .slice (some ⟨b4 + 11, 0, none⟩) 1 1] 36) := by
      have := heap_alloc_new (w10.setCell ⟨b4 + 11, 0, none⟩ (.int .i64 9)) (.cells #[.slice (some ⟨b4 + 3, 0, none⟩) 1 1, .slice (some ⟨b4 + 5, 0, none⟩) 1 1, .slice (some ⟨b4 + 11, 0, none⟩) 1 1] 36)
      rwa [World.size_setCell] at this
    clear hM hS hb
    unfold smallV
    gi_wp2_with fail
    obtain ⟨x10, hx⟩ : ∃ x, ((w10.setCell ⟨b4 + 11, 0, none⟩ (.int .i64 9)).alloc (.cells #[.slice (some ⟨b4 + 3, 0, none⟩) 1 1, .slice (some ⟨b4 + 5, 0, none⟩) 1 1, .slice (some ⟨b4 + 11, 0, none⟩) 1 1] 36)) = x := ⟨_, rfl⟩
    rw [hx] at hMx hSx hBx ⊢
    have HP_b : Hd _ := ⟨HP_a.out.mod hMx⟩
    clear HP_a
    have HS1_b : Hd _ := ⟨HS1_a.out.mod hMx⟩
    clear HS1_a
    have HB1_b : Hd _ := ⟨HB1_a.out.mod hMx⟩
    clear HB1_a
    have HB5_b : Hd _ := ⟨HB5_a.out.mod hMx⟩
    clear HB5_a
    have HN_b : Hd _ := ⟨HN_a.out.mod hMx⟩
    clear HN_a
    have HK_b : Hd _ := ⟨HK_a.out.mod hMx⟩
    clear HK_a
    have HMW_b : Hd (Mod (fun _ => False) W x10) := ⟨HMW_a.out.trans hMx (fun _ h => Or.inl h)⟩
    clear HMW_a
    have HSa_b : Hd _ := ⟨HSa.out.mod hMx⟩
    clear HSa
    have HBa_b : Hd _ := ⟨HBa.out.mod hMx⟩
    clear HBa
    have HSb : Hd _ := ⟨hSx⟩
    have HBb : Hd (Has x10 [(w10.heap.size, .cells #[.slice (some ⟨b4 + 3, 0, none⟩) 1 1, .slice (some ⟨b4 + 5, 0, none⟩) 1 1, .slice (some ⟨b4 + 11, 0, none⟩) 1 1] 36)]) := ⟨fun p hp => by simp only [List.mem_singleton] at hp; subst hp; exact hBx⟩
    clear hMx hSx hBx hx hlt qz q11
    gi_wp2_with fail
    refine ⟨trivial, ?_⟩
    refine (callsIn_wide.2 (small_c _)).mono ?_
    rintro e w11 ⟨rfl, hM, hS⟩
    obtain ⟨b5, hb⟩ : ∃ b, (x10).heap.size = b := ⟨_, rfl⟩
    rw [hb] at hS ⊢
    have hh0 := hS.at' (b5 + 5) _ (by simp [smallL]; rfl)
    have hlt : b5 + 5 < w11.heap.size := (Array.getElem?_eq_some_iff.1 hh0).1
    clear hh0
    have hh5 := hS.at' (b5 + 5) _ (by simp [smallL]; rfl)
    have q5 : ∀ O, (w11.alloc O).cell? ⟨b5 + 5, 2, none⟩ = some (.slice (some ⟨b5 + 4, 0, none⟩) 2 2) := fun O => Lib.cell?_alloc_some O (cell_of hh5 rfl)
    have qz : ∀ O, (w11.alloc O).frozen? ⟨b5 + 5, 2, none⟩ = false := fun O => frozen_of ((Below.heap_alloc _ _ _ hlt).trans hh5) _
    clear hh5
    have hMx : Mod (fun _ => False) x10 ((w11.setCell ⟨b5 + 5, 2, none⟩ (.slice none 0 0)).alloc (.cells #[.slice (some ⟨b5 + 3, 0, none⟩) 1 1, .slice (some ⟨b5 + 5, 0, none⟩) 1 1, .slice (some ⟨b5 + 11, 0, none⟩) 1 1] 36)) := (Mod.setNew hM _ _ (by rw [hb]; simp)).trans (Mod.alloc _ _ _) (fun _ h => Or.inl h)
    have hSx := (small_set_vs hS (.slice none 0 0)).mod (Mod.alloc (fun _ => False) (w11.setCell ⟨b5 + 5, 2, none⟩ (.slice none 0 0)) (.cells #[.slice (some ⟨b5 + 3, 0, none⟩) 1 1, .slice (some ⟨b5 + 5, 0, none⟩) 1 1, .slice (some ⟨b5 + 11, 0, none⟩) 1 1] 36))
    have hBx : ((w11.setCell ⟨b5 + 5, 2, none⟩ (.slice none 0 0)).alloc (.cells #[.slice (some ⟨b5 + 3, 0, none⟩) 1 1, .slice (some ⟨b5 + 5, 0, none⟩) 1 1, .slice (some ⟨b5 + 11, 0, none⟩) 1 1] 36)).heap[w11.heap.size]? = some (.cells #[.slice (some ⟨b5 + 3, 0, none⟩) 1 1, .slice (some ⟨b5 + 5, 0, none⟩) 1 1, .slice (some ⟨b5 + 11, 0, none⟩) 1 1] 36) := by
      have := heap_alloc_new (w11.setCell ⟨b5 + 5, 2, none⟩ (.slice none 0 0)) (.cells #[.slice (some ⟨b5 + 3, 0, none⟩) 1 1, .slice (some ⟨b5 + 5, 0, none⟩) 1 1, .slice (some ⟨b5 + 11, 0, none⟩) 1 1] 36)
      rwa [World.size_setCell] at this
    clear hM hS hb
    unfold smallV
    have u0 : ((w11.setCell ⟨b5 + 5, 2, none⟩ (.slice none 0 0)).alloc (.cells #[.slice (some ⟨b5 + 3, 0, none⟩) 1 1, .slice (some ⟨b5 + 5, 0, none⟩) 1 1, .slice (some ⟨b5 + 11, 0, none⟩) 1 1] 36)).cell? ⟨w1.heap.size, 0, none⟩ = some (.string { data := #[120] }) := cell_of ((HB1_b.out.mod hMx).hd) rfl
    have u1 : ((w11.setCell ⟨b5 + 5, 2, none⟩ (.slice none 0 0)).alloc (.cells #[.slice (some ⟨b5 + 3, 0, none⟩) 1 1, .slice (some ⟨b5 + 5, 0, none⟩) 1 1, .slice (some ⟨b5 + 11, 0, none⟩) 1 1] 36)).cell? ⟨w1.heap.size, 1, none⟩ = some (.slice o1 2 c1) := cell_of ((HB1_b.out.mod hMx).hd) rfl
    gi_wp2_with fail
    obtain ⟨x11, hx⟩ : ∃ x, ((w11.setCell ⟨b5 + 5, 2, none⟩ (.slice none 0 0)).alloc (.cells #[.slice (some ⟨b5 + 3, 0, none⟩) 1 1, .slice (some ⟨b5 + 5, 0, none⟩) 1 1, .slice (some ⟨b5 + 11, 0, none⟩) 1 1] 36)) = x := ⟨_, rfl⟩
    rw [hx] at hMx hSx hBx ⊢
    have HP_c : Hd _ := ⟨HP_b.out.mod hMx⟩
    clear HP_b
    have HS1_c : Hd _ := ⟨HS1_b.out.mod hMx⟩
    clear HS1_b
    have HB1_c : Hd _ := ⟨HB1_b.out.mod hMx⟩
    clear HB1_b
    have HB5_c : Hd _ := ⟨HB5_b.out.mod hMx⟩
    clear HB5_b
    have HN_c : Hd _ := ⟨HN_b.out.mod hMx⟩
    clear HN_b
    have HK_c : Hd _ := ⟨HK_b.out.mod hMx⟩
    clear HK_b
    have HMW_c : Hd (Mod (fun _ => False) W x11) := ⟨HMW_b.out.trans hMx (fun _ h => Or.inl h)⟩
    clear HMW_b
    have HSa_b_c : Hd _ := ⟨HSa_b.out.mod hMx⟩
    clear HSa_b
    have HBa_b_c : Hd _ := ⟨HBa_b.out.mod hMx⟩
    clear HBa_b
    have HSb_c : Hd _ := ⟨HSb.out.mod hMx⟩
    clear HSb
    have HBb_c : Hd _ := ⟨HBb.out.mod hMx⟩
    clear HBb
    have HSc : Hd _ := ⟨hSx⟩
    have HBc : Hd (Has x11 [(w11.heap.size, .cells #[.slice (some ⟨b5 + 3, 0, none⟩) 1 1, .slice (some ⟨b5 + 5, 0, none⟩) 1 1, .slice (some ⟨b5 + 11, 0, none⟩) 1 1] 36)]) := ⟨fun p hp => by simp only [List.mem_singleton] at hp; subst hp; exact hBx⟩
    clear hMx hSx hBx hx hlt qz q5
    clear u0 u1
    have HCT : Hd (Calls Tryz.prog 13 #[.agg #[.string { data := #[120] }, .slice o1 2 c1]] x11.drew _) := ⟨Text_ans ((HP_c.out.mod (Mod.drew (fun _ => False) x11)).wide) x11.drew (Mod.refl _ _)⟩
    rw [text_xsa'] at HCT
    have HSF : Hd (∀ w', Mod (fun _ => False) x11 w' → w'.cell? ⟨w1.heap.size, 0, none⟩ = some (.string { data := #[120] }) ∧ w'.cell? ⟨w1.heap.size, 1, none⟩ = some (.slice o1 2 c1) ∧ w'.cell? ⟨w3.heap.size, 0, none⟩ = some (.int .i64 0) ∧ w'.cell? ⟨w3.heap.size, 1, none⟩ = some (.string tMain) ∧ w'.cell? ⟨w3.heap.size, 2, none⟩ = some (.slice none 0 0) ∧ w'.cell? ⟨w3.heap.size, 3, none⟩ = some (.slice (some ⟨b1 + 6, 0, none⟩) 1 1) ∧ w'.cell? ⟨w3.heap.size, 4, none⟩ = some (.string tInt) ∧ w'.cell? ⟨w3.heap.size, 5, none⟩ = some (.slice (some ⟨b1 + 10, 0, none⟩) 1 1) ∧ w'.cell? ⟨wp.heap.size, 0, none⟩ = some (.int .i64 3) ∧ w'.cell? ⟨w9.heap.size, 0, none⟩ = some (.slice (some ⟨b3 + 3, 0, none⟩) 1 1) ∧ w'.cell? ⟨w9.heap.size, 1, none⟩ = some (.slice (some ⟨b3 + 5, 0, none⟩) 1 1) ∧ w'.cell? ⟨w9.heap.size, 2, none⟩ = some (.slice (some ⟨b3 + 11, 0, none⟩) 1 1) ∧ w'.cell? ⟨w10.heap.size, 0, none⟩ = some (.slice (some ⟨b4 + 3, 0, none⟩) 1 1) ∧ w'.cell? ⟨w10.heap.size, 1, none⟩ = some (.slice (some ⟨b4 + 5, 0, none⟩) 1 1) ∧ w'.cell? ⟨w10.heap.size, 2, none⟩ = some (.slice (some ⟨b4 + 11, 0, none⟩) 1 1) ∧ w'.cell? ⟨w11.heap.size, 0, none⟩ = some (.slice (some ⟨b5 + 3, 0, none⟩) 1 1) ∧ w'.cell? ⟨w11.heap.size, 1, none⟩ = some (.slice (some ⟨b5 + 5, 0, none⟩) 1 1) ∧ w'.cell? ⟨w11.heap.size, 2, none⟩ = some (.slice (some ⟨b5 + 11, 0, none⟩) 1 1)) := ⟨fun w' hm => ⟨cell_of ((HB1_c.out.mod hm).hd) rfl, cell_of ((HB1_c.out.mod hm).hd) rfl, cell_of ((HB5_c.out.mod hm).hd) rfl, cell_of ((HB5_c.out.mod hm).hd) rfl, cell_of ((HB5_c.out.mod hm).hd) rfl, cell_of ((HB5_c.out.mod hm).hd) rfl, cell_of ((HB5_c.out.mod hm).hd) rfl, cell_of ((HB5_c.out.mod hm).hd) rfl, cell_of ((HN_c.out.mod hm).hd) rfl, cell_of ((HBa_b_c.out.mod hm).hd) rfl, cell_of ((HBa_b_c.out.mod hm).hd) rfl, cell_of ((HBa_b_c.out.mod hm).hd) rfl, cell_of ((HBb_c.out.mod hm).hd) rfl, cell_of ((HBb_c.out.mod hm).hd) rfl, cell_of ((HBb_c.out.mod hm).hd) rfl, cell_of ((HBc.out.mod hm).hd) rfl, cell_of ((HBc.out.mod hm).hd) rfl, cell_of ((HBc.out.mod hm).hd) rfl⟩⟩
    refine wpIn_wide.2 ?_
    simp only [List.append]
    have TOK0 : True := trivial
    go_region_held3 (fun w' => w'.cell? ⟨w1.heap.size, 0, none⟩ = some (.string { data := #[120] }) ∧ w'.cell? ⟨w1.heap.size, 1, none⟩ = some (.slice o1 2 c1) ∧ w'.cell? ⟨w3.heap.size, 0, none⟩ = some (.int .i64 0) ∧ w'.cell? ⟨w3.heap.size, 1, none⟩ = some (.string tMain) ∧ w'.cell? ⟨w3.heap.size, 2, none⟩ = some (.slice none 0 0) ∧ w'.cell? ⟨w3.heap.size, 3, none⟩ = some (.slice (some ⟨b1 + 6, 0, none⟩) 1 1) ∧ w'.cell? ⟨w3.heap.size, 4, none⟩ = some (.string tInt) ∧ w'.cell? ⟨w3.heap.size, 5, none⟩ = some (.slice (some ⟨b1 + 10, 0, none⟩) 1 1) ∧ w'.cell? ⟨wp.heap.size, 0, none⟩ = some (.int .i64 3) ∧ w'.cell? ⟨w9.heap.size, 0, none⟩ = some (.slice (some ⟨b3 + 3, 0, none⟩) 1 1) ∧ w'.cell? ⟨w9.heap.size, 1, none⟩ = some (.slice (some ⟨b3 + 5, 0, none⟩) 1 1) ∧ w'.cell? ⟨w9.heap.size, 2, none⟩ = some (.slice (some ⟨b3 + 11, 0, none⟩) 1 1) ∧ w'.cell? ⟨w10.heap.size, 0, none⟩ = some (.slice (some ⟨b4 + 3, 0, none⟩) 1 1) ∧ w'.cell? ⟨w10.heap.size, 1, none⟩ = some (.slice (some ⟨b4 + 5, 0, none⟩) 1 1) ∧ w'.cell? ⟨w10.heap.size, 2, none⟩ = some (.slice (some ⟨b4 + 11, 0, none⟩) 1 1) ∧ w'.cell? ⟨w11.heap.size, 0, none⟩ = some (.slice (some ⟨b5 + 3, 0, none⟩) 1 1) ∧ w'.cell? ⟨w11.heap.size, 1, none⟩ = some (.slice (some ⟨b5 + 5, 0, none⟩) 1 1) ∧ w'.cell? ⟨w11.heap.size, 2, none⟩ = some (.slice (some ⟨b5 + 11, 0, none⟩) 1 1)) (first | exact HSF.out _ HZw28.out | exact HSF.out _ HZw27.out | exact HSF.out _ HZw26.out | exact HSF.out _ HZw25.out | exact HSF.out _ HZw24.out | exact HSF.out _ HZw23.out | exact HSF.out _ HZw22.out | exact HSF.out _ HZw21.out | exact HSF.out _ HZw20.out | exact HSF.out _ HZw19.out | exact HSF.out _ HZw18.out | exact HSF.out _ HZw17.out | exact HSF.out _ HZw16.out | exact HSF.out _ HZw15.out | exact HSF.out _ HZw14.out | exact HSF.out _ HZw13.out | exact HSF.out _ HZw12.out | exact HSF.out _ (Mod.drew _ _)) (first
      | (clear TOK0
         go_at_call 13
         have TOK1 : True := trivial
         refine (HCT.out).mono ?_
         rintro e w12 ⟨rfl, hM⟩
         have HZw12 : Hd (Mod (fun _ => False) x11 w12) := ⟨(Mod.drew (fun _ => False) x11).trans hM (fun _ h => Or.inl h)⟩
         clear hM )
      | (clear TOK1
         go_at_call 16
         have TOK2 : True := trivial
         have HC : Hd (Calls Tryz.prog 16 #[.agg #[.string { data := #[120] }, .slice none 0 0], .agg #[.string { data := #[120] }, .slice o1 2 c1]] w12 _) := ⟨Front_ans (x_pl _ _) ((HP_c.out.mod HZw12.out).wide) w12 (Mod.refl _ _)⟩
         rw [front_1] at HC
         refine (HC.out).mono ?_
         rintro e w13 ⟨rfl, hM⟩
         have HZw13 : Hd (Mod (fun _ => False) x11 w13) := ⟨HZw12.out.trans hM (fun _ h => Or.inl h)⟩
         clear hM HC)
      | (clear TOK2
         go_at_call 16
         have TOK3 : True := trivial
         have HC : Hd (Calls Tryz.prog 16 #[.agg #[.string { data := #[120] }, .slice o1 2 c1], .agg #[.string { data := #[120] }, .slice none 0 0]] w13 _) := ⟨Front_ans ((HP_c.out.mod HZw13.out).wide) (x_pl _ _) w13 (Mod.refl _ _)⟩
         rw [front_2] at HC
         refine (HC.out).mono ?_
         rintro e w14 ⟨rfl, hM⟩
         have HZw14 : Hd (Mod (fun _ => False) x11 w14) := ⟨HZw13.out.trans hM (fun _ h => Or.inl h)⟩
         clear hM HC)
      | (clear TOK3
         go_at_call 15
         have TOK4 : True := trivial
         have HC : Hd (Calls Tryz.prog 15 #[.agg #[.string { data := #[120] }, .slice o1 2 c1], .agg #[.string { data := #[120] }, .slice o1 2 c1]] w14 _) := ⟨Equal_ans ((HP_c.out.mod HZw14.out).wide) ((HP_c.out.mod HZw14.out).wide) w14 (Mod.refl _ _)⟩
         rw [equal_1] at HC
         refine (HC.out).mono ?_
         rintro e w15 ⟨rfl, hM⟩
         have HZw15 : Hd (Mod (fun _ => False) x11 w15) := ⟨HZw14.out.trans hM (fun _ h => Or.inl h)⟩
         clear hM HC)
      | (clear TOK4
         go_at_call 34
         have TOK5 : True := trivial
         refine (small_c w15).mono ?_
         rintro e w16 ⟨rfl, hM, hS⟩
         have HZw16 : Hd (Mod (fun _ => False) x11 w16) := ⟨HZw15.out.trans hM (fun _ h => Or.inl h)⟩
         obtain ⟨b6, hb⟩ : ∃ b, w15.heap.size = b := ⟨_, rfl⟩
         rw [hb] at hS ⊢
         have HSM : Hd _ := ⟨hS⟩
         clear hM hS hb)
      | (clear TOK5
         go_at_call 20
         have TOK6 : True := trivial
         have HC : Hd (Calls Tryz.prog 20 #[smallV b6] w16 _) := ⟨Right_ans (HT.out.mod (HMW_c.out.trans HZw16.out (fun _ h => Or.inl h))) (small_5 HSM.out) w16 (Mod.refl _ _)⟩
         rw [right_1] at HC
         refine (HC.out).mono ?_
         rintro e w17 ⟨rfl, hM⟩
         have HZw17 : Hd (Mod (fun _ => False) x11 w17) := ⟨HZw16.out.trans hM (fun _ h => Or.inl h)⟩
         clear hM HC HSM)
      | (clear TOK6
         go_at_call 20
         have TOK7 : True := trivial
         have HC : Hd (Calls Tryz.prog 20 #[smallV b5] w17 _) := ⟨Right_ans (HT.out.mod (HMW_c.out.trans HZw17.out (fun _ h => Or.inl h))) ((small_n (HSc.out.mod HZw17.out)).wide) w17 (Mod.refl _ _)⟩
         rw [right_2] at HC
         refine (HC.out).mono ?_
         rintro e w18 ⟨rfl, hM⟩
         have HZw18 : Hd (Mod (fun _ => False) x11 w18) := ⟨HZw17.out.trans hM (fun _ h => Or.inl h)⟩
         clear hM HC)
      | (clear TOK7
         go_at_call 34
         have TOK8 : True := trivial
         refine (small_c w18).mono ?_
         rintro e w19 ⟨rfl, hM, hS⟩
         have HZw19 : Hd (Mod (fun _ => False) x11 w19) := ⟨HZw18.out.trans hM (fun _ h => Or.inl h)⟩
         obtain ⟨b7, hb⟩ : ∃ b, w18.heap.size = b := ⟨_, rfl⟩
         rw [hb] at hS ⊢
         have HSM : Hd _ := ⟨hS⟩
         clear hM hS hb)
      | (clear TOK8
         go_at_call 23
         have TOK9 : True := trivial
         have HC : Hd (Calls Tryz.prog 23 #[smallV b3, smallV b7] w19 _) := ⟨Same_ans ((small_6 (HSa_b_c.out.mod HZw19.out)).wide) ((small_5 HSM.out).wide) w19 (Mod.refl _ _)⟩
         rw [same_1] at HC
         refine (HC.out).mono ?_
         rintro e w20 ⟨rfl, hM⟩
         have HZw20 : Hd (Mod (fun _ => False) x11 w20) := ⟨HZw19.out.trans hM (fun _ h => Or.inl h)⟩
         clear hM HC HSM)
      | (clear TOK9
         go_at_call 34
         have TOK10 : True := trivial
         refine (small_c w20).mono ?_
         rintro e w21 ⟨rfl, hM, hS⟩
         have HZw21 : Hd (Mod (fun _ => False) x11 w21) := ⟨HZw20.out.trans hM (fun _ h => Or.inl h)⟩
         obtain ⟨b8, hb⟩ : ∃ b, w20.heap.size = b := ⟨_, rfl⟩
         rw [hb] at hS ⊢
         have HSM : Hd _ := ⟨hS⟩
         clear hM hS hb)
      | (clear TOK10
         go_at_call 23
         have TOK11 : True := trivial
         have HC : Hd (Calls Tryz.prog 23 #[smallV b4, smallV b8] w21 _) := ⟨Same_ans ((small_9 (HSb_c.out.mod HZw21.out)).wide) ((small_5 HSM.out).wide) w21 (Mod.refl _ _)⟩
         rw [same_2] at HC
         refine (HC.out).mono ?_
         rintro e w22 ⟨rfl, hM⟩
         have HZw22 : Hd (Mod (fun _ => False) x11 w22) := ⟨HZw21.out.trans hM (fun _ h => Or.inl h)⟩
         clear hM HC HSM)
      | (clear TOK11
         go_at_call 24
         have TOK12 : True := trivial
         have HC : Hd _ := ⟨Clone_c (v := smallV b3) ((small_6 (HSa_b_c.out.mod HZw22.out)).wide) w22 (Mod.refl _ _)⟩
         refine (HC.out).mono ?_
         rintro e w23 ⟨vc, rfl, hM, hv⟩
         have HZw23 : Hd (Mod (fun _ => False) x11 w23) := ⟨HZw22.out.trans hM (fun _ h => Or.inl h)⟩
         have HVC : Hd _ := ⟨hv.wide⟩
         clear hM hv HC)
      | (clear TOK12
         go_at_call 23
         have TOK13 : True := trivial
         have HC : Hd (Calls Tryz.prog 23 #[vc, smallV b3] w23 _) := ⟨Same_ans HVC.out ((small_6 (HSa_b_c.out.mod HZw23.out)).wide) w23 (Mod.refl _ _)⟩
         rw [same_3] at HC
         refine (HC.out).mono ?_
         rintro e w24 ⟨rfl, hM⟩
         have HZw24 : Hd (Mod (fun _ => False) x11 w24) := ⟨HZw23.out.trans hM (fun _ h => Or.inl h)⟩
         clear hM HC HVC)
      | (clear TOK13
         go_at_call 28
         have TOK14 : True := trivial
         have HC : Hd _ := ⟨Vars_c (v := smallFV b1 0) (s := smallF 0 5) ((small_fun (HS1_c.out.mod HZw24.out) i64_5 i64_0).wide) (by decide) w24 (Mod.refl _ _)⟩
         refine (HC.out).mono ?_
         rintro e w25 ⟨oz, cz, rfl, hM, hv⟩
         have HZw25 : Hd (Mod (fun _ => False) x11 w25) := ⟨HZw24.out.trans hM (fun _ h => Or.inl h)⟩
         rw [show ((smallF 0 5).params ++ (smallF 0 5).locals).length = 1 from rfl]
         clear hM hv HC)
      | (clear TOK14
         go_at_call 28
         have TOK15 : True := trivial
         have HC : Hd _ := ⟨Vars_c (v := smallFV b1 0) (s := smallF 0 5) ((small_fun (HS1_c.out.mod HZw25.out) i64_5 i64_0).wide) (by decide) w25 (Mod.refl _ _)⟩
         refine (HC.out).mono ?_
         rintro e w26 ⟨oz, cz, rfl, hM, hv⟩
         have HZw26 : Hd (Mod (fun _ => False) x11 w26) := ⟨HZw25.out.trans hM (fun _ h => Or.inl h)⟩
         rw [show ((smallF 0 5).params ++ (smallF 0 5).locals).length = 1 from rfl]
         have HVV : Hd _ := ⟨hv⟩
         clear hM hv HC)
      | (clear TOK15
         go_at_call 30
         have TOK16 : True := trivial
         have HC : Hd (Calls Tryz.prog 30 #[.slice oz 1 cz, .string { data := #[120] }] w26 _) := ⟨Find_ans (l := [] ++ [⟨tX, tInt⟩]) HVV.out tX w26 (Mod.refl _ _)⟩
         rw [find_1] at HC
         refine (HC.out).mono ?_
         rintro e w27 ⟨rfl, hM⟩
         have HZw27 : Hd (Mod (fun _ => False) x11 w27) := ⟨HZw26.out.trans hM (fun _ h => Or.inl h)⟩
         clear hM HC HVV)
      | (clear TOK16
         go_at_call 32
         have TOK17 : True := trivial
         have HC : Hd (Calls Tryz.prog 32 #[smallFV b1 0, .string { data := #[98, 49] }] w27 _) := ⟨Block_ans ((small_fun (HS1_c.out.mod HZw27.out) i64_5 i64_0).wide) tB1 w27 (Mod.refl _ _)⟩
         rw [block_1] at HC
         refine (HC.out).mono ?_
         rintro e w28 ⟨rfl, hM⟩
         have HZw28 : Hd (Mod (fun _ => False) x11 w28) := ⟨HZw27.out.trans hM (fun _ h => Or.inl h)⟩
         clear hM HC))
    have hK := (HK_c.out.mod HZw28.out).hd
    have hMW := HMW_c.out.trans HZw28.out (fun _ h => Or.inl h)
    clear HSF
    gi_wp2_with fail
    refine ⟨by simp, .inl ⟨_, _, rfl, run_takeDeferred hK, ?_⟩⟩
    have hg := grownBy_putObj' w28 D (.deferred none)
    refine ⟨.bool true, ?_, rfl, ?_⟩
    · simp [results, Tryz.f9, go_sem]
    · exact hMW.trans (⟨hg.os, hg.tape, hg.output, hg.size, fun k hk hn => hg.block k hk (fun e => hn (Option.some.inj e))⟩ : Mod (fun k => k = D) w28 _) (fun i hi => Or.inr (by subst hi; exact HD2.out))
end Go.Proofs.YtpodeccpibnlbaaGreatDoor
