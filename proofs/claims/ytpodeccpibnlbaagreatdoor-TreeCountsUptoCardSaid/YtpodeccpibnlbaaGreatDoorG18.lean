/- Place, walked. -/
import Derived.Test.YtpodeccpibnlbaaGreatDoorG17
import Derived.Test.YtpodeccpibnlbaaGreatDoorG07
import Derived.Lib.SplitLaws
import Derived.Laws.ResultCell
namespace Go.Proofs.YtpodeccpibnlbaaGreatDoor
set_option linter.unusedVariables false
set_option linter.unusedSimpArgs false
open Go.RowKit

/-- A text's parts between its dots. -/
def partsB (s : ByteArray) : List ByteArray := Lib.splitB ⟨#[46]⟩ 0 (Lib.countB s ⟨#[46]⟩) s
theorem parts_len (s : ByteArray) : Lib.countB s ⟨#[46]⟩ + 1 = (partsB s).length := (Lib.splitB_all ⟨#[46]⟩ (by decide) 0 _ s rfl).symm
theorem splitB_small (sep : ByteArray) : ∀ (k : Nat) (s : ByteArray), ∀ x ∈ Lib.splitB sep 0 k s, x.size ≤ s.size
  | 0, s, x, h => by simp [Lib.splitB] at h; subst h; exact Nat.le_refl _
  | k + 1, s, x, h => by
    unfold Lib.splitB at h
    split at h
    · simp at h; subst h; exact Nat.le_refl _
    · rcases List.mem_cons.1 h with rfl | h
      · simp only [ByteArray.size_extract]; omega
      · have := splitB_small sep k _ x h
        simp only [ByteArray.size_extract] at this
        omega
def headB (s : ByteArray) : ByteArray := (partsB s).headD ByteArray.empty
def restB (s : ByteArray) : List ByteArray := (partsB s).tail
theorem parts_cons (s : ByteArray) : partsB s = headB s :: restB s := by
  have h := parts_len s
  unfold headB restB
  cases hp : partsB s with
  | nil => rw [hp] at h; simp at h
  | cons x r => rfl
theorem parts_small (s : ByteArray) (h : Sm s) : Sm (headB s) ∧ ∀ x ∈ restB s, Sm x := by
  have h1 : ∀ x ∈ partsB s, Sm x := fun x hx => Nat.le_trans (splitB_small _ _ _ x hx) h
  rw [parts_cons] at h1
  exact ⟨h1 _ (by simp), fun x hx => h1 x (by simp [hx])⟩
theorem rest_len (s : ByteArray) (h : Sm s) : (restB s).length ≤ 1048576 := by
  have h1 := parts_len s
  rw [parts_cons] at h1
  have h2 := Lib.countB_le ⟨#[46]⟩ (by decide) _ s (Nat.le_refl _)
  unfold Sm at h
  simp at h1
  omega

def placeOf (s : ByteArray) : Pl := ⟨headB s, restB s⟩
def emptyPl : Pl := ⟨ByteArray.empty, []⟩
def PlaceI (s : ByteArray) : Pl × Bool := if placeI (placeOf s) = true then (placeOf s, true) else (emptyPl, false)

theorem run_slice_1 {P : Program} (t e : TypeId) (i : TypeInfo) (ht : P.underlying t = some (.slice e)) (hi : P.info? e = some i) (hsize : i.size = 1) (g n : Nat) :
    ∃ ad : Addr, (∀ w, (Instr.slice t (.slice (some ⟨g, 0, none⟩) (n + 1) (n + 1)) (some (.int .i64 1)) none none).run P w = .ok (.slice (some ad) n n) w) ∧ (0 < n → ad = ⟨g, 1, none⟩) := by
  by_cases hc : n = 0
  · subst hc
    exact ⟨⟨g, 0, none⟩, fun w => by simp [Instr.slice, run_underlying ht, Instr.sliceBounds, Instr.sliceBound, asIntOf, Result.andThen, sizeOf, typeInfo, hi], fun h => by omega⟩
  · refine ⟨⟨g, 1, none⟩, fun w => ?_, fun _ => rfl⟩
    have h1 : (1 : Int) ≤ (n : Int) + 1 := by omega
    simp [Instr.slice, run_underlying ht, Instr.sliceBounds, Instr.sliceBound, asIntOf, Result.andThen, sizeOf, typeInfo, hi, hc, hsize, Addr.add, h1]

/-- A place made of a fresh row: it is asked whether it is one. -/
theorem place_there {w W0 w1 W : World} (hT : Tab w) (hM0 : Mod (fun _ => False) w W0) {p0 : ByteArray} {r : List ByteArray} {oa : Option Addr} {c : Nat} (h1 : SR (Nb W0.heap.size w1) w1 1 strV oa r.length c r) (hM1 : Mod (fun _ => False) W0 w1)
    (hp0 : Sm p0) (hm : Mod (fun b => b < W0.heap.size ∧ w.heap.size ≤ b) w1 W) :
    Mod (fun _ => False) w W ∧ plV (fun b => W0.heap.size ≤ b) W (.agg #[.string p0, .slice oa r.length c]) ⟨p0, r⟩ ∧
    Calls Tryz.prog 37 #[.agg #[.string p0, .slice oa r.length c]] W fun e w' => e = .returned (.bool (placeI ⟨p0, r⟩)) ∧ Mod (fun _ => False) W w' := by
  have h1 := h1.keep (S' := fun b => W0.heap.size ≤ b) (w' := w1) (fun b hb hl => ⟨hb.1, hl, rfl⟩) (fun _ _ h => h)
  have hW : Mod (fun _ => False) w W := (hM0.trans hM1 (fun _ h => Or.inl h)).trans hm (fun i hi => Or.inr hi.2)
  have hv : plV (fun b => W0.heap.size ≤ b) W (.agg #[.string p0, .slice oa r.length c]) ⟨p0, r⟩ :=
    ⟨hp0, oa, _, c, rfl, h1.keep (fun b hb hl => ⟨hb, Nat.lt_of_lt_of_le hl hm.size, hm.block b hl (fun h => by omega)⟩) (fun _ _ h => h)⟩
  exact ⟨hW, hv, place_ans (hT.mod hW) hv W (Mod.refl _ _)⟩
theorem results_cell_row2 {P : Program} {fn : Func} {p q : Tmp} {ty : TypeId} (h : fn.results = #[.cell p ty, .tmp q]) (tmps : Array Value) (w : World) (g : Nat) (t : TypeId) (cs : Array Value) (fr : Nat × Nat) (d : TypeDesc)
    (hp : tmps.getD p undef = .pointer (some ⟨g, 0, none⟩)) (hg : w.heap[g]? = some (.cells cs t fr))
    (hu : P.underlying ty = some d) (hd : (match d with | .struct _ | .array _ _ => true | _ => false) = true) (hi : (P.info? ty).map (·.size) = some cs.size) :
    (results fn tmps).run P w = .ok (.tuple #[.agg cs, tmps.getD q undef]) w := by
  have hp' : tmps[p]?.getD undef = .pointer (some ⟨g, 0, none⟩) := by simpa using hp
  rw [results_cell_tmp h]
  simp [hp', asAddr, run_loadVar_row w g t ty cs fr d hg hu hd hi, Result.andThen]
theorem empty_pl (S : Nat → Prop) (w : World) : plV S w (.agg #[.string { data := #[] }, .slice none 0 0]) emptyPl :=
  ⟨by unfold Sm emptyPl; decide, none, 0, 0, rfl, rfl, by simp [emptyPl], by simp, by simp [maxLen], fun i x hi => by simp [emptyPl] at hi⟩

section
variable {S : Nat → Prop} {w0 : World}
set_option maxRecDepth 100000 in
set_option maxHeartbeats 4000000 in
theorem Place_c (hT : Tab w0) {m : Int} (hm : w0.cell? ⟨0, 0, none⟩ = some (.int .i64 m)) {s : ByteArray} (hs : Sm s) (w : World) (hw : Mod (fun _ => False) w0 w) :
    Calls Tryz.prog 10 #[.string s] w fun e w' => ∃ v, e = .returned (.tuple #[v, .bool (PlaceI s).2]) ∧ Mod (fun _ => False) w w' ∧ plV (fun b => w.heap.size ≤ b) w' v (PlaceI s).1 := by
  have hz : 0 < w0.heap.size := World.block_lt_of_cell? w0 _ hm
  have HSP : Hd (∀ A : Obj, _) := ⟨fun A => Tryz.strings_Split s ⟨#[46]⟩ m (w.alloc A) (by unfold Sm at hs; omega) (Lib.cell?_alloc_some A (by rw [← hm]; exact World.cell?_of_block (hw.block 0 hz (fun h => h)))) (by decide)⟩
  have HPA : Hd (partsB s = _) := ⟨parts_cons s⟩
  have HPS : Hd _ := ⟨parts_small s hs⟩
  have HPL : Hd _ := ⟨rest_len s hs⟩
  have HTB : Hd _ := ⟨hT.mod hw⟩
  have HPI : Hd (PlaceI s = if placeI ⟨headB s, restB s⟩ = true then (⟨headB s, restB s⟩, true) else (emptyPl, false)) := ⟨rfl⟩
  rw [HPI.out]
  have hpl := parts_len s
  have hdef : Lib.splitB ⟨#[46]⟩ 0 (Lib.countB s ⟨#[46]⟩) s = partsB s := rfl
  rw [hpl, hdef, HPA.out] at HSP
  obtain ⟨p0, hp0⟩ : ∃ p, headB s = p := ⟨_, rfl⟩
  obtain ⟨r, hr⟩ : ∃ p, restB s = p := ⟨_, rfl⟩
  rw [hp0, hr] at HSP HPI HPS ⊢
  rw [hr] at HPL
  rw [List.length_cons] at HSP
  clear hp0 hr hpl hdef HPA hm hz hw hT hs
  obtain ⟨q, hq⟩ : ∃ q, placeI ⟨p0, r⟩ = q := ⟨_, rfl⟩
  rw [hq] at HPI ⊢
  have HQ : Hd _ := ⟨hq⟩
  clear hq
  obtain ⟨i0, hi, hz0, hz1, hz2⟩ := info_parts info_9
  obtain ⟨ad, hsl, had⟩ := run_slice_1 22 9 i0 Tryz.underlying22 hi hz1 (w.heap.size + 1) r.length
  have hbig := HPL.out
  have HAD : Hd _ := ⟨had⟩
  clear hi hz0 hz1 hz2 had
  go_enter Tryz.func10, Tryz.ntmps10
  go_wp2_with fail
  refine (HSP.out _).mono ?_
  rintro e w1 ⟨rfl, rfl⟩
  simp only [World.size_alloc]
  have hbP : ((w.alloc (.cells #[.string { data := #[] }, .slice none 0 0] 24)).alloc (.cells (List.map Value.string (p0 :: r)).toArray 9)).heap[w.heap.size + 1]? = some (.cells (List.map Value.string (p0 :: r)).toArray 9) := heap2_1 _ _ _
  have hbR : ((w.alloc (.cells #[.string { data := #[] }, .slice none 0 0] 24)).alloc (.cells (List.map Value.string (p0 :: r)).toArray 9)).heap[w.heap.size]? = some (.cells #[.string { data := #[] }, .slice none 0 0] 24) := heap2_0 _ _ _
  have hbS : ((w.alloc (.cells #[.string { data := #[] }, .slice none 0 0] 24)).alloc (.cells (List.map Value.string (p0 :: r)).toArray 9)).heap.size = w.heap.size + 2 := by simp
  have hMW : Mod (fun _ => False) w ((w.alloc (.cells #[.string { data := #[] }, .slice none 0 0] 24)).alloc (.cells (List.map Value.string (p0 :: r)).toArray 9)) := (Mod.alloc _ _ _).trans (Mod.alloc _ _ _) (fun _ h => Or.inl h)
  obtain ⟨W1, hW1⟩ : ∃ W1, ((w.alloc (.cells #[.string { data := #[] }, .slice none 0 0] 24)).alloc (.cells (List.map Value.string (p0 :: r)).toArray 9)) = W1 := ⟨_, rfl⟩
  rw [hW1] at hbP hbR hbS hMW ⊢
  clear hW1
  have HBP : Hd _ := ⟨hbP⟩
  have HBR : Hd _ := ⟨hbR⟩
  have HBS : Hd _ := ⟨hbS⟩
  have HMW : Hd _ := ⟨hMW⟩
  have e0 : ∀ O, (W1.alloc O).drew.cell? ⟨w.heap.size + 1, 0, none⟩ = some (.string p0) := fun O => Lib.cell?_alloc_some O (by simp [World.cell?, hbP])
  have e1 : W1.drew.cell? ⟨w.heap.size + 1, 0, none⟩ = some (.string p0) := by simp [World.cell?, heap_drew, hbP]
  have hSR : SR (fun b => w.heap.size ≤ b) W1 1 strV (some ad) r.length r.length r := ⟨rfl, HPL.out, Nat.le_refl _, by have := HPL.out; unfold maxLen; omega, fun i x hi => by
    have hil := (List.getElem?_eq_some_iff.1 hi).1
    refine ⟨w.heap.size + 1, 1, .string x, by rw [HAD.out (by omega)], by omega, by omega, fun k u hu => ?_, rfl, HPS.out.2 x (List.mem_of_getElem? hi)⟩
    have hk : k = 0 := by
      have := (Array.getElem?_eq_some_iff.1 hu).1
      simp [Value.cells] at this
      omega
    subst hk
    have hu' : u = .string x := by simpa [Value.cells] using hu.symm
    subst hu'
    simp only [World.cell?, hbP]
    simp [Nat.add_comm 1 i, hi]⟩
  have HC : Hd (∀ W', Mod (fun _ => False) W1 W' → _) := ⟨fun W' hW' => cln_str hSR W' hW'⟩
  clear hSR hbP hbR hMW hbS
  go_upto_region 2 with fail
  go_cut [5] from 8 to 14 (fun v5 wx => ∃ bx oa1 c1, v5 = .pointer (some ⟨bx, 0, none⟩) ∧ Hd (Mod (fun _ => False) w wx ∧ plV (fun b => w.heap.size < b) wx (.agg #[.string p0, .slice oa1 r.length c1]) ⟨p0, r⟩ ∧
    Calls Tryz.prog 37 #[.agg #[.string p0, .slice oa1 r.length c1]] wx (fun e w' => e = .returned (.bool q) ∧ Mod (fun _ => False) wx w') ∧
    wx.heap[bx]? = some (.cells #[.string p0, .slice oa1 r.length c1] 24) ∧ wx.heap[w.heap.size]? = some (.cells #[.string { data := #[] }, .slice none 0 0] 24)))
  case first =>
   go_region_with (first
     | (go_at_call 36
        refine (HC.out _ ((Mod.alloc _ _ _).trans (Mod.drew _ _) (fun _ h => Or.inl h))).mono ?_
        rintro e w2 ⟨oa1, c1, rfl, hM2, h2, _⟩
        have HM2 : Hd _ := ⟨hM2⟩
        have H2 : Hd _ := ⟨h2⟩
        have hbox : w2.heap[W1.heap.size]? = some (.cells #[.string { data := #[] }, .slice none 0 0] 24) := (hM2.block _ (by simp [heap_drew]) (fun h => h)).trans (heap_new' W1 _)
        have HBX : Hd _ := ⟨hbox⟩
        have hx0 : w2.cell? ⟨W1.heap.size, 0, none⟩ = some (.string { data := #[] }) := by simp [World.cell?, hbox]
        have hx1 : ∀ v, (w2.setCell ⟨W1.heap.size, 0, none⟩ v).cell? ⟨W1.heap.size, 1, none⟩ = some (.slice none 0 0) := fun v => by rw [World.cell?_setCell_other _ _ _ _ (by simp)]; simp [World.cell?, hbox]
        have hf0 : ∀ j, w2.frozen? ⟨W1.heap.size, j, none⟩ = false := fun j => by simp [World.frozen?, hbox]
        have e2 : w2.cell? ⟨w.heap.size + 1, 0, none⟩ = some (.string p0) := by rw [← e0]; exact World.cell?_of_block (hM2.block _ (by have := HBS.out; simp [heap_drew]; omega) (fun h => h))
        clear hbox hM2 h2)
     | (go_at_call 36
        refine (HC.out _ (Mod.drew _ _)).mono ?_
        rintro e w2 ⟨oa1, c1, rfl, hM2, h2, _⟩
        have HM2 : Hd _ := ⟨hM2⟩
        have H2 : Hd _ := ⟨h2⟩
        have e2 : ∀ O, (w2.alloc O).cell? ⟨w.heap.size + 1, 0, none⟩ = some (.string p0) := fun O => Lib.cell?_alloc_some O (by rw [← e1]; exact World.cell?_of_block (hM2.block _ (by have := HBS.out; simp [heap_drew]; omega) (fun h => h)))
        have e3 : w2.cell? ⟨w.heap.size + 1, 0, none⟩ = some (.string p0) := by rw [← e1]; exact World.cell?_of_block (hM2.block _ (by have := HBS.out; simp [heap_drew]; omega) (fun h => h))
        clear hM2 h2))
   all_goals (go_wp2_with fail; go_meet)
   all_goals first
    | (have HP := place_there HTB.out (HMW.out.trans ((Mod.alloc _ _ _).trans (Mod.drew _ _) (fun _ h => Or.inl h)) (fun _ h => Or.inl h)) H2.out HM2.out HPS.out.1 (((Mod.setCell (S := fun b => b < (W1.alloc (.cells #[.string { data := #[] }, .slice none 0 0] 24)).drew.heap.size ∧ w.heap.size ≤ b) w2 ⟨W1.heap.size, 0, none⟩ (.string p0) (by have := HBS.out; simp [heap_drew]; omega)).trans (Mod.setCell _ ⟨W1.heap.size, 1, none⟩ (.slice oa1 r.length c1) (by have := HBS.out; simp [heap_drew]; omega)) (fun _ h => Or.inl h)))
       refine ⟨W1.heap.size, oa1, c1, rfl, ⟨HP.1, HP.2.1.keep (fun b hb hl => ⟨by have := HBS.out; simp [heap_drew] at hb; omega, hl, rfl⟩), by rw [← HQ.out]; exact HP.2.2, ?_, ?_⟩⟩
       · exact heap_setCells_all [.string p0, .slice oa1 r.length c1] HBX.out rfl
       · refine heap_setCell_far _ (heap_setCell_far _ ((HM2.out.block _ (by have := HBS.out; simp [heap_drew]; omega) (fun h => h)).trans ((Below.heap_alloc _ _ _ (by have := HBS.out; omega)).trans HBR.out)) (by have := HBS.out; omega)) (by have := HBS.out; omega))
    | (have HP := place_there HTB.out (HMW.out.trans (Mod.drew _ _) (fun _ h => Or.inl h)) H2.out HM2.out HPS.out.1 (Mod.alloc _ _ (.cells #[.string p0, .slice oa1 r.length c1] 24))
       refine ⟨w2.heap.size, oa1, c1, rfl, ⟨HP.1, HP.2.1.keep (fun b hb hl => ⟨by have := HBS.out; simp [heap_drew] at hb; omega, hl, rfl⟩), by rw [← HQ.out]; exact HP.2.2, heap_new' _ _, ?_⟩⟩
       refine (Below.heap_alloc _ _ _ (by have := HM2.out.size; have := HBS.out; simp [heap_drew] at *; omega)).trans ((HM2.out.block _ (by have := HBS.out; simp [heap_drew]; omega) (fun h => h)).trans HBR.out))
  case rest =>
    clear e0 e1 hsl HC HSP
    obtain ⟨bx, oa1, c1, rfl, H⟩ := hcut
    have HC := H.out.2.2.1
    have hb := H.out.2.2.2.1
    have hR := H.out.2.2.2.2
    have HC' : Hd _ := ⟨HC⟩
    have HB : Hd _ := ⟨hb⟩
    have HR : Hd _ := ⟨hR⟩
    have b0 : wc.cell? ⟨bx, 0, none⟩ = some (.string p0) := by simp [World.cell?, hb]
    have b1 : wc.cell? ⟨bx, 1, none⟩ = some (.slice oa1 r.length c1) := by simp [World.cell?, hb]
    clear HC hb hR
    go_wp2_with fail
    refine HC'.out.mono ?_
    rintro e w3 ⟨rfl, hM3⟩
    have hb := (hM3.block _ (Array.getElem?_eq_some_iff.1 HB.out).1 (fun h => h)).trans HB.out
    have hR := (hM3.block _ (Array.getElem?_eq_some_iff.1 HR.out).1 (fun h => h)).trans HR.out
    have HM3 : Hd _ := ⟨hM3⟩
    have HR3 : Hd _ := ⟨hR⟩
    have b0' : w3.cell? ⟨bx, 0, none⟩ = some (.string p0) := by simp [World.cell?, hb]
    have b1' : w3.cell? ⟨bx, 1, none⟩ = some (.slice oa1 r.length c1) := by simp [World.cell?, hb]
    have r0 : w3.cell? ⟨w.heap.size, 0, none⟩ = some (.string { data := #[] }) := by simp [World.cell?, hR]
    have r1 : ∀ v, (w3.setCell ⟨w.heap.size, 0, none⟩ v).cell? ⟨w.heap.size, 1, none⟩ = some (.slice none 0 0) := fun v => by rw [World.cell?_setCell_other _ _ _ _ (by simp)]; simp [World.cell?, hR]
    have rf : ∀ j, w3.frozen? ⟨w.heap.size, j, none⟩ = false := fun j => by simp [World.frozen?, hR]
    clear hb hR hM3 b0 b1
    cases q with
    | true =>
      go_wp2
      have hb1 := heap_setCells_all [.string p0, .slice oa1 r.length c1] HR3.out rfl
      refine bodyPost_ret (v := .tuple #[.agg #[.string p0, .slice oa1 r.length c1], .bool true]) (results_cell_row2 (fn := Tryz.f10) (p := 2) (q := 3) rfl _ _ w.heap.size 24 #[.string p0, .slice oa1 r.length c1] (0, 0) _ rfl hb1 Tryz.underlying24 rfl (by kernel_rfl)) rfl ?_
      exact ⟨_, rfl, (Mod.setNew (Mod.setNew (H.out.1.trans HM3.out (fun _ h => Or.inl h)) ⟨w.heap.size, 0, none⟩ (.string p0) (by simp)) ⟨w.heap.size, 1, none⟩ (.slice oa1 r.length c1) (by simp)), H.out.2.1.keep (fun b hb hl => ⟨Nat.le_of_lt hb, by simpa using Nat.lt_of_lt_of_le hl HM3.out.size, heap_setCell_far _ (heap_setCell_far _ (HM3.out.block b hl (fun h => h)) (by omega)) (by omega)⟩)⟩
    | false =>
      go_wp2
      have hb1 := heap_setCells_all [.string { data := #[] }, .slice none 0 0] HR3.out rfl
      refine bodyPost_ret (v := .tuple #[.agg #[.string { data := #[] }, .slice none 0 0], .bool false]) (results_cell_row2 (fn := Tryz.f10) (p := 2) (q := 3) rfl _ _ w.heap.size 24 #[.string { data := #[] }, .slice none 0 0] (0, 0) _ rfl hb1 Tryz.underlying24 rfl (by kernel_rfl)) rfl ?_
      exact ⟨_, rfl, (Mod.setNew (Mod.setNew (H.out.1.trans HM3.out (fun _ h => Or.inl h)) ⟨w.heap.size, 0, none⟩ (.string { data := #[] }) (by simp)) ⟨w.heap.size, 1, none⟩ (.slice none 0 0) (by simp)), empty_pl _ _⟩
end
end Go.Proofs.YtpodeccpibnlbaaGreatDoor
