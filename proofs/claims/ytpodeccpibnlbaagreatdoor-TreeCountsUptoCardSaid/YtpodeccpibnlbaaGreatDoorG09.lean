/- EqualFunc at places and statements. EqualFunc at blocks. EqualFunc at structs, enums, functions. Equal at strings, variables, arms. -/
import Derived.Test.YtpodeccpibnlbaaGreatDoorG04
namespace Go.Proofs.YtpodeccpibnlbaaGreatDoor
set_option linter.unusedVariables false
set_option linter.unusedSimpArgs false
open Go.RowKit
section
variable {S : Nat → Prop} {w0 wV : World} {oa : Option Addr} {len cap : Nat}

set_option maxRecDepth 100000 in
set_option maxHeartbeats 2000000 in
theorem eqf_pl {l m : List Pl} (h : SR S w0 2 (plV S wV) oa len cap l) {ob : Option Addr} {lenb capb : Nat} (h2 : SR S w0 2 (plV S wV) ob lenb capb m) (f : Pl → Pl → Bool) (M : Nat) (hM : Fn M)
    (hf : ∀ v x v2 y, plV S wV v x → plV S wV v2 y → x ∈ l → y ∈ m → Ans M #[v, v2] w0 (.bool (f x y))) :
    Ans 156 #[.slice oa len cap, .slice ob lenb capb, .func (.func M) #[] #[]] w0 (.bool (allZ f l m)) := by
  intro w hw
  unfold Fn at hM
  have HF : Hd _ := ⟨hf⟩
  have HS : Hd _ := ⟨h⟩
  have HS2 : Hd _ := ⟨h2⟩
  have HW : Hd _ := ⟨hw⟩
  have hbig := h.hbig
  have hbig2 := h2.hbig
  have hlen := h.hlen
  have hlen2 := h2.hlen
  subst hlen
  subst hlen2
  clear hf h h2 hw
  obtain ⟨r, hr⟩ : ∃ r, allZ f l m = r := ⟨_, rfl⟩
  have HR : Hd _ := ⟨hr⟩
  rw [hr]
  clear hr
  by_cases hlm : l.length = m.length
  · have HL : Hd _ := ⟨hlm⟩
    rw [← hlm]
    rw [← hlm] at hbig2
    clear hlm
    go_enter Tryz.func156, Tryz.ntmps156
    go_wp2_with fail
    go_loopg [17] l.length (fun gk v17 wr => Hd (Mod (fun _ => False) w wr) ∧ ∃ k : Nat, v17 = .int .i64 k ∧ k + gk = l.length ∧ Hd (allZ f (l.drop k) (m.drop k) = r))
    case atStart => exact ⟨⟨Mod.refl _ _⟩, 0, rfl, by omega, ⟨by rw [← HR.out]; rfl⟩⟩
    case round =>
      obtain ⟨HM, k, rfl, hk, HI⟩ := hrel
      by_cases hlt : k < l.length
      · have hx0 : l[k]? = some l[k] := List.getElem?_eq_getElem (by omega)
        have hy0 : m[k]? = some (m[k]'(by have := HL.out; omega)) := List.getElem?_eq_getElem (by have := HL.out; omega)
        obtain ⟨x, hx⟩ : ∃ x, l[k]? = some x := ⟨_, hx0⟩
        obtain ⟨y, hy⟩ : ∃ y, m[k]? = some y := ⟨_, hy0⟩
        obtain ⟨b, o, oa1, la1, ca1, rfl, _, hb, e0, e1, hv⟩ := HS.out.pl hx
        obtain ⟨b2, o2, oa2, la2, ca2, rfl, _, hb2, g0, g1, hv2⟩ := HS2.out.pl hy
        have hmm := HW.out.trans HM.out (fun _ h => Or.inl h)
        have d0 : wr.cell? ⟨b, o + k * 2, none⟩ = some (.string x.loc) := by rw [← e0]; exact World.cell?_of_block (hmm.block b hb (fun h => h))
        have d1 : wr.cell? ⟨b, o + k * 2 + 1, none⟩ = some (.slice oa1 la1 ca1) := by rw [← e1]; exact World.cell?_of_block (hmm.block b hb (fun h => h))
        have f0 : ∀ O, (wr.alloc O).cell? ⟨b2, o2 + k * 2, none⟩ = some (.string y.loc) := fun O => Lib.cell?_alloc_some _ (by rw [← g0]; exact World.cell?_of_block (hmm.block b2 hb2 (fun h => h)))
        have f1 : ∀ O, (wr.alloc O).cell? ⟨b2, o2 + k * 2 + 1, none⟩ = some (.slice oa2 la2 ca2) := fun O => Lib.cell?_alloc_some _ (by rw [← g1]; exact World.cell?_of_block (hmm.block b2 hb2 (fun h => h)))
        have HC : Hd (∀ w', Mod (fun _ => False) wr w' → Calls Tryz.prog M #[_, _] w' _) := ⟨fun w' h' => HF.out _ x _ y hv hv2 (List.mem_of_getElem? hx) (List.mem_of_getElem? hy) w' (hmm.trans h' (fun _ h => Or.inl h))⟩
        have HX : Hd _ := ⟨hx⟩
        have HY : Hd _ := ⟨hy⟩
        clear hx0 hy0 hx hy hmm e0 e1 g0 g1 hv hv2 hb hb2
        go_wp2_with fail
        refine (HC.out _ (by first | exact Mod.refl _ _ | exact (Mod.alloc _ _ _).trans (Mod.alloc _ _ _) (fun _ h => Or.inl h))).mono ?_
        rintro e w2 ⟨rfl, hM2⟩
        have HM2 : Hd (Mod (fun _ => False) w w2) := ⟨HM.out.trans (by first | exact hM2 | exact ((Mod.alloc _ _ _).trans (Mod.alloc _ _ _) (fun _ h => Or.inl h)).trans hM2 (fun _ h => Or.inl h)) (fun _ h => Or.inl h)⟩
        clear hM2
        obtain ⟨q, hq⟩ : ∃ q, f x y = q := ⟨_, rfl⟩
        rw [hq]
        have HQ : Hd _ := ⟨hq⟩
        clear hq
        cases q with
        | false =>
          go_wp2
          go_ret
          exact ⟨by rw [← HI.out, allZ_miss HX.out HY.out HQ.out]; rfl, HM2.out⟩
        | true =>
          have HI2 : Hd (allZ f (l.drop (k + 1)) (m.drop (k + 1)) = r) := ⟨by rw [← HI.out, allZ_hit HX.out HY.out HQ.out]⟩
          go_wp2_with fail
          go_roundg (gk - 1)
          case measure => omega
          case rel => exact ⟨HM2, k + 1, by go_num, by omega, HI2⟩
      · have HI2 : Hd (r = true) := ⟨by rw [← HI.out]; exact allZ_end (by omega) (by have := HL.out; omega)⟩
        go_wp2
        go_ret
        exact ⟨by rw [HI2.out]; rfl, HM.out⟩
  · have HR2 : Hd (r = false) := ⟨by rw [← HR.out]; exact allZ_len f l m hlm⟩
    have hlm' : ¬ (l.length : Int) = (m.length : Int) := by omega
    go_enter Tryz.func156, Tryz.ntmps156
    go_wp2
    go_ret
    exact ⟨by rw [HR2.out]; rfl, Mod.refl _ _⟩

set_option maxRecDepth 100000 in
set_option maxHeartbeats 2000000 in
theorem eqf_stm {l m : List Stm} (h : SR S w0 8 (stmV S wV) oa len cap l) {ob : Option Addr} {lenb capb : Nat} (h2 : SR S w0 8 (stmV S wV) ob lenb capb m) (f : Stm → Stm → Bool) (M : Nat) (hM : Fn M)
    (hf : ∀ v x v2 y, stmV S wV v x → stmV S wV v2 y → x ∈ l → y ∈ m → Ans M #[v, v2] w0 (.bool (f x y))) :
    Ans 114 #[.slice oa len cap, .slice ob lenb capb, .func (.func M) #[] #[]] w0 (.bool (allZ f l m)) := by
  intro w hw
  unfold Fn at hM
  have HF : Hd _ := ⟨hf⟩
  have HS : Hd _ := ⟨h⟩
  have HS2 : Hd _ := ⟨h2⟩
  have HW : Hd _ := ⟨hw⟩
  have hbig := h.hbig
  have hbig2 := h2.hbig
  have hlen := h.hlen
  have hlen2 := h2.hlen
  subst hlen
  subst hlen2
  clear hf h h2 hw
  obtain ⟨r, hr⟩ : ∃ r, allZ f l m = r := ⟨_, rfl⟩
  have HR : Hd _ := ⟨hr⟩
  rw [hr]
  clear hr
  by_cases hlm : l.length = m.length
  · have HL : Hd _ := ⟨hlm⟩
    rw [← hlm]
    rw [← hlm] at hbig2
    clear hlm
    go_enter Tryz.func114, Tryz.ntmps114
    go_wp2_with fail
    go_loopg [17] l.length (fun gk v17 wr => Hd (Mod (fun _ => False) w wr) ∧ ∃ k : Nat, v17 = .int .i64 k ∧ k + gk = l.length ∧ Hd (allZ f (l.drop k) (m.drop k) = r))
    case atStart => exact ⟨⟨Mod.refl _ _⟩, 0, rfl, by omega, ⟨by rw [← HR.out]; rfl⟩⟩
    case round =>
      obtain ⟨HM, k, rfl, hk, HI⟩ := hrel
      by_cases hlt : k < l.length
      · have hx0 : l[k]? = some l[k] := List.getElem?_eq_getElem (by omega)
        have hy0 : m[k]? = some (m[k]'(by have := HL.out; omega)) := List.getElem?_eq_getElem (by have := HL.out; omega)
        obtain ⟨x, hx⟩ : ∃ x, l[k]? = some x := ⟨_, hx0⟩
        obtain ⟨y, hy⟩ : ∃ y, m[k]? = some y := ⟨_, hy0⟩
        obtain ⟨b, o, oa1, la1, ca1, ob1, lb1, cb1, rfl, _, hb, e0, e1, e2, e3, e4, e5, e6, e7, hv⟩ := HS.out.stm hx
        obtain ⟨b2, o2, oa2, la2, ca2, ob2, lb2, cb2, rfl, _, hb2, g0, g1, g2, g3, g4, g5, g6, g7, hv2⟩ := HS2.out.stm hy
        have hmm := HW.out.trans HM.out (fun _ h => Or.inl h)
        have d0 : wr.cell? ⟨b, o + k * 8, none⟩ = some (.int .i64 x.pos) := by rw [← e0]; exact World.cell?_of_block (hmm.block b hb (fun h => h))
        have d1 : wr.cell? ⟨b, o + k * 8 + 1, none⟩ = some (.int .i64 x.kind) := by rw [← e1]; exact World.cell?_of_block (hmm.block b hb (fun h => h))
        have d2 : wr.cell? ⟨b, o + k * 8 + 2, none⟩ = some (.string x.dest.loc) := by rw [← e2]; exact World.cell?_of_block (hmm.block b hb (fun h => h))
        have d3 : wr.cell? ⟨b, o + k * 8 + 3, none⟩ = some (.slice oa1 la1 ca1) := by rw [← e3]; exact World.cell?_of_block (hmm.block b hb (fun h => h))
        have d4 : wr.cell? ⟨b, o + k * 8 + 4, none⟩ = some (.int .i64 x.n) := by rw [← e4]; exact World.cell?_of_block (hmm.block b hb (fun h => h))
        have d5 : wr.cell? ⟨b, o + k * 8 + 5, none⟩ = some (.string x.name) := by rw [← e5]; exact World.cell?_of_block (hmm.block b hb (fun h => h))
        have d6 : wr.cell? ⟨b, o + k * 8 + 6, none⟩ = some (.string x.variant) := by rw [← e6]; exact World.cell?_of_block (hmm.block b hb (fun h => h))
        have d7 : wr.cell? ⟨b, o + k * 8 + 7, none⟩ = some (.slice ob1 lb1 cb1) := by rw [← e7]; exact World.cell?_of_block (hmm.block b hb (fun h => h))
        have f0 : ∀ O, (wr.alloc O).cell? ⟨b2, o2 + k * 8, none⟩ = some (.int .i64 y.pos) := fun O => Lib.cell?_alloc_some _ (by rw [← g0]; exact World.cell?_of_block (hmm.block b2 hb2 (fun h => h)))
        have f1 : ∀ O, (wr.alloc O).cell? ⟨b2, o2 + k * 8 + 1, none⟩ = some (.int .i64 y.kind) := fun O => Lib.cell?_alloc_some _ (by rw [← g1]; exact World.cell?_of_block (hmm.block b2 hb2 (fun h => h)))
        have f2 : ∀ O, (wr.alloc O).cell? ⟨b2, o2 + k * 8 + 2, none⟩ = some (.string y.dest.loc) := fun O => Lib.cell?_alloc_some _ (by rw [← g2]; exact World.cell?_of_block (hmm.block b2 hb2 (fun h => h)))
        have f3 : ∀ O, (wr.alloc O).cell? ⟨b2, o2 + k * 8 + 3, none⟩ = some (.slice oa2 la2 ca2) := fun O => Lib.cell?_alloc_some _ (by rw [← g3]; exact World.cell?_of_block (hmm.block b2 hb2 (fun h => h)))
        have f4 : ∀ O, (wr.alloc O).cell? ⟨b2, o2 + k * 8 + 4, none⟩ = some (.int .i64 y.n) := fun O => Lib.cell?_alloc_some _ (by rw [← g4]; exact World.cell?_of_block (hmm.block b2 hb2 (fun h => h)))
        have f5 : ∀ O, (wr.alloc O).cell? ⟨b2, o2 + k * 8 + 5, none⟩ = some (.string y.name) := fun O => Lib.cell?_alloc_some _ (by rw [← g5]; exact World.cell?_of_block (hmm.block b2 hb2 (fun h => h)))
        have f6 : ∀ O, (wr.alloc O).cell? ⟨b2, o2 + k * 8 + 6, none⟩ = some (.string y.variant) := fun O => Lib.cell?_alloc_some _ (by rw [← g6]; exact World.cell?_of_block (hmm.block b2 hb2 (fun h => h)))
        have f7 : ∀ O, (wr.alloc O).cell? ⟨b2, o2 + k * 8 + 7, none⟩ = some (.slice ob2 lb2 cb2) := fun O => Lib.cell?_alloc_some _ (by rw [← g7]; exact World.cell?_of_block (hmm.block b2 hb2 (fun h => h)))
        have HC : Hd (∀ w', Mod (fun _ => False) wr w' → Calls Tryz.prog M #[_, _] w' _) := ⟨fun w' h' => HF.out _ x _ y hv hv2 (List.mem_of_getElem? hx) (List.mem_of_getElem? hy) w' (hmm.trans h' (fun _ h => Or.inl h))⟩
        have HX : Hd _ := ⟨hx⟩
        have HY : Hd _ := ⟨hy⟩
        clear hx0 hy0 hx hy hmm e0 e1 e2 e3 e4 e5 e6 e7 g0 g1 g2 g3 g4 g5 g6 g7 hv hv2 hb hb2
        go_wp2_with fail
        refine (HC.out _ (by first | exact Mod.refl _ _ | exact (Mod.alloc _ _ _).trans (Mod.alloc _ _ _) (fun _ h => Or.inl h))).mono ?_
        rintro e w2 ⟨rfl, hM2⟩
        have HM2 : Hd (Mod (fun _ => False) w w2) := ⟨HM.out.trans (by first | exact hM2 | exact ((Mod.alloc _ _ _).trans (Mod.alloc _ _ _) (fun _ h => Or.inl h)).trans hM2 (fun _ h => Or.inl h)) (fun _ h => Or.inl h)⟩
        clear hM2
        obtain ⟨q, hq⟩ : ∃ q, f x y = q := ⟨_, rfl⟩
        rw [hq]
        have HQ : Hd _ := ⟨hq⟩
        clear hq
        cases q with
        | false =>
          go_wp2
          go_ret
          exact ⟨by rw [← HI.out, allZ_miss HX.out HY.out HQ.out]; rfl, HM2.out⟩
        | true =>
          have HI2 : Hd (allZ f (l.drop (k + 1)) (m.drop (k + 1)) = r) := ⟨by rw [← HI.out, allZ_hit HX.out HY.out HQ.out]⟩
          go_wp2_with fail
          go_roundg (gk - 1)
          case measure => omega
          case rel => exact ⟨HM2, k + 1, by go_num, by omega, HI2⟩
      · have HI2 : Hd (r = true) := ⟨by rw [← HI.out]; exact allZ_end (by omega) (by have := HL.out; omega)⟩
        go_wp2
        go_ret
        exact ⟨by rw [HI2.out]; rfl, HM.out⟩
  · have HR2 : Hd (r = false) := ⟨by rw [← HR.out]; exact allZ_len f l m hlm⟩
    have hlm' : ¬ (l.length : Int) = (m.length : Int) := by omega
    go_enter Tryz.func114, Tryz.ntmps114
    go_wp2
    go_ret
    exact ⟨by rw [HR2.out]; rfl, Mod.refl _ _⟩
end
end Go.Proofs.YtpodeccpibnlbaaGreatDoor
namespace Go.Proofs.YtpodeccpibnlbaaGreatDoor
set_option linter.unusedVariables false
set_option linter.unusedSimpArgs false
open Go.RowKit
section
variable {S : Nat → Prop} {w0 wV : World} {oa : Option Addr} {len cap : Nat}

set_option maxRecDepth 100000 in
set_option maxHeartbeats 2000000 in
theorem eqf_blk {l m : List Blk} (h : SR S w0 11 (blkV S wV) oa len cap l) {ob : Option Addr} {lenb capb : Nat} (h2 : SR S w0 11 (blkV S wV) ob lenb capb m) (f : Blk → Blk → Bool) (M : Nat) (hM : Fn M)
    (hf : ∀ v x v2 y, blkV S wV v x → blkV S wV v2 y → x ∈ l → y ∈ m → Ans M #[v, v2] w0 (.bool (f x y))) :
    Ans 112 #[.slice oa len cap, .slice ob lenb capb, .func (.func M) #[] #[]] w0 (.bool (allZ f l m)) := by
  intro w hw
  unfold Fn at hM
  have HF : Hd _ := ⟨hf⟩
  have HS : Hd _ := ⟨h⟩
  have HS2 : Hd _ := ⟨h2⟩
  have HW : Hd _ := ⟨hw⟩
  have hbig := h.hbig
  have hbig2 := h2.hbig
  have hlen := h.hlen
  have hlen2 := h2.hlen
  subst hlen
  subst hlen2
  clear hf h h2 hw
  obtain ⟨r, hr⟩ : ∃ r, allZ f l m = r := ⟨_, rfl⟩
  have HR : Hd _ := ⟨hr⟩
  rw [hr]
  clear hr
  by_cases hlm : l.length = m.length
  · have HL : Hd _ := ⟨hlm⟩
    rw [← hlm]
    rw [← hlm] at hbig2
    clear hlm
    go_enter Tryz.func112, Tryz.ntmps112
    go_wp2_with fail
    go_loopg [17] l.length (fun gk v17 wr => Hd (Mod (fun _ => False) w wr) ∧ ∃ k : Nat, v17 = .int .i64 k ∧ k + gk = l.length ∧ Hd (allZ f (l.drop k) (m.drop k) = r))
    case atStart => exact ⟨⟨Mod.refl _ _⟩, 0, rfl, by omega, ⟨by rw [← HR.out]; rfl⟩⟩
    case round =>
      obtain ⟨HM, k, rfl, hk, HI⟩ := hrel
      by_cases hlt : k < l.length
      · have hx0 : l[k]? = some l[k] := List.getElem?_eq_getElem (by omega)
        have hy0 : m[k]? = some (m[k]'(by have := HL.out; omega)) := List.getElem?_eq_getElem (by have := HL.out; omega)
        obtain ⟨x, hx⟩ : ∃ x, l[k]? = some x := ⟨_, hx0⟩
        obtain ⟨y, hy⟩ : ∃ y, m[k]? = some y := ⟨_, hy0⟩
        obtain ⟨b, o, oa1, la1, ca1, ob1, lb1, cb1, oc1, lc1, cc1, od1, ld1, cd1, oe1, le1, ce1, rfl, _, hb, e0, e1, e2, e3, e4, e5, e6, e7, e8, e9, e10, hv⟩ := HS.out.blk hx
        obtain ⟨b2, o2, oa2, la2, ca2, ob2, lb2, cb2, oc2, lc2, cc2, od2, ld2, cd2, oe2, le2, ce2, rfl, _, hb2, g0, g1, g2, g3, g4, g5, g6, g7, g8, g9, g10, hv2⟩ := HS2.out.blk hy
        have hmm := HW.out.trans HM.out (fun _ h => Or.inl h)
        have d0 : wr.cell? ⟨b, o + k * 11, none⟩ = some (.int .i64 x.pos) := by rw [← e0]; exact World.cell?_of_block (hmm.block b hb (fun h => h))
        have d1 : wr.cell? ⟨b, o + k * 11 + 1, none⟩ = some (.string x.name) := by rw [← e1]; exact World.cell?_of_block (hmm.block b hb (fun h => h))
        have d2 : wr.cell? ⟨b, o + k * 11 + 2, none⟩ = some (.slice oa1 la1 ca1) := by rw [← e2]; exact World.cell?_of_block (hmm.block b hb (fun h => h))
        have d3 : wr.cell? ⟨b, o + k * 11 + 3, none⟩ = some (.int .i64 x.term.pos) := by rw [← e3]; exact World.cell?_of_block (hmm.block b hb (fun h => h))
        have d4 : wr.cell? ⟨b, o + k * 11 + 4, none⟩ = some (.int .i64 x.term.kind) := by rw [← e4]; exact World.cell?_of_block (hmm.block b hb (fun h => h))
        have d5 : wr.cell? ⟨b, o + k * 11 + 5, none⟩ = some (.string x.term.dest.loc) := by rw [← e5]; exact World.cell?_of_block (hmm.block b hb (fun h => h))
        have d6 : wr.cell? ⟨b, o + k * 11 + 6, none⟩ = some (.slice ob1 lb1 cb1) := by rw [← e6]; exact World.cell?_of_block (hmm.block b hb (fun h => h))
        have d7 : wr.cell? ⟨b, o + k * 11 + 7, none⟩ = some (.string x.term.name) := by rw [← e7]; exact World.cell?_of_block (hmm.block b hb (fun h => h))
        have d8 : wr.cell? ⟨b, o + k * 11 + 8, none⟩ = some (.slice oc1 lc1 cc1) := by rw [← e8]; exact World.cell?_of_block (hmm.block b hb (fun h => h))
        have d9 : wr.cell? ⟨b, o + k * 11 + 9, none⟩ = some (.slice od1 ld1 cd1) := by rw [← e9]; exact World.cell?_of_block (hmm.block b hb (fun h => h))
        have d10 : wr.cell? ⟨b, o + k * 11 + 10, none⟩ = some (.slice oe1 le1 ce1) := by rw [← e10]; exact World.cell?_of_block (hmm.block b hb (fun h => h))
        have f0 : ∀ O, (wr.alloc O).cell? ⟨b2, o2 + k * 11, none⟩ = some (.int .i64 y.pos) := fun O => Lib.cell?_alloc_some _ (by rw [← g0]; exact World.cell?_of_block (hmm.block b2 hb2 (fun h => h)))
        have f1 : ∀ O, (wr.alloc O).cell? ⟨b2, o2 + k * 11 + 1, none⟩ = some (.string y.name) := fun O => Lib.cell?_alloc_some _ (by rw [← g1]; exact World.cell?_of_block (hmm.block b2 hb2 (fun h => h)))
        have f2 : ∀ O, (wr.alloc O).cell? ⟨b2, o2 + k * 11 + 2, none⟩ = some (.slice oa2 la2 ca2) := fun O => Lib.cell?_alloc_some _ (by rw [← g2]; exact World.cell?_of_block (hmm.block b2 hb2 (fun h => h)))
        have f3 : ∀ O, (wr.alloc O).cell? ⟨b2, o2 + k * 11 + 3, none⟩ = some (.int .i64 y.term.pos) := fun O => Lib.cell?_alloc_some _ (by rw [← g3]; exact World.cell?_of_block (hmm.block b2 hb2 (fun h => h)))
        have f4 : ∀ O, (wr.alloc O).cell? ⟨b2, o2 + k * 11 + 4, none⟩ = some (.int .i64 y.term.kind) := fun O => Lib.cell?_alloc_some _ (by rw [← g4]; exact World.cell?_of_block (hmm.block b2 hb2 (fun h => h)))
        have f5 : ∀ O, (wr.alloc O).cell? ⟨b2, o2 + k * 11 + 5, none⟩ = some (.string y.term.dest.loc) := fun O => Lib.cell?_alloc_some _ (by rw [← g5]; exact World.cell?_of_block (hmm.block b2 hb2 (fun h => h)))
        have f6 : ∀ O, (wr.alloc O).cell? ⟨b2, o2 + k * 11 + 6, none⟩ = some (.slice ob2 lb2 cb2) := fun O => Lib.cell?_alloc_some _ (by rw [← g6]; exact World.cell?_of_block (hmm.block b2 hb2 (fun h => h)))
        have f7 : ∀ O, (wr.alloc O).cell? ⟨b2, o2 + k * 11 + 7, none⟩ = some (.string y.term.name) := fun O => Lib.cell?_alloc_some _ (by rw [← g7]; exact World.cell?_of_block (hmm.block b2 hb2 (fun h => h)))
        have f8 : ∀ O, (wr.alloc O).cell? ⟨b2, o2 + k * 11 + 8, none⟩ = some (.slice oc2 lc2 cc2) := fun O => Lib.cell?_alloc_some _ (by rw [← g8]; exact World.cell?_of_block (hmm.block b2 hb2 (fun h => h)))
        have f9 : ∀ O, (wr.alloc O).cell? ⟨b2, o2 + k * 11 + 9, none⟩ = some (.slice od2 ld2 cd2) := fun O => Lib.cell?_alloc_some _ (by rw [← g9]; exact World.cell?_of_block (hmm.block b2 hb2 (fun h => h)))
        have f10 : ∀ O, (wr.alloc O).cell? ⟨b2, o2 + k * 11 + 10, none⟩ = some (.slice oe2 le2 ce2) := fun O => Lib.cell?_alloc_some _ (by rw [← g10]; exact World.cell?_of_block (hmm.block b2 hb2 (fun h => h)))
        have HC : Hd (∀ w', Mod (fun _ => False) wr w' → Calls Tryz.prog M #[_, _] w' _) := ⟨fun w' h' => HF.out _ x _ y hv hv2 (List.mem_of_getElem? hx) (List.mem_of_getElem? hy) w' (hmm.trans h' (fun _ h => Or.inl h))⟩
        have HX : Hd _ := ⟨hx⟩
        have HY : Hd _ := ⟨hy⟩
        clear hx0 hy0 hx hy hmm e0 e1 e2 e3 e4 e5 e6 e7 e8 e9 e10 g0 g1 g2 g3 g4 g5 g6 g7 g8 g9 g10 hv hv2 hb hb2
        go_wp2_with fail
        refine (HC.out _ (by first | exact Mod.refl _ _ | exact (Mod.alloc _ _ _).trans (Mod.alloc _ _ _) (fun _ h => Or.inl h))).mono ?_
        rintro e w2 ⟨rfl, hM2⟩
        have HM2 : Hd (Mod (fun _ => False) w w2) := ⟨HM.out.trans (by first | exact hM2 | exact ((Mod.alloc _ _ _).trans (Mod.alloc _ _ _) (fun _ h => Or.inl h)).trans hM2 (fun _ h => Or.inl h)) (fun _ h => Or.inl h)⟩
        clear hM2
        obtain ⟨q, hq⟩ : ∃ q, f x y = q := ⟨_, rfl⟩
        rw [hq]
        have HQ : Hd _ := ⟨hq⟩
        clear hq
        cases q with
        | false =>
          go_wp2
          go_ret
          exact ⟨by rw [← HI.out, allZ_miss HX.out HY.out HQ.out]; rfl, HM2.out⟩
        | true =>
          have HI2 : Hd (allZ f (l.drop (k + 1)) (m.drop (k + 1)) = r) := ⟨by rw [← HI.out, allZ_hit HX.out HY.out HQ.out]⟩
          go_wp2_with fail
          go_roundg (gk - 1)
          case measure => omega
          case rel => exact ⟨HM2, k + 1, by go_num, by omega, HI2⟩
      · have HI2 : Hd (r = true) := ⟨by rw [← HI.out]; exact allZ_end (by omega) (by have := HL.out; omega)⟩
        go_wp2
        go_ret
        exact ⟨by rw [HI2.out]; rfl, HM.out⟩
  · have HR2 : Hd (r = false) := ⟨by rw [← HR.out]; exact allZ_len f l m hlm⟩
    have hlm' : ¬ (l.length : Int) = (m.length : Int) := by omega
    go_enter Tryz.func112, Tryz.ntmps112
    go_wp2
    go_ret
    exact ⟨by rw [HR2.out]; rfl, Mod.refl _ _⟩
end
end Go.Proofs.YtpodeccpibnlbaaGreatDoor
namespace Go.Proofs.YtpodeccpibnlbaaGreatDoor
set_option linter.unusedVariables false
set_option linter.unusedSimpArgs false
open Go.RowKit
section
variable {S : Nat → Prop} {w0 wV : World} {oa : Option Addr} {len cap : Nat}

set_option maxRecDepth 100000 in
set_option maxHeartbeats 2000000 in
theorem eqf_sct {l m : List Sct} (h : SR S w0 5 (sctV S wV) oa len cap l) {ob : Option Addr} {lenb capb : Nat} (h2 : SR S w0 5 (sctV S wV) ob lenb capb m) (f : Sct → Sct → Bool) (M : Nat) (hM : Fn M)
    (hf : ∀ v x v2 y, sctV S wV v x → sctV S wV v2 y → x ∈ l → y ∈ m → Ans M #[v, v2] w0 (.bool (f x y))) :
    Ans 61 #[.slice oa len cap, .slice ob lenb capb, .func (.func M) #[] #[]] w0 (.bool (allZ f l m)) := by
  intro w hw
  unfold Fn at hM
  have HF : Hd _ := ⟨hf⟩
  have HS : Hd _ := ⟨h⟩
  have HS2 : Hd _ := ⟨h2⟩
  have HW : Hd _ := ⟨hw⟩
  have hbig := h.hbig
  have hbig2 := h2.hbig
  have hlen := h.hlen
  have hlen2 := h2.hlen
  subst hlen
  subst hlen2
  clear hf h h2 hw
  obtain ⟨r, hr⟩ : ∃ r, allZ f l m = r := ⟨_, rfl⟩
  have HR : Hd _ := ⟨hr⟩
  rw [hr]
  clear hr
  by_cases hlm : l.length = m.length
  · have HL : Hd _ := ⟨hlm⟩
    rw [← hlm]
    rw [← hlm] at hbig2
    clear hlm
    go_enter Tryz.func61, Tryz.ntmps61
    go_wp2_with fail
    go_loopg [17] l.length (fun gk v17 wr => Hd (Mod (fun _ => False) w wr) ∧ ∃ k : Nat, v17 = .int .i64 k ∧ k + gk = l.length ∧ Hd (allZ f (l.drop k) (m.drop k) = r))
    case atStart => exact ⟨⟨Mod.refl _ _⟩, 0, rfl, by omega, ⟨by rw [← HR.out]; rfl⟩⟩
    case round =>
      obtain ⟨HM, k, rfl, hk, HI⟩ := hrel
      by_cases hlt : k < l.length
      · have hx0 : l[k]? = some l[k] := List.getElem?_eq_getElem (by omega)
        have hy0 : m[k]? = some (m[k]'(by have := HL.out; omega)) := List.getElem?_eq_getElem (by have := HL.out; omega)
        obtain ⟨x, hx⟩ : ∃ x, l[k]? = some x := ⟨_, hx0⟩
        obtain ⟨y, hy⟩ : ∃ y, m[k]? = some y := ⟨_, hy0⟩
        obtain ⟨b, o, oa1, la1, ca1, rfl, _, hb, e0, e1, e2, e3, e4, hv⟩ := HS.out.sct hx
        obtain ⟨b2, o2, oa2, la2, ca2, rfl, _, hb2, g0, g1, g2, g3, g4, hv2⟩ := HS2.out.sct hy
        have hmm := HW.out.trans HM.out (fun _ h => Or.inl h)
        have d0 : wr.cell? ⟨b, o + k * 5, none⟩ = some (.int .i64 x.pos) := by rw [← e0]; exact World.cell?_of_block (hmm.block b hb (fun h => h))
        have d1 : wr.cell? ⟨b, o + k * 5 + 1, none⟩ = some (.string x.name) := by rw [← e1]; exact World.cell?_of_block (hmm.block b hb (fun h => h))
        have d2 : wr.cell? ⟨b, o + k * 5 + 2, none⟩ = some (.bool x.safe) := by rw [← e2]; exact World.cell?_of_block (hmm.block b hb (fun h => h))
        have d3 : wr.cell? ⟨b, o + k * 5 + 3, none⟩ = some (.bool x.hook) := by rw [← e3]; exact World.cell?_of_block (hmm.block b hb (fun h => h))
        have d4 : wr.cell? ⟨b, o + k * 5 + 4, none⟩ = some (.slice oa1 la1 ca1) := by rw [← e4]; exact World.cell?_of_block (hmm.block b hb (fun h => h))
        have f0 : ∀ O, (wr.alloc O).cell? ⟨b2, o2 + k * 5, none⟩ = some (.int .i64 y.pos) := fun O => Lib.cell?_alloc_some _ (by rw [← g0]; exact World.cell?_of_block (hmm.block b2 hb2 (fun h => h)))
        have f1 : ∀ O, (wr.alloc O).cell? ⟨b2, o2 + k * 5 + 1, none⟩ = some (.string y.name) := fun O => Lib.cell?_alloc_some _ (by rw [← g1]; exact World.cell?_of_block (hmm.block b2 hb2 (fun h => h)))
        have f2 : ∀ O, (wr.alloc O).cell? ⟨b2, o2 + k * 5 + 2, none⟩ = some (.bool y.safe) := fun O => Lib.cell?_alloc_some _ (by rw [← g2]; exact World.cell?_of_block (hmm.block b2 hb2 (fun h => h)))
        have f3 : ∀ O, (wr.alloc O).cell? ⟨b2, o2 + k * 5 + 3, none⟩ = some (.bool y.hook) := fun O => Lib.cell?_alloc_some _ (by rw [← g3]; exact World.cell?_of_block (hmm.block b2 hb2 (fun h => h)))
        have f4 : ∀ O, (wr.alloc O).cell? ⟨b2, o2 + k * 5 + 4, none⟩ = some (.slice oa2 la2 ca2) := fun O => Lib.cell?_alloc_some _ (by rw [← g4]; exact World.cell?_of_block (hmm.block b2 hb2 (fun h => h)))
        have HC : Hd (∀ w', Mod (fun _ => False) wr w' → Calls Tryz.prog M #[_, _] w' _) := ⟨fun w' h' => HF.out _ x _ y hv hv2 (List.mem_of_getElem? hx) (List.mem_of_getElem? hy) w' (hmm.trans h' (fun _ h => Or.inl h))⟩
        have HX : Hd _ := ⟨hx⟩
        have HY : Hd _ := ⟨hy⟩
        clear hx0 hy0 hx hy hmm e0 e1 e2 e3 e4 g0 g1 g2 g3 g4 hv hv2 hb hb2
        go_wp2_with fail
        refine (HC.out _ (by first | exact Mod.refl _ _ | exact (Mod.alloc _ _ _).trans (Mod.alloc _ _ _) (fun _ h => Or.inl h))).mono ?_
        rintro e w2 ⟨rfl, hM2⟩
        have HM2 : Hd (Mod (fun _ => False) w w2) := ⟨HM.out.trans (by first | exact hM2 | exact ((Mod.alloc _ _ _).trans (Mod.alloc _ _ _) (fun _ h => Or.inl h)).trans hM2 (fun _ h => Or.inl h)) (fun _ h => Or.inl h)⟩
        clear hM2
        obtain ⟨q, hq⟩ : ∃ q, f x y = q := ⟨_, rfl⟩
        rw [hq]
        have HQ : Hd _ := ⟨hq⟩
        clear hq
        cases q with
        | false =>
          go_wp2
          go_ret
          exact ⟨by rw [← HI.out, allZ_miss HX.out HY.out HQ.out]; rfl, HM2.out⟩
        | true =>
          have HI2 : Hd (allZ f (l.drop (k + 1)) (m.drop (k + 1)) = r) := ⟨by rw [← HI.out, allZ_hit HX.out HY.out HQ.out]⟩
          go_wp2_with fail
          go_roundg (gk - 1)
          case measure => omega
          case rel => exact ⟨HM2, k + 1, by go_num, by omega, HI2⟩
      · have HI2 : Hd (r = true) := ⟨by rw [← HI.out]; exact allZ_end (by omega) (by have := HL.out; omega)⟩
        go_wp2
        go_ret
        exact ⟨by rw [HI2.out]; rfl, HM.out⟩
  · have HR2 : Hd (r = false) := ⟨by rw [← HR.out]; exact allZ_len f l m hlm⟩
    have hlm' : ¬ (l.length : Int) = (m.length : Int) := by omega
    go_enter Tryz.func61, Tryz.ntmps61
    go_wp2
    go_ret
    exact ⟨by rw [HR2.out]; rfl, Mod.refl _ _⟩

set_option maxRecDepth 100000 in
set_option maxHeartbeats 2000000 in
theorem eqf_enm {l m : List Enm} (h : SR S w0 3 (enmV S wV) oa len cap l) {ob : Option Addr} {lenb capb : Nat} (h2 : SR S w0 3 (enmV S wV) ob lenb capb m) (f : Enm → Enm → Bool) (M : Nat) (hM : Fn M)
    (hf : ∀ v x v2 y, enmV S wV v x → enmV S wV v2 y → x ∈ l → y ∈ m → Ans M #[v, v2] w0 (.bool (f x y))) :
    Ans 64 #[.slice oa len cap, .slice ob lenb capb, .func (.func M) #[] #[]] w0 (.bool (allZ f l m)) := by
  intro w hw
  unfold Fn at hM
  have HF : Hd _ := ⟨hf⟩
  have HS : Hd _ := ⟨h⟩
  have HS2 : Hd _ := ⟨h2⟩
  have HW : Hd _ := ⟨hw⟩
  have hbig := h.hbig
  have hbig2 := h2.hbig
  have hlen := h.hlen
  have hlen2 := h2.hlen
  subst hlen
  subst hlen2
  clear hf h h2 hw
  obtain ⟨r, hr⟩ : ∃ r, allZ f l m = r := ⟨_, rfl⟩
  have HR : Hd _ := ⟨hr⟩
  rw [hr]
  clear hr
  by_cases hlm : l.length = m.length
  · have HL : Hd _ := ⟨hlm⟩
    rw [← hlm]
    rw [← hlm] at hbig2
    clear hlm
    go_enter Tryz.func64, Tryz.ntmps64
    go_wp2_with fail
    go_loopg [17] l.length (fun gk v17 wr => Hd (Mod (fun _ => False) w wr) ∧ ∃ k : Nat, v17 = .int .i64 k ∧ k + gk = l.length ∧ Hd (allZ f (l.drop k) (m.drop k) = r))
    case atStart => exact ⟨⟨Mod.refl _ _⟩, 0, rfl, by omega, ⟨by rw [← HR.out]; rfl⟩⟩
    case round =>
      obtain ⟨HM, k, rfl, hk, HI⟩ := hrel
      by_cases hlt : k < l.length
      · have hx0 : l[k]? = some l[k] := List.getElem?_eq_getElem (by omega)
        have hy0 : m[k]? = some (m[k]'(by have := HL.out; omega)) := List.getElem?_eq_getElem (by have := HL.out; omega)
        obtain ⟨x, hx⟩ : ∃ x, l[k]? = some x := ⟨_, hx0⟩
        obtain ⟨y, hy⟩ : ∃ y, m[k]? = some y := ⟨_, hy0⟩
        obtain ⟨b, o, oa1, la1, ca1, rfl, _, hb, e0, e1, e2, hv⟩ := HS.out.enm hx
        obtain ⟨b2, o2, oa2, la2, ca2, rfl, _, hb2, g0, g1, g2, hv2⟩ := HS2.out.enm hy
        have hmm := HW.out.trans HM.out (fun _ h => Or.inl h)
        have d0 : wr.cell? ⟨b, o + k * 3, none⟩ = some (.int .i64 x.pos) := by rw [← e0]; exact World.cell?_of_block (hmm.block b hb (fun h => h))
        have d1 : wr.cell? ⟨b, o + k * 3 + 1, none⟩ = some (.string x.name) := by rw [← e1]; exact World.cell?_of_block (hmm.block b hb (fun h => h))
        have d2 : wr.cell? ⟨b, o + k * 3 + 2, none⟩ = some (.slice oa1 la1 ca1) := by rw [← e2]; exact World.cell?_of_block (hmm.block b hb (fun h => h))
        have f0 : ∀ O, (wr.alloc O).cell? ⟨b2, o2 + k * 3, none⟩ = some (.int .i64 y.pos) := fun O => Lib.cell?_alloc_some _ (by rw [← g0]; exact World.cell?_of_block (hmm.block b2 hb2 (fun h => h)))
        have f1 : ∀ O, (wr.alloc O).cell? ⟨b2, o2 + k * 3 + 1, none⟩ = some (.string y.name) := fun O => Lib.cell?_alloc_some _ (by rw [← g1]; exact World.cell?_of_block (hmm.block b2 hb2 (fun h => h)))
        have f2 : ∀ O, (wr.alloc O).cell? ⟨b2, o2 + k * 3 + 2, none⟩ = some (.slice oa2 la2 ca2) := fun O => Lib.cell?_alloc_some _ (by rw [← g2]; exact World.cell?_of_block (hmm.block b2 hb2 (fun h => h)))
        have HC : Hd (∀ w', Mod (fun _ => False) wr w' → Calls Tryz.prog M #[_, _] w' _) := ⟨fun w' h' => HF.out _ x _ y hv hv2 (List.mem_of_getElem? hx) (List.mem_of_getElem? hy) w' (hmm.trans h' (fun _ h => Or.inl h))⟩
        have HX : Hd _ := ⟨hx⟩
        have HY : Hd _ := ⟨hy⟩
        clear hx0 hy0 hx hy hmm e0 e1 e2 g0 g1 g2 hv hv2 hb hb2
        go_wp2_with fail
        refine (HC.out _ (by first | exact Mod.refl _ _ | exact (Mod.alloc _ _ _).trans (Mod.alloc _ _ _) (fun _ h => Or.inl h))).mono ?_
        rintro e w2 ⟨rfl, hM2⟩
        have HM2 : Hd (Mod (fun _ => False) w w2) := ⟨HM.out.trans (by first | exact hM2 | exact ((Mod.alloc _ _ _).trans (Mod.alloc _ _ _) (fun _ h => Or.inl h)).trans hM2 (fun _ h => Or.inl h)) (fun _ h => Or.inl h)⟩
        clear hM2
        obtain ⟨q, hq⟩ : ∃ q, f x y = q := ⟨_, rfl⟩
        rw [hq]
        have HQ : Hd _ := ⟨hq⟩
        clear hq
        cases q with
        | false =>
          go_wp2
          go_ret
          exact ⟨by rw [← HI.out, allZ_miss HX.out HY.out HQ.out]; rfl, HM2.out⟩
        | true =>
          have HI2 : Hd (allZ f (l.drop (k + 1)) (m.drop (k + 1)) = r) := ⟨by rw [← HI.out, allZ_hit HX.out HY.out HQ.out]⟩
          go_wp2_with fail
          go_roundg (gk - 1)
          case measure => omega
          case rel => exact ⟨HM2, k + 1, by go_num, by omega, HI2⟩
      · have HI2 : Hd (r = true) := ⟨by rw [← HI.out]; exact allZ_end (by omega) (by have := HL.out; omega)⟩
        go_wp2
        go_ret
        exact ⟨by rw [HI2.out]; rfl, HM.out⟩
  · have HR2 : Hd (r = false) := ⟨by rw [← HR.out]; exact allZ_len f l m hlm⟩
    have hlm' : ¬ (l.length : Int) = (m.length : Int) := by omega
    go_enter Tryz.func64, Tryz.ntmps64
    go_wp2
    go_ret
    exact ⟨by rw [HR2.out]; rfl, Mod.refl _ _⟩

set_option maxRecDepth 100000 in
set_option maxHeartbeats 2000000 in
theorem eqf_fun {l m : List Fun} (h : SR S w0 6 (funV S wV) oa len cap l) {ob : Option Addr} {lenb capb : Nat} (h2 : SR S w0 6 (funV S wV) ob lenb capb m) (f : Fun → Fun → Bool) (M : Nat) (hM : Fn M)
    (hf : ∀ v x v2 y, funV S wV v x → funV S wV v2 y → x ∈ l → y ∈ m → Ans M #[v, v2] w0 (.bool (f x y))) :
    Ans 66 #[.slice oa len cap, .slice ob lenb capb, .func (.func M) #[] #[]] w0 (.bool (allZ f l m)) := by
  intro w hw
  unfold Fn at hM
  have HF : Hd _ := ⟨hf⟩
  have HS : Hd _ := ⟨h⟩
  have HS2 : Hd _ := ⟨h2⟩
  have HW : Hd _ := ⟨hw⟩
  have hbig := h.hbig
  have hbig2 := h2.hbig
  have hlen := h.hlen
  have hlen2 := h2.hlen
  subst hlen
  subst hlen2
  clear hf h h2 hw
  obtain ⟨r, hr⟩ : ∃ r, allZ f l m = r := ⟨_, rfl⟩
  have HR : Hd _ := ⟨hr⟩
  rw [hr]
  clear hr
  by_cases hlm : l.length = m.length
  · have HL : Hd _ := ⟨hlm⟩
    rw [← hlm]
    rw [← hlm] at hbig2
    clear hlm
    go_enter Tryz.func66, Tryz.ntmps66
    go_wp2_with fail
    go_loopg [17] l.length (fun gk v17 wr => Hd (Mod (fun _ => False) w wr) ∧ ∃ k : Nat, v17 = .int .i64 k ∧ k + gk = l.length ∧ Hd (allZ f (l.drop k) (m.drop k) = r))
    case atStart => exact ⟨⟨Mod.refl _ _⟩, 0, rfl, by omega, ⟨by rw [← HR.out]; rfl⟩⟩
    case round =>
      obtain ⟨HM, k, rfl, hk, HI⟩ := hrel
      by_cases hlt : k < l.length
      · have hx0 : l[k]? = some l[k] := List.getElem?_eq_getElem (by omega)
        have hy0 : m[k]? = some (m[k]'(by have := HL.out; omega)) := List.getElem?_eq_getElem (by have := HL.out; omega)
        obtain ⟨x, hx⟩ : ∃ x, l[k]? = some x := ⟨_, hx0⟩
        obtain ⟨y, hy⟩ : ∃ y, m[k]? = some y := ⟨_, hy0⟩
        obtain ⟨b, o, oa1, la1, ca1, ob1, lb1, cb1, oc1, lc1, cc1, rfl, _, hb, e0, e1, e2, e3, e4, e5, hv⟩ := HS.out.fun hx
        obtain ⟨b2, o2, oa2, la2, ca2, ob2, lb2, cb2, oc2, lc2, cc2, rfl, _, hb2, g0, g1, g2, g3, g4, g5, hv2⟩ := HS2.out.fun hy
        have hmm := HW.out.trans HM.out (fun _ h => Or.inl h)
        have d0 : wr.cell? ⟨b, o + k * 6, none⟩ = some (.int .i64 x.pos) := by rw [← e0]; exact World.cell?_of_block (hmm.block b hb (fun h => h))
        have d1 : wr.cell? ⟨b, o + k * 6 + 1, none⟩ = some (.string x.name) := by rw [← e1]; exact World.cell?_of_block (hmm.block b hb (fun h => h))
        have d2 : wr.cell? ⟨b, o + k * 6 + 2, none⟩ = some (.slice oa1 la1 ca1) := by rw [← e2]; exact World.cell?_of_block (hmm.block b hb (fun h => h))
        have d3 : wr.cell? ⟨b, o + k * 6 + 3, none⟩ = some (.slice ob1 lb1 cb1) := by rw [← e3]; exact World.cell?_of_block (hmm.block b hb (fun h => h))
        have d4 : wr.cell? ⟨b, o + k * 6 + 4, none⟩ = some (.string x.result) := by rw [← e4]; exact World.cell?_of_block (hmm.block b hb (fun h => h))
        have d5 : wr.cell? ⟨b, o + k * 6 + 5, none⟩ = some (.slice oc1 lc1 cc1) := by rw [← e5]; exact World.cell?_of_block (hmm.block b hb (fun h => h))
        have f0 : ∀ O, (wr.alloc O).cell? ⟨b2, o2 + k * 6, none⟩ = some (.int .i64 y.pos) := fun O => Lib.cell?_alloc_some _ (by rw [← g0]; exact World.cell?_of_block (hmm.block b2 hb2 (fun h => h)))
        have f1 : ∀ O, (wr.alloc O).cell? ⟨b2, o2 + k * 6 + 1, none⟩ = some (.string y.name) := fun O => Lib.cell?_alloc_some _ (by rw [← g1]; exact World.cell?_of_block (hmm.block b2 hb2 (fun h => h)))
        have f2 : ∀ O, (wr.alloc O).cell? ⟨b2, o2 + k * 6 + 2, none⟩ = some (.slice oa2 la2 ca2) := fun O => Lib.cell?_alloc_some _ (by rw [← g2]; exact World.cell?_of_block (hmm.block b2 hb2 (fun h => h)))
        have f3 : ∀ O, (wr.alloc O).cell? ⟨b2, o2 + k * 6 + 3, none⟩ = some (.slice ob2 lb2 cb2) := fun O => Lib.cell?_alloc_some _ (by rw [← g3]; exact World.cell?_of_block (hmm.block b2 hb2 (fun h => h)))
        have f4 : ∀ O, (wr.alloc O).cell? ⟨b2, o2 + k * 6 + 4, none⟩ = some (.string y.result) := fun O => Lib.cell?_alloc_some _ (by rw [← g4]; exact World.cell?_of_block (hmm.block b2 hb2 (fun h => h)))
        have f5 : ∀ O, (wr.alloc O).cell? ⟨b2, o2 + k * 6 + 5, none⟩ = some (.slice oc2 lc2 cc2) := fun O => Lib.cell?_alloc_some _ (by rw [← g5]; exact World.cell?_of_block (hmm.block b2 hb2 (fun h => h)))
        have HC : Hd (∀ w', Mod (fun _ => False) wr w' → Calls Tryz.prog M #[_, _] w' _) := ⟨fun w' h' => HF.out _ x _ y hv hv2 (List.mem_of_getElem? hx) (List.mem_of_getElem? hy) w' (hmm.trans h' (fun _ h => Or.inl h))⟩
        have HX : Hd _ := ⟨hx⟩
        have HY : Hd _ := ⟨hy⟩
        clear hx0 hy0 hx hy hmm e0 e1 e2 e3 e4 e5 g0 g1 g2 g3 g4 g5 hv hv2 hb hb2
        go_wp2_with fail
        refine (HC.out _ (by first | exact Mod.refl _ _ | exact (Mod.alloc _ _ _).trans (Mod.alloc _ _ _) (fun _ h => Or.inl h))).mono ?_
        rintro e w2 ⟨rfl, hM2⟩
        have HM2 : Hd (Mod (fun _ => False) w w2) := ⟨HM.out.trans (by first | exact hM2 | exact ((Mod.alloc _ _ _).trans (Mod.alloc _ _ _) (fun _ h => Or.inl h)).trans hM2 (fun _ h => Or.inl h)) (fun _ h => Or.inl h)⟩
        clear hM2
        obtain ⟨q, hq⟩ : ∃ q, f x y = q := ⟨_, rfl⟩
        rw [hq]
        have HQ : Hd _ := ⟨hq⟩
        clear hq
        cases q with
        | false =>
          go_wp2
          go_ret
          exact ⟨by rw [← HI.out, allZ_miss HX.out HY.out HQ.out]; rfl, HM2.out⟩
        | true =>
          have HI2 : Hd (allZ f (l.drop (k + 1)) (m.drop (k + 1)) = r) := ⟨by rw [← HI.out, allZ_hit HX.out HY.out HQ.out]⟩
          go_wp2_with fail
          go_roundg (gk - 1)
          case measure => omega
          case rel => exact ⟨HM2, k + 1, by go_num, by omega, HI2⟩
      · have HI2 : Hd (r = true) := ⟨by rw [← HI.out]; exact allZ_end (by omega) (by have := HL.out; omega)⟩
        go_wp2
        go_ret
        exact ⟨by rw [HI2.out]; rfl, HM.out⟩
  · have HR2 : Hd (r = false) := ⟨by rw [← HR.out]; exact allZ_len f l m hlm⟩
    have hlm' : ¬ (l.length : Int) = (m.length : Int) := by omega
    go_enter Tryz.func66, Tryz.ntmps66
    go_wp2
    go_ret
    exact ⟨by rw [HR2.out]; rfl, Mod.refl _ _⟩
end
end Go.Proofs.YtpodeccpibnlbaaGreatDoor
namespace Go.Proofs.YtpodeccpibnlbaaGreatDoor
set_option linter.unusedVariables false
set_option linter.unusedSimpArgs false
open Go.RowKit
section
variable {S : Nat → Prop} {w0 wV : World} {oa : Option Addr} {len cap : Nat}

set_option maxRecDepth 100000 in
set_option maxHeartbeats 4000000 in
theorem eq_str {l m : List ByteArray} (h : SR S w0 1 (strV) oa len cap l) {ob : Option Addr} {lenb capb : Nat} (h2 : SR S w0 1 (strV) ob lenb capb m) :
    Ans 40 #[.slice oa len cap, .slice ob lenb capb] w0 (.bool (allZ eqB l m)) := by
  intro w hw
  have HS : Hd _ := ⟨h⟩
  have HS2 : Hd _ := ⟨h2⟩
  have HW : Hd _ := ⟨hw⟩
  have hbig := h.hbig
  have hbig2 := h2.hbig
  have hlen := h.hlen
  have hlen2 := h2.hlen
  subst hlen
  subst hlen2
  clear h h2 hw
  obtain ⟨r, hr⟩ : ∃ r, allZ eqB l m = r := ⟨_, rfl⟩
  have HR : Hd _ := ⟨hr⟩
  rw [hr]
  clear hr
  by_cases hlm : l.length = m.length
  · have HL : Hd _ := ⟨hlm⟩
    rw [← hlm]
    rw [← hlm] at hbig2
    clear hlm
    go_enter Tryz.func40, Tryz.ntmps40
    go_wp2_with fail
    go_loopg [13] l.length (fun gk v13 wr => Hd (Mod (fun _ => False) w wr) ∧ ∃ k : Nat, v13 = .int .i64 k ∧ k + gk = l.length ∧ Hd (allZ eqB (l.drop k) (m.drop k) = r))
    case atStart => exact ⟨⟨Mod.refl _ _⟩, 0, rfl, by omega, ⟨by rw [← HR.out]; rfl⟩⟩
    case round =>
      obtain ⟨HM, k, rfl, hk, HI⟩ := hrel
      by_cases hlt : k < l.length
      · have hx0 : l[k]? = some l[k] := List.getElem?_eq_getElem (by omega)
        have hy0 : m[k]? = some (m[k]'(by have := HL.out; omega)) := List.getElem?_eq_getElem (by have := HL.out; omega)
        obtain ⟨x, hx⟩ : ∃ x, l[k]? = some x := ⟨_, hx0⟩
        obtain ⟨y, hy⟩ : ∃ y, m[k]? = some y := ⟨_, hy0⟩
        obtain ⟨b, o, rfl, _, hb, e0, hv⟩ := HS.out.str hx
        obtain ⟨b2, o2, rfl, _, hb2, g0, hv2⟩ := HS2.out.str hy
        have hmm := HW.out.trans HM.out (fun _ h => Or.inl h)
        have d0 : wr.cell? ⟨b, o + k, none⟩ = some (.string x) := by rw [← e0]; exact World.cell?_of_block (hmm.block b hb (fun h => h))
        have f0 : wr.cell? ⟨b2, o2 + k, none⟩ = some (.string y) := by rw [← g0]; exact World.cell?_of_block (hmm.block b2 hb2 (fun h => h))
        have HX : Hd _ := ⟨hx⟩
        have HY : Hd _ := ⟨hy⟩
        clear hx0 hy0 hx hy hmm e0 g0 hv hv2 hb hb2
        cases q0 : (x.toList == y.toList) with
        | false =>
          have HE : Hd (allZ eqB (l.drop k) (m.drop k) = false) := ⟨allZ_miss HX.out HY.out (by simp only [eqB, q0, Bool.false_and, Bool.and_false, Bool.true_and])⟩
          go_wp2_with fail
          go_region
          go_wp2
          go_ret
          exact ⟨by rw [← HI.out, HE.out]; rfl, HM.out.trans (Mod.drew _ _) (fun _ h => Or.inl h)⟩
        | true =>
          have HI2 : Hd (allZ eqB (l.drop (k + 1)) (m.drop (k + 1)) = r) := ⟨by rw [← HI.out, allZ_hit HX.out HY.out (by simp only [eqB, q0] <;> rfl)]⟩
          go_wp2_with fail
          go_region
          go_wp2_with fail
          go_roundg (gk - 1)
          case measure => omega
          case rel => exact ⟨⟨HM.out.trans (Mod.drew _ _) (fun _ h => Or.inl h)⟩, k + 1, by go_num, by omega, HI2⟩
      · have HI2 : Hd (r = true) := ⟨by rw [← HI.out]; exact allZ_end (by omega) (by have := HL.out; omega)⟩
        go_wp2
        go_ret
        exact ⟨by rw [HI2.out]; rfl, HM.out⟩
  · have HR2 : Hd (r = false) := ⟨by rw [← HR.out]; exact allZ_len eqB l m hlm⟩
    have hlm' : ¬ (l.length : Int) = (m.length : Int) := by omega
    go_enter Tryz.func40, Tryz.ntmps40
    go_wp2
    go_ret
    exact ⟨by rw [HR2.out]; rfl, Mod.refl _ _⟩

set_option maxRecDepth 100000 in
set_option maxHeartbeats 4000000 in
theorem eq_vr {l m : List Vr} (h : SR S w0 2 (vrV) oa len cap l) {ob : Option Addr} {lenb capb : Nat} (h2 : SR S w0 2 (vrV) ob lenb capb m) :
    Ans 63 #[.slice oa len cap, .slice ob lenb capb] w0 (.bool (allZ vrEqI l m)) := by
  intro w hw
  have HS : Hd _ := ⟨h⟩
  have HS2 : Hd _ := ⟨h2⟩
  have HW : Hd _ := ⟨hw⟩
  have hbig := h.hbig
  have hbig2 := h2.hbig
  have hlen := h.hlen
  have hlen2 := h2.hlen
  subst hlen
  subst hlen2
  clear h h2 hw
  obtain ⟨r, hr⟩ : ∃ r, allZ vrEqI l m = r := ⟨_, rfl⟩
  have HR : Hd _ := ⟨hr⟩
  rw [hr]
  clear hr
  by_cases hlm : l.length = m.length
  · have HL : Hd _ := ⟨hlm⟩
    rw [← hlm]
    rw [← hlm] at hbig2
    clear hlm
    go_enter Tryz.func63, Tryz.ntmps63
    go_wp2_with fail
    go_loopg [13] l.length (fun gk v13 wr => Hd (Mod (fun _ => False) w wr) ∧ ∃ k : Nat, v13 = .int .i64 k ∧ k + gk = l.length ∧ Hd (allZ vrEqI (l.drop k) (m.drop k) = r))
    case atStart => exact ⟨⟨Mod.refl _ _⟩, 0, rfl, by omega, ⟨by rw [← HR.out]; rfl⟩⟩
    case round =>
      obtain ⟨HM, k, rfl, hk, HI⟩ := hrel
      by_cases hlt : k < l.length
      · have hx0 : l[k]? = some l[k] := List.getElem?_eq_getElem (by omega)
        have hy0 : m[k]? = some (m[k]'(by have := HL.out; omega)) := List.getElem?_eq_getElem (by have := HL.out; omega)
        obtain ⟨x, hx⟩ : ∃ x, l[k]? = some x := ⟨_, hx0⟩
        obtain ⟨y, hy⟩ : ∃ y, m[k]? = some y := ⟨_, hy0⟩
        obtain ⟨b, o, rfl, _, hb, e0, e1, hv⟩ := HS.out.vr hx
        obtain ⟨b2, o2, rfl, _, hb2, g0, g1, hv2⟩ := HS2.out.vr hy
        have hmm := HW.out.trans HM.out (fun _ h => Or.inl h)
        have d0 : wr.cell? ⟨b, o + k * 2, none⟩ = some (.string x.name) := by rw [← e0]; exact World.cell?_of_block (hmm.block b hb (fun h => h))
        have d1 : wr.cell? ⟨b, o + k * 2 + 1, none⟩ = some (.string x.type) := by rw [← e1]; exact World.cell?_of_block (hmm.block b hb (fun h => h))
        have f0 : wr.cell? ⟨b2, o2 + k * 2, none⟩ = some (.string y.name) := by rw [← g0]; exact World.cell?_of_block (hmm.block b2 hb2 (fun h => h))
        have f1 : wr.cell? ⟨b2, o2 + k * 2 + 1, none⟩ = some (.string y.type) := by rw [← g1]; exact World.cell?_of_block (hmm.block b2 hb2 (fun h => h))
        have HX : Hd _ := ⟨hx⟩
        have HY : Hd _ := ⟨hy⟩
        clear hx0 hy0 hx hy hmm e0 e1 g0 g1 hv hv2 hb hb2
        cases q0 : (x.name.toList == y.name.toList) with
        | false =>
          have HE : Hd (allZ vrEqI (l.drop k) (m.drop k) = false) := ⟨allZ_miss HX.out HY.out (by simp only [vrEqI, eqB, q0, Bool.false_and, Bool.and_false, Bool.true_and])⟩
          go_wp2_with fail
          go_region
          go_wp2
          go_ret
          exact ⟨by rw [← HI.out, HE.out]; rfl, HM.out.trans (Mod.drew _ _) (fun _ h => Or.inl h)⟩
        | true =>
          cases q1 : (x.type.toList == y.type.toList) with
          | false =>
            have HE : Hd (allZ vrEqI (l.drop k) (m.drop k) = false) := ⟨allZ_miss HX.out HY.out (by simp only [vrEqI, eqB, q0, q1, Bool.false_and, Bool.and_false, Bool.true_and])⟩
            go_wp2_with fail
            go_region
            go_wp2
            go_ret
            exact ⟨by rw [← HI.out, HE.out]; rfl, HM.out.trans (Mod.drew _ _) (fun _ h => Or.inl h)⟩
          | true =>
            have HI2 : Hd (allZ vrEqI (l.drop (k + 1)) (m.drop (k + 1)) = r) := ⟨by rw [← HI.out, allZ_hit HX.out HY.out (by simp only [vrEqI, eqB, q0, q1] <;> rfl)]⟩
            go_wp2_with fail
            go_region
            go_wp2_with fail
            go_roundg (gk - 1)
            case measure => omega
            case rel => exact ⟨⟨HM.out.trans (Mod.drew _ _) (fun _ h => Or.inl h)⟩, k + 1, by go_num, by omega, HI2⟩
      · have HI2 : Hd (r = true) := ⟨by rw [← HI.out]; exact allZ_end (by omega) (by have := HL.out; omega)⟩
        go_wp2
        go_ret
        exact ⟨by rw [HI2.out]; rfl, HM.out⟩
  · have HR2 : Hd (r = false) := ⟨by rw [← HR.out]; exact allZ_len vrEqI l m hlm⟩
    have hlm' : ¬ (l.length : Int) = (m.length : Int) := by omega
    go_enter Tryz.func63, Tryz.ntmps63
    go_wp2
    go_ret
    exact ⟨by rw [HR2.out]; rfl, Mod.refl _ _⟩

set_option maxRecDepth 100000 in
set_option maxHeartbeats 4000000 in
theorem eq_arm {l m : List Arm} (h : SR S w0 3 (armV) oa len cap l) {ob : Option Addr} {lenb capb : Nat} (h2 : SR S w0 3 (armV) ob lenb capb m) :
    Ans 157 #[.slice oa len cap, .slice ob lenb capb] w0 (.bool (allZ armEqI l m)) := by
  intro w hw
  have HS : Hd _ := ⟨h⟩
  have HS2 : Hd _ := ⟨h2⟩
  have HW : Hd _ := ⟨hw⟩
  have hbig := h.hbig
  have hbig2 := h2.hbig
  have hlen := h.hlen
  have hlen2 := h2.hlen
  subst hlen
  subst hlen2
  clear h h2 hw
  obtain ⟨r, hr⟩ : ∃ r, allZ armEqI l m = r := ⟨_, rfl⟩
  have HR : Hd _ := ⟨hr⟩
  rw [hr]
  clear hr
  by_cases hlm : l.length = m.length
  · have HL : Hd _ := ⟨hlm⟩
    rw [← hlm]
    rw [← hlm] at hbig2
    clear hlm
    go_enter Tryz.func157, Tryz.ntmps157
    go_wp2_with fail
    go_loopg [13] l.length (fun gk v13 wr => Hd (Mod (fun _ => False) w wr) ∧ ∃ k : Nat, v13 = .int .i64 k ∧ k + gk = l.length ∧ Hd (allZ armEqI (l.drop k) (m.drop k) = r))
    case atStart => exact ⟨⟨Mod.refl _ _⟩, 0, rfl, by omega, ⟨by rw [← HR.out]; rfl⟩⟩
    case round =>
      obtain ⟨HM, k, rfl, hk, HI⟩ := hrel
      by_cases hlt : k < l.length
      · have hx0 : l[k]? = some l[k] := List.getElem?_eq_getElem (by omega)
        have hy0 : m[k]? = some (m[k]'(by have := HL.out; omega)) := List.getElem?_eq_getElem (by have := HL.out; omega)
        obtain ⟨x, hx⟩ : ∃ x, l[k]? = some x := ⟨_, hx0⟩
        obtain ⟨y, hy⟩ : ∃ y, m[k]? = some y := ⟨_, hy0⟩
        obtain ⟨b, o, rfl, _, hb, e0, e1, e2, hv⟩ := HS.out.arm hx
        obtain ⟨b2, o2, rfl, _, hb2, g0, g1, g2, hv2⟩ := HS2.out.arm hy
        have hmm := HW.out.trans HM.out (fun _ h => Or.inl h)
        have d0 : wr.cell? ⟨b, o + k * 3, none⟩ = some (.string x.variant) := by rw [← e0]; exact World.cell?_of_block (hmm.block b hb (fun h => h))
        have d1 : wr.cell? ⟨b, o + k * 3 + 1, none⟩ = some (.string x.loc) := by rw [← e1]; exact World.cell?_of_block (hmm.block b hb (fun h => h))
        have d2 : wr.cell? ⟨b, o + k * 3 + 2, none⟩ = some (.string x.block) := by rw [← e2]; exact World.cell?_of_block (hmm.block b hb (fun h => h))
        have f0 : wr.cell? ⟨b2, o2 + k * 3, none⟩ = some (.string y.variant) := by rw [← g0]; exact World.cell?_of_block (hmm.block b2 hb2 (fun h => h))
        have f1 : wr.cell? ⟨b2, o2 + k * 3 + 1, none⟩ = some (.string y.loc) := by rw [← g1]; exact World.cell?_of_block (hmm.block b2 hb2 (fun h => h))
        have f2 : wr.cell? ⟨b2, o2 + k * 3 + 2, none⟩ = some (.string y.block) := by rw [← g2]; exact World.cell?_of_block (hmm.block b2 hb2 (fun h => h))
        have HX : Hd _ := ⟨hx⟩
        have HY : Hd _ := ⟨hy⟩
        clear hx0 hy0 hx hy hmm e0 e1 e2 g0 g1 g2 hv hv2 hb hb2
        cases q0 : (x.variant.toList == y.variant.toList) with
        | false =>
          have HE : Hd (allZ armEqI (l.drop k) (m.drop k) = false) := ⟨allZ_miss HX.out HY.out (by simp only [armEqI, eqB, q0, Bool.false_and, Bool.and_false, Bool.true_and])⟩
          go_wp2_with fail
          go_region
          go_wp2
          go_ret
          exact ⟨by rw [← HI.out, HE.out]; rfl, HM.out.trans (Mod.drew _ _) (fun _ h => Or.inl h)⟩
        | true =>
          cases q1 : (x.loc.toList == y.loc.toList) with
          | false =>
            have HE : Hd (allZ armEqI (l.drop k) (m.drop k) = false) := ⟨allZ_miss HX.out HY.out (by simp only [armEqI, eqB, q0, q1, Bool.false_and, Bool.and_false, Bool.true_and])⟩
            go_wp2_with fail
            go_region
            go_wp2
            go_ret
            exact ⟨by rw [← HI.out, HE.out]; rfl, HM.out.trans (Mod.drew _ _) (fun _ h => Or.inl h)⟩
          | true =>
            cases q2 : (x.block.toList == y.block.toList) with
            | false =>
              have HE : Hd (allZ armEqI (l.drop k) (m.drop k) = false) := ⟨allZ_miss HX.out HY.out (by simp only [armEqI, eqB, q0, q1, q2, Bool.false_and, Bool.and_false, Bool.true_and])⟩
              go_wp2_with fail
              go_region
              go_wp2
              go_ret
              exact ⟨by rw [← HI.out, HE.out]; rfl, HM.out.trans (Mod.drew _ _) (fun _ h => Or.inl h)⟩
            | true =>
              have HI2 : Hd (allZ armEqI (l.drop (k + 1)) (m.drop (k + 1)) = r) := ⟨by rw [← HI.out, allZ_hit HX.out HY.out (by simp only [armEqI, eqB, q0, q1, q2] <;> rfl)]⟩
              go_wp2_with fail
              go_region
              go_wp2_with fail
              go_roundg (gk - 1)
              case measure => omega
              case rel => exact ⟨⟨HM.out.trans (Mod.drew _ _) (fun _ h => Or.inl h)⟩, k + 1, by go_num, by omega, HI2⟩
      · have HI2 : Hd (r = true) := ⟨by rw [← HI.out]; exact allZ_end (by omega) (by have := HL.out; omega)⟩
        go_wp2
        go_ret
        exact ⟨by rw [HI2.out]; rfl, HM.out⟩
  · have HR2 : Hd (r = false) := ⟨by rw [← HR.out]; exact allZ_len armEqI l m hlm⟩
    have hlm' : ¬ (l.length : Int) = (m.length : Int) := by omega
    go_enter Tryz.func157, Tryz.ntmps157
    go_wp2
    go_ret
    exact ⟨by rw [HR2.out]; rfl, Mod.refl _ _⟩
end
end Go.Proofs.YtpodeccpibnlbaaGreatDoor
