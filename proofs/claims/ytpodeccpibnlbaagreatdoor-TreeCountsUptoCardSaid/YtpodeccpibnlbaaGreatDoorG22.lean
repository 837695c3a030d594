/- Uses' iterator, by its contract. -/
import Derived.RangeFuncNested
import Derived.RangeFuncBound
import Derived.RangeFuncCalls
import Derived.RangeFuncLeaves
import Derived.Shelf.Abstract
import Derived.Shelf.RegionOpen
import Derived.WalkKit
import Derived.OwnWalkIn
import Derived.TacticsInMore
import Derived.LoopNIn
import Derived.LoopIn
import Derived.Stop.RegionWithIn
import Derived.Sort.QuietIn
import Derived.Sort.CutIn
import Derived.Test.YtpodeccpibnlbaaGreatDoorG21
namespace Go.Proofs.YtpodeccpibnlbaaGreatDoor
set_option linter.unusedVariables false
set_option linter.unusedSimpArgs false
open Go.RowKit Go.Shelf

attribute [local go_sem] Oper.semAt_some

/-- A place's value, and the place. -/
abbrev UE (S : Nat → Prop) (w0 : World) : Type := {x : Value × Pl // plV S w0 x.1 x.2}
def encU {S : Nat → Prop} {w0 : World} (x : UE S w0) : Array Value := #[x.1.1]
def toP {S : Nat → Prop} {w0 : World} (l : List (UE S w0)) : List Pl := l.map (·.1.2)

theorem uses_c (w : World) (v : Value) : True := trivial
set_option maxRecDepth 100000 in
set_option maxHeartbeats 400000 in
theorem Uses_c {pos : Int} {name result : ByteArray} {oa ob oc : Option Addr} {la ca lb cb lc cc : Nat} (w : World) :
    Calls Tryz.prog 27 #[.agg #[.int .i64 pos, .string name, .slice oa la ca, .slice ob lb cb, .string result, .slice oc lc cc]] w fun e w' => e = .returned (.func (.func 77) #[] #[.pointer (some ⟨w.heap.size, 0, none⟩)]) ∧ w' = w.alloc (.cells #[.int .i64 pos, .string name, .slice oa la ca, .slice ob lb cb, .string result, .slice oc lc cc] 45) := by
  go_enter Tryz.func27, Tryz.ntmps27
  go_wp2
  go_ret
  exact ⟨rfl, rfl⟩

set_option maxRecDepth 100000 in
set_option maxHeartbeats 8000000 in
theorem uses1_in (n l Bx : Nat) (hn : 3 ≤ n) (C : Nat → Prop) {S : Nat → Prop} {w0 : World} {oc : Option Addr} {lc cc : Nat} {bl : List Blk} (J Jx : List (UE S w0) → World → Prop) (W : World) (hJ : AbidesFrom W.heap.size J)
    (hR : SR S w0 11 (blkV S w0) oc lc cc bl) (hK : KC C w0 W) (hS : ∀ b, S b → ¬ C b) (hC : ∀ k, C k → k < w0.heap.size)
    (hsz : ∀ b ∈ bl, (∀ s ∈ b.stmts, s.args.length + 1 ≤ 1048576) ∧ b.term.args.length + 1 ≤ 1048576)
    (hY : ∀ pre x W, J pre W → pre.length < (blksUses bl).length → YieldAt Fence.wide (n - 1) Tryz.prog l (encU x) W fun e W' =>
      (e = .returned (.bool true) ∧ J (pre ++ [x]) W' ∧ KC C W W') ∨ (e = .returned (.bool false) ∧ Jx (pre ++ [x]) W'))
    (hBx : W.cell? ⟨Bx, 5, none⟩ = some (.slice oc lc cc)) (h0 : J [] W) :
    CallsIn Fence.wide n Tryz.prog 77 #[.func (.yield l) #[] #[], .pointer (some ⟨Bx, 0, none⟩)] W fun e W' => (∃ v, e = .returned v) ∧
      ((∃ ys, toP ys = blksUses bl ∧ J ys W') ∨ (∃ pre, toP pre <+: blksUses bl ∧ Jx pre W')) := by
  have h1 : 1 ≤ n := by omega
  have hRW := hR.kc hK (fun b hb _ => hS b hb)
  have HSW : Hd _ := ⟨hS⟩
  refine callsIn_of_wp Tryz.func77 rfl trivial ?_ rfl
  simp only [Tryz.ntmps77, List.size_toArray, List.length_cons, List.length_nil, Nat.reduceAdd, Nat.reduceSub, Array.replicate_succ, Array.replicate_zero, List.push_toArray, List.append_toArray, List.nil_append, List.cons_append]
  have HR : Hd _ := ⟨hRW⟩
  have HY : Hd _ := ⟨hY⟩
  have HJ : Hd _ := ⟨hJ⟩
  have HK : Hd _ := ⟨hK⟩
  have HC : Hd _ := ⟨hC⟩
  have HZ : Hd _ := ⟨hsz⟩
  have H0 : Hd _ := ⟨h0⟩
  have hlen := hR.hlen
  have hbig := hR.hbig
  subst hlen
  clear hRW hY hJ hK hC hsz h0 hR hS
  gi_wp2_with fail
  gi_loopw [14] (fun v wr => ∃ k : Nat, v = .int .i64 k ∧ k ≤ bl.length ∧ Hd (∃ ys, toP ys = blksUses (bl.take k) ∧ J ys wr ∧ KC C W wr)) (fun v _ => bl.length - (intOf v).toNat)
  case atStart => exact ⟨0, rfl, Nat.zero_le _, ⟨[], rfl, H0.out, KC.refl _ _⟩⟩
  case round =>
    clear H0
    obtain ⟨k, rfl, hk, HX⟩ := hrel
    by_cases hlt : k < bl.length
    · obtain ⟨b, hb⟩ : ∃ b, bl[k]? = some b := ⟨_, List.getElem?_eq_getElem hlt⟩
      obtain ⟨ab, ao, oa1, la1, ca1, ob1, lb1, cb1, oc1, lc1, cc1, od1, ld1, cd1, oe1, le1, ce1, rfl, hSb, hlb, e0, e1, e2, e3, e4, e5, e6, e7, e8, e9, e10, hv⟩ := HR.out.blk hb
      obtain ⟨ys, hys, hJys, hKys⟩ := HX.out
      have hnb : ¬ C ab := HSW.out ab hSb
      have d0 : wr.cell? ⟨ab, ao + k * 11, none⟩ = some (.int .i64 b.pos) := hKys.cell hnb e0
      have d1 : wr.cell? ⟨ab, ao + k * 11 + 1, none⟩ = some (.string b.name) := hKys.cell hnb e1
      have d2 : wr.cell? ⟨ab, ao + k * 11 + 2, none⟩ = some (.slice oa1 la1 ca1) := hKys.cell hnb e2
      have d3 : wr.cell? ⟨ab, ao + k * 11 + 3, none⟩ = some (.int .i64 b.term.pos) := hKys.cell hnb e3
      have d4 : wr.cell? ⟨ab, ao + k * 11 + 4, none⟩ = some (.int .i64 b.term.kind) := hKys.cell hnb e4
      have d5 : wr.cell? ⟨ab, ao + k * 11 + 5, none⟩ = some (.string b.term.dest.loc) := hKys.cell hnb e5
      have d6 : wr.cell? ⟨ab, ao + k * 11 + 6, none⟩ = some (.slice ob1 lb1 cb1) := hKys.cell hnb e6
      have d7 : wr.cell? ⟨ab, ao + k * 11 + 7, none⟩ = some (.string b.term.name) := hKys.cell hnb e7
      have d8 : wr.cell? ⟨ab, ao + k * 11 + 8, none⟩ = some (.slice oc1 lc1 cc1) := hKys.cell hnb e8
      have d9 : wr.cell? ⟨ab, ao + k * 11 + 9, none⟩ = some (.slice od1 ld1 cd1) := hKys.cell hnb e9
      have d10 : wr.cell? ⟨ab, ao + k * 11 + 10, none⟩ = some (.slice oe1 le1 ce1) := hKys.cell hnb e10
      have hst : SR S w0 8 (stmV S w0) oa1 la1 ca1 b.stmts ∧ SR S w0 2 (plV S w0) oc1 lc1 cc1 b.term.args ∧ plV S w0 (.agg #[.string b.term.dest.loc, .slice ob1 lb1 cb1]) b.term.dest := by
        obtain ⟨g0, g1, oa', la', ca', ob', lb', cb', oc', lc', cc', od', ld', cd', oe', le', ce', e, j1, j2⟩ := hv
        simp only [Value.agg.injEq, Array.mk.injEq, List.cons.injEq, Value.slice.injEq, true_and, and_true] at e
        obtain ⟨⟨rfl, rfl, rfl⟩, ⟨rfl, rfl, rfl⟩, ⟨rfl, rfl, rfl⟩, ⟨rfl, rfl, rfl⟩, rfl, rfl, rfl⟩ := e
        obtain ⟨m0, m1, m2, m3, ob'', lb'', cb'', oc'', lc'', cc'', od'', ld'', cd'', oe'', le'', ce'', e, n1, n2, n3, n4⟩ := j2
        simp only [trmA, Value.agg.injEq, Array.mk.injEq, List.cons.injEq, Value.slice.injEq, true_and, and_true] at e
        obtain ⟨⟨rfl, rfl, rfl⟩, ⟨rfl, rfl, rfl⟩, ⟨rfl, rfl, rfl⟩, rfl, rfl, rfl⟩ := e
        exact ⟨j1, n2, m3, _, _, _, rfl, n1⟩
      have HST : Hd (SR S W 8 (stmV S w0) oa1 la1 ca1 b.stmts) := ⟨hst.1.kc HK.out (fun b hb _ => HSW.out b hb)⟩
      have HTA : Hd (SR S W 2 (plV S w0) oc1 lc1 cc1 b.term.args) := ⟨hst.2.1.kc HK.out (fun b hb _ => HSW.out b hb)⟩
      have HTD : Hd _ := ⟨hst.2.2⟩
      have HBB : Hd _ := ⟨hb⟩
      have HZB : Hd _ := ⟨HZ.out b (List.mem_of_getElem? hb)⟩
      have HYS : Hd _ := ⟨hys⟩
      have hl1 := hst.1.hlen
      have hb1 := hst.1.hbig
      subst hl1
      have HJ0 : Hd (J ys (wr.alloc (.cells #[.int .i64 b.pos, .string b.name, .slice oa1 b.stmts.length ca1, .int .i64 b.term.pos, .int .i64 b.term.kind, .string b.term.dest.loc, .slice ob1 lb1 cb1, .string b.term.name, .slice oc1 lc1 cc1, .slice od1 ld1 cd1, .slice oe1 le1 ce1] 64))) := ⟨HJ.out _ _ _ none hJys (Mod.alloc (fun _ => False) wr _).grownBy (fun r h => by cases h)⟩
      have HK0 : Hd (KC C W (wr.alloc (.cells #[.int .i64 b.pos, .string b.name, .slice oa1 b.stmts.length ca1, .int .i64 b.term.pos, .int .i64 b.term.kind, .string b.term.dest.loc, .slice ob1 lb1 cb1, .string b.term.name, .slice oc1 lc1 cc1, .slice od1 ld1 cd1, .slice oe1 le1 ce1] 64))) := ⟨hKys.trans (KC.alloc C _ _)⟩
      have HBX : Hd ((wr.alloc (.cells #[.int .i64 b.pos, .string b.name, .slice oa1 b.stmts.length ca1, .int .i64 b.term.pos, .int .i64 b.term.kind, .string b.term.dest.loc, .slice ob1 lb1 cb1, .string b.term.name, .slice oc1 lc1 cc1, .slice od1 ld1 cd1, .slice oe1 le1 ce1] 64)).heap[wr.heap.size]? = some (.cells #[.int .i64 b.pos, .string b.name, .slice oa1 b.stmts.length ca1, .int .i64 b.term.pos, .int .i64 b.term.kind, .string b.term.dest.loc, .slice ob1 lb1 cb1, .string b.term.name, .slice oc1 lc1 cc1, .slice od1 ld1 cd1, .slice oe1 le1 ce1] 64) ∧ W.heap.size ≤ wr.heap.size) := ⟨heap_new' _ _, hKys.size⟩
      clear hb e0 e1 e2 e3 e4 e5 e6 e7 e8 e9 e10 hv hys hJys hKys hnb hst hSb hlb
      gi_wp2_with fail
      obtain ⟨wb, hwb⟩ : ∃ wb, wr.alloc (.cells #[.int .i64 b.pos, .string b.name, .slice oa1 b.stmts.length ca1, .int .i64 b.term.pos, .int .i64 b.term.kind, .string b.term.dest.loc, .slice ob1 lb1 cb1, .string b.term.name, .slice oc1 lc1 cc1, .slice od1 ld1 cd1, .slice oe1 le1 ce1] 64) = wb := ⟨_, rfl⟩
      obtain ⟨bx, hbx⟩ : ∃ bx, wr.heap.size = bx := ⟨_, rfl⟩
      rw [hwb] at HJ0 HK0 HBX ⊢
      rw [hbx] at HBX ⊢
      clear hwb hbx d0 d1 d2 d3 d4 d5 d6 d7 d8 d9 d10 HX
      gi_loopw [21] (fun v wr => ∃ j : Nat, v = .int .i64 j ∧ j ≤ b.stmts.length ∧ Hd (∃ ys, toP ys = blksUses (bl.take k) ++ stmsUses (b.stmts.take j) ∧ J ys wr ∧ KC C wb wr)) (fun v _ => b.stmts.length - (intOf v).toNat)
      case atStart => exact ⟨0, rfl, Nat.zero_le _, ⟨ys, by rw [HYS.out]; simp [stmsUses], HJ0.out, KC.refl _ _⟩⟩
      case round =>
        obtain ⟨j, rfl, hj, HX2⟩ := hrel
        by_cases hlt2 : j < b.stmts.length
        · obtain ⟨s, hs⟩ : ∃ s, b.stmts[j]? = some s := ⟨_, List.getElem?_eq_getElem hlt2⟩
          obtain ⟨sb, ao2, oa2, la2, ca2, ob2, lb2, cb2, rfl, hSs, hls, e0, e1, e2, e3, e4, e5, e6, e7, hv⟩ := HST.out.stm hs
          obtain ⟨us, hus, hJus, hKus⟩ := HX2.out
          have hnb : ¬ C sb := HSW.out sb hSs
          have hKW := HK0.out.trans hKus
          have d0 : wr.cell? ⟨sb, ao2 + j * 8, none⟩ = some (.int .i64 s.pos) := hKW.cell hnb e0
          have d1 : wr.cell? ⟨sb, ao2 + j * 8 + 1, none⟩ = some (.int .i64 s.kind) := hKW.cell hnb e1
          have d2 : wr.cell? ⟨sb, ao2 + j * 8 + 2, none⟩ = some (.string s.dest.loc) := hKW.cell hnb e2
          have d3 : wr.cell? ⟨sb, ao2 + j * 8 + 3, none⟩ = some (.slice oa2 la2 ca2) := hKW.cell hnb e3
          have d4 : wr.cell? ⟨sb, ao2 + j * 8 + 4, none⟩ = some (.int .i64 s.n) := hKW.cell hnb e4
          have d5 : wr.cell? ⟨sb, ao2 + j * 8 + 5, none⟩ = some (.string s.name) := hKW.cell hnb e5
          have d6 : wr.cell? ⟨sb, ao2 + j * 8 + 6, none⟩ = some (.string s.variant) := hKW.cell hnb e6
          have d7 : wr.cell? ⟨sb, ao2 + j * 8 + 7, none⟩ = some (.slice ob2 lb2 cb2) := hKW.cell hnb e7
          have hst : SR S w0 2 (plV S w0) ob2 lb2 cb2 s.args ∧ plV S w0 (.agg #[.string s.dest.loc, .slice oa2 la2 ca2]) s.dest := by
            obtain ⟨m0, m1, m2, m3, m4, m5, ob', lb', cb', oa', la', ca', e, n1, n2⟩ := hv
            simp only [Value.agg.injEq, Array.mk.injEq, List.cons.injEq, Value.slice.injEq, true_and, and_true] at e
            obtain ⟨⟨rfl, rfl, rfl⟩, rfl, rfl, rfl⟩ := e
            exact ⟨n2, m5, _, _, _, rfl, n1⟩
          have HPC : Hd (∀ A : Obj, _) := ⟨fun A => places_c (V := plV S w0) (fun v x hv => one_pl hv) (hst.1.kc (HK.out.trans (hKW.trans (KC.alloc C wr A))) (fun b hb _ => HSW.out b hb)) hst.2 (HZB.out.1 s (List.mem_of_getElem? hs))⟩
          have HUS : Hd _ := ⟨hus⟩
          have HJU : Hd _ := ⟨hJus⟩
          have HKU : Hd _ := ⟨hKus⟩
          have HSS : Hd _ := ⟨hs⟩
          clear e0 e1 e2 e3 e4 e5 e6 e7 hv hus hJus hKus hKW hnb hst hSs hls hs HX2
          gi_wp2_with fail
          refine ⟨trivial, ?_⟩
          refine (callsIn_wide.2 (HPC.out _)).mono ?_
          rintro e w3 ⟨or, cr, rfl, hM3, hP3⟩
          have HJ3 : Hd (J us w3) := ⟨HJ.out _ _ _ none HJU.out ((Mod.alloc (fun _ => False) wr _).trans hM3 (fun _ h => Or.inl h)).grownBy (fun r h => by cases h)⟩
          have HK3 : Hd (KC C wb w3) := ⟨(HKU.out.trans (KC.alloc C _ _)).trans (KC.mod hM3)⟩
          have HP3 : Hd _ := ⟨hP3⟩
          have HNC : Hd (∀ b', (S b' ∨ (wr.alloc (.cells #[.int .i64 s.pos, .int .i64 s.kind, .string s.dest.loc, .slice oa2 la2 ca2, .int .i64 s.n, .string s.name, .string s.variant, .slice ob2 lb2 cb2] 68)).heap.size ≤ b') → ¬ C b') := ⟨fun b' hb' hc => by
            rcases hb' with h | h
            · exact HSW.out b' h hc
            · have h1 := HC.out b' hc
              have h2 := HK.out.size
              have h3 := HK0.out.size
              have h4 := HKU.out.size
              simp only [World.size_alloc] at h
              omega⟩
          have HPRE : Hd (∀ i p, (placesI s.args s.dest)[i]? = some p → (blksUses (bl.take k) ++ stmsUses (b.stmts.take j)) ++ ((placesI s.args s.dest).take i ++ [p]) <+: blksUses bl) := ⟨fun i p hp => by
            rw [List.append_assoc]
            refine flat_prefix blkUses HBB.out ?_
            refine List.IsPrefix.trans ?_ (List.prefix_append _ _)
            exact flat_prefix stmUses HSS.out (take_prefix hp)⟩
          have HYS : Hd (toP us = blksUses (bl.take k) ++ stmsUses (b.stmts.take j)) := HUS
          have hrb := hP3.hbig
          clear hM3 hP3 HPC HJU HUS HKU d0 d1 d2 d3 d4 d5 d6 d7
          gi_wp2_with fail
          gi_loopw [31] (fun v wr => ∃ i : Nat, v = .int .i64 i ∧ i ≤ (placesI s.args s.dest).length ∧ Hd (∃ ys, toP ys = (blksUses (bl.take k) ++ stmsUses (b.stmts.take j)) ++ (placesI s.args s.dest).take i ∧ J ys wr ∧ KC C w3 wr)) (fun v _ => (placesI s.args s.dest).length - (intOf v).toNat)
          case atStart => exact ⟨0, rfl, Nat.zero_le _, ⟨_, by rw [HYS.out]; simp, HJ3.out, KC.refl _ _⟩⟩
          case round =>
            obtain ⟨i, rfl, hi, HX3⟩ := hrel
            by_cases hlt3 : i < (placesI s.args s.dest).length
            · obtain ⟨p, hp⟩ : ∃ p, (placesI s.args s.dest)[i]? = some p := ⟨_, List.getElem?_eq_getElem hlt3⟩
              obtain ⟨bq, oq, oa3, la3, ca3, rfl, hSq, hlq, q0, q1, hvp⟩ := HP3.out.pl' hp
              obtain ⟨zs, hzs, hJz, hKz⟩ := HX3.out
              have hnC : ¬ C bq := HNC.out bq hSq
              have r0 : wr.cell? ⟨bq, oq + i * 2, none⟩ = some (.string p.loc) := hKz.cell hnC q0
              have r1 : wr.cell? ⟨bq, oq + i * 2 + 1, none⟩ = some (.slice oa3 la3 ca3) := hKz.cell hnC q1
              have hlz : zs.length < (blksUses bl).length := by
                have h1 := (HPRE.out i p hp).length_le
                have h2 : zs.length = (toP zs).length := by simp [toP]
                rw [h2, hzs]
                simp only [List.length_append, List.length_cons, List.length_nil] at h1 ⊢
                omega
              have HEX : Hd (∃ x : UE S w0, x.1 = (.agg #[.string p.loc, .slice oa3 la3 ca3], p)) := ⟨⟨⟨(_, p), hvp⟩, rfl⟩⟩
              obtain ⟨x, hx⟩ := HEX.out
              have hxe : encU x = #[.agg #[.string p.loc, .slice oa3 la3 ca3]] := by rw [encU, hx]
              have hxp : x.1.2 = p := by rw [hx]
              obtain ⟨fn, tmps, assign, body, hy, hR⟩ := HY.out zs x (wr.alloc (.cells #[.string p.loc, .slice oa3 la3 ca3] 24))
                (HJ.out _ _ _ none hJz (Mod.alloc (fun _ => False) wr _).grownBy (fun r h => by cases h)) hlz
              rw [hxe] at hy
              have HRR : Hd _ := ⟨hR⟩
              have HXP : Hd _ := ⟨hxp⟩
              have HZS : Hd _ := ⟨hzs⟩
              have HKZ : Hd _ := ⟨hKz⟩
              have HPP : Hd _ := ⟨hp⟩
              clear hR hxe hxp hx hzs hJz hKz hp q0 q1 hvp hnC hSq hlq hlz
              gi_wp2_with fail
              refine HRR.out.mono ?_
              rintro e W3 hY3
              obtain ⟨bb, rfl, HYO⟩ := yield_one hY3
              clear hY3
              have HTP : Hd (toP (zs ++ [x]) = (blksUses (bl.take k) ++ stmsUses (b.stmts.take j)) ++ (placesI s.args s.dest).take (i + 1)) := ⟨by
                have e1 : toP (zs ++ [x]) = toP zs ++ [p] := by simp [toP, HXP.out]
                rw [e1, HZS.out, List.take_add_one, HPP.out]
                simp⟩
              rcases HYO.out with ⟨hb, hJ3, hk3⟩ | ⟨hb, hJx3⟩
              · subst hb
                have HJK : Hd (J (zs ++ [x]) W3 ∧ KC C w3 W3) := ⟨hJ3, (HKZ.out.trans (KC.alloc C _ _)).trans hk3⟩
                clear hJ3 hk3
                gi_wp2
                go_roundw
                case rel => exact ⟨i + 1, by simp, by omega, ⟨_, HTP.out, HJK.out.1, HJK.out.2⟩⟩
                case measure => simp [intOf]; omega
              · subst hb
                have HJX : Hd _ := ⟨hJx3⟩
                clear hJx3
                gi_wp2
                refine bodyPost_ret (results_none rfl _ _ _) rfl ?_
                refine ⟨⟨_, rfl⟩, .inr ⟨_, ?_, HJX.out⟩⟩
                rw [HTP.out, List.take_add_one, HPP.out]
                exact HPRE.out i p HPP.out
            · obtain rfl : i = (placesI s.args s.dest).length := by omega
              clear hlt3
              obtain ⟨zs, hzs, hJz, hKz⟩ := HX3.out
              rw [List.take_length] at hzs
              have HZS : Hd _ := ⟨hzs⟩
              have HJZ : Hd _ := ⟨hJz⟩
              have HKZ : Hd _ := ⟨hKz⟩
              clear hzs hJz hKz
              gi_wp2
              go_roundw
              case rel => exact ⟨j + 1, by simp, by omega, ⟨zs, by rw [HZS.out, stmsUses_succ HSS.out, stmUses, List.append_assoc], HJZ.out, HK3.out.trans HKZ.out⟩⟩
              case measure => simp [intOf]; omega
        · obtain rfl : j = b.stmts.length := by omega
          clear hlt2
          obtain ⟨us, hus, hJus, hKus⟩ := HX2.out
          rw [List.take_length] at hus
          have hnx : ¬ C bx := fun hc => by
            have h1 := HC.out bx hc
            have h2 := HK.out.size
            have h3 := HBX.out.2
            omega
          have hbx : wr.heap[bx]? = some (.cells #[.int .i64 b.pos, .string b.name, .slice oa1 b.stmts.length ca1, .int .i64 b.term.pos, .int .i64 b.term.kind, .string b.term.dest.loc, .slice ob1 lb1 cb1, .string b.term.name, .slice oc1 lc1 cc1, .slice od1 ld1 cd1, .slice oe1 le1 ce1] 64) := hKus.cells _ _ _ _ hnx HBX.out.1
          have f5 : wr.cell? ⟨bx, 5, none⟩ = some (.string b.term.dest.loc) := by simp [World.cell?, hbx]
          have f6 : wr.cell? ⟨bx, 6, none⟩ = some (.slice ob1 lb1 cb1) := by simp [World.cell?, hbx]
          have f8 : wr.cell? ⟨bx, 8, none⟩ = some (.slice oc1 lc1 cc1) := by simp [World.cell?, hbx]
          have HPC : Hd _ := ⟨places_c (V := plV S w0) (fun v x hv => one_pl hv) (HTA.out.kc (HK0.out.trans hKus) (fun b hb _ => HSW.out b hb)) HTD.out HZB.out.2⟩
          have HUS : Hd _ := ⟨hus⟩
          have HJU : Hd _ := ⟨hJus⟩
          have HKU : Hd _ := ⟨hKus⟩
          clear hus hJus hKus hbx hnx HX2
          gi_wp2_with fail
          refine ⟨trivial, ?_⟩
          refine (callsIn_wide.2 HPC.out).mono ?_
          rintro e w3 ⟨or, cr, rfl, hM3, hP3⟩
          have HJ3 : Hd (J us w3) := ⟨HJ.out _ _ _ none HJU.out hM3.grownBy (fun r h => by cases h)⟩
          have HK3 : Hd (KC C W w3) := ⟨(HK0.out.trans HKU.out).trans (KC.mod hM3)⟩
          have HP3 : Hd _ := ⟨hP3⟩
          have HNC : Hd (∀ b', (S b' ∨ wr.heap.size ≤ b') → ¬ C b') := ⟨fun b' hb' hc => by
            rcases hb' with h | h
            · exact HSW.out b' h hc
            · have h1 := HC.out b' hc
              have h2 := HK.out.size
              have h3 := HK0.out.size
              have h4 := HKU.out.size
              omega⟩
          have HPRE : Hd (∀ i p, (placesI b.term.args b.term.dest)[i]? = some p → (blksUses (bl.take k) ++ stmsUses b.stmts) ++ ((placesI b.term.args b.term.dest).take i ++ [p]) <+: blksUses bl) := ⟨fun i p hp => by
            rw [List.append_assoc]
            refine flat_prefix blkUses HBB.out ?_
            exact (List.prefix_append_right_inj _).2 (take_prefix hp)⟩
          have HYS : Hd (toP us = blksUses (bl.take k) ++ stmsUses b.stmts) := HUS
          have hrb := hP3.hbig
          clear hM3 hP3 HPC HJU HUS HKU f5 f6 f8
          gi_wp2_with fail
          gi_loopw [49] (fun v wr => ∃ i : Nat, v = .int .i64 i ∧ i ≤ (placesI b.term.args b.term.dest).length ∧ Hd (∃ ys, toP ys = (blksUses (bl.take k) ++ stmsUses b.stmts) ++ (placesI b.term.args b.term.dest).take i ∧ J ys wr ∧ KC C w3 wr)) (fun v _ => (placesI b.term.args b.term.dest).length - (intOf v).toNat)
          case atStart => exact ⟨0, rfl, Nat.zero_le _, ⟨_, by rw [HYS.out]; simp, HJ3.out, KC.refl _ _⟩⟩
          case round =>
            obtain ⟨i, rfl, hi, HX3⟩ := hrel
            by_cases hlt3 : i < (placesI b.term.args b.term.dest).length
            · obtain ⟨p, hp⟩ : ∃ p, (placesI b.term.args b.term.dest)[i]? = some p := ⟨_, List.getElem?_eq_getElem hlt3⟩
              obtain ⟨bq, oq, oa3, la3, ca3, rfl, hSq, hlq, q0, q1, hvp⟩ := HP3.out.pl' hp
              obtain ⟨zs, hzs, hJz, hKz⟩ := HX3.out
              have hnC : ¬ C bq := HNC.out bq hSq
              have r0 : wr.cell? ⟨bq, oq + i * 2, none⟩ = some (.string p.loc) := hKz.cell hnC q0
              have r1 : wr.cell? ⟨bq, oq + i * 2 + 1, none⟩ = some (.slice oa3 la3 ca3) := hKz.cell hnC q1
              have hlz : zs.length < (blksUses bl).length := by
                have h1 := (HPRE.out i p hp).length_le
                have h2 : zs.length = (toP zs).length := by simp [toP]
                rw [h2, hzs]
                simp only [List.length_append, List.length_cons, List.length_nil] at h1 ⊢
                omega
              have HEX : Hd (∃ x : UE S w0, x.1 = (.agg #[.string p.loc, .slice oa3 la3 ca3], p)) := ⟨⟨⟨(_, p), hvp⟩, rfl⟩⟩
              obtain ⟨x, hx⟩ := HEX.out
              have hxe : encU x = #[.agg #[.string p.loc, .slice oa3 la3 ca3]] := by rw [encU, hx]
              have hxp : x.1.2 = p := by rw [hx]
              obtain ⟨fn, tmps, assign, body, hy, hR⟩ := HY.out zs x (wr.alloc (.cells #[.string p.loc, .slice oa3 la3 ca3] 24))
                (HJ.out _ _ _ none hJz (Mod.alloc (fun _ => False) wr _).grownBy (fun r h => by cases h)) hlz
              rw [hxe] at hy
              have HRR : Hd _ := ⟨hR⟩
              have HXP : Hd _ := ⟨hxp⟩
              have HZS : Hd _ := ⟨hzs⟩
              have HKZ : Hd _ := ⟨hKz⟩
              have HPP : Hd _ := ⟨hp⟩
              clear hR hxe hxp hx hzs hJz hKz hp q0 q1 hvp hnC hSq hlq hlz
              gi_wp2_with fail
              refine HRR.out.mono ?_
              rintro e W3 hY3
              obtain ⟨bb, rfl, HYO⟩ := yield_one hY3
              clear hY3
              have HTP : Hd (toP (zs ++ [x]) = (blksUses (bl.take k) ++ stmsUses b.stmts) ++ (placesI b.term.args b.term.dest).take (i + 1)) := ⟨by
                have e1 : toP (zs ++ [x]) = toP zs ++ [p] := by simp [toP, HXP.out]
                rw [e1, HZS.out, List.take_add_one, HPP.out]
                simp⟩
              rcases HYO.out with ⟨hb, hJ3, hk3⟩ | ⟨hb, hJx3⟩
              · subst hb
                have HJK : Hd (J (zs ++ [x]) W3 ∧ KC C w3 W3) := ⟨hJ3, (HKZ.out.trans (KC.alloc C _ _)).trans hk3⟩
                clear hJ3 hk3
                gi_wp2
                go_roundw
                case rel => exact ⟨i + 1, by simp, by omega, ⟨_, HTP.out, HJK.out.1, HJK.out.2⟩⟩
                case measure => simp [intOf]; omega
              · subst hb
                have HJX : Hd _ := ⟨hJx3⟩
                clear hJx3
                gi_wp2
                refine bodyPost_ret (results_none rfl _ _ _) rfl ?_
                refine ⟨⟨_, rfl⟩, .inr ⟨_, ?_, HJX.out⟩⟩
                rw [HTP.out, List.take_add_one, HPP.out]
                exact HPRE.out i p HPP.out
            · obtain rfl : i = (placesI b.term.args b.term.dest).length := by omega
              clear hlt3
              obtain ⟨zs, hzs, hJz, hKz⟩ := HX3.out
              rw [List.take_length] at hzs
              have HZS : Hd _ := ⟨hzs⟩
              have HJZ : Hd _ := ⟨hJz⟩
              have HKZ : Hd _ := ⟨hKz⟩
              clear hzs hJz hKz
              gi_wp2
              go_roundw
              case rel => exact ⟨k + 1, by simp, by omega, ⟨zs, by rw [HZS.out, blksUses_succ HBB.out, trmUses, List.append_assoc], HJZ.out, HK3.out.trans HKZ.out⟩⟩
              case measure => simp [intOf]; omega
    · obtain rfl : k = bl.length := by omega
      clear hlt
      gi_wp2
      go_end0
      obtain ⟨ys, h1, h2, _⟩ := HX.out
      exact ⟨⟨_, rfl⟩, .inl ⟨ys, by rw [h1, List.take_length], h2⟩⟩
end Go.Proofs.YtpodeccpibnlbaaGreatDoor
