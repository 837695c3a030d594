/- slab's All: the iterator, by its contract. -/
import Derived.RangeFuncNested
import Derived.RangeFuncBound
import Derived.RangeFuncCalls
import Derived.RangeFuncLeaves
import Derived.Shelf.Abstract
import Derived.Shelf.RegionOpen
import Derived.WalkKit
import Derived.OwnWalkIn
import Derived.TacticsInMore
import Derived.LoopNIn
import Derived.LoopIn
import Derived.Stop.RegionWithIn
import Derived.Sort.QuietIn
import Derived.Sort.CutIn
import Derived.Test.YtpgoogjaoffdoaaCon6
namespace Go.Proofs.Ytpgoogjaoffdoaa
set_option linter.unusedVariables false
set_option linter.unusedSimpArgs false
open Go.RowKit Go.Shelf

attribute [local go_sem] Oper.semAt_some

/-- Cells lie as they lay, but for C's blocks. -/
structure KC (C : Nat → Prop) (W W' : World) : Prop where
  size : W.heap.size ≤ W'.heap.size
  cells : ∀ k c e fr, ¬ C k → W.heap[k]? = some (.cells c e fr) → W'.heap[k]? = some (.cells c e fr)

theorem KC.refl (C : Nat → Prop) (W : World) : KC C W W := ⟨Nat.le_refl _, fun _ _ _ _ _ h => h⟩
theorem KC.trans {C : Nat → Prop} {A B D : World} (h : KC C A B) (k : KC C B D) : KC C A D := ⟨Nat.le_trans h.size k.size, fun i c e fr hc hi => k.cells i c e fr hc (h.cells i c e fr hc hi)⟩
theorem KC.alloc (C : Nat → Prop) (W : World) (o : Obj) : KC C W (W.alloc o) := ⟨by simp, fun k c e fr _ h => (Below.heap_alloc W o k (Array.getElem?_eq_some_iff.1 h).1).trans h⟩
theorem KC.drew (C : Nat → Prop) (W : World) : KC C W W.drew := ⟨Nat.le_refl _, fun _ _ _ _ _ h => h⟩
theorem KC.setCell {C : Nat → Prop} (W : World) (a : Addr) (v : Value) (h : C a.block) : KC C W (W.setCell a v) :=
  ⟨by simp, fun k c e fr hc hk => (Below.heap_setCell W a v k (fun e => hc (e ▸ h))).trans hk⟩
theorem KC.putObj {C : Nat → Prop} (W : World) (l : Nat) (o o' : Obj) (hl : W.heap[l]? = some o) (ho : o.isCells = false) : KC C W (W.putObj l o') := by
  refine ⟨by simp, fun k c e fr hc hk => ?_⟩
  rw [World.putObj_heap_other (fun e' => ?_)]
  · exact hk
  · subst e'; rw [hk] at hl; cases hl; simp [Obj.isCells] at ho
theorem KC.cell {C : Nat → Prop} {W W' : World} (h : KC C W W') {a : Addr} {v : Value} (ha : ¬ C a.block) (hc : W.cell? a = some v) : W'.cell? a = some v := by
  unfold World.cell? at hc ⊢
  split at hc
  · rename_i c e fr hb
    rw [h.cells _ _ _ _ ha hb]
    exact hc
  · cases hc

def pieceOf (x : Pl × Nat) : Option (Nat × Nat) := if x.1.freed = true then none else some (addrOf x.2 (x.1.sizes.length - 1) 0, x.1.cells.length)
/-- The pieces that there are, among the first k places. -/
def SS.piecesTo (s : SS) (k : Nat) : List (Nat × Nat) := (s.places.take k).zipIdx.filterMap pieceOf
def SS.pieces (s : SS) : List (Nat × Nat) := s.piecesTo s.places.length

theorem SS.piecesTo_zero (s : SS) : s.piecesTo 0 = [] := rfl
theorem SS.piecesTo_succ (s : SS) {k : Nat} {p : Pl} (hp : s.places[k]? = some p) : s.piecesTo (k + 1) = s.piecesTo k ++ (pieceOf (p, k)).toList := by
  have hk := (List.getElem?_eq_some_iff.1 hp).1
  unfold SS.piecesTo
  rw [List.take_add_one, hp, List.zipIdx_append, List.filterMap_append]
  have e : (some p).toList.zipIdx (0 + (s.places.take k).length) = [(p, k)] := by
    rw [List.length_take, Nat.min_eq_left (Nat.le_of_lt hk), Nat.zero_add]; rfl
  have e2 : List.filterMap pieceOf [(p, k)] = (pieceOf (p, k)).toList := by
    rw [List.filterMap_cons]
    generalize pieceOf (p, k) = o
    cases o <;> rfl
  rw [Nat.add_comm] at e
  first | rw [e, e2] | (rw [Nat.add_comm, e, e2])
theorem SS.piecesTo_length (s : SS) (k : Nat) : (s.piecesTo k).length ≤ k := by
  unfold SS.piecesTo
  have h1 := List.length_filterMap_le pieceOf (s.places.take k).zipIdx
  have h2 : ((s.places.take k).zipIdx).length ≤ k := by simp; omega
  omega
theorem SS.piecesTo_prefix (s : SS) (k : Nat) (hk : k ≤ s.places.length) : s.piecesTo k <+: s.pieces := by
  have : ∀ d, k + d ≤ s.places.length → s.piecesTo k <+: s.piecesTo (k + d) := by
    intro d
    induction d with
    | zero => intro _; exact List.prefix_refl _
    | succ d ih =>
      intro h
      obtain ⟨p, hp⟩ : ∃ p, s.places[k + d]? = some p := ⟨_, List.getElem?_eq_getElem (by omega)⟩
      rw [show k + (d + 1) = (k + d) + 1 from rfl, s.piecesTo_succ hp]
      exact (ih (by omega)).trans (List.prefix_append _ _)
  have h := this (s.places.length - k) (by omega)
  rw [show k + (s.places.length - k) = s.places.length by omega] at h
  exact h

theorem addr_nat (i age slot A : Nat) (i' age' slot' : Int) (w : World) (h1 : i' = i) (h2 : age' = age) (h3 : slot' = slot) (hA : Hd (A = addrOf i age slot)) (hi : i < 1048576) (ha : age < 1048576) (hs : slot < 4096) :
    Calls Try.prog 39 #[.int .i64 i', .int .i64 age', .int .i64 slot'] w fun e w' => e = .returned (.int .u64 (A : Int)) ∧ w = w' := by
  subst h1; subst h2; subst h3
  refine (addr_any i age slot w (by omega) (by omega) (by omega) (by omega) (by omega) (by omega)).mono ?_
  rintro e w' ⟨rfl, rfl⟩
  refine ⟨?_, rfl⟩
  rw [hA.out]
  have e : ((addrOf i age slot : Nat) : Int) = 4611686018427387904 + (age : Int) * 4294967296 + (i : Int) * 4096 + (slot : Int) := by unfold addrOf; omega
  rw [e]

set_option maxHeartbeats 400000 in
theorem all_any (b : Nat) (w : World) : Calls Try.prog 24 #[.pointer (some ⟨b, 0, none⟩)] w fun e w' => e = .returned (.func (.func 42) #[] #[.pointer (some ⟨w.heap.size, 0, none⟩)]) ∧ w' = w.alloc (.cells #[.pointer (some ⟨b, 0, none⟩)] 27) := by
  go_enter Try.func24, Try.ntmps24
  go_wp2
  go_ret
  exact ⟨rfl, rfl⟩

def encP2 (x : Nat × Nat) : Array Value := #[.int .u64 (x.1 : Int), .int .i64 (x.2 : Int)]

theorem Mod.grownBy {w w' : World} (h : Mod (fun _ => False) w w') : w.grownBy w' none := ⟨h.os, h.tape, h.output, h.size, fun k hk _ => h.block k hk (fun h => h)⟩

theorem mod_alloc_drew (w : World) (o : Obj) : Mod (fun _ => False) w (w.alloc o).drew := (Mod.alloc _ w o).trans (Mod.drew _ _) (fun _ h => Or.inl h)
theorem mod_alloc_drewN (w : World) (o : Obj) (n : Nat) : Mod (fun _ => False) w ((w.alloc o).drewN n) :=
  ⟨rfl, rfl, rfl, by show _ ≤ (w.alloc o).heap.size; simp, fun k hk _ => Below.heap_alloc w o k hk⟩
theorem KC.drewN (C : Nat → Prop) (W : World) (n : Nat) : KC C W (W.drewN n) := ⟨Nat.le_refl _, fun _ _ _ _ _ h => h⟩
theorem i64_pred (m : Nat) (h : 1 ≤ m) (h2 : m < 9223372036854775808) : IntKind.i64.wrap ((m : Int) - 1) = ((m - 1 : Nat) : Int) := by
  rw [IntKind.wrap_i64]; omega

theorem yield_one {e : Ending} {p q : Prop} (h : (e = .returned (.bool true) ∧ p) ∨ (e = .returned (.bool false) ∧ q)) : ∃ bb : Bool, e = .returned (.bool bb) ∧ Hd ((bb = true ∧ p) ∨ (bb = false ∧ q)) := by
  rcases h with ⟨h, hp⟩ | ⟨h, hq⟩
  · exact ⟨true, h, ⟨Or.inl ⟨rfl, hp⟩⟩⟩
  · exact ⟨false, h, ⟨Or.inr ⟨rfl, hq⟩⟩⟩

set_option maxRecDepth 100000 in
set_option maxHeartbeats 4000000 in
theorem all1_in (n l Bx b n0 : Nat) (hn : 3 ≤ n) (C : Nat → Prop) (s : SS) (N : Nat) (own : Nat → Option Rl) (hW : s.WF N) (J Jx : List (Nat × Nat) → World → Prop) (W : World) (hJ : AbidesFrom W.heap.size J)
    (hY : ∀ pre x W, J pre W → pre.length < s.places.length → YieldAt Fence.wide (n - 1) Try.prog l (encP2 x) W fun e W' =>
      (e = .returned (.bool true) ∧ J (pre ++ [x]) W' ∧ KC C W W') ∨ (e = .returned (.bool false) ∧ Jx (pre ++ [x]) W'))
    (hC : ∀ k, C k → k < W.heap.size)
    (hBx : W.cell? ⟨Bx, 0, none⟩ = some (.pointer (some ⟨b, 0, none⟩))) (hR : Rep W b s own) (h0 : J [] W) :
    CallsIn Fence.wide n Try.prog 42 #[.func (.yield l) #[] #[], .pointer (some ⟨Bx, 0, none⟩)] W fun e W' => (∃ v, e = .returned v) ∧
      ((∃ ys, ys = s.pieces ∧ J ys W') ∨ (∃ pre, pre <+: s.pieces ∧ Jx pre W')) := by
  have h1 : 1 ≤ n := by omega
  refine callsIn_of_wp Try.func42 rfl trivial ?_ rfl
  simp only [Try.ntmps42, List.size_toArray, List.length_cons, List.length_nil, Nat.reduceAdd, Nat.reduceSub, Array.replicate_succ, Array.replicate_zero, List.push_toArray, List.append_toArray, List.nil_append, List.cons_append]
  obtain ⟨L, hr⟩ := hR
  have HR : Hd _ := ⟨hr⟩
  have HW : Hd _ := ⟨hW⟩
  have HY : Hd _ := ⟨hY⟩
  have HJ : Hd _ := ⟨hJ⟩
  have H0 : Hd _ := ⟨h0⟩
  have HC : Hd _ := ⟨hC⟩
  clear hr hW hY hJ h0 hC
  gi_wp2_with fail
  refine ⟨trivial, ?_⟩
  refine (callsIn_wide.2 (clone_calls HR.out HW.out)).mono ?_
  rintro e w1 ⟨rfl, own1, ⟨L1, hr1⟩, hge, hM, hlt⟩
  have hQ : s.places.length = L1.Q.length := by rw [hr1.pls, List.length_map]
  have c3 : w1.cell? ⟨W.heap.size, 3, none⟩ = some (.slice (L1.gp.map fun g => ⟨g, 0, none⟩) L1.Q.length L1.cp) := hr1.c3
  have H1 : Hd (J [] w1) := ⟨HJ.out _ _ _ none H0.out hM.grownBy (fun r h => by cases h)⟩
  have HR1 : Hd _ := ⟨hr1⟩
  have HM : Hd _ := ⟨hM⟩
  have HG : Hd _ := ⟨hge⟩
  have hlc := hr1.plc.le
  have hlm := hr1.plc.max
  unfold maxLen at hlm
  clear hr1 hM hge hBx
  gi_wp2_with fail
  gi_loopw [13] (fun v wr => ∃ k : Nat, v = .int .i64 k ∧ k ≤ L1.Q.length ∧ Hd (J (s.piecesTo k) wr ∧ KC C w1 wr ∧ W.heap.size ≤ wr.heap.size)) (fun v _ => L1.Q.length - (intOf v).toNat)
  case atStart => exact ⟨0, rfl, Nat.zero_le _, ⟨H1.out, KC.refl _ _, HM.out.size⟩⟩
  case round =>
    clear H1 c3
    obtain ⟨k, rfl, hk, HX⟩ := hrel
    by_cases hlt : k < L1.Q.length
    · obtain ⟨p, hp⟩ : ∃ p, s.places[k]? = some p := ⟨_, List.getElem?_eq_getElem (by omega)⟩
      obtain ⟨q, g, hq, hpq, hg, hgl, r0, r1, r2, hfz⟩ := HR1.out.place hp
      have hgC : ¬ C g := fun h => by
        have := HG.out g (by rw [HR1.out.op g hg]; simp)
        have := HC.out g h
        omega
      have p0 : wr.cell? ⟨g, k * 3, none⟩ = some (.slice (q.gs.map fun g => ⟨g, 0, none⟩) p.sizes.length q.cs) := HX.out.2.1.cell hgC r0
      have p1 : wr.cell? ⟨g, k * 3 + 1, none⟩ = some (.slice (q.gc.map fun g => ⟨g, 0, none⟩) p.cells.length q.cc) := HX.out.2.1.cell hgC r1
      have p2 : wr.cell? ⟨g, k * 3 + 2, none⟩ = some (.bool p.freed) := HX.out.2.1.cell hgC r2
      have hps := HW.out.nsizes k p hp
      have hph := HW.out.has k p hp
      have hsl : 1 ≤ p.sizes.length := by cases h : p.sizes with | nil => exact absurd h hph | cons a l => simp
      have hNb := HW.out.bound
      have hnp := HW.out.nplaces
      have hcl := HW.out.cells k p hp
      have HP : Hd _ := ⟨hp⟩
      clear r0 r1 r2 hfz hpq hp hq hcl hph
      cases hfr : p.freed with
      | true =>
        rw [hfr] at p2
        rw [hg]
        simp only [Option.map_some]
        gi_wp2_with fail
        refine wpIn_region_quiet_lit rfl (by kernel_rfl) (by kernel_rfl) ?_
        repeat (first | gi_big_quiet_step (fail) | (refine BigFrame.wpQuietIn_skip (fun _ _ _ _ => trivial) rfl ?_; simp only [Act.put, List.setIfInBounds_toArray, List.set_cons_succ, List.set_cons_zero]))
        refine wpQuietIn_nil ?_
        rintro _ ⟨nq, rfl⟩
        gi_wp2_with fail
        go_roundw
        case rel => exact ⟨k + 1, by simp, by omega, ⟨by rw [s.piecesTo_succ HP.out]; simp only [pieceOf, hfr, if_true, Option.toList_none, List.append_nil]; exact HJ.out _ _ _ none HX.out.1 (mod_alloc_drewN wr _ nq).grownBy (fun r h => (by cases h)), (HX.out.2.1.trans (KC.alloc C wr _)).trans (KC.drewN C _ nq), by have := HX.out.2.2; show W.heap.size ≤ (wr.alloc _).heap.size; simp; omega⟩⟩
        case measure => simp [intOf]; omega
      | false =>
        rw [hfr] at p2
        rw [hg]
        simp only [Option.map_some]
        obtain ⟨A, hA⟩ : ∃ A, Hd (A = addrOf k (p.sizes.length - 1) 0) := ⟨_, ⟨rfl⟩⟩
        obtain ⟨fn, tmps, assign, body, hy, hR⟩ := HY.out (s.piecesTo k) (A, p.cells.length) (wr.alloc (.cells #[.slice (q.gs.map fun g => ⟨g, 0, none⟩) p.sizes.length q.cs, .slice (q.gc.map fun g => ⟨g, 0, none⟩) p.cells.length q.cc, .bool false] 86)).drew
          (HJ.out _ _ _ none HX.out.1 (mod_alloc_drew wr _).grownBy (fun r h => by cases h)) (by have := s.piecesTo_length k; omega)
        unfold encP2 at hy
        dsimp only at hy
        have HRR : Hd _ := ⟨hR⟩
        have HWr : Hd (IntKind.i64.wrap ((p.sizes.length : Int) - 1) = ((p.sizes.length - 1 : Nat) : Int)) := ⟨i64_pred _ hsl (by omega)⟩
        clear hR
        gi_wp2_with fail
        gi_region_with (first | (refine ⟨trivial, ?_⟩; gi_at_call 39; refine (callsIn_wide.2 (addr_nat k (p.sizes.length - 1) 0 A _ _ _ _ (by omega) (by first | exact HWr.out | omega) (by omega) hA (by omega) (by omega) (by omega))).mono ?_; rintro e w' ⟨rfl, rfl⟩) | (refine ⟨fun _ => by omega, ?_⟩; refine HRR.out.mono ?_; rintro e W3 hY3; obtain ⟨bb, rfl, HYO⟩ := yield_one hY3; clear hY3) | (refine HRR.out.mono ?_; rintro e W3 hY3; obtain ⟨bb, rfl, HYO⟩ := yield_one hY3; clear hY3))
        all_goals (rcases HYO.out with ⟨hb, hJ3, hk3⟩ | ⟨hb, hJx3⟩)
        all_goals subst hb
        all_goals gi_wp2
        all_goals first
          | (go_roundw
             case rel => exact ⟨k + 1, by simp, by omega, ⟨by rw [s.piecesTo_succ HP.out]; simp only [pieceOf, hfr, Bool.false_eq_true, if_false, Option.toList_some, ← hA.out]; exact hJ3, (HX.out.2.1.trans ((KC.alloc C wr _).trans (KC.drew C _))).trans hk3, by have := HX.out.2.2; have := hk3.size; simp only [heap_drew, World.size_alloc] at this; omega⟩⟩
             case measure => simp [intOf]; omega)
          | (refine bodyPost_ret (results_none rfl _ _ _) rfl ?_
             exact ⟨⟨_, rfl⟩, .inr ⟨_, by have := s.piecesTo_prefix (k + 1) (by omega); rw [s.piecesTo_succ HP.out] at this; simp only [pieceOf, hfr, Bool.false_eq_true, if_false, Option.toList_some, ← hA.out] at this; exact this, hJx3⟩⟩)
    · obtain rfl : k = L1.Q.length := by omega
      clear hlt
      gi_wp2
      go_end0
      exact ⟨⟨_, rfl⟩, .inl ⟨_, rfl, by unfold SS.pieces; rw [hQ]; exact HX.out.1⟩⟩
end Go.Proofs.Ytpgoogjaoffdoaa
