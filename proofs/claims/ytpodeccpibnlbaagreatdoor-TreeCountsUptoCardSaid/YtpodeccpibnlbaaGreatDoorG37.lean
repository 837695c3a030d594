/- The reference's Find, Block, walked. A row of the call's own as data, and what an append of another row leaves of it; the reference's Vars and Uses, walked. -/
import Derived.Test.YtpodeccpibnlbaaGreatDoorG36
import Derived.Test.YtpodeccpibnlbaaGreatDoorG17
import Derived.Test.YtpodeccpibnlbaaGreatDoorG20
import Derived.Lib.SliceRun
import Derived.Test.YtpodeccpibnlbaaGreatDoorG21
import Derived.BigRegion
namespace Go.Proofs.YtpodeccpibnlbaaGreatDoor
set_option linter.unusedVariables false
set_option linter.unusedSimpArgs false
open Go.RowKit
section
variable {S : Nat → Prop} {w0 : World}
set_option maxRecDepth 100000 in
set_option maxHeartbeats 4000000 in
theorem rFind_q {oa : Option Addr} {la ca : Nat} {l : List Vr} (h : Vrs S w0 oa la ca l) (name : ByteArray) : Calls Tryz.prog 31 #[.slice oa la ca, .string name] w0 fun e w' => e = .returned (.int .i64 (findI l name)) ∧ w' = w0 := by
  have HS : Hd _ := ⟨h⟩
  have hbig := h.hbig
  have hlen := h.hlen
  subst hlen
  clear h
  obtain ⟨r, hr⟩ : ∃ r, findI l name = r := ⟨_, rfl⟩
  have HR : Hd (idxI (fun v : Vr => eqB v.name name) l = r) := ⟨hr⟩
  rw [hr]
  clear hr
  go_enter Tryz.func31, Tryz.ntmps31
  go_wp2_with fail
  go_loopg [5] l.length (fun gk v5 wr => wr = w0 ∧ ∃ k : Nat, v5 = .int .i64 k ∧ k + gk = l.length ∧ Hd (shf k (idxI (fun v : Vr => eqB v.name name) (l.drop k)) = r))
  case atStart => exact ⟨rfl, 0, rfl, by omega, ⟨by rw [← HR.out]; exact shf_0 _ _⟩⟩
  case round =>
    obtain ⟨rfl, k, rfl, hk, HI⟩ := hrel
    by_cases hlt : k < l.length
    · have hx0 : l[k]? = some l[k] := List.getElem?_eq_getElem (by omega)
      obtain ⟨x, hx⟩ : ∃ x, l[k]? = some x := ⟨_, hx0⟩
      obtain ⟨b, o, rfl, _, hbl, e0, e1, hv⟩ := HS.out.vr hx
      have HX : Hd _ := ⟨hx⟩
      clear hx hx0 e1 hbl hv
      cases q0 : (x.name.toList == name.toList) with
      | true =>
        have HF : Hd (r = (k : Int)) := ⟨by rw [← HI.out]; exact shf_hit HX.out (show eqB x.name name = true from q0)⟩
        go_wp2
        go_ret
        exact ⟨by rw [HF.out]; rfl, rfl⟩
      | false =>
        have HI2 : Hd (shf (k + 1) (idxI (fun v : Vr => eqB v.name name) (l.drop (k + 1))) = r) := ⟨by rw [← HI.out]; exact (shf_miss HX.out (show eqB x.name name = false from q0)).symm⟩
        go_wp2_with fail
        go_roundg (gk - 1)
        case measure => omega
        case rel => exact ⟨rfl, k + 1, by go_num, by omega, HI2⟩
    · have HF : Hd (r = -1) := ⟨by rw [← HI.out]; exact shf_end (by omega)⟩
      go_wp2
      go_ret
      exact ⟨by rw [HF.out]; rfl, rfl⟩
set_option maxRecDepth 100000 in
set_option maxHeartbeats 4000000 in
theorem rBlock_ans {v : Value} {s : Fun} (hv : funV S w0 v s) (name : ByteArray) : Ans 33 #[v, .string name] w0 (.int .i64 (blockIx s.blocks name)) := by
  intro w hw
  obtain ⟨h0, h1, h2, oa, la, ca, ob, lb, cb, oc, lc, cc, rfl, k1, k2, h⟩ := hv
  have HS : Hd _ := ⟨h⟩
  have HW : Hd _ := ⟨hw⟩
  have hbig := h.hbig
  have hlen := h.hlen
  subst hlen
  clear h h0 h1 h2 k1 k2 hw
  obtain ⟨r, hr⟩ : ∃ r, blockIx s.blocks name = r := ⟨_, rfl⟩
  have HR : Hd (idxI (fun v : Blk => eqB v.name name) s.blocks = r) := ⟨hr⟩
  rw [hr]
  clear hr
  obtain ⟨C, hC⟩ : ∃ C : Array Value, #[.int .i64 s.pos, .string s.name, .slice oa la ca, .slice ob lb cb, .string s.result, .slice oc s.blocks.length cc] = C := ⟨_, rfl⟩
  have c5 : (w.alloc (.cells C 45)).cell? ⟨w.heap.size, 5, none⟩ = some (.slice oc s.blocks.length cc) := by rw [← hC]; exact World.cell?_alloc_new w _ 45 5
  have HM : Hd (Mod (fun _ => False) w (w.alloc (.cells C 45))) := ⟨Mod.alloc _ _ _⟩
  have HC : Hd _ := ⟨hC⟩
  go_enter Tryz.func33, Tryz.ntmps33
  go_wp2_with fail
  rw [HC.out]
  obtain ⟨W, hW⟩ : ∃ W, w.alloc (.cells C 45) = W := ⟨_, rfl⟩
  obtain ⟨bx, hbx⟩ : ∃ bx, w.heap.size = bx := ⟨_, rfl⟩
  rw [hW, hbx] at c5
  rw [hW] at HM
  rw [hW, hbx]
  clear hC HC hW hbx
  go_loopg [5] s.blocks.length (fun gk v5 wr => wr = W ∧ ∃ k : Nat, v5 = .int .i64 k ∧ k + gk = s.blocks.length ∧ Hd (shf k (idxI (fun v : Blk => eqB v.name name) (s.blocks.drop k)) = r))
  case atStart => exact ⟨rfl, 0, rfl, by omega, ⟨by rw [← HR.out]; exact shf_0 _ _⟩⟩
  case round =>
    obtain ⟨rfl, k, rfl, hk, HI⟩ := hrel
    by_cases hlt : k < s.blocks.length
    · have hx0 : s.blocks[k]? = some s.blocks[k] := List.getElem?_eq_getElem (by omega)
      obtain ⟨x, hx⟩ : ∃ x, s.blocks[k]? = some x := ⟨_, hx0⟩
      obtain ⟨b, o, _, _, _, _, _, _, _, _, _, _, _, _, _, _, _, rfl, _, hbl, _, e1, _⟩ := HS.out.blk hx
      have d1 : wr.cell? ⟨b, o + k * 11 + 1, none⟩ = some (.string x.name) := (HW.out.trans HM.out (fun _ h => Or.inl h)).cell' e1
      have HX : Hd _ := ⟨hx⟩
      clear hx hx0 e1 hbl
      cases q0 : (x.name.toList == name.toList) with
      | true =>
        have HF : Hd (r = (k : Int)) := ⟨by rw [← HI.out]; exact shf_hit HX.out (show eqB x.name name = true from q0)⟩
        go_wp2
        go_ret
        exact ⟨by rw [HF.out]; rfl, HM.out⟩
      | false =>
        have HI2 : Hd (shf (k + 1) (idxI (fun v : Blk => eqB v.name name) (s.blocks.drop (k + 1))) = r) := ⟨by rw [← HI.out]; exact (shf_miss HX.out (show eqB x.name name = false from q0)).symm⟩
        go_wp2_with fail
        go_roundg (gk - 1)
        case measure => omega
        case rel => exact ⟨rfl, k + 1, by go_num, by omega, HI2⟩
    · have HF : Hd (r = -1) := ⟨by rw [← HI.out]; exact shf_end (by omega)⟩
      go_wp2
      go_ret
      exact ⟨by rw [HF.out]; rfl, HM.out⟩
end
end Go.Proofs.YtpodeccpibnlbaaGreatDoor
namespace Go.Proofs.YtpodeccpibnlbaaGreatDoor
set_option linter.unusedVariables false
set_option linter.unusedSimpArgs false
open Go.RowKit

/-- A row of the call's own, whose elements are P. -/
def Own {α : Type} (W : World) (base : Nat) (e : TypeId) (n : Nat) (v : Value) (V : Value → α → Prop) (P : List α) : Prop :=
  ∃ news : List Value, W.ownsRow base e n v P.length news ∧ ∀ i x, P[i]? = some x → ∃ u, V u x ∧ ∀ k y, u.cells[k]? = some y → news[i * n + k]? = some y
section
variable {α : Type} {W W' : World} {base : Nat} {e : TypeId} {n : Nat} {v v' : Value} {V : Value → α → Prop}
theorem Own.lt {P : List α} (h : Own W base e n v V P) {k : Nat} (hk : v.ownBlock = some k) : base ≤ k := by
  obtain ⟨news, h1, _⟩ := h
  exact (h1.lt k hk).1
theorem Own.nil {P : List α} (h : Own W base e n v V P) : v = .slice none 0 0 → P = [] := by
  rintro rfl
  obtain ⟨news, ⟨_, ⟨_, h⟩ | ⟨g, cap, cur, h, _⟩⟩, _⟩ := h
  · exact List.eq_nil_of_length_eq_zero h
  · cases h
theorem Own.row {P : List α} (h : Own W base e n v V P) (hb : P.length ≤ 1048576) : ∃ oc cc, v = .slice oc P.length cc ∧ SR (fun b => base ≤ b) W n V oc P.length cc P := by
  obtain ⟨news, h1, h2⟩ := id h
  obtain ⟨oc, cc, e1, e2, _⟩ := SR.of_owns h1 hb h2 (by
    by_cases hv : v = .slice none 0 0
    · exact .inr (h.nil hv)
    · exact .inl hv)
  exact ⟨oc, cc, e1, e2⟩
theorem Own.app {P Q : List α} {news news2 : List Value} (hl : news.length = P.length * n) (hP : ∀ i x, P[i]? = some x → ∃ u, V u x ∧ ∀ k y, u.cells[k]? = some y → news[i * n + k]? = some y)
    (hQ : ∀ i x, Q[i]? = some x → ∃ u, V u x ∧ ∀ k y, u.cells[k]? = some y → news2[i * n + k]? = some y) (ho : W.ownsRow base e n v (P.length + Q.length) (news ++ news2)) : Own W base e n v V (P ++ Q) := by
  refine ⟨news ++ news2, by rw [List.length_append]; exact ho, fun i x hi => ?_⟩
  by_cases hlt : i < P.length
  · rw [List.getElem?_append_left hlt] at hi
    obtain ⟨u, h1, h2⟩ := hP i x hi
    refine ⟨u, h1, fun k y hy => ?_⟩
    have h3 := h2 k y hy
    rw [List.getElem?_append_left (List.getElem?_eq_some_iff.1 h3).1]
    exact h3
  · rw [List.getElem?_append_right (by omega)] at hi
    obtain ⟨u, h1, h2⟩ := hQ _ x hi
    refine ⟨u, h1, fun k y hy => ?_⟩
    have h3 := h2 k y hy
    have e1 : i * n = P.length * n + (i - P.length) * n := by rw [← Nat.add_mul]; congr 1; omega
    rw [List.getElem?_append_right (by rw [hl, e1]; omega), hl, e1, show P.length * n + (i - P.length) * n + k - P.length * n = (i - P.length) * n + k by omega]
    exact h3
theorem Own.alloc {P : List α} (h : Own W base e n v V P) (o : Obj) : Own (W.alloc o) base e n v V P := by
  obtain ⟨news, h1, h2⟩ := h
  exact ⟨news, h1.alloc o, h2⟩
theorem Own.drew {P : List α} (h : Own W base e n v V P) : Own W.drew base e n v V P := h
end
section
variable {α : Type} {S2 : Nat → Prop} {V : Value → α → Prop}
theorem run_append_rows (w : World) (base : Nat) (t ty e : TypeId) (i : TypeInfo) (z : Value) (size bytes : Nat) (ht : Tryz.prog.underlying t = some (.slice e)) (hi : Tryz.prog.info? e = some i) (hz : i.zero = some z)
    (hsize : i.size = size) (hby : i.bytes = bytes) (hzs : z.cells.size = size) (hsz : 0 < size)
    (v : Value) (P : List α) (hO : Own w base e size v V P) (oa : Option Addr) (m c : Nat) (Q : List α) (hQ : SR S2 w size V oa m c Q) (hV : ∀ v x, V v x → v.cells.size = size ∧ ∀ u ∈ v.cells, u.oneCell' = true)
    (h63 : P.length + m ≤ maxLen) (hbytes : (P.length + m) * bytes ≤ 140737488355328) (hbase : base ≤ w.heap.size) :
    ∃ v' w', (Builtin.append_ #[t, t] ty #[v, .slice oa m c]).run Tryz.prog w = .ok v' w' ∧ Own w' base e size v' V (P ++ Q) ∧ w.grownBy w' v.ownBlock := by
  obtain ⟨news, o1, o2⟩ := hO
  obtain ⟨news2, n1, n2, n3, n4, n5⟩ := hQ.newsAny hV
  obtain ⟨v', w', hrun, r1, r2, _⟩ := run_append_any (P := Tryz.prog) w base t ty e i z size bytes ht hi hz hsize hby hzs hsz v P.length news o1 oa m c news2 n1 n2 n3 n4 h63 hbytes hbase
  refine ⟨v', w', hrun, Own.app o1.1 o2 n5 (by rw [← hQ.hlen]; exact r1), r2⟩
theorem wpList_append_rows (w : World) {ops : Array Oper} {rest : List Oper} {o : Oper} {a : Act} {K : Exit → Act → World → Prop}
    (hg : o.guard = none) (s x : Operand) (t : TypeId) (hop : o.op = Op.call { callee := Callee.builtin Builtin.append, args := #[s, x], argTypes := #[t, t] })
    (base : Nat) (e : TypeId) (i : TypeInfo) (z : Value) (size bytes : Nat) (ht : Tryz.prog.underlying t = some (.slice e)) (hi : Tryz.prog.info? e = some i) (hz : i.zero = some z)
    (hsize : i.size = size) (hby : i.bytes = bytes) (hzs : z.cells.size = size) (hsz : 0 < size)
    (v : Value) (P : List α) (hsv : a.eval s = v) (hO : Own w base e size v V P) (oa : Option Addr) (m c : Nat) (Q : List α) (hxv : a.eval x = .slice oa m c) (hQ : SR S2 w size V oa m c Q) (hV : ∀ v x, V v x → v.cells.size = size ∧ ∀ u ∈ v.cells, u.oneCell' = true)
    (h63 : P.length + m ≤ maxLen) (hbytes : (P.length + m) * bytes ≤ 140737488355328) (hbase : base ≤ w.heap.size)
    (hK : ∀ v' w', Own w' base e size v' V (P ++ Q) → w.grownBy w' v.ownBlock → wpList Tryz.prog ops K rest (a.put o.dst v') w') :
    wpList Tryz.prog ops K (o :: rest) a w := by
  refine wpList_plain hg fun K hK' => ?_
  obtain ⟨v', w', hrun, r1, r2⟩ := run_append_rows w base t o.type e i z size bytes ht hi hz hsize hby hzs hsz v P hO oa m c Q hQ hV h63 hbytes hbase
  unfold Oper.wp
  simp [execOp, hop, resolve, invoke, builtin, hsv, hxv, hrun, Result.andThen]
  exact hK' _ _ (hK v' w' r1 r2)
theorem step_append_rows {ops : Array Oper} {o : Oper} {a : Act} {w : World} {K : Act → World → Prop} {Q' : Exit → Act → World → Prop} {E : Prop}
    (hg : o.guard = none) (s x : Operand) (t : TypeId) (hop : o.op = Op.call { callee := Callee.builtin Builtin.append, args := #[s, x], argTypes := #[t, t] })
    (base : Nat) (e : TypeId) (i : TypeInfo) (z : Value) (size bytes : Nat) (ht : Tryz.prog.underlying t = some (.slice e)) (hi : Tryz.prog.info? e = some i) (hz : i.zero = some z)
    (hsize : i.size = size) (hby : i.bytes = bytes) (hzs : z.cells.size = size) (hsz : 0 < size)
    (v : Value) (P : List α) (hsv : a.eval s = v) (hO : Own w base e size v V P) (oa : Option Addr) (m c : Nat) (Q : List α) (hxv : a.eval x = .slice oa m c) (hQ : SR S2 w size V oa m c Q) (hV : ∀ v x, V v x → v.cells.size = size ∧ ∀ u ∈ v.cells, u.oneCell' = true)
    (h63 : P.length + m ≤ maxLen) (hbytes : (P.length + m) * bytes ≤ 140737488355328) (hbase : base ≤ w.heap.size)
    (hK : ∀ v' w', Own w' base e size v' V (P ++ Q) → w.grownBy w' v.ownBlock → K (a.put o.dst v') w') :
    if Region.wanted o (yielded ops a.tmps) = true then Oper.wp Tryz.prog o a w K Q' else E := by
  have hw : Region.wanted o (yielded ops a.tmps) = true := by simp [Region.wanted, hg]
  rw [if_pos hw]
  obtain ⟨v', w', hrun, r1, r2⟩ := run_append_rows w base t o.type e i z size bytes ht hi hz hsize hby hzs hsz v P hO oa m c Q hQ hV h63 hbytes hbase
  unfold Oper.wp
  simp [execOp, hop, resolve, invoke, builtin, hsv, hxv, hrun, Result.andThen]
  exact hK v' w' r1 r2
end
section
variable {S : Nat → Prop} {w0 : World}
theorem own_made {α : Type} (V : Value → α → Prop) (w : World) (e n : Nat) : Own (w.alloc (.cells #[] e)) w.heap.size e n (.slice (some ⟨w.heap.size, 0, none⟩) 0 0) V ([] : List α) :=
  ⟨[], World.ownsRow_made (base := w.heap.size) (e := e) (size := n) w #[] 0 (by simp) (by unfold maxLen; omega) (by simp), fun i x hi => by simp at hi⟩
set_option maxRecDepth 100000 in
set_option maxHeartbeats 4000000 in
theorem rVars_c {v : Value} {s : Fun} (hv : funV S w0 v s) (hsum : s.params.length + s.locals.length ≤ 1048576) (w : World) (hw : Mod (fun _ => False) w0 w) :
    Calls Tryz.prog 29 #[v] w fun e w' => ∃ oc cc, e = .returned (.slice oc (s.params ++ s.locals).length cc) ∧ Mod (fun _ => False) w w' ∧ Vrs (fun b => w.heap.size ≤ b) w' oc (s.params ++ s.locals).length cc (s.params ++ s.locals) := by
  obtain ⟨h0, h1, h2, oa, la, ca, ob, lb, cb, oc, lc, cc, rfl, k1, k2, k3⟩ := hv
  have HS1 : Hd _ := ⟨k1.keep (hw.kp S) (fun _ _ h => h)⟩
  have HS2 : Hd _ := ⟨k2.keep (hw.kp S) (fun _ _ h => h)⟩
  have hl1 := k1.hlen
  have hl2 := k2.hlen
  subst hl1
  subst hl2
  clear h0 h1 h2 k1 k2 k3 hw
  obtain ⟨i0, hi, hz0, hz1, hz2⟩ := info_parts info_52
  obtain ⟨C, hC⟩ : ∃ C : Array Value, #[.int .i64 s.pos, .string s.name, .slice oa s.params.length ca, .slice ob s.locals.length cb, .string s.result, .slice oc lc cc] = C := ⟨_, rfl⟩
  have c2 : (w.alloc (.cells C 45)).cell? ⟨w.heap.size, 2, none⟩ = some (.slice oa s.params.length ca) := by rw [← hC]; exact World.cell?_alloc_new w _ 45 2
  have c3 : (w.alloc (.cells C 45)).cell? ⟨w.heap.size, 3, none⟩ = some (.slice ob s.locals.length cb) := by rw [← hC]; exact World.cell?_alloc_new w _ 45 3
  have hb0 : (w.alloc (.cells C 45)).heap[w.heap.size]? = some (.cells C 45 (0, 0)) := heap_new' _ _
  have HM : Hd (Mod (fun _ => False) w (w.alloc (.cells C 45))) := ⟨Mod.alloc _ _ _⟩
  have HC : Hd _ := ⟨hC⟩
  have HB : Hd (w.heap.size + 1 = (w.alloc (.cells C 45)).heap.size) := ⟨by simp⟩
  go_enter Tryz.func29, Tryz.ntmps29
  go_wp2_with fail
  rw [HC.out]
  obtain ⟨W, hW⟩ : ∃ W, w.alloc (.cells C 45) = W := ⟨_, rfl⟩
  obtain ⟨bx, hbx⟩ : ∃ bx, w.heap.size = bx := ⟨_, rfl⟩
  rw [hW, hbx] at c2 c3 hb0
  rw [hW] at HM
  rw [hW]
  try rw [hbx]
  have HBX : Hd (w.heap.size = bx) := ⟨hbx⟩
  have HS1' : Hd (∀ W', Mod (fun _ => False) W W' → SR S W' 2 vrV oa s.params.length ca s.params) := ⟨fun W' h => HS1.out.keep ((HM.out.trans h (fun _ h => Or.inl h)).kp S) (fun _ _ h => h)⟩
  have HS2' : Hd (∀ W', Mod (fun _ => False) W W' → SR S W' 2 vrV ob s.locals.length cb s.locals) := ⟨fun W' h => HS2.out.keep ((HM.out.trans h (fun _ h => Or.inl h)).kp S) (fun _ _ h => h)⟩
  have HI : Hd _ := ⟨hi⟩
  have HZ0 : Hd _ := ⟨hz0⟩
  have HZ1 : Hd _ := ⟨hz1⟩
  have HZ2 : Hd _ := ⟨hz2⟩
  have HB0 : Hd _ := ⟨hb0⟩
  have HC2 : Hd _ := ⟨c2⟩
  have HC3 : Hd _ := ⟨c3⟩
  have HOM : Hd _ := ⟨(own_made vrV W 52 2).drew⟩
  have a2 : ∀ O, (W.alloc O).cell? ⟨bx, 2, none⟩ = some (.slice oa s.params.length ca) := fun O => Lib.cell?_alloc_some O c2
  have a3 : ∀ O, (W.alloc O).cell? ⟨bx, 3, none⟩ = some (.slice ob s.locals.length cb) := fun O => Lib.cell?_alloc_some O c3
  clear hC HC HS1 HS2 hi hz0 hz1 hz2 hb0 hW hbx HB
  go_region_law (first
    | (refine step_append_rows rfl (.tmp 3) (.tmp 5) 42 rfl W.heap.size 52 i0 (.agg #[.string { data := #[] }, .string { data := #[] }]) 2 32 Tryz.underlying42 HI.out HZ0.out HZ1.out HZ2.out ?z1 ?z2 (.slice (some ⟨W.heap.size, 0, none⟩) 0 0) [] ?e1 HOM.out oa s.params.length ca s.params ?e2 (HS1'.out _ ?m0) (fun v x hv => one_vr hv) ?m63 ?bt ?ba ?_
       case z1 => simp [Value.cells]
       case z2 => decide
       case e1 => simp [Act.eval, Act.put]
       case e2 => simp [Act.eval, Act.put]
       case m0 => exact (Mod.alloc _ _ _).trans (Mod.drew _ _) (fun _ h => Or.inl h)
       case m63 => simp; unfold maxLen; omega
       case bt => simp; omega
       case ba => simp [heap_drew]
       intro v1 w1 ho hg
       have HM1 : Hd (Mod (fun _ => False) W w1) := ⟨Mod.of_grown ((Mod.alloc _ _ _).trans (Mod.drew _ _) (fun _ h => Or.inl h)) hg (fun k hk => HOM.out.lt hk)⟩
       have HO1 : Hd (Own w1 W.heap.size 52 2 v1 vrV s.params) := ⟨ho⟩
       have b3 : w1.cell? ⟨bx, 3, none⟩ = some (.slice ob s.locals.length cb) := HM1.out.cell' HC3.out
       clear ho hg)
    | (refine step_append_rows rfl (.tmp 6) (.tmp 8) 42 rfl W.heap.size 52 i0 (.agg #[.string { data := #[] }, .string { data := #[] }]) 2 32 Tryz.underlying42 HI.out HZ0.out HZ1.out HZ2.out ?z1 ?z2 v1 s.params ?e1 HO1.out ob s.locals.length cb s.locals ?e2 (HS2'.out _ HM1.out) (fun v x hv => one_vr hv) ?m63 ?bt ?ba ?_
       case z1 => simp [Value.cells]
       case z2 => decide
       case e1 => simp [Act.eval, Act.put]
       case e2 => simp [Act.eval, Act.put]
       case m63 => unfold maxLen; omega
       case bt => omega
       case ba => exact HM1.out.size
       intro v2 w2 ho hg
       have HM2 : Hd (Mod (fun _ => False) W w2) := ⟨Mod.of_grown HM1.out hg (fun k hk => HO1.out.lt hk)⟩
       have HO2 : Hd (Own w2 W.heap.size 52 2 v2 vrV (s.params ++ s.locals)) := ⟨ho⟩
       clear ho hg))
  all_goals
    go_wp2
    go_ret
    obtain ⟨od, cd, rfl, hS⟩ := HO2.out.row (by rw [List.length_append]; exact hsum)
    exact ⟨od, cd, by first | rfl | (rw [List.length_append]; rfl), HM.out.trans HM2.out (fun _ h => Or.inl h), hS.keep (fun b hb hl => ⟨by have := HM.out.size; omega, hl, rfl⟩) (fun _ _ h => h)⟩
end
end Go.Proofs.YtpodeccpibnlbaaGreatDoor
