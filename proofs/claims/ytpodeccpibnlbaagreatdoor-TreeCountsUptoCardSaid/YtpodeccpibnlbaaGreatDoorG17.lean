/- An append whose source may be nil, to a row of the call's own, elements of any size. No program in sight. Find, Block, Text, walked. Text, walked. -/
import Derived.Test.YtpodeccpibnlbaaGreatDoorG13
import Derived.Test.YtpodeccpibnlbaaGreatDoorG11
import Derived.Test.YtpodeccpibnlbaaGreatDoorG05
import Derived.Test.YtpodeccpibnlbaaGreatDoorG06
import Derived.Test.YtpodeccpibnlbaaGreatDoorShelf
import Derived.Lib.Join
namespace Go.Proofs.YtpodeccpibnlbaaGreatDoor
set_option linter.unusedVariables false
set_option linter.unusedSimpArgs false
open Go.RowKit

theorem SR.newsAny {α : Type} {S : Nat → Prop} {w : World} {n : Nat} {V : Value → α → Prop} {oa : Option Addr} {len cap : Nat} {l : List α} (h : SR S w n V oa len cap l)
    (hn : ∀ v x, V v x → v.cells.size = n ∧ ∀ u ∈ v.cells, u.oneCell' = true) :
    ∃ news : List Value, news.length = len * n ∧ (oa = none → len = 0) ∧ (∀ a, oa = some a → ∀ j u, news[j]? = some u → w.cell? (a.add j) = some u) ∧ (∀ u ∈ news, u.oneCell' = true) ∧
      ∀ i x, l[i]? = some x → ∃ v, V v x ∧ ∀ k u, v.cells[k]? = some u → news[i * n + k]? = some u := by
  cases oa with
  | none =>
    have hl := h.nil_of rfl
    have := h.hlen
    subst hl
    subst this
    exact ⟨[], by simp, fun _ => rfl, fun a ha => (by cases ha), fun u hu => (by simp at hu), fun i x hi => (by simp at hi)⟩
  | some a =>
    obtain ⟨news, g1, g2, g3, g4⟩ := h.newsA hn
    exact ⟨news, g1, fun h => (by cases h), fun b hb => (by cases hb; exact g2), g3, g4⟩
section
variable {P : Program}
theorem run_append_any (w : World) (base : Nat) (t ty e : TypeId) (i : TypeInfo) (z : Value) (size bytes : Nat) (ht : P.underlying t = some (.slice e)) (hi : P.info? e = some i) (hz : i.zero = some z)
    (hsize : i.size = size) (hby : i.bytes = bytes) (hzs : z.cells.size = size) (hsz : 0 < size)
    (v : Value) (n : Nat) (xs : List Value) (hown : w.ownsRow base e size v n xs)
    (oa : Option Addr) (m c : Nat) (news : List Value) (hl : news.length = m * size) (hm0 : oa = none → m = 0) (hnews : ∀ a, oa = some a → ∀ j u, news[j]? = some u → w.cell? (a.add j) = some u) (h1 : ∀ u ∈ news, u.oneCell' = true)
    (h63 : n + m ≤ maxLen) (hbytes : (n + m) * bytes ≤ 140737488355328) (hbase : base ≤ w.heap.size) :
    ∃ v' w', (Builtin.append_ #[t, t] ty #[v, .slice oa m c]).run P w = .ok v' w' ∧ w'.ownsRow base e size v' (n + m) (xs ++ news) ∧ w.grownBy w' v.ownBlock ∧
      (v' = .slice none 0 0 ↔ v = .slice none 0 0 ∧ m = 0) := by
  cases oa with
  | some a => exact run_append_own (P := P) w base t ty e i z size bytes ht hi hz hsize hby hzs hsz v n xs hown a m c news hl (hnews a rfl) h1 h63 hbytes hbase
  | none =>
    have := hm0 rfl
    subst this
    have hn : news = [] := List.eq_nil_of_length_eq_zero (by simpa using hl)
    subst hn
    refine ⟨v, w, ?_, by simpa using hown, ⟨rfl, rfl, rfl, Nat.le_refl _, fun _ _ _ => rfl⟩, by simp⟩
    obtain ⟨_, h | ⟨g, cap, cur, rfl, h2, h3, h4, h5, h6, h7⟩⟩ := hown
    · obtain ⟨rfl, rfl⟩ := h
      simp [Builtin.append_, run_underlying ht, sizeOf, typeInfo, hi, Result.andThen, Builtin.lenOf, Builtin.firstCells, loadCells, loadCellsFrom, storeCells]
    · simp [Builtin.append_, run_underlying ht, sizeOf, typeInfo, hi, Result.andThen, Builtin.lenOf, h4, Builtin.firstCells, loadCells, loadCellsFrom, storeCells]
theorem step_append_any {ops : Array Oper} {o : Oper} {a : Act} {w : World} {K : Act → World → Prop} {Q : Exit → Act → World → Prop} {E : Prop}
    (hg : o.guard = none) (s x : Operand) (t : TypeId) (hop : o.op = Op.call { callee := Callee.builtin Builtin.append, args := #[s, x], argTypes := #[t, t] })
    (base : Nat) (e : TypeId) (i : TypeInfo) (z : Value) (size bytes : Nat) (ht : P.underlying t = some (.slice e)) (hi : P.info? e = some i) (hz : i.zero = some z)
    (hsize : i.size = size) (hby : i.bytes = bytes) (hzs : z.cells.size = size) (hsz : 0 < size)
    (v : Value) (n : Nat) (xs : List Value) (hsv : a.eval s = v) (hown : w.ownsRow base e size v n xs)
    (oa : Option Addr) (m c : Nat) (news : List Value) (hxv : a.eval x = .slice oa m c) (hl : news.length = m * size) (hm0 : oa = none → m = 0) (hnews : ∀ a, oa = some a → ∀ j u, news[j]? = some u → w.cell? (a.add j) = some u) (h1 : ∀ u ∈ news, u.oneCell' = true)
    (h63 : n + m ≤ maxLen) (hbytes : (n + m) * bytes ≤ 140737488355328) (hbase : base ≤ w.heap.size)
    (hK : ∀ v' w', w'.ownsRow base e size v' (n + m) (xs ++ news) → w.grownBy w' v.ownBlock → (v' = .slice none 0 0 ↔ v = .slice none 0 0 ∧ m = 0) → K (a.put o.dst v') w') :
    if Region.wanted o (yielded ops a.tmps) = true then Oper.wp P o a w K Q else E := by
  have hw : Region.wanted o (yielded ops a.tmps) = true := by simp [Region.wanted, hg]
  rw [if_pos hw]
  obtain ⟨v', w', hrun, r1, r2, r3⟩ := run_append_any (P := P) w base t o.type e i z size bytes ht hi hz hsize hby hzs hsz v n xs hown oa m c news hl hm0 hnews h1 h63 hbytes hbase
  unfold Oper.wp
  simp [execOp, hop, resolve, invoke, builtin, hsv, hxv, hrun, Result.andThen]
  exact hK v' w' r1 r2 r3
theorem wpList_append_any (w : World) {ops : Array Oper} {rest : List Oper} {o : Oper} {a : Act} {Q : Exit → Act → World → Prop}
    (hg : o.guard = none) (s x : Operand) (t : TypeId) (hop : o.op = Op.call { callee := Callee.builtin Builtin.append, args := #[s, x], argTypes := #[t, t] })
    (base : Nat) (e : TypeId) (i : TypeInfo) (z : Value) (size bytes : Nat) (ht : P.underlying t = some (.slice e)) (hi : P.info? e = some i) (hz : i.zero = some z)
    (hsize : i.size = size) (hby : i.bytes = bytes) (hzs : z.cells.size = size) (hsz : 0 < size)
    (v : Value) (n : Nat) (xs : List Value) (hsv : a.eval s = v) (hown : w.ownsRow base e size v n xs)
    (oa : Option Addr) (m c : Nat) (news : List Value) (hxv : a.eval x = .slice oa m c) (hl : news.length = m * size) (hm0 : oa = none → m = 0) (hnews : ∀ a, oa = some a → ∀ j u, news[j]? = some u → w.cell? (a.add j) = some u) (h1 : ∀ u ∈ news, u.oneCell' = true)
    (h63 : n + m ≤ maxLen) (hbytes : (n + m) * bytes ≤ 140737488355328) (hbase : base ≤ w.heap.size)
    (hK : ∀ v' w', w'.ownsRow base e size v' (n + m) (xs ++ news) → w.grownBy w' v.ownBlock → (v' = .slice none 0 0 ↔ v = .slice none 0 0 ∧ m = 0) → wpList P ops Q rest (a.put o.dst v') w') :
    wpList P ops Q (o :: rest) a w := by
  refine wpList_plain hg fun K hK' => ?_
  obtain ⟨v', w', hrun, r1, r2, r3⟩ := run_append_any (P := P) w base t o.type e i z size bytes ht hi hz hsize hby hzs hsz v n xs hown oa m c news hl hm0 hnews h1 h63 hbytes hbase
  unfold Oper.wp
  simp [execOp, hop, resolve, invoke, builtin, hsv, hxv, hrun, Result.andThen]
  exact hK' _ _ (hK v' w' r1 r2 r3)
end
/-- A row of the call's own has grown: what lay below is kept. -/
theorem Mod.of_grown {w w1 w' : World} {v : Value} (h : Mod (fun _ => False) w w1) (hg : w1.grownBy w' v.ownBlock) (hv : ∀ k, v.ownBlock = some k → w.heap.size ≤ k) : Mod (fun _ => False) w w' :=
  h.trans (⟨hg.os, hg.tape, hg.output, hg.size, fun k hk hn => hg.block k hk (fun e => hn e.symm)⟩ : Mod (fun k => v.ownBlock = some k) w1 w') (fun k hk => Or.inr (hv k hk))
end Go.Proofs.YtpodeccpibnlbaaGreatDoor
namespace Go.Proofs.YtpodeccpibnlbaaGreatDoor
set_option linter.unusedVariables false
set_option linter.unusedSimpArgs false
open Go.RowKit
section
variable {S : Nat → Prop} {w0 : World}

theorem fn_81 : Fn 81 := fn_of Tryz.func81 (by decide +kernel) (by kernel_rfl)
theorem fn_83 : Fn 83 := fn_of Tryz.func83 (by decide +kernel) (by kernel_rfl)
set_option maxRecDepth 100000 in
set_option maxHeartbeats 1000000 in
theorem find1_ans {v : Value} {x : Vr} (hv : vrV v x) (name : ByteArray) (pb : Nat) (hp : w0.cell? ⟨pb, 0, none⟩ = some (.string name)) (hpb : pb < w0.heap.size) :
    Ans 81 #[v, .pointer (some ⟨pb, 0, none⟩)] w0 (.bool (eqB x.name name)) := by
  intro w hw
  have hp2 : ∀ O, (w.alloc O).cell? ⟨pb, 0, none⟩ = some (.string name) := fun O => Lib.cell?_alloc_some O (by rw [← hp]; exact World.cell?_of_block (hw.block pb hpb (fun h => h)))
  obtain ⟨rfl, k0⟩ := hv
  clear hp hpb hw
  cases hq : (x.name.toList == name.toList) with
  | true =>
    have HQ : Hd (eqB x.name name = true) := ⟨hq⟩
    go_enter Tryz.func81, Tryz.ntmps81
    go_wp2
    go_ret
    exact ⟨by rw [HQ.out]; rfl, Mod.alloc _ _ _⟩
  | false =>
    have HQ : Hd (eqB x.name name = false) := ⟨hq⟩
    go_enter Tryz.func81, Tryz.ntmps81
    go_wp2
    go_ret
    exact ⟨by rw [HQ.out]; rfl, Mod.alloc _ _ _⟩
set_option maxRecDepth 100000 in
set_option maxHeartbeats 1000000 in
theorem block1_ans {v : Value} {x : Blk} (hv : blkV S w0 v x) (name : ByteArray) (pb : Nat) (hp : w0.cell? ⟨pb, 0, none⟩ = some (.string name)) (hpb : pb < w0.heap.size) :
    Ans 83 #[v, .pointer (some ⟨pb, 0, none⟩)] w0 (.bool (eqB x.name name)) := by
  intro w hw
  have hp2 : ∀ O, (w.alloc O).cell? ⟨pb, 0, none⟩ = some (.string name) := fun O => Lib.cell?_alloc_some O (by rw [← hp]; exact World.cell?_of_block (hw.block pb hpb (fun h => h)))
  obtain ⟨k0, k1, oa1, la1, ca1, ob1, lb1, cb1, oc1, lc1, cc1, od1, ld1, cd1, oe1, le1, ce1, rfl, k2⟩ := hv
  clear hp hpb hw k2
  cases hq : (x.name.toList == name.toList) with
  | true =>
    have HQ : Hd (eqB x.name name = true) := ⟨hq⟩
    go_enter Tryz.func83, Tryz.ntmps83
    go_wp2
    go_ret
    exact ⟨by rw [HQ.out]; rfl, Mod.alloc _ _ _⟩
  | false =>
    have HQ : Hd (eqB x.name name = false) := ⟨hq⟩
    go_enter Tryz.func83, Tryz.ntmps83
    go_wp2
    go_ret
    exact ⟨by rw [HQ.out]; rfl, Mod.alloc _ _ _⟩

def findI (l : List Vr) (name : ByteArray) : Int := idxI (fun v => eqB v.name name) l
def blockIx (l : List Blk) (name : ByteArray) : Int := idxI (fun v => eqB v.name name) l

set_option maxRecDepth 100000 in
set_option maxHeartbeats 1000000 in
theorem Find_ans {oa : Option Addr} {len cap : Nat} {l : List Vr} (h : Vrs S w0 oa len cap l) (name : ByteArray) : Ans 30 #[.slice oa len cap, .string name] w0 (.int .i64 (findI l name)) := by
  intro w hw
  have HC : Hd (∀ t, _) := ⟨fun t => by
    have hw2 : Mod (fun _ => False) w0 (w.alloc (.cells #[.string name] t)) := hw.trans (Mod.alloc _ _ _) (fun _ h => Or.inl h)
    have hpc : (w.alloc (.cells #[.string name] t)).cell? ⟨w.heap.size, 0, none⟩ = some (.string name) := World.cell?_alloc_new w _ t 0
    exact index_vr (h.keep (hw2.kp S) (fun _ _ h => h)) (fun v => eqB v.name name) 81 fn_81 (.pointer (some ⟨w.heap.size, 0, none⟩)) (fun v x hv hx => find1_ans hv name w.heap.size hpc (lt1_0 _ _)) _ (Mod.refl _ _)⟩
  have HR : Hd (findI l name = idxI (fun v => eqB v.name name) l) := ⟨rfl⟩
  rw [HR.out]
  obtain ⟨r, hr⟩ : ∃ r, idxI (fun v => eqB v.name name) l = r := ⟨_, rfl⟩
  rw [hr] at HC ⊢
  clear hr h hw HR
  go_enter Tryz.func30, Tryz.ntmps30
  go_wp2_with fail
  refine (HC.out _).mono ?_
  rintro e w2 ⟨rfl, hM2⟩
  have HM2 : Hd (Mod (fun _ => False) w w2) := ⟨(Mod.alloc _ _ _).trans hM2 (fun _ h => Or.inl h)⟩
  clear hM2
  go_wp2
  go_ret
  exact ⟨rfl, HM2.out⟩
set_option maxRecDepth 100000 in
set_option maxHeartbeats 1000000 in
theorem Block_ans {v : Value} {s : Fun} (hv : funV S w0 v s) (name : ByteArray) : Ans 32 #[v, .string name] w0 (.int .i64 (blockIx s.blocks name)) := by
  intro w hw
  obtain ⟨h0, h1, h2, oa, la, ca, ob, lb, cb, oc, lc, cc, rfl, k1, k2, h⟩ := hv
  have HC : Hd (∀ t A, _) := ⟨fun t A => by
    have hw2 : Mod (fun _ => False) w0 ((w.alloc A).alloc (.cells #[.string name] t)) := hw.trans ((Mod.alloc _ _ _).trans (Mod.alloc _ _ _) (fun _ h => Or.inl h)) (fun _ h => Or.inl h)
    have hpc : ((w.alloc A).alloc (.cells #[.string name] t)).cell? ⟨w.heap.size + 1, 0, none⟩ = some (.string name) := by
      have := World.cell?_alloc_new (w.alloc A) #[.string name] t 0
      rwa [World.size_alloc] at this
    exact index_blk (h.keep (hw2.kp S) (fun _ _ h => h)) (fun v => eqB v.name name) 83 fn_83 (.pointer (some ⟨w.heap.size + 1, 0, none⟩)) (fun v x hv hx => block1_ans (hv.keep (hw2.kp S)) name (w.heap.size + 1) hpc (lt2_1 _ _ _)) _ (Mod.refl _ _)⟩
  have HR : Hd (blockIx s.blocks name = idxI (fun v => eqB v.name name) s.blocks) := ⟨rfl⟩
  rw [HR.out]
  obtain ⟨r, hr⟩ : ∃ r, idxI (fun v => eqB v.name name) s.blocks = r := ⟨_, rfl⟩
  rw [hr] at HC ⊢
  clear hr h hw HR h0 h1 h2 k1 k2
  go_enter Tryz.func32, Tryz.ntmps32
  go_wp2_with fail
  refine (HC.out _ _).mono ?_
  rintro e w2 ⟨rfl, hM2⟩
  have HM2 : Hd (Mod (fun _ => False) w w2) := ⟨((Mod.alloc _ _ _).trans (Mod.alloc _ _ _) (fun _ h => Or.inl h)).trans hM2 (fun _ h => Or.inl h)⟩
  clear hM2
  go_wp2
  go_ret
  exact ⟨rfl, HM2.out⟩
end
end Go.Proofs.YtpodeccpibnlbaaGreatDoor
namespace Go.Proofs.YtpodeccpibnlbaaGreatDoor
set_option linter.unusedVariables false
set_option linter.unusedSimpArgs false
open Go.RowKit

/-- A place's text. -/
def textL (p : Pl) : List UInt8 := lst p.loc ++ (p.steps.map (fun s => 46 :: lst s)).flatten
def textI (p : Pl) : ByteArray := ⟨(textL p).toArray⟩
theorem text_join (p : Pl) : Lib.join ((p.loc :: p.steps).map (·.data.toList)) [46] = textL p := by
  have key : ∀ (x : List UInt8) (r : List (List UInt8)), Lib.join (x :: r) [46] = x ++ (r.map (fun s => 46 :: s)).flatten := by
    intro x r
    induction r generalizing x with
    | nil => simp [Lib.join, List.intercalate]
    | cons y r ih =>
      have e : Lib.join (x :: y :: r) [46] = x ++ ([46] ++ Lib.join (y :: r) [46]) := by simp [Lib.join, List.intercalate]
      rw [e, ih]
      simp
  rw [List.map_cons, key, List.map_map]
  rfl
theorem lens_le : ∀ (l : List (List UInt8)) (B : Nat), (∀ x ∈ l, x.length ≤ B) → Lib.lens l ≤ l.length * B
  | [], _, _ => by simp [Lib.lens]
  | x :: r, B, h => by
    have h1 := lens_le r B (fun y hy => h y (by simp [hy]))
    have h2 := h x (by simp)
    have e : Lib.lens (x :: r) = x.length + Lib.lens r := by simp [Lib.lens]
    rw [e, List.length_cons, Nat.add_mul]
    omega

section
variable {S : Nat → Prop} {w0 : World}
set_option maxRecDepth 100000 in
set_option maxHeartbeats 2000000 in
theorem Text_ans {v : Value} {p : Pl} (hv : plV S w0 v p) : Ans 13 #[v] w0 (.string (textI p)) := by
  intro w hw
  obtain ⟨h1, oa, len, cap, rfl, h2⟩ := hv
  have hk := h2.keep (hw.kp S) (fun _ _ h => h)
  have hbig := hk.hbig
  have hlen := hk.hlen
  subst hlen
  have HJL : Hd ((Lib.join ((p.loc :: p.steps).map (·.data.toList)) [46]).length ≤ 140737488355328) := ⟨by
    have hs : ∀ x ∈ (p.loc :: p.steps).map (·.data.toList), x.length ≤ 1048576 := by
      intro x hx
      obtain ⟨s, hs, rfl⟩ := List.mem_map.1 hx
      rcases List.mem_cons.1 hs with rfl | hs
      · simpa [Sm] using h1
      · obtain ⟨i, hi⟩ := List.getElem?_of_mem hs
        obtain ⟨b, o, v, _, _, _, _, _, h6⟩ := h2.at' i s hi
        simpa [Sm] using h6
    have h3 := lens_le _ _ hs
    rw [List.length_map, List.length_cons] at h3
    rw [List.map_cons, Lib.join_length]
    rw [List.map_cons] at h3
    rw [List.length_map]
    simp only [List.length_cons, List.length_nil]
    omega⟩
  have HTJ : Hd _ := ⟨text_join p⟩
  have HTI : Hd (textI p = ⟨(textL p).toArray⟩) := ⟨rfl⟩
  rw [HTI.out]
  obtain ⟨news, n1, n0, n2, n3, n4⟩ := hk.newsAny (fun v x hv => one_str hv)
  have H2 : Hd (∀ A B : Obj, ∀ a, oa = some a → ∀ j u, news[j]? = some u → ((w.alloc A).alloc B).cell? (a.add j) = some u) := ⟨fun A B a ha j u hj => Lib.cell?_alloc_some B (Lib.cell?_alloc_some A (n2 a ha j u hj))⟩
  have H3 : Hd _ := ⟨n3⟩
  have H0 : Hd _ := ⟨n0⟩
  have H4 : Hd (∀ i x, p.steps[i]? = some x → news[i]? = some (Value.string x)) := ⟨fun i x hi => by
    obtain ⟨v, hv, h⟩ := n4 i x hi
    obtain ⟨rfl, _⟩ := hv
    have := h 0 (.string x) rfl
    simpa using this⟩
  clear hk h2 n2 n3 n4 n0 h1 hw
  obtain ⟨i0, hi, hz0, hz1, hz2⟩ := info_parts info_9
  go_enter Tryz.func13, Tryz.ntmps13
  go_wp2_with (at_builtin; refine wpList_append_any _ rfl _ _ 22 rfl w.heap.size 9 i0 (.string { data := #[] }) 1 16 Tryz.underlying22 hi hz0 hz1 hz2 (by simp [Value.cells]) (by decide) _ 1 [.string p.loc] rfl ?q0 oa p.steps.length cap news rfl ?q1 H0.out ?q2 H3.out ?q4 ?q5 ?q6 ?_)
  case q0 => exact ⟨by simp, .inr ⟨w.heap.size + 1, 1, #[.string p.loc], rfl, by omega, heap2_1 _ _ _, by omega, by simp [maxLen], by simp, by simp⟩⟩
  case q1 => exact n1
  case q2 => exact H2.out _ _
  case q4 => unfold maxLen; omega
  case q5 => omega
  case q6 => simp; omega
  intro v' w1 hown hgrow hnil
  have HM1 : Hd (Mod (fun _ => False) w w1) := ⟨Mod.of_grown ((Mod.alloc _ _ _).trans (Mod.alloc _ _ _) (fun _ h => Or.inl h)) hgrow (fun k hk => by simp [Value.ownBlock] at hk; omega)⟩
  obtain ⟨k1, ⟨_, k2⟩ | ⟨g, cp, cur, rfl, k3, k4, k5, k6, k7, k8⟩⟩ := hown
  · omega
  have HC : Hd _ := ⟨Tryz.strings_Join g 0 cp (p.loc :: p.steps) ⟨#[46]⟩ w1 (fun j x hj => by
    have hx : (Value.string p.loc :: news)[j]? = some (.string x) := by
      cases j with
      | zero => simp at hj; subst hj; rfl
      | succ j => simpa using H4.out j x (by simpa using hj)
    rw [← k8, List.getElem?_take] at hx
    split at hx
    · simp only [World.cell?, k4, Nat.zero_add]
      simpa using hx
    · cases hx) (Array.getElem?_eq_some_iff.1 k4).1 (by rw [List.length_cons]; omega) (by rw [List.length_cons]; omega) HJL.out⟩
  have hlc : (p.loc :: p.steps).length = 1 + p.steps.length := by rw [List.length_cons]; omega
  rw [hlc] at HC
  rw [show (⟨#[46]⟩ : ByteArray).data.toList = [46] from rfl, HTJ.out] at HC
  clear hgrow hnil k1 k3 k4 k7 k8 H4 hlc
  go_wp2_with fail
  refine HC.out.mono ?_
  rintro e w2 ⟨rfl, hM2⟩
  have HM2 : Hd (Mod (fun _ => False) w w2) := ⟨HM1.out.trans (.of_below hM2) (fun _ h => Or.inl h)⟩
  clear hM2
  go_wp2
  go_ret
  exact ⟨rfl, HM2.out⟩
end
end Go.Proofs.YtpodeccpibnlbaaGreatDoor
