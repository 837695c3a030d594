/- Clone at places, as a row of the call's own; places. A function's uses, as data; cells that lie as they lay but for some blocks. No program in sight. -/
import Derived.Test.YtpodeccpibnlbaaGreatDoorG11
import Derived.Test.YtpodeccpibnlbaaGreatDoorG17
import Derived.Test.YtpodeccpibnlbaaGreatDoorG07
import Derived.RangeFuncNested
import Derived.RangeFuncBound
import Derived.RangeFuncCalls
import Derived.RangeFuncLeaves
namespace Go.Proofs.YtpodeccpibnlbaaGreatDoor
set_option linter.unusedVariables false
set_option linter.unusedSimpArgs false
open Go.RowKit
section
variable {S : Nat → Prop} {w0 wV : World} {oa : Option Addr} {len cap : Nat}

set_option maxRecDepth 100000 in
set_option maxHeartbeats 2000000 in
theorem clo_pl {V : Value → Pl → Prop} (hV : ∀ v x, V v x → v.cells.size = 2 ∧ ∀ u ∈ v.cells, u.oneCell' = true) {l : List Pl} (h : SR S w0 2 V oa len cap l) (w : World) (hw : Mod (fun _ => False) w0 w) :
    Calls Tryz.prog 126 #[.slice oa len cap] w fun e w' => ∃ v' news, e = .returned v' ∧ Mod (fun _ => False) w w' ∧ w'.ownsRow w.heap.size 24 2 v' l.length news ∧ (∀ u ∈ news, u.oneCell' = true) ∧ (v' = .slice none 0 0 → l = []) ∧
      ∀ i x, l[i]? = some x → ∃ v, V v x ∧ ∀ k u, v.cells[k]? = some u → news[i * 2 + k]? = some u := by
  have hk := h.keep (hw.kp S) (fun _ _ h => h)
  have hbig := hk.hbig
  have hlen := hk.hlen
  subst hlen
  cases oa with
  | none =>
    have hl : l = [] := hk.nil_of rfl
    subst hl
    clear h hk
    have hnil := fun (w : World) (a : Option Addr) (n c : Nat) => Lib.run_eql_slice_nil (P := Tryz.prog) w 46 24 a n c 0 0 Tryz.underlying46
    go_enter Tryz.func126, Tryz.ntmps126
    go_wp2
    go_ret
    exact ⟨_, [], rfl, Mod.refl _ _, World.ownsRow_nil _ _ _ _, fun u hu => by simp at hu, by simp, fun i x hi => by simp at hi⟩
  | some a =>
    obtain ⟨news, n1, n2, n3, n4⟩ := hk.newsA hV
    have H2 : Hd _ := ⟨n2⟩
    have H3 : Hd _ := ⟨n3⟩
    have H4 : Hd _ := ⟨n4⟩
    clear h hk n2 n3 n4
    obtain ⟨i0, hi, hz0, hz1, hz2⟩ := info_parts info_24
    have ht := Tryz.underlying46
    have hnil := fun (w : World) (a : Option Addr) (n c : Nat) => Lib.run_eql_slice_nil (P := Tryz.prog) w 46 24 a n c 0 0 ht
    go_enter Tryz.func126, Tryz.ntmps126
    go_wp2_with (at_builtin; refine wpList_append_own _ rfl _ _ 46 rfl w.heap.size 24 i0 (.agg #[.string { data := #[] }, .slice none 0 0]) 2 40 ht hi hz0 hz1 hz2 (by simp [Value.cells]) (by decide) _ _ _ rfl (World.ownsRow_made w #[] 0 (Nat.le_refl _) (Nat.zero_le _) (by simp)) a l.length cap news rfl ?qc1 ?qc2 ?qc3 ?qc4 ?qc5 ?qc6 ?_)
    case qc1 => exact n1
    case qc2 => intro j u hj; exact Lib.cell?_alloc_some _ (H2.out j u hj)
    case qc3 => exact H3.out
    case qc4 => unfold maxLen; omega
    case qc5 => omega
    case qc6 => simp
    intro v' w1 hown hgrow hnil
    go_wp2
    go_ret
    have hB : Below w.heap.size w w1 := ((Below.refl _ w).alloc (Nat.le_refl _) _).grown hgrow (by simp) (by intro k hk; simp [Value.ownBlock] at hk; omega)
    exact ⟨v', news, rfl, .of_below hB, by simpa using hown, H3.out, fun h => absurd h hnil, H4.out⟩

theorem owns_mono {w : World} {b b' : Nat} {e : TypeId} {n : Nat} {v : Value} {m : Nat} {xs : List Value} (h : w.ownsRow b' e n v m xs) (hb : b ≤ b') : w.ownsRow b e n v m xs := by
  obtain ⟨h1, h | ⟨g, cap, cur, h2, h3, h4⟩⟩ := h
  · exact ⟨h1, .inl h⟩
  · exact ⟨h1, .inr ⟨g, cap, cur, h2, Nat.le_trans hb h3, h4⟩⟩
theorem two_at {w : World} {u v : Value} {t : TypeId} {a : Nat} (h : w.heap[a]? = some (.cells #[u, v] t)) : ∀ j x, [u, v][j]? = some x → w.cell? ((⟨a, 0, none⟩ : Addr).add j) = some x := by
  intro j x hj
  have hj2 : j = 0 ∨ j = 1 := by have := (List.getElem?_eq_some_iff.1 hj).1; simp at this; omega
  rcases hj2 with rfl | rfl <;> (simp at hj; subst hj; simp [World.cell?, h, Addr.add])
def placesI (args : List Pl) (p : Pl) : List Pl := if emp p.loc then args else args ++ [p]
theorem grow_row {w w1 W W2 : World} {V : Value → Pl → Prop} {S : Nat → Prop} {l : List Pl} {p : Pl} {v v2 vp : Value} {news news2 : List Value} (hS : ∀ b, w.heap.size ≤ b → S b)
    (hb : (l ++ [p]).length ≤ 1048576) (hl : news.length = l.length * 2) (hn : ∀ i x, l[i]? = some x → ∃ v, V v x ∧ ∀ k u, v.cells[k]? = some u → news[i * 2 + k]? = some u) (hp : V vp p) (hc : vp.cells.toList = news2)
    (ho : W2.ownsRow w.heap.size 24 2 v2 (l.length + 1) (news ++ news2)) : ∃ oc cc, v2 = .slice oc (l ++ [p]).length cc ∧ SR S W2 2 V oc (l ++ [p]).length cc (l ++ [p]) := by
  have hne : v2 ≠ .slice none 0 0 := by
    rintro rfl
    obtain ⟨_, ⟨_, h⟩ | ⟨g, cap, cur, h, _⟩⟩ := ho
    · omega
    · cases h
  have ho' : W2.ownsRow w.heap.size 24 2 v2 (l ++ [p]).length (news ++ news2) := by rw [List.length_append]; exact ho
  obtain ⟨oc, cc, h1, h2, _⟩ := SR.of_owns (l := l ++ [p]) (V := V) ho' hb (fun i x hi => by
    by_cases hlt : i < l.length
    · rw [List.getElem?_append_left hlt] at hi
      obtain ⟨v, h1, h3⟩ := hn i x hi
      refine ⟨v, h1, fun k u hu => ?_⟩
      have := h3 k u hu
      rw [List.getElem?_append_left (List.getElem?_eq_some_iff.1 this).1]
      exact this
    · rw [List.getElem?_append_right (by omega)] at hi
      have hi0 : i - l.length = 0 := by have := (List.getElem?_eq_some_iff.1 hi).1; simp at this; omega
      rw [hi0] at hi
      simp at hi
      subst hi
      refine ⟨vp, hp, fun k u hu => ?_⟩
      rw [List.getElem?_append_right (by omega), show i * 2 + k - news.length = k by omega, ← hc]
      simpa using hu) (.inl hne)
  exact ⟨oc, cc, h1, h2.hlen, h2.hbig, h2.hle, h2.hmax, fun i x hi => by
    obtain ⟨b, o, v, a1, a2, a3⟩ := h2.at' i x hi
    exact ⟨b, o, v, a1, hS b a2, a3⟩⟩
set_option maxRecDepth 100000 in
set_option maxHeartbeats 4000000 in
theorem places_c {V : Value → Pl → Prop} (hV : ∀ v x, V v x → v.cells.size = 2 ∧ ∀ u ∈ v.cells, u.oneCell' = true) {w : World} {args : List Pl} (hr : SR S w 2 V oa len cap args) {p : Pl} {ob : Option Addr} {lb cb : Nat}
    (hp : V (.agg #[.string p.loc, .slice ob lb cb]) p) (hbig : args.length + 1 ≤ 1048576) :
    Calls Tryz.prog 78 #[.slice oa len cap, .agg #[.string p.loc, .slice ob lb cb]] w fun e w' => ∃ oc cc, e = .returned (.slice oc (placesI args p).length cc) ∧ Mod (fun _ => False) w w' ∧
      SR (fun b => S b ∨ w.heap.size ≤ b) w' 2 V oc (placesI args p).length cc (placesI args p) := by
  have hlen := hr.hlen
  subst hlen
  cases he : emp p.loc with
  | true =>
    have HP : Hd (placesI args p = args) := ⟨by simp [placesI, he]⟩
    rw [HP.out]
    have HR : Hd (∀ w', Mod (fun _ => False) w w' → SR (fun b => S b ∨ w.heap.size ≤ b) w' 2 V oa args.length cap args) := ⟨fun w' hm => hr.keep (fun b hb hl => ⟨Or.inl hb, Nat.lt_of_lt_of_le hl hm.size, hm.block b hl (fun h => h)⟩) (fun _ _ h => h)⟩
    obtain ⟨he2, he3⟩ := emp_t he
    clear he hr hp hV
    go_enter Tryz.func78, Tryz.ntmps78
    go_wp2
    go_ret
    exact ⟨oa, cap, rfl, Mod.alloc _ _ _, HR.out _ (Mod.alloc _ _ _)⟩
  | false =>
    have HP : Hd (placesI args p = args ++ [p]) := ⟨by simp [placesI, he]⟩
    rw [HP.out]
    have HC : Hd (∀ w', Mod (fun _ => False) w w' → _) := ⟨fun w' h' => clo_pl hV hr w' h'⟩
    have HGR : Hd (∀ {W2 : World} {v2 : Value} {news news2 : List Value}, news.length = args.length * 2 → (∀ i x, args[i]? = some x → ∃ v, V v x ∧ ∀ k u, v.cells[k]? = some u → news[i * 2 + k]? = some u) → news2 = [.string p.loc, .slice ob lb cb] → W2.ownsRow w.heap.size 24 2 v2 (args.length + 1) (news ++ news2) → ∃ oc cc, v2 = .slice oc (args ++ [p]).length cc ∧ SR (fun b => S b ∨ w.heap.size ≤ b) W2 2 V oc (args ++ [p]).length cc (args ++ [p])) :=
      ⟨fun h1 h2 h3 h4 => grow_row (w1 := w) (W := w) (v := .bool true) (fun b hb => Or.inr hb) (by simpa using hbig) h1 h2 hp (by simp [Value.cells, h3]) h4⟩
    obtain ⟨he2, he3⟩ := emp_f he
    obtain ⟨i0, hi, hz0, hz1, hz2⟩ := info_parts info_24
    have HI : Hd _ := ⟨hi⟩
    have HZ0 : Hd _ := ⟨hz0⟩
    have HZ1 : Hd _ := ⟨hz1⟩
    have HZ2 : Hd _ := ⟨hz2⟩
    clear he hr hp hV hi hz0 hz1 hz2
    go_enter Tryz.func78, Tryz.ntmps78
    go_wp2_with fail
    go_region_law (first
      | (refine step_append_any rfl (.tmp 10) (.tmp 12) 46 rfl w.heap.size 24 i0 (.agg #[.string { data := #[] }, .slice none 0 0]) 2 40 Tryz.underlying46 HI.out HZ0.out HZ1.out HZ2.out ?z1 ?z2 v' args.length news ?e1 ?own (some ⟨w.heap.size + 1, 0, none⟩) 1 1 [.string p.loc, .slice ob lb cb] ?e2 rfl ?m0 ?nw ?one ?m63 ?bt ?ba ?_
         case z1 => simp [Value.cells]
         case z2 => decide
         case e1 => simp [Act.eval, Act.put]
         case own => exact HOW.out
         case e2 => simp [Act.eval, Act.put]
         case m0 => intro h; cases h
         case nw => intro a ha j u hu; cases ha; exact HNW.out j u hu
         case one => intro u hu; simp at hu; rcases hu with rfl | rfl <;> rfl
         case m63 => unfold maxLen; omega
         case bt => omega
         case ba => exact HM1.out.size
         intro v2 w2 ho hg hn
         have HO2 : Hd _ := ⟨ho⟩
         have HM2 : Hd (Mod (fun _ => False) w w2) := ⟨Mod.of_grown HM1.out hg (fun k hk => (HOW.out.lt k hk).1)⟩
         clear ho hg hn)
      | (refine step_append_any rfl (.tmp 10) (.tmp 12) 46 rfl w.heap.size 24 i0 (.agg #[.string { data := #[] }, .slice none 0 0]) 2 40 Tryz.underlying46 HI.out HZ0.out HZ1.out HZ2.out ?z1 ?z2 v' args.length news ?e1 ?own (some ⟨w1.heap.size, 0, none⟩) 1 1 [.string p.loc, .slice ob lb cb] ?e2 rfl ?m0 ?nw ?one ?m63 ?bt ?ba ?_
         case z1 => simp [Value.cells]
         case z2 => decide
         case e1 => simp [Act.eval, Act.put]
         case own => exact HOW.out.alloc _
         case e2 => simp [Act.eval, Act.put]
         case m0 => intro h; cases h
         case nw => intro a ha j u hu; cases ha; exact HNX.out j u hu
         case one => intro u hu; simp at hu; rcases hu with rfl | rfl <;> rfl
         case m63 => unfold maxLen; omega
         case bt => omega
         case ba => have := HM1.out.size; simp; omega
         intro v2 w2 ho hg hn
         have HO2 : Hd _ := ⟨ho⟩
         have HM2 : Hd (Mod (fun _ => False) w w2) := ⟨Mod.of_grown (HM1.out.trans (Mod.alloc _ _ _) (fun _ h => Or.inl h)) hg (fun k hk => (HOW.out.lt k hk).1)⟩
         clear ho hg hn)
      | (go_simp
         go_at_call 126
         refine (HC.out _ ?hm).mono ?_
         case hm => exact ((Mod.alloc _ _ _).trans (Mod.alloc _ _ _) (fun _ h => Or.inl h)).trans (Mod.drew _ _) (fun _ h => Or.inl h)
         rintro e w1 ⟨v', news, rfl, hM, how, hone, hnil, hel⟩
         have HM1 : Hd (Mod (fun _ => False) w w1) := ⟨(((Mod.alloc _ _ _).trans (Mod.alloc _ _ _) (fun _ h => Or.inl h)).trans (Mod.drew _ _) (fun _ h => Or.inl h)).trans hM (fun _ h => Or.inl h)⟩
         have HOW : Hd (w1.ownsRow w.heap.size 24 2 v' args.length news) := ⟨owns_mono how (by simp [heap_drew]; omega)⟩
         have HEL : Hd _ := ⟨hel⟩
         have HNW : Hd (∀ j u, [Value.string p.loc, .slice ob lb cb][j]? = some u → w1.cell? ((⟨w.heap.size + 1, 0, none⟩ : Addr).add j) = some u) := ⟨by
           have hb : w1.heap[w.heap.size + 1]? = some (.cells #[.string p.loc, .slice ob lb cb] 24) := (hM.block _ (lt2_1 _ _ _) (fun h => h)).trans (heap2_1 _ _ _)
           exact two_at hb⟩
         clear hM how hone hnil hel)
      | (go_simp
         go_at_call 126
         refine (HC.out _ ?hm).mono ?_
         case hm => exact (Mod.alloc _ _ _).trans (Mod.drew _ _) (fun _ h => Or.inl h)
         rintro e w1 ⟨v', news, rfl, hM, how, hone, hnil, hel⟩
         have HM1 : Hd (Mod (fun _ => False) w w1) := ⟨((Mod.alloc _ _ _).trans (Mod.drew _ _) (fun _ h => Or.inl h)).trans hM (fun _ h => Or.inl h)⟩
         have HOW : Hd (w1.ownsRow w.heap.size 24 2 v' args.length news) := ⟨owns_mono how (by simp [heap_drew])⟩
         have HEL : Hd _ := ⟨hel⟩
         have hb : w1.heap[w.heap.size]? = some (.cells #[.string p.loc, .slice ob lb cb] 24) := (hM.block _ (lt1_0 _ _) (fun h => h)).trans (heap_new' _ _)
         have HNX : Hd (∀ j u, [Value.string p.loc, .slice ob lb cb][j]? = some u → (w1.alloc (.cells #[.string p.loc, .slice ob lb cb] 24)).cell? ((⟨w1.heap.size, 0, none⟩ : Addr).add j) = some u) := ⟨by
           have hb : (w1.alloc (.cells #[.string p.loc, .slice ob lb cb] 24)).heap[w1.heap.size]? = some (.cells #[.string p.loc, .slice ob lb cb] 24) := heap_new' _ _
           exact two_at hb⟩
         have x0 : w1.cell? ⟨w.heap.size, 0, none⟩ = some (.string p.loc) := by simp [World.cell?, hb]
         have x1 : w1.cell? ⟨w.heap.size, 1, none⟩ = some (.slice ob lb cb) := by simp [World.cell?, hb]
         clear hM how hone hnil hel hb))
    all_goals (go_wp2; go_ret)
    all_goals (obtain ⟨oc, cc, rfl, hS⟩ := HGR.out HOW.out.1 HEL.out rfl HO2.out; exact ⟨oc, cc, by first | rfl | (rw [List.length_append]; rfl), HM2.out, hS⟩)
end
end Go.Proofs.YtpodeccpibnlbaaGreatDoor
namespace Go.Proofs.YtpodeccpibnlbaaGreatDoor
set_option linter.unusedVariables false
set_option linter.unusedSimpArgs false
open Go.RowKit

def stmUses (s : Stm) : List Pl := placesI s.args s.dest
def trmUses (t : Trm) : List Pl := placesI t.args t.dest
def stmsUses (l : List Stm) : List Pl := (l.map stmUses).flatten
def blkUses (b : Blk) : List Pl := stmsUses b.stmts ++ trmUses b.term
def blksUses (l : List Blk) : List Pl := (l.map blkUses).flatten
def usesI (f : Fun) : List Pl := blksUses f.blocks

theorem flat_succ {α β : Type} (g : α → List β) {l : List α} {k : Nat} {x : α} (hx : l[k]? = some x) : ((l.take (k + 1)).map g).flatten = ((l.take k).map g).flatten ++ g x := by
  rw [List.take_add_one, hx]
  simp
theorem flat_prefix {α β : Type} (g : α → List β) {l : List α} {k : Nat} {x : α} (hx : l[k]? = some x) {p : List β} (hp : p <+: g x) : ((l.take k).map g).flatten ++ p <+: (l.map g).flatten := by
  obtain ⟨q, hq⟩ := hp
  have e : l = l.take k ++ x :: l.drop (k + 1) := by
    rw [← drop_cons hx, List.take_append_drop]
  refine ⟨q ++ ((l.drop (k + 1)).map g).flatten, ?_⟩
  conv => rhs; rw [e]
  rw [List.map_append, List.flatten_append, List.map_cons, List.flatten_cons, ← hq]
  simp
theorem flat_all {α β : Type} (g : α → List β) (l : List α) : ((l.take l.length).map g).flatten = (l.map g).flatten := by rw [List.take_length]
theorem take_prefix {β : Type} {l : List β} {i : Nat} {x : β} (hx : l[i]? = some x) : l.take i ++ [x] <+: l := by
  have := List.take_prefix (i + 1) l
  rw [List.take_add_one, hx] at this
  exact this

theorem stmsUses_succ {l : List Stm} {k : Nat} {x : Stm} (hx : l[k]? = some x) : stmsUses (l.take (k + 1)) = stmsUses (l.take k) ++ stmUses x := flat_succ stmUses hx
theorem blksUses_succ {l : List Blk} {k : Nat} {x : Blk} (hx : l[k]? = some x) : blksUses (l.take (k + 1)) = blksUses (l.take k) ++ (stmsUses x.stmts ++ trmUses x.term) := flat_succ blkUses hx
theorem SR.pl' {S S' : Nat → Prop} {w0 wV : World} {oa : Option Addr} {len cap : Nat} {l : List Pl} (h : SR S' w0 2 (plV S wV) oa len cap l) {i : Nat} {x : Pl} (hi : l[i]? = some x) : ∃ b o oa1 la1 ca1, oa = some ⟨b, o, none⟩ ∧ S' b ∧ b < w0.heap.size ∧
    w0.cell? ⟨b, o + i * 2, none⟩ = some (.string x.loc) ∧
    w0.cell? ⟨b, o + i * 2 + 1, none⟩ = some (.slice oa1 la1 ca1) ∧ plV S wV (.agg #[.string x.loc, .slice oa1 la1 ca1]) x := by
  obtain ⟨b, o, v, h1, h2, h3, h4, h5⟩ := h.at' i x hi
  obtain ⟨k0, oa1, la1, ca1, rfl, k1⟩ := id h5
  have hc : (Value.agg #[.string x.loc, .slice oa1 la1 ca1]).cells = #[.string x.loc, .slice oa1 la1 ca1] := by simp [Value.cells]
  rw [hc] at h4
  exact ⟨b, o, oa1, la1, ca1, h1, h2, h3, h4 0 _ rfl, h4 1 _ rfl, h5⟩

/-- Cells lie as they lay, but for C's blocks. -/
structure KC (C : Nat → Prop) (W W' : World) : Prop where
  size : W.heap.size ≤ W'.heap.size
  cells : ∀ k c e fr, ¬ C k → W.heap[k]? = some (.cells c e fr) → W'.heap[k]? = some (.cells c e fr)
theorem KC.refl (C : Nat → Prop) (W : World) : KC C W W := ⟨Nat.le_refl _, fun _ _ _ _ _ h => h⟩
theorem KC.trans {C : Nat → Prop} {A B D : World} (h : KC C A B) (k : KC C B D) : KC C A D := ⟨Nat.le_trans h.size k.size, fun i c e fr hc hi => k.cells i c e fr hc (h.cells i c e fr hc hi)⟩
theorem KC.alloc (C : Nat → Prop) (W : World) (o : Obj) : KC C W (W.alloc o) := ⟨by simp, fun k c e fr _ h => (Below.heap_alloc W o k (Array.getElem?_eq_some_iff.1 h).1).trans h⟩
theorem KC.drew (C : Nat → Prop) (W : World) : KC C W W.drew := ⟨Nat.le_refl _, fun _ _ _ _ _ h => h⟩
theorem KC.mod {C : Nat → Prop} {W W' : World} (h : Mod (fun _ => False) W W') : KC C W W' := ⟨h.size, fun k c e fr _ hk => (h.block k (Array.getElem?_eq_some_iff.1 hk).1 (fun h => h)).trans hk⟩
theorem KC.setCell {C : Nat → Prop} (W : World) (a : Addr) (v : Value) (h : C a.block) : KC C W (W.setCell a v) :=
  ⟨by simp, fun k c e fr hc hk => (Below.heap_setCell W a v k (fun e => hc (e ▸ h))).trans hk⟩
theorem KC.putObj {C : Nat → Prop} (W : World) (l : Nat) (o o' : Obj) (hl : W.heap[l]? = some o) (ho : o.isCells = false) : KC C W (W.putObj l o') := by
  refine ⟨by simp, fun k c e fr hc hk => ?_⟩
  rw [World.putObj_heap_other (fun e' => ?_)]
  · exact hk
  · subst e'; rw [hk] at hl; cases hl; simp [Obj.isCells] at ho
theorem KC.cell {C : Nat → Prop} {W W' : World} (h : KC C W W') {a : Addr} {v : Value} (ha : ¬ C a.block) (hc : W.cell? a = some v) : W'.cell? a = some v := by
  unfold World.cell? at hc ⊢
  split at hc
  · rename_i c e fr hb
    rw [h.cells _ _ _ _ ha hb]
    exact hc
  · cases hc
theorem SR.kc {α : Type} {S : Nat → Prop} {w w' : World} {C : Nat → Prop} {n : Nat} {V : Value → α → Prop} {oa : Option Addr} {len cap : Nat} {l : List α} (h : SR S w n V oa len cap l) (hk : KC C w w') (hS : ∀ b, S b → b < w.heap.size → ¬ C b) : SR S w' n V oa len cap l :=
  ⟨h.hlen, h.hbig, h.hle, h.hmax, fun i x hi => by
    obtain ⟨b, o, v, h1, h2, h3, h4, h5⟩ := h.at' i x hi
    exact ⟨b, o, v, h1, h2, Nat.lt_of_lt_of_le h3 hk.size, fun k u hu => hk.cell (hS b h2 h3) (h4 k u hu), h5⟩⟩
theorem Mod.grownBy {w w' : World} (h : Mod (fun _ => False) w w') : w.grownBy w' none := ⟨h.os, h.tape, h.output, h.size, fun k hk _ => h.block k hk (fun h => h)⟩
theorem yield_one {e : Ending} {p q : Prop} (h : (e = .returned (.bool true) ∧ p) ∨ (e = .returned (.bool false) ∧ q)) : ∃ bb : Bool, e = .returned (.bool bb) ∧ Hd ((bb = true ∧ p) ∨ (bb = false ∧ q)) := by
  rcases h with ⟨h, hp⟩ | ⟨h, hq⟩
  · exact ⟨true, h, ⟨Or.inl ⟨rfl, hp⟩⟩⟩
  · exact ⟨false, h, ⟨Or.inr ⟨rfl, hq⟩⟩⟩
end Go.Proofs.YtpodeccpibnlbaaGreatDoor
