/- The document's slab: Copy, by its walk. -/
import Derived.Test.YtpgoogjaoffdoaaRefP
namespace Go.Proofs.Ytpgoogjaoffdoaa
set_option linter.unusedVariables false
set_option linter.unusedSimpArgs false
open Go.RowKit

def RSS.front (r : RSS) (i : Nat) : RSS := { r with pcs := r.pcs.take i }

/-- What a copy is: a slab of its own. -/
def Copied (w : World) (y : Nat) (r : RSS) (w' : World) : Prop :=
  ∃ own L, RRepS w' y r own L ∧ (∀ k, own k ≠ none → w.heap.size ≤ k) ∧ Mod (fun _ => False) w w'

theorem copied0 {w w5 : World} {r : RSS} {g1 c1 : Nat} (hS : Sl w5 3 1 (some g1) r.fre.length c1 (encN r.fre)) (hg : w.heap.size ≤ g1) (hM : Mod (fun _ => False) w w5) :
    Copied w w5.heap.size (r.front 0) (w5.alloc (.cells #[.int .i64 (r.room : Int), .slice none 0 0, .slice (some ⟨g1, 0, none⟩) r.fre.length c1, .int .i64 (r.next : Int)] 72)) := by
  have hgl := hS.lt rfl
  have hs := hM.size
  refine ⟨fun k => if k = w5.heap.size then some .base else if k = g1 then some .fre else none, ⟨none, 0, some g1, c1, []⟩, ⟨?_, ?_, ?_, ?_, ?_, ?_, ?_, ?_, ?_, ?_, ?_, ?_⟩, ?_, ?_⟩
  · intro k hk
    by_cases e : k = w5.heap.size
    · rw [e]; simp
    try dsimp only at hk
    rw [if_neg e] at hk
    by_cases e1 : k = g1
    · rw [e1]; simp; omega
    rw [if_neg e1] at hk
    exact absurd rfl hk
  · exact heap_alloc_new _ _
  · simp
  · rfl
  · exact Sl.nilOf _ _ _
  · intro g hg; cases hg
  · exact hS.alloc _
  · intro g hg
    obtain rfl := Option.some.inj hg
    simp; omega
  · intro i q hq; simp at hq
  · intro i q hq; simp at hq
  · intro i q hq; simp at hq
  · intro i q hq; simp at hq
  · intro k hk
    by_cases e : k = w5.heap.size
    · omega
    try dsimp only at hk
    rw [if_neg e] at hk
    by_cases e1 : k = g1
    · omega
    rw [if_neg e1] at hk
    exact absurd rfl hk
  · exact hM.trans (Mod.alloc (fun _ => False) w5 _) (fun _ h => Or.inl h)

structure CpS (w w' : World) (y3 : Nat) (l : List Value) : Prop where
  mod : Mod (fun _ => False) w w'
  l3 : w.heap.size ≤ y3
  row : w'.heap[y3]? = some (.cells l.toArray 93 (0, 0))

theorem CpS.cell {w w' : World} {y3 : Nat} {l : List Value} (h : CpS w w' y3 l) {j : Nat} {v : Value} (hj : l[j]? = some v) : w'.cell? ⟨y3, j, none⟩ = some v := by
  simp [World.cell?, h.row, hj]
theorem CpS.frozen {w w' : World} {y3 : Nat} {l : List Value} (h : CpS w w' y3 l) (j : Nat) : w'.frozen? ⟨y3, j, none⟩ = false := by
  simp [World.frozen?, h.row]
theorem CpS.lt {w w' : World} {y3 : Nat} {l : List Value} (h : CpS w w' y3 l) : y3 < w'.heap.size := (Array.getElem?_eq_some_iff.1 h.row).1
theorem CpS.call {w w' w2 : World} {y3 : Nat} {l : List Value} (h : CpS w w' y3 l) (hM : Mod (fun _ => False) w' w2) : CpS w w2 y3 l :=
  ⟨h.mod.trans hM (fun _ h => h.elim), h.l3, (hM.block y3 h.lt (fun h => h)).trans h.row⟩
theorem CpS.store {w w' : World} {y3 : Nat} {l : List Value} (h : CpS w w' y3 l) (j : Nat) (v : Value) : CpS w (w'.setCell ⟨y3, j, none⟩ v) y3 (l.set j v) := by
  refine ⟨h.mod.trans (Mod.setCell (S := fun k => k = y3) w' _ _ rfl) (fun k hk => Or.inr (by rw [hk]; exact h.l3)), h.l3, ?_⟩
  rw [heap_setCell_at h.row]
  simp
theorem CpS.start (w : World) (l : List Value) : CpS w (w.alloc (.cells l.toArray 93)) w.heap.size l := ⟨Mod.alloc _ _ _, Nat.le_refl _, heap_alloc_new _ _⟩
theorem Sl.fresh0 (w : World) (e : TypeId) : Sl (w.alloc (.cells #[] e)) e 1 (some w.heap.size) 0 0 [] := (Sl.fresh w e).keep fun _ _ => rfl

/-- An append to a row that was laid empty ahead of it. -/
theorem fresh0 {w w5 : World} {e : TypeId} {g1 n c1 : Nat} {ys : List Value} (hS : Sl w5 e 1 (some g1) n c1 ys) (hor : g1 = w.heap.size ∨ (w.alloc (.cells #[] e)).heap.size ≤ g1) (hM : Mod (fun k => k = w.heap.size) (w.alloc (.cells #[] e)) w5) :
    Sl w5 e 1 (some g1) n c1 ys ∧ w.heap.size ≤ g1 ∧ Mod (fun _ => False) w w5 :=
  ⟨hS, by rcases hor with h | h <;> (try simp at h) <;> omega, (Mod.alloc _ w _).trans hM (fun k hk => Or.inr (by omega))⟩

theorem encI_ones (l : List Int) : ∀ u ∈ encI l, u.oneCell' = true := by
  intro u hu
  simp [encI] at hu
  obtain ⟨x, _, rfl⟩ := hu
  rfl
theorem encB_ones (l : List Bool) : ∀ u ∈ encB l, u.oneCell' = true := by
  intro u hu
  simp [encB] at hu
  rcases hu with ⟨_, rfl⟩ | ⟨_, rfl⟩ <;> rfl
theorem Try.info2' : (Try.prog.info? 2).map (fun i => (i.zero, i.size, i.bytes)) = some (some (.int .i64 0), 1, 8) := by kernel_rfl
theorem Try.info4' : (Try.prog.info? 4).map (fun i => (i.zero, i.size, i.bytes)) = some (some (.bool false), 1, 1) := by kernel_rfl

theorem Try.info93' : (Try.prog.info? 93).map (fun i => (i.zero, i.size, i.bytes)) = some (some (.agg #[.int .i64 0, .int .i64 0, .slice none 0 0, .slice none 0 0, .bool false]), 5, 72) := by kernel_rfl
theorem five_one (a b : Int) (o p : Option Addr) (n c m d : Nat) (f : Bool) : ∀ u ∈ [Value.int .i64 a, .int .i64 b, .slice o n c, .slice p m d, .bool f], u.oneCell' = true := by
  intro u hu
  simp at hu
  rcases hu with rfl | rfl | rfl | rfl | rfl <;> rfl

theorem pushed1' {w w5 : World} {o : Obj} {e s : Nat} {og : Option Nat} {g1 n c1 : Nat} {ys : List Value} (hS : Sl w5 e s (some g1) n c1 ys) (hor : some g1 = og ∨ (w.alloc o).drew.heap.size ≤ g1) (hM : Mod (fun k => some k = og) (w.alloc o).drew w5) :
    Sl w5 e s (some g1) n c1 ys ∧ (some g1 = og ∨ w.heap.size ≤ g1) ∧ Mod (fun k => some k = og) w w5 :=
  ⟨hS, hor.imp id (fun h => by rw [heap_drew] at h; simp at h; omega), ((Mod.alloc _ w o).trans (Mod.drew _ _) (fun _ h => Or.inl h)).trans hM (fun _ h => Or.inl h)⟩

theorem copied_push {w wr w5 w6 : World} {y : Nat} {r : RSS} {i : Nat} {ownC : Nat → Option Rr} {LC : RLo} {p : RPc} {idx age n y1 cv y2 ch y3 g' c' : Nat} {fr : Bool}
    (hRC : RRepS wr y (r.front i) ownC LC) (hown : ∀ k, ownC k ≠ none → w.heap.size ≤ k) (hMC : Mod (fun _ => False) w wr) (hp : r.pcs[i]? = some p) (hpc : p = ⟨idx, age, p.vals, p.has, fr⟩) (hv : p.vals.length = n) (hh : p.has.length = n) (hql : LC.Q.length = i)
    (hW : Sl w5 2 1 (some y1) n cv (encI p.vals) ∧ Sl w5 4 1 (some y2) n ch (encB p.has) ∧ y3 < y1 ∧ y1 < y2 ∧ CpS wr w5 y3 [.int .i64 (idx : Int), .int .i64 (age : Int), .slice (some ⟨y1, 0, none⟩) n cv, .slice (some ⟨y2, 0, none⟩) n ch, .bool fr])
    (hS : Sl w6 93 5 (some g') (i + 1) c' (LC.Q.flatMap RQ.enc ++ [.int .i64 (idx : Int), .int .i64 (age : Int), .slice (some ⟨y1, 0, none⟩) n cv, .slice (some ⟨y2, 0, none⟩) n ch, .bool fr])) (hor : some g' = LC.gp ∨ w5.heap.size ≤ g') (hM : Mod (fun k => some k = LC.gp) w5 w6) :
    Copied w y (r.front (i + 1)) (w6.setCell ⟨y, 1, none⟩ (.slice (some ⟨g', 0, none⟩) (i + 1) c')) := by
  obtain ⟨hV, hH, h31, h12, hC⟩ := hW
  have hs5 := hC.mod.size
  have hs6 := hM.size
  have hsw := hMC.size
  have hl3 := hC.l3
  have hy1 := hV.lt rfl
  have hy2 := hH.lt rfl
  have hnone : ∀ k, wr.heap.size ≤ k → ownC k = none := fun k hk => by
    cases h : ownC k with
    | none => rfl
    | some x => have := hRC.dom k (by rw [h]; simp); omega
  have hgpl : ∀ k, some k = LC.gp → k < wr.heap.size := fun k hk => hRC.dom k (by rw [hRC.op k hk.symm]; simp)
  have n1 : y1 ≠ g' := fun e => by
    rcases hor with h | h
    · have := hgpl g' h; omega
    · omega
  have n2 : y2 ≠ g' := fun e => by
    rcases hor with h | h
    · have := hgpl g' h; omega
    · omega
  have hpush := hRC.push (w5 := w6) (g' := g') (c' := c') (y1 := y1) (y2 := y2) (p := p) (cv := cv) (ch := ch)
    (by rw [hql]; have := hS; rw [hpc]; simpa [RQ.enc, sv, hv, hh] using this) (hor.imp id (fun h => hnone g' (by omega))) (hnone y1 (by omega)) (hnone y2 (by omega)) (by omega) n1 n2 (by omega)
    (fun k hk hk2 => (hM.block k (by have := hRC.dom k hk; omega) hk2).trans (hC.mod.block k (hRC.dom k hk) (fun h => h)))
    (by rw [hv]; exact hV.keep fun g hg => hM.block g (hV.lt hg) (fun e => by have := hgpl g e; obtain rfl := Option.some.inj hg; omega))
    (by rw [hh]; exact hH.keep fun g hg => hM.block g (hH.lt hg) (fun e => by have := hgpl g e; obtain rfl := Option.some.inj hg; omega))
  rw [hql] at hpush
  have hfr : ({ r.front i with pcs := (r.front i).pcs ++ [p] } : RSS) = r.front (i + 1) := by
    simp [RSS.front, List.take_add_one, hp]
  rw [hfr] at hpush
  refine ⟨_, _, hpush, ?_, ?_⟩
  · intro k hk
    by_cases e : k = g'
    · subst e
      rcases hor with h | h
      · exact hown k (by rw [hRC.op k h.symm]; simp)
      · omega
    try dsimp only at hk
    rw [if_neg e] at hk
    by_cases e1 : k = y1
    · omega
    rw [if_neg e1] at hk
    by_cases e2 : k = y2
    · omega
    rw [if_neg e2] at hk
    exact hown k hk
  · have m1 := (hMC.trans hC.mod (fun _ h => h.elim)).trans hM (fun k hk => Or.inr (hown k (by rw [hRC.op k hk.symm]; simp)))
    exact m1.trans (Mod.setCell (S := fun k => k = y) w6 _ _ rfl) (fun k hk => Or.inr (by rw [hk]; exact hown y (by rw [hRC.ob]; simp)))

set_option maxRecDepth 100000 in
set_option maxHeartbeats 4000000 in
theorem rcopy_calls {w : World} {b : Nat} {r : RSS} {own : Nat → Option Rr} {L : RLo} {N : Nat} (h : RRepS w b r own L) (hO : r.Ok N) :
    Calls Try.prog 14 #[.pointer (some ⟨b, 0, none⟩)] w fun e w' => ∃ y, e = .returned (.pointer (some ⟨y, 0, none⟩)) ∧ Copied w y r w' := by
  have H : Hd _ := ⟨h⟩
  have HO : Hd _ := ⟨hO⟩
  have hlen : L.Q.length = r.pcs.length := by rw [h.pcs, List.length_map]
  have hN : r.pcs.length < 1048576 := by have := hO.many; have := hO.bound; omega
  have hnf : r.fre.length < 1048576 := by have := hO.fre; have := hO.bound; omega
  have hcl := h.plc.le
  have hcm := h.plc.max
  unfold maxLen at hcm
  obtain ⟨c0, c1, c2, c3⟩ := h.cells
  simp only [sv] at c2
  have hbl := h.dom b (by rw [h.ob]; simp)
  have HFR : Hd _ := ⟨h.fre⟩
  have HFB : Hd (∀ w', Mod (fun _ => False) w w' → w'.cell? ⟨b, 0, none⟩ = some (.int .i64 (r.room : Int)) ∧ w'.cell? ⟨b, 3, none⟩ = some (.int .i64 (r.next : Int)) ∧ b < w'.heap.size) := ⟨fun w' hM => by
    have h' := H.out.mod hM
    exact ⟨h'.cells.1, h'.cells.2.2.2, h'.dom b (by rw [h'.ob]; simp)⟩⟩
  obtain ⟨m, hm⟩ : ∃ m, r.fre.length = m := ⟨_, rfl⟩
  have HMM : Hd _ := ⟨hm⟩
  rw [hm] at c2 HFR hnf
  obtain ⟨ogf, hogf⟩ : ∃ ogf, L.gf = ogf := ⟨_, rfl⟩
  rw [hogf] at c2 HFR
  obtain ⟨i0, hi0, hz0, hz1, hz2⟩ := info_parts Try.info3
  have HI0 : Hd _ := ⟨And.intro hi0 (And.intro hz0 (And.intro hz1 hz2))⟩
  clear hi0 hz0 hz1 hz2 hm hogf h hO c1
  go_enter Try.func14, Try.ntmps14
  go_upto_region 1 with fail
  go_cut [3] (fun v3 wc => ∃ y, v3 = .pointer (some ⟨y, 0, none⟩) ∧ Hd (Copied w y (r.front 0) wc))
  case first =>
    go_region_law (first
      | (refine step_append_src rfl (.tmp 10) (.tmp 14) 41 rfl 3 i0 (.int .i64 0) 8 Try.underlying41 HI0.out.1 HI0.out.2.1 HI0.out.2.2.1 HI0.out.2.2.2 rfl w.heap.size 0 0 [] (by simp [Act.eval, Act.put, sv]) (Sl.fresh _ _) ogf m L.cf (encN r.fre) (by simp [Act.eval, Act.put, sv]) (HFR.out.alloc _).drew (encN_ones _) (by unfold maxLen; omega) (by omega) ?_
         intro g1 c1 w5 hS1 hor1 hM1
         have X1 : Hd _ := ⟨fresh1 hS1 hor1 hM1⟩
         clear hS1 hor1 hM1
         obtain ⟨c0, c3, hbl⟩ := HFB.out w5 X1.out.2.2))
    all_goals (go_wp2_with fail; go_meet)
    all_goals (case rel => exact ⟨w5.heap.size, rfl, ⟨by have := copied0 (r := r) (c1 := c1) (g1 := g1) (by rw [HMM.out]; simpa using X1.out.1) X1.out.2.1 X1.out.2.2; rw [HMM.out] at this; exact this⟩⟩)
  case rest =>
    clear c0 c2 c3 hbl
    obtain ⟨y, rfl, HC⟩ := hcut
    go_wp2_with fail
    go_loopg [4] r.pcs.length (fun gk v4 wr => ∃ i : Nat, v4 = .int .i64 i ∧ i + gk = r.pcs.length ∧ Hd (Copied w y (r.front i) wr))
    case atStart => exact ⟨0, rfl, by omega, HC⟩
    case round =>
      clear HC
      obtain ⟨i, rfl, hi, HC⟩ := hrel
      obtain ⟨ownC, LC, hRC, hownC, hMC⟩ := HC.out
      have HRC : Hd _ := ⟨hRC⟩
      have HOC : Hd _ := ⟨And.intro hownC hMC⟩
      have HR : Hd _ := ⟨H.out.mod hMC⟩
      obtain ⟨_, c1, _, _⟩ := HR.out.cells
      by_cases hlt : i < r.pcs.length
      · obtain ⟨p, hp⟩ : ∃ p, r.pcs[i]? = some p := ⟨_, List.getElem?_eq_getElem hlt⟩
        obtain ⟨q, g, hq, rfl, hg, hil, p0, p1, p2, p3, p4⟩ := HR.out.piece hp
        have hz := HO.out.len _ (List.mem_of_getElem? hp)
        have HP : Hd _ := ⟨hp⟩
        have HQ : Hd _ := ⟨hq⟩
        rw [hg] at c1
        simp only [sv_some] at c1
        simp only [sv] at p2 p3
        have hgl : g < wr.heap.size := HR.out.plc.lt hg
        have HV : Hd _ := ⟨HR.out.val i q hq⟩
        have HH : Hd _ := ⟨HR.out.has i q hq⟩
        have hbl : b < wr.heap.size := HR.out.dom b (by rw [HR.out.ob]; simp)
        clear hp hq hg hRC hownC hMC
        obtain ⟨n, hn⟩ : ∃ n, q.pc.vals.length = n := ⟨_, rfl⟩
        have hhn : q.pc.has.length = n := hz.2.trans hn
        have hnz := hz.1
        rw [hn] at p2 HV hnz
        rw [hhn] at p3 HH
        have HN : Hd _ := ⟨And.intro hn hhn⟩
        obtain ⟨idx, hidx⟩ : ∃ idx, q.pc.idx = idx := ⟨_, rfl⟩
        obtain ⟨age, hage⟩ : ∃ age, q.pc.age = age := ⟨_, rfl⟩
        obtain ⟨fr, hfr⟩ : ∃ fr, q.pc.freed = fr := ⟨_, rfl⟩
        obtain ⟨ogv, hogv⟩ : ∃ x, q.gv = x := ⟨_, rfl⟩
        obtain ⟨ogh, hogh⟩ : ∃ x, q.gh = x := ⟨_, rfl⟩
        obtain ⟨qcv, hqcv⟩ : ∃ x, q.cv = x := ⟨_, rfl⟩
        obtain ⟨qch, hqch⟩ : ∃ x, q.ch = x := ⟨_, rfl⟩
        rw [hidx] at p0
        rw [hage] at p1
        rw [hfr] at p4
        rw [hogv, hqcv] at p2 HV
        rw [hogh, hqch] at p3 HH
        have HPC : Hd (q.pc = ⟨idx, age, q.pc.vals, q.pc.has, fr⟩) := ⟨by rw [← hidx, ← hage, ← hfr]⟩
        clear hz hn hhn hidx hage hfr hogv hogh hqcv hqch
        obtain ⟨i2, hj0, hj1, hj2, hj3⟩ := info_parts Try.info2'
        have HI2 : Hd _ := ⟨And.intro hj0 (And.intro hj1 (And.intro hj2 hj3))⟩
        clear hj0 hj1 hj2 hj3
        go_wp2_with (at_builtin; refine wpList_append_src _ rfl (.tmp 38) (.tmp 40) 90 rfl 2 i2 (.int .i64 0) 8 Try.underlying90 HI2.out.1 HI2.out.2.1 HI2.out.2.2.1 HI2.out.2.2.2 rfl (wr.heap.size + 1) 0 0 [] rfl ?k0 ogv n qcv (encI q.pc.vals) rfl ?k1 (encI_ones _) ?b1 ?b2 ?grow)
        case k0 => have := Sl.fresh0 (wr.alloc (.cells #[.int .i64 (idx : Int), .int .i64 (age : Int), .slice (ogv.map fun g => ⟨g, 0, none⟩) n qcv, .slice (ogh.map fun g => ⟨g, 0, none⟩) n qch, .bool fr] 93)) 2; simpa using this
        case k1 => exact (HV.out.alloc _).alloc _
        case b1 => unfold maxLen; omega
        case b2 => omega
        case grow =>
          intro y1 cv w2 hS1 hor1 hM1
          obtain ⟨y3, hy3⟩ : ∃ y3, wr.heap.size = y3 := ⟨_, rfl⟩
          have HY3 : Hd _ := ⟨hy3⟩
          have X1 : Hd (Sl w2 2 1 (some y1) n cv (encI q.pc.vals) ∧ y3 < y1 ∧ CpS wr w2 y3 [.int .i64 (idx : Int), .int .i64 (age : Int), .slice (ogv.map fun g => ⟨g, 0, none⟩) n qcv, .slice (ogh.map fun g => ⟨g, 0, none⟩) n qch, .bool fr]) := ⟨by
            have h0 := CpS.start wr [.int .i64 (idx : Int), .int .i64 (age : Int), .slice (ogv.map fun g => ⟨g, 0, none⟩) n qcv, .slice (ogh.map fun g => ⟨g, 0, none⟩) n qch, .bool fr]
            have h1 := fresh0 (w := wr.alloc (.cells #[.int .i64 (idx : Int), .int .i64 (age : Int), .slice (ogv.map fun g => ⟨g, 0, none⟩) n qcv, .slice (ogh.map fun g => ⟨g, 0, none⟩) n qch, .bool fr] 93)) hS1 (by simpa using hor1) (by simpa using hM1)
            have h2 := h0.call h1.2.2
            rw [hy3] at h2
            exact ⟨by simpa using h1.1, by have := h1.2.1; simp at this; omega, h2⟩⟩
          rw [hy3]
          have t2 := X1.out.2.2.cell (j := 2) rfl
          have f2 := X1.out.2.2.frozen 2
          clear hS1 hor1 hM1 hy3 p0 p1 p2 p3 p4
          go_upto_region 7 with fail
          clear t2 f2
          obtain ⟨w3, hw3⟩ : ∃ w3, w3 = w2.setCell ⟨y3, 2, none⟩ (.slice (some ⟨y1, 0, none⟩) n cv) := ⟨_, rfl⟩
          have X2 : Hd (Sl w3 2 1 (some y1) n cv (encI q.pc.vals) ∧ y3 < y1 ∧ CpS wr w3 y3 [.int .i64 (idx : Int), .int .i64 (age : Int), .slice (some ⟨y1, 0, none⟩) n cv, .slice (ogh.map fun g => ⟨g, 0, none⟩) n qch, .bool fr]) := ⟨by
            rw [hw3]
            exact ⟨X1.out.1.setCell _ _ (fun e => by have := X1.out.2.1; have := Option.some.inj e; simp at this; omega), X1.out.2.1, X1.out.2.2.store 2 _⟩⟩
          rw [← hw3]
          clear hw3 X1
          have t3 := X2.out.2.2.cell (j := 3) rfl
          have f3 := X2.out.2.2.frozen 3
          have hy3l := X2.out.2.2.lt
          obtain ⟨i4, hj0, hj1, hj2, hj3⟩ := info_parts Try.info4'
          have HI4 : Hd _ := ⟨And.intro hj0 (And.intro hj1 (And.intro hj2 hj3))⟩
          clear hj0 hj1 hj2 hj3
          go_wp2_with (at_builtin; refine wpList_append_src _ rfl (.tmp 43) (.tmp 45) 91 rfl 4 i4 (.bool false) 1 Try.underlying91 HI4.out.1 HI4.out.2.1 HI4.out.2.2.1 HI4.out.2.2.2 rfl w3.heap.size 0 0 [] rfl ?k0 ogh n qch (encB q.pc.has) rfl ?k1 (encB_ones _) ?b1 ?b2 ?grow)
          case k0 => exact Sl.fresh0 _ _
          case k1 => exact (HH.out.keep (fun g hg => X2.out.2.2.mod.block g (HH.out.lt hg) (fun h => h))).alloc _
          case b1 => unfold maxLen; omega
          case b2 => omega
          case grow =>
            intro y2 ch w4 hS2 hor2 hM2
            have X3 : Hd (Sl w4 4 1 (some y2) n ch (encB q.pc.has) ∧ w3.heap.size ≤ y2 ∧ Mod (fun _ => False) w3 w4) := ⟨by
              have := fresh0 (w := w3) hS2 (by simpa using hor2) (by simpa using hM2)
              exact ⟨by simpa using this.1, this.2⟩⟩
            have X4 := X2.out.2.2.call X3.out.2.2
            have XV : Hd (Sl w4 2 1 (some y1) n cv (encI q.pc.vals)) := ⟨X2.out.1.keep fun g hg => X3.out.2.2.block g (X2.out.1.lt hg) (fun h => h)⟩
            have t3 := X4.cell (j := 3) rfl
            have f3 := X4.frozen 3
            have X4H : Hd _ := ⟨X4⟩
            clear hS2 hor2 hM2 hy3l X4
            go_upto_region 8 with fail
            clear t3 f3
            obtain ⟨w5, hw5⟩ : ∃ w5, w5 = w4.setCell ⟨y3, 3, none⟩ (.slice (some ⟨y2, 0, none⟩) n ch) := ⟨_, rfl⟩
            have hy1l : y1 < w3.heap.size := X2.out.1.lt rfl
            have XW : Hd (Sl w5 2 1 (some y1) n cv (encI q.pc.vals) ∧ Sl w5 4 1 (some y2) n ch (encB q.pc.has) ∧ y3 < y1 ∧ y1 < y2 ∧ CpS wr w5 y3 [.int .i64 (idx : Int), .int .i64 (age : Int), .slice (some ⟨y1, 0, none⟩) n cv, .slice (some ⟨y2, 0, none⟩) n ch, .bool fr]) := ⟨by
              have h1 := X2.out.2.1
              have h2 := X3.out.2.1
              rw [hw5]
              exact ⟨XV.out.setCell _ _ (fun e => by have := Option.some.inj e; simp at this; omega), X3.out.1.setCell _ _ (fun e => by have := Option.some.inj e; simp at this; omega), h1, by omega, X4H.out.store 3 _⟩⟩
            rw [← hw5]
            clear hw5 X2 X3 X4H XV hy1l
            have HRX : Hd _ := ⟨HRC.out.mod XW.out.2.2.2.2.mod⟩
            have HFX : Hd (∀ w', Mod (fun k => some k = LC.gp) w5 w' → w'.frozen? ⟨y, 1, none⟩ = false ∧ y < w'.heap.size ∧ ∃ v, w'.cell? ⟨y, 1, none⟩ = some v) := ⟨fun w' hM => by
              have hbs : y < w5.heap.size := HRX.out.dom y (by rw [HRX.out.ob]; simp)
              have hb' := (hM.block y hbs (fun e => by have := HRX.out.op y e.symm; rw [HRX.out.ob] at this; cases this)).trans HRX.out.base
              exact ⟨by simp [World.frozen?, hb'], by have := hM.size; omega, ⟨_, by simp [World.cell?, hb', rCells]; rfl⟩⟩⟩
            have s0 := XW.out.2.2.2.2.cell (j := 0) rfl
            have s1 := XW.out.2.2.2.2.cell (j := 1) rfl
            have s2 := XW.out.2.2.2.2.cell (j := 2) rfl
            have s3 := XW.out.2.2.2.2.cell (j := 3) rfl
            have s4 := XW.out.2.2.2.2.cell (j := 4) rfl
            have hy3l := XW.out.2.2.2.2.lt
            obtain ⟨_, d1, _, _⟩ := HRX.out.cells
            obtain ⟨g1, hg1, _⟩ := HFX.out w5 (Mod.refl _ _)
            simp only [sv] at d1
            have hql : LC.Q.length = i := by
              have := HRX.out.pcs
              have h2 : (r.front i).pcs.length = LC.Q.length := by rw [this, List.length_map]
              rw [← h2]
              simp [RSS.front]
              omega
            have hcl2 := HRX.out.plc.le
            have HSP : Hd (Sl w5 93 5 LC.gp i LC.cp (LC.Q.flatMap RQ.enc)) := ⟨by rw [← hql]; exact HRX.out.plc⟩
            rw [hql] at d1 hcl2
            have HQL : Hd _ := ⟨hql⟩
            obtain ⟨i9, hj0, hj1, hj2, hj3⟩ := info_parts Try.info93'
            have HI9 : Hd _ := ⟨And.intro hj0 (And.intro hj1 (And.intro hj2 hj3))⟩
            clear hj0 hj1 hj2 hj3 hql
            go_region_law (first
              | (refine step_append_sl rfl (.tmp 52) (.tmp 54) 70 rfl 93 i9 _ 5 72 Try.underlying70 HI9.out.1 HI9.out.2.1 HI9.out.2.2.1 HI9.out.2.2.2 rfl (by decide) LC.gp i LC.cp (LC.Q.flatMap RQ.enc) (by simp [Act.eval, Act.put, sv]) (HSP.out.alloc _).drew ⟨w5.heap.size, 0, none⟩ 1 1 [.int .i64 (idx : Int), .int .i64 (age : Int), .slice (some ⟨y1, 0, none⟩) n cv, .slice (some ⟨y2, 0, none⟩) n ch, .bool fr] (by simp [Act.eval, Act.put]) rfl (row_at (l := [.int .i64 (idx : Int), .int .i64 (age : Int), .slice (some ⟨y1, 0, none⟩) n cv, .slice (some ⟨y2, 0, none⟩) n ch, .bool fr]) (heap_alloc_new w5 _)) (five_one _ _ _ _ _ _ _ _ _) (by decide) (by unfold maxLen; omega) (by omega) ?_
                 intro g' cc w6 hS1 hor1 hM1
                 have X1 : Hd _ := ⟨pushed1' hS1 hor1 hM1⟩
                 clear hS1 hor1 hM1
                 obtain ⟨g1, hg1, vb, d1'⟩ := HFX.out w6 X1.out.2.2))
            all_goals
              (have HFIN : Hd _ := ⟨copied_push HRC.out HOC.out.1 HOC.out.2 HP.out HPC.out HN.out.1 HN.out.2 HQL.out XW.out X1.out.1 X1.out.2.1 X1.out.2.2⟩
               clear X1
               go_wp2_with fail
               go_roundg (gk - 1)
               case measure => omega
               case rel => exact ⟨i + 1, by go_num, by omega, HFIN⟩)
      · have hir : r.front i = r := by
          have : i = r.pcs.length := by omega
          subst this
          simp [RSS.front]
        have HF : Hd (Copied w y r wr) := ⟨by rw [← hir]; exact HC.out⟩
        clear hir hRC hownC hMC
        simp only [sv] at c1
        go_wp2
        go_ret
        exact ⟨y, rfl, HF.out⟩
end Go.Proofs.Ytpgoogjaoffdoaa
