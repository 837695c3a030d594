/- The document's slab: Get, where a piece is got. -/
import Derived.Test.YtpgoogjaoffdoaaRefP
import Derived.Test.YtpgoogjaoffdoaaRef15
namespace Go.Proofs.Ytpgoogjaoffdoaa
set_option linter.unusedVariables false
set_option linter.unusedSimpArgs false
open Go.RowKit

theorem Mod.drewN (S : Nat → Prop) (w : World) (n : Nat) : Mod S w (w.drewN n) := ⟨rfl, rfl, rfl, Nat.le_refl _, fun _ _ _ => rfl⟩

/-- The front of a row. -/
theorem Sl.front {w : World} {g n c : Nat} {xs : List Value} (h : Sl w 3 1 (some g) n c xs) (m : Nat) (hm : m ≤ n) : Sl w 3 1 (some g) m c (xs.take m) := by
  have hl := h.len
  refine ⟨by simp; omega, Nat.le_trans hm h.le, h.max, fun e => (by cases e), fun g' hg' => ?_⟩
  obtain ⟨cur, h1, h2, h3⟩ := h.row g' hg'
  refine ⟨cur, h1, h2, ?_⟩
  rw [← h3, List.take_take]
  congr 1
  omega

theorem encN_dropLast (l : List Nat) : encN l.dropLast = (encN l).take (l.length - 1) := by
  rw [List.dropLast_eq_take, encN, encN, List.map_take]

theorem Try.info2 : (Try.prog.info? 2).map (fun i => (i.zero, i.size, i.bytes)) = some (some (.int .i64 0), 1, 8) := by kernel_rfl
theorem Try.info4 : (Try.prog.info? 4).map (fun i => (i.zero, i.size, i.bytes)) = some (some (.bool false), 1, 1) := by kernel_rfl
theorem Try.info93 : (Try.prog.info? 93).map (fun i => (i.zero, i.size, i.bytes)) = some (some (.agg #[.int .i64 0, .int .i64 0, .slice none 0 0, .slice none 0 0, .bool false]), 5, 72) := by kernel_rfl

theorem make_vals (k : Nat) (hk : k ≤ 4095) (w : World) :
    (Instr.makeSlice 90 (.int .i64 (k : Int)) (.int .i64 (k : Int))).run Try.prog w = .ok (.slice (some ⟨w.heap.size, 0, none⟩) k k) (w.alloc (.cells (madeCells #[.int .i64 0] (k * 1)) 2)) := by
  obtain ⟨i0, hi, hz0, hz1, hz2⟩ := info_parts Try.info2
  have hr := run_make (P := Try.prog) w 90 2 i0 _ Try.underlying90 hi hz0 .i64 .i64 k k (by omega) (Int.le_refl _) (by rw [hz2]; omega) (by omega)
  rw [hz1] at hr
  exact hr
theorem make_has (k : Nat) (hk : k ≤ 4095) (w : World) :
    (Instr.makeSlice 91 (.int .i64 (k : Int)) (.int .i64 (k : Int))).run Try.prog w = .ok (.slice (some ⟨w.heap.size, 0, none⟩) k k) (w.alloc (.cells (madeCells #[.bool false] (k * 1)) 4)) := by
  obtain ⟨i0, hi, hz0, hz1, hz2⟩ := info_parts Try.info4
  have hr := run_make (P := Try.prog) w 91 4 i0 _ Try.underlying91 hi hz0 .i64 .i64 k k (by omega) (Int.le_refl _) (by rw [hz2]; omega) (by omega)
  rw [hz1] at hr
  exact hr

theorem pcCells_one (idx age n y1 y2 : Nat) : ∀ u ∈ pcCells idx age n y1 y2, u.oneCell' = true := by
  intro u hu
  simp [pcCells] at hu
  rcases hu with rfl | rfl | rfl | rfl | rfl <;> rfl

theorem pushed1 {w w5 : World} {o : Obj} {e s : Nat} {og : Option Nat} {g1 n c1 : Nat} {ys : List Value} (hS : Sl w5 e s (some g1) n c1 ys) (hor : some g1 = og ∨ (w.alloc o).drew.heap.size ≤ g1) (hM : Mod (fun k => some k = og) (w.alloc o).drew w5) :
    Sl w5 e s (some g1) n c1 ys ∧ (some g1 = og ∨ w.heap.size ≤ g1) ∧ Mod (fun k => some k = og) w w5 :=
  ⟨hS, hor.imp id (fun h => by rw [heap_drew] at h; simp at h; omega), ((Mod.alloc _ w o).trans (Mod.drew _ _) (fun _ h => Or.inl h)).trans hM (fun _ h => Or.inl h)⟩

set_option maxRecDepth 100000 in
set_option maxHeartbeats 4000000 in
theorem rget_good {w : World} {b : Nat} {r : RSS} {own : Nat → Option Rr} {L : RLo} {N : Nat} (h : RRepS w b r own L) (hO : r.Ok N) (hN1 : N < 1048575) (hFx : ∀ i ∈ r.fre, i < 1048576) (hR : r.room ≤ 16384) (n : Nat) (h1 : 1 ≤ n) (h2 : n ≤ 4095) (hf : r.used + n ≤ r.room) :
    Calls Try.prog 25 #[.pointer (some ⟨b, 0, none⟩), .int .i64 (n : Int)] w fun e w' => e = .returned (.tuple #[.int .u64 ((r.get n).1.1 : Int), .int .i64 ((r.get n).1.2 : Int)]) ∧ RPost w b own (r.get n).2 w' := by
  have H : Hd (∀ w', w'.heap = w.heap → RRepS w' b r own L) := ⟨fun w' hh => h.heap hh⟩
  have HO : Hd _ := ⟨hO⟩
  have hu := RSS.used_le hO
  have hb := hO.bound
  obtain ⟨c0, c1, c2, c3⟩ := h.cells
  obtain ⟨u, hu0⟩ : ∃ u, r.used = u := ⟨_, rfl⟩
  have HU : Hd _ := ⟨hu0⟩
  rw [hu0] at hf hu
  have HC : Hd (∀ m, Calls Try.prog 34 #[.pointer (some ⟨b, 0, none⟩)] (w.drewN m) fun e w' => e = .returned (.int .i64 (u : Int)) ∧ w' = w.drewN m) := ⟨fun m => (rused_calls (H.out (w.drewN m) rfl) HO.out).mono fun e w' h => ⟨by rw [h.1, hu0], h.2.symm⟩⟩
  clear h hO c1 c2 c3 hu0
  go_enter Try.func25, Try.ntmps25
  go_upto_region 3 with fail
  go_quiet (first | (go_at_call 34; exact Calls.quiet_of_same (HC.out _)))
  clear c0
  obtain ⟨w1, hw1⟩ : ∃ w1, w1 = w.drewN nq := ⟨_, rfl⟩
  have H1 : Hd _ := ⟨H.out (w.drewN nq) rfl⟩
  have HM1 : Hd _ := ⟨Mod.drewN (fun _ => False) w nq⟩
  rw [← hw1] at H1 HM1 ⊢
  clear hw1
  obtain ⟨c0, c1, c2, c3⟩ := H1.out.cells
  have hfw : w1.frozen? ⟨b, 3, none⟩ = false := by simp [World.frozen?, H1.out.base]
  have hnx := HO.out.next
  simp only [sv] at c2
  go_upto_if 34 with fail
  go_cut [6] (fun v6 wc => v6 = .int .i64 (r.idx : Int) ∧ Hd (GotIdx w b own r.took wc))
  case first =>
    by_cases hfe : r.fre = []
    · have hx : r.idx = r.next := by simp [RSS.idx, hfe]
      have HX : Hd _ := ⟨hx⟩
      have HT : Hd (r.took = { r with next := r.next + 1 }) := ⟨by simp [RSS.took, hfe]⟩
      have hfl : r.fre.length = 0 := by rw [hfe]; rfl
      clear hx hfe
      go_wp2_with fail
      go_meet
      case rel =>
        refine ⟨by rw [HX.out], ⟨own, L, by rw [HT.out]; exact H1.out.setNext (r.next + 1), fun k hk => Or.inl hk, (HM1.out.mono (fun _ h => h.elim)).trans (Mod.setCell (S := Dom own) w1 _ _ (by rw [Dom, H1.out.ob]; simp)) (fun k hk => Or.inl hk)⟩⟩
    · obtain ⟨m, hm⟩ : ∃ m, r.fre.length = m + 1 := ⟨r.fre.length - 1, by cases hq : r.fre with
        | nil => exact absurd hq hfe
        | cons x xs => simp⟩
      obtain ⟨g, hg⟩ := H1.out.fre.some_of (by omega)
      have hcf := H1.out.fre.le
      have hcx := H1.out.fre.max
      unfold maxLen at hcx
      have hlt : m < r.fre.length := by omega
      have hx : r.fre[m]? = some r.idx := by
        unfold RSS.idx
        rw [List.getLast?_eq_getElem?, hm, Nat.add_sub_cancel, List.getElem?_eq_getElem hlt]
        rfl
      have e0 : w1.cell? ⟨g, m, none⟩ = some (.int .i64 (r.idx : Int)) := H1.out.fre.cell hg (by simp [encN, hx])
      have hgb : g ≠ b := rr_ne (H1.out.of g hg) H1.out.ob (by simp)
      have HT : Hd (r.took = { r with fre := r.fre.dropLast, next := r.next }) := ⟨by simp [RSS.took, hfe]⟩
      have hfb : w1.frozen? ⟨b, 2, none⟩ = false := by simp [World.frozen?, H1.out.base]
      have hbl : b < w1.heap.size := H1.out.dom b (by rw [H1.out.ob]; simp)
      have hgl : g < w1.heap.size := H1.out.fre.lt hg
      rw [hg, hm] at c2
      simp only [Option.map_some] at c2
      have HG : Hd _ := ⟨hg⟩
      have hcm : m < L.cf := by omega
      have hw : IntKind.i64.wrap (((m + 1 : Nat) : Int) - 1) = (m : Int) := by simp [IntKind.wrap, IntKind.bits, IntKind.signed]; omega
      clear hfe hx hlt hg
      rw [hm]
      have HMM : Hd _ := ⟨hm⟩
      clear hm
      go_wp2_with fail
      go_region
      go_wp2_with fail
      clear e0 hw
      obtain ⟨w2, hw2⟩ : ∃ w2, w2 = w1.drew := ⟨_, rfl⟩
      have H2 : Hd _ := ⟨H1.out.heap (w' := w1.drew) rfl⟩
      have HM2 : Hd _ := ⟨HM1.out.trans (Mod.drew (fun _ => False) w1) (fun _ h => Or.inl h)⟩
      have c2' : w1.drew.cell? ⟨b, 2, none⟩ = some (.slice (some ⟨g, 0, none⟩) (m + 1) L.cf) := c2
      have hbl' : b < w1.drew.heap.size := hbl
      rw [← hw2] at H2 HM2 c2' hbl' ⊢
      have HS2 : Hd (Sl w2 3 1 (some g) m L.cf (encN r.fre.dropLast)) := ⟨by
        have := H2.out.fre
        rw [HG.out] at this
        rw [encN_dropLast, HMM.out]
        exact this.front m (by rw [HMM.out]; omega)⟩
      clear c2 hbl hfb hgl hw2 c1
      obtain ⟨i0, hi0, hz0, hz1, hz2⟩ := info_parts Try.info3
      have HI0 : Hd _ := ⟨And.intro hi0 (And.intro hz0 (And.intro hz1 hz2))⟩
      have HFB : Hd (∀ w', Mod (fun _ => False) w2 w' → w'.frozen? ⟨b, 2, none⟩ = false ∧ w'.cell? ⟨b, 2, none⟩ = some (.slice (some ⟨g, 0, none⟩) (m + 1) L.cf)) := ⟨fun w' hM => by
        have h' := H2.out.mod hM
        refine ⟨by simp [World.frozen?, h'.base], ?_⟩
        have := h'.cells.2.2.1
        rw [HG.out, HMM.out] at this
        exact this⟩
      have hw : IntKind.i64.wrap (((m + 1 : Nat) : Int) - 1) = (m : Int) := by simp [IntKind.wrap, IntKind.bits, IntKind.signed]; omega
      have hcm1 : m + 1 ≤ L.cf := by omega
      have hmN : m < 1048576 := by have := HO.out.fre; rw [HMM.out] at this; omega
      have hwm : IntKind.i64.wrap (m : Int) = (m : Int) := by simp [IntKind.wrap, IntKind.bits, IntKind.signed]; omega
      have hml : (m : Int) ≤ (L.cf : Int) := by omega
      clear hi0 hz0 hz1 hz2
      have HG2 : Hd (∀ g1 c1 w5, (Sl w5 3 1 (some g1) m c1 (encN r.fre.dropLast) ∧ w2.heap.size ≤ g1 ∧ Mod (fun _ => False) w2 w5) → Hd (GotIdx w b own r.took (w5.setCell ⟨b, 2, none⟩ (.slice (some ⟨g1, 0, none⟩) m c1)))) := ⟨fun g1 c1 w5 hX => by
        have hg1 : own g1 = none := by
          cases h : own g1 with
          | none => rfl
          | some x => have := H2.out.dom g1 (by rw [h]; simp); omega
        have hlen5 : r.fre.dropLast.length = m := by rw [List.length_dropLast, HMM.out]; rfl
        have hR := (H2.out.mod hX.2.2).newFree (fr := r.fre.dropLast) (by rw [hlen5]; exact hX.1) hg1
        rw [hlen5] at hR
        have hms := HM2.out.size
        refine ⟨⟨_, _, by rw [HT.out]; exact hR, ?_, ?_⟩⟩
        · intro k hk
          by_cases e : k = g1
          · exact Or.inr (by omega)
          · rw [if_neg e] at hk; exact Or.inl hk
        · exact ((HM2.out.trans hX.2.2 (fun _ h => h.elim)).mono (T := Dom own) (fun _ h => h.elim)).trans (Mod.setCell (S := Dom own) w5 _ _ (by rw [Dom, H2.out.ob]; simp)) (fun k hk => Or.inl hk)⟩
      go_region_law (first
        | (refine step_append_src rfl (.tmp 48) (.tmp 59) 41 rfl 3 i0 (.int .i64 0) 8 Try.underlying41 HI0.out.1 HI0.out.2.1 HI0.out.2.2.1 HI0.out.2.2.2 rfl w2.heap.size 0 0 [] (by simp [Act.eval, Act.put, sv]) (Sl.fresh _ _) (some g) m L.cf (encN r.fre.dropLast) (by simp [Act.eval, Act.put, sv]) (HS2.out.alloc _).drew (encN_ones _) (by unfold maxLen; omega) (by omega) ?_
           intro g1 c1 w5 hS1 hor1 hM1
           have X1 : Hd _ := ⟨fresh1 hS1 hor1 hM1⟩
           clear hS1 hor1 hM1
           obtain ⟨hfb, c2''⟩ := HFB.out w5 X1.out.2.2))
      all_goals (go_wp2_with fail; go_meet)
      all_goals (case rel => exact ⟨rfl, HG2.out g1 c1 w5 (by simpa using X1.out)⟩)
  case rest =>
    clear c0 c1 c2 c3 hfw hnx
    obtain ⟨rfl, HGI⟩ := hcut
    obtain ⟨own2, L2, hR2, hown2, hM2⟩ := HGI.out
    have HR2 : Hd _ := ⟨hR2⟩
    have HX2 : Hd _ := ⟨And.intro hown2 hM2⟩
    have hlen : L2.Q.length = r.pcs.length := by
      have := hR2.pcs
      rw [show r.took.pcs = r.pcs from rfl] at this
      rw [this, List.length_map]
    have hN : r.pcs.length ≤ N := HO.out.many
    have hcl := hR2.plc.le
    have hcm := hR2.plc.max
    unfold maxLen at hcm
    obtain ⟨_, c1, _, _⟩ := hR2.cells
    obtain ⟨age, hage⟩ : ∃ age, (r.pcs.map fun p => if p.idx = r.idx then 1 else 0).sum = age := ⟨_, rfl⟩
    have HAG : Hd _ := ⟨hage⟩
    obtain ⟨idx, hidx⟩ : ∃ idx, r.idx = idx := ⟨_, rfl⟩
    have HIX : Hd _ := ⟨hidx⟩
    rw [hidx]
    rw [hidx] at HAG
    clear hR2 hown2 hM2 HGI hage hidx
    go_wp2_with fail
    go_loopg [7, 8] r.pcs.length (fun gk v7 v8 wr => wc = wr ∧ ∃ (i m : Nat), v7 = .int .i64 m ∧ v8 = .int .i64 i ∧ i + gk = r.pcs.length ∧ m ≤ i ∧ Hd (m + ((r.pcs.drop i).map fun p => if p.idx = idx then 1 else 0).sum = age))
    case atStart => exact ⟨rfl, 0, 0, rfl, rfl, by omega, by omega, ⟨by simpa using HAG.out⟩⟩
    case round =>
      obtain ⟨rfl, i, m, rfl, rfl, hi, hmi, HF⟩ := hrel
      by_cases hlt : i < r.pcs.length
      · obtain ⟨p, hp⟩ : ∃ p, r.pcs[i]? = some p := ⟨_, List.getElem?_eq_getElem hlt⟩
        obtain ⟨q, g, hq, rfl, hg, hil, p0, p1, p2, p3, p4⟩ := HR2.out.piece (i := i) hp
        have hd : r.pcs.drop i = q.pc :: r.pcs.drop (i + 1) := by
          rw [List.drop_eq_getElem_cons hlt]
          rw [List.getElem?_eq_getElem hlt] at hp
          rw [Option.some.inj hp]
        have hs := HF.out
        rw [hd, List.map_cons, List.sum_cons] at hs
        rw [hg] at c1
        simp only [sv_some] at c1
        clear hp hq hg hd HF p1 p2 p3 p4
        by_cases hidx : q.pc.idx = idx
        · rw [if_pos hidx] at hs
          have HS : Hd (m + 1 + ((r.pcs.drop (i + 1)).map fun p => if p.idx = idx then 1 else 0).sum = age) := ⟨by omega⟩
          rw [hidx] at p0
          clear hidx hs
          go_wp2_with fail
          go_roundg (gk - 1)
          case measure => omega
          case rel => exact ⟨rfl, i + 1, m + 1, by go_num, by go_num, by omega, by omega, HS⟩
        · rw [if_neg hidx] at hs
          have HS : Hd (m + ((r.pcs.drop (i + 1)).map fun p => if p.idx = idx then 1 else 0).sum = age) := ⟨by omega⟩
          have hne : ¬ (q.pc.idx : Int) = (idx : Int) := by omega
          clear hidx hs
          go_wp2_with fail
          go_roundg (gk - 1)
          case measure => omega
          case rel => exact ⟨rfl, i + 1, m, rfl, by go_num, by omega, by omega, HS⟩
      · have hma : m = age := by have := HF.out; rw [List.drop_eq_nil_of_le (by omega)] at this; simpa using this
        subst hma
        clear HF
        obtain ⟨S0, hS0⟩ : ∃ S0, wc.heap.size = S0 := ⟨_, rfl⟩
        have HS0 : Hd _ := ⟨hS0⟩
        clear hS0
        simp only [sv] at c1
        have hmk1 := fun w => make_vals n (by omega) w
        have hmk2 := fun w => make_has n (by omega) w
        simp only [Nat.mul_one] at hmk1 hmk2
        go_upto_region 16 with fail
        go_cut [9] (fun v9 wx => ∃ y1 y2 y3, v9 = .pointer (some ⟨y3, 0, none⟩) ∧ Hd (NewPc wc wx idx m n y1 y2 y3))
        case first =>
          go_region
          all_goals (go_wp2_with fail; go_meet)
          all_goals (case rel => first | exact ⟨wc.heap.size, (wc.heap.size + 1), (wc.heap.size + 1 + 1), rfl, ⟨newPc123 wc idx m n⟩⟩ | exact ⟨wc.heap.size, (wc.heap.size + 1 + 1), (wc.heap.size + 1), rfl, ⟨newPc132 wc idx m n⟩⟩ | exact ⟨(wc.heap.size + 1), wc.heap.size, (wc.heap.size + 1 + 1), rfl, ⟨newPc213 wc idx m n⟩⟩ | exact ⟨(wc.heap.size + 1 + 1), wc.heap.size, (wc.heap.size + 1), rfl, ⟨newPc231 wc idx m n⟩⟩ | exact ⟨(wc.heap.size + 1), (wc.heap.size + 1 + 1), wc.heap.size, rfl, ⟨newPc312 wc idx m n⟩⟩ | exact ⟨(wc.heap.size + 1 + 1), (wc.heap.size + 1), wc.heap.size, rfl, ⟨newPc321 wc idx m n⟩⟩)
        case rest =>
          clear hmk1 hmk2 c1
          obtain ⟨y1, y2, y3, rfl, HPC⟩ := hcut
          have HRX : Hd _ := ⟨HR2.out.mod HPC.out.mod⟩
          have HFX : Hd (∀ w', Mod (fun k => some k = L2.gp) wc w' → w'.frozen? ⟨b, 1, none⟩ = false ∧ (∀ j v, (pcCells idx m n y1 y2)[j]? = some v → w'.cell? ⟨y3, j, none⟩ = some v) ∧ b < w'.heap.size ∧ y3 < w'.heap.size ∧ ∃ v, w'.cell? ⟨b, 1, none⟩ = some v) := ⟨fun w' hM => by
            have hbs : b < wc.heap.size := HRX.out.dom b (by rw [HRX.out.ob]; simp)
            have hys : y3 < wc.heap.size := (Array.getElem?_eq_some_iff.1 HPC.out.h3).1
            have hb' := (hM.block b hbs (fun e => by have := HRX.out.op b e.symm; rw [HRX.out.ob] at this; cases this)).trans HRX.out.base
            have hy' := (hM.block y3 hys (fun e => by
              have h1 := HR2.out.dom y3 (by rw [HR2.out.op y3 e.symm]; simp)
              have := HPC.out.l3
              omega)).trans HPC.out.h3
            refine ⟨by simp [World.frozen?, hb'], fun j v hj => ?_, by have := hM.size; omega, by have := hM.size; omega, ⟨_, by simp [World.cell?, hb', rCells]; rfl⟩⟩
            have := row_at hy' j v hj
            rwa [Addr.add_lit, Nat.zero_add] at this⟩
          obtain ⟨f1, hc3, hb1, hy3, _⟩ := HFX.out wc (Mod.refl _ _)
          obtain ⟨_, c1, _, _⟩ := HRX.out.cells
          have t0 : wc.cell? ⟨y3, 0, none⟩ = some (.int .i64 (idx : Int)) := hc3 0 _ rfl
          have t1 : wc.cell? ⟨y3, 1, none⟩ = some (.int .i64 (m : Int)) := hc3 1 _ rfl
          have t2 : wc.cell? ⟨y3, 2, none⟩ = some (.slice (some ⟨y1, 0, none⟩) n n) := hc3 2 _ rfl
          have t3 : wc.cell? ⟨y3, 3, none⟩ = some (.slice (some ⟨y2, 0, none⟩) n n) := hc3 3 _ rfl
          have t4 : wc.cell? ⟨y3, 4, none⟩ = some (.bool false) := hc3 4 _ rfl
          clear hc3
          simp only [sv] at c1
          obtain ⟨i0, hi0, hz0, hz1, hz2⟩ := info_parts Try.info93
          have HI0 : Hd _ := ⟨And.intro hi0 (And.intro hz0 (And.intro hz1 hz2))⟩
          clear hi0 hz0 hz1 hz2
          have HLEN : Hd _ := ⟨hlen⟩
          obtain ⟨ql, hql⟩ : ∃ ql, L2.Q.length = ql := ⟨_, rfl⟩
          have HQL : Hd _ := ⟨hql⟩
          have hqlN : ql ≤ N := by omega
          rw [hql] at c1 hcl
          clear hlen hql
          have HSP : Hd (Sl wc 93 5 L2.gp ql L2.cp (L2.Q.flatMap RQ.enc)) := ⟨by rw [← HQL.out]; exact HRX.out.plc⟩
          go_upto_region 17 with fail
          go_cut [9] (fun v9 wf => v9 = .pointer (some ⟨y3, 0, none⟩) ∧ Hd (∃ g' c' w5, wf = w5.setCell ⟨b, 1, none⟩ (.slice (some ⟨g', 0, none⟩) (ql + 1) c') ∧ Sl w5 93 5 (some g') (ql + 1) c' (L2.Q.flatMap RQ.enc ++ pcCells idx m n y1 y2) ∧ (some g' = L2.gp ∨ wc.heap.size ≤ g') ∧ Mod (fun k => some k = L2.gp) wc w5))
          case first =>
            go_region_law (first
              | (refine step_append_sl rfl (.tmp 102) (.tmp 104) 70 rfl 93 i0 _ 5 72 Try.underlying70 HI0.out.1 HI0.out.2.1 HI0.out.2.2.1 HI0.out.2.2.2 rfl (by decide) L2.gp ql L2.cp (L2.Q.flatMap RQ.enc) (by simp [Act.eval, Act.put, sv]) (HSP.out.alloc _).drew ⟨wc.heap.size, 0, none⟩ 1 1 (pcCells idx m n y1 y2) (by simp [Act.eval, Act.put]) rfl (row_at (l := pcCells idx m n y1 y2) (heap_alloc_new wc _)) (pcCells_one _ _ _ _ _) (by decide) (by unfold maxLen; omega) (by omega) ?_
                 intro g1 cc w5 hS1 hor1 hM1
                 have X1 : Hd _ := ⟨pushed1 hS1 hor1 hM1⟩
                 clear hS1 hor1 hM1
                 obtain ⟨f1, hc3, hb1, hy3, vb, c1'⟩ := HFX.out w5 X1.out.2.2))
            all_goals (go_wp2_with fail; go_meet)
            all_goals (case rel => exact ⟨rfl, ⟨g1, cc, w5, rfl, X1.out⟩⟩)
          case rest =>
            clear t0 t1 t2 t3 t4 f1 hb1 hy3 c1
            obtain ⟨rfl, HF⟩ := hcut
            obtain ⟨g', c', w5, rfl, hS5, hor5, hM5⟩ := HF.out
            obtain ⟨_, hc3, _, _, _⟩ := HFX.out w5 hM5
            have hyb : y3 ≠ b := fun e => by
              have h1 := HR2.out.dom b (by rw [HR2.out.ob]; simp)
              have h2 := HPC.out.l3
              omega
            have hc4 : ∀ j v, (pcCells idx m n y1 y2)[j]? = some v → (w5.setCell ⟨b, 1, none⟩ (.slice (some ⟨g', 0, none⟩) (ql + 1) c')).cell? ⟨y3, j, none⟩ = some v := fun j v hj => by
              rw [← hc3 j v hj]
              simp only [World.cell?]
              rw [Below.heap_setCell _ _ _ _ hyb]
            obtain ⟨wf, hwf⟩ : ∃ wf, wf = w5.setCell ⟨b, 1, none⟩ (.slice (some ⟨g', 0, none⟩) (ql + 1) c') := ⟨_, rfl⟩
            rw [← hwf] at hc4 ⊢
            have HWF : Hd _ := ⟨hwf⟩
            have t0 : wf.cell? ⟨y3, 0, none⟩ = some (.int .i64 (idx : Int)) := hc4 0 _ rfl
            have t1 : wf.cell? ⟨y3, 1, none⟩ = some (.int .i64 (m : Int)) := hc4 1 _ rfl
            have t2 : wf.cell? ⟨y3, 2, none⟩ = some (.slice (some ⟨y1, 0, none⟩) n n) := hc4 2 _ rfl
            have t3 : wf.cell? ⟨y3, 3, none⟩ = some (.slice (some ⟨y2, 0, none⟩) n n) := hc4 3 _ rfl
            have t4 : wf.cell? ⟨y3, 4, none⟩ = some (.bool false) := hc4 4 _ rfl
            have HFIN : Hd (Sl w5 93 5 (some g') (ql + 1) c' (L2.Q.flatMap RQ.enc ++ pcCells idx m n y1 y2) ∧ (some g' = L2.gp ∨ _ ≤ g') ∧ Mod (fun k => some k = L2.gp) _ w5) := ⟨And.intro hS5 (And.intro hor5 hM5)⟩
            have hidxN : idx < 1048576 := by
              have h1 := HIX.out
              unfold RSS.idx at h1
              cases hl : r.fre.getLast? with
              | none => rw [hl] at h1; simp at h1; have := HO.out.next; omega
              | some x => rw [hl] at h1; simp at h1; rw [← h1]; exact hFx x (List.mem_of_getLast? hl)
            clear hc4 hwf hS5 hor5 hM5 hc3 HF
            go_wp2_with fail
            refine (raddr_calls idx m 0 hidxN (by omega) (by omega) _ _ _ wf).mono ?_
            rintro e0 w6 ⟨rfl, hM6⟩
            have HM6 : Hd _ := ⟨hM6⟩
            clear hM6 t0 t1 t2 t3 t4
            obtain ⟨ra, hra⟩ : ∃ ra, addrOf idx m 0 = ra := ⟨_, rfl⟩
            rw [hra]
            have HRA : Hd _ := ⟨hra⟩
            clear hra
            go_wp2
            have hget : r.get (n : Int) = ((ra, 0), { r.took with pcs := r.pcs ++ [⟨idx, m, List.replicate n 0, List.replicate n false, false⟩] }) := by
              unfold RSS.get
              rw [if_neg (by omega), if_neg (by rw [HU.out]; omega), Int.toNat_natCast]
              rw [show r.fre.getLast?.getD r.next = idx from HIX.out]
              dsimp only
              rw [HAG.out, ← HRA.out]
              rfl
            refine bodyPost_ret (v := .tuple #[.int .u64 (ra : Int), .int .i64 0]) (by simp [results, Try.f25, go_sem]) rfl ⟨by rw [hget]; rfl, ?_⟩
            rw [hget]
            obtain ⟨hS5, hor5, hM5⟩ := HFIN.out
            have hdom : ∀ k, own2 k ≠ none → k < S0 := fun k hk => by rw [← HS0.out]; exact HR2.out.dom k hk
            have hl1 := HPC.out.l1
            have hl2 := HPC.out.l2
            rw [HS0.out] at hl1 hl2
            have hnone : ∀ k, S0 ≤ k → own2 k = none := fun k hk => by
              cases h : own2 k with
              | none => rfl
              | some x => have := hdom k (by rw [h]; simp); omega
            have hsz5 := hM5.size
            have hszp := HPC.out.mod.size
            rw [HS0.out] at hszp
            have y1s := (Array.getElem?_eq_some_iff.1 HPC.out.h1).1
            have y2s := (Array.getElem?_eq_some_iff.1 HPC.out.h2).1
            have hgpl : ∀ k, some k = L2.gp → k < S0 := fun k hk => hdom k (by rw [HR2.out.op k hk.symm]; simp)
            have ny1 : y1 ≠ g' := fun e => by
              rcases hor5 with h | h
              · have := hgpl g' h; omega
              · omega
            have ny2 : y2 ≠ g' := fun e => by
              rcases hor5 with h | h
              · have := hgpl g' h; omega
              · omega
            have hpush := HR2.out.push (w5 := w5) (g' := g') (c' := c') (y1 := y1) (y2 := y2) (p := ⟨idx, m, List.replicate n 0, List.replicate n false, false⟩) (cv := n) (ch := n)
              (by rw [HQL.out]; exact by simpa [RQ.enc, pcCells, sv] using hS5) (hor5.imp id (fun h => hnone g' (by omega))) (hnone y1 hl1) (hnone y2 hl2) HPC.out.n12 ny1 ny2 (by rw [HS0.out]; omega)
              (fun k hk hk2 => (hM5.block k (by have := hdom k hk; omega) hk2).trans (HPC.out.mod.block k (HR2.out.dom k hk) (fun h => h)))
              (by
                have := Sl.made h2 ((hM5.block y1 y1s (fun e => by have := hgpl y1 e; omega)).trans HPC.out.h1)
                simpa [encI] using this)
              (by
                have := Sl.made h2 ((hM5.block y2 y2s (fun e => by have := hgpl y2 e; omega)).trans HPC.out.h2)
                simpa [encB] using this)
            rw [HQL.out, ← HWF.out] at hpush
            refine ⟨_, ⟨_, hpush.mod HM6.out⟩, ?_, ?_⟩
            · intro k hk
              have hwm := HX2.out.2.size
              rw [HS0.out] at hwm
              by_cases e : k = g'
              · subst e
                rcases hor5 with h | h
                · exact HX2.out.1 k (by rw [HR2.out.op k h.symm]; simp)
                · exact Or.inr (by omega)
              rw [if_neg e] at hk
              by_cases e1 : k = y1
              · exact Or.inr (by omega)
              rw [if_neg e1] at hk
              by_cases e2 : k = y2
              · exact Or.inr (by omega)
              rw [if_neg e2] at hk
              exact HX2.out.1 k hk
            · have hin : ∀ k, own2 k ≠ none → Dom own k ∨ w.heap.size ≤ k := HX2.out.1
              have m1 := HX2.out.2.trans HPC.out.mod (fun _ h => h.elim)
              have m2 := m1.trans hM5 (fun k hk => hin k (by rw [HR2.out.op k hk.symm]; simp))
              have m3 := m2.trans (Mod.setCell (S := fun k => k = b) w5 ⟨b, 1, none⟩ (.slice (some ⟨g', 0, none⟩) (ql + 1) c') rfl) (fun k hk => by rw [hk]; exact hin b (by rw [HR2.out.ob]; simp))
              rw [← HWF.out] at m3
              exact m3.trans HM6.out (fun _ h => h.elim)
end Go.Proofs.Ytpgoogjaoffdoaa
