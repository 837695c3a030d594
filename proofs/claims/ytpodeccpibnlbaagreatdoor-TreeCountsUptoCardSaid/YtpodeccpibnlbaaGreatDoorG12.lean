/- each at places, statements. each at blocks. each at structs, enums, functions. -/
import Derived.Test.YtpodeccpibnlbaaGreatDoorG11
namespace Go.Proofs.YtpodeccpibnlbaaGreatDoor
set_option linter.unusedVariables false
set_option linter.unusedSimpArgs false
open Go.RowKit
section
variable {S : Nat → Prop} {w0 wV : World} {oa : Option Addr} {len cap : Nat}

set_option maxRecDepth 100000 in
set_option maxHeartbeats 4000000 in
theorem each_pl {l : List Pl} (h : SR S w0 2 (plV S wV) oa len cap l) (M : Nat) (hM : Fn M)
    (hf : ∀ v x, plV S wV v x → x ∈ l → ∀ w', Mod (fun _ => False) w0 w' → Calls Tryz.prog M #[v] w' fun e w2 => ∃ v', e = .returned v' ∧ Mod (fun _ => False) w' w2 ∧ plV (Nb w'.heap.size w2) w2 v' x)
    (w : World) (hw : Mod (fun _ => False) w0 w) :
    Calls Tryz.prog 124 #[.slice oa len cap, .func (.func M) #[] #[]] w fun e w' => ∃ oa' cap', e = .returned (.slice oa' l.length cap') ∧ Mod (fun _ => False) w w' ∧ SR (Nb w.heap.size w') w' 2 (plV (Nb w.heap.size w') w') oa' l.length cap' l := by
  have HC0 : Hd _ := ⟨cln_pl h w hw⟩
  have HF : Hd _ := ⟨hf⟩
  have HW : Hd _ := ⟨hw⟩
  have hbig := h.hbig
  unfold Fn at hM
  clear h hf hw
  go_enter Tryz.func124, Tryz.ntmps124
  go_wp2_with fail
  refine HC0.out.mono ?_
  rintro e w1 ⟨oa', cap', rfl, hM1, hS, hO⟩
  have HM1 : Hd _ := ⟨hM1⟩
  have HS : Hd _ := ⟨hS⟩
  clear HC0 hM1 hS
  rcases hO with ⟨rfl, rfl, hc0⟩ | ⟨g, cur, rfl, hg, hb, hcs, hcc⟩
  · have HC00 : Hd _ := ⟨hc0⟩
    clear hc0
    go_wp2_with fail
    go_loopg [11] 0 (fun gk v11 wr => v11 = .int .i64 0 ∧ wr = w1)
    case atStart => exact ⟨rfl, rfl⟩
    case round =>
      obtain ⟨rfl, rfl⟩ := hrel
      go_wp2
      go_ret
      exact ⟨none, cap', rfl, HM1.out, ⟨rfl, by simp, HS.out.hle, HS.out.hmax, fun i x hi => by simp at hi⟩⟩
  · have HH0 : Hd (Half w1 g 2 24 cur l 0 w1.heap.size (plV S wV) (fun S w => plV S w)) := ⟨Half.start _ HS.out rfl hb hcs⟩
    have HG : Hd _ := ⟨hg⟩
    have HL : Hd _ := ⟨HS.out.hle⟩
    have HX : Hd _ := ⟨HS.out.hmax⟩
    clear hb hcs hcc hg HS
    go_wp2_with fail
    go_loopg [11] l.length (fun gk v11 wr => Hd (Mod (fun b => b = g) w1 wr) ∧ ∃ k : Nat, ∃ cur : Array Value, v11 = .int .i64 k ∧ k + gk = l.length ∧ Hd (Half wr g 2 24 cur l k w1.heap.size (plV S wV) (fun S w => plV S w)))
    case atStart => exact ⟨⟨Mod.refl _ _⟩, 0, _, rfl, by omega, HH0⟩
    case round =>
      clear HH0
      obtain ⟨HM, k, cur, rfl, hk, HH⟩ := hrel
      by_cases hlt : k < l.length
      · have hx0 : l[k]? = some l[k] := List.getElem?_eq_getElem (by omega)
        obtain ⟨x, hx⟩ : ∃ x, l[k]? = some x := ⟨_, hx0⟩
        obtain ⟨v, hv, hc⟩ := HH.out.old k x (Nat.le_refl _) hx
        have hmm : Mod (fun _ => False) w0 wr := by
          have h1 := HW.out.trans HM1.out (fun _ h => Or.inl h)
          have h2 := Nat.le_trans HW.out.size HG.out
          exact h1.trans HM.out (fun i hi => Or.inr (by subst hi; exact h2))
        have HC : Hd _ := ⟨HF.out v x hv (List.mem_of_getElem? hx) wr hmm⟩
        obtain ⟨k0, oa1, la1, ca1, rfl, k1⟩ := hv
        have e0 : (Value.agg #[.string x.loc, .slice oa1 la1 ca1]).cells = #[.string x.loc, .slice oa1 la1 ca1] := by simp [Value.cells]
        rw [e0] at hc
        have d0 : wr.cell? ⟨g, k * 2, none⟩ = some (.string x.loc) := HH.out.cell (hc 0 _ rfl)
        have d1 : wr.cell? ⟨g, k * 2 + 1, none⟩ = some (.slice oa1 la1 ca1) := HH.out.cell (hc 1 _ rfl)
        have HXk : Hd _ := ⟨hx⟩
        have hfz : ∀ j, wr.frozen? ⟨g, j, none⟩ = false := HH.out.frozen
        clear hx0 hx hc hmm e0 k0 k1
        go_wp2_with fail
        refine HC.out.mono ?_
        rintro e w2 ⟨v', rfl, hM2, hv'⟩
        have HH2 : Hd _ := ⟨HH.out.keep hM2 (fun _ _ _ _ _ _ h hk => h.keep hk)⟩
        have HM2 : Hd (Mod (fun b => b = g) w1 w2) := ⟨HM.out.trans hM2 (fun _ h => by cases h)⟩
        have HV : Hd (plV (Nb w1.heap.size w2) w2 v' x) := ⟨hv'.keep (Nb.le HM.out.size)⟩
        have hO := HH2.out.old k x (Nat.le_refl _) HXk.out
        obtain ⟨u, hu1, hu2⟩ := hO
        obtain ⟨hu3, _⟩ := one_pl hu1
        have hall : ∀ j, j < 2 → ∃ z, w2.cell? ⟨g, k * 2 + j, none⟩ = some z := fun j hj => by
          obtain ⟨z, hz⟩ : ∃ z, u.cells[j]? = some z := ⟨_, Array.getElem?_eq_getElem (by omega)⟩
          exact ⟨z, HH2.out.cell (hu2 j z hz)⟩
        obtain ⟨z0, f0⟩ := hall 0 (by decide)
        obtain ⟨z1, f1⟩ := hall 1 (by decide)
        have hfz2 : ∀ j, w2.frozen? ⟨g, j, none⟩ = false := HH2.out.frozen
        have s1 : ∀ v0, (w2.setCell ⟨g, k * 2, none⟩ v0).cell? ⟨g, k * 2 + 1, none⟩ = some z1 := fun v0 => by
          repeat rw [World.cell?_setCell_other _ _ _ _ (by intro h; simp only [Addr.mk.injEq] at h; omega)]
          exact f1
        rw [Nat.add_zero] at f0
        obtain ⟨jk0, oa2, la2, ca2, rfl, jk1⟩ := hv'
        clear d0 d1 hfz hall hu1 hu2 hu3 hM2 HC HH HM jk0 jk1
        go_wp2_with fail
        go_roundg (gk - 1)
        case measure => omega
        case rel =>
          have hput := HH2.out.put (fun _ _ _ _ _ _ h hk => h.keep hk) (fun _ _ _ _ h => (one_pl h).1) HXk.out HV.out
          rw [show (Value.agg #[.string x.loc, .slice oa2 la2 ca2]).cells = #[.string x.loc, .slice oa2 la2 ca2] by simp [Value.cells]] at hput
          refine ⟨⟨HM2.out.trans (Mod.setCells (S := fun b => b = g) rfl [.string x.loc, .slice oa2 la2 ca2] (k * 2) _) (fun _ h => Or.inl h)⟩, k + 1, _, by go_num, by omega, ⟨hput⟩⟩
      · obtain rfl : k = l.length := by omega
        go_wp2
        go_ret
        exact ⟨_, cap', rfl, HM1.out.trans HM.out (fun i hi => Or.inr (by subst hi; exact HG.out)), HH.out.row (fun _ _ _ _ _ _ h hk => h.keep hk) HM1.out.size HG.out hbig HL.out HX.out⟩

set_option maxRecDepth 100000 in
set_option maxHeartbeats 4000000 in
theorem each_stm {l : List Stm} (h : SR S w0 8 (stmV S wV) oa len cap l) (M : Nat) (hM : Fn M)
    (hf : ∀ v x, stmV S wV v x → x ∈ l → ∀ w', Mod (fun _ => False) w0 w' → Calls Tryz.prog M #[v] w' fun e w2 => ∃ v', e = .returned v' ∧ Mod (fun _ => False) w' w2 ∧ stmV (Nb w'.heap.size w2) w2 v' x)
    (w : World) (hw : Mod (fun _ => False) w0 w) :
    Calls Tryz.prog 121 #[.slice oa len cap, .func (.func M) #[] #[]] w fun e w' => ∃ oa' cap', e = .returned (.slice oa' l.length cap') ∧ Mod (fun _ => False) w w' ∧ SR (Nb w.heap.size w') w' 8 (stmV (Nb w.heap.size w') w') oa' l.length cap' l := by
  have HC0 : Hd _ := ⟨cln_stm h w hw⟩
  have HF : Hd _ := ⟨hf⟩
  have HW : Hd _ := ⟨hw⟩
  have hbig := h.hbig
  unfold Fn at hM
  clear h hf hw
  go_enter Tryz.func121, Tryz.ntmps121
  go_wp2_with fail
  refine HC0.out.mono ?_
  rintro e w1 ⟨oa', cap', rfl, hM1, hS, hO⟩
  have HM1 : Hd _ := ⟨hM1⟩
  have HS : Hd _ := ⟨hS⟩
  clear HC0 hM1 hS
  rcases hO with ⟨rfl, rfl, hc0⟩ | ⟨g, cur, rfl, hg, hb, hcs, hcc⟩
  · have HC00 : Hd _ := ⟨hc0⟩
    clear hc0
    go_wp2_with fail
    go_loopg [11] 0 (fun gk v11 wr => v11 = .int .i64 0 ∧ wr = w1)
    case atStart => exact ⟨rfl, rfl⟩
    case round =>
      obtain ⟨rfl, rfl⟩ := hrel
      go_wp2
      go_ret
      exact ⟨none, cap', rfl, HM1.out, ⟨rfl, by simp, HS.out.hle, HS.out.hmax, fun i x hi => by simp at hi⟩⟩
  · have HH0 : Hd (Half w1 g 8 68 cur l 0 w1.heap.size (stmV S wV) (fun S w => stmV S w)) := ⟨Half.start _ HS.out rfl hb hcs⟩
    have HG : Hd _ := ⟨hg⟩
    have HL : Hd _ := ⟨HS.out.hle⟩
    have HX : Hd _ := ⟨HS.out.hmax⟩
    clear hb hcs hcc hg HS
    go_wp2_with fail
    go_loopg [11] l.length (fun gk v11 wr => Hd (Mod (fun b => b = g) w1 wr) ∧ ∃ k : Nat, ∃ cur : Array Value, v11 = .int .i64 k ∧ k + gk = l.length ∧ Hd (Half wr g 8 68 cur l k w1.heap.size (stmV S wV) (fun S w => stmV S w)))
    case atStart => exact ⟨⟨Mod.refl _ _⟩, 0, _, rfl, by omega, HH0⟩
    case round =>
      clear HH0
      obtain ⟨HM, k, cur, rfl, hk, HH⟩ := hrel
      by_cases hlt : k < l.length
      · have hx0 : l[k]? = some l[k] := List.getElem?_eq_getElem (by omega)
        obtain ⟨x, hx⟩ : ∃ x, l[k]? = some x := ⟨_, hx0⟩
        obtain ⟨v, hv, hc⟩ := HH.out.old k x (Nat.le_refl _) hx
        have hmm : Mod (fun _ => False) w0 wr := by
          have h1 := HW.out.trans HM1.out (fun _ h => Or.inl h)
          have h2 := Nat.le_trans HW.out.size HG.out
          exact h1.trans HM.out (fun i hi => Or.inr (by subst hi; exact h2))
        have HC : Hd _ := ⟨HF.out v x hv (List.mem_of_getElem? hx) wr hmm⟩
        obtain ⟨k0, k1, k2, k3, k4, k5, oa1, la1, ca1, ob1, lb1, cb1, rfl, k6, k7⟩ := hv
        have e0 : (Value.agg #[.int .i64 x.pos, .int .i64 x.kind, .string x.dest.loc, .slice oa1 la1 ca1, .int .i64 x.n, .string x.name, .string x.variant, .slice ob1 lb1 cb1]).cells = #[.int .i64 x.pos, .int .i64 x.kind, .string x.dest.loc, .slice oa1 la1 ca1, .int .i64 x.n, .string x.name, .string x.variant, .slice ob1 lb1 cb1] := by simp [Value.cells]
        rw [e0] at hc
        have d0 : wr.cell? ⟨g, k * 8, none⟩ = some (.int .i64 x.pos) := HH.out.cell (hc 0 _ rfl)
        have d1 : wr.cell? ⟨g, k * 8 + 1, none⟩ = some (.int .i64 x.kind) := HH.out.cell (hc 1 _ rfl)
        have d2 : wr.cell? ⟨g, k * 8 + 2, none⟩ = some (.string x.dest.loc) := HH.out.cell (hc 2 _ rfl)
        have d3 : wr.cell? ⟨g, k * 8 + 3, none⟩ = some (.slice oa1 la1 ca1) := HH.out.cell (hc 3 _ rfl)
        have d4 : wr.cell? ⟨g, k * 8 + 4, none⟩ = some (.int .i64 x.n) := HH.out.cell (hc 4 _ rfl)
        have d5 : wr.cell? ⟨g, k * 8 + 5, none⟩ = some (.string x.name) := HH.out.cell (hc 5 _ rfl)
        have d6 : wr.cell? ⟨g, k * 8 + 6, none⟩ = some (.string x.variant) := HH.out.cell (hc 6 _ rfl)
        have d7 : wr.cell? ⟨g, k * 8 + 7, none⟩ = some (.slice ob1 lb1 cb1) := HH.out.cell (hc 7 _ rfl)
        have HXk : Hd _ := ⟨hx⟩
        have hfz : ∀ j, wr.frozen? ⟨g, j, none⟩ = false := HH.out.frozen
        clear hx0 hx hc hmm e0 k0 k1 k2 k3 k4 k5 k6 k7
        go_wp2_with fail
        refine HC.out.mono ?_
        rintro e w2 ⟨v', rfl, hM2, hv'⟩
        have HH2 : Hd _ := ⟨HH.out.keep hM2 (fun _ _ _ _ _ _ h hk => h.keep hk)⟩
        have HM2 : Hd (Mod (fun b => b = g) w1 w2) := ⟨HM.out.trans hM2 (fun _ h => by cases h)⟩
        have HV : Hd (stmV (Nb w1.heap.size w2) w2 v' x) := ⟨hv'.keep (Nb.le HM.out.size)⟩
        have hO := HH2.out.old k x (Nat.le_refl _) HXk.out
        obtain ⟨u, hu1, hu2⟩ := hO
        obtain ⟨hu3, _⟩ := one_stm hu1
        have hall : ∀ j, j < 8 → ∃ z, w2.cell? ⟨g, k * 8 + j, none⟩ = some z := fun j hj => by
          obtain ⟨z, hz⟩ : ∃ z, u.cells[j]? = some z := ⟨_, Array.getElem?_eq_getElem (by omega)⟩
          exact ⟨z, HH2.out.cell (hu2 j z hz)⟩
        obtain ⟨z0, f0⟩ := hall 0 (by decide)
        obtain ⟨z1, f1⟩ := hall 1 (by decide)
        obtain ⟨z2, f2⟩ := hall 2 (by decide)
        obtain ⟨z3, f3⟩ := hall 3 (by decide)
        obtain ⟨z4, f4⟩ := hall 4 (by decide)
        obtain ⟨z5, f5⟩ := hall 5 (by decide)
        obtain ⟨z6, f6⟩ := hall 6 (by decide)
        obtain ⟨z7, f7⟩ := hall 7 (by decide)
        have hfz2 : ∀ j, w2.frozen? ⟨g, j, none⟩ = false := HH2.out.frozen
        have s1 : ∀ v0, (w2.setCell ⟨g, k * 8, none⟩ v0).cell? ⟨g, k * 8 + 1, none⟩ = some z1 := fun v0 => by
          repeat rw [World.cell?_setCell_other _ _ _ _ (by intro h; simp only [Addr.mk.injEq] at h; omega)]
          exact f1
        have s2 : ∀ v0 v1, ((w2.setCell ⟨g, k * 8, none⟩ v0).setCell ⟨g, k * 8 + 1, none⟩ v1).cell? ⟨g, k * 8 + 2, none⟩ = some z2 := fun v0 v1 => by
          repeat rw [World.cell?_setCell_other _ _ _ _ (by intro h; simp only [Addr.mk.injEq] at h; omega)]
          exact f2
        have s3 : ∀ v0 v1 v2, (((w2.setCell ⟨g, k * 8, none⟩ v0).setCell ⟨g, k * 8 + 1, none⟩ v1).setCell ⟨g, k * 8 + 2, none⟩ v2).cell? ⟨g, k * 8 + 3, none⟩ = some z3 := fun v0 v1 v2 => by
          repeat rw [World.cell?_setCell_other _ _ _ _ (by intro h; simp only [Addr.mk.injEq] at h; omega)]
          exact f3
        have s4 : ∀ v0 v1 v2 v3, ((((w2.setCell ⟨g, k * 8, none⟩ v0).setCell ⟨g, k * 8 + 1, none⟩ v1).setCell ⟨g, k * 8 + 2, none⟩ v2).setCell ⟨g, k * 8 + 3, none⟩ v3).cell? ⟨g, k * 8 + 4, none⟩ = some z4 := fun v0 v1 v2 v3 => by
          repeat rw [World.cell?_setCell_other _ _ _ _ (by intro h; simp only [Addr.mk.injEq] at h; omega)]
          exact f4
        have s5 : ∀ v0 v1 v2 v3 v4, (((((w2.setCell ⟨g, k * 8, none⟩ v0).setCell ⟨g, k * 8 + 1, none⟩ v1).setCell ⟨g, k * 8 + 2, none⟩ v2).setCell ⟨g, k * 8 + 3, none⟩ v3).setCell ⟨g, k * 8 + 4, none⟩ v4).cell? ⟨g, k * 8 + 5, none⟩ = some z5 := fun v0 v1 v2 v3 v4 => by
          repeat rw [World.cell?_setCell_other _ _ _ _ (by intro h; simp only [Addr.mk.injEq] at h; omega)]
          exact f5
        have s6 : ∀ v0 v1 v2 v3 v4 v5, ((((((w2.setCell ⟨g, k * 8, none⟩ v0).setCell ⟨g, k * 8 + 1, none⟩ v1).setCell ⟨g, k * 8 + 2, none⟩ v2).setCell ⟨g, k * 8 + 3, none⟩ v3).setCell ⟨g, k * 8 + 4, none⟩ v4).setCell ⟨g, k * 8 + 5, none⟩ v5).cell? ⟨g, k * 8 + 6, none⟩ = some z6 := fun v0 v1 v2 v3 v4 v5 => by
          repeat rw [World.cell?_setCell_other _ _ _ _ (by intro h; simp only [Addr.mk.injEq] at h; omega)]
          exact f6
        have s7 : ∀ v0 v1 v2 v3 v4 v5 v6, (((((((w2.setCell ⟨g, k * 8, none⟩ v0).setCell ⟨g, k * 8 + 1, none⟩ v1).setCell ⟨g, k * 8 + 2, none⟩ v2).setCell ⟨g, k * 8 + 3, none⟩ v3).setCell ⟨g, k * 8 + 4, none⟩ v4).setCell ⟨g, k * 8 + 5, none⟩ v5).setCell ⟨g, k * 8 + 6, none⟩ v6).cell? ⟨g, k * 8 + 7, none⟩ = some z7 := fun v0 v1 v2 v3 v4 v5 v6 => by
          repeat rw [World.cell?_setCell_other _ _ _ _ (by intro h; simp only [Addr.mk.injEq] at h; omega)]
          exact f7
        rw [Nat.add_zero] at f0
        obtain ⟨jk0, jk1, jk2, jk3, jk4, jk5, oa2, la2, ca2, ob2, lb2, cb2, rfl, jk6, jk7⟩ := hv'
        clear d0 d1 d2 d3 d4 d5 d6 d7 hfz hall hu1 hu2 hu3 hM2 HC HH HM jk0 jk1 jk2 jk3 jk4 jk5 jk6 jk7
        go_wp2_with fail
        go_roundg (gk - 1)
        case measure => omega
        case rel =>
          have hput := HH2.out.put (fun _ _ _ _ _ _ h hk => h.keep hk) (fun _ _ _ _ h => (one_stm h).1) HXk.out HV.out
          rw [show (Value.agg #[.int .i64 x.pos, .int .i64 x.kind, .string x.dest.loc, .slice oa2 la2 ca2, .int .i64 x.n, .string x.name, .string x.variant, .slice ob2 lb2 cb2]).cells = #[.int .i64 x.pos, .int .i64 x.kind, .string x.dest.loc, .slice oa2 la2 ca2, .int .i64 x.n, .string x.name, .string x.variant, .slice ob2 lb2 cb2] by simp [Value.cells]] at hput
          refine ⟨⟨HM2.out.trans (Mod.setCells (S := fun b => b = g) rfl [.int .i64 x.pos, .int .i64 x.kind, .string x.dest.loc, .slice oa2 la2 ca2, .int .i64 x.n, .string x.name, .string x.variant, .slice ob2 lb2 cb2] (k * 8) _) (fun _ h => Or.inl h)⟩, k + 1, _, by go_num, by omega, ⟨hput⟩⟩
      · obtain rfl : k = l.length := by omega
        go_wp2
        go_ret
        exact ⟨_, cap', rfl, HM1.out.trans HM.out (fun i hi => Or.inr (by subst hi; exact HG.out)), HH.out.row (fun _ _ _ _ _ _ h hk => h.keep hk) HM1.out.size HG.out hbig HL.out HX.out⟩
end
end Go.Proofs.YtpodeccpibnlbaaGreatDoor
namespace Go.Proofs.YtpodeccpibnlbaaGreatDoor
set_option linter.unusedVariables false
set_option linter.unusedSimpArgs false
open Go.RowKit
section
variable {S : Nat → Prop} {w0 wV : World} {oa : Option Addr} {len cap : Nat}

set_option maxRecDepth 100000 in
set_option maxHeartbeats 4000000 in
theorem each_blk {l : List Blk} (h : SR S w0 11 (blkV S wV) oa len cap l) (M : Nat) (hM : Fn M)
    (hf : ∀ v x, blkV S wV v x → x ∈ l → ∀ w', Mod (fun _ => False) w0 w' → Calls Tryz.prog M #[v] w' fun e w2 => ∃ v', e = .returned v' ∧ Mod (fun _ => False) w' w2 ∧ blkV (Nb w'.heap.size w2) w2 v' x)
    (w : World) (hw : Mod (fun _ => False) w0 w) :
    Calls Tryz.prog 75 #[.slice oa len cap, .func (.func M) #[] #[]] w fun e w' => ∃ oa' cap', e = .returned (.slice oa' l.length cap') ∧ Mod (fun _ => False) w w' ∧ SR (Nb w.heap.size w') w' 11 (blkV (Nb w.heap.size w') w') oa' l.length cap' l := by
  have HC0 : Hd _ := ⟨cln_blk h w hw⟩
  have HF : Hd _ := ⟨hf⟩
  have HW : Hd _ := ⟨hw⟩
  have hbig := h.hbig
  unfold Fn at hM
  clear h hf hw
  go_enter Tryz.func75, Tryz.ntmps75
  go_wp2_with fail
  refine HC0.out.mono ?_
  rintro e w1 ⟨oa', cap', rfl, hM1, hS, hO⟩
  have HM1 : Hd _ := ⟨hM1⟩
  have HS : Hd _ := ⟨hS⟩
  clear HC0 hM1 hS
  rcases hO with ⟨rfl, rfl, hc0⟩ | ⟨g, cur, rfl, hg, hb, hcs, hcc⟩
  · have HC00 : Hd _ := ⟨hc0⟩
    clear hc0
    go_wp2_with fail
    go_loopg [11] 0 (fun gk v11 wr => v11 = .int .i64 0 ∧ wr = w1)
    case atStart => exact ⟨rfl, rfl⟩
    case round =>
      obtain ⟨rfl, rfl⟩ := hrel
      go_wp2
      go_ret
      exact ⟨none, cap', rfl, HM1.out, ⟨rfl, by simp, HS.out.hle, HS.out.hmax, fun i x hi => by simp at hi⟩⟩
  · have HH0 : Hd (Half w1 g 11 64 cur l 0 w1.heap.size (blkV S wV) (fun S w => blkV S w)) := ⟨Half.start _ HS.out rfl hb hcs⟩
    have HG : Hd _ := ⟨hg⟩
    have HL : Hd _ := ⟨HS.out.hle⟩
    have HX : Hd _ := ⟨HS.out.hmax⟩
    clear hb hcs hcc hg HS
    go_wp2_with fail
    go_loopg [11] l.length (fun gk v11 wr => Hd (Mod (fun b => b = g) w1 wr) ∧ ∃ k : Nat, ∃ cur : Array Value, v11 = .int .i64 k ∧ k + gk = l.length ∧ Hd (Half wr g 11 64 cur l k w1.heap.size (blkV S wV) (fun S w => blkV S w)))
    case atStart => exact ⟨⟨Mod.refl _ _⟩, 0, _, rfl, by omega, HH0⟩
    case round =>
      clear HH0
      obtain ⟨HM, k, cur, rfl, hk, HH⟩ := hrel
      by_cases hlt : k < l.length
      · have hx0 : l[k]? = some l[k] := List.getElem?_eq_getElem (by omega)
        obtain ⟨x, hx⟩ : ∃ x, l[k]? = some x := ⟨_, hx0⟩
        obtain ⟨v, hv, hc⟩ := HH.out.old k x (Nat.le_refl _) hx
        have hmm : Mod (fun _ => False) w0 wr := by
          have h1 := HW.out.trans HM1.out (fun _ h => Or.inl h)
          have h2 := Nat.le_trans HW.out.size HG.out
          exact h1.trans HM.out (fun i hi => Or.inr (by subst hi; exact h2))
        have HC : Hd _ := ⟨HF.out v x hv (List.mem_of_getElem? hx) wr hmm⟩
        obtain ⟨k0, k1, oa1, la1, ca1, ob1, lb1, cb1, oc1, lc1, cc1, od1, ld1, cd1, oe1, le1, ce1, rfl, k2⟩ := hv
        have e0 : (Value.agg #[.int .i64 x.pos, .string x.name, .slice oa1 la1 ca1, .int .i64 x.term.pos, .int .i64 x.term.kind, .string x.term.dest.loc, .slice ob1 lb1 cb1, .string x.term.name, .slice oc1 lc1 cc1, .slice od1 ld1 cd1, .slice oe1 le1 ce1]).cells = #[.int .i64 x.pos, .string x.name, .slice oa1 la1 ca1, .int .i64 x.term.pos, .int .i64 x.term.kind, .string x.term.dest.loc, .slice ob1 lb1 cb1, .string x.term.name, .slice oc1 lc1 cc1, .slice od1 ld1 cd1, .slice oe1 le1 ce1] := by simp [Value.cells]
        rw [e0] at hc
        have d0 : wr.cell? ⟨g, k * 11, none⟩ = some (.int .i64 x.pos) := HH.out.cell (hc 0 _ rfl)
        have d1 : wr.cell? ⟨g, k * 11 + 1, none⟩ = some (.string x.name) := HH.out.cell (hc 1 _ rfl)
        have d2 : wr.cell? ⟨g, k * 11 + 2, none⟩ = some (.slice oa1 la1 ca1) := HH.out.cell (hc 2 _ rfl)
        have d3 : wr.cell? ⟨g, k * 11 + 3, none⟩ = some (.int .i64 x.term.pos) := HH.out.cell (hc 3 _ rfl)
        have d4 : wr.cell? ⟨g, k * 11 + 4, none⟩ = some (.int .i64 x.term.kind) := HH.out.cell (hc 4 _ rfl)
        have d5 : wr.cell? ⟨g, k * 11 + 5, none⟩ = some (.string x.term.dest.loc) := HH.out.cell (hc 5 _ rfl)
        have d6 : wr.cell? ⟨g, k * 11 + 6, none⟩ = some (.slice ob1 lb1 cb1) := HH.out.cell (hc 6 _ rfl)
        have d7 : wr.cell? ⟨g, k * 11 + 7, none⟩ = some (.string x.term.name) := HH.out.cell (hc 7 _ rfl)
        have d8 : wr.cell? ⟨g, k * 11 + 8, none⟩ = some (.slice oc1 lc1 cc1) := HH.out.cell (hc 8 _ rfl)
        have d9 : wr.cell? ⟨g, k * 11 + 9, none⟩ = some (.slice od1 ld1 cd1) := HH.out.cell (hc 9 _ rfl)
        have d10 : wr.cell? ⟨g, k * 11 + 10, none⟩ = some (.slice oe1 le1 ce1) := HH.out.cell (hc 10 _ rfl)
        have HXk : Hd _ := ⟨hx⟩
        have hfz : ∀ j, wr.frozen? ⟨g, j, none⟩ = false := HH.out.frozen
        clear hx0 hx hc hmm e0 k0 k1 k2
        go_wp2_with fail
        refine HC.out.mono ?_
        rintro e w2 ⟨v', rfl, hM2, hv'⟩
        have HH2 : Hd _ := ⟨HH.out.keep hM2 (fun _ _ _ _ _ _ h hk => h.keep hk)⟩
        have HM2 : Hd (Mod (fun b => b = g) w1 w2) := ⟨HM.out.trans hM2 (fun _ h => by cases h)⟩
        have HV : Hd (blkV (Nb w1.heap.size w2) w2 v' x) := ⟨hv'.keep (Nb.le HM.out.size)⟩
        have hO := HH2.out.old k x (Nat.le_refl _) HXk.out
        obtain ⟨u, hu1, hu2⟩ := hO
        obtain ⟨hu3, _⟩ := one_blk hu1
        have hall : ∀ j, j < 11 → ∃ z, w2.cell? ⟨g, k * 11 + j, none⟩ = some z := fun j hj => by
          obtain ⟨z, hz⟩ : ∃ z, u.cells[j]? = some z := ⟨_, Array.getElem?_eq_getElem (by omega)⟩
          exact ⟨z, HH2.out.cell (hu2 j z hz)⟩
        obtain ⟨z0, f0⟩ := hall 0 (by decide)
        obtain ⟨z1, f1⟩ := hall 1 (by decide)
        obtain ⟨z2, f2⟩ := hall 2 (by decide)
        obtain ⟨z3, f3⟩ := hall 3 (by decide)
        obtain ⟨z4, f4⟩ := hall 4 (by decide)
        obtain ⟨z5, f5⟩ := hall 5 (by decide)
        obtain ⟨z6, f6⟩ := hall 6 (by decide)
        obtain ⟨z7, f7⟩ := hall 7 (by decide)
        obtain ⟨z8, f8⟩ := hall 8 (by decide)
        obtain ⟨z9, f9⟩ := hall 9 (by decide)
        obtain ⟨z10, f10⟩ := hall 10 (by decide)
        have hfz2 : ∀ j, w2.frozen? ⟨g, j, none⟩ = false := HH2.out.frozen
        have s1 : ∀ v0, (w2.setCell ⟨g, k * 11, none⟩ v0).cell? ⟨g, k * 11 + 1, none⟩ = some z1 := fun v0 => by
          repeat rw [World.cell?_setCell_other _ _ _ _ (by intro h; simp only [Addr.mk.injEq] at h; omega)]
          exact f1
        have s2 : ∀ v0 v1, ((w2.setCell ⟨g, k * 11, none⟩ v0).setCell ⟨g, k * 11 + 1, none⟩ v1).cell? ⟨g, k * 11 + 2, none⟩ = some z2 := fun v0 v1 => by
          repeat rw [World.cell?_setCell_other _ _ _ _ (by intro h; simp only [Addr.mk.injEq] at h; omega)]
          exact f2
        have s3 : ∀ v0 v1 v2, (((w2.setCell ⟨g, k * 11, none⟩ v0).setCell ⟨g, k * 11 + 1, none⟩ v1).setCell ⟨g, k * 11 + 2, none⟩ v2).cell? ⟨g, k * 11 + 3, none⟩ = some z3 := fun v0 v1 v2 => by
          repeat rw [World.cell?_setCell_other _ _ _ _ (by intro h; simp only [Addr.mk.injEq] at h; omega)]
          exact f3
        have s4 : ∀ v0 v1 v2 v3, ((((w2.setCell ⟨g, k * 11, none⟩ v0).setCell ⟨g, k * 11 + 1, none⟩ v1).setCell ⟨g, k * 11 + 2, none⟩ v2).setCell ⟨g, k * 11 + 3, none⟩ v3).cell? ⟨g, k * 11 + 4, none⟩ = some z4 := fun v0 v1 v2 v3 => by
          repeat rw [World.cell?_setCell_other _ _ _ _ (by intro h; simp only [Addr.mk.injEq] at h; omega)]
          exact f4
        have s5 : ∀ v0 v1 v2 v3 v4, (((((w2.setCell ⟨g, k * 11, none⟩ v0).setCell ⟨g, k * 11 + 1, none⟩ v1).setCell ⟨g, k * 11 + 2, none⟩ v2).setCell ⟨g, k * 11 + 3, none⟩ v3).setCell ⟨g, k * 11 + 4, none⟩ v4).cell? ⟨g, k * 11 + 5, none⟩ = some z5 := fun v0 v1 v2 v3 v4 => by
          repeat rw [World.cell?_setCell_other _ _ _ _ (by intro h; simp only [Addr.mk.injEq] at h; omega)]
          exact f5
        have s6 : ∀ v0 v1 v2 v3 v4 v5, ((((((w2.setCell ⟨g, k * 11, none⟩ v0).setCell ⟨g, k * 11 + 1, none⟩ v1).setCell ⟨g, k * 11 + 2, none⟩ v2).setCell ⟨g, k * 11 + 3, none⟩ v3).setCell ⟨g, k * 11 + 4, none⟩ v4).setCell ⟨g, k * 11 + 5, none⟩ v5).cell? ⟨g, k * 11 + 6, none⟩ = some z6 := fun v0 v1 v2 v3 v4 v5 => by
          repeat rw [World.cell?_setCell_other _ _ _ _ (by intro h; simp only [Addr.mk.injEq] at h; omega)]
          exact f6
        have s7 : ∀ v0 v1 v2 v3 v4 v5 v6, (((((((w2.setCell ⟨g, k * 11, none⟩ v0).setCell ⟨g, k * 11 + 1, none⟩ v1).setCell ⟨g, k * 11 + 2, none⟩ v2).setCell ⟨g, k * 11 + 3, none⟩ v3).setCell ⟨g, k * 11 + 4, none⟩ v4).setCell ⟨g, k * 11 + 5, none⟩ v5).setCell ⟨g, k * 11 + 6, none⟩ v6).cell? ⟨g, k * 11 + 7, none⟩ = some z7 := fun v0 v1 v2 v3 v4 v5 v6 => by
          repeat rw [World.cell?_setCell_other _ _ _ _ (by intro h; simp only [Addr.mk.injEq] at h; omega)]
          exact f7
        have s8 : ∀ v0 v1 v2 v3 v4 v5 v6 v7, ((((((((w2.setCell ⟨g, k * 11, none⟩ v0).setCell ⟨g, k * 11 + 1, none⟩ v1).setCell ⟨g, k * 11 + 2, none⟩ v2).setCell ⟨g, k * 11 + 3, none⟩ v3).setCell ⟨g, k * 11 + 4, none⟩ v4).setCell ⟨g, k * 11 + 5, none⟩ v5).setCell ⟨g, k * 11 + 6, none⟩ v6).setCell ⟨g, k * 11 + 7, none⟩ v7).cell? ⟨g, k * 11 + 8, none⟩ = some z8 := fun v0 v1 v2 v3 v4 v5 v6 v7 => by
          repeat rw [World.cell?_setCell_other _ _ _ _ (by intro h; simp only [Addr.mk.injEq] at h; omega)]
          exact f8
        have s9 : ∀ v0 v1 v2 v3 v4 v5 v6 v7 v8, (((((((((w2.setCell ⟨g, k * 11, none⟩ v0).setCell ⟨g, k * 11 + 1, none⟩ v1).setCell ⟨g, k * 11 + 2, none⟩ v2).setCell ⟨g, k * 11 + 3, none⟩ v3).setCell ⟨g, k * 11 + 4, none⟩ v4).setCell ⟨g, k * 11 + 5, none⟩ v5).setCell ⟨g, k * 11 + 6, none⟩ v6).setCell ⟨g, k * 11 + 7, none⟩ v7).setCell ⟨g, k * 11 + 8, none⟩ v8).cell? ⟨g, k * 11 + 9, none⟩ = some z9 := fun v0 v1 v2 v3 v4 v5 v6 v7 v8 => by
          repeat rw [World.cell?_setCell_other _ _ _ _ (by intro h; simp only [Addr.mk.injEq] at h; omega)]
          exact f9
        have s10 : ∀ v0 v1 v2 v3 v4 v5 v6 v7 v8 v9, ((((((((((w2.setCell ⟨g, k * 11, none⟩ v0).setCell ⟨g, k * 11 + 1, none⟩ v1).setCell ⟨g, k * 11 + 2, none⟩ v2).setCell ⟨g, k * 11 + 3, none⟩ v3).setCell ⟨g, k * 11 + 4, none⟩ v4).setCell ⟨g, k * 11 + 5, none⟩ v5).setCell ⟨g, k * 11 + 6, none⟩ v6).setCell ⟨g, k * 11 + 7, none⟩ v7).setCell ⟨g, k * 11 + 8, none⟩ v8).setCell ⟨g, k * 11 + 9, none⟩ v9).cell? ⟨g, k * 11 + 10, none⟩ = some z10 := fun v0 v1 v2 v3 v4 v5 v6 v7 v8 v9 => by
          repeat rw [World.cell?_setCell_other _ _ _ _ (by intro h; simp only [Addr.mk.injEq] at h; omega)]
          exact f10
        rw [Nat.add_zero] at f0
        obtain ⟨jk0, jk1, oa2, la2, ca2, ob2, lb2, cb2, oc2, lc2, cc2, od2, ld2, cd2, oe2, le2, ce2, rfl, jk2⟩ := hv'
        clear d0 d1 d2 d3 d4 d5 d6 d7 d8 d9 d10 hfz hall hu1 hu2 hu3 hM2 HC HH HM jk0 jk1 jk2
        go_wp2_with fail
        go_roundg (gk - 1)
        case measure => omega
        case rel =>
          have hput := HH2.out.put (fun _ _ _ _ _ _ h hk => h.keep hk) (fun _ _ _ _ h => (one_blk h).1) HXk.out HV.out
          rw [show (Value.agg #[.int .i64 x.pos, .string x.name, .slice oa2 la2 ca2, .int .i64 x.term.pos, .int .i64 x.term.kind, .string x.term.dest.loc, .slice ob2 lb2 cb2, .string x.term.name, .slice oc2 lc2 cc2, .slice od2 ld2 cd2, .slice oe2 le2 ce2]).cells = #[.int .i64 x.pos, .string x.name, .slice oa2 la2 ca2, .int .i64 x.term.pos, .int .i64 x.term.kind, .string x.term.dest.loc, .slice ob2 lb2 cb2, .string x.term.name, .slice oc2 lc2 cc2, .slice od2 ld2 cd2, .slice oe2 le2 ce2] by simp [Value.cells]] at hput
          refine ⟨⟨HM2.out.trans (Mod.setCells (S := fun b => b = g) rfl [.int .i64 x.pos, .string x.name, .slice oa2 la2 ca2, .int .i64 x.term.pos, .int .i64 x.term.kind, .string x.term.dest.loc, .slice ob2 lb2 cb2, .string x.term.name, .slice oc2 lc2 cc2, .slice od2 ld2 cd2, .slice oe2 le2 ce2] (k * 11) _) (fun _ h => Or.inl h)⟩, k + 1, _, by go_num, by omega, ⟨hput⟩⟩
      · obtain rfl : k = l.length := by omega
        go_wp2
        go_ret
        exact ⟨_, cap', rfl, HM1.out.trans HM.out (fun i hi => Or.inr (by subst hi; exact HG.out)), HH.out.row (fun _ _ _ _ _ _ h hk => h.keep hk) HM1.out.size HG.out hbig HL.out HX.out⟩
end
end Go.Proofs.YtpodeccpibnlbaaGreatDoor
namespace Go.Proofs.YtpodeccpibnlbaaGreatDoor
set_option linter.unusedVariables false
set_option linter.unusedSimpArgs false
open Go.RowKit
section
variable {S : Nat → Prop} {w0 wV : World} {oa : Option Addr} {len cap : Nat}

set_option maxRecDepth 100000 in
set_option maxHeartbeats 4000000 in
theorem each_sct {l : List Sct} (h : SR S w0 5 (sctV S wV) oa len cap l) (M : Nat) (hM : Fn M)
    (hf : ∀ v x, sctV S wV v x → x ∈ l → ∀ w', Mod (fun _ => False) w0 w' → Calls Tryz.prog M #[v] w' fun e w2 => ∃ v', e = .returned v' ∧ Mod (fun _ => False) w' w2 ∧ sctV (Nb w'.heap.size w2) w2 v' x)
    (w : World) (hw : Mod (fun _ => False) w0 w) :
    Calls Tryz.prog 68 #[.slice oa len cap, .func (.func M) #[] #[]] w fun e w' => ∃ oa' cap', e = .returned (.slice oa' l.length cap') ∧ Mod (fun _ => False) w w' ∧ SR (Nb w.heap.size w') w' 5 (sctV (Nb w.heap.size w') w') oa' l.length cap' l ∧ Rw w.heap.size w' 58 5 oa' cap' ∧ SR (Nb w.heap.size w') w' 5 (sctV (fun b => Nb w.heap.size w' b ∧ oa' ≠ some ⟨b, 0, none⟩) w') oa' l.length cap' l := by
  have HC0 : Hd _ := ⟨cln_sct h w hw⟩
  have HF : Hd _ := ⟨hf⟩
  have HW : Hd _ := ⟨hw⟩
  have hbig := h.hbig
  unfold Fn at hM
  clear h hf hw
  go_enter Tryz.func68, Tryz.ntmps68
  go_wp2_with fail
  refine HC0.out.mono ?_
  rintro e w1 ⟨oa', cap', rfl, hM1, hS, hO⟩
  have HM1 : Hd _ := ⟨hM1⟩
  have HS : Hd _ := ⟨hS⟩
  clear HC0 hM1 hS
  rcases hO with ⟨rfl, rfl, hc0⟩ | ⟨g, cur, rfl, hg, hb, hcs, hcc⟩
  · have HC00 : Hd _ := ⟨hc0⟩
    clear hc0
    go_wp2_with fail
    go_loopg [11] 0 (fun gk v11 wr => v11 = .int .i64 0 ∧ wr = w1)
    case atStart => exact ⟨rfl, rfl⟩
    case round =>
      obtain ⟨rfl, rfl⟩ := hrel
      go_wp2
      go_ret
      exact ⟨none, cap', rfl, HM1.out, ⟨rfl, by simp, HS.out.hle, HS.out.hmax, fun i x hi => by simp at hi⟩, Or.inl ⟨rfl, HC00.out⟩, ⟨rfl, by simp, HS.out.hle, HS.out.hmax, fun i x hi => by simp at hi⟩⟩
  · have HH0 : Hd (Half w1 g 5 58 cur l 0 w1.heap.size (sctV S wV) (fun S w => sctV S w)) := ⟨Half.start _ HS.out rfl hb hcs⟩
    have HG : Hd _ := ⟨hg⟩
    have HL : Hd _ := ⟨HS.out.hle⟩
    have HX : Hd _ := ⟨HS.out.hmax⟩
    have HCC0 : Hd _ := ⟨hcc⟩
    clear hb hcs hcc hg HS
    go_wp2_with fail
    go_loopg [11] l.length (fun gk v11 wr => Hd (Mod (fun b => b = g) w1 wr) ∧ ∃ k : Nat, ∃ cur : Array Value, v11 = .int .i64 k ∧ k + gk = l.length ∧ Hd (cap' * 5 = cur.size) ∧ Hd (Half wr g 5 58 cur l k w1.heap.size (sctV S wV) (fun S w => sctV S w)))
    case atStart => exact ⟨⟨Mod.refl _ _⟩, 0, _, rfl, by omega, HCC0, HH0⟩
    case round =>
      clear HH0
      obtain ⟨HM, k, cur, rfl, hk, HCC, HH⟩ := hrel
      by_cases hlt : k < l.length
      · have hx0 : l[k]? = some l[k] := List.getElem?_eq_getElem (by omega)
        obtain ⟨x, hx⟩ : ∃ x, l[k]? = some x := ⟨_, hx0⟩
        obtain ⟨v, hv, hc⟩ := HH.out.old k x (Nat.le_refl _) hx
        have hmm : Mod (fun _ => False) w0 wr := by
          have h1 := HW.out.trans HM1.out (fun _ h => Or.inl h)
          have h2 := Nat.le_trans HW.out.size HG.out
          exact h1.trans HM.out (fun i hi => Or.inr (by subst hi; exact h2))
        have HC : Hd _ := ⟨HF.out v x hv (List.mem_of_getElem? hx) wr hmm⟩
        obtain ⟨k0, k1, oa1, la1, ca1, rfl, k2⟩ := hv
        have e0 : (Value.agg #[.int .i64 x.pos, .string x.name, .bool x.safe, .bool x.hook, .slice oa1 la1 ca1]).cells = #[.int .i64 x.pos, .string x.name, .bool x.safe, .bool x.hook, .slice oa1 la1 ca1] := by simp [Value.cells]
        rw [e0] at hc
        have d0 : wr.cell? ⟨g, k * 5, none⟩ = some (.int .i64 x.pos) := HH.out.cell (hc 0 _ rfl)
        have d1 : wr.cell? ⟨g, k * 5 + 1, none⟩ = some (.string x.name) := HH.out.cell (hc 1 _ rfl)
        have d2 : wr.cell? ⟨g, k * 5 + 2, none⟩ = some (.bool x.safe) := HH.out.cell (hc 2 _ rfl)
        have d3 : wr.cell? ⟨g, k * 5 + 3, none⟩ = some (.bool x.hook) := HH.out.cell (hc 3 _ rfl)
        have d4 : wr.cell? ⟨g, k * 5 + 4, none⟩ = some (.slice oa1 la1 ca1) := HH.out.cell (hc 4 _ rfl)
        have HXk : Hd _ := ⟨hx⟩
        have hfz : ∀ j, wr.frozen? ⟨g, j, none⟩ = false := HH.out.frozen
        clear hx0 hx hc hmm e0 k0 k1 k2
        go_wp2_with fail
        refine HC.out.mono ?_
        rintro e w2 ⟨v', rfl, hM2, hv'⟩
        have HH2 : Hd _ := ⟨HH.out.keep hM2 (fun _ _ _ _ _ _ h hk => h.keep hk)⟩
        have HM2 : Hd (Mod (fun b => b = g) w1 w2) := ⟨HM.out.trans hM2 (fun _ h => by cases h)⟩
        have HV : Hd (sctV (Nb w1.heap.size w2) w2 v' x) := ⟨hv'.keep (Nb.le HM.out.size)⟩
        have hO := HH2.out.old k x (Nat.le_refl _) HXk.out
        obtain ⟨u, hu1, hu2⟩ := hO
        obtain ⟨hu3, _⟩ := one_sct hu1
        have hall : ∀ j, j < 5 → ∃ z, w2.cell? ⟨g, k * 5 + j, none⟩ = some z := fun j hj => by
          obtain ⟨z, hz⟩ : ∃ z, u.cells[j]? = some z := ⟨_, Array.getElem?_eq_getElem (by omega)⟩
          exact ⟨z, HH2.out.cell (hu2 j z hz)⟩
        obtain ⟨z0, f0⟩ := hall 0 (by decide)
        obtain ⟨z1, f1⟩ := hall 1 (by decide)
        obtain ⟨z2, f2⟩ := hall 2 (by decide)
        obtain ⟨z3, f3⟩ := hall 3 (by decide)
        obtain ⟨z4, f4⟩ := hall 4 (by decide)
        have hfz2 : ∀ j, w2.frozen? ⟨g, j, none⟩ = false := HH2.out.frozen
        have s1 : ∀ v0, (w2.setCell ⟨g, k * 5, none⟩ v0).cell? ⟨g, k * 5 + 1, none⟩ = some z1 := fun v0 => by
          repeat rw [World.cell?_setCell_other _ _ _ _ (by intro h; simp only [Addr.mk.injEq] at h; omega)]
          exact f1
        have s2 : ∀ v0 v1, ((w2.setCell ⟨g, k * 5, none⟩ v0).setCell ⟨g, k * 5 + 1, none⟩ v1).cell? ⟨g, k * 5 + 2, none⟩ = some z2 := fun v0 v1 => by
          repeat rw [World.cell?_setCell_other _ _ _ _ (by intro h; simp only [Addr.mk.injEq] at h; omega)]
          exact f2
        have s3 : ∀ v0 v1 v2, (((w2.setCell ⟨g, k * 5, none⟩ v0).setCell ⟨g, k * 5 + 1, none⟩ v1).setCell ⟨g, k * 5 + 2, none⟩ v2).cell? ⟨g, k * 5 + 3, none⟩ = some z3 := fun v0 v1 v2 => by
          repeat rw [World.cell?_setCell_other _ _ _ _ (by intro h; simp only [Addr.mk.injEq] at h; omega)]
          exact f3
        have s4 : ∀ v0 v1 v2 v3, ((((w2.setCell ⟨g, k * 5, none⟩ v0).setCell ⟨g, k * 5 + 1, none⟩ v1).setCell ⟨g, k * 5 + 2, none⟩ v2).setCell ⟨g, k * 5 + 3, none⟩ v3).cell? ⟨g, k * 5 + 4, none⟩ = some z4 := fun v0 v1 v2 v3 => by
          repeat rw [World.cell?_setCell_other _ _ _ _ (by intro h; simp only [Addr.mk.injEq] at h; omega)]
          exact f4
        rw [Nat.add_zero] at f0
        obtain ⟨jk0, jk1, oa2, la2, ca2, rfl, jk2⟩ := hv'
        clear d0 d1 d2 d3 d4 hfz hall hu1 hu2 hu3 hM2 HC HH HM jk0 jk1 jk2
        go_wp2_with fail
        go_roundg (gk - 1)
        case measure => omega
        case rel =>
          have hput := HH2.out.put (fun _ _ _ _ _ _ h hk => h.keep hk) (fun _ _ _ _ h => (one_sct h).1) HXk.out HV.out
          rw [show (Value.agg #[.int .i64 x.pos, .string x.name, .bool x.safe, .bool x.hook, .slice oa2 la2 ca2]).cells = #[.int .i64 x.pos, .string x.name, .bool x.safe, .bool x.hook, .slice oa2 la2 ca2] by simp [Value.cells]] at hput
          refine ⟨⟨HM2.out.trans (Mod.setCells (S := fun b => b = g) rfl [.int .i64 x.pos, .string x.name, .bool x.safe, .bool x.hook, .slice oa2 la2 ca2] (k * 5) _) (fun _ h => Or.inl h)⟩, k + 1, _, by go_num, by omega, ⟨by rw [size_putA]; exact HCC.out⟩, ⟨hput⟩⟩
      · obtain rfl : k = l.length := by omega
        go_wp2
        go_ret
        exact ⟨_, cap', rfl, HM1.out.trans HM.out (fun i hi => Or.inr (by subst hi; exact HG.out)), HH.out.row (fun _ _ _ _ _ _ h hk => h.keep hk) HM1.out.size HG.out hbig HL.out HX.out, Or.inr ⟨g, cur, rfl, HG.out, HH.out.blk, HCC.out⟩, HH.out.row2 (fun _ _ _ _ _ _ h hk => h.keep hk) HM1.out.size HG.out hbig HL.out HX.out⟩

set_option maxRecDepth 100000 in
set_option maxHeartbeats 4000000 in
theorem each_enm {l : List Enm} (h : SR S w0 3 (enmV S wV) oa len cap l) (M : Nat) (hM : Fn M)
    (hf : ∀ v x, enmV S wV v x → x ∈ l → ∀ w', Mod (fun _ => False) w0 w' → Calls Tryz.prog M #[v] w' fun e w2 => ∃ v', e = .returned v' ∧ Mod (fun _ => False) w' w2 ∧ enmV (Nb w'.heap.size w2) w2 v' x)
    (w : World) (hw : Mod (fun _ => False) w0 w) :
    Calls Tryz.prog 71 #[.slice oa len cap, .func (.func M) #[] #[]] w fun e w' => ∃ oa' cap', e = .returned (.slice oa' l.length cap') ∧ Mod (fun _ => False) w w' ∧ SR (Nb w.heap.size w') w' 3 (enmV (Nb w.heap.size w') w') oa' l.length cap' l := by
  have HC0 : Hd _ := ⟨cln_enm h w hw⟩
  have HF : Hd _ := ⟨hf⟩
  have HW : Hd _ := ⟨hw⟩
  have hbig := h.hbig
  unfold Fn at hM
  clear h hf hw
  go_enter Tryz.func71, Tryz.ntmps71
  go_wp2_with fail
  refine HC0.out.mono ?_
  rintro e w1 ⟨oa', cap', rfl, hM1, hS, hO⟩
  have HM1 : Hd _ := ⟨hM1⟩
  have HS : Hd _ := ⟨hS⟩
  clear HC0 hM1 hS
  rcases hO with ⟨rfl, rfl, hc0⟩ | ⟨g, cur, rfl, hg, hb, hcs, hcc⟩
  · have HC00 : Hd _ := ⟨hc0⟩
    clear hc0
    go_wp2_with fail
    go_loopg [11] 0 (fun gk v11 wr => v11 = .int .i64 0 ∧ wr = w1)
    case atStart => exact ⟨rfl, rfl⟩
    case round =>
      obtain ⟨rfl, rfl⟩ := hrel
      go_wp2
      go_ret
      exact ⟨none, cap', rfl, HM1.out, ⟨rfl, by simp, HS.out.hle, HS.out.hmax, fun i x hi => by simp at hi⟩⟩
  · have HH0 : Hd (Half w1 g 3 70 cur l 0 w1.heap.size (enmV S wV) (fun S w => enmV S w)) := ⟨Half.start _ HS.out rfl hb hcs⟩
    have HG : Hd _ := ⟨hg⟩
    have HL : Hd _ := ⟨HS.out.hle⟩
    have HX : Hd _ := ⟨HS.out.hmax⟩
    clear hb hcs hcc hg HS
    go_wp2_with fail
    go_loopg [11] l.length (fun gk v11 wr => Hd (Mod (fun b => b = g) w1 wr) ∧ ∃ k : Nat, ∃ cur : Array Value, v11 = .int .i64 k ∧ k + gk = l.length ∧ Hd (Half wr g 3 70 cur l k w1.heap.size (enmV S wV) (fun S w => enmV S w)))
    case atStart => exact ⟨⟨Mod.refl _ _⟩, 0, _, rfl, by omega, HH0⟩
    case round =>
      clear HH0
      obtain ⟨HM, k, cur, rfl, hk, HH⟩ := hrel
      by_cases hlt : k < l.length
      · have hx0 : l[k]? = some l[k] := List.getElem?_eq_getElem (by omega)
        obtain ⟨x, hx⟩ : ∃ x, l[k]? = some x := ⟨_, hx0⟩
        obtain ⟨v, hv, hc⟩ := HH.out.old k x (Nat.le_refl _) hx
        have hmm : Mod (fun _ => False) w0 wr := by
          have h1 := HW.out.trans HM1.out (fun _ h => Or.inl h)
          have h2 := Nat.le_trans HW.out.size HG.out
          exact h1.trans HM.out (fun i hi => Or.inr (by subst hi; exact h2))
        have HC : Hd _ := ⟨HF.out v x hv (List.mem_of_getElem? hx) wr hmm⟩
        obtain ⟨k0, k1, oa1, la1, ca1, rfl, k2⟩ := hv
        have e0 : (Value.agg #[.int .i64 x.pos, .string x.name, .slice oa1 la1 ca1]).cells = #[.int .i64 x.pos, .string x.name, .slice oa1 la1 ca1] := by simp [Value.cells]
        rw [e0] at hc
        have d0 : wr.cell? ⟨g, k * 3, none⟩ = some (.int .i64 x.pos) := HH.out.cell (hc 0 _ rfl)
        have d1 : wr.cell? ⟨g, k * 3 + 1, none⟩ = some (.string x.name) := HH.out.cell (hc 1 _ rfl)
        have d2 : wr.cell? ⟨g, k * 3 + 2, none⟩ = some (.slice oa1 la1 ca1) := HH.out.cell (hc 2 _ rfl)
        have HXk : Hd _ := ⟨hx⟩
        have hfz : ∀ j, wr.frozen? ⟨g, j, none⟩ = false := HH.out.frozen
        clear hx0 hx hc hmm e0 k0 k1 k2
        go_wp2_with fail
        refine HC.out.mono ?_
        rintro e w2 ⟨v', rfl, hM2, hv'⟩
        have HH2 : Hd _ := ⟨HH.out.keep hM2 (fun _ _ _ _ _ _ h hk => h.keep hk)⟩
        have HM2 : Hd (Mod (fun b => b = g) w1 w2) := ⟨HM.out.trans hM2 (fun _ h => by cases h)⟩
        have HV : Hd (enmV (Nb w1.heap.size w2) w2 v' x) := ⟨hv'.keep (Nb.le HM.out.size)⟩
        have hO := HH2.out.old k x (Nat.le_refl _) HXk.out
        obtain ⟨u, hu1, hu2⟩ := hO
        obtain ⟨hu3, _⟩ := one_enm hu1
        have hall : ∀ j, j < 3 → ∃ z, w2.cell? ⟨g, k * 3 + j, none⟩ = some z := fun j hj => by
          obtain ⟨z, hz⟩ : ∃ z, u.cells[j]? = some z := ⟨_, Array.getElem?_eq_getElem (by omega)⟩
          exact ⟨z, HH2.out.cell (hu2 j z hz)⟩
        obtain ⟨z0, f0⟩ := hall 0 (by decide)
        obtain ⟨z1, f1⟩ := hall 1 (by decide)
        obtain ⟨z2, f2⟩ := hall 2 (by decide)
        have hfz2 : ∀ j, w2.frozen? ⟨g, j, none⟩ = false := HH2.out.frozen
        have s1 : ∀ v0, (w2.setCell ⟨g, k * 3, none⟩ v0).cell? ⟨g, k * 3 + 1, none⟩ = some z1 := fun v0 => by
          repeat rw [World.cell?_setCell_other _ _ _ _ (by intro h; simp only [Addr.mk.injEq] at h; omega)]
          exact f1
        have s2 : ∀ v0 v1, ((w2.setCell ⟨g, k * 3, none⟩ v0).setCell ⟨g, k * 3 + 1, none⟩ v1).cell? ⟨g, k * 3 + 2, none⟩ = some z2 := fun v0 v1 => by
          repeat rw [World.cell?_setCell_other _ _ _ _ (by intro h; simp only [Addr.mk.injEq] at h; omega)]
          exact f2
        rw [Nat.add_zero] at f0
        obtain ⟨jk0, jk1, oa2, la2, ca2, rfl, jk2⟩ := hv'
        clear d0 d1 d2 hfz hall hu1 hu2 hu3 hM2 HC HH HM jk0 jk1 jk2
        go_wp2_with fail
        go_roundg (gk - 1)
        case measure => omega
        case rel =>
          have hput := HH2.out.put (fun _ _ _ _ _ _ h hk => h.keep hk) (fun _ _ _ _ h => (one_enm h).1) HXk.out HV.out
          rw [show (Value.agg #[.int .i64 x.pos, .string x.name, .slice oa2 la2 ca2]).cells = #[.int .i64 x.pos, .string x.name, .slice oa2 la2 ca2] by simp [Value.cells]] at hput
          refine ⟨⟨HM2.out.trans (Mod.setCells (S := fun b => b = g) rfl [.int .i64 x.pos, .string x.name, .slice oa2 la2 ca2] (k * 3) _) (fun _ h => Or.inl h)⟩, k + 1, _, by go_num, by omega, ⟨hput⟩⟩
      · obtain rfl : k = l.length := by omega
        go_wp2
        go_ret
        exact ⟨_, cap', rfl, HM1.out.trans HM.out (fun i hi => Or.inr (by subst hi; exact HG.out)), HH.out.row (fun _ _ _ _ _ _ h hk => h.keep hk) HM1.out.size HG.out hbig HL.out HX.out⟩

set_option maxRecDepth 100000 in
set_option maxHeartbeats 4000000 in
theorem each_fun {l : List Fun} (h : SR S w0 6 (funV S wV) oa len cap l) (M : Nat) (hM : Fn M)
    (hf : ∀ v x, funV S wV v x → x ∈ l → ∀ w', Mod (fun _ => False) w0 w' → Calls Tryz.prog M #[v] w' fun e w2 => ∃ v', e = .returned v' ∧ Mod (fun _ => False) w' w2 ∧ funV (Nb w'.heap.size w2) w2 v' x)
    (w : World) (hw : Mod (fun _ => False) w0 w) :
    Calls Tryz.prog 73 #[.slice oa len cap, .func (.func M) #[] #[]] w fun e w' => ∃ oa' cap', e = .returned (.slice oa' l.length cap') ∧ Mod (fun _ => False) w w' ∧ SR (Nb w.heap.size w') w' 6 (funV (Nb w.heap.size w') w') oa' l.length cap' l ∧ Rw w.heap.size w' 45 6 oa' cap' ∧ SR (Nb w.heap.size w') w' 6 (funV (fun b => Nb w.heap.size w' b ∧ oa' ≠ some ⟨b, 0, none⟩) w') oa' l.length cap' l := by
  have HC0 : Hd _ := ⟨cln_fun h w hw⟩
  have HF : Hd _ := ⟨hf⟩
  have HW : Hd _ := ⟨hw⟩
  have hbig := h.hbig
  unfold Fn at hM
  clear h hf hw
  go_enter Tryz.func73, Tryz.ntmps73
  go_wp2_with fail
  refine HC0.out.mono ?_
  rintro e w1 ⟨oa', cap', rfl, hM1, hS, hO⟩
  have HM1 : Hd _ := ⟨hM1⟩
  have HS : Hd _ := ⟨hS⟩
  clear HC0 hM1 hS
  rcases hO with ⟨rfl, rfl, hc0⟩ | ⟨g, cur, rfl, hg, hb, hcs, hcc⟩
  · have HC00 : Hd _ := ⟨hc0⟩
    clear hc0
    go_wp2_with fail
    go_loopg [11] 0 (fun gk v11 wr => v11 = .int .i64 0 ∧ wr = w1)
    case atStart => exact ⟨rfl, rfl⟩
    case round =>
      obtain ⟨rfl, rfl⟩ := hrel
      go_wp2
      go_ret
      exact ⟨none, cap', rfl, HM1.out, ⟨rfl, by simp, HS.out.hle, HS.out.hmax, fun i x hi => by simp at hi⟩, Or.inl ⟨rfl, HC00.out⟩, ⟨rfl, by simp, HS.out.hle, HS.out.hmax, fun i x hi => by simp at hi⟩⟩
  · have HH0 : Hd (Half w1 g 6 45 cur l 0 w1.heap.size (funV S wV) (fun S w => funV S w)) := ⟨Half.start _ HS.out rfl hb hcs⟩
    have HG : Hd _ := ⟨hg⟩
    have HL : Hd _ := ⟨HS.out.hle⟩
    have HX : Hd _ := ⟨HS.out.hmax⟩
    have HCC0 : Hd _ := ⟨hcc⟩
    clear hb hcs hcc hg HS
    go_wp2_with fail
    go_loopg [11] l.length (fun gk v11 wr => Hd (Mod (fun b => b = g) w1 wr) ∧ ∃ k : Nat, ∃ cur : Array Value, v11 = .int .i64 k ∧ k + gk = l.length ∧ Hd (cap' * 6 = cur.size) ∧ Hd (Half wr g 6 45 cur l k w1.heap.size (funV S wV) (fun S w => funV S w)))
    case atStart => exact ⟨⟨Mod.refl _ _⟩, 0, _, rfl, by omega, HCC0, HH0⟩
    case round =>
      clear HH0
      obtain ⟨HM, k, cur, rfl, hk, HCC, HH⟩ := hrel
      by_cases hlt : k < l.length
      · have hx0 : l[k]? = some l[k] := List.getElem?_eq_getElem (by omega)
        obtain ⟨x, hx⟩ : ∃ x, l[k]? = some x := ⟨_, hx0⟩
        obtain ⟨v, hv, hc⟩ := HH.out.old k x (Nat.le_refl _) hx
        have hmm : Mod (fun _ => False) w0 wr := by
          have h1 := HW.out.trans HM1.out (fun _ h => Or.inl h)
          have h2 := Nat.le_trans HW.out.size HG.out
          exact h1.trans HM.out (fun i hi => Or.inr (by subst hi; exact h2))
        have HC : Hd _ := ⟨HF.out v x hv (List.mem_of_getElem? hx) wr hmm⟩
        obtain ⟨k0, k1, k2, oa1, la1, ca1, ob1, lb1, cb1, oc1, lc1, cc1, rfl, k3⟩ := hv
        have e0 : (Value.agg #[.int .i64 x.pos, .string x.name, .slice oa1 la1 ca1, .slice ob1 lb1 cb1, .string x.result, .slice oc1 lc1 cc1]).cells = #[.int .i64 x.pos, .string x.name, .slice oa1 la1 ca1, .slice ob1 lb1 cb1, .string x.result, .slice oc1 lc1 cc1] := by simp [Value.cells]
        rw [e0] at hc
        have d0 : wr.cell? ⟨g, k * 6, none⟩ = some (.int .i64 x.pos) := HH.out.cell (hc 0 _ rfl)
        have d1 : wr.cell? ⟨g, k * 6 + 1, none⟩ = some (.string x.name) := HH.out.cell (hc 1 _ rfl)
        have d2 : wr.cell? ⟨g, k * 6 + 2, none⟩ = some (.slice oa1 la1 ca1) := HH.out.cell (hc 2 _ rfl)
        have d3 : wr.cell? ⟨g, k * 6 + 3, none⟩ = some (.slice ob1 lb1 cb1) := HH.out.cell (hc 3 _ rfl)
        have d4 : wr.cell? ⟨g, k * 6 + 4, none⟩ = some (.string x.result) := HH.out.cell (hc 4 _ rfl)
        have d5 : wr.cell? ⟨g, k * 6 + 5, none⟩ = some (.slice oc1 lc1 cc1) := HH.out.cell (hc 5 _ rfl)
        have HXk : Hd _ := ⟨hx⟩
        have hfz : ∀ j, wr.frozen? ⟨g, j, none⟩ = false := HH.out.frozen
        clear hx0 hx hc hmm e0 k0 k1 k2 k3
        go_wp2_with fail
        refine HC.out.mono ?_
        rintro e w2 ⟨v', rfl, hM2, hv'⟩
        have HH2 : Hd _ := ⟨HH.out.keep hM2 (fun _ _ _ _ _ _ h hk => h.keep hk)⟩
        have HM2 : Hd (Mod (fun b => b = g) w1 w2) := ⟨HM.out.trans hM2 (fun _ h => by cases h)⟩
        have HV : Hd (funV (Nb w1.heap.size w2) w2 v' x) := ⟨hv'.keep (Nb.le HM.out.size)⟩
        have hO := HH2.out.old k x (Nat.le_refl _) HXk.out
        obtain ⟨u, hu1, hu2⟩ := hO
        obtain ⟨hu3, _⟩ := one_fun hu1
        have hall : ∀ j, j < 6 → ∃ z, w2.cell? ⟨g, k * 6 + j, none⟩ = some z := fun j hj => by
          obtain ⟨z, hz⟩ : ∃ z, u.cells[j]? = some z := ⟨_, Array.getElem?_eq_getElem (by omega)⟩
          exact ⟨z, HH2.out.cell (hu2 j z hz)⟩
        obtain ⟨z0, f0⟩ := hall 0 (by decide)
        obtain ⟨z1, f1⟩ := hall 1 (by decide)
        obtain ⟨z2, f2⟩ := hall 2 (by decide)
        obtain ⟨z3, f3⟩ := hall 3 (by decide)
        obtain ⟨z4, f4⟩ := hall 4 (by decide)
        obtain ⟨z5, f5⟩ := hall 5 (by decide)
        have hfz2 : ∀ j, w2.frozen? ⟨g, j, none⟩ = false := HH2.out.frozen
        have s1 : ∀ v0, (w2.setCell ⟨g, k * 6, none⟩ v0).cell? ⟨g, k * 6 + 1, none⟩ = some z1 := fun v0 => by
          repeat rw [World.cell?_setCell_other _ _ _ _ (by intro h; simp only [Addr.mk.injEq] at h; omega)]
          exact f1
        have s2 : ∀ v0 v1, ((w2.setCell ⟨g, k * 6, none⟩ v0).setCell ⟨g, k * 6 + 1, none⟩ v1).cell? ⟨g, k * 6 + 2, none⟩ = some z2 := fun v0 v1 => by
          repeat rw [World.cell?_setCell_other _ _ _ _ (by intro h; simp only [Addr.mk.injEq] at h; omega)]
          exact f2
        have s3 : ∀ v0 v1 v2, (((w2.setCell ⟨g, k * 6, none⟩ v0).setCell ⟨g, k * 6 + 1, none⟩ v1).setCell ⟨g, k * 6 + 2, none⟩ v2).cell? ⟨g, k * 6 + 3, none⟩ = some z3 := fun v0 v1 v2 => by
          repeat rw [World.cell?_setCell_other _ _ _ _ (by intro h; simp only [Addr.mk.injEq] at h; omega)]
          exact f3
        have s4 : ∀ v0 v1 v2 v3, ((((w2.setCell ⟨g, k * 6, none⟩ v0).setCell ⟨g, k * 6 + 1, none⟩ v1).setCell ⟨g, k * 6 + 2, none⟩ v2).setCell ⟨g, k * 6 + 3, none⟩ v3).cell? ⟨g, k * 6 + 4, none⟩ = some z4 := fun v0 v1 v2 v3 => by
          repeat rw [World.cell?_setCell_other _ _ _ _ (by intro h; simp only [Addr.mk.injEq] at h; omega)]
          exact f4
        have s5 : ∀ v0 v1 v2 v3 v4, (((((w2.setCell ⟨g, k * 6, none⟩ v0).setCell ⟨g, k * 6 + 1, none⟩ v1).setCell ⟨g, k * 6 + 2, none⟩ v2).setCell ⟨g, k * 6 + 3, none⟩ v3).setCell ⟨g, k * 6 + 4, none⟩ v4).cell? ⟨g, k * 6 + 5, none⟩ = some z5 := fun v0 v1 v2 v3 v4 => by
          repeat rw [World.cell?_setCell_other _ _ _ _ (by intro h; simp only [Addr.mk.injEq] at h; omega)]
          exact f5
        rw [Nat.add_zero] at f0
        obtain ⟨jk0, jk1, jk2, oa2, la2, ca2, ob2, lb2, cb2, oc2, lc2, cc2, rfl, jk3⟩ := hv'
        clear d0 d1 d2 d3 d4 d5 hfz hall hu1 hu2 hu3 hM2 HC HH HM jk0 jk1 jk2 jk3
        go_wp2_with fail
        go_roundg (gk - 1)
        case measure => omega
        case rel =>
          have hput := HH2.out.put (fun _ _ _ _ _ _ h hk => h.keep hk) (fun _ _ _ _ h => (one_fun h).1) HXk.out HV.out
          rw [show (Value.agg #[.int .i64 x.pos, .string x.name, .slice oa2 la2 ca2, .slice ob2 lb2 cb2, .string x.result, .slice oc2 lc2 cc2]).cells = #[.int .i64 x.pos, .string x.name, .slice oa2 la2 ca2, .slice ob2 lb2 cb2, .string x.result, .slice oc2 lc2 cc2] by simp [Value.cells]] at hput
          refine ⟨⟨HM2.out.trans (Mod.setCells (S := fun b => b = g) rfl [.int .i64 x.pos, .string x.name, .slice oa2 la2 ca2, .slice ob2 lb2 cb2, .string x.result, .slice oc2 lc2 cc2] (k * 6) _) (fun _ h => Or.inl h)⟩, k + 1, _, by go_num, by omega, ⟨by rw [size_putA]; exact HCC.out⟩, ⟨hput⟩⟩
      · obtain rfl : k = l.length := by omega
        go_wp2
        go_ret
        exact ⟨_, cap', rfl, HM1.out.trans HM.out (fun i hi => Or.inr (by subst hi; exact HG.out)), HH.out.row (fun _ _ _ _ _ _ h hk => h.keep hk) HM1.out.size HG.out hbig HL.out HX.out, Or.inr ⟨g, cur, rfl, HG.out, HH.out.blk, HCC.out⟩, HH.out.row2 (fun _ _ _ _ _ _ h hk => h.keep hk) HM1.out.size HG.out hbig HL.out HX.out⟩
end
end Go.Proofs.YtpodeccpibnlbaaGreatDoor
