/- The law TreeCounts, walked. -/
import Derived.Test.YtpodeccpibnlbaaGreatDoorN27
import Derived.Test.YtpodeccpibnlbaaGreatDoorG41
import Derived.Test.YtpodeccpibnlbaaGreatDoorG42
import Derived.Test.YtpodeccpibnlbaaGreatDoorG08
import Derived.Test.YtpodeccpibnlbaaGreatDoorG16
import Derived.Test.YtpodeccpibnlbaaGreatDoorG24
import Derived.BigQuiet
import Derived.BigRegion
namespace Go.Proofs.YtpodeccpibnlbaaGreatDoor
set_option linter.unusedVariables false
set_option linter.unusedSimpArgs false
open Go.RowKit
theorem calls_n {N : Nat} {args args' : Array Value} {w : World} {Q : Ending → World → Prop} (h : Calls Tryz.prog N args' w Q) (he : args' = args) : Calls Tryz.prog N args w Q := he ▸ h
theorem cell_n {w : World} {k j : Nat} {cs : Array Value} {t : TypeId} {fr : Nat × Nat} {v : Value} (h : w.heap[k]? = some (.cells cs t fr)) (hv : cs[j]? = some v) : w.cell? ⟨k, j, none⟩ = some v := by simp [World.cell?, h, hv]
theorem alive_n (W : World) (hT : Tab W) {m : Int} (hm : W.cell? ⟨0, 0, none⟩ = some (.int .i64 m)) : Calls Tryz.prog 9 #[] W fun e w' => e = .returned (.bool true) ∧ Mod (fun _ => False) W w' := callsIn_wide.1 (alive_in W hT hm)
set_option maxRecDepth 100000 in
set_option maxHeartbeats 16000000 in
theorem law_counts {W : World} (hT : Tab W) {m : Int} (hm : W.cell? ⟨0, 0, none⟩ = some (.int .i64 m)) {p : Prg} {v : Value} (hv : prgV (fun _ => True) W v p) (hb : (keyL p).length ≤ 1099511627776) (hU : ∀ f ∈ p.funcs, (usesI f).length ≤ 1048576) (tm : Nat) (htm : tm < 256) :
    Calls Tryz.prog 8 #[v, .int .u8 (tm : Int)] W fun e w' => e = .returned (.bool true) ∧ Mod (fun _ => False) W w' := by
  have HV : Hd _ := ⟨hv⟩
  have HT : Hd _ := ⟨hT⟩
  obtain ⟨oa, la, ca, ob, lb, cb, oc, lc, cc, rfl, _, _, _⟩ := hv
  have HAL : Hd (∀ A : Obj, _) := ⟨fun A => alive_n (W.alloc A) (hT.mod (Mod.alloc _ _ _)) ((Mod.alloc (fun _ => False) W A).cell' hm)⟩
  have HG : Hd (∀ w, Mod (fun _ => False) W w → _) := ⟨fun w hw => Great_c HV.out hb hU w hw⟩
  have HR1 : Hd (∀ w, Mod (fun _ => False) W w → _) := ⟨fun w hw => Right_ans hT HV.out w hw⟩
  have HCL : Hd (∀ w, Mod (fun _ => False) W w → _) := ⟨fun w hw => Clone_own HV.out w hw⟩
  obtain ⟨r, hr⟩ : ∃ r, rightI p = r := ⟨_, rfl⟩
  rw [hr] at HR1
  have HRI : Hd _ := ⟨hr⟩
  clear hr hT hm hb hU
  go_enter Tryz.func8, Tryz.ntmps8
  go_wp2_with fail
  refine (HAL.out _).mono ?_
  rintro e w1 ⟨rfl, hM⟩
  have HM1 : Hd (Mod (fun _ => False) W w1) := ⟨(Mod.alloc _ _ _).trans hM (fun _ h => Or.inl h)⟩
  have HB : Hd (∀ w', Mod (fun _ => False) w1 w' → w'.cell? ⟨W.heap.size, 0, none⟩ = some (.slice oa la ca) ∧ w'.cell? ⟨W.heap.size, 1, none⟩ = some (.slice ob lb cb) ∧ w'.cell? ⟨W.heap.size, 2, none⟩ = some (.slice oc lc cc)) := ⟨fun w' h => by
    have q := ((hM.trans h (fun _ h => Or.inl h)).block _ (lt1_0 _ _) (fun h => h)).trans (heap_new' _ _)
    exact ⟨cell_n q rfl, cell_n q rfl, cell_n q rfl⟩⟩
  clear hM HAL
  obtain ⟨x0, x1, x2⟩ := HB.out w1 (Mod.refl _ _)
  go_wp2_with fail
  refine (HG.out w1 HM1.out).mono ?_
  rintro e w2 ⟨bg, rfl, hM⟩
  have HM2 : Hd (Mod (fun _ => False) w1 w2) := ⟨hM⟩
  clear hM x0 x1 x2 HG
  cases bg with
  | true =>
    go_wp2
    go_ret
    exact ⟨rfl, HM1.out.trans HM2.out (fun _ h => Or.inl h)⟩
  | false =>
    obtain ⟨x0, x1, x2⟩ := HB.out w2 HM2.out
    go_wp2_with fail
    refine (HR1.out w2 (HM1.out.trans HM2.out (fun _ h => Or.inl h))).mono ?_
    rintro e w3 ⟨rfl, hM⟩
    have HM3 : Hd (Mod (fun _ => False) w1 w3) := ⟨HM2.out.trans hM (fun _ h => Or.inl h)⟩
    clear hM x0 x1 x2 HR1
    cases r with
    | false =>
      go_wp2
      go_ret
      exact ⟨rfl, HM1.out.trans HM3.out (fun _ h => Or.inl h)⟩
    | true =>
      obtain ⟨n, hn⟩ : ∃ n, tm % 70 = n := ⟨_, rfl⟩
      have hn70 : n < 70 := by omega
      have htm1 : ((tm : Int)).tmod 70 = (n : Int) := by
        rw [Int.tmod_eq_emod_of_nonneg (by omega)]
        omega
      have b0 : ∀ A B C D : Obj, ((((w3.alloc A).alloc B).alloc C).alloc D).cell? ⟨W.heap.size, 0, none⟩ = some (.slice oa la ca) := fun A B C D => (HB.out _ (HM3.out.trans ((((Mod.alloc _ _ _).trans (Mod.alloc _ _ _) (fun _ h => Or.inl h)).trans (Mod.alloc _ _ _) (fun _ h => Or.inl h)).trans (Mod.alloc _ _ _) (fun _ h => Or.inl h)) (fun _ h => Or.inl h))).1
      have b1 : ∀ A B C D : Obj, ((((w3.alloc A).alloc B).alloc C).alloc D).cell? ⟨W.heap.size, 1, none⟩ = some (.slice ob lb cb) := fun A B C D => (HB.out _ (HM3.out.trans ((((Mod.alloc _ _ _).trans (Mod.alloc _ _ _) (fun _ h => Or.inl h)).trans (Mod.alloc _ _ _) (fun _ h => Or.inl h)).trans (Mod.alloc _ _ _) (fun _ h => Or.inl h)) (fun _ h => Or.inl h))).2.1
      have b2 : ∀ A B C D : Obj, ((((w3.alloc A).alloc B).alloc C).alloc D).cell? ⟨W.heap.size, 2, none⟩ = some (.slice oc lc cc) := fun A B C D => (HB.out _ (HM3.out.trans ((((Mod.alloc _ _ _).trans (Mod.alloc _ _ _) (fun _ h => Or.inl h)).trans (Mod.alloc _ _ _) (fun _ h => Or.inl h)).trans (Mod.alloc _ _ _) (fun _ h => Or.inl h)) (fun _ h => Or.inl h))).2.2
      go_wp2_with fail
      obtain ⟨w4, hw4⟩ : ∃ x_, ((((w3.alloc (.cells #[.int .i64 0, .string { data := #[97] }, .bool false, .bool false, .slice none 0 0] 58)).alloc (.cells #[.string { data := #[98] }] 9)).alloc (.cells #[.int .i64 0, .string { data := #[98] }, .slice none 0 0, .int .i64 0, .int .i64 1, .string { data := #[] }, .slice none 0 0, .string { data := #[] }, .slice none 0 0, .slice (some ⟨w3.heap.size + 1, 0, none⟩) 1 1, .slice none 0 0] 64)).alloc (.cells #[.int .i64 0, .string { data := #[102] }, .slice none 0 0, .slice none 0 0, .string { data := #[105, 110, 116] }, .slice (some ⟨w3.heap.size + 1 + 1, 0, none⟩) 1 1] 45)) = x_ := ⟨_, rfl⟩
      have H0 : Hd (w4.heap[w3.heap.size]? = some (.cells #[.int .i64 0, .string { data := #[97] }, .bool false, .bool false, .slice none 0 0] 58 (0, 0))) := ⟨by rw [← hw4]; exact (Below.heap_alloc _ _ _ (by simp; omega)).trans (heap3_0 _ _ _ _)⟩
      have H1 : Hd (w4.heap[w3.heap.size + 1]? = some (.cells #[.string { data := #[98] }] 9 (0, 0))) := ⟨by rw [← hw4]; exact (Below.heap_alloc _ _ _ (by simp)).trans (heap3_1 _ _ _ _)⟩
      have H2 : Hd (w4.heap[w3.heap.size + 1 + 1]? = some (.cells #[.int .i64 0, .string { data := #[98] }, .slice none 0 0, .int .i64 0, .int .i64 1, .string { data := #[] }, .slice none 0 0, .string { data := #[] }, .slice none 0 0, .slice (some ⟨w3.heap.size + 1, 0, none⟩) 1 1, .slice none 0 0] 64 (0, 0))) := ⟨by rw [← hw4]; exact (Below.heap_alloc _ _ _ (by simp)).trans (heap3_2 _ _ _ _)⟩
      have H3 : Hd (w4.heap[w3.heap.size + 1 + 1 + 1]? = some (.cells #[.int .i64 0, .string { data := #[102] }, .slice none 0 0, .slice none 0 0, .string { data := #[105, 110, 116] }, .slice (some ⟨w3.heap.size + 1 + 1, 0, none⟩) 1 1] 45 (0, 0))) := ⟨by
        have h := heap_new' (((w3.alloc (.cells #[.int .i64 0, .string { data := #[97] }, .bool false, .bool false, .slice none 0 0] 58)).alloc (.cells #[.string { data := #[98] }] 9)).alloc (.cells #[.int .i64 0, .string { data := #[98] }, .slice none 0 0, .int .i64 0, .int .i64 1, .string { data := #[] }, .slice none 0 0, .string { data := #[] }, .slice none 0 0, .slice (some ⟨w3.heap.size + 1, 0, none⟩) 1 1, .slice none 0 0] 64)) (.cells #[.int .i64 0, .string { data := #[102] }, .slice none 0 0, .slice none 0 0, .string { data := #[105, 110, 116] }, .slice (some ⟨w3.heap.size + 1 + 1, 0, none⟩) 1 1] 45)
        rw [World.size_alloc, World.size_alloc, World.size_alloc, hw4] at h
        exact h⟩
      have HSZ : Hd (w4.heap.size = w3.heap.size + 1 + 1 + 1 + 1) := ⟨by rw [← hw4]; simp⟩
      have HM4 : Hd (Mod (fun _ => False) w3 w4) := ⟨by rw [← hw4]; exact (((Mod.alloc _ _ _).trans (Mod.alloc _ _ _) (fun _ h => Or.inl h)).trans (Mod.alloc _ _ _) (fun _ h => Or.inl h)).trans (Mod.alloc _ _ _) (fun _ h => Or.inl h)⟩
      obtain ⟨bs, hbs⟩ : ∃ x_, w3.heap.size = x_ := ⟨_, rfl⟩
      obtain ⟨bt, hbt⟩ : ∃ x_, bs + 1 = x_ := ⟨_, rfl⟩
      obtain ⟨bfb, hbb⟩ : ∃ x_, bt + 1 = x_ := ⟨_, rfl⟩
      obtain ⟨bf, hbf⟩ : ∃ x_, bfb + 1 = x_ := ⟨_, rfl⟩
      rw [hbs, hbt] at hw4
      rw [hbs] at H0
      rw [hbs, hbt] at H1
      rw [hbs, hbt, hbb] at H2
      rw [hbs, hbt, hbb, hbf] at H3 HSZ
      rw [hbb] at hw4
      rw [hbs, hbt, hbb, hbf, hw4]
      have HN4 : Hd (bs < bt ∧ bt < bfb ∧ bfb < bf ∧ bf < w4.heap.size) := ⟨by have := HSZ.out; omega⟩
      clear hw4 hbs hbt hbb hbf b0 b1 b2 HSZ
      refine (HCL.out w4 (HM1.out.trans (HM3.out.trans HM4.out (fun _ h => Or.inl h)) (fun _ h => Or.inl h))).mono ?_
      rintro e w5 ⟨ox, cx, oy, cy, oz, cz, rfl, hM, _, hrx, _, hX, _⟩
      have HM5 : Hd (Mod (fun _ => False) w4 w5) := ⟨hM⟩
      have HRX : Hd _ := ⟨hrx⟩
      have HX : Hd _ := ⟨hX⟩
      have HM15 : Hd (Mod (fun _ => False) w1 w5) := ⟨HM3.out.trans (HM4.out.trans hM (fun _ h => Or.inl h)) (fun _ h => Or.inl h)⟩
      have b0 : ∀ O, (w5.alloc O).cell? ⟨W.heap.size, 0, none⟩ = some (.slice oa la ca) := fun O => Lib.cell?_alloc_some O (HB.out w5 HM15.out).1
      have b1 : ∀ O, (w5.alloc O).cell? ⟨W.heap.size, 1, none⟩ = some (.slice ob lb cb) := fun O => Lib.cell?_alloc_some O (HB.out w5 HM15.out).2.1
      have b2 : ∀ O, (w5.alloc O).cell? ⟨W.heap.size, 2, none⟩ = some (.slice oc lc cc) := fun O => Lib.cell?_alloc_some O (HB.out w5 HM15.out).2.2
      clear hM hrx hX
      go_wp2_with fail
      refine (HCL.out _ (HM1.out.trans (HM15.out.trans (Mod.alloc _ _ _) (fun _ h => Or.inl h)) (fun _ h => Or.inl h))).mono ?_
      rintro e w7 ⟨ox2, cx2, oy2, cy2, oz2, cz2, rfl, hM, _, _, hrf, _, hY⟩
      have HM7 : Hd (Mod (fun _ => False) (w5.alloc (.cells #[.slice ox p.structs.length cx, .slice oy p.enums.length cy, .slice oz p.funcs.length cz] 36)) w7) := ⟨hM⟩
      have HRF : Hd _ := ⟨hrf⟩
      have HY : Hd _ := ⟨hY⟩
      have HM57 : Hd (Mod (fun _ => False) w5 w7) := ⟨(Mod.alloc _ _ _).trans hM (fun _ h => Or.inl h)⟩
      have HM47 : Hd (Mod (fun _ => False) w4 w7) := ⟨HM5.out.trans HM57.out (fun _ h => Or.inl h)⟩
      have hf3 := (HM47.out.block bf HN4.out.2.2.2 (fun h => h)).trans H3.out
      have f0 : ∀ O, (w7.alloc O).cell? ⟨bf, 0, none⟩ = some (.int .i64 0) := fun O => Lib.cell?_alloc_some O (cell_n hf3 rfl)
      have f1 : ∀ O, (w7.alloc O).cell? ⟨bf, 1, none⟩ = some (.string { data := #[102] }) := fun O => Lib.cell?_alloc_some O (cell_n hf3 rfl)
      have f2 : ∀ O, (w7.alloc O).cell? ⟨bf, 2, none⟩ = some (.slice none 0 0) := fun O => Lib.cell?_alloc_some O (cell_n hf3 rfl)
      have f3 : ∀ O, (w7.alloc O).cell? ⟨bf, 3, none⟩ = some (.slice none 0 0) := fun O => Lib.cell?_alloc_some O (cell_n hf3 rfl)
      have f4 : ∀ O, (w7.alloc O).cell? ⟨bf, 4, none⟩ = some (.string { data := #[105, 110, 116] }) := fun O => Lib.cell?_alloc_some O (cell_n hf3 rfl)
      have f5 : ∀ O, (w7.alloc O).cell? ⟨bf, 5, none⟩ = some (.slice (some ⟨bfb, 0, none⟩) 1 1) := fun O => Lib.cell?_alloc_some O (cell_n hf3 rfl)
      clear hM hrf hY b0 b1 b2 hf3
      go_wp2_with fail
      clear f0 f1 f2 f3 f4 f5
      have HL57 : Hd (w5.heap.size + 1 ≤ w7.heap.size) := ⟨by have := HM7.out.size; simpa using this⟩
      obtain ⟨W9, hW9⟩ : ∃ x_, (w7.alloc (.cells #[.slice ox2 p.structs.length cx2, .slice oy2 p.enums.length cy2, .slice oz2 p.funcs.length cz2] 36)).alloc (.cells #[.int .i64 0, .string { data := #[102] }, .slice none 0 0, .slice none 0 0, .string { data := #[105, 110, 116] }, .slice (some ⟨bfb, 0, none⟩) 1 1] 45) = x_ := ⟨_, rfl⟩
      have HM79 : Hd (Mod (fun _ => False) w7 W9) := ⟨by rw [← hW9]; exact (Mod.alloc _ _ _).trans (Mod.alloc _ _ _) (fun _ h => Or.inl h)⟩
      have HS9 : Hd (W9.heap.size = w7.heap.size + 2) := ⟨by rw [← hW9]; simp⟩
      have HBY : Hd (W9.heap[w7.heap.size]? = some (.cells #[.slice ox2 p.structs.length cx2, .slice oy2 p.enums.length cy2, .slice oz2 p.funcs.length cz2] 36 (0, 0))) := ⟨by rw [← hW9]; exact heap2_0 _ _ _⟩
      have HBG : Hd (W9.heap[w7.heap.size + 1]? = some (.cells #[.int .i64 0, .string { data := #[102] }, .slice none 0 0, .slice none 0 0, .string { data := #[105, 110, 116] }, .slice (some ⟨bfb, 0, none⟩) 1 1] 45 (0, 0))) := ⟨by rw [← hW9]; exact heap2_1 _ _ _⟩
      have HBX : Hd (W9.heap[w5.heap.size]? = some (.cells #[.slice ox p.structs.length cx, .slice oy p.enums.length cy, .slice oz p.funcs.length cz] 36 (0, 0))) := ⟨((HM7.out.trans HM79.out (fun _ h => Or.inl h)).block _ (lt1_0 _ _) (fun h => h)).trans (heap_new' _ _)⟩
      have HM59 : Hd (Mod (fun _ => False) w5 W9) := ⟨HM57.out.trans HM79.out (fun _ h => Or.inl h)⟩
      have HM49 : Hd (Mod (fun _ => False) w4 W9) := ⟨HM5.out.trans HM59.out (fun _ h => Or.inl h)⟩
      have HMW9 : Hd (Mod (fun _ => False) W W9) := ⟨HM1.out.trans (HM15.out.trans HM59.out (fun _ h => Or.inl h)) (fun _ h => Or.inl h)⟩
      obtain ⟨ogx0, hox, hrx, hrb⟩ := OwnS.of_sr HX.out.1 HRX.out (fun v x h => (one_sct h).1)
      obtain ⟨ogy0, hoy, hry, hryb⟩ := OwnS.of_sr (HY.out.2.2.keep (V' := funV (fun b => (Nb (w5.alloc (.cells #[.slice ox p.structs.length cx, .slice oy p.enums.length cy, .slice oz p.funcs.length cz] 36)).heap.size w7 b ∧ oz2 ≠ some ⟨b, 0, none⟩) ∨ b = bfb ∨ b = bt) w7) (Kp.refl _ _) (fun v x h => h.keep (fun b hb hl => ⟨Or.inl hb, hl, rfl⟩))) HRF.out (fun v x h => (one_fun h).1)
      have HXL : Hd (∀ g, ogx0 = some g → w4.heap.size ≤ g ∧ g < w5.heap.size) := ⟨fun g hg => ⟨hrb g hg, hrx.lt hg⟩⟩
      have HYL : Hd (∀ g, ogy0 = some g → w5.heap.size + 1 ≤ g ∧ g < w7.heap.size) := ⟨fun g hg => ⟨by have := hryb g hg; simpa using this, hry.lt hg⟩⟩
      obtain ⟨C, hC⟩ : ∃ C : Cfg, C = { W9 := W9, bx := w5.heap.size, by' := w7.heap.size, bg := w7.heap.size + 1, bfb := bfb, ogx0 := ogx0, ogy0 := ogy0, VX := sctV (fun b => Nb w4.heap.size w5 b ∧ ox ≠ some ⟨b, 0, none⟩) w5, VY := funV (fun b => (Nb (w5.alloc (.cells #[.slice ox p.structs.length cx, .slice oy p.enums.length cy, .slice oz p.funcs.length cz] 36)).heap.size w7 b ∧ oz2 ≠ some ⟨b, 0, none⟩) ∨ b = bfb ∨ b = bt) w7, VG := blkV (fun b => b = bt) W9, X0 := p.structs, Y0 := p.funcs, xe := .slice oy p.enums.length cy, xf := .slice oz p.funcs.length cz, ys := .slice ox2 p.structs.length cx2, ye := .slice oy2 p.enums.length cy2 } := ⟨_, rfl⟩
      have HOK : Hd C.Ok := ⟨by
        have h1 := HL57.out
        have h2 := HS9.out
        subst hC
        exact ⟨by dsimp only; omega, by dsimp only; omega, by dsimp only; omega, by dsimp only; omega, fun e => by dsimp only at e; have := HYL.out _ e; omega⟩⟩
      have HKB : Hd (∀ k, k < w4.heap.size → ¬ C.T k) := ⟨fun k hk hT => by
        have h1 := HL57.out
        have h3 := HM5.out.size
        subst hC
        rcases hT with h | h | h | h | h
        · dsimp only at h; omega
        · dsimp only at h; omega
        · dsimp only at h; omega
        · have := HXL.out k h.symm; omega
        · have := HYL.out k h.symm; omega⟩
      have HKX : Hd (∀ b, ox ≠ some ⟨b, 0, none⟩ → b < w5.heap.size → ¬ C.T b) := ⟨fun b hb hl hT => by
        have h1 := HL57.out
        subst hC
        rcases hT with h | h | h | h | h
        · dsimp only at h; omega
        · dsimp only at h; omega
        · dsimp only at h; omega
        · dsimp only at h; exact hb (by rw [hox, ← h]; rfl)
        · have := HYL.out b h.symm; omega⟩
      have HKY : Hd (∀ b, oz2 ≠ some ⟨b, 0, none⟩ → w5.heap.size + 1 ≤ b → b < w7.heap.size → ¬ C.T b) := ⟨fun b hb hg hl hT => by
        subst hC
        rcases hT with h | h | h | h | h
        · dsimp only at h; omega
        · dsimp only at h; omega
        · dsimp only at h; omega
        · have := HXL.out b h.symm; omega
        · dsimp only at h; exact hb (by rw [hoy, ← h]; rfl)⟩
      have HCW : Hd (C.W9 = W9 ∧ C.bx = w5.heap.size ∧ C.by' = w7.heap.size ∧ C.bg = w7.heap.size + 1 ∧ C.X0 = p.structs ∧ C.Y0 = p.funcs ∧ C.xe = .slice oy p.enums.length cy ∧ C.xf = .slice oz p.funcs.length cz ∧ C.ys = .slice ox2 p.structs.length cx2 ∧ C.ye = .slice oy2 p.enums.length cy2) := ⟨by subst hC; exact ⟨rfl, rfl, rfl, rfl, rfl, rfl, rfl, rfl, rfl, rfl⟩⟩
      have HVX : Hd (C.VX = sctV (fun b => Nb w4.heap.size w5 b ∧ ox ≠ some ⟨b, 0, none⟩) w5) := ⟨by subst hC; rfl⟩
      have HVY : Hd (C.VY = funV (fun b => (Nb (w5.alloc (.cells #[.slice ox p.structs.length cx, .slice oy p.enums.length cy, .slice oz p.funcs.length cz] 36)).heap.size w7 b ∧ oz2 ≠ some ⟨b, 0, none⟩) ∨ b = bfb ∨ b = bt) w7) := ⟨by subst hC; rfl⟩
      have HVG : Hd (C.VG = blkV (fun b => b = bt) W9) := ⟨by subst hC; rfl⟩
      have H19 := (HM49.out.block bt (by have := HN4.out; omega) (fun h => h)).trans H1.out
      have HGK : Hd (blkV (fun b => b = bt) W9 (.agg #[.int .i64 0, .string { data := #[98] }, .slice none 0 0, .int .i64 0, .int .i64 1, .string { data := #[] }, .slice none 0 0, .string { data := #[] }, .slice none 0 0, .slice (some ⟨bt, 0, none⟩) 1 1, .slice none 0 0]) bK) := ⟨⟨by unfold I64; decide, by unfold Sm; decide, none, 0, 0, none, 0, 0, none, 0, 0, some ⟨bt, 0, none⟩, 1, 1, none, 0, 0, rfl, SR.nil_,
        by unfold I64; decide, by unfold I64; decide, by unfold Sm; decide, by unfold Sm; decide, none, 0, 0, none, 0, 0, some ⟨bt, 0, none⟩, 1, 1, none, 0, 0, rfl, SR.nil_, SR.nil_, SR.one_ H19 rfl (.string { data := #[98] }) (by simp [Value.cells]) ⟨rfl, by unfold Sm; decide⟩, SR.nil_⟩⟩
      have HST0 : Hd (St C W9 0 0 0 ogx0 cx ogy0 cz2 (some bfb) 1) := ⟨by
        have e1 : sv ogx0 (p.structs ++ List.replicate 0 sA).length cx = .slice ox p.structs.length cx := by rw [hox]; simp [sv]
        have e2 : sv ogy0 (p.funcs ++ List.replicate 0 fF).length cz2 = .slice oz2 p.funcs.length cz2 := by rw [hoy]; simp [sv]
        have hb := (HM49.out.block bfb (by have := HN4.out; omega) (fun h => h)).trans H2.out
        have hg := HGK.out
        subst hC
        refine ⟨Mod.refl _ _, ?_, ?_, HBG.out, ?_, ?_, ?_, Or.inl rfl, Or.inl rfl, Or.inl ⟨rfl, rfl⟩⟩
        · dsimp only; rw [e1]; exact HBX.out
        · dsimp only; rw [e2]; exact HBY.out
        · have := hrx.keep (w' := W9) (fun g hg => HM59.out.block g (HXL.out g hg).2 (fun h => h))
          simpa using this
        · have := hry.keep (w' := W9) (fun g hg => HM79.out.block g (HYL.out g hg).2 (fun h => h))
          simpa using this
        · refine ⟨[.int .i64 0, .string { data := #[98] }, .slice none 0 0, .int .i64 0, .int .i64 1, .string { data := #[] }, .slice none 0 0, .string { data := #[] }, .slice none 0 0, .slice (some ⟨bt, 0, none⟩) 1 1, .slice none 0 0], ⟨rfl, by decide, by unfold maxLen; decide, fun h => (by cases h), fun g hg => by
            obtain rfl := Option.some.inj hg
            exact ⟨_, hb, by simp, rfl⟩⟩, fun i x hx => ?_⟩
          have hi := (List.getElem?_eq_some_iff.1 hx).1
          simp at hi
          subst hi
          simp at hx
          subst hx
          exact ⟨_, hg, fun k y hy => by simpa [Value.cells] using hy⟩⟩
      rw [hW9]
      have HOX : Hd _ := ⟨hox⟩
      have HOY : Hd _ := ⟨hoy⟩
      clear hrx hry hrb hryb H19 hW9 hC hox hoy
      have HRL : Hd _ := ⟨right_len HRI.out⟩
      have hl1 := HRL.out.1
      have hl3 := HRL.out.2.2.1
      obtain ⟨i58, hi58, hz58, hs58, hb58⟩ := info_parts info_58
      obtain ⟨i45, hi45, hz45, hs45, hb45⟩ := info_parts info_45
      obtain ⟨i64, hi64, hz64, hs64, hb64⟩ := info_parts info_64
      have HI58 : Hd (Tryz.prog.info? 58 = some i58 ∧ _ ∧ _ ∧ _) := ⟨hi58, hz58, hs58, hb58⟩
      have HI45 : Hd (Tryz.prog.info? 45 = some i45 ∧ _ ∧ _ ∧ _) := ⟨hi45, hz45, hs45, hb45⟩
      have HI64 : Hd (Tryz.prog.info? 64 = some i64 ∧ _ ∧ _ ∧ _) := ⟨hi64, hz64, hs64, hb64⟩
      clear hi58 hz58 hs58 hb58 hi45 hz45 hs45 hb45 hi64 hz64 hs64 hb64
      have HVS : Hd (C.VX (.agg #[.int .i64 0, .string { data := #[97] }, .bool false, .bool false, .slice none 0 0]) sA) := ⟨by rw [HVX.out]; exact ⟨by unfold I64; decide, by unfold Sm; decide, none, 0, 0, rfl, SR.nil_⟩⟩
      have HFR : Hd (w4.heap[bfb]? = some (.cells #[.int .i64 0, .string { data := #[98] }, .slice none 0 0, .int .i64 0, .int .i64 1, .string { data := #[] }, .slice none 0 0, .string { data := #[] }, .slice none 0 0, .slice (some ⟨bt, 0, none⟩) 1 1, .slice none 0 0] 64 (0, 0)) ∧ w4.heap[bf]? = some (.cells #[.int .i64 0, .string { data := #[102] }, .slice none 0 0, .slice none 0 0, .string { data := #[105, 110, 116] }, .slice (some ⟨bfb, 0, none⟩) 1 1] 45 (0, 0))) := ⟨H2.out, H3.out⟩
      have HVF : Hd (C.VY (.agg #[.int .i64 0, .string { data := #[102] }, .slice none 0 0, .slice none 0 0, .string { data := #[105, 110, 116] }, .slice (some ⟨bfb, 0, none⟩) 1 1]) fF) := ⟨by
        rw [HVY.out]
        have q1 := ((HM5.out.trans HM57.out (fun _ h => Or.inl h)).block bt (by have := HN4.out; omega) (fun h => h)).trans H1.out
        have q2 := ((HM5.out.trans HM57.out (fun _ h => Or.inl h)).block bfb (by have := HN4.out; omega) (fun h => h)).trans H2.out
        exact ⟨by unfold I64; decide, by unfold Sm; decide, by unfold Sm; decide, none, 0, 0, none, 0, 0, some ⟨bfb, 0, none⟩, 1, 1, rfl, SR.nil_, SR.nil_, SR.one_ q2 (Or.inr (Or.inl rfl)) (.agg #[.int .i64 0, .string { data := #[98] }, .slice none 0 0, .int .i64 0, .int .i64 1, .string { data := #[] }, .slice none 0 0, .string { data := #[] }, .slice none 0 0, .slice (some ⟨bt, 0, none⟩) 1 1, .slice none 0 0]) (by simp [Value.cells]) ⟨by unfold I64; decide, by unfold Sm; decide, none, 0, 0, none, 0, 0, none, 0, 0, some ⟨bt, 0, none⟩, 1, 1, none, 0, 0, rfl, SR.nil_,
        by unfold I64; decide, by unfold I64; decide, by unfold Sm; decide, by unfold Sm; decide, none, 0, 0, none, 0, 0, some ⟨bt, 0, none⟩, 1, 1, none, 0, 0, rfl, SR.nil_, SR.nil_, SR.one_ q1 (Or.inr (Or.inr rfl)) (.string { data := #[98] }) (by simp [Value.cells]) ⟨rfl, by unfold Sm; decide⟩, SR.nil_⟩⟩⟩
      have HVK : Hd (C.VG (.agg #[.int .i64 0, .string { data := #[98] }, .slice none 0 0, .int .i64 0, .int .i64 1, .string { data := #[] }, .slice none 0 0, .string { data := #[] }, .slice none 0 0, .slice (some ⟨bt, 0, none⟩) 1 1, .slice none 0 0]) bK) := ⟨by rw [HVG.out]; exact HGK.out⟩
      have HOLD : Hd (∀ (k : Nat) (o : Obj), k < w4.heap.size → w4.heap[k]? = some o → ∀ w ix iy ig ogx cx ogy cy ogg cg, St C w ix iy ig ogx cx ogy cy ogg cg → w.heap[k]? = some o) := ⟨fun k o hk ho w ix iy ig ogx cx ogy cy ogg cg h => by
        have h1 := h.old (k := k) (by rw [HCW.out.1]; exact Nat.lt_of_lt_of_le hk HM49.out.size) (HKB.out k hk)
        rw [HCW.out.1] at h1
        exact h1.trans ((HM49.out.block k hk (fun h => h)).trans ho)⟩
      go_loopg [11] n (fun gk v11 wr => ∃ (i : Nat) (ogx : Option Nat) (cxi : Nat) (ogy : Option Nat) (cyi : Nat) (ogg : Option Nat) (cgi : Nat), v11 = .int .i64 i ∧ i + gk = n ∧ Hd (St C wr i i i ogx cxi ogy cyi ogg cgi))
      case atStart => exact ⟨0, _, _, _, _, _, _, rfl, by omega, HST0⟩
      case round =>
        obtain ⟨i, ogx, cxi, ogy, cyi, ogg, cgi, rfl, hk, HST⟩ := hrel
        by_cases hlt : i < n
        · have q0 := HST.out.box
          rw [HCW.out.2.1, HCW.out.2.2.2.2.1] at q0
          obtain ⟨L, hL⟩ : ∃ L, (p.structs ++ List.replicate i sA).length = L := ⟨_, rfl⟩
          have HL : Hd _ := ⟨hL⟩
          rw [hL] at q0
          have hLb : L ≤ 16 + 70 := by rw [← hL, List.length_append, List.length_replicate]; omega
          clear hL
          have x0 : wr.cell? ⟨w5.heap.size, 0, none⟩ = some (sv ogx L cxi) := cell_n q0 rfl
          have qs := HOLD.out bs _ (by have := HN4.out; omega) H0.out _ _ _ _ _ _ _ _ _ _ HST.out
          have s0 : wr.cell? ⟨bs, 0, none⟩ = some (.int .i64 0) := cell_n qs rfl
          have s1 : wr.cell? ⟨bs, 1, none⟩ = some (.string { data := #[97] }) := cell_n qs rfl
          have s2 : wr.cell? ⟨bs, 2, none⟩ = some (.bool false) := cell_n qs rfl
          have s3 : wr.cell? ⟨bs, 3, none⟩ = some (.bool false) := cell_n qs rfl
          have s4 : wr.cell? ⟨bs, 4, none⟩ = some (.slice none 0 0) := cell_n qs rfl
          have HQ0 : Hd _ := ⟨q0⟩
          clear q0 qs
          go_wp2_with (at_builtin; refine wpList_append_o _ rfl _ _ 32 rfl 58 i58 (.agg #[.int .i64 0, .string { data := #[] }, .bool false, .bool false, .slice none 0 0]) 5 56 Tryz.underlying32 HI58.out.1 HI58.out.2.1 HI58.out.2.2.1 HI58.out.2.2.2 ?z1 ?z2 ogx cxi (p.structs ++ List.replicate i sA) L HL.out rfl ?hO wr.heap.size 1 rfl sA (.agg #[.int .i64 0, .string { data := #[97] }, .bool false, .bool false, .slice none 0 0]) HVS.out ?hcs ?hce ?h1 ?m63 ?bt ?_)
          case z1 => simp [Value.cells]
          case z2 => decide
          case hO =>
            have h := HST.out.rx
            rw [HCW.out.2.2.2.2.1] at h
            exact h.keep (fun g hg => Below.heap_alloc _ _ _ (h.lt hg))
          case hcs => simp [Value.cells]
          case hce => intro j y hy; rw [World.cell?_alloc_new]; simpa [Value.cells] using hy
          case h1 => simp [Value.cells, Value.oneCell']
          case m63 => unfold maxLen; omega
          case bt => omega
          intro g1 c1 w2 hO hd
          have HAP : Hd (Ap wr (.cells #[.int .i64 0, .string { data := #[97] }, .bool false, .bool false, .slice none 0 0] 58) w2 ogx g1 L cxi) := ⟨hd⟩
          have hSX := St.x (o := .cells #[.int .i64 0, .string { data := #[97] }, .bool false, .bool false, .slice none 0 0] 58) HOK.out HST.out (by rw [HCW.out.2.2.2.2.1]; first | exact hO | (rw [List.append_assoc]; exact hO)) (by rw [HCW.out.2.2.2.2.1, HL.out]; exact hd)
          rw [HCW.out.2.1, HCW.out.2.2.2.2.1, HL.out] at hSX
          have HSX : Hd _ := ⟨hSX⟩
          have hkk := (HAP.out.keep2 (Array.getElem?_eq_some_iff.1 HQ0.out).1 (by
            have h := HST.out.rx.ne HST.out.box (by decide)
            rw [HCW.out.2.1] at h
            exact h)).trans HQ0.out
          have k0 : w2.cell? ⟨w5.heap.size, 0, none⟩ = some (sv ogx L cxi) := cell_n hkk rfl
          have kz : ∀ j, w2.frozen? ⟨w5.heap.size, j, none⟩ = false := fun j => by simp [World.frozen?, hkk]
          clear hO hd hSX hkk x0 s0 s1 s2 s3 s4
          have hsv : sv (some g1) (L + 1) c1 = .slice (some ⟨g1, 0, none⟩) (L + 1) c1 := rfl
          rw [hsv] at HSX ⊢
          clear hsv
          repeat (go_not_at_region 15; first | go_values | go_skip | go_guarded | go_step | go_upon | go_back)
          obtain ⟨wx, hwx⟩ : ∃ x_, w2.setCell ⟨w5.heap.size, 0, none⟩ (.slice (some ⟨g1, 0, none⟩) (L + 1) c1) = x_ := ⟨_, rfl⟩
          rw [hwx] at HSX ⊢
          clear k0 kz hwx HAP HQ0 HST
          have q0 := HSX.out.boy
          rw [HCW.out.2.2.1, HCW.out.2.2.2.2.2.1] at q0
          obtain ⟨M, hM⟩ : ∃ L, (p.funcs ++ List.replicate i fF).length = L := ⟨_, rfl⟩
          have HM : Hd _ := ⟨hM⟩
          rw [hM] at q0
          have hMb : M ≤ 16 + 70 := by rw [← hM, List.length_append, List.length_replicate]; omega
          clear hM
          have x0 : wx.cell? ⟨w7.heap.size, 2, none⟩ = some (sv ogy M cyi) := cell_n q0 rfl
          have qs := HOLD.out bf _ (by have := HN4.out; omega) HFR.out.2 _ _ _ _ _ _ _ _ _ _ HSX.out
          have s0 : wx.cell? ⟨bf, 0, none⟩ = some (.int .i64 0) := cell_n qs rfl
          have s1 : wx.cell? ⟨bf, 1, none⟩ = some (.string { data := #[102] }) := cell_n qs rfl
          have s2 : wx.cell? ⟨bf, 2, none⟩ = some (.slice none 0 0) := cell_n qs rfl
          have s3 : wx.cell? ⟨bf, 3, none⟩ = some (.slice none 0 0) := cell_n qs rfl
          have s4 : wx.cell? ⟨bf, 4, none⟩ = some (.string { data := #[105, 110, 116] }) := cell_n qs rfl
          have s5 : wx.cell? ⟨bf, 5, none⟩ = some (.slice (some ⟨bfb, 0, none⟩) 1 1) := cell_n qs rfl
          have HQ0 : Hd _ := ⟨q0⟩
          clear q0 qs
          go_wp2_with (at_builtin; refine wpList_append_o _ rfl _ _ 34 rfl 45 i45 (.agg #[.int .i64 0, .string { data := #[] }, .slice none 0 0, .slice none 0 0, .string { data := #[] }, .slice none 0 0]) 6 112 Tryz.underlying34 HI45.out.1 HI45.out.2.1 HI45.out.2.2.1 HI45.out.2.2.2 ?z1 ?z2 ogy cyi (p.funcs ++ List.replicate i fF) M HM.out rfl ?hO wx.heap.size 1 rfl fF (.agg #[.int .i64 0, .string { data := #[102] }, .slice none 0 0, .slice none 0 0, .string { data := #[105, 110, 116] }, .slice (some ⟨bfb, 0, none⟩) 1 1]) HVF.out ?hcs ?hce ?h1 ?m63 ?bt ?_)
          case z1 => simp [Value.cells]
          case z2 => decide
          case hO =>
            have h := HSX.out.ry
            rw [HCW.out.2.2.2.2.2.1] at h
            exact h.keep (fun g hg => Below.heap_alloc _ _ _ (h.lt hg))
          case hcs => simp [Value.cells]
          case hce => intro j y hy; rw [World.cell?_alloc_new]; simpa [Value.cells] using hy
          case h1 => simp [Value.cells, Value.oneCell']
          case m63 => unfold maxLen; omega
          case bt => omega
          intro g2 c2 w8 hO hd
          have HAP : Hd (Ap wx (.cells #[.int .i64 0, .string { data := #[102] }, .slice none 0 0, .slice none 0 0, .string { data := #[105, 110, 116] }, .slice (some ⟨bfb, 0, none⟩) 1 1] 45) w8 ogy g2 M cyi) := ⟨hd⟩
          have hSY := St.y (o := .cells #[.int .i64 0, .string { data := #[102] }, .slice none 0 0, .slice none 0 0, .string { data := #[105, 110, 116] }, .slice (some ⟨bfb, 0, none⟩) 1 1] 45) HOK.out HSX.out (by rw [HCW.out.2.2.2.2.2.1]; first | exact hO | (rw [List.append_assoc]; exact hO)) (by rw [HCW.out.2.2.2.2.2.1, HM.out]; exact hd)
          rw [HCW.out.2.2.1, HCW.out.2.2.2.2.2.1, HM.out] at hSY
          have HSY : Hd _ := ⟨hSY⟩
          have hkk := (HAP.out.keep2 (Array.getElem?_eq_some_iff.1 HQ0.out).1 (by
            have h := HSX.out.ry.ne HSX.out.boy (by decide)
            rw [HCW.out.2.2.1] at h
            exact h)).trans HQ0.out
          have k0 : w8.cell? ⟨w7.heap.size, 2, none⟩ = some (sv ogy M cyi) := cell_n hkk rfl
          have kz : ∀ j, w8.frozen? ⟨w7.heap.size, j, none⟩ = false := fun j => by simp [World.frozen?, hkk]
          clear hO hd hSY hkk x0 s0 s1 s2 s3 s4 s5
          have hsv : sv (some g2) (M + 1) c2 = .slice (some ⟨g2, 0, none⟩) (M + 1) c2 := rfl
          rw [hsv] at HSY ⊢
          clear hsv
          repeat (go_not_at_region 16; first | go_values | go_skip | go_guarded | go_step | go_upon | go_back)
          obtain ⟨wy, hwy⟩ : ∃ x_, w8.setCell ⟨w7.heap.size, 2, none⟩ (.slice (some ⟨g2, 0, none⟩) (M + 1) c2) = x_ := ⟨_, rfl⟩
          rw [hwy] at HSY ⊢
          clear k0 kz hwy HAP HQ0 HSX
          have q0 := HSY.out.bog
          rw [HCW.out.2.2.2.1] at q0
          obtain ⟨N, hN⟩ : ∃ L, (List.replicate (1 + i) bK).length = L := ⟨_, rfl⟩
          have HN : Hd _ := ⟨hN⟩
          rw [hN] at q0
          have hNb : N ≤ 71 := by rw [← hN, List.length_replicate]; omega
          clear hN
          have HQ0 : Hd _ := ⟨q0⟩
          have qf := HOLD.out bf _ (by have := HN4.out; omega) HFR.out.2 _ _ _ _ _ _ _ _ _ _ HSY.out
          have qb := HOLD.out bfb _ (by have := HN4.out; omega) HFR.out.1 _ _ _ _ _ _ _ _ _ _ HSY.out
          have x0 : wy.cell? ⟨w7.heap.size + 1, 5, none⟩ = some (sv ogg N cgi) := cell_n q0 rfl
          have x1 : ∀ O, (wy.alloc O).cell? ⟨w7.heap.size + 1, 5, none⟩ = some (sv ogg N cgi) := fun O => Lib.cell?_alloc_some O x0
          have s5 : wy.cell? ⟨bf, 5, none⟩ = some (.slice (some ⟨bfb, 0, none⟩) 1 1) := cell_n qf rfl
          have d0 : wy.cell? ⟨bfb, 0, none⟩ = some (.int .i64 0) := cell_n qb rfl
          have d1 : wy.cell? ⟨bfb, 1, none⟩ = some (.string { data := #[98] }) := cell_n qb rfl
          have d2 : wy.cell? ⟨bfb, 2, none⟩ = some (.slice none 0 0) := cell_n qb rfl
          have d3 : wy.cell? ⟨bfb, 3, none⟩ = some (.int .i64 0) := cell_n qb rfl
          have d4 : wy.cell? ⟨bfb, 4, none⟩ = some (.int .i64 1) := cell_n qb rfl
          have d5 : wy.cell? ⟨bfb, 5, none⟩ = some (.string { data := #[] }) := cell_n qb rfl
          have d6 : wy.cell? ⟨bfb, 6, none⟩ = some (.slice none 0 0) := cell_n qb rfl
          have d7 : wy.cell? ⟨bfb, 7, none⟩ = some (.string { data := #[] }) := cell_n qb rfl
          have d8 : wy.cell? ⟨bfb, 8, none⟩ = some (.slice none 0 0) := cell_n qb rfl
          have d9 : wy.cell? ⟨bfb, 9, none⟩ = some (.slice (some ⟨bt, 0, none⟩) 1 1) := cell_n qb rfl
          have d10 : wy.cell? ⟨bfb, 10, none⟩ = some (.slice none 0 0) := cell_n qb rfl
          clear q0 qf qb
          go_region_law (first
            | (refine step_append_o rfl (.tmp 54) (.tmp 59) 43 rfl 64 i64 (.agg #[.int .i64 0, .string { data := #[] }, .slice none 0 0, .int .i64 0, .int .i64 0, .string { data := #[] }, .slice none 0 0, .string { data := #[] }, .slice none 0 0, .slice none 0 0, .slice none 0 0]) 11 192 Tryz.underlying43 HI64.out.1 HI64.out.2.1 HI64.out.2.2.1 HI64.out.2.2.2 ?z1 ?z2 ogg cgi (List.replicate (1 + i) bK) N HN.out ?hsv ?hO wy.heap.size 1 ?hxv bK (.agg #[.int .i64 0, .string { data := #[98] }, .slice none 0 0, .int .i64 0, .int .i64 1, .string { data := #[] }, .slice none 0 0, .string { data := #[] }, .slice none 0 0, .slice (some ⟨bt, 0, none⟩) 1 1, .slice none 0 0]) HVK.out ?hcs ?hce ?h1 ?m63 ?bt ?_
               case z1 => simp [Value.cells]
               case z2 => decide
               case hsv => simp [Act.eval, Act.put]
               case hxv => simp [Act.eval, Act.put, heap_drew]
               case hO => exact HSY.out.rg.keep (fun g hg => by first | exact Below.heap_alloc wy.drew _ _ (HSY.out.rg.lt hg) | exact Below.heap_alloc wy _ _ (HSY.out.rg.lt hg))
               case hcs => simp [Value.cells]
               case hce => intro j y hy; exact (World.cell?_alloc_new _ _ _ _).trans (by simpa [Value.cells] using hy)
               case h1 => simp [Value.cells, Value.oneCell']
               case m63 => unfold maxLen; omega
               case bt => omega
               intro g3 c3 wz hO hd
               have HAP : Hd (Ap wy.drew (.cells #[.int .i64 0, .string { data := #[98] }, .slice none 0 0, .int .i64 0, .int .i64 1, .string { data := #[] }, .slice none 0 0, .string { data := #[] }, .slice none 0 0, .slice (some ⟨bt, 0, none⟩) 1 1, .slice none 0 0] 64) wz ogg g3 N cgi) := ⟨by
                 rcases hd with h | ⟨h1, h2⟩
                 · exact Or.inl h
                 · exact Or.inr ⟨by show wy.heap.size + 1 ≤ g3; simpa using h1, h2⟩⟩
               have HOG : Hd _ := ⟨hO⟩
               have hkk := (HAP.out.keep2 (Array.getElem?_eq_some_iff.1 HQ0.out).1 (by
                 have h := HSY.out.rg.ne HSY.out.bog (by decide)
                 rw [HCW.out.2.2.2.1] at h
                 exact h)).trans HQ0.out
               have k0 : wz.cell? ⟨w7.heap.size + 1, 5, none⟩ = some (sv ogg N cgi) := cell_n hkk rfl
               have kz : ∀ j, wz.frozen? ⟨w7.heap.size + 1, j, none⟩ = false := fun j => by simp [World.frozen?, hkk]
               have hsv : sv (some g3) (N + 1) c3 = .slice (some ⟨g3, 0, none⟩) (N + 1) c3 := rfl
               rw [hsv]
               clear hO hd hkk hsv))
          all_goals
            have hSG := St.g (o := .cells #[.int .i64 0, .string { data := #[98] }, .slice none 0 0, .int .i64 0, .int .i64 1, .string { data := #[] }, .slice none 0 0, .string { data := #[] }, .slice none 0 0, .slice (some ⟨bt, 0, none⟩) 1 1, .slice none 0 0] 64) HOK.out HSY.out.drew HOG.out (by rw [HN.out]; exact HAP.out)
            rw [HCW.out.2.2.2.1, HN.out] at hSG
            have HSG : Hd _ := ⟨hSG⟩
            clear hSG
            go_wp2_with fail
            go_roundg (gk - 1)
            case measure => omega
            case rel => exact ⟨i + 1, some g1, c1, some g2, c2, some g3, c3, by go_num, by omega, HSG⟩
        · obtain ⟨N, hN⟩ : ∃ L, (List.replicate (1 + i) bK).length = L := ⟨_, rfl⟩
          have HN : Hd _ := ⟨hN⟩
          have HIN : Hd (i = n) := ⟨by omega⟩
          have hNb : N ≤ 71 := by rw [← hN, List.length_replicate]; omega
          clear hN
          have HQ0 : Hd (wr.heap[w7.heap.size + 1]? = some (.cells (gA (sv ogg N cgi)) 45 (0, 0))) := ⟨by
            have q0 := HST.out.bog
            rw [HCW.out.2.2.2.1] at q0
            exact HN.out ▸ q0⟩
          have y0 : wr.cell? ⟨w7.heap.size + 1, 0, none⟩ = some (.int .i64 0) := cell_n HQ0.out rfl
          have y1 : wr.cell? ⟨w7.heap.size + 1, 1, none⟩ = some (.string { data := #[102] }) := cell_n HQ0.out rfl
          have y2 : wr.cell? ⟨w7.heap.size + 1, 2, none⟩ = some (.slice none 0 0) := cell_n HQ0.out rfl
          have y3 : wr.cell? ⟨w7.heap.size + 1, 3, none⟩ = some (.slice none 0 0) := cell_n HQ0.out rfl
          have y4 : wr.cell? ⟨w7.heap.size + 1, 4, none⟩ = some (.string { data := #[105, 110, 116] }) := cell_n HQ0.out rfl
          have y5 : wr.cell? ⟨w7.heap.size + 1, 5, none⟩ = some (.slice (ogg.map fun g => ⟨g, 0, none⟩) N cgi) := cell_n HQ0.out rfl
          go_wp2_with fail
          clear y0 y1 y2 y3 y4 y5
          obtain ⟨V, hV⟩ : ∃ x_, ((wr.alloc (.cells #[.int .i64 0, .string { data := #[102] }, .slice none 0 0, .slice none 0 0, .string { data := #[105, 110, 116] }, .slice (ogg.map fun g => ⟨g, 0, none⟩) N cgi] 45)).alloc (.cells #[.slice none 0 0, .slice none 0 0, .slice (some ⟨wr.heap.size, 0, none⟩) 1 1] 36)) = x_ := ⟨_, rfl⟩
          rw [hV]
          obtain ⟨L, hL⟩ : ∃ L, (p.structs ++ List.replicate i sA).length = L := ⟨_, rfl⟩
          obtain ⟨M, hM⟩ : ∃ L, (p.funcs ++ List.replicate i fF).length = L := ⟨_, rfl⟩
          have HLM : Hd (L = p.structs.length + i ∧ M = p.funcs.length + i) := ⟨by rw [← hL, ← hM]; simp⟩
          have HL : Hd _ := ⟨hL⟩
          have HM : Hd _ := ⟨hM⟩
          have HMV : Hd (Mod (fun _ => False) wr V) := ⟨by rw [← hV]; exact (Mod.alloc _ _ _).trans (Mod.alloc _ _ _) (fun _ h => Or.inl h)⟩
          have HVG0 : Hd (V.heap[wr.heap.size]? = some (.cells #[.int .i64 0, .string { data := #[102] }, .slice none 0 0, .slice none 0 0, .string { data := #[105, 110, 116] }, .slice (ogg.map fun g => ⟨g, 0, none⟩) N cgi] 45 (0, 0))) := ⟨by rw [← hV]; exact heap2_0 _ _ _⟩
          have HVZ0 : Hd (V.heap[wr.heap.size + 1]? = some (.cells #[.slice none 0 0, .slice none 0 0, .slice (some ⟨wr.heap.size, 0, none⟩) 1 1] 36 (0, 0))) := ⟨by rw [← hV]; exact heap2_1 _ _ _⟩
          have HVX0 : Hd (V.heap[w5.heap.size]? = some (.cells #[.slice (ogx.map fun g => ⟨g, 0, none⟩) L cxi, .slice oy p.enums.length cy, .slice oz p.funcs.length cz] 36 (0, 0))) := ⟨by
            have q := HST.out.box
            rw [HCW.out.2.1, HCW.out.2.2.2.2.1, HL.out, HCW.out.2.2.2.2.2.2.1, HCW.out.2.2.2.2.2.2.2.1] at q
            exact (HMV.out.block _ (Array.getElem?_eq_some_iff.1 q).1 (fun h => h)).trans q⟩
          have HVY0 : Hd (V.heap[w7.heap.size]? = some (.cells #[.slice ox2 p.structs.length cx2, .slice oy2 p.enums.length cy2, .slice (ogy.map fun g => ⟨g, 0, none⟩) M cyi] 36 (0, 0))) := ⟨by
            have q := HST.out.boy
            rw [HCW.out.2.2.1, HCW.out.2.2.2.2.2.1, HM.out, HCW.out.2.2.2.2.2.2.2.2.1, HCW.out.2.2.2.2.2.2.2.2.2] at q
            exact (HMV.out.block _ (Array.getElem?_eq_some_iff.1 q).1 (fun h => h)).trans q⟩
          clear hV hL hM HQ0
          have HC9 : Hd (Mod C.T W9 V) := ⟨by
            have h := HST.out.mod
            rw [HCW.out.1] at h
            exact h.trans HMV.out (fun _ h => h.elim)⟩
          have HWV : Hd (Mod (fun _ => False) W V) := ⟨HMW9.out.trans HC9.out (fun k hk => Or.inr (by
            rcases Nat.lt_or_ge k w4.heap.size with h | h
            · exact absurd hk (HKB.out k h)
            · have h1 := HM1.out.size
              have h1 := HM1.out.size
              have h2 := HM3.out.size
              have h3 := HM4.out.size
              omega))⟩
          have HKVX : Hd (Kp (fun b => Nb w4.heap.size w5 b ∧ ox ≠ some ⟨b, 0, none⟩) w5 (fun _ => True) V) := ⟨fun b hb hl => by
            have h1 := HC9.out.block b (Nat.lt_of_lt_of_le hl HM59.out.size) (HKX.out b hb.2 hl)
            exact ⟨trivial, Nat.lt_of_lt_of_le hl (Nat.le_trans HM59.out.size HC9.out.size), h1.trans (HM59.out.block b hl (fun h => h))⟩⟩
          have HKVY : Hd (Kp (fun b => (Nb (w5.alloc (.cells #[.slice ox p.structs.length cx, .slice oy p.enums.length cy, .slice oz p.funcs.length cz] 36)).heap.size w7 b ∧ oz2 ≠ some ⟨b, 0, none⟩) ∨ b = bfb ∨ b = bt) w7 (fun _ => True) V) := ⟨fun b hb hl => by
            have hT : ¬ C.T b := by
              have h4 := HN4.out
              rcases hb with h | h | h
              · exact HKY.out b h.2 (by have := h.1.1; simpa using this) hl
              · exact HKB.out b (by omega)
              · exact HKB.out b (by omega)
            have h1 := HC9.out.block b (Nat.lt_of_lt_of_le hl HM79.out.size) hT
            exact ⟨trivial, Nat.lt_of_lt_of_le hl (Nat.le_trans HM79.out.size HC9.out.size), h1.trans (HM79.out.block b hl (fun h => h))⟩⟩
          have HKVG : Hd (Kp (fun b => b = bt) W9 (fun _ => True) V) := ⟨fun b hb hl => by
            have h4 := HN4.out
            exact ⟨trivial, Nat.lt_of_lt_of_le hl HC9.out.size, HC9.out.block b hl (HKB.out b (by omega))⟩⟩
          have HKR : Hd (Kp (fun _ => True) wr (fun _ => True) V) := ⟨HMV.out.kp _⟩
          have hin := HIN.out
          have hpx := HRL.out.1
          have hpy := HRL.out.2.2.1
          have HPX : Hd (prgV (fun _ => True) V (.agg #[.slice (ogx.map fun g => ⟨g, 0, none⟩) L cxi, .slice oy p.enums.length cy, .slice oz p.funcs.length cz]) ⟨p.structs ++ List.replicate i sA, p.enums, p.funcs⟩) := ⟨by
            have h := HST.out.rx
            rw [HCW.out.2.2.2.2.1, HVX.out] at h
            have h1 := h.sr (by have := HLM.out; have := HL.out; omega)
            rw [HL.out] at h1
            refine ⟨_, _, _, _, _, _, _, _, _, rfl, ?_, HX.out.2.1.keep HKVX.out (fun v x h => h.keep HKVX.out), HX.out.2.2.keep HKVX.out (fun v x h => h.keep HKVX.out)⟩
            exact h1.keep (fun b _ hl => HKR.out b trivial hl) (fun v x h => h.keep HKVX.out)⟩
          have HPY : Hd (prgV (fun _ => True) V (.agg #[.slice ox2 p.structs.length cx2, .slice oy2 p.enums.length cy2, .slice (ogy.map fun g => ⟨g, 0, none⟩) M cyi]) ⟨p.structs, p.enums, p.funcs ++ List.replicate i fF⟩) := ⟨by
            have h := HST.out.ry
            rw [HCW.out.2.2.2.2.2.1, HVY.out] at h
            have h1 := h.sr (by have := HLM.out; have := HM.out; omega)
            rw [HM.out] at h1
            have hk : Kp (fun b => Nb (w5.alloc (.cells #[.slice ox p.structs.length cx, .slice oy p.enums.length cy, .slice oz p.funcs.length cz] 36)).heap.size w7 b ∧ oz2 ≠ some ⟨b, 0, none⟩) w7 (fun _ => True) V := fun b hb hl => HKVY.out b (Or.inl hb) hl
            refine ⟨_, _, _, _, _, _, _, _, _, rfl, HY.out.1.keep hk (fun v x h => h.keep hk), HY.out.2.1.keep hk (fun v x h => h.keep hk), ?_⟩
            exact h1.keep (fun b _ hl => HKR.out b trivial hl) (fun v x h => h.keep HKVY.out)⟩
          have HPZ : Hd (prgV (fun _ => True) V (.agg #[.slice none 0 0, .slice none 0 0, .slice (some ⟨wr.heap.size, 0, none⟩) 1 1]) ⟨[], [], [gF (1 + i)]⟩) := ⟨by
            have h := HST.out.rg
            rw [HVG.out] at h
            have h1 := h.sr (by have := HN.out; omega)
            rw [HN.out] at h1
            refine ⟨_, _, _, _, _, _, _, _, _, rfl, SR.nil_, SR.nil_, SR.one_ HVG0.out trivial (.agg #[.int .i64 0, .string { data := #[102] }, .slice none 0 0, .slice none 0 0, .string { data := #[105, 110, 116] }, .slice (ogg.map fun g => ⟨g, 0, none⟩) N cgi]) (by simp [Value.cells]) ?_⟩
            exact ⟨by show I64 0; unfold I64; decide, by show Sm tF; unfold Sm; decide, by show Sm tInt; unfold Sm; decide, none, 0, 0, none, 0, 0, _, _, _, rfl, SR.nil_, SR.nil_, h1.keep (fun b _ hl => HKR.out b trivial hl) (fun v x h => h.keep HKVG.out)⟩⟩
          obtain ⟨rx, hrx⟩ : ∃ r, decide (L ≤ 16) = r := ⟨_, rfl⟩
          obtain ⟨ry, hry⟩ : ∃ r, decide (M ≤ 16) = r := ⟨_, rfl⟩
          obtain ⟨rz, hrz⟩ : ∃ r, decide (n < 64) = r := ⟨_, rfl⟩
          have HAX : Hd (∀ w, Mod (fun _ => False) V w → _) := ⟨fun w hw => Right_ans (HT.out.mod HWV.out) HPX.out w hw⟩
          have HAY : Hd (∀ w, Mod (fun _ => False) V w → _) := ⟨fun w hw => Right_ans (HT.out.mod HWV.out) HPY.out w hw⟩
          have HAZ : Hd (∀ w, Mod (fun _ => False) V w → _) := ⟨fun w hw => Right_ans (HT.out.mod HWV.out) HPZ.out w hw⟩
          rw [right_x HRI.out i, ← HLM.out.1, hrx] at HAX
          rw [right_y HRI.out i, ← HLM.out.2, hry] at HAY
          rw [right_z i, HIN.out, hrz] at HAZ
          have dx : decide ((L : Int) ≤ 16) = rx := by rw [← hrx]; congr 1; apply propext; omega
          have dy : decide ((M : Int) ≤ 16) = ry := by rw [← hry]; congr 1; apply propext; omega
          have dz : decide ((n : Int) < 64) = rz := by rw [← hrz]; congr 1; apply propext; omega
          have HBX : Hd (∀ w, Mod (fun _ => False) V w → w.cell? ⟨w5.heap.size, 0, none⟩ = some (.slice (ogx.map fun g => ⟨g, 0, none⟩) L cxi) ∧ w.cell? ⟨w5.heap.size, 1, none⟩ = some (.slice oy p.enums.length cy) ∧ w.cell? ⟨w5.heap.size, 2, none⟩ = some (.slice oz p.funcs.length cz)) := ⟨fun w hw => by
            have q := (hw.block _ (Array.getElem?_eq_some_iff.1 HVX0.out).1 (fun h => h)).trans HVX0.out
            exact ⟨cell_n q rfl, cell_n q rfl, cell_n q rfl⟩⟩
          have HBY : Hd (∀ w, Mod (fun _ => False) V w → w.cell? ⟨w7.heap.size, 0, none⟩ = some (.slice ox2 p.structs.length cx2) ∧ w.cell? ⟨w7.heap.size, 1, none⟩ = some (.slice oy2 p.enums.length cy2) ∧ w.cell? ⟨w7.heap.size, 2, none⟩ = some (.slice (ogy.map fun g => ⟨g, 0, none⟩) M cyi)) := ⟨fun w hw => by
            have q := (hw.block _ (Array.getElem?_eq_some_iff.1 HVY0.out).1 (fun h => h)).trans HVY0.out
            exact ⟨cell_n q rfl, cell_n q rfl, cell_n q rfl⟩⟩
          have HBZ : Hd (∀ w, Mod (fun _ => False) V w → w.cell? ⟨wr.heap.size + 1, 0, none⟩ = some (.slice none 0 0) ∧ w.cell? ⟨wr.heap.size + 1, 1, none⟩ = some (.slice none 0 0) ∧ w.cell? ⟨wr.heap.size + 1, 2, none⟩ = some (.slice (some ⟨wr.heap.size, 0, none⟩) 1 1)) := ⟨fun w hw => by
            have q := (hw.block _ (Array.getElem?_eq_some_iff.1 HVZ0.out).1 (fun h => h)).trans HVZ0.out
            exact ⟨cell_n q rfl, cell_n q rfl, cell_n q rfl⟩⟩
          clear hpx hpy hin
          refine wp_region_quiet (C := fun w' => Mod (fun _ => False) V w') (by kernel_rfl) (by kernel_rfl) (Mod.drew _ _) ?_
          dsimp only
          go_big_quiet_want
          refine ⟨.agg #[.slice (ogx.map fun g => ⟨g, 0, none⟩) L cxi, .slice oy p.enums.length cy, .slice oz p.funcs.length cz], fun w hw => ?_, ?_⟩
          · obtain ⟨s0, s1, s2⟩ := HBX.out w hw
            obtain ⟨t0, t1, t2⟩ := HBY.out w hw
            obtain ⟨r0, r1, r2⟩ := HBZ.out w hw
            unfold Oper.quietAt
            go_simp
          go_big_quiet_on
          try simp only [Act.put, List.setIfInBounds_toArray, List.set_cons_zero, List.set_cons_succ]
          go_big_quiet_want
          refine ⟨.bool rx, fun w hw => ?_, ?_⟩
          · unfold Oper.quietAt
            go_simp
            refine (calls_n (HAX.out w hw) (by with_reducible rfl)).mono ?_
            rintro e w2 ⟨rfl, hM⟩
            exact ⟨rfl, hw.trans hM (fun _ h => Or.inl h)⟩
          go_big_quiet_on
          try simp only [Act.put, List.setIfInBounds_toArray, List.set_cons_zero, List.set_cons_succ]
          go_big_quiet_want
          refine ⟨.pointer (some ⟨w5.heap.size, 0, none⟩), fun w hw => ?_, ?_⟩
          · obtain ⟨s0, s1, s2⟩ := HBX.out w hw
            obtain ⟨t0, t1, t2⟩ := HBY.out w hw
            obtain ⟨r0, r1, r2⟩ := HBZ.out w hw
            unfold Oper.quietAt
            go_simp
          go_big_quiet_on
          try simp only [Act.put, List.setIfInBounds_toArray, List.set_cons_zero, List.set_cons_succ]
          go_big_quiet_want
          refine ⟨.slice (ogx.map fun g => ⟨g, 0, none⟩) L cxi, fun w hw => ?_, ?_⟩
          · obtain ⟨s0, s1, s2⟩ := HBX.out w hw
            obtain ⟨t0, t1, t2⟩ := HBY.out w hw
            obtain ⟨r0, r1, r2⟩ := HBZ.out w hw
            unfold Oper.quietAt
            go_simp
          go_big_quiet_on
          try simp only [Act.put, List.setIfInBounds_toArray, List.set_cons_zero, List.set_cons_succ]
          go_big_quiet_want
          refine ⟨.int .i64 L, fun w hw => ?_, ?_⟩
          · obtain ⟨s0, s1, s2⟩ := HBX.out w hw
            obtain ⟨t0, t1, t2⟩ := HBY.out w hw
            obtain ⟨r0, r1, r2⟩ := HBZ.out w hw
            unfold Oper.quietAt
            go_simp
          go_big_quiet_on
          try simp only [Act.put, List.setIfInBounds_toArray, List.set_cons_zero, List.set_cons_succ]
          go_big_quiet_want
          refine ⟨.bool rx, fun w hw => ?_, ?_⟩
          · obtain ⟨s0, s1, s2⟩ := HBX.out w hw
            obtain ⟨t0, t1, t2⟩ := HBY.out w hw
            obtain ⟨r0, r1, r2⟩ := HBZ.out w hw
            unfold Oper.quietAt
            go_simp
          go_big_quiet_on
          try simp only [Act.put, List.setIfInBounds_toArray, List.set_cons_zero, List.set_cons_succ]
          go_big_quiet_want
          refine ⟨.bool true, fun w hw => ?_, ?_⟩
          · obtain ⟨s0, s1, s2⟩ := HBX.out w hw
            obtain ⟨t0, t1, t2⟩ := HBY.out w hw
            obtain ⟨r0, r1, r2⟩ := HBZ.out w hw
            unfold Oper.quietAt
            go_simp
          go_big_quiet_on
          try simp only [Act.put, List.setIfInBounds_toArray, List.set_cons_zero, List.set_cons_succ]
          go_big_quiet_want
          refine ⟨.bool true, fun w hw => ?_, ?_⟩
          · obtain ⟨s0, s1, s2⟩ := HBX.out w hw
            obtain ⟨t0, t1, t2⟩ := HBY.out w hw
            obtain ⟨r0, r1, r2⟩ := HBZ.out w hw
            unfold Oper.quietAt
            go_simp
          go_big_quiet_on
          try simp only [Act.put, List.setIfInBounds_toArray, List.set_cons_zero, List.set_cons_succ]
          go_big_quiet_want
          refine ⟨.agg #[.slice ox2 p.structs.length cx2, .slice oy2 p.enums.length cy2, .slice (ogy.map fun g => ⟨g, 0, none⟩) M cyi], fun w hw => ?_, ?_⟩
          · obtain ⟨s0, s1, s2⟩ := HBX.out w hw
            obtain ⟨t0, t1, t2⟩ := HBY.out w hw
            obtain ⟨r0, r1, r2⟩ := HBZ.out w hw
            unfold Oper.quietAt
            go_simp
          go_big_quiet_on
          try simp only [Act.put, List.setIfInBounds_toArray, List.set_cons_zero, List.set_cons_succ]
          go_big_quiet_want
          refine ⟨.bool ry, fun w hw => ?_, ?_⟩
          · unfold Oper.quietAt
            go_simp
            refine (calls_n (HAY.out w hw) (by with_reducible rfl)).mono ?_
            rintro e w2 ⟨rfl, hM⟩
            exact ⟨rfl, hw.trans hM (fun _ h => Or.inl h)⟩
          go_big_quiet_on
          try simp only [Act.put, List.setIfInBounds_toArray, List.set_cons_zero, List.set_cons_succ]
          go_big_quiet_want
          refine ⟨.pointer (some ⟨w7.heap.size, 2, none⟩), fun w hw => ?_, ?_⟩
          · obtain ⟨s0, s1, s2⟩ := HBX.out w hw
            obtain ⟨t0, t1, t2⟩ := HBY.out w hw
            obtain ⟨r0, r1, r2⟩ := HBZ.out w hw
            unfold Oper.quietAt
            go_simp
          go_big_quiet_on
          try simp only [Act.put, List.setIfInBounds_toArray, List.set_cons_zero, List.set_cons_succ]
          go_big_quiet_want
          refine ⟨.slice (ogy.map fun g => ⟨g, 0, none⟩) M cyi, fun w hw => ?_, ?_⟩
          · obtain ⟨s0, s1, s2⟩ := HBX.out w hw
            obtain ⟨t0, t1, t2⟩ := HBY.out w hw
            obtain ⟨r0, r1, r2⟩ := HBZ.out w hw
            unfold Oper.quietAt
            go_simp
          go_big_quiet_on
          try simp only [Act.put, List.setIfInBounds_toArray, List.set_cons_zero, List.set_cons_succ]
          go_big_quiet_want
          refine ⟨.int .i64 M, fun w hw => ?_, ?_⟩
          · obtain ⟨s0, s1, s2⟩ := HBX.out w hw
            obtain ⟨t0, t1, t2⟩ := HBY.out w hw
            obtain ⟨r0, r1, r2⟩ := HBZ.out w hw
            unfold Oper.quietAt
            go_simp
          go_big_quiet_on
          try simp only [Act.put, List.setIfInBounds_toArray, List.set_cons_zero, List.set_cons_succ]
          go_big_quiet_want
          refine ⟨.bool ry, fun w hw => ?_, ?_⟩
          · obtain ⟨s0, s1, s2⟩ := HBX.out w hw
            obtain ⟨t0, t1, t2⟩ := HBY.out w hw
            obtain ⟨r0, r1, r2⟩ := HBZ.out w hw
            unfold Oper.quietAt
            go_simp
          go_big_quiet_on
          try simp only [Act.put, List.setIfInBounds_toArray, List.set_cons_zero, List.set_cons_succ]
          go_big_quiet_want
          refine ⟨.bool true, fun w hw => ?_, ?_⟩
          · obtain ⟨s0, s1, s2⟩ := HBX.out w hw
            obtain ⟨t0, t1, t2⟩ := HBY.out w hw
            obtain ⟨r0, r1, r2⟩ := HBZ.out w hw
            unfold Oper.quietAt
            go_simp
          go_big_quiet_on
          try simp only [Act.put, List.setIfInBounds_toArray, List.set_cons_zero, List.set_cons_succ]
          go_big_quiet_want
          refine ⟨.bool true, fun w hw => ?_, ?_⟩
          · obtain ⟨s0, s1, s2⟩ := HBX.out w hw
            obtain ⟨t0, t1, t2⟩ := HBY.out w hw
            obtain ⟨r0, r1, r2⟩ := HBZ.out w hw
            unfold Oper.quietAt
            go_simp
          go_big_quiet_on
          try simp only [Act.put, List.setIfInBounds_toArray, List.set_cons_zero, List.set_cons_succ]
          go_big_quiet_want
          refine ⟨.bool true, fun w hw => ?_, ?_⟩
          · obtain ⟨s0, s1, s2⟩ := HBX.out w hw
            obtain ⟨t0, t1, t2⟩ := HBY.out w hw
            obtain ⟨r0, r1, r2⟩ := HBZ.out w hw
            unfold Oper.quietAt
            go_simp
          go_big_quiet_on
          try simp only [Act.put, List.setIfInBounds_toArray, List.set_cons_zero, List.set_cons_succ]
          go_big_quiet_want
          refine ⟨.agg #[.slice none 0 0, .slice none 0 0, .slice (some ⟨wr.heap.size, 0, none⟩) 1 1], fun w hw => ?_, ?_⟩
          · obtain ⟨s0, s1, s2⟩ := HBX.out w hw
            obtain ⟨t0, t1, t2⟩ := HBY.out w hw
            obtain ⟨r0, r1, r2⟩ := HBZ.out w hw
            unfold Oper.quietAt
            go_simp
          go_big_quiet_on
          try simp only [Act.put, List.setIfInBounds_toArray, List.set_cons_zero, List.set_cons_succ]
          go_big_quiet_want
          refine ⟨.bool rz, fun w hw => ?_, ?_⟩
          · unfold Oper.quietAt
            go_simp
            refine (calls_n (HAZ.out w hw) (by with_reducible rfl)).mono ?_
            rintro e w2 ⟨rfl, hM⟩
            exact ⟨rfl, hw.trans hM (fun _ h => Or.inl h)⟩
          go_big_quiet_on
          try simp only [Act.put, List.setIfInBounds_toArray, List.set_cons_zero, List.set_cons_succ]
          go_big_quiet_want
          refine ⟨.int .i64 n, fun w hw => ?_, ?_⟩
          · obtain ⟨s0, s1, s2⟩ := HBX.out w hw
            obtain ⟨t0, t1, t2⟩ := HBY.out w hw
            obtain ⟨r0, r1, r2⟩ := HBZ.out w hw
            unfold Oper.quietAt
            go_simp
          go_big_quiet_on
          try simp only [Act.put, List.setIfInBounds_toArray, List.set_cons_zero, List.set_cons_succ]
          go_big_quiet_want
          refine ⟨.bool rz, fun w hw => ?_, ?_⟩
          · obtain ⟨s0, s1, s2⟩ := HBX.out w hw
            obtain ⟨t0, t1, t2⟩ := HBY.out w hw
            obtain ⟨r0, r1, r2⟩ := HBZ.out w hw
            unfold Oper.quietAt
            go_simp
          go_big_quiet_on
          try simp only [Act.put, List.setIfInBounds_toArray, List.set_cons_zero, List.set_cons_succ]
          go_big_quiet_want
          refine ⟨.bool true, fun w hw => ?_, ?_⟩
          · obtain ⟨s0, s1, s2⟩ := HBX.out w hw
            obtain ⟨t0, t1, t2⟩ := HBY.out w hw
            obtain ⟨r0, r1, r2⟩ := HBZ.out w hw
            unfold Oper.quietAt
            go_simp
          go_big_quiet_on
          try simp only [Act.put, List.setIfInBounds_toArray, List.set_cons_zero, List.set_cons_succ]
          go_big_quiet_want
          refine ⟨.bool true, fun w hw => ?_, ?_⟩
          · obtain ⟨s0, s1, s2⟩ := HBX.out w hw
            obtain ⟨t0, t1, t2⟩ := HBY.out w hw
            obtain ⟨r0, r1, r2⟩ := HBZ.out w hw
            unfold Oper.quietAt
            go_simp
          go_big_quiet_on
          try simp only [Act.put, List.setIfInBounds_toArray, List.set_cons_zero, List.set_cons_succ]
          go_big_quiet_want
          refine ⟨.bool true, fun w hw => ?_, ?_⟩
          · obtain ⟨s0, s1, s2⟩ := HBX.out w hw
            obtain ⟨t0, t1, t2⟩ := HBY.out w hw
            obtain ⟨r0, r1, r2⟩ := HBZ.out w hw
            unfold Oper.quietAt
            go_simp
          go_big_quiet_on
          try simp only [Act.put, List.setIfInBounds_toArray, List.set_cons_zero, List.set_cons_succ]
          refine wpQuiet_nil ?_
          intro wd hwd
          have HD : Hd _ := ⟨hwd⟩
          clear hwd
          go_wp2
          go_ret
          exact ⟨rfl, HWV.out.trans HD.out (fun _ h => Or.inl h)⟩
end Go.Proofs.YtpodeccpibnlbaaGreatDoor
