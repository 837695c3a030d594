/- The walks of slab's Store, Blank, Free, said of cells. -/
import Derived.Test.YtpgoogjaoffdoaaOps2
namespace Go.Proofs.Ytpgoogjaoffdoaa
set_option linter.unusedVariables false
set_option linter.unusedSimpArgs false
open Go.RowKit

def SetPost (R : Int → World → Prop) (r : Ending) (w : World) : Prop := ∃ e : Int, r = .returned (.int .i64 e) ∧ R e w

set_option maxRecDepth 100000 in
set_option maxHeartbeats 400000 in
theorem store_any (b : Nat) (a : Int) (w : World) (x : Int) (R : Int → World → Prop) (hs : Hid (Calls Try.prog 40 #[.pointer (some ⟨b, 0, none⟩), .int .u64 a, .agg #[.int .i64 x, .bool true]] w (SetPost R))) :
    Calls Try.prog 16 #[.pointer (some ⟨b, 0, none⟩), .int .u64 a, .int .i64 x] w (SetPost R) := by
  go_enter Try.func16, Try.ntmps16
  go_wp2_with (go_at_call 40; refine (hs.out).mono ?_; rintro r w' ⟨e, rfl, hR⟩)
  go_ret
  exact ⟨e, rfl, hR⟩

set_option maxRecDepth 100000 in
set_option maxHeartbeats 400000 in
theorem blank_any (b : Nat) (a : Int) (w : World) (R : Int → World → Prop) (hs : Hid (Calls Try.prog 40 #[.pointer (some ⟨b, 0, none⟩), .int .u64 a, .agg #[.int .i64 0, .bool false]] w (SetPost R))) :
    Calls Try.prog 21 #[.pointer (some ⟨b, 0, none⟩), .int .u64 a] w (SetPost R) := by
  go_enter Try.func21, Try.ntmps21
  go_wp2_with (go_at_call 40; refine (hs.out).mono ?_; rintro r w' ⟨e, rfl, hR⟩)
  go_ret
  exact ⟨e, rfl, hR⟩

theorem Try.info3 : (Try.prog.info? 3).map (fun i => (i.zero, i.size, i.bytes)) = some (some (.int .i64 0), 1, 8) := by kernel_rfl
theorem Try.info86 : (Try.prog.info? 86).map (fun i => (i.zero, i.size, i.bytes)) = some (some (.agg #[.slice none 0 0, .slice none 0 0, .bool false]), 3, 56) := by kernel_rfl
theorem Try.info89 : (Try.prog.info? 89).map (fun i => (i.zero, i.size, i.bytes)) = some (some (.agg #[.int .i64 0, .bool false]), 2, 16) := by kernel_rfl

/-- Behind the append onto the free indexes: what Free leaves. -/
def FreedBy (wA : World) (b : Nat) (gf : Option Nat) (xs : List Value) (n : Nat) (w' : World) : Prop :=
  ∃ g' c' w1, Sl w1 3 1 (some g') (n + 1) c' xs ∧ (some g' = gf ∨ wA.heap.size ≤ g') ∧ Mod (fun k => some k = gf) wA w1 ∧
    w' = w1.setCell ⟨b, 4, none⟩ (.slice (some ⟨g', 0, none⟩) (n + 1) c')

set_option maxRecDepth 100000 in
set_option maxHeartbeats 1000000 in
theorem free_good (b : Nat) (a : Int) (w : World) (g i : Nat) (n c : Nat) (ao : Option Addr) (used live : Nat) (v0 v3 v2 : Value) (gf : Option Nat) (nf cf : Nat) (free : List Value)
    (hf : goodFind b a w g i 0)
    (hb : w.heap[b]? = some (.cells #[v0, .int .i64 (used : Int), .int .i64 (live : Int), v3, sv gf nf cf] 69 (0, 0)))
    (p1 : w.cell? ⟨g, i * 3 + 1, none⟩ = some (.slice ao n c)) (p2 : w.cell? ⟨g, i * 3 + 2, none⟩ = some v2)
    (q1 : w.frozen? ⟨g, i * 3 + 1, none⟩ = false) (q2 : w.frozen? ⟨g, i * 3 + 2, none⟩ = false)
    (hu : n ≤ used) (hu2 : used ≤ 16384) (hl : 1 ≤ live) (hl2 : live ≤ 16384) (hbg : b ≠ g) (hgs : g < w.heap.size) (hbs : b < w.heap.size)
    (hS : Sl w 3 1 gf nf cf free) (hfb : gf ≠ some b) (hfg : gf ≠ some g) (hnf : nf ≤ 1048576) :
    Calls Try.prog 17 #[.pointer (some ⟨b, 0, none⟩), .int .u64 a] w fun r w' => r = .returned (.int .i64 0) ∧
      FreedBy (((((w.setCell ⟨b, 1, none⟩ (.int .i64 ((used : Int) - n))).setCell ⟨b, 2, none⟩ (.int .i64 ((live : Int) - 1))).setCell ⟨g, i * 3 + 1, none⟩ (.slice none 0 0)).setCell ⟨g, i * 3 + 2, none⟩ (.bool true)).alloc (.cells #[.int .i64 (i : Int)] 3)).drew b gf (free ++ [.int .i64 (i : Int)]) nf w' := by
  obtain ⟨i0, hi, hz0, hz1, hz2⟩ := info_parts Try.info3
  have c1 : w.cell? ⟨b, 1, none⟩ = some (.int .i64 (used : Int)) := by simp [World.cell?, hb]
  have c2 : w.cell? ⟨b, 2, none⟩ = some (.int .i64 (live : Int)) := by simp [World.cell?, hb]
  have c4 : w.cell? ⟨b, 4, none⟩ = some (.slice (gf.map fun g => ⟨g, 0, none⟩) nf cf) := by simp [World.cell?, hb, sv]
  have f1 : w.frozen? ⟨b, 1, none⟩ = false := by simp [World.frozen?, hb]
  have f2 : w.frozen? ⟨b, 2, none⟩ = false := by simp [World.frozen?, hb]
  have f4 : w.frozen? ⟨b, 4, none⟩ = false := by simp [World.frozen?, hb]
  have HS : Hd _ := ⟨hS⟩
  have HB : Hd _ := ⟨hb⟩
  have HF : Hd _ := ⟨hfb⟩
  have HG : Hd _ := ⟨hfg⟩
  have hgb : g ≠ b := fun h => hbg h.symm
  clear hS hb hfb hfg
  go_enter Try.func17, Try.ntmps17
  go_wp2_with (go_at_call 41; refine (hf.out).mono ?_; rintro e w' ⟨rfl, h⟩; obtain rfl := h.symm; clear h)
  go_region
  go_wp2_with (at_builtin; refine wpList_append_sl _ rfl (.tmp 53) (.tmp 55) 41 rfl 3 i0 (.int .i64 0) 1 8 Try.underlying41 hi hz0 hz1 hz2 rfl (by decide) gf nf cf free rfl ?sl ⟨_, 0, none⟩ 1 1 [.int .i64 (i : Int)] rfl rfl ?k1 ?k2 (by decide) ?b1 ?b2 ?grow)
  case sl =>
    refine HS.out.keep fun k hk => ?_
    have hkl := HS.out.lt hk
    have hkb : k ≠ b := fun e => HF.out (hk.trans (by rw [e]))
    have hkg : k ≠ g := fun e => HG.out (hk.trans (by rw [e]))
    rw [heap_drew, Below.heap_alloc _ _ _ (by simpa using hkl), Below.heap_setCell _ _ _ _ hkg, Below.heap_setCell _ _ _ _ hkg, Below.heap_setCell _ _ _ _ hkb, Below.heap_setCell _ _ _ _ hkb]
  case k1 =>
    intro j u hj
    match j, hj with
    | 0, hj =>
      simp at hj; subst hj
      rw [Addr.add_lit]
      exact cell_one_new' _ _ (by simp)
  case k2 => intro u hu; simp at hu; subst hu; rfl
  case b1 => unfold maxLen; omega
  case b2 => omega
  case grow =>
    intro g' c' w1 hS1 hor hM
    have e4 : w1.cell? ⟨b, 4, none⟩ = some (.slice (gf.map fun g => ⟨g, 0, none⟩) nf cf) := by
      rw [World.cell?_of_block (hM.block b (by simp; omega) (fun e => HF.out e.symm))]
      go_simp
    have e5 : w1.frozen? ⟨b, 4, none⟩ = false := by
      rw [World.frozen?_of_block (hM.block b (by simp; omega) (fun e => HF.out e.symm))]
      go_simp
    have HS1 : Hd _ := ⟨hS1⟩
    have HO : Hd _ := ⟨hor⟩
    have HM : Hd _ := ⟨hM⟩
    clear hS1 hor hM
    go_wp2
    go_ret
    exact ⟨rfl, g', c', w1, HS1.out, by simpa using HO.out, HM.out, rfl⟩
end Go.Proofs.Ytpgoogjaoffdoaa
