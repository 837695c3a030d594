/- The walks of slab's index and Get, said of cells. -/
import Derived.Test.YtpgoogjaoffdoaaOps3
import Derived.Test.YtpgoogjaoffdoaaM2
namespace Go.Proofs.Ytpgoogjaoffdoaa
set_option linter.unusedVariables false
set_option linter.unusedSimpArgs false
open Go.RowKit

set_option maxRecDepth 100000 in
set_option maxHeartbeats 400000 in
theorem index_take (b : Nat) (w : World) (v0 v1 v2 v3 : Value) (gf n cf x : Nat)
    (hb : w.heap[b]? = some (.cells #[v0, v1, v2, v3, .slice (some ⟨gf, 0, none⟩) (n + 1) cf] 69 (0, 0)))
    (hn : n + 1 ≤ cf) (hc : cf ≤ 9223372036854775807) (hx : w.cell? ⟨gf, n, none⟩ = some (.int .i64 (x : Int))) (hne : gf ≠ b) :
    Calls Try.prog 38 #[.pointer (some ⟨b, 0, none⟩)] w fun e w' => e = .returned (.int .i64 (x : Int)) ∧ w' = w.setCell ⟨b, 4, none⟩ (.slice (some ⟨gf, 0, none⟩) n n) := by
  have c4 : w.cell? ⟨b, 4, none⟩ = some (.slice (some ⟨gf, 0, none⟩) (n + 1) cf) := by simp [World.cell?, hb]
  have f4 : w.frozen? ⟨b, 4, none⟩ = false := by simp [World.frozen?, hb]
  clear hb
  go_enter Try.func38, Try.ntmps38
  go_wp2
  go_ret
  exact ⟨rfl, rfl⟩

/-- Behind the append onto the places. -/
def NewPlace (wA : World) (b : Nat) (gp : Option Nat) (xs : List Value) (n : Nat) (w' : World) : Prop :=
  ∃ g' c' w1, Sl w1 86 3 (some g') (n + 1) c' xs ∧ (some g' = gp ∨ wA.heap.size ≤ g') ∧ Mod (fun k => some k = gp) wA w1 ∧
    w' = w1.setCell ⟨b, 3, none⟩ (.slice (some ⟨g', 0, none⟩) (n + 1) c')

set_option maxRecDepth 100000 in
set_option maxHeartbeats 400000 in
theorem index_new (b : Nat) (w : World) (v0 v1 v2 : Value) (gp : Option Nat) (np cp : Nat) (ao : Option Addr) (cf : Nat) (xs : List Value)
    (hb : w.heap[b]? = some (.cells #[v0, v1, v2, sv gp np cp, .slice ao 0 cf] 69 (0, 0))) (hbs : b < w.heap.size)
    (hS : Sl w 86 3 gp np cp xs) (hne : gp ≠ some b) (hnp : np ≤ 1048576) :
    Calls Try.prog 38 #[.pointer (some ⟨b, 0, none⟩)] w fun e w' => e = .returned (.int .i64 (np : Int)) ∧
      NewPlace (w.alloc (.cells #[.slice none 0 0, .slice none 0 0, .bool false] 86)) b gp (xs ++ [.slice none 0 0, .slice none 0 0, .bool false]) np w' := by
  obtain ⟨i0, hi, hz0, hz1, hz2⟩ := info_parts Try.info86
  have c4 : w.cell? ⟨b, 4, none⟩ = some (.slice ao 0 cf) := by simp [World.cell?, hb]
  have c3 : w.cell? ⟨b, 3, none⟩ = some (.slice (gp.map fun g => ⟨g, 0, none⟩) np cp) := by simp [World.cell?, hb, sv]
  have f3 : w.frozen? ⟨b, 3, none⟩ = false := by simp [World.frozen?, hb]
  have HS : Hd _ := ⟨hS⟩
  have HN : Hd _ := ⟨hne⟩
  clear hb hS hne
  go_enter Try.func38, Try.ntmps38
  go_wp2_with (at_builtin; refine wpList_append_sl _ rfl (.tmp 35) (.tmp 37) 67 rfl 86 i0 (.agg #[.slice none 0 0, .slice none 0 0, .bool false]) 3 56 Try.underlying67 hi hz0 hz1 hz2 rfl (by decide) gp np cp xs rfl (HS.out.alloc _) ⟨w.heap.size, 0, none⟩ 1 1 [.slice none 0 0, .slice none 0 0, .bool false] rfl rfl ?k1 ?k2 (by decide) ?b1 ?b2 ?grow)
  case k1 =>
    intro j u hj
    rw [Addr.add_lit]
    match j, hj with
    | 0, hj => simp at hj; subst hj; exact World.cell?_alloc_new _ _ _ _
    | 1, hj => simp at hj; subst hj; exact World.cell?_alloc_new _ _ _ _
    | 2, hj => simp at hj; subst hj; exact World.cell?_alloc_new _ _ _ _
    | j + 3, hj => simp at hj
  case k2 => intro u hu; simp at hu; rcases hu with rfl | rfl <;> rfl
  case b1 => unfold maxLen; omega
  case b2 => omega
  case grow =>
    intro g' c' w1 hS1 hor hM
    have e3 : w1.cell? ⟨b, 3, none⟩ = some (.slice (gp.map fun g => ⟨g, 0, none⟩) np cp) := by
      rw [World.cell?_of_block (hM.block b (by simp; omega) (fun e => HN.out e.symm))]
      go_simp
    have e5 : w1.frozen? ⟨b, 3, none⟩ = false := by
      rw [World.frozen?_of_block (hM.block b (by simp; omega) (fun e => HN.out e.symm))]
      go_simp
    have HS1 : Hd _ := ⟨hS1⟩
    have HO : Hd _ := ⟨hor⟩
    have HM : Hd _ := ⟨hM⟩
    clear hS1 hor hM
    go_wp2
    go_ret
    exact ⟨by first | rfl | simp, g', c', w1, HS1.out, by simpa using HO.out, HM.out, rfl⟩
end Go.Proofs.Ytpgoogjaoffdoaa
