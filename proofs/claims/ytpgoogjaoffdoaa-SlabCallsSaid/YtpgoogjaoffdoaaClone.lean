/- The walks of slices.Clone at the three kinds of elements. -/
import Derived.Test.YtpgoogjaoffdoaaCon5
namespace Go.Proofs.Ytpgoogjaoffdoaa
set_option linter.unusedVariables false
set_option linter.unusedSimpArgs false
open Go.RowKit

/-- What slices.Clone leaves: the same cells in a block of its own; nil of nil. -/
def ClonePost (w : World) (e size n : Nat) (og : Option Nat) (xs : List Value) (x : Ending) (w' : World) : Prop :=
  ∃ og' c', x = .returned (sv og' n c') ∧ Sl w' e size og' n c' xs ∧ (∀ g, og' = some g → w.heap.size ≤ g ∧ g < w'.heap.size) ∧ Mod (fun _ => False) w w'

theorem Sl.empty (w : World) (e size : Nat) : Sl (w.alloc (.cells #[] e)) e size (some w.heap.size) 0 0 [] :=
  ⟨by simp, Nat.le_refl _, Nat.zero_le _, fun h => (by cases h), fun g hg => by obtain rfl := Option.some.inj hg; exact ⟨#[], heap_alloc_new w _, by simp, by simp⟩⟩

set_option maxRecDepth 100000 in
set_option maxHeartbeats 400000 in
theorem clone_int_nil (w : World) :
    Calls Try.prog 35 #[.slice none 0 0] w fun x w' => x = .returned (.slice none 0 0) ∧ w' = w := by
  have hnil := fun (w : World) (a : Option Addr) (n c : Nat) => Lib.run_eql_slice_nil (P := Try.prog) w 41 3 a n c 0 0 Try.underlying41
  go_enter Try.func35, Try.ntmps35
  go_wp2
  go_ret
  exact ⟨rfl, rfl⟩

set_option maxRecDepth 100000 in
set_option maxHeartbeats 400000 in
theorem clone_int_empty (w : World) (a : Addr) (c : Nat) :
    Calls Try.prog 35 #[.slice (some a) 0 c] w fun x w' => x = .returned (.slice (some ⟨w.heap.size, 0, none⟩) 0 0) ∧ w' = w.alloc (.cells #[] 3) := by
  have hnil := fun (w : World) (a : Option Addr) (n c : Nat) => Lib.run_eql_slice_nil (P := Try.prog) w 41 3 a n c 0 0 Try.underlying41
  go_enter Try.func35, Try.ntmps35
  go_wp2
  go_ret
  exact ⟨rfl, rfl⟩

set_option maxRecDepth 100000 in
set_option maxHeartbeats 400000 in
theorem clone_int_some (w : World) (g n c : Nat) (xs : List Value) (hS : Sl w 3 1 (some g) n c xs) (hn : 0 < n) (h1 : ∀ u ∈ xs, u.oneCell' = true) (hb : n ≤ 1048576) :
    Calls Try.prog 35 #[.slice (some ⟨g, 0, none⟩) n c] w (ClonePost w 3 1 n (some g) xs) := by
  obtain ⟨i0, hi0, hz0, hz1, hz2⟩ := info_parts Try.info3
  have HS : Hd _ := ⟨hS⟩
  have H1 : Hd _ := ⟨h1⟩
  clear hS h1
  have hnil := fun (w : World) (a : Option Addr) (n c : Nat) => Lib.run_eql_slice_nil (P := Try.prog) w 41 3 a n c 0 0 Try.underlying41
  go_enter Try.func35, Try.ntmps35
  go_wp2_with (at_builtin; refine wpList_append_sl _ rfl (.tmp 5) (.tmp 6) 41 rfl 3 i0 (.int .i64 0) 1 8 Try.underlying41 hi0 hz0 hz1 hz2 rfl (by decide) (some w.heap.size) 0 0 [] rfl (Sl.empty w 3 1) ⟨g, 0, none⟩ n c xs rfl HS.out.len ?k1 H1.out hn ?b1 ?b2 ?grow)
  case k1 => intro j u hj; rw [Addr.add_lit, Nat.zero_add]; exact (HS.out.alloc _).cell rfl hj
  case b1 => unfold maxLen; omega
  case b2 => omega
  case grow =>
    intro g' c' w1 hS1 hor hM
    have hlt := hS1.lt rfl
    try simp only [Nat.zero_add, List.nil_append] at hS1
    have HX : Hd (Sl w1 3 1 (some g') n c' xs ∧ (w.heap.size ≤ g' ∧ g' < w1.heap.size) ∧ Mod (fun _ => False) w w1) :=
      ⟨hS1, ⟨(by omega), hlt⟩, ((Mod.alloc (fun _ => False) w _).trans hM (fun i hi => Or.inr (Nat.le_of_eq (Eq.symm hi))))⟩
    clear hS1 hor hM hlt
    go_wp2
    go_ret
    exact ⟨some g', c', by simp [sv], HX.out.1, fun x hx => by obtain rfl := Option.some.inj hx; exact HX.out.2.1, HX.out.2.2⟩

theorem clone_int (w : World) (og : Option Nat) (n c : Nat) (xs : List Value) (hS : Sl w 3 1 og n c xs) (h1 : ∀ u ∈ xs, u.oneCell' = true) (hb : n ≤ 1048576) :
    Calls Try.prog 35 #[sv og n c] w (ClonePost w 3 1 n og xs) := by
  cases og with
  | none =>
    have hc := hS.nil rfl
    have hn : n = 0 := by have := hS.le; omega
    subst hc; subst hn
    have hx : xs = [] := List.eq_nil_of_length_eq_zero (by simpa using hS.len)
    subst hx
    exact (clone_int_nil w).mono fun x w' ⟨hx, hw⟩ => ⟨none, 0, hx, Sl.nilOf _ _ _, fun _ h => (by cases h), by rw [hw]; exact Mod.refl _ _⟩
  | some g =>
    by_cases hn : n = 0
    · subst hn
      have hx : xs = [] := List.eq_nil_of_length_eq_zero (by simpa using hS.len)
      subst hx
      exact (clone_int_empty w ⟨g, 0, none⟩ c).mono fun x w' ⟨hx, hw⟩ => ⟨some w.heap.size, 0, hx, by rw [hw]; exact Sl.empty w 3 1, fun x hx => by obtain rfl := Option.some.inj hx; rw [hw]; simp, by rw [hw]; exact Mod.alloc _ _ _⟩
    · exact clone_int_some w g n c xs hS (by omega) h1 hb

set_option maxRecDepth 100000 in
set_option maxHeartbeats 400000 in
theorem clone_place_nil (w : World) :
    Calls Try.prog 36 #[.slice none 0 0] w fun x w' => x = .returned (.slice none 0 0) ∧ w' = w := by
  have hnil := fun (w : World) (a : Option Addr) (n c : Nat) => Lib.run_eql_slice_nil (P := Try.prog) w 67 86 a n c 0 0 Try.underlying67
  go_enter Try.func36, Try.ntmps36
  go_wp2
  go_ret
  exact ⟨rfl, rfl⟩

set_option maxRecDepth 100000 in
set_option maxHeartbeats 400000 in
theorem clone_place_empty (w : World) (a : Addr) (c : Nat) :
    Calls Try.prog 36 #[.slice (some a) 0 c] w fun x w' => x = .returned (.slice (some ⟨w.heap.size, 0, none⟩) 0 0) ∧ w' = w.alloc (.cells #[] 86) := by
  have hnil := fun (w : World) (a : Option Addr) (n c : Nat) => Lib.run_eql_slice_nil (P := Try.prog) w 67 86 a n c 0 0 Try.underlying67
  go_enter Try.func36, Try.ntmps36
  go_wp2
  go_ret
  exact ⟨rfl, rfl⟩

set_option maxRecDepth 100000 in
set_option maxHeartbeats 400000 in
theorem clone_place_some (w : World) (g n c : Nat) (xs : List Value) (hS : Sl w 86 3 (some g) n c xs) (hn : 0 < n) (h1 : ∀ u ∈ xs, u.oneCell' = true) (hb : n ≤ 1048576) :
    Calls Try.prog 36 #[.slice (some ⟨g, 0, none⟩) n c] w (ClonePost w 86 3 n (some g) xs) := by
  obtain ⟨i0, hi0, hz0, hz1, hz2⟩ := info_parts Try.info86
  have HS : Hd _ := ⟨hS⟩
  have H1 : Hd _ := ⟨h1⟩
  clear hS h1
  have hnil := fun (w : World) (a : Option Addr) (n c : Nat) => Lib.run_eql_slice_nil (P := Try.prog) w 67 86 a n c 0 0 Try.underlying67
  go_enter Try.func36, Try.ntmps36
  go_wp2_with (at_builtin; refine wpList_append_sl _ rfl (.tmp 5) (.tmp 6) 67 rfl 86 i0 (.agg #[.slice none 0 0, .slice none 0 0, .bool false]) 3 56 Try.underlying67 hi0 hz0 hz1 hz2 rfl (by decide) (some w.heap.size) 0 0 [] rfl (Sl.empty w 86 3) ⟨g, 0, none⟩ n c xs rfl HS.out.len ?k1 H1.out hn ?b1 ?b2 ?grow)
  case k1 => intro j u hj; rw [Addr.add_lit, Nat.zero_add]; exact (HS.out.alloc _).cell rfl hj
  case b1 => unfold maxLen; omega
  case b2 => omega
  case grow =>
    intro g' c' w1 hS1 hor hM
    have hlt := hS1.lt rfl
    try simp only [Nat.zero_add, List.nil_append] at hS1
    have HX : Hd (Sl w1 86 3 (some g') n c' xs ∧ (w.heap.size ≤ g' ∧ g' < w1.heap.size) ∧ Mod (fun _ => False) w w1) :=
      ⟨hS1, ⟨(by omega), hlt⟩, ((Mod.alloc (fun _ => False) w _).trans hM (fun i hi => Or.inr (Nat.le_of_eq (Eq.symm hi))))⟩
    clear hS1 hor hM hlt
    go_wp2
    go_ret
    exact ⟨some g', c', by simp [sv], HX.out.1, fun x hx => by obtain rfl := Option.some.inj hx; exact HX.out.2.1, HX.out.2.2⟩

theorem clone_place (w : World) (og : Option Nat) (n c : Nat) (xs : List Value) (hS : Sl w 86 3 og n c xs) (h1 : ∀ u ∈ xs, u.oneCell' = true) (hb : n ≤ 1048576) :
    Calls Try.prog 36 #[sv og n c] w (ClonePost w 86 3 n og xs) := by
  cases og with
  | none =>
    have hc := hS.nil rfl
    have hn : n = 0 := by have := hS.le; omega
    subst hc; subst hn
    have hx : xs = [] := List.eq_nil_of_length_eq_zero (by simpa using hS.len)
    subst hx
    exact (clone_place_nil w).mono fun x w' ⟨hx, hw⟩ => ⟨none, 0, hx, Sl.nilOf _ _ _, fun _ h => (by cases h), by rw [hw]; exact Mod.refl _ _⟩
  | some g =>
    by_cases hn : n = 0
    · subst hn
      have hx : xs = [] := List.eq_nil_of_length_eq_zero (by simpa using hS.len)
      subst hx
      exact (clone_place_empty w ⟨g, 0, none⟩ c).mono fun x w' ⟨hx, hw⟩ => ⟨some w.heap.size, 0, hx, by rw [hw]; exact Sl.empty w 86 3, fun x hx => by obtain rfl := Option.some.inj hx; rw [hw]; simp, by rw [hw]; exact Mod.alloc _ _ _⟩
    · exact clone_place_some w g n c xs hS (by omega) h1 hb

set_option maxRecDepth 100000 in
set_option maxHeartbeats 400000 in
theorem clone_cell_nil (w : World) :
    Calls Try.prog 37 #[.slice none 0 0] w fun x w' => x = .returned (.slice none 0 0) ∧ w' = w := by
  have hnil := fun (w : World) (a : Option Addr) (n c : Nat) => Lib.run_eql_slice_nil (P := Try.prog) w 84 89 a n c 0 0 Try.underlying84
  go_enter Try.func37, Try.ntmps37
  go_wp2
  go_ret
  exact ⟨rfl, rfl⟩

set_option maxRecDepth 100000 in
set_option maxHeartbeats 400000 in
theorem clone_cell_empty (w : World) (a : Addr) (c : Nat) :
    Calls Try.prog 37 #[.slice (some a) 0 c] w fun x w' => x = .returned (.slice (some ⟨w.heap.size, 0, none⟩) 0 0) ∧ w' = w.alloc (.cells #[] 89) := by
  have hnil := fun (w : World) (a : Option Addr) (n c : Nat) => Lib.run_eql_slice_nil (P := Try.prog) w 84 89 a n c 0 0 Try.underlying84
  go_enter Try.func37, Try.ntmps37
  go_wp2
  go_ret
  exact ⟨rfl, rfl⟩

set_option maxRecDepth 100000 in
set_option maxHeartbeats 400000 in
theorem clone_cell_some (w : World) (g n c : Nat) (xs : List Value) (hS : Sl w 89 2 (some g) n c xs) (hn : 0 < n) (h1 : ∀ u ∈ xs, u.oneCell' = true) (hb : n ≤ 1048576) :
    Calls Try.prog 37 #[.slice (some ⟨g, 0, none⟩) n c] w (ClonePost w 89 2 n (some g) xs) := by
  obtain ⟨i0, hi0, hz0, hz1, hz2⟩ := info_parts Try.info89
  have HS : Hd _ := ⟨hS⟩
  have H1 : Hd _ := ⟨h1⟩
  clear hS h1
  have hnil := fun (w : World) (a : Option Addr) (n c : Nat) => Lib.run_eql_slice_nil (P := Try.prog) w 84 89 a n c 0 0 Try.underlying84
  go_enter Try.func37, Try.ntmps37
  go_wp2_with (at_builtin; refine wpList_append_sl _ rfl (.tmp 5) (.tmp 6) 84 rfl 89 i0 (.agg #[.int .i64 0, .bool false]) 2 16 Try.underlying84 hi0 hz0 hz1 hz2 rfl (by decide) (some w.heap.size) 0 0 [] rfl (Sl.empty w 89 2) ⟨g, 0, none⟩ n c xs rfl HS.out.len ?k1 H1.out hn ?b1 ?b2 ?grow)
  case k1 => intro j u hj; rw [Addr.add_lit, Nat.zero_add]; exact (HS.out.alloc _).cell rfl hj
  case b1 => unfold maxLen; omega
  case b2 => omega
  case grow =>
    intro g' c' w1 hS1 hor hM
    have hlt := hS1.lt rfl
    try simp only [Nat.zero_add, List.nil_append] at hS1
    have HX : Hd (Sl w1 89 2 (some g') n c' xs ∧ (w.heap.size ≤ g' ∧ g' < w1.heap.size) ∧ Mod (fun _ => False) w w1) :=
      ⟨hS1, ⟨(by omega), hlt⟩, ((Mod.alloc (fun _ => False) w _).trans hM (fun i hi => Or.inr (Nat.le_of_eq (Eq.symm hi))))⟩
    clear hS1 hor hM hlt
    go_wp2
    go_ret
    exact ⟨some g', c', by simp [sv], HX.out.1, fun x hx => by obtain rfl := Option.some.inj hx; exact HX.out.2.1, HX.out.2.2⟩

theorem clone_cell (w : World) (og : Option Nat) (n c : Nat) (xs : List Value) (hS : Sl w 89 2 og n c xs) (h1 : ∀ u ∈ xs, u.oneCell' = true) (hb : n ≤ 1048576) :
    Calls Try.prog 37 #[sv og n c] w (ClonePost w 89 2 n og xs) := by
  cases og with
  | none =>
    have hc := hS.nil rfl
    have hn : n = 0 := by have := hS.le; omega
    subst hc; subst hn
    have hx : xs = [] := List.eq_nil_of_length_eq_zero (by simpa using hS.len)
    subst hx
    exact (clone_cell_nil w).mono fun x w' ⟨hx, hw⟩ => ⟨none, 0, hx, Sl.nilOf _ _ _, fun _ h => (by cases h), by rw [hw]; exact Mod.refl _ _⟩
  | some g =>
    by_cases hn : n = 0
    · subst hn
      have hx : xs = [] := List.eq_nil_of_length_eq_zero (by simpa using hS.len)
      subst hx
      exact (clone_cell_empty w ⟨g, 0, none⟩ c).mono fun x w' ⟨hx, hw⟩ => ⟨some w.heap.size, 0, hx, by rw [hw]; exact Sl.empty w 89 2, fun x hx => by obtain rfl := Option.some.inj hx; rw [hw]; simp, by rw [hw]; exact Mod.alloc _ _ _⟩
    · exact clone_cell_some w g n c xs hS (by omega) h1 hb

end Go.Proofs.Ytpgoogjaoffdoaa
