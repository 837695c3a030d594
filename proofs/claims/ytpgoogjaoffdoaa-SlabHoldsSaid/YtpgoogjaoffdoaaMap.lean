/- A map with integer keys that the call made: what a look-up, a store and a delete do. No program in sight. -/
import Derived.Test.YtpgoogjaoffdoaaM
import Derived.MapKept
import Derived.Carry
namespace Go.Proofs.Ytpgoogjaoffdoaa
set_option linter.unusedVariables false
set_option linter.unusedSimpArgs false
open Go.RowKit

/-- Block r is a map; key n has what f says. -/
def Mp (w : World) (r : Nat) (k : IntKind) (f : Int → Option Value) : Prop :=
  ∃ (es : Array MapEntry) (clock : Nat), w.heap[r]? = some (.map es clock) ∧ (∀ x ∈ es.toList, MapKept.IsKey (.int k) x.key) ∧ (es.toList.map (·.key)).Nodup ∧
    ∀ (n : Int) (v : Value), f n = some v ↔ ∃ x ∈ es.toList, x.key = .int k n ∧ x.val = v

theorem isKey_int (k : IntKind) (n : Int) : MapKept.IsKey (.int k) (.int k n) := by simp [MapKept.IsKey]

section
variable {P : Program} {w : World} {t kt et ty : TypeId} {r : Nat} {k : IntKind} {f : Int → Option Value}

theorem Mp.keep {w' : World} (h : Mp w r k f) (hk : w'.heap[r]? = w.heap[r]?) : Mp w' r k f := let ⟨es, c, h1, h2⟩ := h; ⟨es, c, hk.trans h1, h2⟩
theorem Mp.lt (h : Mp w r k f) : r < w.heap.size := let ⟨_, _, h1, _⟩ := h; (Array.getElem?_eq_some_iff.1 h1).1
theorem Mp.start (w : World) (k : IntKind) : Mp (w.alloc (.map #[] 0)) w.heap.size k (fun _ => none) :=
  ⟨#[], 0, (MapKept.heap_alloc w _).1, by simp, by simp, by simp⟩

theorem find_none {es : Array MapEntry} {n : Int} (hf : ∀ (n : Int) (v : Value), f n = some v ↔ ∃ x ∈ es.toList, x.key = .int k n ∧ x.val = v) (h : ∀ x ∈ es.toList, x.key ≠ .int k n) : f n = none := by
  cases e : f n with
  | none => rfl
  | some v =>
    obtain ⟨x, hx, h1, _⟩ := (hf n v).1 e
    exact absurd h1 (h x hx)

theorem Mp.lookup (h : Mp w r k f) (ht : P.underlying t = some (.map kt et)) (hk : P.underlying kt = some (.int k)) {z : Value} (hz : (zeroValue et).run P w = .ok z w) (n : Int) (c : Bool) :
    (Instr.lookup t (.map (some r)) (.int k n) c).run P w = .ok (if c then .tuple #[(f n).getD z, .bool (f n).isSome] else (f n).getD z) w := by
  obtain ⟨es, clock, hb, hks, hnd, hf⟩ := h
  have hi := isKey_int k n
  rcases MapKept.findNow_spec hi es.toList 0 hks with ⟨h1, h2⟩ | ⟨j, e, h1, h2, h3⟩
  · have e := find_none hf h2
    simp [Instr.lookup, run_underlying ht, MapKept.run_getObj_map hb, MapKept.run_checkKey hk hi, MapKept.run_findKey hk h1, hz, Result.andThen, e]
  · have e := (hf n e.val).2 ⟨e, List.mem_of_getElem? h2, h3, rfl⟩
    simp [Instr.lookup, run_underlying ht, MapKept.run_getObj_map hb, MapKept.run_checkKey hk hi, MapKept.run_findKey hk h1, Result.andThen, e]

theorem mod_set (w : World) (r : Nat) (o : Obj) : Mod (fun j => j = r) w { w with heap := w.heap.setIfInBounds r o } :=
  ⟨rfl, rfl, rfl, by simp, fun k _ hk => by
    show (w.heap.setIfInBounds r o)[k]? = w.heap[k]?
    simp [Ne.symm hk]⟩

theorem Mp.update (h : Mp w r k f) (ht : P.underlying t = some (.map kt et)) (hk : P.underlying kt = some (.int k)) (n : Int) (v : Value) :
    ∃ w', (Instr.mapUpdate t (.map (some r)) (.int k n) v).run P w = .ok () w' ∧ Mp w' r k (fun m => if m = n then some v else f m) ∧ Mod (fun j => j = r) w w' := by
  obtain ⟨es, clock, hb, hks, hnd, hf⟩ := h
  have hi := isKey_int k n
  rcases MapKept.findNow_spec hi es.toList 0 hks with ⟨h1, h2⟩ | ⟨j, e, h1, h2, h3⟩
  · refine ⟨_, by simp [Instr.mapUpdate, run_underlying ht, MapKept.run_getObj_map hb, MapKept.run_checkKey hk hi, MapKept.run_findKey hk h1, MapKept.run_setObj_map _ hb, Result.andThen]; rfl, ?_, mod_set w r _⟩
    refine ⟨_, _, (MapKept.heap_set hb).1, ?_, ?_, ?_⟩
    · intro x hx
      simp only [Array.toList_push, List.mem_append, List.mem_singleton] at hx
      rcases hx with hx | rfl
      · exact hks x hx
      · exact hi
    · simp only [Array.toList_push, List.map_append, List.map_cons, List.map_nil]
      rw [List.nodup_append]
      refine ⟨hnd, by simp, ?_⟩
      intro a ha b hb' hab
      simp only [List.mem_singleton] at hb'
      obtain ⟨x, hx, rfl⟩ := List.mem_map.1 ha
      exact h2 x hx (hab.trans hb')
    · intro m u
      simp only [Array.toList_push, List.mem_append, List.mem_singleton]
      try dsimp only
      by_cases hm : m = n
      · subst hm
        rw [if_pos rfl]
        constructor
        · intro hu
          exact ⟨_, Or.inr rfl, rfl, Option.some.inj hu⟩
        · rintro ⟨x, hx | rfl, hx1, hx2⟩
          · exact absurd hx1 (h2 x hx)
          · rw [← hx2]
      · rw [if_neg hm, hf]
        constructor
        · rintro ⟨x, hx, hx1⟩
          exact ⟨x, Or.inl hx, hx1⟩
        · rintro ⟨x, hx | rfl, hx1, hx2⟩
          · exact ⟨x, hx, hx1, hx2⟩
          · simp at hx1; exact absurd hx1.symm hm
  · have hj : es[j]? = some e := by simpa using h2
    refine ⟨_, by simp [Instr.mapUpdate, run_underlying ht, MapKept.run_getObj_map hb, MapKept.run_checkKey hk hi, MapKept.run_findKey hk h1, hj, h3, MapKept.run_keyThatStays hi, MapKept.run_setObj_map _ hb, Result.andThen]; rfl, ?_, mod_set w r _⟩
    have hkeys := MapKept.modify_keys (es := es) j (fun e => { e with key := .int k n, val := v }) (fun e' he' => by
      rw [hj] at he'
      obtain rfl := Option.some.inj he'
      exact h3.symm)
    have hjl : j < es.toList.length := by simpa using (Array.getElem?_eq_some_iff.1 hj).1
    have hml : (es.modify j fun e => { e with key := .int k n, val := v }).toList = es.toList.set j { e with key := .int k n, val := v } := by
      rw [Array.toList_modify]
      exact List.ext_getElem? fun i => by
        rw [List.getElem?_modify, List.getElem?_set]
        by_cases hij : j = i
        · subst hij
          have hjs : j < es.size := by simpa using hjl
          have hje : es[j] = e := by rw [Array.getElem?_eq_getElem hjs] at hj; exact Option.some.inj hj
          simp [hjl, h2, hjs, hje]
        · simp [hij]
    refine ⟨_, _, (MapKept.heap_set hb).1, ?_, by rw [hkeys]; exact hnd, ?_⟩
    · intro x hx
      have : x.key ∈ (es.modify j fun e => { e with key := .int k n, val := v }).toList.map (·.key) := List.mem_map.2 ⟨x, hx, rfl⟩
      rw [hkeys] at this
      obtain ⟨y, hy, hxy⟩ := List.mem_map.1 this
      rw [← hxy]
      exact hks y hy
    · intro m u
      rw [hml]
      have uniq : ∀ (i : Nat) (x : MapEntry), es.toList[i]? = some x → x.key = .int k n → i = j := by
        intro i x hix hxk
        have h1' : (es.toList.map (·.key))[i]? = some (.int k n) := by rw [List.getElem?_map, hix]; exact congrArg some hxk
        have h2' : (es.toList.map (·.key))[j]? = some (.int k n) := by rw [List.getElem?_map, h2]; exact congrArg some h3
        have hil := (List.getElem?_eq_some_iff.1 h1').1
        exact (List.getElem?_inj hil hnd).1 (h1'.trans h2'.symm)
      try dsimp only
      by_cases hm : m = n
      · subst hm
        rw [if_pos rfl]
        constructor
        · intro hu
          exact ⟨_, List.mem_of_getElem? (i := j) (by rw [List.getElem?_set_self hjl]), rfl, Option.some.inj hu⟩
        · rintro ⟨x, hx, hx1, hx2⟩
          obtain ⟨i, hi'⟩ := List.mem_iff_getElem?.1 hx
          by_cases hij : j = i
          · subst hij
            rw [List.getElem?_set_self hjl] at hi'
            obtain rfl := Option.some.inj hi'
            rw [← hx2]
          · rw [List.getElem?_set_ne hij] at hi'
            exact absurd (uniq i x hi' hx1).symm hij
      · rw [if_neg hm, hf]
        constructor
        · rintro ⟨x, hx, hx1, hx2⟩
          obtain ⟨i, hi'⟩ := List.mem_iff_getElem?.1 hx
          by_cases hij : j = i
          · subst hij
            rw [h2] at hi'
            obtain rfl := Option.some.inj hi'
            rw [h3] at hx1
            simp at hx1
            exact absurd hx1.symm hm
          · exact ⟨x, List.mem_of_getElem? (i := i) (by rw [List.getElem?_set_ne hij]; exact hi'), hx1, hx2⟩
        · rintro ⟨x, hx, hx1, hx2⟩
          obtain ⟨i, hi'⟩ := List.mem_iff_getElem?.1 hx
          by_cases hij : j = i
          · subst hij
            rw [List.getElem?_set_self hjl] at hi'
            obtain rfl := Option.some.inj hi'
            simp at hx1
            exact absurd hx1.symm hm
          · rw [List.getElem?_set_ne hij] at hi'
            exact ⟨x, List.mem_of_getElem? hi', hx1, hx2⟩

theorem Mp.delete (h : Mp w r k f) (ht : P.underlying t = some (.map kt et)) (hk : P.underlying kt = some (.int k)) (n : Int) :
    ∃ w', (Builtin.delete_ #[t, kt] ty #[.map (some r), .int k n]).run P w = .ok (.tuple #[]) w' ∧ Mp w' r k (fun m => if m = n then none else f m) ∧ Mod (fun j => j = r) w w' := by
  obtain ⟨es, clock, hb, hks, hnd, hf⟩ := h
  have hi := isKey_int k n
  rcases MapKept.findNow_spec hi es.toList 0 hks with ⟨h1, h2⟩ | ⟨j, e, h1, h2, h3⟩
  · refine ⟨_, by simp [Builtin.delete_, run_underlying ht, MapKept.run_getObj_map hb, MapKept.run_checkKey hk hi, MapKept.run_findKey hk h1, MapKept.run_setObj_map _ hb, Result.andThen]; rfl, ?_, mod_set w r _⟩
    refine ⟨_, _, (MapKept.heap_set hb).1, hks, hnd, fun m u => ?_⟩
    try dsimp only
    by_cases hm : m = n
    · subst hm
      rw [if_pos rfl]
      exact ⟨fun h => by (cases h), fun ⟨x, hx, hx1, _⟩ => absurd hx1 (h2 x hx)⟩
    · rw [if_neg hm]; exact hf m u
  · have hj : es[j]? = some e := by simpa using h2
    have hjl : j < es.size := (Array.getElem?_eq_some_iff.1 hj).1
    refine ⟨_, by simp [Builtin.delete_, run_underlying ht, MapKept.run_getObj_map hb, MapKept.run_checkKey hk hi, MapKept.run_findKey hk h1, MapKept.run_setObj_map _ hb, Result.andThen]; rfl, ?_, mod_set w r _⟩
    have hel : (es.eraseIdxIfInBounds j).toList = es.toList.eraseIdx j := by simp [Array.eraseIdxIfInBounds, hjl]
    have hsub : (es.toList.eraseIdx j).Sublist es.toList := List.eraseIdx_sublist _ _
    refine ⟨_, _, (MapKept.heap_set hb).1, ?_, ?_, fun m u => ?_⟩
    · rw [hel]; exact fun x hx => hks x (hsub.subset hx)
    · rw [hel]; exact (hsub.map _).nodup hnd
    · rw [hel]
      have hmem : ∀ x, x ∈ es.toList.eraseIdx j ↔ ∃ i, i ≠ j ∧ es.toList[i]? = some x := fun x => List.mem_eraseIdx_iff_getElem?
      try dsimp only
      by_cases hm : m = n
      · subst hm
        rw [if_pos rfl]
        refine ⟨fun h => by (cases h), ?_⟩
        rintro ⟨x, hx, hx1, _⟩
        obtain ⟨i, hij, hi'⟩ := (hmem x).1 hx
        have h1' : (es.toList.map (·.key))[i]? = some (.int k m) := by rw [List.getElem?_map, hi']; exact congrArg some hx1
        have h2' : (es.toList.map (·.key))[j]? = some (.int k m) := by rw [List.getElem?_map, h2]; exact congrArg some h3
        exact absurd ((List.getElem?_inj (List.getElem?_eq_some_iff.1 h1').1 hnd).1 (h1'.trans h2'.symm)) hij
      · rw [if_neg hm, hf]
        constructor
        · rintro ⟨x, hx, hx1, hx2⟩
          obtain ⟨i, hi'⟩ := List.mem_iff_getElem?.1 hx
          refine ⟨x, (hmem x).2 ⟨i, ?_, hi'⟩, hx1, hx2⟩
          rintro rfl
          rw [h2] at hi'
          obtain rfl := Option.some.inj hi'
          rw [h3] at hx1
          simp at hx1
          exact hm hx1.symm
        · rintro ⟨x, hx, hx1, hx2⟩
          exact ⟨x, hsub.subset hx, hx1, hx2⟩
end
end Go.Proofs.Ytpgoogjaoffdoaa
