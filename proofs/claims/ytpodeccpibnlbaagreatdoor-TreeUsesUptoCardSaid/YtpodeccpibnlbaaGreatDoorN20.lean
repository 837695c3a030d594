/- A range over a function whose loop variable lies in a box of its own, laid anew each round. No program in sight. -/
import Derived.Test.YtpodeccpibnlbaaGreatDoorN18
import Derived.RangeFuncFrom
namespace Go.Proofs.YtpodeccpibnlbaaGreatDoor
set_option linter.unusedVariables false
set_option linter.unusedSimpArgs false
open Go.RowKit
/-- The law: what the round's first part leaves is A; the round goes on from there. -/
theorem wpIn_rangeFunc_box {α : Type} {P : Program} {n : Nat} {g : Operand} {ps : Array Tmp} {assign body : Code} {Q : Exit → Act → World → Prop} {a : Act} {w : World} (h1 : 1 ≤ n) {gf : Nat} {lb : Array Value} (hg : a.eval g = .func (.func gf) #[] lb)
    (eg : ∀ args w, (callFunc gf args).run P w = .ok (.enter gf args) w) {encs : α → Array Value} {C : Nat → Prop} {S Sp : List α → Prop} {N : Nat} {w0 : World} (hseq : SeqStopsK Fence.wide (n - 1) P gf lb encs (KC C) S Sp N w0) (hb0 : Below w0.heap.size w0 w) (hps : ∀ x, (encs x).size = ps.size)
    (I : List α → World → Prop) (Ix : Code → List α → World → Prop) (A : List α → α → Act → World → Prop) (hI : OwnFrom w.heap.size I) (hIx : ∀ c, OwnFrom w.heap.size (Ix c)) (hA : ∀ pre x a1, OwnFrom w.heap.size (fun (_ : Unit) W => A pre x a1 W)) (h0 : I [] w)
    (hassign : ∀ (l : Nat) (pre : List α) (x : α) (W : World) (K : Act → World → Prop), I pre W → pre.length < N → (∀ a1 W1, A pre x a1 W1 → KeepsOthers W W1 → KC C W W1 → K a1 W1) →
      assign.wpIn (Fence.wide.inRound l) (n - 1 - 1) P (Exit.then K (fun _ _ _ => False)) { tmps := (ps.zip (encs x)).foldl (fun t (p, v) => t.setIfInBounds p v) a.tmps, defers := [] } W)
    (hbody : ∀ (l : Nat) (pre : List α) (x : α) (a1 : Act) (W : World), A pre x a1 W → body.wpIn (Fence.wide.inRound l) (n - 1 - 1) P (ownPostK (KC C) I Ix (pre ++ [x]) W) a1 W)
    (hdone : ∀ (D : Nat) (xs : List α) (W : World), w.heap.size ≤ D → S xs → I xs W → W.heap[D]? = some (.deferred (some [])) → Q .normal { a with defers := { target := .collected D, args := #[] } :: a.defers } W)
    (hstop : ∀ (D : Nat) (c : Code) (pre : List α) (W : World), w.heap.size ≤ D → Sp pre → Ix c pre W → W.heap[D]? = some (.deferred (some [])) → c.wpIn Fence.wide n P Q { a with defers := { target := .collected D, args := #[] } :: a.defers } W) :
    (Code.rangeFunc g ps assign body).wpIn Fence.wide n P Q a w := by
  apply wpIn_rangeFunc
  intro fn hfn
  obtain ⟨B, hB⟩ : ∃ B, w.heap.size = B := ⟨_, rfl⟩
  rw [hB] at hI hIx hA hdone hstop
  obtain ⟨R, hR⟩ : ∃ R : LoopState → Option Code → Loop, R = fun st pe => { state := st, pending := pe, fn, tmps := a.tmps, params := ps, assign, body, defers := B } := ⟨_, rfl⟩
  have Rst : ∀ st pe, (R st pe).state = st := fun st pe => by rw [hR]
  obtain ⟨V, hV⟩ : ∃ V, (w.alloc (.deferred (some []))).alloc (.loop (R .ready none)) = V := ⟨_, rfl⟩
  have vD : V.heap[B]? = some (.deferred (some [])) := by
    rw [← hV, ← hB]
    exact (Below.heap_alloc _ _ _ (by simp)).trans (World.alloc_heap_new w _)
  have vL : V.heap[B + 1]? = some (.loop (R .ready none)) := by
    have h := World.alloc_heap_new (w.alloc (.deferred (some []))) (.loop (R .ready none))
    rw [World.size_alloc, hV, hB] at h
    exact h
  have vI : I [] V := by rw [← hV]; exact hI.alloc _ (hI.alloc _ h0)
  have vB : Below w0.heap.size w0 V := by
    rw [← hV]
    exact hb0.trans ((((Below.refl _ w).alloc (Nat.le_refl _) _).alloc (by simp) _).mono hb0.size)
  have vS : B + 2 = V.heap.size := by rw [← hV, ← hB]; simp
  -- what may turn beside the invariant: an object that is no cells, at B or behind it
  have side : ∀ {A' B' : World} {row : Option Nat}, (∀ r, row = some r → V.heap.size ≤ r ∧ ∃ o : Obj, A'.heap[r]? = some o ∧ o.isWalk = true) → ∀ r, row = some r → B ≤ r ∧ ∃ o : Obj, A'.heap[r]? = some o ∧ o.isCells = false := fun h r e => by
    obtain ⟨k1, o, k2, k3⟩ := h r e
    exact ⟨by omega, o, k2, Obj.not_cells_of_walk k3⟩
  refine ⟨B + 1, [{ target := .collected B, args := #[] }], V, { target := .fn (.func gf) lb, args := #[.func (.yield (B + 1)) #[] #[]] }, V, gf, #[.func (.yield (B + 1)) #[] #[]] ++ lb, V, ?_, ?_, ?_, ?_, fun _ => h1, ?_⟩
  · rw [← hV, ← hB, hR, ← hB]
    exact run_enterLoop_outer _ _ _ _ _
  · simp only [resolve, hg]
    simp [go_sem]
  · intro f' hf'
    trivial
  · simp [invoke, go_sem, eg]
  refine (hseq (B + 1) (fun pre W => I pre W ∧ W.heap[B + 1]? = some (.loop (R .ready none)) ∧ W.heap[B]? = some (.deferred (some [])))
    (fun pre W => ∃ c, Ix c pre W ∧ W.heap[B + 1]? = some (.loop (R .done (some c))) ∧ W.heap[B]? = some (.deferred (some []))) V vB ?j1 ?j2 ?round ⟨vI, vL, vD⟩).mono ?behind
  case j1 =>
    rintro s A' B' row ⟨k1, k2, k3⟩ hg' hr
    exact ⟨hI s A' B' row k1 hg' (side (B' := B') hr), (grownBy_keeps hg' (fun r e => (hr r e).2) k2 rfl).trans k2, (grownBy_keeps hg' (fun r e => (hr r e).2) k3 rfl).trans k3⟩
  case j2 =>
    rintro s A' B' row ⟨c, k1, k2, k3⟩ hg' hr
    exact ⟨c, hIx c s A' B' row k1 hg' (side (B' := B') hr), (grownBy_keeps hg' (fun r e => (hr r e).2) k2 rfl).trans k2, (grownBy_keeps hg' (fun r e => (hr r e).2) k3 rfl).trans k3⟩
  case round =>
    rintro pre x W ⟨hi, hl, hk⟩ hlen
    have hy := run_yield (P := P) (args := encs x) hl (by rw [hR]; exact hps x)
    rw [hR] at hy
    refine ⟨fn, _, assign, body, hy, roundIn_of_wpIn hfn (hassign _ pre x W _ hi hlen fun a1 W1 ha hko hkc => ?_)⟩
    have l1 : W1.heap[B + 1]? = some (.loop (R .ready none)) := hko.same _ _ hl rfl
    have d1 : W1.heap[B]? = some (.deferred (some [])) := hko.same _ _ hk rfl
    have lt1 : B + 1 < W1.heap.size := (Array.getElem?_eq_some_iff.1 l1).1
    obtain ⟨busy, hbusy⟩ : ∃ o : Obj, o = .loop { R .ready none with state := .busy } := ⟨_, rfl⟩
    refine ⟨W1.putObj (B + 1) busy, by rw [hbusy]; exact run_beginRound l1 (Rst _ _), ?_⟩
    have l2 : (W1.putObj (B + 1) busy).heap[B + 1]? = some busy := World.putObj_heap_same lt1
    have d2 : (W1.putObj (B + 1) busy).heap[B]? = some (.deferred (some [])) := (World.putObj_heap_other (by omega)).trans d1
    have kc2 : KC C W (W1.putObj (B + 1) busy) := hkc.trans (KC.putObj W1 _ _ _ l1 rfl)
    have ncb : busy.isCells = false := by rw [hbusy]; rfl
    refine wpIn_mono (hbody _ pre x a1 _ ((hA pre x a1).putObj (s := ()) busy ha (by omega) l1 rfl)) ?_
    -- the end of a round: the state is put, the way out told
    have fin : ∀ (jump : Option Code) (W3 : World), KeepsOthers (W1.putObj (B + 1) busy) W3 → ∃ W4, (Instr.endRound (B + 1) jump).run P W3 = .ok (.bool jump.isNone) W4 ∧ W4 = W3.putObj (B + 1) (.loop (R (if jump.isNone then .ready else .done) jump)) ∧
        W3.heap[B + 1]? = some busy ∧ W4.heap[B + 1]? = some (.loop (R (if jump.isNone then .ready else .done) jump)) ∧ W4.heap[B]? = some (.deferred (some [])) := fun jump W3 h3 => by
      have l3 := h3.same _ _ l2 ncb
      have l3' := l3
      rw [hbusy] at l3'
      have he := run_endRound (P := P) jump l3'
      have hRR : ({ { R .ready none with state := .busy } with state := if jump.isNone then .ready else .done, pending := jump } : Loop) = R (if jump.isNone then .ready else .done) jump := by rw [hR]
      exact ⟨_, by rw [← hRR]; exact he, rfl, l3, World.putObj_heap_same (Array.getElem?_eq_some_iff.1 l3).1, (World.putObj_heap_other (by omega)).trans (h3.same _ _ d2 rfl)⟩
    intro e a3 W3 hp
    cases e with
    | normal =>
      obtain ⟨p1, p2, p3⟩ := hp
      obtain ⟨W4, f1, rfl, f2, f3, f4⟩ := fin none W3 p1
      exact ⟨_, _, f1, .inl ⟨rfl, ⟨hI.putObj _ p3 (by omega) f2 ncb, f3, f4⟩, (kc2.trans p2).trans (KC.putObj W3 _ _ _ f2 ncb)⟩⟩
    | ret =>
      obtain ⟨p1, p3⟩ := hp
      obtain ⟨W4, f1, rfl, f2, f3, f4⟩ := fin (some .ret) W3 p1
      exact ⟨_, _, f1, .inr ⟨rfl, .ret, (hIx _).putObj _ p3 (by omega) f2 ncb, f3, f4⟩⟩
    | exit id =>
      obtain ⟨p1, p3⟩ := hp
      obtain ⟨W4, f1, rfl, f2, f3, f4⟩ := fin (some (.exit id)) W3 p1
      exact ⟨_, _, f1, .inr ⟨rfl, .exit id, (hIx _).putObj _ p3 (by omega) f2 ncb, f3, f4⟩⟩
    | goto t =>
      obtain ⟨p1, p3⟩ := hp
      obtain ⟨W4, f1, rfl, f2, f3, f4⟩ := fin (some (.goto t)) W3 p1
      exact ⟨_, _, f1, .inr ⟨rfl, .goto t, (hIx _).putObj _ p3 (by omega) f2 ncb, f3, f4⟩⟩
    | panic ch => exact hp.elim
    | outgrown => exact hp.elim
  case behind =>
    have out : ∀ (jump : Option Code) (st : LoopState) (W2 : World), W2.heap[B + 1]? = some (.loop (R st jump)) → st ≠ .busy → W2.heap[B]? = some (.deferred (some [])) →
        ∃ W3, (Instr.endLoop (B + 1)).run P W2 = .ok jump W3 ∧ ∃ o, W3 = W2.putObj (B + 1) o ∧ W3.heap[B]? = some (.deferred (some [])) := fun jump st W2 l2 hs d2 => by
      have he := run_endLoop (P := P) l2 (by rw [Rst]; exact hs)
      have hp : (R st jump).pending = jump := by rw [hR]
      rw [hp] at he
      exact ⟨_, he, _, rfl, (World.putObj_heap_other (by omega)).trans d2⟩
    rintro e W2 ⟨⟨v, rfl⟩, (⟨xs, k1, k2, k3, k4⟩ | ⟨pre, k1, c, k2, k3, k4⟩)⟩
    · obtain ⟨W3, o1, o, rfl, o2⟩ := out none .ready W2 k3 (by simp) k4
      exact ⟨none, _, o1, hdone _ xs _ (Nat.le_refl _) k1 (hI.putObj _ k2 (by omega) k3 rfl) o2⟩
    · obtain ⟨W3, o1, o, rfl, o2⟩ := out (some c) .done W2 k3 (by simp) k4
      exact ⟨some c, _, o1, hstop _ c pre _ (Nat.le_refl _) k1 ((hIx c).putObj _ k2 (by omega) k3 rfl) o2⟩
theorem zip_one (T : Array Value) (p : Tmp) (v : Value) : ((#[p].zip #[v]).foldl (fun t (p, v) => t.setIfInBounds p v) T) = T.setIfInBounds p v := by simp
/-- One variable, put into slot p0; its box's address in slot q. -/
theorem wpIn_rangeFunc_box1 {α : Type} {P : Program} {n : Nat} {g : Operand} {p0 q : Tmp} {assign body : Code} {Q : Exit → Act → World → Prop} {a : Act} {w : World} (h1 : 1 ≤ n) {gf : Nat} {lb : Array Value} (hg : a.eval g = .func (.func gf) #[] lb)
    (eg : ∀ args w, (callFunc gf args).run P w = .ok (.enter gf args) w) {enc : α → Value} {C : Nat → Prop} {S Sp : List α → Prop} {N : Nat} {w0 : World} (hseq : SeqStopsK Fence.wide (n - 1) P gf lb (fun x => #[enc x]) (KC C) S Sp N w0) (hb0 : Below w0.heap.size w0 w)
    (I : List α → World → Prop) (Ix : Code → List α → World → Prop) (B : List α → α → Nat → World → Prop) (hI : OwnFrom w.heap.size I) (hIx : ∀ c, OwnFrom w.heap.size (Ix c)) (hB : ∀ pre x bp, OwnFrom w.heap.size (fun (_ : Unit) W => B pre x bp W)) (h0 : I [] w)
    (hassign : ∀ (l : Nat) (pre : List α) (x : α) (W : World) (K : Act → World → Prop), I pre W → pre.length < N →
      (∀ bp W1, B pre x bp W1 → KeepsOthers W W1 → KC C W W1 → K { tmps := (a.tmps.setIfInBounds p0 (enc x)).setIfInBounds q (.pointer (some ⟨bp, 0, none⟩)), defers := [] } W1) →
      assign.wpIn (Fence.wide.inRound l) (n - 1 - 1) P (Exit.then K (fun _ _ _ => False)) { tmps := a.tmps.setIfInBounds p0 (enc x), defers := [] } W)
    (hbody : ∀ (l : Nat) (pre : List α) (x : α) (bp : Nat) (W : World), B pre x bp W → body.wpIn (Fence.wide.inRound l) (n - 1 - 1) P (ownPostK (KC C) I Ix (pre ++ [x]) W) { tmps := (a.tmps.setIfInBounds p0 (enc x)).setIfInBounds q (.pointer (some ⟨bp, 0, none⟩)), defers := [] } W)
    (hdone : ∀ (D : Nat) (xs : List α) (W : World), w.heap.size ≤ D → S xs → I xs W → W.heap[D]? = some (.deferred (some [])) → Q .normal { a with defers := { target := .collected D, args := #[] } :: a.defers } W)
    (hstop : ∀ (D : Nat) (c : Code) (pre : List α) (W : World), w.heap.size ≤ D → Sp pre → Ix c pre W → W.heap[D]? = some (.deferred (some [])) → c.wpIn Fence.wide n P Q { a with defers := { target := .collected D, args := #[] } :: a.defers } W) :
    (Code.rangeFunc g #[p0] assign body).wpIn Fence.wide n P Q a w := by
  refine wpIn_rangeFunc_box h1 hg eg hseq hb0 (fun _ => rfl) I Ix (fun pre x a1 W1 => ∃ bp, a1 = { tmps := (a.tmps.setIfInBounds p0 (enc x)).setIfInBounds q (.pointer (some ⟨bp, 0, none⟩)), defers := [] } ∧ B pre x bp W1) hI hIx ?_ h0 ?_ ?_ hdone hstop
  · rintro pre x a1 s A' B' row ⟨bp, k1, k2⟩ hg' hr
    exact ⟨bp, k1, hB pre x bp s A' B' row k2 hg' hr⟩
  · intro l pre x W K hi hlen hK
    rw [zip_one]
    exact hassign l pre x W K hi hlen (fun bp W1 hb hko hkc => hK _ _ ⟨bp, rfl, hb⟩ hko hkc)
  · rintro l pre x a1 W ⟨bp, rfl, hb⟩
    exact hbody l pre x bp W hb
end Go.Proofs.YtpodeccpibnlbaaGreatDoor
