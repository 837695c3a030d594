/- Vars: Grow, Concat, walked. Vars, and the law's program, walked. The law's program, as data. No program in sight. -/
import Derived.Test.YtpodeccpibnlbaaGreatDoorG17
import Derived.Test.YtpodeccpibnlbaaGreatDoorG11
import Derived.Lib.AppendZerosOnto
namespace Go.Proofs.YtpodeccpibnlbaaGreatDoor
set_option linter.unusedVariables false
set_option linter.unusedSimpArgs false
open Go.RowKit

theorem Mod.cell' {w w' : World} (h : Mod (fun _ => False) w w') {a : Addr} {v : Value} (hc : w.cell? a = some v) : w'.cell? a = some v := by
  rw [← hc]; exact World.cell?_of_block (h.block _ (World.block_lt_of_cell? w _ hc) (fun h => h))
theorem int3 : Tryz.prog.underlying 3 = some (.int .i64) := by kernel_rfl

set_option maxRecDepth 100000 in
set_option maxHeartbeats 2000000 in
theorem grow_c (n : Nat) (hn : n ≤ 2097152) (w : World) : Calls Tryz.prog 127 #[.slice none 0 0, .int .i64 (n : Int)] w fun e w' => ∃ v', e = .returned v' ∧ w'.ownsRow w.heap.size 52 2 v' 0 [] ∧ Mod (fun _ => False) w w' := by
  by_cases h0 : n = 0
  · subst h0
    go_enter Tryz.func127, Tryz.ntmps127
    go_wp2
    go_ret
    exact ⟨_, rfl, World.ownsRow_nil _ _ _ _, Mod.refl _ _⟩
  · obtain ⟨i0, hi, hz, hs, hb⟩ := info_parts info_52
    have hrz : ∀ ty, (Builtin.append_ #[42, 3] ty #[.slice none 0 0, .int .i64 (n : Int)]).run Tryz.prog w =
      .ok (.slice (some ⟨w.heap.size, 0, none⟩) n (grownCap w n 0 52)) (w.drew.alloc (.cells (#[] ++ Builtin.zeroCells #[.string { data := #[] }, .string { data := #[] }] n ++ Builtin.zeroCells #[.string { data := #[] }, .string { data := #[] }] (grownCap w n 0 52 - n)) 52)) := fun ty => by
      have h := Lib.run_append_grow_zeros w 42 3 ty 52 i0 (.agg #[.string { data := #[] }, .string { data := #[] }]) .i64 .i64 Tryz.underlying42 int3 hi hz none 0 0 [] (run_firstCells_none w.drew i0.size 0 0 0) n (by omega) (by rw [hs]; decide) (by omega) (by omega) (by rw [hb]; omega)
        (by rw [Nat.zero_add, hb]; exact growslice_fits (by omega) (by omega))
      rw [Nat.zero_add] at h
      exact h
    have hGn : n ≤ grownCap w n 0 52 := grownCap_ge w _ _ _
    have hGm := grownCap_le_maxLen w n 0 52 (by unfold maxLen; omega)
    obtain ⟨G, hG⟩ : ∃ G, G = grownCap w n 0 52 := ⟨_, rfl⟩
    rw [← hG] at hrz hGn hGm
    have HGM : Hd _ := ⟨hGm⟩
    have hG63 : G ≤ 9223372036854775807 := by unfold maxLen at hGm; omega
    clear hG hi hz hs hb hGm
    have h1 : ¬ ((n : Int) < 0) := by omega
    have h4 : (n : Int) > 0 := by omega
    go_enter Tryz.func127, Tryz.ntmps127
    go_wp2_with (at_builtin; refine Lib.wpList_append_run _ rfl _ _ _ _ rfl _ _ rfl rfl _ _ (hrz _) ?_)
    all_goals (go_ret; refine ⟨_, rfl, ⟨by simp, .inr ⟨w.heap.size, G, _, rfl, Nat.le_refl _, heap_alloc_new w.drew _, Nat.zero_le _, HGM.out, ?_, by simp⟩⟩, (Mod.drew _ _).trans (Mod.alloc _ _ _) (fun _ h => Or.inl h)⟩; simp [Builtin.zeroCells]; omega)

section
variable {S : Nat → Prop} {w0 : World}
set_option maxRecDepth 100000 in
set_option maxHeartbeats 4000000 in
theorem Concat_c {oa ob : Option Addr} {la ca lb cb : Nat} {l m : List Vr} (h : Vrs S w0 oa la ca l) (h2 : Vrs S w0 ob lb cb m) (w : World) (hw : Mod (fun _ => False) w0 w) (g : Nat)
    (hg : w.heap[g]? = some (.cells #[.slice oa la ca, .slice ob lb cb] 42)) (hsum : l.length + m.length ≤ 1048576) :
    Calls Tryz.prog 79 #[.slice (some ⟨g, 0, none⟩) 2 2] w fun e w' => ∃ oc cc, e = .returned (.slice oc (l ++ m).length cc) ∧ Mod (fun _ => False) w w' ∧ Vrs (fun b => w.heap.size ≤ b) w' oc (l ++ m).length cc (l ++ m) := by
  have hk := h.keep (hw.kp S) (fun _ _ h => h)
  have hk2 := h2.keep (hw.kp S) (fun _ _ h => h)
  have b1 := hk.hbig
  have b2 := hk2.hbig
  have e1 := hk.hlen
  have e2 := hk2.hlen
  subst e1
  subst e2
  obtain ⟨nA, a1, a0, a2, a3, a4⟩ := hk.newsAny (fun v x hv => one_vr hv)
  obtain ⟨nB, c1, c0, c2, c3, c4⟩ := hk2.newsAny (fun v x hv => one_vr hv)
  have HA : Hd (∀ wr, Mod (fun _ => False) w wr → ∀ a, oa = some a → ∀ j u, nA[j]? = some u → wr.cell? (a.add j) = some u) := ⟨fun wr hm a ha j u hj => hm.cell' (a2 a ha j u hj)⟩
  have HB : Hd (∀ wr, Mod (fun _ => False) w wr → ∀ a, ob = some a → ∀ j u, nB[j]? = some u → wr.cell? (a.add j) = some u) := ⟨fun wr hm a ha j u hj => hm.cell' (c2 a ha j u hj)⟩
  have HA0 : Hd _ := ⟨a0⟩
  have HB0 : Hd _ := ⟨c0⟩
  have HA3 : Hd _ := ⟨a3⟩
  have HB3 : Hd _ := ⟨c3⟩
  have HA1 : Hd _ := ⟨a1⟩
  have HB1 : Hd _ := ⟨c1⟩
  have HE : Hd (∀ i x, (l ++ m)[i]? = some x → ∃ v, vrV v x ∧ ∀ k u, v.cells[k]? = some u → (nA ++ nB)[i * 2 + k]? = some u) := ⟨fun i x hi => by
    by_cases hlt : i < l.length
    · rw [List.getElem?_append_left hlt] at hi
      obtain ⟨v, h1, h3⟩ := a4 i x hi
      refine ⟨v, h1, fun k u hu => ?_⟩
      have := h3 k u hu
      rw [List.getElem?_append_left (List.getElem?_eq_some_iff.1 this).1]
      exact this
    · rw [List.getElem?_append_right (by omega)] at hi
      obtain ⟨v, h1, h3⟩ := c4 _ x hi
      refine ⟨v, h1, fun k u hu => ?_⟩
      have := h3 k u hu
      rw [List.getElem?_append_right (by omega), show i * 2 + k - nA.length = (i - l.length) * 2 + k by omega]
      exact this⟩
  have HG : Hd _ := ⟨hg⟩
  have g0 : w.cell? ⟨g, 0, none⟩ = some (.slice oa l.length ca) := by simp [World.cell?, hg]
  have g1 : w.cell? ⟨g, 1, none⟩ = some (.slice ob m.length cb) := by simp [World.cell?, hg]
  clear h h2 hk hk2 a2 a3 a4 c2 c3 c4 a0 c0 hw hg a1 c1
  have HSM : Hd _ := ⟨hsum⟩
  go_enter Tryz.func79, Tryz.ntmps79
  go_wp2_with fail
  go_loopg [3, 11] 2 (fun gk v3 v11 wr => wr = w ∧ ∃ k t : Nat, v11 = .int .i64 k ∧ v3 = .int .i64 t ∧ k + gk = 2 ∧ (k = 0 ∧ t = 0 ∨ k = 1 ∧ t = l.length ∨ k = 2 ∧ t = l.length + m.length))
  case atStart => exact ⟨rfl, 0, 0, rfl, rfl, rfl, Or.inl ⟨rfl, rfl⟩⟩
  case round =>
    obtain ⟨hwr, k, t, rfl, rfl, hk, hc⟩ := hrel
    have hwr' := hwr.symm
    subst hwr'
    clear hwr
    rcases hc with ⟨rfl, rfl⟩ | ⟨rfl, rfl⟩ | ⟨rfl, rfl⟩
    · go_wp2_with fail
      go_roundg 1
      case measure => omega
      case rel => exact ⟨rfl, 1, l.length, by go_num, by go_num, rfl, Or.inr (Or.inl ⟨rfl, rfl⟩)⟩
    · go_wp2_with fail
      go_roundg 0
      case measure => omega
      case rel => exact ⟨rfl, 2, l.length + m.length, by go_num, by go_num, rfl, Or.inr (Or.inr ⟨rfl, rfl⟩)⟩
    · have HGR : Hd _ := ⟨grow_c (l.length + m.length) (by omega) w⟩
      go_wp2_with fail
      refine HGR.out.mono ?_
      rintro e w1 ⟨v', rfl, hown, hM1⟩
      have HM1 : Hd _ := ⟨hM1⟩
      have HO1 : Hd _ := ⟨hown⟩
      have g0' : w1.cell? ⟨g, 0, none⟩ = some (.slice oa l.length ca) := hM1.cell' g0
      have g1' : w1.cell? ⟨g, 1, none⟩ = some (.slice ob m.length cb) := hM1.cell' g1
      clear hM1 hown HGR
      obtain ⟨i0, hi, hz0, hz1, hz2⟩ := info_parts info_52
      go_wp2_with fail
      go_loopg [6, 27] 2 (fun gk v6 v27 wr => ∃ k n : Nat, ∃ xs : List Value, ∃ v, v = v6 ∧ v27 = .int .i64 k ∧ k + gk = 2 ∧ Hd (Mod (fun _ => False) w wr) ∧ Hd (wr.ownsRow w.heap.size 52 2 v n xs) ∧ (k = 0 ∧ n = 0 ∧ xs = [] ∨ k = 1 ∧ n = l.length ∧ xs = nA ∨ k = 2 ∧ n = l.length + m.length ∧ xs = nA ++ nB))
      case atStart => exact ⟨0, 0, [], _, rfl, rfl, rfl, HM1, HO1, Or.inl ⟨rfl, rfl, rfl⟩⟩
      case round =>
        clear g0' g1' HM1 HO1
        obtain ⟨k, n, xs, v6, hv6, rfl, hk, HM, HO, hc⟩ := hrel
        subst hv6
        rcases hc with ⟨rfl, rfl, rfl⟩ | ⟨rfl, rfl, rfl⟩ | ⟨rfl, rfl, rfl⟩
        · have g0' : wr.cell? ⟨g, 0, none⟩ = some (.slice oa l.length ca) := HM.out.cell' g0
          go_wp2_with (at_builtin; refine wpList_append_any _ rfl _ _ 42 rfl w.heap.size 52 i0 (.agg #[.string { data := #[] }, .string { data := #[] }]) 2 32 Tryz.underlying42 hi hz0 hz1 hz2 (by simp [Value.cells]) (by decide) v6 0 [] rfl HO.out oa l.length ca nA rfl HA1.out HA0.out ?q2 HA3.out ?q4 ?q5 ?q6 ?_)
          case q2 => exact HA.out _ HM.out
          case q4 => unfold maxLen; omega
          case q5 => omega
          case q6 => exact HM.out.size
          intro v' w2 hown hgrow hnil
          have HM2 : Hd (Mod (fun _ => False) w w2) := ⟨Mod.of_grown HM.out hgrow (fun k hk => (HO.out.lt k hk).1)⟩
          have HO2 : Hd _ := ⟨hown⟩
          clear hown hgrow hnil
          go_wp2_with fail
          go_roundg 1
          case measure => omega
          case rel => exact ⟨1, l.length, _, _, rfl, by go_num, rfl, HM2, HO2, Or.inr (Or.inl ⟨rfl, rfl, rfl⟩)⟩
        · have g1' : wr.cell? ⟨g, 1, none⟩ = some (.slice ob m.length cb) := HM.out.cell' g1
          go_wp2_with (at_builtin; refine wpList_append_any _ rfl _ _ 42 rfl w.heap.size 52 i0 (.agg #[.string { data := #[] }, .string { data := #[] }]) 2 32 Tryz.underlying42 hi hz0 hz1 hz2 (by simp [Value.cells]) (by decide) v6 l.length _ rfl HO.out ob m.length cb nB rfl HB1.out HB0.out ?q2 HB3.out ?q4 ?q5 ?q6 ?_)
          case q2 => exact HB.out _ HM.out
          case q4 => unfold maxLen; omega
          case q5 => omega
          case q6 => exact HM.out.size
          intro v' w2 hown hgrow hnil
          have HM2 : Hd (Mod (fun _ => False) w w2) := ⟨Mod.of_grown HM.out hgrow (fun k hk => (HO.out.lt k hk).1)⟩
          have HO2 : Hd _ := ⟨hown⟩
          clear hown hgrow hnil
          go_wp2_with fail
          go_roundg 0
          case measure => omega
          case rel => exact ⟨2, l.length + m.length, _, _, rfl, by go_num, rfl, HM2, HO2, Or.inr (Or.inr ⟨rfl, rfl, rfl⟩)⟩
        · have HF : Hd (∃ oc cc, v6 = .slice oc (l ++ m).length cc ∧ Vrs (fun b => w.heap.size ≤ b) wr oc (l ++ m).length cc (l ++ m)) := ⟨by
            have hO := HO.out
            rw [← List.length_append] at hO
            by_cases hnil : v6 = .slice none 0 0
            · subst hnil
              have hl : (l ++ m).length = 0 := by
                obtain ⟨_, ⟨_, h⟩ | ⟨g, cap, cur, h, _⟩⟩ := hO
                · exact h
                · cases h
              have hl' : l ++ m = [] := List.eq_nil_of_length_eq_zero hl
              refine ⟨none, 0, by rw [hl], ⟨rfl, by omega, by omega, by simp [maxLen], fun i x hi => by rw [hl'] at hi; simp at hi⟩⟩
            · obtain ⟨oc, cc, h1, h2, _⟩ := SR.of_owns (l := l ++ m) hO (by rw [List.length_append]; exact HSM.out) HE.out (.inl hnil)
              exact ⟨oc, cc, h1, h2⟩⟩
          obtain ⟨oc, cc, hv6, HS⟩ := HF.out
          have HS' : Hd _ := ⟨HS⟩
          subst hv6
          clear HS HF HO
          go_wp2
          go_ret
          exact ⟨oc, cc, by rw [List.length_append]; rfl, HM.out, HS'.out⟩
end
end Go.Proofs.YtpodeccpibnlbaaGreatDoor
namespace Go.Proofs.YtpodeccpibnlbaaGreatDoor
set_option linter.unusedVariables false
set_option linter.unusedSimpArgs false
open Go.RowKit
section
variable {S : Nat → Prop} {w0 : World}
set_option maxRecDepth 100000 in
set_option maxHeartbeats 4000000 in
theorem Vars_c {v : Value} {s : Fun} (hv : funV S w0 v s) (hsum : s.params.length + s.locals.length ≤ 1048576) (w : World) (hw : Mod (fun _ => False) w0 w) :
    Calls Tryz.prog 28 #[v] w fun e w' => ∃ oc cc, e = .returned (.slice oc (s.params ++ s.locals).length cc) ∧ Mod (fun _ => False) w w' ∧ Vrs (fun b => w.heap.size ≤ b) w' oc (s.params ++ s.locals).length cc (s.params ++ s.locals) := by
  obtain ⟨h0, h1, h2, oa, la, ca, ob, lb, cb, oc, lc, cc, rfl, k1, k2, k3⟩ := hv
  have HC : Hd (∀ A : Obj, _) := ⟨fun A => Concat_c k1 k2 ((w.alloc A).alloc (.cells #[.slice oa la ca, .slice ob lb cb] 42)) (hw.trans ((Mod.alloc _ _ _).trans (Mod.alloc _ _ _) (fun _ h => Or.inl h)) (fun _ h => Or.inl h)) (w.heap.size + 1) (heap2_1 _ _ _) hsum⟩
  clear h0 h1 h2 k1 k2 k3 hw hsum
  go_enter Tryz.func28, Tryz.ntmps28
  go_wp2_with fail
  refine (HC.out _).mono ?_
  rintro e w1 ⟨od, cd, rfl, hM, hS⟩
  have HM : Hd (Mod (fun _ => False) w w1) := ⟨((Mod.alloc _ _ _).trans (Mod.alloc _ _ _) (fun _ h => Or.inl h)).trans hM (fun _ h => Or.inl h)⟩
  have HS : Hd (Vrs (fun b => w.heap.size ≤ b) w1 od (s.params ++ s.locals).length cd (s.params ++ s.locals)) := ⟨hS.keep (fun b hb hl => ⟨by simp at hb; omega, hl, rfl⟩) (fun _ _ h => h)⟩
  clear hM hS
  go_wp2
  go_ret
  exact ⟨od, cd, by first | rfl | (rw [List.length_append]; rfl), HM.out, HS.out⟩
end

/-- Facts on blocks. -/
def Has (w : World) (L : List (Nat × Obj)) : Prop := ∀ p ∈ L, w.heap[p.1]? = some p.2
theorem Has.mod {w w' : World} {L : List (Nat × Obj)} (h : Has w L) (hm : Mod (fun _ => False) w w') : Has w' L := fun p hp => (hm.block _ (Array.getElem?_eq_some_iff.1 (h p hp)).1 (fun h => h)).trans (h p hp)
theorem Has.at' {w : World} {L : List (Nat × Obj)} (h : Has w L) (k : Nat) (o : Obj) (hm : (k, o) ∈ L) : w.heap[k]? = some o := h _ hm

def tx (l : List UInt8) : ByteArray := ⟨l.toArray⟩
def tA : ByteArray := { data := #[97] }
def tB : ByteArray := { data := #[98] }
def tX : ByteArray := { data := #[120] }
def tE : ByteArray := { data := #[] }
def tInt : ByteArray := { data := #[105, 110, 116] }
def tBoxInt : ByteArray := { data := #[98, 111, 120, 32, 105, 110, 116] }
def tPair : ByteArray := { data := #[112, 97, 105, 114] }
def tNone : ByteArray := { data := #[110, 111, 110, 101] }
def tSome : ByteArray := { data := #[115, 111, 109, 101] }
def tOpt : ByteArray := { data := #[111, 112, 116] }
def tMain : ByteArray := { data := #[109, 97, 105, 110] }
def tB0 : ByteArray := { data := #[98, 48] }
/-- The blocks of the law's program, from block b on. -/
def smallL (b : Nat) (n at_ : Int) (vs : Value) : List (Nat × Obj) :=
  [(b + 2, .cells #[.string tA, .string tInt, .string tB, .string tBoxInt] 52),
   (b + 3, .cells #[.int .i64 0, .string tPair, .bool false, .bool false, .slice (some ⟨b + 2, 0, none⟩) 2 2] 58),
   (b + 4, .cells #[.string tNone, .string tE, .string tSome, .string tBoxInt] 52),
   (b + 5, .cells #[.int .i64 0, .string tOpt, vs] 70),
   (b + 6, .cells #[.string tX, .string tInt] 52),
   (b + 7, .cells #[.string tX, .slice none 0 0] 24),
   (b + 8, .cells #[.int .i64 0, .int .i64 1, .string tX, .slice none 0 0, .int .i64 n, .string tE, .string tE, .slice none 0 0, .int .i64 0, .int .i64 11, .string tE, .slice none 0 0, .int .i64 0, .string tE, .string tE, .slice (some ⟨b + 7, 0, none⟩) 1 1] 68),
   (b + 9, .cells #[.string tX, .slice none 0 0] 24),
   (b + 10, .cells #[.int .i64 0, .string tB0, .slice (some ⟨b + 8, 0, none⟩) 2 2, .int .i64 0, .int .i64 7, .string tE, .slice none 0 0, .string tE, .slice (some ⟨b + 9, 0, none⟩) 1 1, .slice none 0 0, .slice none 0 0] 64),
   (b + 11, .cells #[.int .i64 at_, .string tMain, .slice none 0 0, .slice (some ⟨b + 6, 0, none⟩) 1 1, .string tInt, .slice (some ⟨b + 10, 0, none⟩) 1 1] 45)]
def smallV (b : Nat) : Value := .agg #[.slice (some ⟨b + 3, 0, none⟩) 1 1, .slice (some ⟨b + 5, 0, none⟩) 1 1, .slice (some ⟨b + 11, 0, none⟩) 1 1]
def vs0 (b : Nat) : Value := .slice (some ⟨b + 4, 0, none⟩) 2 2

theorem heap_allocs : ∀ (os : List Obj) (w : World) (k : Nat) (o : Obj), os[k]? = some o → (os.foldl World.alloc w).heap[w.heap.size + k]? = some o
  | [], _, _, _, h => by simp at h
  | x :: r, w, 0, o, h => by
    simp at h
    subst h
    have key : ∀ (r : List Obj) (w : World) (j : Nat) (y : Obj), w.heap[j]? = some y → (r.foldl World.alloc w).heap[j]? = some y := by
      intro r
      induction r with
      | nil => exact fun _ _ _ h => h
      | cons z r ih => exact fun w j y h => ih _ j y ((Below.heap_alloc _ _ _ (Array.getElem?_eq_some_iff.1 h).1).trans h)
    exact key r _ _ _ (heap_alloc_new w x)
  | x :: r, w, k + 1, o, h => by
    have := heap_allocs r (w.alloc x) k o (by simpa using h)
    rw [World.size_alloc] at this
    rw [show w.heap.size + (k + 1) = w.heap.size + 1 + k by omega]
    exact this
theorem Mod.allocs (S : Nat → Prop) : ∀ (os : List Obj) (w : World), Mod S w (os.foldl World.alloc w)
  | [], w => Mod.refl _ _
  | x :: r, w => (Mod.alloc S w x).trans (Mod.allocs S r (w.alloc x)) (fun _ h => Or.inl h)
def smallO (b : Nat) : List Obj :=
  .cells #[.slice (some ⟨b + 3, 0, none⟩) 1 1, .slice (some ⟨b + 5, 0, none⟩) 1 1, .slice (some ⟨b + 11, 0, none⟩) 1 1] 36 :: .cells #[.string tX, .slice none 0 0] 24 :: (smallL b 5 0 (vs0 b)).map (·.2)

set_option maxRecDepth 100000 in
set_option maxHeartbeats 4000000 in
theorem small_c (w : World) : Calls Tryz.prog 34 #[] w fun e w' => e = .returned (smallV w.heap.size) ∧ Mod (fun _ => False) w w' ∧ Has w' (smallL w.heap.size 5 0 (vs0 w.heap.size)) := by
  go_enter Tryz.func34, Tryz.ntmps34
  go_wp2
  change bodyPost _ _ _ _ _ ((smallO w.heap.size).foldl World.alloc w)
  refine bodyPost_ret (v := smallV w.heap.size) (results_cell_row (fn := Tryz.f34) (p := 0) rfl _ _ w.heap.size 36 _ (0, 0) _ rfl (heap_allocs _ w 0 _ rfl) Tryz.underlying36 rfl (by kernel_rfl)) rfl ?_
  refine ⟨rfl, Mod.allocs _ _ _, fun p hp => ?_⟩
  have hp' := hp
  simp only [smallL, List.mem_cons, List.not_mem_nil, or_false] at hp'
  rcases hp' with rfl | rfl | rfl | rfl | rfl | rfl | rfl | rfl | rfl | rfl <;> exact heap_allocs _ w _ _ rfl
end Go.Proofs.YtpodeccpibnlbaaGreatDoor
namespace Go.Proofs.YtpodeccpibnlbaaGreatDoor
set_option linter.unusedVariables false
set_option linter.unusedSimpArgs false
open Go.RowKit
section
variable {α : Type} {S : Nat → Prop} {w : World} {n : Nat} {V : Value → α → Prop}
theorem SR.nil_ : SR S w n V none 0 0 [] := ⟨rfl, by simp, by simp, by simp [maxLen], fun i x hi => by simp at hi⟩
theorem SR.one_ {k : Nat} {cs : Array Value} {t : TypeId} {x : α} (hb : w.heap[k]? = some (.cells cs t (0, 0))) (hS : S k) (v : Value) (hc : v.cells = cs) (hV : V v x) : SR S w n V (some ⟨k, 0, none⟩) 1 1 [x] :=
  ⟨rfl, by simp, by simp, by simp [maxLen], fun i y hi => by
    have hil := (List.getElem?_eq_some_iff.1 hi).1
    have : i = 0 := by simp at hil; omega
    subst this
    simp at hi
    subst hi
    refine ⟨k, 0, v, rfl, hS, (Array.getElem?_eq_some_iff.1 hb).1, fun j u hu => ?_, hV⟩
    rw [hc] at hu
    simp [World.cell?, hb, hu]⟩
theorem SR.two_ {k : Nat} {cs : Array Value} {t : TypeId} {x y : α} (hb : w.heap[k]? = some (.cells cs t (0, 0))) (hS : S k) (v v2 : Value) (hc : v.cells ++ v2.cells = cs) (hn : v.cells.size = n) (hV : V v x) (hV2 : V v2 y) : SR S w n V (some ⟨k, 0, none⟩) 2 2 [x, y] :=
  ⟨rfl, by simp, by simp, by simp [maxLen], fun i z hi => by
    have hil := (List.getElem?_eq_some_iff.1 hi).1
    have hi2 : i = 0 ∨ i = 1 := by simp at hil; omega
    rcases hi2 with rfl | rfl
    · simp at hi
      subst hi
      refine ⟨k, 0, v, rfl, hS, (Array.getElem?_eq_some_iff.1 hb).1, fun j u hu => ?_, hV⟩
      have hj := (Array.getElem?_eq_some_iff.1 hu).1
      simp only [World.cell?, hb, ← hc]
      rw [Nat.zero_add, Nat.zero_mul, Nat.zero_add, Array.getElem?_append_left hj]
      exact hu
    · simp at hi
      subst hi
      refine ⟨k, 0, v2, rfl, hS, (Array.getElem?_eq_some_iff.1 hb).1, fun j u hu => ?_, hV2⟩
      simp only [World.cell?, hb, ← hc]
      rw [Nat.zero_add, Nat.one_mul, Array.getElem?_append_right (by omega), hn, show n + j - n = j by omega]
      exact hu⟩
end

theorem sm_tA : Sm tA := by unfold Sm; decide
theorem sm_tB : Sm tB := by unfold Sm; decide
theorem sm_tX : Sm tX := by unfold Sm; decide
theorem sm_tE : Sm tE := by unfold Sm; decide
theorem sm_tInt : Sm tInt := by unfold Sm; decide
theorem sm_tBoxInt : Sm tBoxInt := by unfold Sm; decide
theorem sm_tPair : Sm tPair := by unfold Sm; decide
theorem sm_tNone : Sm tNone := by unfold Sm; decide
theorem sm_tSome : Sm tSome := by unfold Sm; decide
theorem sm_tOpt : Sm tOpt := by unfold Sm; decide
theorem sm_tMain : Sm tMain := by unfold Sm; decide
theorem sm_tB0 : Sm tB0 := by unfold Sm; decide
theorem i64_0 : I64 0 := by unfold I64; omega
theorem i64_1 : I64 1 := by unfold I64; omega
theorem i64_5 : I64 5 := by unfold I64; omega
theorem i64_6 : I64 6 := by unfold I64; omega
theorem i64_7 : I64 7 := by unfold I64; omega
theorem i64_9 : I64 9 := by unfold I64; omega
theorem i64_11 : I64 11 := by unfold I64; omega
def vars0 : List Vr := [⟨tNone, tE⟩, ⟨tSome, tBoxInt⟩]
def smallP (n at_ : Int) (vs : List Vr) : Prg :=
  ⟨[⟨0, tPair, false, false, [⟨tA, tInt⟩, ⟨tB, tBoxInt⟩]⟩], [⟨0, tOpt, vs⟩],
   [⟨at_, tMain, [], [⟨tX, tInt⟩], tInt, [⟨0, tB0, [⟨0, 1, ⟨tX, []⟩, n, tE, tE, []⟩, ⟨0, 11, ⟨tE, []⟩, 0, tE, tE, [⟨tX, []⟩]⟩], ⟨0, 7, ⟨tE, []⟩, tE, [⟨tX, []⟩], [], []⟩⟩]⟩]⟩
def smallF (at_ : Int) (n : Int) : Fun := ⟨at_, tMain, [], [⟨tX, tInt⟩], tInt, [⟨0, tB0, [⟨0, 1, ⟨tX, []⟩, n, tE, tE, []⟩, ⟨0, 11, ⟨tE, []⟩, 0, tE, tE, [⟨tX, []⟩]⟩], ⟨0, 7, ⟨tE, []⟩, tE, [⟨tX, []⟩], [], []⟩⟩]⟩
def smallFV (b : Nat) (at_ : Int) : Value := .agg #[.int .i64 at_, .string tMain, .slice none 0 0, .slice (some ⟨b + 6, 0, none⟩) 1 1, .string tInt, .slice (some ⟨b + 10, 0, none⟩) 1 1]

theorem small_fun {w : World} {b : Nat} {n at_ : Int} {vs : Value} (h : Has w (smallL b n at_ vs)) (hn : I64 n) (ha : I64 at_) : funV (fun k => b + 2 ≤ k) w (smallFV b at_) (smallF at_ n) := by
  have h6 := h.at' (b + 6) _ (by simp [smallL]; rfl)
  have h7 := h.at' (b + 7) _ (by simp [smallL]; rfl)
  have h8 := h.at' (b + 8) _ (by simp [smallL]; rfl)
  have h9 := h.at' (b + 9) _ (by simp [smallL]; rfl)
  have h10 := h.at' (b + 10) _ (by simp [smallL]; rfl)
  have s0 : I64 0 := i64_0
  refine ⟨ha, by first | exact sm_tA | exact sm_tB | exact sm_tX | exact sm_tE | exact sm_tInt | exact sm_tBoxInt | exact sm_tPair | exact sm_tNone | exact sm_tSome | exact sm_tOpt | exact sm_tMain | exact sm_tB0, by first | exact sm_tA | exact sm_tB | exact sm_tX | exact sm_tE | exact sm_tInt | exact sm_tBoxInt | exact sm_tPair | exact sm_tNone | exact sm_tSome | exact sm_tOpt | exact sm_tMain | exact sm_tB0, none, 0, 0, _, _, _, _, _, _, rfl, .nil_, ?_, ?_⟩
  · exact .one_ h6 (by omega) (.agg #[.string tX, .string tInt]) (by simp [Value.cells]) ⟨rfl, by first | exact sm_tA | exact sm_tB | exact sm_tX | exact sm_tE | exact sm_tInt | exact sm_tBoxInt | exact sm_tPair | exact sm_tNone | exact sm_tSome | exact sm_tOpt | exact sm_tMain | exact sm_tB0, by first | exact sm_tA | exact sm_tB | exact sm_tX | exact sm_tE | exact sm_tInt | exact sm_tBoxInt | exact sm_tPair | exact sm_tNone | exact sm_tSome | exact sm_tOpt | exact sm_tMain | exact sm_tB0⟩
  · refine .one_ h10 (by omega) (.agg #[.int .i64 0, .string tB0, .slice (some ⟨b + 8, 0, none⟩) 2 2, .int .i64 0, .int .i64 7, .string tE, .slice none 0 0, .string tE, .slice (some ⟨b + 9, 0, none⟩) 1 1, .slice none 0 0, .slice none 0 0]) (by simp [Value.cells]) ?_
    refine ⟨s0, by first | exact sm_tA | exact sm_tB | exact sm_tX | exact sm_tE | exact sm_tInt | exact sm_tBoxInt | exact sm_tPair | exact sm_tNone | exact sm_tSome | exact sm_tOpt | exact sm_tMain | exact sm_tB0, _, _, _, _, _, _, _, _, _, _, _, _, _, _, _, rfl, ?_, ?_⟩
    · refine .two_ h8 (by omega) (.agg #[.int .i64 0, .int .i64 1, .string tX, .slice none 0 0, .int .i64 n, .string tE, .string tE, .slice none 0 0]) (.agg #[.int .i64 0, .int .i64 11, .string tE, .slice none 0 0, .int .i64 0, .string tE, .string tE, .slice (some ⟨b + 7, 0, none⟩) 1 1]) (by simp [Value.cells]) (by simp [Value.cells]) ?_ ?_
      · exact ⟨s0, by first | exact i64_1 | exact i64_7 | exact i64_11, hn, by first | exact sm_tA | exact sm_tB | exact sm_tX | exact sm_tE | exact sm_tInt | exact sm_tBoxInt | exact sm_tPair | exact sm_tNone | exact sm_tSome | exact sm_tOpt | exact sm_tMain | exact sm_tB0, by first | exact sm_tA | exact sm_tB | exact sm_tX | exact sm_tE | exact sm_tInt | exact sm_tBoxInt | exact sm_tPair | exact sm_tNone | exact sm_tSome | exact sm_tOpt | exact sm_tMain | exact sm_tB0, by first | exact sm_tA | exact sm_tB | exact sm_tX | exact sm_tE | exact sm_tInt | exact sm_tBoxInt | exact sm_tPair | exact sm_tNone | exact sm_tSome | exact sm_tOpt | exact sm_tMain | exact sm_tB0, none, 0, 0, none, 0, 0, rfl, .nil_, .nil_⟩
      · exact ⟨s0, by first | exact i64_1 | exact i64_7 | exact i64_11, s0, by first | exact sm_tA | exact sm_tB | exact sm_tX | exact sm_tE | exact sm_tInt | exact sm_tBoxInt | exact sm_tPair | exact sm_tNone | exact sm_tSome | exact sm_tOpt | exact sm_tMain | exact sm_tB0, by first | exact sm_tA | exact sm_tB | exact sm_tX | exact sm_tE | exact sm_tInt | exact sm_tBoxInt | exact sm_tPair | exact sm_tNone | exact sm_tSome | exact sm_tOpt | exact sm_tMain | exact sm_tB0, by first | exact sm_tA | exact sm_tB | exact sm_tX | exact sm_tE | exact sm_tInt | exact sm_tBoxInt | exact sm_tPair | exact sm_tNone | exact sm_tSome | exact sm_tOpt | exact sm_tMain | exact sm_tB0, none, 0, 0, _, _, _, rfl, .nil_, .one_ h7 (by omega) (.agg #[.string tX, .slice none 0 0]) (by simp [Value.cells]) ⟨by first | exact sm_tA | exact sm_tB | exact sm_tX | exact sm_tE | exact sm_tInt | exact sm_tBoxInt | exact sm_tPair | exact sm_tNone | exact sm_tSome | exact sm_tOpt | exact sm_tMain | exact sm_tB0, none, 0, 0, rfl, .nil_⟩⟩
    · exact ⟨s0, by first | exact i64_1 | exact i64_7 | exact i64_11, by first | exact sm_tA | exact sm_tB | exact sm_tX | exact sm_tE | exact sm_tInt | exact sm_tBoxInt | exact sm_tPair | exact sm_tNone | exact sm_tSome | exact sm_tOpt | exact sm_tMain | exact sm_tB0, by first | exact sm_tA | exact sm_tB | exact sm_tX | exact sm_tE | exact sm_tInt | exact sm_tBoxInt | exact sm_tPair | exact sm_tNone | exact sm_tSome | exact sm_tOpt | exact sm_tMain | exact sm_tB0, none, 0, 0, _, _, _, none, 0, 0, none, 0, 0, rfl, .nil_, .one_ h9 (by omega) (.agg #[.string tX, .slice none 0 0]) (by simp [Value.cells]) ⟨by first | exact sm_tA | exact sm_tB | exact sm_tX | exact sm_tE | exact sm_tInt | exact sm_tBoxInt | exact sm_tPair | exact sm_tNone | exact sm_tSome | exact sm_tOpt | exact sm_tMain | exact sm_tB0, none, 0, 0, rfl, .nil_⟩, .nil_, .nil_⟩
theorem small_prg {w : World} {b : Nat} {n at_ : Int} {vs : Value} {l : List Vr} (h : Has w (smallL b n at_ vs)) (hn : I64 n) (ha : I64 at_)
    (hvs : ∃ oa la ca, vs = .slice oa la ca ∧ Vrs (fun k => b + 2 ≤ k) w oa la ca l) : prgV (fun k => b + 2 ≤ k) w (smallV b) (smallP n at_ l) := by
  have h2 := h.at' (b + 2) _ (by simp [smallL]; rfl)
  have h3 := h.at' (b + 3) _ (by simp [smallL]; rfl)
  have h5 := h.at' (b + 5) _ (by simp [smallL]; rfl)
  have h11 := h.at' (b + 11) _ (by simp [smallL]; rfl)
  have s0 : I64 0 := i64_0
  refine ⟨_, _, _, _, _, _, _, _, _, rfl, ?_, ?_, ?_⟩
  · refine .one_ h3 (by omega) (.agg #[.int .i64 0, .string tPair, .bool false, .bool false, .slice (some ⟨b + 2, 0, none⟩) 2 2]) (by simp [Value.cells]) ?_
    exact ⟨s0, by first | exact sm_tA | exact sm_tB | exact sm_tX | exact sm_tE | exact sm_tInt | exact sm_tBoxInt | exact sm_tPair | exact sm_tNone | exact sm_tSome | exact sm_tOpt | exact sm_tMain | exact sm_tB0, _, _, _, rfl, .two_ h2 (by omega) (.agg #[.string tA, .string tInt]) (.agg #[.string tB, .string tBoxInt]) (by simp [Value.cells]) (by simp [Value.cells]) ⟨rfl, by first | exact sm_tA | exact sm_tB | exact sm_tX | exact sm_tE | exact sm_tInt | exact sm_tBoxInt | exact sm_tPair | exact sm_tNone | exact sm_tSome | exact sm_tOpt | exact sm_tMain | exact sm_tB0, by first | exact sm_tA | exact sm_tB | exact sm_tX | exact sm_tE | exact sm_tInt | exact sm_tBoxInt | exact sm_tPair | exact sm_tNone | exact sm_tSome | exact sm_tOpt | exact sm_tMain | exact sm_tB0⟩ ⟨rfl, by first | exact sm_tA | exact sm_tB | exact sm_tX | exact sm_tE | exact sm_tInt | exact sm_tBoxInt | exact sm_tPair | exact sm_tNone | exact sm_tSome | exact sm_tOpt | exact sm_tMain | exact sm_tB0, by first | exact sm_tA | exact sm_tB | exact sm_tX | exact sm_tE | exact sm_tInt | exact sm_tBoxInt | exact sm_tPair | exact sm_tNone | exact sm_tSome | exact sm_tOpt | exact sm_tMain | exact sm_tB0⟩⟩
  · refine .one_ h5 (by omega) (.agg #[.int .i64 0, .string tOpt, vs]) (by obtain ⟨oa, la, ca, rfl, _⟩ := hvs; simp [Value.cells]) ?_
    obtain ⟨oa, la, ca, rfl, hv⟩ := hvs
    exact ⟨s0, by first | exact sm_tA | exact sm_tB | exact sm_tX | exact sm_tE | exact sm_tInt | exact sm_tBoxInt | exact sm_tPair | exact sm_tNone | exact sm_tSome | exact sm_tOpt | exact sm_tMain | exact sm_tB0, oa, la, ca, rfl, hv⟩
  · exact .one_ h11 (by omega) (smallFV b at_) (by simp [Value.cells, smallFV]) (small_fun h hn ha)
theorem small_vs0 {w : World} {b : Nat} {n at_ : Int} {vs : Value} (h : Has w (smallL b n at_ vs)) : ∃ oa la ca, vs0 b = .slice oa la ca ∧ Vrs (fun k => b + 2 ≤ k) w oa la ca vars0 := by
  have h4 := h.at' (b + 4) _ (by simp [smallL]; rfl)
  exact ⟨_, _, _, rfl, .two_ h4 (by omega) (.agg #[.string tNone, .string tE]) (.agg #[.string tSome, .string tBoxInt]) (by simp [Value.cells]) (by simp [Value.cells]) ⟨rfl, by first | exact sm_tA | exact sm_tB | exact sm_tX | exact sm_tE | exact sm_tInt | exact sm_tBoxInt | exact sm_tPair | exact sm_tNone | exact sm_tSome | exact sm_tOpt | exact sm_tMain | exact sm_tB0, by first | exact sm_tA | exact sm_tB | exact sm_tX | exact sm_tE | exact sm_tInt | exact sm_tBoxInt | exact sm_tPair | exact sm_tNone | exact sm_tSome | exact sm_tOpt | exact sm_tMain | exact sm_tB0⟩ ⟨rfl, by first | exact sm_tA | exact sm_tB | exact sm_tX | exact sm_tE | exact sm_tInt | exact sm_tBoxInt | exact sm_tPair | exact sm_tNone | exact sm_tSome | exact sm_tOpt | exact sm_tMain | exact sm_tB0, by first | exact sm_tA | exact sm_tB | exact sm_tX | exact sm_tE | exact sm_tInt | exact sm_tBoxInt | exact sm_tPair | exact sm_tNone | exact sm_tSome | exact sm_tOpt | exact sm_tMain | exact sm_tB0⟩⟩
theorem small_vsn {S : Nat → Prop} {w : World} : ∃ oa la ca, Value.slice none 0 0 = .slice oa la ca ∧ Vrs S w oa la ca [] := ⟨none, 0, 0, rfl, .nil_⟩
end Go.Proofs.YtpodeccpibnlbaaGreatDoor
