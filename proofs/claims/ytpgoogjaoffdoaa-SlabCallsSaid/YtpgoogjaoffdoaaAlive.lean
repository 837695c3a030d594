/- The law's 'alive': a piece, and another one at its index: it answers true, and leaves all that was there. -/
import Derived.Test.YtpgoogjaoffdoaaEnv
namespace Go.Proofs.Ytpgoogjaoffdoaa
set_option linter.unusedVariables false
set_option linter.unusedSimpArgs false
open Go.RowKit Go.Shelf

attribute [local go_sem] Oper.semAt_some

def A0 : Nat := 4611686018427387904
def A1 : Nat := 4611686018427387905
def D0 : Nat := 4611686022722355200
def D1 : Nat := 4611686022722355201
def S0 : SS := ⟨4, 0, 0, [], []⟩
def S1 : SS := ⟨4, 2, 1, [⟨[2], [(0, false), (0, false)], false⟩], []⟩
def S2 : SS := ⟨4, 2, 1, [⟨[2], [(0, false), (7, true)], false⟩], []⟩
def S3 : SS := ⟨4, 0, 0, [⟨[2], [], true⟩], [0]⟩
def S4 : SS := ⟨4, 1, 1, [⟨[2, 1], [(0, false)], false⟩], []⟩

theorem S0_get : S0.get 2 = ((A0, 0), S1) := by rfl
theorem S1_get : S1.get 3 = ((0, 13), S1) := by rfl
theorem S1_off : S1.off A0 1 = (A1, 0) := by rfl
theorem S1_set : S1.set A1 (7, true) = (0, S2) := by rfl
theorem S2_load : S2.load A1 = (7, 0) := by rfl
theorem S2_load0 : S2.load A0 = (0, 15) := by rfl
theorem S2_free : S2.free1 A1 = (11, S2) := by rfl
theorem S2_free0 : S2.free1 A0 = (0, S3) := by rfl
theorem S3_free0 : S3.free1 A0 = (14, S3) := by rfl
theorem S3_get : S3.get 1 = ((D0, 0), S4) := by rfl
theorem S4_load : S4.load D1 = (0, 12) := by rfl
theorem S2_pieces : S2.pieces = [(A0, 2)] := by rfl
theorem S2_size : S2.size A1 = (2, 0) := by rfl
theorem S2_blank : (S2.set A1 (0, false)).1 = 0 := by rfl

theorem W0 : S0.WF 0 := WF.start 4 (by omega)
theorem W1 : S1.WF 1 := by have := WF.get W0 (by omega) 2; rw [S0_get] at this; exact this
theorem W2 : S2.WF 1 := by have := WF.set W1 A1 (7, true); rw [S1_set] at this; exact this
theorem W3 : S3.WF 1 := by have := WF.free W2 A0; rw [S2_free0] at this; exact this
theorem W4 : S4.WF 2 := by have := WF.get W3 (by omega) 1; rw [S3_get] at this; exact this

/-- Where the clone's pieces come. -/
theorem A0_lt : A0 < 18446744073709551616 := by decide
theorem A1_lt : A1 < 18446744073709551616 := by decide
theorem D1_lt : D1 < 18446744073709551616 := by decide
theorem A0_is : ((A0 : Int) == 4611686018427387904) = true := by decide
theorem D0_is : ((D0 : Int) == 4611686022722355200) = true := by decide
theorem D1_is : IntKind.u64.wrap ((D0 : Int) + 1) = (D1 : Int) := by decide
theorem u64_lt (n : Nat) : True := trivial

/-- The iterator over a slab among the others of an Env. -/
theorem all_stops (n : Nat) (hn : 3 ≤ n) (C : Nat → Prop) {w0 : World} {Bx b : Nat} {s : SS} {own : Nat → Option Rl} {N : Nat} (hR : Rep w0 b s own) (hW : s.WF N) (hBx : w0.cell? ⟨Bx, 0, none⟩ = some (.pointer (some ⟨b, 0, none⟩))) (hC : ∀ k, C k → k < w0.heap.size) :
    SeqStopsK Fence.wide n Try.prog 42 #[.pointer (some ⟨Bx, 0, none⟩)] encP2 (KC C) (fun ys => ys = s.pieces) (fun pre => pre <+: s.pieces) s.places.length w0 := fun l J Jx W hb hJ _ hY h0 => by
  have hs := hb.size
  exact all1_in n l Bx b 0 hn C s N own hW J Jx W hJ hY (fun k hk => by have := hC k hk; omega) ((hb.cell (p := ⟨Bx, 0, none⟩) (World.block_lt_of_cell? w0 _ hBx)).trans hBx) (hR.keep hs fun k hk => hb.block k (hR.dom k hk)) h0

set_option maxRecDepth 100000 in
set_option maxHeartbeats 4000000 in
theorem alive_in (W : World) : CallsIn Fence.wide 10 Try.prog 8 #[] W fun e w' => e = .returned (.bool true) ∧ Below W.heap.size W w' := by
  have hA0 := A0_is
  have hD0 := D0_is
  have hD1 := D1_is
  refine callsIn_of_wp_marks Try.func8 rfl trivial ?_ rfl
  simp only [Try.ntmps8, List.size_toArray, List.length_cons, List.length_nil, Nat.reduceAdd, Nat.reduceSub, Array.replicate_succ, Array.replicate_zero, List.push_toArray, List.append_toArray, List.nil_append, List.cons_append]
  gi_wp2_with fail
  refine ⟨trivial, ?_⟩
  refine (callsIn_wide.2 (Env.new_c (W := W) (Bs := [(W.heap.size, .bool false, 4)]) _ 4 (by omega) (by omega) ((Below.refl _ W).alloc (Nat.le_refl _) _) (by intro x hx; simp at hx; subst hx; exact ⟨heap_alloc_new W _, Nat.le_refl _⟩))).mono ?_
  rintro e w1 ⟨rfl, own1, hE⟩
  have HE : Hd (Env W w1 (W.heap.size + 1) S0 own1 [(W.heap.size, .bool false, 4)] []) := ⟨by simpa [S0] using hE⟩
  clear hE
  gi_wp2_with fail
  refine ⟨trivial, ?_⟩
  refine (callsIn_wide.2 (new_calls (-1) _)).mono ?_
  rintro e w2 h
  rw [if_pos (by omega)] at h
  obtain ⟨rfl, rfl⟩ := h
  gi_wp2_with fail
  refine ⟨trivial, ?_⟩
  refine (callsIn_wide.2 (HE.out.get_c W0 2 S0_get)).mono ?_
  rintro e w3 ⟨rfl, own3, hE⟩
  have HE3 : Hd _ := ⟨hE.alloc (.int .u64 (A0 : Int)) 45⟩
  clear hE HE
  gi_wp2_with fail
  refine ⟨trivial, ?_⟩
  refine (callsIn_wide.2 (HE3.out.get_c W1 3 S1_get)).mono ?_
  rintro e w4 ⟨rfl, own4, hE⟩
  have HE4 : Hd _ := ⟨hE⟩
  clear hE HE3
  obtain ⟨ca, fa⟩ := HE4.out.cell (List.mem_cons_self)
  gi_wp2_with fail
  refine ⟨trivial, ?_⟩
  refine (callsIn_wide.2 (HE4.out.off_c W1 A0 A0_lt 1 S1_off)).mono ?_
  rintro e w5 ⟨rfl, rfl⟩
  gi_wp2_with fail
  refine ⟨trivial, ?_⟩
  refine (callsIn_wide.2 (HE4.out.store_c W1 A1 A1_lt 7 S1_set)).mono ?_
  rintro e w6 ⟨rfl, hE⟩
  have HE6 : Hd _ := ⟨hE⟩
  clear hE HE4 ca fa
  obtain ⟨ca, fa⟩ := HE6.out.cell (List.mem_cons_self)
  gi_wp2_with fail
  refine ⟨trivial, ?_⟩
  refine (callsIn_wide.2 (HE6.out.load_c W2 A1 A1_lt S2_load)).mono ?_
  rintro e w7 ⟨rfl, rfl⟩
  gi_wp2_with fail
  refine ⟨trivial, ?_⟩
  refine (callsIn_wide.2 (HE6.out.load_c W2 A0 A0_lt S2_load0)).mono ?_
  rintro e w8 ⟨rfl, rfl⟩
  gi_wp2_with fail
  refine ⟨trivial, ?_⟩
  refine (callsIn_wide.2 (HE6.out.clone_c W2)).mono ?_
  rintro e w9 ⟨rfl, ownc, hE, _⟩
  have HE9 : Hd _ := ⟨hE⟩
  clear hE HE6 ca fa
  obtain ⟨ca, fa⟩ := HE9.out.cell (List.mem_cons_self)
  gi_wp2_with fail
  refine ⟨trivial, ?_⟩
  refine (callsIn_wide.2 (HE9.out.free_c W2 A1 A1_lt S2_free)).mono ?_
  rintro e w10 ⟨rfl, own10, hE⟩
  have HE10 : Hd _ := ⟨hE⟩
  clear hE HE9 ca fa
  obtain ⟨ca, fa⟩ := HE10.out.cell (List.mem_cons_self)
  gi_wp2_with fail
  refine ⟨trivial, ?_⟩
  refine (callsIn_wide.2 (HE10.out.free_c W2 A0 A0_lt S2_free0)).mono ?_
  rintro e w11 ⟨rfl, own11, hE⟩
  have HE11 : Hd _ := ⟨hE⟩
  clear hE HE10 ca fa
  obtain ⟨ca, fa⟩ := HE11.out.cell (List.mem_cons_self)
  gi_wp2_with fail
  refine ⟨trivial, ?_⟩
  refine (callsIn_wide.2 (HE11.out.free_c W3 A0 A0_lt S3_free0)).mono ?_
  rintro e w12 ⟨rfl, own12, hE⟩
  have HE12 : Hd _ := ⟨hE⟩
  clear hE HE11 ca fa
  gi_wp2_with fail
  refine ⟨trivial, ?_⟩
  refine (callsIn_wide.2 (HE12.out.get_c W3 1 S3_get)).mono ?_
  rintro e w13 ⟨rfl, own13, hE⟩
  have HE13 : Hd _ := ⟨hE⟩
  have HX3 : w3.heap.size < w13.heap.size := hE.lt (x := (w3.heap.size, .int .u64 (A0 : Int), 45)) (by simp)
  have HXW : W.heap.size < w13.heap.size := hE.lt (x := (W.heap.size, .bool false, 4)) (by simp)
  clear hE HE12
  gi_wp2_with fail
  refine ⟨trivial, ?_⟩
  refine (callsIn_wide.2 (HE13.out.load_c W4 D1 D1_lt S4_load)).mono ?_
  rintro e w14 ⟨rfl, rfl⟩
  have HE14 : Hd _ := ⟨HE13.out.alloc (.int .i64 0) 3⟩
  clear HE13
  gi_wp2_with fail
  refine ⟨trivial, ?_⟩
  refine (callsIn_wide.2 (all_any _ _)).mono ?_
  rintro e w15 ⟨rfl, rfl⟩
  have HE15 : Hd _ := ⟨HE14.out.keep (Mod.alloc _ _ (.cells #[.pointer (some ⟨w6.heap.size, 0, none⟩)] 27))⟩
  have hlt6 := HE14.out
  gi_wp2_with fail
  apply wpIn_rangeFunc_ownF (α := Nat × Nat) (n := 10) (gf := 42) (lb := #[.pointer (some ⟨w13.heap.size + 1, 0, none⟩)]) rfl (by omega) ?hg trivial (enters_of Try.func42 (by kernel_rfl) rfl)
    (all_stops 9 (by omega) (fun k => k = w13.heap.size ∨ k = W.heap.size) (HE15.out.oth (w6.heap.size, S2, ownc) (by simp)).1 W2 ?hbx ?hc) (fun h k => KC.trans h k) (fun W l o o' _ h ho _ => KC.putObj W l o o' h ho) (Below.refl _ _) (fun _ => rfl)
    (fun pre w' => Env W w' (W.heap.size + 1) S4 own13 [(w13.heap.size, .int .i64 (pre.length : Int), 3), (w3.heap.size, .int .u64 (A0 : Int), 45), (W.heap.size, .bool false, 4)] [(w6.heap.size, S2, ownc)] ∧ ∀ x ∈ pre, x = (A0, 2))
    (fun _ pre _ => ∃ x ∈ pre, x ≠ (A0, 2))
  case hg => rfl
  case hbx =>
    have h := World.cell?_alloc_new (w13.alloc (Obj.cells #[Value.int .i64 0] 3)) #[.pointer (some ⟨w6.heap.size, 0, none⟩)] 27 0
    rw [World.size_alloc] at h
    exact h
  case hc => intro k hk; have := HE14.out.below.size; simp only [World.size_alloc] at this ⊢; have h13 := HE14.out.lt (x := (w13.heap.size, .int .i64 0, 3)) (by simp); have hW := HE14.out.lt (x := (W.heap.size, .bool false, 4)) (by simp); simp only [World.size_alloc] at h13 hW; omega
  case hI =>
    rintro pre A B row ⟨hE, hp⟩ hg hr
    refine ⟨hE.grown hg (fun r e => ?_), hp⟩
    obtain ⟨h1, h2, h3, h4⟩ := HE15.out.beyond (hr r e).1
    exact ⟨h1, h2, fun x hx => by simp only [List.mem_cons, List.not_mem_nil, or_false] at hx; rcases hx with rfl | rfl | rfl; exact h3 (w13.heap.size, .int .i64 0, 3) (by simp); exact h3 (w3.heap.size, .int .u64 (A0 : Int), 45) (by simp); exact h3 (W.heap.size, .bool false, 4) (by simp), h4⟩
  case hIx => exact fun c pre A B row hs _ _ => hs
  case h0 => exact ⟨HE15.out, fun x hx => by simp at hx⟩
  case hassign =>
    intro l x W2 K hK
    simp only [encP2]
    gi_wp2
    exact hK
  case hbody =>
    have hb3 : w3.heap.size < w13.heap.size := HX3
    have hbW : W.heap.size < w13.heap.size := HXW
    rintro l pre x W' ⟨hE, hp⟩ hlen
    have hl1 : pre.length < 1 := hlen
    have hl0 : pre.length < 10 := by omega
    clear hlen
    obtain ⟨cm, fm⟩ := hE.cell (x := w13.heap.size) (v := .int .i64 (pre.length : Int)) (t := 3) (by simp)
    obtain ⟨ca, fa⟩ := hE.cell (x := w3.heap.size) (v := .int .u64 (A0 : Int)) (t := 45) (by simp)
    obtain ⟨cr, fr⟩ := hE.cell (x := W.heap.size) (v := .bool false) (t := 4) (by simp)
    have HEE : Hd _ := ⟨hE⟩
    have HPP : Hd _ := ⟨hp⟩
    clear hE hp
    obtain ⟨x1, x2⟩ := x
    by_cases hx1 : x1 = A0
    · by_cases hx2 : x2 = 2
      · subst hx1; subst hx2
        gi_wp2
        have hE2 := HEE.out.setBox (.int .i64 ((pre.length : Int) + 1)) (by intro y hy; have h13 := HE14.out.box; simp only [List.mem_cons, List.not_mem_nil, or_false] at hy; rcases hy with rfl | rfl; exact Nat.ne_of_lt hb3; exact Nat.ne_of_lt hbW)
        refine ⟨KeepsOthers.setCell _ _ _, KC.setCell _ _ _ (Or.inl rfl), ?_, ?_⟩
        · simpa using hE2
        · intro y hy
          simp only [List.mem_append, List.mem_singleton] at hy
          rcases hy with hy | rfl
          · exact HPP.out y hy
          · rfl
      · have ht : ((x2 : Int) != 2) = true := by rw [bne_iff_ne]; omega
        have HN : Hd (((x1, x2) : Nat × Nat) ≠ (A0, 2)) := ⟨fun e => hx2 (congrArg Prod.snd e)⟩
        subst hx1
        clear hx2
        gi_wp2
        exact ⟨KeepsOthers.setCell _ _ _, _, List.mem_append.2 (Or.inr (by simp)), HN.out⟩
    · have ht : ((x1 : Int) != (A0 : Int)) = true := by rw [bne_iff_ne]; omega
      have HN : Hd (((x1, x2) : Nat × Nat) ≠ (A0, 2)) := ⟨fun e => hx1 (congrArg Prod.fst e)⟩
      clear hx1
      gi_wp2
      exact ⟨KeepsOthers.setCell _ _ _, _, List.mem_append.2 (Or.inr (by simp)), HN.out⟩
  case hdone =>
    rintro D xs W' hD rfl ⟨hE, _⟩ hK
    have hpl : (((w6.heap.size, S2, ownc) : Nat × SS × (Nat → Option Rl)).2.1.pieces.length : Int) = 1 := rfl
    rw [hpl] at hE
    have hE2 := hE.swap (fun o ho => by simp at ho)
    obtain ⟨cm, fm⟩ := hE.cell (x := w13.heap.size) (v := .int .i64 1) (t := 3) (by simp)
    obtain ⟨ca, fa⟩ := hE.cell (x := w3.heap.size) (v := .int .u64 (A0 : Int)) (t := 45) (by simp)
    obtain ⟨cr, fr⟩ := hE.cell (x := W.heap.size) (v := .bool false) (t := 4) (by simp)
    have HE : Hd _ := ⟨hE⟩
    have HE2 : Hd _ := ⟨hE2⟩
    have HK : Hd _ := ⟨hK⟩
    have HD : Hd _ := ⟨hD⟩
    have HX15' : Hd (∀ k, ((w13.alloc (Obj.cells #[Value.int .i64 0] 3)).alloc (Obj.cells #[.pointer (some ⟨w6.heap.size, 0, none⟩)] 27)).heap.size ≤ k → ownc k = none) := ⟨fun k hk => (HE15.out.beyond hk).2.2.2 (w6.heap.size, S2, ownc) (by simp)⟩
    clear hE hE2 hK hD hpl HE14 HE15 hlt6
    gi_wp2_with fail
    refine ⟨trivial, ?_⟩
    refine (callsIn_wide.2 (HE2.out.size_c W2 A1 A1_lt S2_size)).mono ?_
    rintro e w16 ⟨rfl, rfl⟩
    gi_wp2_with fail
    refine ⟨trivial, ?_⟩
    refine (callsIn_wide.2 HE.out.live_c).mono ?_
    rintro e w16 ⟨rfl, rfl⟩
    rw [show ((S4.live : Nat) : Int) = 1 from rfl]
    gi_wp2_with fail
    refine ⟨trivial, ?_⟩
    refine (callsIn_wide.2 HE.out.used_c).mono ?_
    rintro e w16 ⟨rfl, rfl⟩
    rw [show ((S4.used : Nat) : Int) = 1 from rfl]
    gi_wp2_with fail
    refine ⟨trivial, ?_⟩
    refine (callsIn_wide.2 HE2.out.live_c).mono ?_
    rintro e w16 ⟨rfl, rfl⟩
    rw [show ((S2.live : Nat) : Int) = 1 from rfl]
    gi_wp2_with fail
    refine ⟨trivial, ?_⟩
    refine (callsIn_wide.2 (HE2.out.blank_m W2 A1 A1_lt (e := 0) (s' := (S2.set A1 (0, false)).2) rfl)).mono ?_
    rintro e w17 ⟨rfl, hE3, hM⟩
    have hDl : D < W'.heap.size := (Array.getElem?_eq_some_iff.1 HK.out).1
    have hK' : w17.heap[D]? = some (.deferred (some [])) := (hM.block D hDl (fun h => h (HX15'.out D HD.out))).trans HK.out
    have HE3 : Hd _ := ⟨hE3⟩
    have HK' : Hd _ := ⟨hK'⟩
    obtain ⟨cr2, fr2⟩ := hE3.cell (x := W.heap.size) (v := .bool false) (t := 4) (by simp)
    clear hE3 hM hK' cm fm ca fa cr fr hDl
    gi_wp2_with fail
    have hE4 := HE3.out.drop (Bs' := [(W.heap.size, .bool false, 4)]) (by intro x hx; simp at hx; simp [hx])
    have hE5 := hE4.setBox (.bool true) (by intro y hy; simp at hy)
    have hKs := (KeepsOthers.setCell w17 ⟨W.heap.size, 0, none⟩ (.bool true)).same D _ HK'.out rfl
    refine ⟨by simp, .inl ⟨_, _, rfl, run_takeDeferred hKs, ?_⟩⟩
    have hc5 := cell_kept (hE5.cell (x := W.heap.size) (v := .bool true) (t := 4) (by simp)).1 (grownBy_putObj' _ D (.deferred none)) (fun r e => by cases e; exact ⟨_, hKs, rfl⟩)
    refine ⟨.bool true, ?_, rfl, hE5.below.trans (belowK_b (w := W) (Nat.le_refl _) _ D _ _ ?_ hKs rfl rfl)⟩
    · simp [results, Try.f8, go_sem, hc5]
    · have := HD.out; simp only [World.size_alloc] at this; omega
  case hstop =>
    rintro D c pre W' _ hpre ⟨x, hx, hne⟩ _
    exfalso
    have h1 := hpre.subset hx
    rw [S2_pieces] at h1
    simp at h1
    exact hne h1
end Go.Proofs.Ytpgoogjaoffdoaa
