/- SlabOnce: its walk. -/
import Derived.Test.YtpgoogjaoffdoaaRoom
import Derived.Test.YtpgoogjaoffdoaaOnceS
import Derived.Test.YtpgoogjaoffdoaaMap
import Derived.Test.YtpgoogjaoffdoaaM4
namespace Go.Proofs.Ytpgoogjaoffdoaa
set_option linter.unusedVariables false
set_option linter.unusedSimpArgs false
open Go.RowKit

/-- A row of integers that came in. -/
structure Arg (w : World) (k : IntKind) (oa : Option Addr) (len cap : Nat) (zs : List Int) : Prop where
  hlen : zs.length = len
  hle : len ≤ cap
  hmax : cap ≤ maxLen
  hcell : ∀ (i : Nat) (z : Int), zs[i]? = some z → ∃ x : Addr, oa = some x ∧ x.block < w.heap.size ∧ w.cell? (x.add i) = some (.int k z)

theorem Arg.at {w w' : World} {k : IntKind} {oa : Option Addr} {len cap : Nat} {zs : List Int} (h : Arg w k oa len cap zs) (hB : Below w.heap.size w w') (i : Nat) (hi : i < len) :
    ∃ (x : Addr) (z : Int), oa = some x ∧ z ∈ zs ∧ w'.cell? (x.add i) = some (.int k z) := by
  have hil : i < zs.length := by rw [h.hlen]; exact hi
  have hz : zs[i]? = some zs[i] := List.getElem?_eq_getElem hil
  obtain ⟨x, h1, h2, h3⟩ := h.hcell i _ hz
  exact ⟨x, _, h1, List.mem_of_getElem? hz, (hB.cell (by rw [add_block]; exact h2)).trans h3⟩

structure KI (W : World) (b r k : Nat) (s : SS) (L : List Nat) (f : Int → Bool) (own : Nat → Option Rl) (g c : Nat) (w : World) : Prop where
  env : E1 W w b s own
  wf : s.WF k
  inv : OInv s L f
  lst : Lst W w own 45 1 (some g) L.length c (encA L)
  mp : Mp w r .u64 (fun m => if f m then some (.bool true) else none)
  mine : own r = none ∧ W.heap.size ≤ r
  ne : g ≠ r
  few : L.length ≤ k

theorem Try.zero4 (w : World) : (zeroValue 4).run Try.prog w = .ok (.bool false) w := by kernel_rfl

theorem KI.start {W w : World} {b R : Nat} {own : Nat → Option Rl} (h : E1 W w b ⟨R, 0, 0, [], []⟩ own) (hR : R ≤ 16384) :
    KI W b w.heap.size 0 ⟨R, 0, 0, [], []⟩ [] (fun _ => false) own (w.heap.size + 1) 0 ((w.alloc (.map #[] 0)).alloc (.cells #[] 45)) := by
  have h1 := h.mod (Mod.alloc (fun _ => False) w (.map #[] 0)) (fun k hk => hk.elim)
  have h2 := h1.mod (Mod.alloc (fun _ => False) (w.alloc (.map #[] 0)) (.cells #[] 45)) (fun k hk => hk.elim)
  have hl := RI.start (R := R) (n := 0) h1
  refine ⟨h2, WF.start R hR, OInv.start R, by simpa [adds, encA] using hl.lst, ?_, h.new_own (Nat.le_refl _), by omega, by simp⟩
  simpa using (Mp.start w .u64).keep (w' := (w.alloc (.map #[] 0)).alloc (.cells #[] 45)) (Below.heap_alloc _ _ _ (by simp))

/-- Nothing of the slab's own, of the row and of the map has turned. -/
theorem KI.mono {W w : World} {b r k k' : Nat} {s : SS} {L : List Nat} {f : Int → Bool} {own : Nat → Option Rl} {g c : Nat} (h : KI W b r k s L f own g c w) (hk : k ≤ k') (hk' : k' < 1048576) : KI W b r k' s L f own g c w :=
  ⟨h.env, WF.mono h.wf hk hk', h.inv, h.lst, h.mp, h.mine, h.ne, Nat.le_trans h.few hk⟩

/-- The slab has turned, in some way that leaves its good addresses. -/
theorem KI.slab {W w w' : World} {b r k k' : Nat} {s s' : SS} {L : List Nat} {f : Int → Bool} {own own' : Nat → Option Rl} {g c : Nat} (h : KI W b r k s L f own g c w)
    (hE : E1 W w' b s' own') (hA : Aft w own w' own') (hW : s'.WF k') (hI : OInv s' L f) (hk : k ≤ k') : KI W b r k' s' L f own' g c w' := by
  have hr := hA.keep r h.mp.lt h.mine.1
  exact ⟨hE, hW, hI, h.lst.aft hA, h.mp.keep hr.1, ⟨hr.2, h.mine.2⟩, h.ne, Nat.le_trans h.few hk⟩

theorem encA_append (L : List Nat) (a : Nat) : encA (L ++ [a]) = encA L ++ [.int .u64 (a : Int)] := by simp [encA]
theorem encA_get {L : List Nat} {j a : Nat} (h : L[j]? = some a) : (encA L)[j]? = some (.int .u64 (a : Int)) := by simp [encA, h]

theorem KI.push {W w w' : World} {b r k : Nat} {s : SS} {L : List Nat} {f : Int → Bool} {own : Nat → Option Rl} {g c g' c' a : Nat} (v : Value) (t : TypeId)
    (hE : E1 W w b s own) (hL : Lst W w own 45 1 (some g) L.length c (encA L)) (hmp : Mp w r .u64 (fun m => if f m then some (.bool true) else none)) (hmi : own r = none ∧ W.heap.size ≤ r) (hne : g ≠ r)
    (hW : s.WF (k + 1)) (hinv : OInv s (L ++ [a]) f) (hfew : L.length ≤ k)
    (hS : Sl w' 45 1 (some g') (L.length + 1) c' (encA L ++ [.int .u64 (a : Int)])) (hor : g' = g ∨ w.heap.size + 1 ≤ g') (hM : Mod (fun k => k = g) (w.alloc (.cells #[v] t)) w') :
    KI W b r (k + 1) s (L ++ [a]) f own g' c' w' := by
  have hE2 := hE.mod (Mod.alloc (fun _ => False) w (.cells #[v] t)) (fun k hk => hk.elim)
  have hL2 : Lst W (w.alloc (.cells #[v] t)) own 45 1 (some g) L.length c (encA L) := ⟨hL.sl.alloc _, hL.mine⟩
  have hlt := hmp.lt
  have hmp2 := hmp.keep (w' := w.alloc (.cells #[v] t)) (Below.heap_alloc _ _ _ hlt)
  obtain ⟨h1, h2⟩ := hE2.append hL2 hS (by simpa using hor) (hM.mono fun k hk => by rw [hk])
  refine ⟨h1, hW, hinv, by rw [List.length_append, List.length_singleton, encA_append]; exact h2, hmp2.keep (hM.block r hmp2.lt (fun e => hne e.symm)), hmi, ?_, by simp; omega⟩
  rcases hor with rfl | h
  · exact hne
  · omega

theorem encA_one (L : List Nat) (l : List Value) (hl : ∀ u ∈ l, u ∈ encA L) : ∀ u ∈ l, u.oneCell' = true := fun u hu => by
  obtain ⟨a, _, rfl⟩ := List.mem_map.1 (hl u hu)
  rfl

/-- The new row of no cells. -/
theorem cut_new (wc : World) : Sl (wc.alloc (.cells #[] 45)).drew 45 1 (some wc.heap.size) 0 0 [] := by
  refine ⟨rfl, Nat.le_refl _, Nat.zero_le _, fun h => by (cases h), fun g hg => ?_⟩
  obtain rfl := Option.some.inj hg
  exact ⟨#[], heap_alloc_new wc _, by simp, by simp⟩

theorem cut_front {wc : World} {g n c : Nat} {L : List Nat} (h : Sl wc 45 1 (some g) n c (encA L)) (o : Obj) (j : Nat) : ∀ i u, ((encA L).take j)[i]? = some u → (wc.alloc o).drew.cell? ((⟨g, 0, none⟩ : Addr).add i) = some u := by
  intro i u hi
  rw [Addr.add_lit, Nat.zero_add]
  have hi' : (encA L)[i]? = some u := by
    rw [List.getElem?_take] at hi
    split at hi
    · exact hi
    · cases hi
  exact (h.alloc o).drew.cell rfl hi'

theorem cut_back {wc w5 : World} {g n c : Nat} {L : List Nat} (h : Sl wc 45 1 (some g) n c (encA L)) (hn : n = L.length) (o : Obj) (j : Nat) (ad : Addr) (had : j + 1 < n → ad = ⟨g, j + 1, none⟩)
    (hM : Mod (fun k => k = wc.heap.size) (wc.alloc o).drew w5) : ∀ i u, ((encA L).drop (j + 1))[i]? = some u → w5.cell? (ad.add i) = some u := by
  intro i u hi
  rw [List.getElem?_drop] at hi
  have hlt : j + 1 + i < L.length := by
    have := (List.getElem?_eq_some_iff.1 hi).1
    simpa [encA] using this
  rw [had (by omega), Addr.add_lit]
  have h' := (h.alloc o).drew
  have hgl := h.lt rfl
  exact (h'.keep (w' := w5) fun g' hg' => by
    obtain rfl := Option.some.inj hg'
    exact hM.block _ (h'.lt rfl) (by omega)).cell rfl hi

theorem cut_done {W wc w5 w6 : World} {b r k : Nat} {s : SS} {L : List Nat} {f : Int → Bool} {own : Nat → Option Rl} {g c g1 g2 c2 j : Nat} (HK : KI W b r k s L f own g c wc) (hj : j < L.length)
    (o1 : g1 = wc.heap.size ∨ wc.heap.size + 1 ≤ g1) (m1 : Mod (fun k => k = wc.heap.size) (wc.alloc (.cells #[] 45)).drew w5)
    (h2 : Sl w6 45 1 (some g2) (0 + j + (L.length - (j + 1))) c2 (([] ++ (encA L).take j) ++ (encA L).drop (j + 1))) (o2 : g2 = g1 ∨ w5.heap.size ≤ g2) (m2 : Mod (fun k => k = g1) w5 w6) :
    E1 W w6 b s own ∧ Lst W w6 own 45 1 (some g2) (L.length - 1) c2 (encA (L.eraseIdx j)) ∧ Mp w6 r .u64 (fun m => if f m then some (.bool true) else none) ∧ g2 ≠ r := by
  have hE := HK.env
  have hnew : ∀ k, wc.heap.size ≤ k → own k = none ∧ W.heap.size ≤ k := fun k hk => hE.new_own hk
  have hg1 : wc.heap.size ≤ g1 := by omega
  have hs5 := m1.size
  have e5 : (wc.alloc (.cells #[] 45)).drew.heap.size = wc.heap.size + 1 := by simp
  rw [e5] at hs5
  have hE1 := hE.mod (Mod.alloc (fun _ => False) wc (.cells #[] 45)) (fun k hk => hk.elim)
  have hE2 := hE1.mod (Mod.drew (fun _ => False) _) (fun k hk => hk.elim)
  have hE3 := hE2.mod m1 (fun k hk => hnew k (by omega))
  have hE4 := hE3.mod m2 (fun k hk => hnew k (by omega))
  have hrl := HK.mp.lt
  have hg2 : wc.heap.size ≤ g2 := by omega
  refine ⟨hE4, ⟨?_, ?_⟩, ?_, by omega⟩
  · have e1 : 0 + j + (L.length - (j + 1)) = L.length - 1 := by omega
    have e2 : ([] ++ (encA L).take j) ++ (encA L).drop (j + 1) = encA (L.eraseIdx j) := by
      simp [encA, List.eraseIdx_eq_take_drop_succ]
    rw [e1, e2] at h2
    exact h2
  · intro g' hg'
    obtain rfl := Option.some.inj hg'
    exact hnew _ hg2
  · refine HK.mp.keep ?_
    rw [m2.block r (by omega) (by omega), m1.block r (by omega) (by omega)]
    exact Below.heap_alloc _ _ _ hrl

set_option maxRecDepth 100000 in
set_option maxHeartbeats 4000000 in
theorem once_out (n : Int) (oa : Option Addr) (la ca : Nat) (ob : Option Addr) (lb cb : Nat) (h : 60 < la ∨ 60 < lb ∨ n < 0 ∨ 16384 < n) (w : World) :
    Calls Try.prog 4 #[.int .i64 n, .slice oa la ca, .slice ob lb cb] w fun e w' => e = .returned (.bool true) ∧ Below w.heap.size w w' := by
  by_cases h1 : 60 < la
  · clear h
    go_enter Try.func4, Try.ntmps4
    go_wp2_with (refine (alive_calls w).mono ?_; rintro e w1 ⟨rfl, hB⟩; have HB : Hd _ := ⟨hB⟩; clear hB)
    go_ret
    exact ⟨rfl, HB.out⟩
  by_cases h2 : 60 < lb
  · clear h
    go_enter Try.func4, Try.ntmps4
    go_wp2_with (refine (alive_calls w).mono ?_; rintro e w1 ⟨rfl, hB⟩; have HB : Hd _ := ⟨hB⟩; clear hB)
    go_ret
    exact ⟨rfl, HB.out⟩
  have h3 : n < 0 ∨ 16384 < n := by omega
  have H3 : Hd _ := ⟨h3⟩
  clear h h3
  go_enter Try.func4, Try.ntmps4
  go_wp2_with fail
  refine (alive_calls w).mono ?_
  rintro e w1 ⟨rfl, hB⟩
  have HB : Hd _ := ⟨hB⟩
  clear hB
  go_wp2_with fail
  refine (new_calls n w1).mono ?_
  rintro e w2 hh
  rw [if_pos (by have := H3.out; omega)] at hh
  obtain ⟨rfl, rfl⟩ := hh
  go_wp2
  go_ret
  exact ⟨rfl, HB.out⟩

set_option maxRecDepth 100000 in
set_option maxHeartbeats 4000000 in
theorem once_walk (n : Nat) (oa : Option Addr) (la ca : Nat) (za : List Int) (ob : Option Addr) (lb cb : Nat) (zb : List Int) (w : World) (hn : n ≤ 16384) (hla : la ≤ 60) (hlb : lb ≤ 60)
    (ha : Arg w .i64 oa la ca za) (hb : Arg w .u8 ob lb cb zb) (hu : ∀ z ∈ zb, 0 ≤ z ∧ z < 256) :
    Calls Try.prog 4 #[.int .i64 n, .slice oa la ca, .slice ob lb cb] w fun e w' => e = .returned (.bool true) ∧ Below w.heap.size w w' := by
  have HA : Hd _ := ⟨ha⟩
  have HB : Hd _ := ⟨hb⟩
  have HU : Hd _ := ⟨hu⟩
  have hale := ha.hle
  have hamax := ha.hmax
  have hble := hb.hle
  have hbmax := hb.hmax
  clear ha hb hu
  have hmm := @run_makeMap Try.prog
  go_enter Try.func4, Try.ntmps4
  go_wp2_with fail
  refine (alive_calls w).mono ?_
  rintro e w1 ⟨rfl, hB⟩
  have HB1 : Hd _ := ⟨hB⟩
  clear hB
  go_wp2_with fail
  refine (new1 (W := w) _ (by omega) (by omega) _ HB1.out).mono ?_
  rintro e w2 ⟨rfl, own2, hE, _⟩
  rw [Int.toNat_natCast] at hE
  have HK0 : Hd _ := ⟨KI.start hE hn⟩
  clear hE HB1
  go_wp2_with fail
  go_loopg [10, 11] la (fun gk v10 v11 wr => ∃ (k g c : Nat) (s : SS) (L : List Nat) (f : Int → Bool) (own : Nat → Option Rl), v10 = .slice (some ⟨g, 0, none⟩) L.length c ∧ v11 = .int .i64 k ∧ k + gk = la ∧ Hd (KI w w1.heap.size w2.heap.size k s L f own g c wr))
  case atStart => exact ⟨0, _, 0, _, [], _, _, rfl, rfl, by omega, HK0⟩
  case round =>
    clear HK0
    obtain ⟨k, g, c, s, L, f, own, rfl, rfl, hk, HK⟩ := hrel
    have hfew := HK.out.few
    have hcap := HK.out.lst.sl.le
    by_cases hlt : k < la
    · obtain ⟨x, z, rfl, hz, hc⟩ := HA.out.at HK.out.env.below k hlt
      clear hz
      go_wp2_with fail
      obtain ⟨a, e, s', hg⟩ : ∃ a e s', s.get z = ((a, e), s') := ⟨_, _, _, rfl⟩
      refine (HK.out.env.get_c HK.out.wf z hg).mono ?_
      rintro e0 w3 ⟨rfl, own3, hE3, hA3⟩
      have HG : Hd _ := ⟨hg⟩
      have HE3 : Hd _ := ⟨hE3⟩
      have HA3 : Hd _ := ⟨hA3⟩
      clear hg hE3 hA3 hc
      go_upto_if 60 with fail
      go_cut [10] from 44 to 140 (fun v10 wc => ∃ (g c : Nat) (s : SS) (L : List Nat) (f : Int → Bool) (own : Nat → Option Rl), v10 = .slice (some ⟨g, 0, none⟩) L.length c ∧ Hd (KI w w1.heap.size w2.heap.size (k + 1) s L f own g c wc))
      case first =>
        by_cases he : e = 0
        · subst he
          obtain ⟨hfa, halt, s'', hset, hinv⟩ := HK.out.inv.got HK.out.wf (by omega) z HG.out (k : Int)
          have hW' := WF.get HK.out.wf (by omega) z
          rw [HG.out] at hW'
          have hW'' := WF.set hW' a ((k : Int), true)
          rw [hset] at hW''
          have hmk := HA3.out.keep w2.heap.size HK.out.mp.lt HK.out.mine.1
          have hlk := (HK.out.mp.keep hmk.1).lookup (P := Try.prog) Try.underlying43 Try.underlying45 (Try.zero4 w3) (a : Int) false
          simp only [hfa, Bool.false_eq_true, if_false, Option.getD_none] at hlk
          have HSET : Hd _ := ⟨hset⟩
          have HINV : Hd _ := ⟨hinv⟩
          have HW' : Hd _ := ⟨hW'⟩
          have HW'' : Hd _ := ⟨hW''⟩
          have HLST : Hd _ := ⟨HK.out.lst.aft HA3.out⟩
          have HMP : Hd _ := ⟨HK.out.mp.keep hmk.1⟩
          have HMI : Hd _ := ⟨And.intro hmk.2 HK.out.mine.2⟩
          clear hset hinv hW' hW'' hmk hfa
          go_wp2_with fail
          refine (HE3.out.store_c HW'.out a halt (k : Int) HSET.out).mono ?_
          rintro e0 w4 ⟨rfl, hE4, hA4⟩
          have hmk := hA4.keep w2.heap.size HMP.out.lt HMI.out.1
          obtain ⟨w5, hmu, hmp5, hmod5⟩ := (HMP.out.keep hmk.1).update (P := Try.prog) Try.underlying43 Try.underlying45 (a : Int) (.bool true)
          have HE5 : Hd _ := ⟨hE4.mod hmod5 (fun k hk => hk ▸ HMI.out)⟩
          have HL5 : Hd (Lst w w5 own3 45 1 (some g) L.length c (encA L)) := ⟨⟨(HLST.out.aft hA4).sl.keep (fun g' hg' => hmod5.block g' ((HLST.out.aft hA4).sl.lt hg') (fun e => by cases hg'; exact HK.out.ne e)), HLST.out.mine⟩⟩
          have HMP5 : Hd _ := ⟨hmp5⟩
          clear hE4 hA4 hmk hmp5 hmod5 hlk HE3 HA3 HLST HMP
          obtain ⟨i0, hi, hz0, hz1, hz2⟩ := info_parts Try.info45
          go_wp2_with (at_builtin; refine wpList_append_sl _ rfl (.tmp 73) (.tmp 75) 44 rfl 45 i0 (.int .u64 0) 1 8 Try.underlying44 hi hz0 hz1 hz2 rfl (by decide) (some g) L.length c (encA L) rfl (HL5.out.sl.alloc _) ⟨w5.heap.size, 0, none⟩ 1 1 [.int .u64 (a : Int)] rfl rfl ?k1 ?k2 (by decide) ?b1 ?b2 ?grow)
          case k1 => exact one_cell _ rfl
          case k2 => intro u hu; simp at hu; subst hu; rfl
          case b1 => unfold maxLen; omega
          case b2 => omega
          case grow =>
            intro g' c' w6 hS6 hor hM
            have HX : Hd (KI w w1.heap.size w2.heap.size (k + 1) s'' (L ++ [a]) (fun m => if m = (a : Int) then true else f m) own3 g' c' w6) := ⟨KI.push (.int .u64 (a : Int)) 45 HE5.out HL5.out (by
                have e : (fun m : Int => if (if m = (a : Int) then true else f m) = true then some (Value.bool true) else none) = (fun m => if m = (a : Int) then some (.bool true) else if f m = true then some (.bool true) else none) := by
                  funext m
                  by_cases hm : m = (a : Int) <;> simp [hm]
                rw [e]
                exact HMP5.out) HMI.out HK.out.ne HW''.out HINV.out hfew hS6 (by simpa using hor) (by simpa using hM)⟩
            clear hS6 hor hM
            go_wp2_with fail
            go_meet
            case rel => exact ⟨g', c', s'', L ++ [a], _, own3, by simp, HX⟩
        · have hs := SS.get_not HG.out he
          subst hs
          have HX : Hd _ := ⟨HK.out.slab HE3.out HA3.out (WF.mono HK.out.wf (Nat.le_succ k) (by omega)) HK.out.inv (Nat.le_succ k)⟩
          clear HG HE3 HA3 HK
          go_wp2_with fail
          go_meet
          case rel => exact ⟨g, c, s', L, f, own3, rfl, HX⟩
      case rest =>
        clear HK HG HE3 HA3 hfew hcap
        obtain ⟨g, c, s, L, f, own, rfl, HK⟩ := hcut
        have hfew := HK.out.few
        have hcap := HK.out.lst.sl.le
        by_cases hfree : k < lb ∧ 0 < L.length
        · obtain ⟨hkb, hL0⟩ := hfree
          obtain ⟨y, z, rfl, hz, hc⟩ := HB.out.at HK.out.env.below k hkb
          have hzu := HU.out z hz
          obtain ⟨j, hj1, hj2, hj⟩ : ∃ j : Nat, z % (L.length : Int) = (j : Int) ∧ z.tmod (L.length : Int) = (j : Int) ∧ j < L.length := by
            obtain ⟨Z, rfl⟩ := Int.eq_ofNat_of_zero_le hzu.1
            exact ⟨Z % L.length, by omega, by rw [← Int.ofNat_tmod], Nat.mod_lt _ hL0⟩
          obtain ⟨bb, hbb⟩ : ∃ bb, L[j]? = some bb := ⟨_, List.getElem?_eq_getElem hj⟩
          have hc0 : wc.cell? ⟨g, j, none⟩ = some (.int .u64 (bb : Int)) := HK.out.lst.sl.cell rfl (encA_get hbb)
          obtain ⟨i0, hi, hz0, hz1, hz2⟩ := info_parts Try.info45
          have hsl1 := run_slice_low (P := Try.prog) 44 45 i0 Try.underlying44 hi ⟨g, 0, none⟩ L.length c j (by omega) hcap
          obtain ⟨j1, hj1e⟩ : ∃ j1, j1 = j + 1 := ⟨_, rfl⟩
          have hwj : IntKind.i64.wrap ((j : Int) + 1) = (j1 : Int) := by rw [hj1e]; simp [IntKind.wrap, IntKind.bits, IntKind.signed]; omega
          have hjc : j ≤ c := by omega
          have hj1l : j1 ≤ L.length := by omega
          obtain ⟨ad, hif, had⟩ : ∃ ad : Addr, (if c = j1 then some (⟨g, 0, none⟩ : Addr) else some ⟨g, j1, none⟩) = some ad ∧ (j + 1 < L.length → ad = ⟨g, j + 1, none⟩) := by
            by_cases h : c = j1
            · exact ⟨_, by rw [if_pos h], fun h => by omega⟩
            · exact ⟨_, by rw [if_neg h], fun _ => by rw [hj1e]⟩
          have HJ1 : Hd _ := ⟨hj1e⟩
          have HAD : Hd _ := ⟨had⟩
          have HBB : Hd _ := ⟨hbb⟩
          have HI0 : Hd _ := ⟨And.intro hi (And.intro hz0 (And.intro hz1 hz2))⟩
          clear had hj1e hsl1 hbb hi hz0 hz1 hz2 hz hL0
          have HTL : Hd (((encA L).take j).length = j) := ⟨by simp [encA]; omega⟩
          have HDL : Hd (((encA L).drop (j + 1)).length = L.length - (j + 1)) := ⟨by simp [encA]⟩
          go_upto_region 22 with fail
          go_cut [10] from 44 to 140 (fun v10 w6 => ∃ (g' c' : Nat), v10 = .slice (some ⟨g', 0, none⟩) (L.length - 1) c' ∧ Hd (E1 w w6 w1.heap.size s own ∧ Lst w w6 own 45 1 (some g') (L.length - 1) c' (encA (L.eraseIdx j)) ∧ Mp w6 w2.heap.size .u64 (fun m => if f m then some (.bool true) else none) ∧ g' ≠ w2.heap.size))
          case first =>
            go_region_law (first | (refine step_append_sls rfl (.tmp 98) (.tmp 101) 44 rfl 45 i0 (.int .u64 0) 8 Try.underlying44 HI0.out.1 HI0.out.2.1 HI0.out.2.2.1 HI0.out.2.2.2 rfl wc.heap.size 0 0 [] (by simp [Act.eval, Act.put, sv]) (cut_new wc) ⟨g, 0, none⟩ j c ((encA L).take j) (by simp [Act.eval, Act.put]) HTL.out (cut_front HK.out.lst.sl _ j) (encA_one L _ (fun u hu => List.mem_of_mem_take hu)) (by unfold maxLen; omega) (by omega) ?_; intro g1 c1 w5 hS1 hor1 hM1; have X1 : Hd _ := ⟨And.intro hS1 (And.intro hor1 hM1)⟩; clear hS1 hor1 hM1) | (refine step_append_sls rfl (.tmp 102) (.tmp 106) 44 rfl 45 i0 (.int .u64 0) 8 Try.underlying44 HI0.out.1 HI0.out.2.1 HI0.out.2.2.1 HI0.out.2.2.2 rfl g1 (0 + j) c1 ([] ++ (encA L).take j) (by simp [Act.eval, Act.put, sv]) X1.out.1 ad (L.length - (j + 1)) (c - (j + 1)) ((encA L).drop (j + 1)) (by rw [← HJ1.out]; simp [Act.eval, Act.put]) HDL.out (cut_back HK.out.lst.sl rfl _ j ad HAD.out X1.out.2.2) (encA_one L _ (fun u hu => List.mem_of_mem_drop hu)) (by unfold maxLen; omega) (by omega) ?_; intro g2 c2 w6 hS2 hor2 hM2; have X2 : Hd _ := ⟨And.intro hS2 (And.intro hor2 hM2)⟩; clear hS2 hor2 hM2))
            all_goals (go_wp2_with fail; go_meet)
            all_goals (case rel => exact ⟨g2, c2, by simp; omega, ⟨cut_done HK.out hj (by simpa using X1.out.2.1) X1.out.2.2 X2.out.1 X2.out.2.1 X2.out.2.2⟩⟩)
          case rest =>
            obtain ⟨g', c', rfl, HC⟩ := hcut
            obtain ⟨s', hfr, hinv', hfr2, hst2⟩ := HK.out.inv.freed HK.out.wf HBB.out
            have hW' := WF.free HK.out.wf bb
            rw [hfr] at hW'
            have HFR : Hd _ := ⟨hfr⟩
            have HFR2 : Hd _ := ⟨hfr2⟩
            have HST2 : Hd _ := ⟨hst2⟩
            have HW' : Hd _ := ⟨hW'⟩
            have HINV : Hd _ := ⟨hinv'⟩
            have HLT : Hd _ := ⟨HK.out.inv.lt HK.out.wf (List.mem_of_getElem? HBB.out)⟩
            have HMI : Hd _ := ⟨HK.out.mine⟩
            have HWF : Hd _ := ⟨HK.out.wf⟩
            have hle1 : (L.eraseIdx j).length = L.length - 1 := List.length_eraseIdx_of_lt hj
            clear hfr hfr2 hst2 hW' hinv' hc0 hif HK HI0 HTL HDL HAD
            go_wp2_with fail
            refine (HC.out.1.free_c HWF.out bb HLT.out HFR.out).mono ?_
            rintro e0 w7 ⟨rfl, own7, hE7, hA7⟩
            have HE7 : Hd _ := ⟨hE7⟩
            have HL7 : Hd _ := ⟨HC.out.2.1.aft hA7⟩
            have HR7 : Hd _ := ⟨hA7.keep w2.heap.size HC.out.2.2.1.lt HMI.out.1⟩
            have HM7 : Hd _ := ⟨HC.out.2.2.1.keep HR7.out.1⟩
            clear hE7 hA7
            go_wp2_with fail
            refine (HE7.out.free_c HW'.out bb HLT.out HFR2.out).mono ?_
            rintro e0 w8 ⟨rfl, own8, hE8, hA8⟩
            have HE8 : Hd _ := ⟨hE8⟩
            have HL8 : Hd _ := ⟨HL7.out.aft hA8⟩
            have HR8 : Hd _ := ⟨hA8.keep w2.heap.size HM7.out.lt HR7.out.2⟩
            have HM8 : Hd _ := ⟨HM7.out.keep HR8.out.1⟩
            clear hE8 hA8
            go_wp2_with fail
            refine (HE8.out.store_c HW'.out bb HLT.out 1 HST2.out).mono ?_
            rintro e0 w9 ⟨rfl, hE9, hA9⟩
            have HR9 : Hd _ := ⟨hA9.keep w2.heap.size HM8.out.lt HR8.out.2⟩
            obtain ⟨L1, hL1⟩ : ∃ L1, L1 = L.eraseIdx j := ⟨_, rfl⟩
            have hL1len : L.length - 1 = L1.length := by rw [hL1, hle1]
            have HKL : Hd (KI w w1.heap.size w2.heap.size (k + 1) s' L1 f own8 g' c' w9) := ⟨⟨hE9, HW'.out, by rw [hL1]; exact HINV.out, by rw [← hL1len, hL1]; exact HL8.out.aft hA9, HM8.out.keep HR9.out.1, ⟨HR9.out.2, HMI.out.2⟩, HC.out.2.2.2, by omega⟩⟩
            clear hE9 hA9 HR9 HE8 HL8 HR8 HM8 HE7 HL7 HR7 HM7 HC hle1 hL1
            rw [hL1len]
            go_wp2_with fail
            go_loopg [16] L1.length (fun gk v16 wx => w9 = wx ∧ ∃ m : Nat, v16 = .int .i64 m ∧ m + gk = L1.length)
            case atStart => exact ⟨rfl, 0, rfl, by omega⟩
            case round =>
              obtain ⟨rfl, m, rfl, hm⟩ := hrel
              have hcapL := HKL.out.lst.sl.le
              by_cases hml : m < L1.length
              · obtain ⟨bm, hbm⟩ : ∃ bm, L1[m]? = some bm := ⟨_, List.getElem?_eq_getElem hml⟩
                have hcm : w9.cell? ⟨g', m, none⟩ = some (.int .u64 (bm : Int)) := HKL.out.lst.sl.cell rfl (encA_get hbm)
                obtain ⟨vm, hlm⟩ := HKL.out.inv.load HKL.out.wf (List.mem_of_getElem? hbm)
                have HLM : Hd _ := ⟨hlm⟩
                have HBM : Hd _ := ⟨HKL.out.inv.lt HKL.out.wf (List.mem_of_getElem? hbm)⟩
                clear hlm hbm
                go_wp2_with fail
                refine (HKL.out.env.load_c HKL.out.wf bm HBM.out HLM.out).mono ?_
                rintro e0 w8 ⟨rfl, rfl⟩
                go_wp2_with fail
                go_roundg (gk - 1)
                case measure => omega
                case rel => exact ⟨rfl, m + 1, by go_num, by omega⟩
              · go_wp2_with fail
                go_roundg (la - k - 1)
                case measure => omega
                case rel => exact ⟨k + 1, g', c', s', L1, f, own8, rfl, by go_num, by omega, HKL⟩
        · clear hcap
          by_cases hkb : k < lb
          · have hL0 : L = [] := List.eq_nil_of_length_eq_zero (by omega)
            subst hL0
            clear hfree
            have HK' : Hd _ := HK
            clear HK hfew
            go_wp2_with fail
            go_loopg [16] 0 (fun gk v16 wx => wc = wx ∧ ∃ m : Nat, v16 = .int .i64 m ∧ m + gk = 0)
            case atStart => exact ⟨rfl, 0, rfl, rfl⟩
            case round =>
              obtain ⟨rfl, m, rfl, hm⟩ := hrel
              have hm0 : m = 0 := by omega
              subst hm0
              go_wp2_with fail
              go_roundg (la - k - 1)
              case measure => omega
              case rel => exact ⟨k + 1, g, c, s, [], f, own, by simp, by go_num, by omega, HK'⟩
          · clear hfree
            go_wp2_with fail
            go_loopg [16] L.length (fun gk v16 wx => wc = wx ∧ ∃ m : Nat, v16 = .int .i64 m ∧ m + gk = L.length)
            case atStart => exact ⟨rfl, 0, rfl, by omega⟩
            case round =>
              obtain ⟨rfl, m, rfl, hm⟩ := hrel
              have hcapL := HK.out.lst.sl.le
              by_cases hml : m < L.length
              · obtain ⟨bm, hbm⟩ : ∃ bm, L[m]? = some bm := ⟨_, List.getElem?_eq_getElem hml⟩
                have hcm : wc.cell? ⟨g, m, none⟩ = some (.int .u64 (bm : Int)) := HK.out.lst.sl.cell rfl (encA_get hbm)
                obtain ⟨vm, hlm⟩ := HK.out.inv.load HK.out.wf (List.mem_of_getElem? hbm)
                have HLM : Hd _ := ⟨hlm⟩
                have HBM : Hd _ := ⟨HK.out.inv.lt HK.out.wf (List.mem_of_getElem? hbm)⟩
                clear hlm hbm
                go_wp2_with fail
                refine (HK.out.env.load_c HK.out.wf bm HBM.out HLM.out).mono ?_
                rintro e0 w8 ⟨rfl, rfl⟩
                go_wp2_with fail
                go_roundg (gk - 1)
                case measure => omega
                case rel => exact ⟨rfl, m + 1, by go_num, by omega⟩
              · go_wp2_with fail
                go_roundg (la - k - 1)
                case measure => omega
                case rel => exact ⟨k + 1, g, c, s, L, f, own, rfl, by go_num, by omega, HK⟩
    · have hkl : k = la := by omega
      subst hkl
      go_wp2_with fail
      refine HK.out.env.live_c.mono ?_
      rintro e w3 ⟨rfl, rfl⟩
      rw [← HK.out.inv.live]
      go_wp2
      go_ret
      exact ⟨rfl, HK.out.env.below⟩
end Go.Proofs.Ytpgoogjaoffdoaa
