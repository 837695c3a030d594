/- The document's slab: All, by its walk. -/
import Derived.Test.YtpgoogjaoffdoaaRef13
namespace Go.Proofs.Ytpgoogjaoffdoaa
set_option linter.unusedVariables false
set_option linter.unusedSimpArgs false
open Go.RowKit

/-- The pieces of an index that there are. -/
def atIdx (i : Nat) (ps : List RPc) : List (Nat × Nat) := (ps.filter fun p => p.idx == i && !p.freed).map fun p => (p.first, p.vals.length)
def RSS.upto (r : RSS) (i : Nat) : List (Nat × Nat) := (List.range i).flatMap fun i => atIdx i r.pcs
theorem RSS.upto_succ (r : RSS) (i : Nat) : r.upto (i + 1) = r.upto i ++ atIdx i r.pcs := by simp [RSS.upto, List.range_succ]
theorem atIdx_take (i : Nat) (ps : List RPc) (j : Nat) (p : RPc) (h : ps[j]? = some p) : atIdx i (ps.take (j + 1)) = atIdx i (ps.take j) ++ (if p.idx = i ∧ p.freed = false then [(p.first, p.vals.length)] else []) := by
  rw [List.take_add_one, h]
  by_cases h1 : p.idx = i <;> cases h2 : p.freed <;> simp [atIdx, h1, h2]

def encA' (l : List Nat) : List Value := l.map fun (n : Nat) => Value.int .u64 (n : Int)

structure AllI (w wr : World) (ga ca gs cs : Nat) (l : List (Nat × Nat)) : Prop where
  mod : Mod (fun _ => False) w wr
  sa : Sl wr 23 1 (some ga) l.length ca (encA' (l.map Prod.fst))
  ss : Sl wr 3 1 (some gs) l.length cs (encN (l.map Prod.snd))
  na : w.heap.size ≤ ga
  ns : w.heap.size ≤ gs
  ne : ga ≠ gs

theorem AllI.start (w : World) : AllI w ((w.alloc (.cells #[] 23)).alloc (.cells #[] 3)) w.heap.size 0 (w.heap.size + 1) 0 [] := by
  refine ⟨(Mod.alloc (fun _ => False) _ _).trans (Mod.alloc (fun _ => False) _ _) (fun _ h => h.elim), ?_, ?_, Nat.le_refl _, by omega, by omega⟩
  · exact (Sl.fresh2 w 23 (.cells #[] 3)).keep fun _ _ => rfl
  · exact (Sl.fresh3 w 3 (.cells #[] 23)).keep fun _ _ => rfl

theorem AllI.call {w w1 w2 : World} {ga ca gs cs : Nat} {l : List (Nat × Nat)} (h : AllI w w1 ga ca gs cs l) (hM : Mod (fun _ => False) w1 w2) : AllI w w2 ga ca gs cs l :=
  ⟨h.mod.trans hM (fun _ h => h.elim), h.sa.keep fun g hg => hM.block g (h.sa.lt hg) (fun h => h), h.ss.keep fun g hg => hM.block g (h.ss.lt hg) (fun h => h), h.na, h.ns, h.ne⟩

/-- Between the two appends. -/
structure AllH (w wr : World) (ga ca gs cs : Nat) (l : List (Nat × Nat)) (a : Nat) : Prop where
  mod : Mod (fun _ => False) w wr
  sa : Sl wr 23 1 (some ga) (l.length + 1) ca (encA' (l.map Prod.fst) ++ [.int .u64 (a : Int)])
  ss : Sl wr 3 1 (some gs) l.length cs (encN (l.map Prod.snd))
  na : w.heap.size ≤ ga
  ns : w.heap.size ≤ gs
  ne : ga ≠ gs

theorem AllI.half {w w1 w2 : World} {ga ca gs cs g' c' a : Nat} {l : List (Nat × Nat)} {o : Obj} (h : AllI w w1 ga ca gs cs l) (hS : Sl w2 23 1 (some g') (l.length + 1) c' (encA' (l.map Prod.fst) ++ [.int .u64 (a : Int)]))
    (hor : some g' = some ga ∨ (w1.alloc o).heap.size ≤ g') (hM : Mod (fun k => some k = some ga) (w1.alloc o) w2) : AllH w w2 g' c' gs cs l a := by
  have hsz := h.mod.size
  have h1 := h.call (Mod.alloc _ w1 o)
  have hgs := h.ss.lt rfl
  have hM2 : Mod (fun k => k = ga) (w1.alloc o) w2 := hM.mono fun k hk => Option.some.inj hk
  refine ⟨h1.mod.trans hM2 (fun k hk => Or.inr (by rw [hk]; exact h.na)), hS, h1.ss.keep fun g hg => ?_, ?_, h.ns, ?_⟩
  · exact hM2.block g (h1.ss.lt hg) (fun e => h.ne (by rw [← e]; exact (Option.some.inj hg).symm))
  · rcases hor with e | e
    · rw [Option.some.inj e]; exact h.na
    · simp at e; omega
  · rcases hor with e | e
    · rw [Option.some.inj e]; exact h.ne
    · simp at e; omega

theorem AllH.full {w w1 w2 : World} {ga ca gs cs g' c' a n : Nat} {l : List (Nat × Nat)} {o : Obj} (h : AllH w w1 ga ca gs cs l a) (hS : Sl w2 3 1 (some g') (l.length + 1) c' (encN (l.map Prod.snd) ++ [.int .i64 (n : Int)]))
    (hor : some g' = some gs ∨ (w1.alloc o).heap.size ≤ g') (hM : Mod (fun k => some k = some gs) (w1.alloc o) w2) : AllI w w2 ga ca g' c' (l ++ [(a, n)]) := by
  have hsz := h.mod.size
  have hga := h.sa.lt rfl
  have hM2 : Mod (fun k => k = gs) (w1.alloc o) w2 := hM.mono fun k hk => Option.some.inj hk
  refine ⟨(h.mod.trans (Mod.alloc (fun _ => False) w1 o) (fun _ h => h.elim)).trans hM2 (fun k hk => Or.inr (by rw [hk]; exact h.ns)), ?_, ?_, h.na, ?_, ?_⟩
  · have := (h.sa.alloc o).keep (w' := w2) fun g hg => hM2.block g ((h.sa.alloc o).lt hg) (fun e => h.ne (by rw [← e]; exact (Option.some.inj hg)))
    simpa [encA'] using this
  · simpa [encN] using hS
  · rcases hor with e | e
    · rw [Option.some.inj e]; exact h.ns
    · simp at e; omega
  · rcases hor with e | e
    · rw [Option.some.inj e]; exact h.ne
    · simp at e; omega

theorem Try.info23 : (Try.prog.info? 23).map (fun i => (i.zero, i.size, i.bytes)) = some (some (.int .u64 0), 1, 8) := by kernel_rfl

theorem encA'_one (l : List Nat) : ∀ u ∈ encA' l, u.oneCell' = true := by
  intro u hu
  simp [encA'] at hu
  obtain ⟨x, _, rfl⟩ := hu
  rfl

set_option maxRecDepth 100000 in
set_option maxHeartbeats 4000000 in
theorem rall_calls {w : World} {b : Nat} {r : RSS} {own : Nat → Option Rr} {L : RLo} {N : Nat} (h : RRepS w b r own L) (hO : r.Ok N) :
    Calls Try.prog 32 #[.pointer (some ⟨b, 0, none⟩)] w fun e w' => ∃ ga ca gs cs, e = .returned (.tuple #[.slice (some ⟨ga, 0, none⟩) r.all.length ca, .slice (some ⟨gs, 0, none⟩) r.all.length cs]) ∧ AllI w w' ga ca gs cs r.all := by
  have H : Hd _ := ⟨h⟩
  have HO : Hd _ := ⟨hO⟩
  have HA : Hd (r.all = r.upto r.next) := ⟨rfl⟩
  have hlen : L.Q.length = r.pcs.length := by rw [h.pcs, List.length_map]
  have hN : r.pcs.length < 1048576 := by have := hO.many; have := hO.bound; omega
  have hX : r.next < 1048576 := by have := hO.next; have := hO.bound; omega
  have hcl := h.plc.le
  have hcm := h.plc.max
  unfold maxLen at hcm
  clear h hO
  have HI0 : Hd (AllI w ((w.alloc (.cells #[] 23)).alloc (.cells #[] 3)) w.heap.size 0 (w.heap.size + 1) 0 (r.upto 0)) := ⟨AllI.start w⟩
  have HU0 : Hd ((r.upto 0).length = 0) := ⟨rfl⟩
  go_enter Try.func32, Try.ntmps32
  go_wp2_with fail
  go_loopg [4, 5, 6] r.next (fun gk v4 v5 v6 wr => ∃ (i ga ca gs cs n : Nat), v4 = .slice (some ⟨ga, 0, none⟩) n ca ∧ v5 = .slice (some ⟨gs, 0, none⟩) n cs ∧ v6 = .int .i64 i ∧ i + gk = r.next ∧ n ≤ 1048576 * i ∧ Hd ((r.upto i).length = n) ∧ Hd (AllI w wr ga ca gs cs (r.upto i)))
  case atStart => exact ⟨0, _, 0, _, 0, 0, rfl, rfl, rfl, by omega, by omega, HU0, HI0⟩
  case round =>
    clear HI0 HU0
    obtain ⟨i, ga, ca, gs, cs, n, rfl, rfl, rfl, hi, hni, HU, HI⟩ := hrel
    obtain ⟨c0, c1, c2, c3⟩ := (H.out.mod HI.out.mod).cells
    clear c0 c2
    by_cases hlt : i < r.next
    · go_wp2_with fail
      go_loopg [4, 5, 7] r.pcs.length (fun gj v4 v5 v7 wx => ∃ (j ga ca gs cs n : Nat), v4 = .slice (some ⟨ga, 0, none⟩) n ca ∧ v5 = .slice (some ⟨gs, 0, none⟩) n cs ∧ v7 = .int .i64 j ∧ j + gj = r.pcs.length ∧ n ≤ 1048576 * i + j ∧ Hd ((r.upto i ++ atIdx i (r.pcs.take j)).length = n) ∧ Hd (AllI w wx ga ca gs cs (r.upto i ++ atIdx i (r.pcs.take j))))
      case atStart => exact ⟨0, ga, ca, gs, cs, n, rfl, rfl, rfl, by omega, by omega, ⟨by simpa [atIdx] using HU.out⟩, ⟨by simpa [atIdx] using HI.out⟩⟩
      case round =>
        clear HI HU c1 c3
        obtain ⟨j, ga, ca, gs, cs, n, rfl, rfl, rfl, hj, hnj, HU, HI⟩ := hrel
        obtain ⟨c0, c1, c2, c3⟩ := (H.out.mod HI.out.mod).cells
        clear c0 c2
        by_cases hjl : j < r.pcs.length
        · obtain ⟨p, hp⟩ : ∃ p, r.pcs[j]? = some p := ⟨_, List.getElem?_eq_getElem hjl⟩
          obtain ⟨q, g, hq, rfl, hg, hil, p0, p1, p2, p3, p4⟩ := (H.out.mod HI.out.mod).piece hp
          have hpm := List.mem_of_getElem? hp
          have hx := HO.out.idx _ hpm
          have hy := HO.out.age _ hpm
          have hz := (HO.out.len _ hpm).1
          have hst := atIdx_take i r.pcs j _ hp
          rw [hg] at c1
          simp only [sv_some] at c1
          have HST : Hd _ := ⟨hst⟩
          have HG : Hd _ := ⟨hg⟩
          have HP : Hd _ := ⟨hp⟩
          have HQ : Hd _ := ⟨hq⟩
          clear hst hp hpm hg hq
          by_cases hidx : q.pc.idx = i
          · cases hfr : q.pc.freed with
            | true =>
              have hne : (q.pc.idx : Int) = (i : Int) := by omega
              have HS2 : Hd (atIdx i (r.pcs.take (j + 1)) = atIdx i (r.pcs.take j)) := ⟨by rw [HST.out, if_neg (fun h => by rw [hfr] at h; cases h.2)]; simp⟩
              rw [hfr] at p4
              rw [hidx] at p0
              clear hidx hfr
              go_wp2_with fail
              go_roundg (gk - 1)
              case measure => omega
              case rel => exact ⟨j + 1, ga, ca, gs, cs, n, rfl, rfl, by go_num, by omega, by omega, ⟨by rw [HS2.out]; exact HU.out⟩, ⟨by rw [HS2.out]; exact HI.out⟩⟩
            | false =>
              have HS2 : Hd (atIdx i (r.pcs.take (j + 1)) = atIdx i (r.pcs.take j) ++ [(addrOf q.pc.idx q.pc.age 0, q.pc.vals.length)]) := ⟨by rw [HST.out, if_pos ⟨hidx, hfr⟩]; rfl⟩
              rw [hfr] at p4
              rw [hidx] at p0 HS2 hx
              have HID : Hd _ := ⟨hidx⟩
              clear hidx hfr
              simp only [sv] at p2 p3
              go_wp2_with fail
              refine (raddr_calls i q.pc.age 0 hx hy (by omega) _ _ _ wr).mono ?_
              rintro e0 w3 ⟨rfl, hM3⟩
              have HI3 : Hd _ := ⟨HI.out.call hM3⟩
              obtain ⟨c0, c1, c2, c3⟩ := (H.out.mod HI3.out.mod).cells
              obtain ⟨q', g', hq', hqq, hg', _, p0, p1, p2, p3, p4⟩ := (H.out.mod HI3.out.mod).piece HP.out
              obtain rfl := Option.some.inj (HG.out.symm.trans hg')
              obtain rfl := Option.some.inj (HQ.out.symm.trans hq')
              rw [HG.out] at c1
              simp only [sv_some] at c1
              simp only [sv] at p2
              obtain ⟨lst, hlst⟩ : ∃ lst, r.upto i ++ atIdx i (r.pcs.take j) = lst := ⟨_, rfl⟩
              obtain ⟨a0, ha0⟩ : ∃ a0, addrOf i q.pc.age 0 = a0 := ⟨_, rfl⟩
              obtain ⟨len, hlen0⟩ : ∃ len, q.pc.vals.length = len := ⟨_, rfl⟩
              have HS3 : Hd (r.upto i ++ atIdx i (r.pcs.take (j + 1)) = lst ++ [(a0, len)]) := ⟨by rw [HS2.out, ← List.append_assoc, hlst, ha0, hlen0]⟩
              rw [hlst] at HI3 HU
              rw [hlen0] at p2
              rw [ha0]
              have HLN : Hd _ := ⟨hlen0⟩
              clear hq' hqq hg' hM3 c0 c2 c3 hlst ha0 hlen0 p1 p3 HS2 HST HI
              obtain ⟨i0, hi0, hz0, hz1, hz2⟩ := info_parts Try.info23
              go_wp2_with (at_builtin; refine wpList_append_sl _ rfl (.tmp 48) (.tmp 57) 34 rfl 23 i0 (.int .u64 0) 1 8 Try.underlying34 hi0 hz0 hz1 hz2 rfl (by decide) (some ga) n ca (encA' (lst.map Prod.fst)) rfl ?k0 ⟨w3.heap.size, 0, none⟩ 1 1 [.int .u64 (a0 : Int)] rfl rfl ?k1 (one_only _ rfl) (by decide) ?b1 ?b2 ?grow)
              case k0 => rw [← HU.out]; exact HI3.out.sa.alloc _
              case k1 => exact one_at (heap_alloc_new _ _)
              case b1 => unfold maxLen; omega
              case b2 => omega
              case grow =>
                intro g1 c1' w4 hS4 hor hM
                rw [← HU.out] at hS4
                have HH : Hd _ := ⟨HI3.out.half (o := .cells #[.int .u64 (a0 : Int)] 23) hS4 (by simpa using hor) (by simpa using hM)⟩
                clear hS4 hor hM c1 p0 p2 p4 c3 hi0 hz0 hz1 hz2
                obtain ⟨c0, c1, c2, c3⟩ := (H.out.mod HH.out.mod).cells
                obtain ⟨q', g', hq', hqq, hg', _, p0, p1, p2, p3, p4⟩ := (H.out.mod HH.out.mod).piece HP.out
                obtain rfl := Option.some.inj (HG.out.symm.trans hg')
                obtain rfl := Option.some.inj (HQ.out.symm.trans hq')
                rw [HG.out] at c1
                simp only [sv_some] at c1
                simp only [sv] at p2
                rw [HLN.out] at p2
                clear hq' hqq hg' c0 c2 c3 p0 p1 p3 p4
                obtain ⟨i0, hi0, hz0, hz1, hz2⟩ := info_parts Try.info3
                go_wp2_with (at_builtin; refine wpList_append_sl _ rfl (.tmp 59) (.tmp 69) 41 rfl 3 i0 (.int .i64 0) 1 8 Try.underlying41 hi0 hz0 hz1 hz2 rfl (by decide) (some gs) n cs (encN (lst.map Prod.snd)) rfl ?k0 ⟨w4.heap.size, 0, none⟩ 1 1 [.int .i64 (len : Int)] rfl rfl ?k1 (one_only _ rfl) (by decide) ?b1 ?b2 ?grow)
                case k0 => rw [← HU.out]; exact HH.out.ss.alloc _
                case k1 => exact one_at (heap_alloc_new _ _)
                case b1 => unfold maxLen; omega
                case b2 => omega
                case grow =>
                  intro g2 c2' w5 hS5 hor hM
                  rw [← HU.out] at hS5
                  have HF : Hd _ := ⟨HH.out.full (o := .cells #[.int .i64 (len : Int)] 3) hS5 (by simpa using hor) (by simpa using hM)⟩
                  clear hS5 hor hM c1 p2 hi0 hz0 hz1 hz2
                  go_wp2_with fail
                  go_roundg (gk - 1)
                  case measure => omega
                  case rel => exact ⟨j + 1, g1, c1', g2, c2', n + 1, by simp, by simp, by go_num, by omega, by omega, ⟨by rw [HS3.out, List.length_append, HU.out]; rfl⟩, ⟨by rw [HS3.out]; exact HF.out⟩⟩
          · have hne : ¬ (q.pc.idx : Int) = (i : Int) := by omega
            have HS2 : Hd (atIdx i (r.pcs.take (j + 1)) = atIdx i (r.pcs.take j)) := ⟨by rw [HST.out, if_neg (fun h => hidx h.1)]; simp⟩
            clear hidx
            go_wp2_with fail
            go_roundg (gk - 1)
            case measure => omega
            case rel => exact ⟨j + 1, ga, ca, gs, cs, n, rfl, rfl, by go_num, by omega, by omega, ⟨by rw [HS2.out]; exact HU.out⟩, ⟨by rw [HS2.out]; exact HI.out⟩⟩
        · have hjl2 : j = r.pcs.length := by omega
          have HU2 : Hd ((r.upto (i + 1)).length = n) := ⟨by rw [RSS.upto_succ]; have := HU.out; rwa [hjl2, List.take_length] at this⟩
          have HI2 : Hd (AllI w wr ga ca gs cs (r.upto (i + 1))) := ⟨by rw [RSS.upto_succ]; have := HI.out; rwa [hjl2, List.take_length] at this⟩
          clear hjl2 HU HI
          simp only [sv] at c1
          go_wp2_with fail
          go_roundg (r.next - i - 1)
          case measure => omega
          case rel => exact ⟨i + 1, ga, ca, gs, cs, n, rfl, rfl, by go_num, by omega, by omega, HU2, HI2⟩
    · have hin : i = r.next := by omega
      have HE : Hd (r.all = r.upto i) := ⟨by rw [hin]; exact HA.out⟩
      clear hin
      go_wp2
      exact bodyPost_ret (v := .tuple #[.slice (some ⟨ga, 0, none⟩) n ca, .slice (some ⟨gs, 0, none⟩) n cs]) (by simp [results, Try.f32, go_sem]) rfl ⟨ga, ca, gs, cs, by rw [HE.out, HU.out], by rw [HE.out]; exact HI.out⟩
end Go.Proofs.Ytpgoogjaoffdoaa
