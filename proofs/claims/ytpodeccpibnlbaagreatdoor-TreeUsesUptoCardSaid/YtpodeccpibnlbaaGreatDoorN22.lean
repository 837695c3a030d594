/- The law TreeUses, for a function of bounded bulk. -/
import Derived.Test.YtpodeccpibnlbaaGreatDoorN19
import Derived.Test.YtpodeccpibnlbaaGreatDoorG41
import Derived.Test.YtpodeccpibnlbaaGreatDoorG42
namespace Go.Proofs.YtpodeccpibnlbaaGreatDoor
set_option linter.unusedVariables false
set_option linter.unusedSimpArgs false
open Go.RowKit
theorem prg_one_sz (f : Fun) : szPrg ⟨[], [], [f]⟩ = szFun f + 4 := by
  simp [szPrg, szR]
  omega
theorem law_uses {W : World} (hT : Tab W) {m : Int} (hm : W.cell? ⟨0, 0, none⟩ = some (.int .i64 m)) {f : Fun} {v : Value} (hv : funV (fun _ => True) W v f) (s : ByteArray) (hs : szFun f ≤ 1048576) :
    Calls Tryz.prog 6 #[v, .string s] W fun e w' => e = .returned (.bool true) ∧ Mod (fun _ => False) W w' := by
  have hu := uses_le f
  have hvl := vars_le f
  refine callsIn_wide.1 (law_uses_in W hT hm hv s ?_ (by omega) (by omega) ?_)
  · rintro w hw k oa la ca ob lb cb oc lc cc hk rfl
    have hvw := hv.keep (hw.kp (fun _ => True))
    refine Great_c (p := ⟨[], [], [f]⟩) (S := fun _ => True) (w0 := w) ⟨none, 0, 0, none, 0, 0, some ⟨k, 0, none⟩, 1, 1, rfl, SR.nil_, SR.nil_, SR.one_ hk trivial _ (by simp [Value.cells]) hvw⟩ ?_ ?_ w (Mod.refl _ _)
    · have h1 := key_le (p := ⟨[], [], [f]⟩) (fun g hg => by
        simp only [List.mem_singleton] at hg
        subst hg
        exact ok_fun hv)
      have h2 := prg_one_sz f
      omega
    · intro g hg
      simp only [List.mem_singleton] at hg
      subst hg
      omega
  · intro b hb
    have h1 := blocks_le hb
    refine ⟨fun s hs' => ?_, ?_⟩
    · have h2 := stmts_le hs'
      have h3 := args_le s
      omega
    · have h2 := term_le b
      have h3 := targs_le b.term
      omega
end Go.Proofs.YtpodeccpibnlbaaGreatDoor
