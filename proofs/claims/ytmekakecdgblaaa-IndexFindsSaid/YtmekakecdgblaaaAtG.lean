
/-
  Where a reading stands: it goes on, or was given up.
-/
import Derived.Test.YtmekakecdgblaaaNumM
namespace Go.Proofs.Ytmekakecdgblaaa
open Go.RowKit
set_option linter.unusedVariables false
set_option linter.unusedSimpArgs false

/-- Where a reading stands: it goes on, or was given up. -/
def AtG {α : Type} (RQ : Option α) (e : Int) (F : Option α) : Prop := (e = 0 ∧ RQ = F) ∨ (e ≠ 0 ∧ RQ = none)
theorem AtG.num {α : Type} {RQ : Option α} {l l' : List Int} {e : Int} {most n : Nat} {e' : Int} {F : Nat × List Int → Option α}
    (h : AtG RQ e ((numM most l).bind F)) (hr : (e' = 0 ∧ e = 0 ∧ numM most l = some (n, l')) ∨ (e' ≠ 0 ∧ n = 0 ∧ (e ≠ 0 ∨ numM most l = none))) : AtG RQ e' (F (n, l')) := by
  rcases hr with ⟨h1, h2, h3⟩ | ⟨h1, h2, h3⟩
  · rcases h with ⟨h4, h5⟩ | ⟨h4, h5⟩
    · exact .inl ⟨h1, by rw [h5, h3]; rfl⟩
    · exact absurd h2 h4
  · refine .inr ⟨h1, ?_⟩
    rcases h with ⟨h4, h5⟩ | ⟨h4, h5⟩
    · rcases h3 with h3 | h3
      · exact absurd h4 h3
      · rw [h5, h3]; rfl
    · exact h5
theorem AtG.text {α : Type} {RQ : Option α} {l l' : List Int} {e : Int} {most : Nat} {t : ByteArray} {e' : Int} {F : ByteArray × List Int → Option α}
    (h : AtG RQ e ((textQ most l).bind F)) (hr : (e' = 0 ∧ e = 0 ∧ textQ most l = some (t, l')) ∨ (e' ≠ 0 ∧ t = ⟨#[]⟩ ∧ (e ≠ 0 ∨ textQ most l = none))) : AtG RQ e' (F (t, l')) := by
  rcases hr with ⟨h1, h2, h3⟩ | ⟨h1, h2, h3⟩
  · rcases h with ⟨h4, h5⟩ | ⟨h4, h5⟩
    · exact .inl ⟨h1, by rw [h5, h3]; rfl⟩
    · exact absurd h2 h4
  · refine .inr ⟨h1, ?_⟩
    rcases h with ⟨h4, h5⟩ | ⟨h4, h5⟩
    · rcases h3 with h3 | h3
      · exact absurd h4 h3
      · rw [h5, h3]; rfl
    · exact h5
end Go.Proofs.Ytmekakecdgblaaa
