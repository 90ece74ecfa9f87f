/-
  key.Decode, its screen or the empty one in one word.
-/
import Derived.Test.YtmbdpcamhkdkmaaGreatDoorKDecM
import Derived.Test.YtmbdpcamhkdkmaaGreatDoorMg28
namespace Go.Proofs.YtmbdpcamhkdkmaaGreatDoor
open Go.RowKit
set_option linter.unusedVariables false
set_option linter.unusedSimpArgs false

abbrev scL (s : Sc) (v : Value) : Array Value := scA s.r s.c v s.y s.x s.h s.t
def decS (o : Option Sc) : Sc := o.getD ⟨0, 0, [], 0, 0, false, ⟨#[]⟩⟩
def decE (o : Option Sc) : Int := if o.isSome then 0 else 2
theorem decS_len {B : List Int} {tm : Nat} (htm : tm < 9223372036854775808) (hb : ∀ x ∈ B, 0 ≤ x ∧ x ≤ 255) : (decS (decQ tm B)).l.length ≤ 12000 := by
  cases hd : decQ tm B with
  | none => exact Nat.zero_le _
  | some s =>
    obtain ⟨_, hm⟩ := decQ_back htm hb hd
    obtain ⟨⟨_, q1⟩, ⟨_, q2⟩, ⟨_, _⟩, ⟨_, _⟩, q3, _, q4⟩ := Sc.may_b hm
    have : s.r * s.c ≤ 60 * 200 := Int.mul_le_mul q1 q2 (by omega) (by omega)
    show s.l.length ≤ 12000
    omega
theorem kdec_u (w : World) (va : Value) (B : List Int) (hb : By w va B) (hl : B.length ≤ 1000000) (ht : Tab w) (o : Option Sc) (ho : decQ 256 B = o) :
    Calls Tryz.prog 26 #[va] w fun e' w' => ∃ a n, e' = .returned (.tuple #[scV (decS o).r (decS o).c (.slice a (decS o).l.length n) (decS o).y (decS o).x (decS o).h (decS o).t, .int .i64 (decE o)]) ∧ Cs w w' (.slice a (decS o).l.length n) (decS o).l ∧ Chg w w' nob := by
  refine (kdec_any w va B hb hl ht).mono ?_
  rintro e' w' ⟨hc, ⟨s, v, hd, rfl, hcs⟩ | ⟨hd, rfl⟩⟩
  · rw [ho] at hd
    subst hd
    obtain ⟨a, n, rfl, _⟩ := hcs.form
    exact ⟨a, n, rfl, hcs, hc⟩
  · rw [ho] at hd
    subst hd
    exact ⟨none, 0, rfl, Cs.nil _ _, hc⟩
end Go.Proofs.YtmbdpcamhkdkmaaGreatDoor
