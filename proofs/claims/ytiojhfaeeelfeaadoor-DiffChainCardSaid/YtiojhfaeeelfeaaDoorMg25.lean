/-
  KeyBack, the plain part: what is cut off is no screen; a screen's text has seven bytes at least; Encode over a screen.
  key.Decode, its screen or the empty one in one word.
-/
import Derived.Test.YtiojhfaeeelfeaaDoorKDecM
import Derived.Test.YtiojhfaeeelfeaaDoorMg24
namespace Go.Proofs.YtiojhfaeeelfeaaDoor
open Go.RowKit
set_option linter.unusedVariables false
set_option linter.unusedSimpArgs false

theorem key_long {s : Sc} (h : s.may = true) : 7 ≤ s.key.length := by
  obtain ⟨⟨r1, _⟩, ⟨c1, _⟩, _, _, hl, _, _⟩ := Sc.may_b h
  have h1 : (1 : Int) * 1 ≤ s.r * s.c := Int.mul_le_mul r1 c1 (by decide) (by omega)
  have h2 : 0 < (runsL s.l).length := by
    cases hs : s.l with
    | nil => rw [hs] at hl; simp only [List.length_nil] at hl; omega
    | cons c t =>
      rw [runsL]
      have h3 := varL_pos' (u64N ((runLen c t + 1 : Nat) : Int))
      simp only [varsL, ceN, List.flatMap_cons, List.length_append]
      omega
  rw [key_eq]
  have a1 := varL_pos' (u64N s.r)
  have a2 := varL_pos' (u64N s.c)
  have a3 := varL_pos' (u64N s.y)
  have a4 := varL_pos' (u64N s.x)
  have a5 := varL_pos' (bitN s.h)
  have a6 := varL_pos' (u64N (s.t.size : Int))
  simp only [List.length_append]
  omega
theorem key_cut {s : Sc} (h : s.may = true) {k : Nat} (hk : k < s.key.length) : decQ 256 (s.key.take k) = none := by
  cases hd : decQ 256 (s.key.take k) with
  | none => rfl
  | some t =>
    obtain ⟨h1, h2⟩ := decQ_back (by decide) (fun x hx => key_byte s x (List.mem_of_mem_take hx)) hd
    have h3 : s.key = t.key ++ s.key.drop k := by rw [← h1, List.take_append_drop]
    obtain ⟨_, h4⟩ := key_inj h h2 h3
    have := congrArg List.length h4
    simp at this
    omega
theorem key_same {s t : Sc} (hs : s.may = true) (ht : t.may = true) : decide (s.key = t.key) = decide (s = t) := by
  rw [Bool.eq_iff_iff, decide_eq_true_iff, decide_eq_true_iff]
  exact ⟨fun h => (key_inj hs ht (m := []) (by simpa using h)).1, fun h => by rw [h]⟩
abbrev scS (s : Sc) (v : Value) : Value := scV s.r s.c v s.y s.x s.h s.t
theorem kenc_sc (w : World) (s : Sc) (va : Value) (ha : Rd w 5 va s.l.length (cellsV s.l)) (hl : s.l.length ≤ 100000) (hs : s.t.size ≤ 100000) (ht : Tab w) :
    Calls Tryd.prog 19 #[scS s va] w fun e w' => ∃ v, e = .returned (.tuple #[v, .int .i64 (encE s.may)]) ∧ Bx w w' v (if s.may = true then s.key else []) :=
  kenc_any w s.r s.c s.y s.x s.h s.t va s.l ha hl hs ht
theorem may_sc (w : World) (s : Sc) (va : Value) (ha : Rd w 5 va s.l.length (cellsV s.l)) (hl : s.l.length ≤ 1000000) (hs : s.t.size ≤ 1000000) (ht : Tab w) :
    Calls Tryd.prog 20 #[scS s va] w fun e w' => e = .returned (.bool s.may) ∧ Chg w w' nob :=
  mayscr_any w s.r s.c s.y s.x s.h s.t va s.l ha hl hs ht
end Go.Proofs.YtiojhfaeeelfeaaDoor

namespace Go.Proofs.YtiojhfaeeelfeaaDoor
open Go.RowKit
set_option linter.unusedVariables false
set_option linter.unusedSimpArgs false

abbrev scL (s : Sc) (v : Value) : Array Value := scA s.r s.c v s.y s.x s.h s.t
def decS (o : Option Sc) : Sc := o.getD ⟨0, 0, [], 0, 0, false, ⟨#[]⟩⟩
def decE (o : Option Sc) : Int := if o.isSome then 0 else 2
theorem decS_len {B : List Int} {tm : Nat} (htm : tm < 9223372036854775808) (hb : ∀ x ∈ B, 0 ≤ x ∧ x ≤ 255) : (decS (decQ tm B)).l.length ≤ 12000 := by
  cases hd : decQ tm B with
  | none => exact Nat.zero_le _
  | some s =>
    obtain ⟨_, hm⟩ := decQ_back htm hb hd
    obtain ⟨⟨_, q1⟩, ⟨_, q2⟩, ⟨_, _⟩, ⟨_, _⟩, q3, _, q4⟩ := Sc.may_b hm
    have : s.r * s.c ≤ 60 * 200 := Int.mul_le_mul q1 q2 (by omega) (by omega)
    show s.l.length ≤ 12000
    omega
theorem kdec_u (w : World) (va : Value) (B : List Int) (hb : By w va B) (hl : B.length ≤ 1000000) (ht : Tab w) (o : Option Sc) (ho : decQ 256 B = o) :
    Calls Tryd.prog 9 #[va] w fun e' w' => ∃ a n, e' = .returned (.tuple #[scV (decS o).r (decS o).c (.slice a (decS o).l.length n) (decS o).y (decS o).x (decS o).h (decS o).t, .int .i64 (decE o)]) ∧ Cs w w' (.slice a (decS o).l.length n) (decS o).l ∧ Chg w w' nob := by
  refine (kdec_any w va B hb hl ht).mono ?_
  rintro e' w' ⟨hc, ⟨s, v, hd, rfl, hcs⟩ | ⟨hd, rfl⟩⟩
  · rw [ho] at hd
    subst hd
    obtain ⟨a, n, rfl, _⟩ := hcs.form
    exact ⟨a, n, rfl, hcs, hc⟩
  · rw [ho] at hd
    subst hd
    exact ⟨none, 0, rfl, Cs.nil _ _, hc⟩
end Go.Proofs.YtiojhfaeeelfeaaDoor
