/-
  Chapter 8: plain law: a control that is written with its params.
-/
import Derived.Test.YtaficleoimfejaaEsc14
namespace Go.Proofs.Ytaficleoimfejaa
open Go.RowKit
set_option linter.unusedVariables false
set_option linter.unusedSimpArgs false

def cl (v : Int) : Int := if v < 0 then -1 else mnI v 9999
def seg (v : Int) : List Int := if v < 0 then [] else decD v.toNat
def psL : List Int → List Int
  | [] => []
  | v :: t => seg v ++ t.flatMap (fun u => 59 :: seg u)
def cst (priv : Int) (P : List Int) (told : Bool) : PS := ⟨3, P, told, priv, 0, false, [], []⟩
def toldP : List Int → Bool
  | [] => false
  | v :: t => decide (0 ≤ v) || !t.isEmpty
theorem set_last (P : List Int) (x y : Int) : (P ++ [x]).set ((P ++ [x]).length - 1) y = P ++ [y] := by
  rw [List.length_append, List.length_singleton, Nat.add_sub_cancel, List.set_append_right _ _ (Nat.le_refl _), Nat.sub_self]
  rfl
theorem last_get (P : List Int) (x : Int) : (P ++ [x]).getD ((P ++ [x]).length - 1) 0 = x := by simp [List.getD]
theorem take_ctl {s : PS} (hs : s.st = 3) {r : Int} (h : 28 ≤ r) : takeS s r = controlS s r := by
  unfold takeS
  rw [if_neg (by omega), if_neg (by omega), if_neg (by omega), if_neg (by omega), if_neg (by omega), if_pos hs]
theorem step_digit (priv x d : Int) (P : List Int) (t : Bool) (h0 : 0 ≤ d) (h9 : d ≤ 9) : runS (cst priv (P ++ [x]) t) [48 + d] = cst priv (P ++ [mnI (mxI x 0 * 10 + d) 9999]) true := by
  show takeS (cst priv (P ++ [x]) t) (48 + d) = _
  rw [take_ctl rfl (by omega)]
  unfold controlS partS digitS
  rw [if_neg (by omega), if_neg (by omega), if_neg (by omega), if_pos (by omega), if_neg (by omega), if_neg (by simp [cst]), if_pos (by omega)]
  simp only [cst]
  rw [set_last, last_get, show 48 + d - 48 = d by omega]
theorem run_digits (n : Nat) : ∀ (priv : Int) (P : List Int) (t : Bool), runS (cst priv (P ++ [-1]) t) (decD n) = cst priv (P ++ [mnI n 9999]) true := by
  intro priv P t
  by_cases h : n < 10
  · rw [decD_lt h, step_digit priv (-1) n P t (by omega) (by omega)]
    congr 3
    unfold mnI mxI; (repeat' split) <;> omega
  · rw [decD_ge h, runS_app, run_digits (n / 10) priv P t, step_digit _ _ _ _ _ (by omega) (by omega)]
    congr 3
    unfold mnI mxI; (repeat' split) <;> omega
termination_by n
decreasing_by omega
theorem step_semi (priv : Int) (P : List Int) (t : Bool) : runS (cst priv P t) [59] = cst priv (P ++ [-1]) true := by
  show takeS (cst priv P t) 59 = _
  rw [take_ctl rfl (by omega)]
  unfold controlS partS
  rw [if_neg (by omega), if_neg (by omega), if_neg (by omega), if_pos (by omega), if_neg (by omega), if_neg (by simp [cst]), if_neg (by omega)]
  rfl
theorem run_seg (priv : Int) (P : List Int) (t : Bool) (v : Int) : runS (cst priv (P ++ [-1]) t) (seg v) = cst priv (P ++ [cl v]) (t || decide (0 ≤ v)) := by
  unfold seg cl
  by_cases h : v < 0
  · rw [if_pos h, if_pos h, show decide (0 ≤ v) = false by simp; omega, Bool.or_false]; rfl
  · rw [if_neg h, if_neg h, run_digits, show decide (0 ≤ v) = true by simp; omega, Bool.or_true, Int.toNat_of_nonneg (by omega)]
theorem run_rest (priv : Int) : ∀ (t P : List Int) (b : Bool), runS (cst priv P b) (t.flatMap (fun u => 59 :: seg u)) = cst priv (P ++ t.map cl) (b || !t.isEmpty)
  | [], P, b => by simp [runS]
  | v :: t, P, b => by
    rw [List.flatMap_cons, show (59 :: seg v : List Int) = [59] ++ seg v from rfl, List.append_assoc, runS_app, step_semi, runS_app, run_seg, run_rest priv t]
    simp
theorem run_ps (priv : Int) (ps : List Int) : runS (cst priv [-1] false) (psL ps) = cst priv (if ps = [] then [-1] else ps.map cl) (toldP ps) := by
  cases ps with
  | nil => rfl
  | cons v t =>
    show runS (cst priv ([] ++ [-1]) false) (seg v ++ _) = _
    rw [runS_app, run_seg, run_rest]
    simp [toldP]
theorem psL_snoc : ∀ (ps : List Int) (v : Int), psL (ps ++ [v]) = psL ps ++ (if ps = [] then [] else [59]) ++ seg v
  | [], v => by simp [psL]
  | u :: t, v => by simp [psL, List.flatMap_append]
def optL (r : Int) : List Int := if r = 0 then [] else [r]
theorem run_priv (p : Int) (hp : p = 0 ∨ (60 ≤ p ∧ p ≤ 63)) : runS (cst 0 [-1] false) (optL p) = cst p [-1] false := by
  unfold optL
  by_cases h : p = 0
  · subst h; rfl
  · rw [if_neg h]
    have hp' := hp.resolve_left h
    show takeS (cst 0 [-1] false) p = _
    rw [take_ctl rfl (by omega)]
    unfold controlS partS
    rw [if_neg (by omega), if_neg (by omega), if_neg (by omega), if_pos (by omega), if_pos (by omega)]
    rfl
theorem run_inter (p i : Int) (P : List Int) (t : Bool) (hi : i = 0 ∨ (32 ≤ i ∧ i ≤ 47)) : runS (cst p P t) (optL i) = ⟨3, P, t, p, i, false, [], []⟩ := by
  unfold optL
  by_cases h : i = 0
  · subst h; rfl
  · rw [if_neg h]
    have hi' := hi.resolve_left h
    show takeS (cst p P t) i = _
    rw [take_ctl rfl (by omega)]
    unfold controlS
    rw [if_neg (by omega), if_neg (by omega), if_pos (by omega)]
    rfl
theorem run_final (p i f : Int) (P : List Int) (t : Bool) (h1 : 64 ≤ f) (h2 : f ≤ 126) : runS ⟨3, P, t, p, i, false, [], []⟩ [f] = ⟨0, [-1], false, 0, 0, false, [], [⟨4, 0, if t then P.take 16 else [], p, i, f, .empty⟩]⟩ := by
  show takeS ⟨3, P, t, p, i, false, [], []⟩ f = _
  rw [take_ctl rfl (by omega)]
  unfold controlS
  rw [if_neg (by omega), if_neg (by omega), if_neg (by omega), if_neg (by omega), if_pos ⟨by omega, rfl⟩]
  rfl
def wantL (ps : List Int) : List Int := if toldP ps = true then ps.map cl else []
theorem run_control (p i f : Int) (ps : List Int) (hp : p = 0 ∨ (60 ≤ p ∧ p ≤ 63)) (hi : i = 0 ∨ (32 ≤ i ∧ i ≤ 47)) (h1 : 64 ≤ f) (h2 : f ≤ 126) (hl : ps.length ≤ 16) :
    runS newS (27 :: 91 :: (optL p ++ psL ps ++ optL i ++ [f])) = ⟨0, [-1], false, 0, 0, false, [], [⟨4, 0, wantL ps, p, i, f, .empty⟩]⟩ := by
  rw [show (27 :: 91 :: (optL p ++ psL ps ++ optL i ++ [f]) : List Int) = [27, 91] ++ (optL p ++ psL ps ++ optL i ++ [f]) from rfl, runS_app, show runS newS [27, 91] = cst 0 [-1] false from rfl, runS_app, runS_app, runS_app, run_priv p hp, run_ps, run_inter p i _ _ hi, run_final p i f _ _ h1 h2]
  congr 3
  unfold wantL
  cases ps with
  | nil => rfl
  | cons v t =>
    have e : (if v :: t = [] then [-1] else (v :: t).map cl).take 16 = (v :: t).map cl := by rw [if_neg (by simp), List.take_of_length_le (by simpa using hl)]
    rw [e]
end Go.Proofs.Ytaficleoimfejaa
