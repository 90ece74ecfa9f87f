/-
  Cells read of their runs, in plain Lean: what was written comes back, and what is read was so written.
  The program's reader: Num, Raw, Text.
-/
import Derived.Test.YtmbdpcamhkdkmaaGreatDoorMg7
import Derived.Test.YtmbdpcamhkdkmaaGreatDoorRunsM
import Derived.Test.YtmbdpcamhkdkmaaGreatDoorNumM
namespace Go.Proofs.YtmbdpcamhkdkmaaGreatDoor
set_option linter.unusedVariables false
set_option linter.unusedSimpArgs false

/-- A number up to a greatest one, and what is left. -/
def numM (most : Nat) (l : List Int) : Option (Nat × List Int) :=
  if (numP l).1 = 0 ∧ (numP l).2.1 ≤ most then some ((numP l).2.1, l.drop (numP l).2.2) else none
theorem numM_var {most n : Nat} (h : n < 18446744073709551616) (hm : n ≤ most) (rest : List Int) : numM most (varL n ++ rest) = some (n, rest) := by
  unfold numM
  rw [numP_var h, if_pos ⟨rfl, hm⟩]
  simp
theorem numM_back {most n : Nat} {l r : List Int} (hb : ∀ x ∈ l, 0 ≤ x ∧ x ≤ 255) (h : numM most l = some (n, r)) : l = varL n ++ r ∧ n ≤ most ∧ n < 18446744073709551616 := by
  unfold numM at h
  split at h
  · rename_i hc
    simp only [Option.some.injEq, Prod.mk.injEq] at h
    obtain ⟨rfl, rfl⟩ := h
    obtain ⟨h1, h2, h3⟩ := numP_back (v := (numP l).2.1) (k := (numP l).2.2) hb (by rw [← hc.1])
    exact ⟨h2, hc.2, h1⟩
  · cases h
theorem numM_less {m m' : Nat} (l : List Int) (h : m ≤ m') : numM m l = (numM m' l).bind fun x => if x.1 ≤ m then some x else none := by
  unfold numM
  by_cases h1 : (numP l).1 = 0
  · by_cases h2 : (numP l).2.1 ≤ m
    · simp [h1, h2, Nat.le_trans h2 h]
    · by_cases h3 : (numP l).2.1 ≤ m'
      · simp [h1, h2, h3]
      · simp [h1, h2, h3]
  · simp [h1]
def runB (n : Nat) (c : Ce) : List Int := varsL (ceN n c)
theorem runB_eq (n : Nat) (c : Ce) : runB n c = varL (u64N n) ++ (varL (u64N c.r) ++ (varL (u64N c.f) ++ (varL (u64N c.g) ++ (varL (u64N c.b) ++ varL (u64N c.w))))) := by simp [runB, ceN, varsL]
theorem runLen_rep (c : Ce) : ∀ n, runLen c (List.replicate n c) = n
  | 0 => rfl
  | n + 1 => by rw [List.replicate_succ, runLen, if_pos rfl, runLen_rep c n]
theorem runLen_app (c : Ce) {l : List Ce} (h : runLen c l = 0) : ∀ n, runLen c (List.replicate n c ++ l) = n
  | 0 => h
  | n + 1 => by rw [List.replicate_succ, List.cons_append, runLen, if_pos rfl, runLen_app c h n]
theorem runsL_app (c : Ce) {l : List Ce} (n : Nat) (h : runLen c l = 0) : runsL (List.replicate (n + 1) c ++ l) = runB (n + 1) c ++ runsL l := by
  rw [List.replicate_succ, List.cons_append, runsL, runLen_app c h]
  congr 1
  rw [List.drop_append_of_le_length (by simp), List.drop_eq_nil_of_le (by simp)]
  rfl
theorem runLen_head (c : Ce) : ∀ l : List Ce, l.head? ≠ some c → runLen c l = 0
  | [], _ => rfl
  | d :: l, h => by rw [runLen, if_neg (fun e => h (by rw [e]; rfl))]
theorem runLen_split (c : Ce) : ∀ t : List Ce, t = List.replicate (runLen c t) c ++ t.drop (runLen c t) ∧ (t.drop (runLen c t)).head? ≠ some c
  | [] => ⟨rfl, by simp [runLen]⟩
  | d :: t => by
    by_cases h : d = c
    · subst h
      rw [runLen, if_pos rfl, List.replicate_succ, List.drop_succ_cons, List.cons_append, ← (runLen_split d t).1]
      exact ⟨rfl, (runLen_split d t).2⟩
    · rw [runLen, if_neg h]
      exact ⟨rfl, by simpa using h⟩
theorem u64N_toNat {n : Int} (h : 0 ≤ n) (h2 : n < 9223372036854775808) : u64N n = n.toNat := by simp only [u64N, IntKind.wrap, IntKind.bits, IntKind.signed]; simp; omega
theorem widthF_pos {r : Int} (h : 0 < widthF r) : 0 ≤ r ∧ r ≤ 1114111 := by
  unfold widthF at h
  split at h
  · omega
  · omega
theorem mayC_b {n : Int} (h : mayC n = true) : 0 ≤ n ∧ n < 33554432 := by
  have := of_decide_eq_true h
  omega
theorem may_b {c : Ce} (h : c.may = true) : (0 ≤ c.r ∧ c.r ≤ 1114111) ∧ (0 ≤ c.f ∧ c.f ≤ 255) ∧ (0 ≤ c.g ∧ c.g < 33554432) ∧ (0 ≤ c.b ∧ c.b < 33554432) ∧ (0 ≤ c.w ∧ c.w ≤ 2) := by
  unfold Ce.may mayF at h
  rw [Bool.and_eq_true, Bool.and_eq_true, Bool.and_eq_true] at h
  obtain ⟨h1, ⟨h2, h3⟩, h4⟩ := h
  refine ⟨?_, of_decide_eq_true h2, mayC_b h3, mayC_b h4, ?_⟩
  · unfold mayF2 at h1
    split at h1
    · rename_i hw
      have := of_decide_eq_true h1
      exact widthF_pos (by omega)
    · split at h1
      · have := of_decide_eq_true h1
        omega
      · cases h1
  · unfold mayF2 at h1
    split at h1
    · omega
    · split at h1
      · omega
      · cases h1
/-- One run: how many, the cell, what is left. -/
def runQ (fm gm bm wm most : Nat) (l : List Int) : Option (Nat × Ce × List Int) :=
  (numM most l).bind fun n => (numM 1114111 n.2).bind fun r => (numM fm r.2).bind fun f => (numM gm f.2).bind fun g => (numM bm g.2).bind fun b => (numM wm b.2).bind fun w =>
    if n.1 = 0 ∨ Ce.may ⟨r.1, f.1, g.1, b.1, w.1⟩ = false then none else some (n.1, ⟨r.1, f.1, g.1, b.1, w.1⟩, w.2)
def runP := runQ 9223372036854775807 9223372036854775807 9223372036854775807 9223372036854775807
theorem runQ_same {fm gm bm wm most : Nat} (l : List Int) (h1 : 255 ≤ fm) (h2 : 33554431 ≤ gm) (h3 : 33554431 ≤ bm) (h4 : 2 ≤ wm) : runQ fm gm bm wm most l = runQ 255 33554431 33554431 2 most l := by
  unfold runQ
  congr 1; funext n
  congr 1; funext r
  rw [numM_less r.2 h1, Option.bind_assoc]
  congr 1; funext f
  by_cases hf : f.1 ≤ 255
  · rw [if_pos hf, Option.bind_some]
    rw [numM_less f.2 h2, Option.bind_assoc]
    congr 1; funext g
    by_cases hg : g.1 ≤ 33554431
    · rw [if_pos hg, Option.bind_some]
      rw [numM_less g.2 h3, Option.bind_assoc]
      congr 1; funext b
      by_cases hb : b.1 ≤ 33554431
      · rw [if_pos hb, Option.bind_some]
        rw [numM_less b.2 h4, Option.bind_assoc]
        congr 1; funext w
        by_cases hw : w.1 ≤ 2
        · rw [if_pos hw, Option.bind_some]
        · rw [if_neg hw, Option.bind_none, if_pos]
          right
          rw [← Bool.not_eq_true]
          intro hm
          have := (may_b hm).2.2.2.2
          simp only at this
          omega
      · rw [if_neg hb, Option.bind_none]
        cases numM wm b.2 with
        | none => rfl
        | some w =>
          rw [Option.bind_some, if_pos]
          right
          rw [← Bool.not_eq_true]
          intro hm
          have := (may_b hm).2.2.2.1
          simp only at this
          omega
    · rw [if_neg hg, Option.bind_none]
      cases numM bm g.2 with
      | none => rfl
      | some b =>
        rw [Option.bind_some]
        cases numM wm b.2 with
        | none => rfl
        | some w =>
          rw [Option.bind_some, if_pos]
          right
          rw [← Bool.not_eq_true]
          intro hm
          have := (may_b hm).2.2.1
          simp only at this
          omega
  · rw [if_neg hf, Option.bind_none]
    cases numM gm f.2 with
    | none => rfl
    | some g =>
      rw [Option.bind_some]
      cases numM bm g.2 with
      | none => rfl
      | some b =>
        rw [Option.bind_some]
        cases numM wm b.2 with
        | none => rfl
        | some w =>
          rw [Option.bind_some, if_pos]
          right
          rw [← Bool.not_eq_true]
          intro hm
          have := (may_b hm).2.1
          simp only at this
          omega
theorem runP_there {most n : Nat} {c : Ce} (hn : 0 < n) (hm : n ≤ most) (hm2 : most < 9223372036854775808) (hc : c.may = true) (rest : List Int) : runP most (runB n c ++ rest) = some (n, c, rest) := by
  obtain ⟨⟨r1, r2⟩, ⟨f1, f2⟩, ⟨g1, g2⟩, ⟨b1, b2⟩, ⟨w1, w2⟩⟩ := may_b hc
  have en : u64N (n : Int) = n := by rw [u64N_toNat (by omega) (by omega)]; omega
  rw [runB_eq, en, u64N_toNat r1 (by omega), u64N_toNat f1 (by omega), u64N_toNat g1 (by omega), u64N_toNat b1 (by omega), u64N_toNat w1 (by omega)]
  simp only [List.append_assoc]
  unfold runP runQ
  rw [numM_var (by omega) hm, Option.bind_some]
  simp only
  rw [numM_var (by omega) (by omega), Option.bind_some]
  simp only
  rw [numM_var (by omega) (by omega), Option.bind_some]
  simp only
  rw [numM_var (by omega) (by omega), Option.bind_some]
  simp only
  rw [numM_var (by omega) (by omega), Option.bind_some]
  simp only
  rw [numM_var (by omega) (by omega), Option.bind_some]
  simp only
  have ec : (⟨((c.r.toNat : Nat) : Int), ((c.f.toNat : Nat) : Int), ((c.g.toNat : Nat) : Int), ((c.b.toNat : Nat) : Int), ((c.w.toNat : Nat) : Int)⟩ : Ce) = c := by
    rw [Int.toNat_of_nonneg r1, Int.toNat_of_nonneg f1, Int.toNat_of_nonneg g1, Int.toNat_of_nonneg b1, Int.toNat_of_nonneg w1]
  rw [ec, if_neg]
  rintro (h | h)
  · omega
  · rw [hc] at h; cases h
theorem runP_back {most n : Nat} {c : Ce} {l r : List Int} (hb : ∀ x ∈ l, 0 ≤ x ∧ x ≤ 255) (hm2 : most < 9223372036854775808) (h : runP most l = some (n, c, r)) : l = runB n c ++ r ∧ 0 < n ∧ n ≤ most ∧ c.may = true := by
  unfold runP runQ at h
  simp only [Option.bind_eq_some_iff] at h
  obtain ⟨⟨n', l1⟩, h1, ⟨r', l2⟩, h2, ⟨f', l3⟩, h3, ⟨g', l4⟩, h4, ⟨b', l5⟩, h5, ⟨w', l6⟩, h6, h7⟩ := h
  simp only at h2 h3 h4 h5 h6 h7
  split at h7
  · cases h7
  · rename_i hk
    simp only [Option.some.injEq, Prod.mk.injEq] at h7
    obtain ⟨rfl, rfl, rfl⟩ := h7
    obtain ⟨e1, m1, t1⟩ := numM_back hb h1
    have hb1 : ∀ x ∈ l1, 0 ≤ x ∧ x ≤ 255 := fun x hx => hb x (by rw [e1]; exact List.mem_append_right _ hx)
    obtain ⟨e2, m2, t2⟩ := numM_back hb1 h2
    have hb2 : ∀ x ∈ l2, 0 ≤ x ∧ x ≤ 255 := fun x hx => hb1 x (by rw [e2]; exact List.mem_append_right _ hx)
    obtain ⟨e3, m3, t3⟩ := numM_back hb2 h3
    have hb3 : ∀ x ∈ l3, 0 ≤ x ∧ x ≤ 255 := fun x hx => hb2 x (by rw [e3]; exact List.mem_append_right _ hx)
    obtain ⟨e4, m4, t4⟩ := numM_back hb3 h4
    have hb4 : ∀ x ∈ l4, 0 ≤ x ∧ x ≤ 255 := fun x hx => hb3 x (by rw [e4]; exact List.mem_append_right _ hx)
    obtain ⟨e5, m5, t5⟩ := numM_back hb4 h5
    have hb5 : ∀ x ∈ l5, 0 ≤ x ∧ x ≤ 255 := fun x hx => hb4 x (by rw [e5]; exact List.mem_append_right _ hx)
    obtain ⟨e6, m6, t6⟩ := numM_back hb5 h6
    refine ⟨?_, by omega, m1, by simpa using fun e => hk (.inr e)⟩
    rw [runB_eq, u64N_toNat (by omega) (by omega), u64N_toNat (by (show (0 : Int) ≤ (r' : Int)); omega) (by (show (r' : Int) < _); omega), u64N_toNat (by (show (0 : Int) ≤ (f' : Int)); omega) (by (show (f' : Int) < _); omega), u64N_toNat (by (show (0 : Int) ≤ (g' : Int)); omega) (by (show (g' : Int) < _); omega), u64N_toNat (by (show (0 : Int) ≤ (b' : Int)); omega) (by (show (b' : Int) < _); omega), u64N_toNat (by (show (0 : Int) ≤ (w' : Int)); omega) (by (show (w' : Int) < _); omega)]
    simp only [List.append_assoc, Int.toNat_natCast]
    rw [e1, e2, e3, e4, e5, e6]
/-- Cells, as many as n, behind those that are read already. -/
def cellsQ : Nat → Nat → List Ce → List Int → Option (List Ce × List Int)
  | 0, n, out, l => if n ≤ out.length then some (out, l) else none
  | fu + 1, n, out, l => if n ≤ out.length then some (out, l) else
    match runP (n - out.length) l with
    | none => none
    | some (k, c, r) => if out.getLast? = some c then none else cellsQ fu n (out ++ List.replicate k c) r
theorem cellsQ_there : ∀ (fu : Nat) (out cs : List Ce) (rest : List Int), cs.length ≤ fu → out.length + cs.length < 9223372036854775808 → (∀ c ∈ cs, c.may = true) → (cs = [] ∨ out.getLast? = none ∨ out.getLast? ≠ cs.head?) → cellsQ fu (out.length + cs.length) out (runsL cs ++ rest) = some (out ++ cs, rest) := by
  intro fu
  induction fu with
  | zero =>
    intro out cs rest h1 h2 h3 h4
    obtain rfl : cs = [] := List.length_eq_zero_iff.1 (by omega)
    simp [cellsQ, runsL]
  | succ fu ih =>
    intro out cs rest h1 h2 h3 h4
    cases cs with
    | nil => simp [cellsQ, runsL]
    | cons c t =>
      have hs := runLen_split c t
      obtain ⟨j, hj⟩ : ∃ j, runLen c t = j := ⟨_, rfl⟩
      obtain ⟨d, hd⟩ : ∃ d, t.drop (runLen c t) = d := ⟨_, rfl⟩
      rw [hd, hj] at hs
      obtain ⟨hs1, hs2⟩ := hs
      have hl : t.length = j + d.length := by rw [hs1]; simp
      have hr : runsL (c :: t) = runB (j + 1) c ++ runsL d := by
        rw [runsL, hj, ← hd, hj]
        rfl
      rw [cellsQ, if_neg (by simp), hr, List.append_assoc, runP_there (by omega) (by simp; omega) (by simp at h2 ⊢; omega) (h3 c (List.mem_cons_self ..))]
      simp only
      rw [if_neg]
      · have e : out.length + (c :: t).length = (out ++ List.replicate (j + 1) c).length + d.length := by simp; omega
        rw [e, ih (out ++ List.replicate (j + 1) c) d rest (by simp at h1; omega) (by rw [← e]; exact h2) (fun x hx => h3 x (by rw [hs1]; simp [hx])) ?_]
        · rw [List.append_assoc, List.replicate_succ, List.cons_append, ← hs1]
        · right; right
          rw [List.getLast?_append]
          simp [List.getLast?_replicate]
          intro h
          exact hs2 h.symm
      · intro hc
        rcases h4 with h | h | h
        · cases h
        · rw [h] at hc; cases hc
        · exact h (by rw [hc]; rfl)
theorem cellsQ_back : ∀ (fu n : Nat) (out o : List Ce) (l r : List Int), (∀ x ∈ l, 0 ≤ x ∧ x ≤ 255) → n < 9223372036854775808 → out.length ≤ n → cellsQ fu n out l = some (o, r) → ∃ cs, o = out ++ cs ∧ l = runsL cs ++ r ∧ o.length = n ∧ (∀ c ∈ cs, c.may = true) ∧ (cs = [] ∨ cs.head? ≠ out.getLast?) := by
  intro fu
  induction fu with
  | zero =>
    intro n out o l r hb hn ho h
    rw [cellsQ] at h
    split at h
    · cases h
      exact ⟨[], by simp, by simp [runsL], by omega, fun c hc => (by cases hc), .inl rfl⟩
    · cases h
  | succ fu ih =>
    intro n out o l r hb hn ho h
    rw [cellsQ] at h
    split at h
    · cases h
      exact ⟨[], by simp, by simp [runsL], by omega, fun c hc => (by cases hc), .inl rfl⟩
    · split at h
      · cases h
      · rename_i k c r' hr
        split at h
        · cases h
        · rename_i hl
          obtain ⟨e1, e2, e3, e4⟩ := runP_back hb (by omega) hr
          obtain ⟨cs, h1, h2, h3, h4, h5⟩ := ih n (out ++ List.replicate k c) o r' r (fun x hx => hb x (by rw [e1]; exact List.mem_append_right _ hx)) hn (by simp; omega) h
          obtain ⟨j, rfl⟩ : ∃ j, k = j + 1 := ⟨k - 1, by omega⟩
          refine ⟨List.replicate (j + 1) c ++ cs, by rw [h1, List.append_assoc], ?_, h3, ?_, .inr ?_⟩
          · have hz : runLen c cs = 0 := by
              rcases h5 with rfl | h5
              · rfl
              · refine runLen_head c cs fun e => h5 ?_
                rw [e, List.getLast?_append]
                simp [List.getLast?_replicate]
            rw [e1, h2, runsL_app c j hz, List.append_assoc]
          · intro x hx
            rcases List.mem_append.1 hx with hx | hx
            · rw [(List.mem_replicate.1 hx).2]; exact e4
            · exact h4 x hx
          · simp only [List.replicate_succ, List.cons_append, List.head?_cons]
            exact fun e => hl e.symm
def cellsF (n : Nat) (l : List Int) : Option (List Ce × List Int) := cellsQ n n [] l
theorem cellsF_there {cs : List Ce} (h2 : cs.length < 9223372036854775808) (h3 : ∀ c ∈ cs, c.may = true) (rest : List Int) : cellsF cs.length (runsL cs ++ rest) = some (cs, rest) := by
  have h := cellsQ_there cs.length [] cs rest (Nat.le_refl _) (by simpa using h2) h3 (.inr (.inl rfl))
  simpa [cellsF] using h
theorem cellsF_back {n : Nat} {o : List Ce} {l r : List Int} (hb : ∀ x ∈ l, 0 ≤ x ∧ x ≤ 255) (hn : n < 9223372036854775808) (h : cellsF n l = some (o, r)) : l = runsL o ++ r ∧ o.length = n ∧ ∀ c ∈ o, c.may = true := by
  obtain ⟨cs, h1, h2, h3, h4, _⟩ := cellsQ_back n n [] o l r hb hn (by simp) h
  simp only [List.nil_append] at h1
  subst h1
  exact ⟨h2, h3, h4⟩
end Go.Proofs.YtmbdpcamhkdkmaaGreatDoor

namespace Go.Proofs.YtmbdpcamhkdkmaaGreatDoor
open Go.RowKit
set_option linter.unusedVariables false
set_option linter.unusedSimpArgs false

set_option maxRecDepth 100000 in
theorem run_cutb_lh (a : Option Addr) (len cap : Nat) (k k' : IntKind) (l h : Int) (w : World) (h0 : 0 ≤ l) (h1 : l ≤ h) (h2 : h ≤ cap) :
    (Instr.slice 25 (.slice a len cap) (some (.int k l)) (some (.int k' h)) none).run Tryz.prog w = .ok (.slice (addS a cap l.toNat) (h.toNat - l.toNat) (cap - l.toNat)) w := by
  rw [run_slice_lh w 25 a len cap u_bytes k k' l h h0 h1 h2]
  have : (sizeOf (Tryz.prog.elem 25)).run Tryz.prog w = .ok 1 w := rfl
  rw [this]
  simp [Result.andThen, sliced, addS]
attribute [local go_sem ↓] run_cutb_lh
/-- What is read of bytes: so many, if they are there. -/
def Raws (w w' : World) (v : Value) (L : List Int) : Prop := Own w' 5 1 v L.length (bytesV L) ∧ ∀ k, blkOf v k → w.heap.size ≤ k
set_option maxRecDepth 100000 in
set_option maxHeartbeats 1500000 in
theorem raw_any (w : World) (g : Nat) (u : Value) (B : List Int) (p : Nat) (e : Int) (h : RdrR w g u B p e) (n : Nat) :
    Calls Tryz.prog 52 #[ptr g, .int .u64 n] w fun e' w' => Chg w w' (fun k => k = g) ∧ ((p + n ≤ B.length ∧ RdrR w' g u B (p + n) e ∧ ∃ v, e' = .returned v ∧ Raws w w' v ((B.drop p).take n)) ∨ (B.length < p + n ∧ RdrR w' g u B p e ∧ e' = stopE 3)) := by
  obtain ⟨a, c, rfl, hcap, _⟩ := h.own.form
  have HR := Lib.hid h
  have h1 := h.le
  have h2 := h.big
  have hw1 : IntKind.u64.wrap ((B.length : Int) - (p : Int)) = (B.length : Int) - (p : Int) := wraps_u64 _ (by omega) (by omega)
  clear h
  go_enter Tryz.func52, Tryz.ntmps52
  go_wp2_with fail
  go_at_call 72
  refine (left_any w g _ B p e HR.out).mono ?_
  rintro e' w1 ⟨rfl, hc⟩
  have HC := Lib.hid hc
  replace HR := Lib.hid (HR.out.kept hc)
  clear hc
  have q0 := HR.out.blk.cell 0
  have q1 := HR.out.blk.cell 1
  have q2 := HR.out.blk.cell 2
  simp only [List.getElem?_toArray, List.getElem?_cons_zero, List.getElem?_cons_succ] at q0 q1 q2
  have f1 := HR.out.blk.free 1
  have f2 := HR.out.blk.free 2
  by_cases hn : B.length < p + n
  · have hni : (B.length : Int) - (p : Int) < (n : Int) := by omega
    go_wp2
    exact ⟨rfl, HC.out.mono (fun _ _ h => h.elim), .inr ⟨hn, HR.out, rfl⟩⟩
  · have hni : ¬ ((B.length : Int) - (p : Int) < (n : Int)) := by omega
    have hw2 : IntKind.i64.wrap (n : Int) = (n : Int) := by simp only [IntKind.wrap, IntKind.bits, IntKind.signed]; simp; omega
    obtain ⟨q, hq⟩ : ∃ q, p + n = q := ⟨_, rfl⟩
    have hw3 : IntKind.i64.wrap ((p : Int) + (n : Int)) = (q : Int) := by simp only [IntKind.wrap, IntKind.bits, IntKind.signed]; simp; omega
    have hw4 : IntKind.i64.wrap ((q : Int) - (n : Int)) = (p : Int) := by simp only [IntKind.wrap, IntKind.bits, IntKind.signed]; simp; omega
    go_upto_region 4 with (fail)
    obtain ⟨w2, hw⟩ : ∃ W, w1.setCell ⟨g, 1, none⟩ (.int .i64 q) = W := ⟨_, rfl⟩
    have HR2 : Hid (RdrR w2 g (.slice a B.length c) B q e) := Lib.hid (by rw [← hw]; exact HR.out.set1 q (by omega))
    have HC2 : Hid (Chg w w2 (fun k => k = g)) := Lib.hid (by rw [← hw]; exact (HC.out.mono (G := fun k => k = g) (fun _ _ h => h.elim)).setCell (p := ⟨g, 1, none⟩) (.inl rfl) _)
    rw [hw]
    clear hw HR HC q0 q1 q2 f1 f2
    refine wp_one [3, 7, 14] [16] [] [0, 1, 2, 3, 4, 5, 6, 7, 8, 9, 10, 11, 12, 13, 14, 15, 16, 17] rfl (by kernel_rfl) (fun _ _ _ _ _ h => h) ?_; simp only [List.map_cons, List.map_nil, List.getElem?_toArray, List.getElem?_cons_zero, List.getElem?_cons_succ]
    obtain ⟨wd, hwd⟩ : ∃ W, World.drew w2 = W := ⟨_, rfl⟩
    have hcd : Chg w2 wd nob := by rw [← hwd]; exact (Chg.refl w2 nob).drew
    rw [hwd]
    replace HR2 := Lib.hid (HR2.out.kept hcd)
    replace HC2 := Lib.hid (HC2.out.trans hcd (fun _ _ h => h.elim))
    clear hwd hcd
    have q0 := HR2.out.blk.cell 0
    have q1 := HR2.out.blk.cell 1
    have q2 := HR2.out.blk.cell 2
    simp only [List.getElem?_toArray, List.getElem?_cons_zero, List.getElem?_cons_succ] at q0 q1 q2
    have f1 := HR2.out.blk.free 1
    have f2 := HR2.out.blk.free 2
    have hp0 : (0 : Int) ≤ (p : Int) := by omega
    have hpq : (p : Int) ≤ (q : Int) := by omega
    have hqc : (q : Int) ≤ (c : Int) := by omega
    (repeat (first | (apply can0; (· rfl); (· rfl); (· (intro w'; first | (go_simp; with_reducible rfl) | (go_simp; done))); simp only [Act.put, List.setIfInBounds_toArray, List.set_cons_zero, List.set_cons_succ]) | (apply can1; (· rfl); (· rfl); (· (first | (go_simp; with_reducible rfl) | (go_simp; done))); simp only [Act.put, List.setIfInBounds_toArray, List.set_cons_zero, List.set_cons_succ]) | (apply canN; (· rfl); (· rfl); simp only [Act.put, List.setIfInBounds_toArray, List.set_cons_zero, List.set_cons_succ]) | (apply canN1; (· rfl); (· rfl); simp only [Act.put, List.setIfInBounds_toArray, List.set_cons_zero, List.set_cons_succ]) | (apply can0; (· rfl); (· (go_simp; done)); (· (intro w'; first | (go_simp; with_reducible rfl) | (go_simp; done))); simp only [Act.put, List.setIfInBounds_toArray, List.set_cons_zero, List.set_cons_succ]) | (apply can1; (· rfl); (· (go_simp; done)); (· (first | (go_simp; with_reducible rfl) | (go_simp; done))); simp only [Act.put, List.setIfInBounds_toArray, List.set_cons_zero, List.set_cons_succ]) | (apply canN; (· rfl); (· (go_simp; done)); simp only [Act.put, List.setIfInBounds_toArray, List.set_cons_zero, List.set_cons_succ]) | (apply canN1; (· rfl); (· (go_simp; done)); simp only [Act.put, List.setIfInBounds_toArray, List.set_cons_zero, List.set_cons_succ])))
    refine canW rfl [] rfl (fun K hK => ?_)
    go_simp
    go_at_call 49
    have hby : By wd (.slice (addS a c p) (q - p) (c - p)) ((B.take q).drop p) := HR2.out.by.mid (by omega) (by omega)
    have hlen : ((B.take q).drop p).length = q - p := by simp; omega
    have HBY := Lib.hid hby
    refine (clone_big wd (.slice (addS a c p) (q - p) (c - p)) _ hby.rd hby.nil (by rw [hlen]; omega)).mono ?_
    clear hby
    rintro e' w3 ⟨v, rfl, hb⟩
    have HB := Lib.hid hb
    clear hb
    (refine hK _ _ (fun u hu => by cases hu) ?_; clear hK K; try simp only [Act.put, List.setIfInBounds_toArray, List.set_cons_zero, List.set_cons_succ])
    (repeat (first | (apply can0; (· rfl); (· rfl); (· (intro w'; first | (go_simp; with_reducible rfl) | (go_simp; done))); simp only [Act.put, List.setIfInBounds_toArray, List.set_cons_zero, List.set_cons_succ]) | (apply can1; (· rfl); (· rfl); (· (first | (go_simp; with_reducible rfl) | (go_simp; done))); simp only [Act.put, List.setIfInBounds_toArray, List.set_cons_zero, List.set_cons_succ]) | (apply canN; (· rfl); (· rfl); simp only [Act.put, List.setIfInBounds_toArray, List.set_cons_zero, List.set_cons_succ]) | (apply canN1; (· rfl); (· rfl); simp only [Act.put, List.setIfInBounds_toArray, List.set_cons_zero, List.set_cons_succ]) | (apply can0; (· rfl); (· (go_simp; done)); (· (intro w'; first | (go_simp; with_reducible rfl) | (go_simp; done))); simp only [Act.put, List.setIfInBounds_toArray, List.set_cons_zero, List.set_cons_succ]) | (apply can1; (· rfl); (· (go_simp; done)); (· (first | (go_simp; with_reducible rfl) | (go_simp; done))); simp only [Act.put, List.setIfInBounds_toArray, List.set_cons_zero, List.set_cons_succ]) | (apply canN; (· rfl); (· (go_simp; done)); simp only [Act.put, List.setIfInBounds_toArray, List.set_cons_zero, List.set_cons_succ]) | (apply canN1; (· rfl); (· (go_simp; done)); simp only [Act.put, List.setIfInBounds_toArray, List.set_cons_zero, List.set_cons_succ])))
    refine canE ?_
    go_wp2
    go_ret
    have hL : (B.drop p).take n = (B.take q).drop p := by rw [List.drop_take, show q - p = n by omega]
    rw [hL]
    subst hq
    exact ⟨HC2.out.trans HB.out.2.1 (fun _ _ h => h.elim), .inl ⟨by omega, HR2.out.kept HB.out.2.1, v, rfl, HB.out.1, fun k hk => Nat.le_trans HC2.out.size (HB.out.2.2 k hk)⟩⟩
/-- What a reading of a number comes to. -/
structure RdNum (w w' : World) (g : Nat) (u : Value) (B : List Int) (p : Nat) (e : Int) (most : Nat) (n : Nat) (q : Nat) (e' : Int) : Prop where
  r : RdrR w' g u B q e'
  c : Chg w w' (fun k => k = g)
  s : (e' = 0 ∧ e = 0 ∧ numM most (B.drop p) = some (n, B.drop q)) ∨ (e' ≠ 0 ∧ n = 0 ∧ (e ≠ 0 ∨ numM most (B.drop p) = none))
theorem upE_some {most : Nat} {l : List Int} {n k : Nat} (h : upE most l = (0, n, k)) : numM most l = some (n, l.drop k) := by
  unfold upE at h
  split at h
  · rename_i h1
    simp only [Prod.mk.injEq] at h
    exact absurd h.1 h1
  · split at h
    · simp at h
    · rename_i h1 h2
      unfold numM
      rw [h]
      rw [h] at h2
      exact if_pos ⟨rfl, by simpa using h2⟩
theorem upE_none {most : Nat} {l : List Int} (h : (upE most l).1 ≠ 0) : numM most l = none := by
  unfold upE at h
  unfold numM
  split at h
  · rename_i h1
    exact if_neg (fun h2 => h1 h2.1)
  · split at h
    · rename_i h1 h2
      exact if_neg (fun h3 => absurd h3.2 (by omega))
    · rename_i h1 h2
      exact absurd h h1
set_option maxRecDepth 100000 in
set_option maxHeartbeats 1500000 in
theorem rdnum_any (w : World) (g : Nat) (u : Value) (B : List Int) (p : Nat) (e : Int) (h : RdrR w g u B p e) (most : Nat) :
    Calls Tryz.prog 53 #[ptr g, .int .u64 most] w fun e' w' => ∃ n q er, e' = .returned (.int .u64 (n : Nat)) ∧ RdNum w w' g u B p e most n q er := by
  have HR := Lib.hid h
  clear h
  have hmf : ∀ (fn : Fn) (first cap : Array Value) (w : World), (Instr.makeFunc fn first cap).run Tryz.prog w = .ok (.func fn first cap) w := fun _ _ _ _ => rfl
  go_enter Tryz.func53, Tryz.ntmps53
  go_upto_region 1 with (fail)
  obtain ⟨w1, hw⟩ : ∃ W, (w.alloc (.cells #[ptr g] 49)).alloc (.cells #[.int .u64 most] 41) = W := ⟨_, rfl⟩
  have hc1 : Chg w w1 nob := by rw [← hw]; exact ((Chg.refl w nob).alloc _).alloc _
  have hba : Blk w1 w.heap.size 49 #[ptr g] := by rw [← hw]; exact (Blk.new w _ _).alloc _
  have hbd : Blk w1 (w.heap.size + 1) 41 #[.int .u64 most] := by rw [← hw]; exact Blk.new2 w _ _ _
  rw [hw]
  clear hw
  obtain ⟨ia, hia⟩ : ∃ i, w.heap.size = i := ⟨_, rfl⟩
  rw [hia] at hba hbd ⊢
  clear hia
  obtain ⟨id, hid⟩ : ∃ i, ia + 1 = i := ⟨_, rfl⟩
  rw [hid] at hbd ⊢
  clear hid
  have HC := Lib.hid hc1
  replace HR := Lib.hid (HR.out.kept hc1)
  have HA := Lib.hid hba
  have HD := Lib.hid hbd
  have q0 := hba.cell 0
  simp only [List.getElem?_toArray, List.getElem?_cons_zero, List.getElem?_cons_succ] at q0
  clear hc1 hba hbd
  obtain ⟨R, hR⟩ : ∃ R, upE most (B.drop p) = R := ⟨_, rfl⟩
  have HE := Lib.hid hR
  clear hR
  go_wp2_with fail
  go_at_call 73
  refine (tries_num w1 g ia id u B p e HR.out (fun v _ q => v = .int .u64 R.2.1 ∧ q = p + R.2.2 ∧ R.1 = 0) (fun er => er = R.1)
    (fun w3 hc hr => (num1_any w3 g ia id u B p 0 hr most (HA.out.kept hc (fun h => h)) (HD.out.kept hc (fun h => h)) R HE.out).mono ?_) (fun v w' w'' q k cs F h _ _ _ => h)).mono ?_
  · rintro e' w' ⟨hc, q, hr, hcase⟩
    refine ⟨hc, q, hr, ?_⟩
    rcases hcase with ⟨h1, h2, h3⟩ | ⟨h1, h2⟩
    · exact .inl ⟨R.2.1, h2, rfl, h3, h1⟩
    · exact .inr ⟨R.1, h1, h2, rfl⟩
  · rintro e' w' ⟨hc, hcase⟩
    have hc2 : Chg w w' (fun k => k = g) := (HC.out.mono (G := fun k => k = g) (fun _ _ h => h.elim)).trans hc (fun _ _ h => h)
    have hE := HE.out
    rcases hcase with ⟨h1, rfl, hr⟩ | ⟨h1, ⟨n, q, rfl, hr, h2, h3, h4⟩ | ⟨er, h2, h3, rfl, hr⟩⟩
    · have HF := Lib.hid (show RdNum w w' g u B p e most 0 p e from ⟨hr, hc2, .inr ⟨h1, rfl, .inl h1⟩⟩)
      clear hc hc2 hr h1 hE
      go_wp2
      go_ret
      exact ⟨0, _, _, rfl, HF.out⟩
    · obtain rfl : n = R.2.1 := by injection h2 with _ h; omega
      have HF := Lib.hid (show RdNum w w' g u B p e most R.2.1 q 0 from ⟨hr, hc2, .inl ⟨rfl, h1, by rw [h3, ← List.drop_drop]; exact upE_some (by rw [hE, ← h4])⟩⟩)
      clear hc hc2 hr h1 hE h2 h3 h4
      go_wp2
      go_ret
      exact ⟨_, _, _, rfl, HF.out⟩
    · have HF := Lib.hid (show RdNum w w' g u B p e most 0 p er from ⟨hr, hc2, .inr ⟨h2, rfl, .inr (upE_none (by rw [hE, ← h3]; exact h2))⟩⟩)
      clear hc hc2 hr h1 hE h2 h3
      go_wp2
      go_ret
      exact ⟨0, _, _, rfl, HF.out⟩
end Go.Proofs.YtmbdpcamhkdkmaaGreatDoor
