
/-
  Cells compared.
-/
import Derived.Test.YtioabdoghophlaaDoorCell2
namespace Go.Proofs.YtioabdoghophlaaDoor
open Go.RowKit
set_option linter.unusedVariables false
set_option linter.unusedSimpArgs false

/-- Are two cells alike? (Kept shut for the walk.) -/
def eqC (a b : Ce) : Bool := decide (a = b)
theorem eqC_t {a b : Ce} (h : eqC a b = true) : a = b := by simpa [eqC] using h
theorem eqC_f {a b : Ce} (h : eqC a b = false) : a ≠ b := by simpa [eqC] using h
theorem ce_guard (op : BinOp) (x y : Operand) (xs ys : Array Value) (w : World) : (eqGuard op 29 x y (.agg xs) (.agg ys)).run Tryd.prog w = .ok () w := run_eqGuard_agg w op _ x y xs ys (by kernel_rfl)
theorem run_equal_ce (w : World) (n : Nat) (r f g b d r' f' g' b' d' : Int) :
    (Op.equalIn (n + 4) 29 (.agg #[.int .i32 r, .int .i64 f, .int .i64 g, .int .i64 b, .int .i64 d]) (.agg #[.int .i32 r', .int .i64 f', .int .i64 g', .int .i64 b', .int .i64 d'])).run Tryd.prog w = .ok (decide ((⟨r, f, g, b, d⟩ : Ce) = ⟨r', f', g', b', d'⟩)) w := by
  rw [run_equalIn_agg w (n + 3) 29 _ _ (by kernel_rfl) (by kernel_rfl)]
  by_cases h1 : r = r'
  · by_cases h2 : f = f'
    · by_cases h3 : g = g'
      · by_cases h4 : b = b'
        · by_cases h5 : d = d'
          · subst h1 h2 h3 h4 h5
            go_simp
          · subst h1 h2 h3 h4
            go_simp
        · subst h1 h2 h3
          go_simp
      · subst h1 h2
        go_simp
    · subst h1
      go_simp
  · go_simp
theorem run_eql_ce (w : World) (r f g b d r' f' g' b' d' : Int) :
    (binOp .eql 29 (.agg #[.int .i32 r, .int .i64 f, .int .i64 g, .int .i64 b, .int .i64 d]) (.agg #[.int .i32 r', .int .i64 f', .int .i64 g', .int .i64 b', .int .i64 d'])).run Tryd.prog w = .ok (.bool (eqC ⟨r, f, g, b, d⟩ ⟨r', f', g', b', d'⟩)) w := by
  rw [run_eql_struct, run_equal_ce w 9996]; rfl
theorem run_neq_ce (w : World) (r f g b d r' f' g' b' d' : Int) :
    (binOp .neq 29 (.agg #[.int .i32 r, .int .i64 f, .int .i64 g, .int .i64 b, .int .i64 d]) (.agg #[.int .i32 r', .int .i64 f', .int .i64 g', .int .i64 b', .int .i64 d'])).run Tryd.prog w = .ok (.bool (!eqC ⟨r, f, g, b, d⟩ ⟨r', f', g', b', d'⟩)) w := by
  rw [run_neq_struct, run_equal_ce w 9996]; rfl
end Go.Proofs.YtioabdoghophlaaDoor
