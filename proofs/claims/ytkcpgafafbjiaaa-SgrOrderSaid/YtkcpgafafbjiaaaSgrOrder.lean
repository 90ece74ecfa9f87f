/-
  Chapter 9: the walk of SgrOrder (region 5 in its four orders by go_region_held3).
-/
import Derived.Test.YtkcpgafafbjiaaaSgrBack
import Derived.Deep.RegionHeld3
namespace Go.Proofs.Ytkcpgafafbjiaaa
open Go.RowKit
set_option linter.unusedVariables false
set_option linter.unusedSimpArgs false

theorem order_F (a : Int × Int × Int) {l m : List Int} (hl : l ≠ []) (hm : m ≠ []) (hc : NoCut l) : applyF a (l ++ m) = applyF (applyF a l) m := by
  unfold applyF
  rw [if_neg (by simp [hl]), if_neg hl, if_neg hm]
  exact applyR_app l.length l m a _ hc (Nat.le_refl _) (Nat.le_refl _)
theorem reset_F (a b : Int × Int × Int) (m : List Int) : applyF a (0 :: m) = applyF b (-1 :: m) := by
  unfold applyF
  rw [if_neg (by simp), if_neg (by simp)]
  simp only [List.length_cons, applyR]
  rw [if_pos (by decide), if_pos (by decide)]
  have e0 : oneF a 0 = (0, 0, 0) := by unfold oneF; rw [if_pos (by decide), if_pos (by decide)]
  have e1 : oneF b (-1) = (0, 0, 0) := by unfold oneF; rw [if_pos (by decide), if_pos (by decide)]
  rw [e0, e1]

/-- What the two statements of region 5 leave as it was. -/
def SS (w : World) (p q : Nat) (f0 g0 b0 f1 g1 b1 : Int) (w' : World) : Prop :=
  w'.cell? ⟨p, 0, none⟩ = some (.int .i64 f0) ∧ w'.cell? ⟨p, 1, none⟩ = some (.int .i64 g0) ∧ w'.cell? ⟨p, 2, none⟩ = some (.int .i64 b0) ∧ w'.cell? ⟨q, 0, none⟩ = some (.int .i64 f1) ∧ w'.cell? ⟨q, 1, none⟩ = some (.int .i64 g1) ∧ w'.cell? ⟨q, 2, none⟩ = some (.int .i64 b1) ∧ Two w w' p q (f0, g0, b0) (f1, g1, b1)
section
variable {w W W' : World} {p q : Nat} {f0 g0 b0 f1 g1 b1 : Int}
theorem SS.of (h : Two w W p q (f0, g0, b0) (f1, g1, b1)) : SS w p q f0 g0 b0 f1 g1 b1 W :=
  ⟨by rw [h.1.cell]; rfl, by rw [h.1.cell]; rfl, by rw [h.1.cell]; rfl, by rw [h.2.1.cell]; rfl, by rw [h.2.1.cell]; rfl, by rw [h.2.1.cell]; rfl, h⟩
theorem SS.two (h : SS w p q f0 g0 b0 f1 g1 b1 W) : Two w W p q (f0, g0, b0) (f1, g1, b1) := h.2.2.2.2.2.2
theorem SS.call (h : SS w p q f0 g0 b0 f1 g1 b1 W) (hc : Chg W W' nob) : SS w p q f0 g0 b0 f1 g1 b1 W' := SS.of (h.two.kept hc)
theorem SS.al (h : SS w p q f0 g0 b0 f1 g1 b1 W) (o : Obj) : SS w p q f0 g0 b0 f1 g1 b1 (W.alloc o) := h.call ((Chg.refl W nob).alloc o)
theorem SS.dr (h : SS w p q f0 g0 b0 f1 g1 b1 W) : SS w p q f0 g0 b0 f1 g1 b1 W.drew := h.call (Chg.refl W nob).drew
theorem SS.app (h : SS w p q f0 g0 b0 f1 g1 b1 W) {v : Value} {n : Nat} {xs : List Value} (ho : Own W 3 1 v n xs) (hv : ∀ k, blkOf v k → w.heap.size ≤ k) (hc : Chg W W' (blkOf v)) : SS w p q f0 g0 b0 f1 g1 b1 W' :=
  SS.of ⟨h.two.1.kept hc (ho.ne h.two.1 (by decide)), h.two.2.1.kept hc (ho.ne h.two.2.1 (by decide)), h.two.2.2.trans hc (fun i hi hb => by have := hv i hb; omega)⟩
theorem SS.sz (h : SS w p q f0 g0 b0 f1 g1 b1 W) : w.heap.size ≤ W.heap.size := h.two.2.2.size
theorem SS.r3 (h : SS w p q f0 g0 b0 f1 g1 b1 W) {s n : Nat} {v : Value} {xs : List Value} (hr : Rd w s v n xs) : Rd W s v n xs := hr.kept h.two.2.2 (fun _ _ => id)
end
theorem ownLit {W : World} {n : Nat} {u : Value} (h : Blk W n 3 #[u]) : Own W 3 1 (.slice (some ⟨n, 0, none⟩) 1 1) 1 [u] :=
  ⟨rfl, .inr ⟨n, 1, #[u], rfl, Nat.zero_le _, h, Nat.le_refl _, by unfold maxLen; omega, rfl, rfl⟩⟩
theorem Blk.at {w : World} {n : Nat} {t : TypeId} {cs : Array Value} (h : n = w.heap.size) : Blk (w.alloc (.cells cs t)) n t cs := by subst h; exact Blk.new w t cs
theorem Blk.dr {W : World} {n : Nat} {t : TypeId} {cs : Array Value} (h : Blk W n t cs) : Blk W.drew n t cs := h
theorem size_dr (W : World) : W.drew.heap.size = W.heap.size := rfl
theorem Own.dr {W : World} {e : TypeId} {s n : Nat} {v : Value} {xs : List Value} (h : Own W e s v n xs) : Own W.drew e s v n xs := h.kept ((Chg.refl W nob).drew) (fun _ _ => id)
theorem Own.al {W : World} {e : TypeId} {s n : Nat} {v : Value} {xs : List Value} (h : Own W e s v n xs) (o : Obj) : Own (W.alloc o) e s v n xs := h.kept ((Chg.refl W nob).alloc o) (fun _ _ => id)
theorem step_guard {P : Program} {ops : Array Oper} {o : Oper} {a : Act} {w : World} {K : Act → World → Prop} {Q : Exit → Act → World → Prop} {E : Prop} {d : Nat} (h : o.dst = some d) (hw : Oper.wp P o a w K Q) (hg : o.guard = none := by rfl) : if Region.wanted o (yielded ops a.tmps) = true then Oper.wp P o a w K Q else E := by
  rw [if_pos (by simp [Region.wanted, hg])]
  exact hw
theorem own_cons {W : World} {e : TypeId} {v : Value} {c : Int} {l : List Int} (h : Own W e 1 v (1 + l.length) ([.int .i64 c] ++ intI l)) : Own W e 1 v (c :: l).length (intI (c :: l)) := by
  have e : 1 + l.length = (c :: l).length := by simp; omega
  rw [e] at h
  exact h
theorem Blk.keptN {W W' : World} {b : Nat} {t : TypeId} {cs : Array Value} (h : Blk W b t cs) (hc : Chg W W' nob) : Blk W' b t cs := h.kept hc id
theorem Blk.keptL {W W' : World} {b m n c : Nat} {t : TypeId} {cs : Array Value} (h : Blk W b t cs) (hc : Chg W W' (blkOf (.slice (some ⟨m, 0, none⟩) n c))) (hne : b ≠ m) : Blk W' b t cs := h.kept hc (fun e => hne (Option.some.inj (show some m = some b from e)).symm)
theorem Own.keptN {W W' : World} {e : TypeId} {s n : Nat} {v : Value} {xs : List Value} (h : Own W e s v n xs) (hc : Chg W W' nob) : Own W' e s v n xs := h.kept hc (fun _ _ => id)
theorem Own.keptL {W W' : World} {e : TypeId} {s n m n' c : Nat} {v : Value} {xs : List Value} (h : Own W e s v n xs) (hc : Chg W W' (blkOf (.slice (some ⟨m, 0, none⟩) n' c))) (hne : ∀ k, blkOf v k → k ≠ m) : Own W' e s v n xs := h.kept hc (fun k hk e => hne k hk (Option.some.inj (show some m = some k from e)).symm)
theorem step_note {A B : Prop} (h : A) (k : A → B) : B := k h
-- blk_find
set_option maxRecDepth 100000 in
set_option maxHeartbeats 8000000 in
theorem SgrOrder_walk (f0 g0 b0 f1 g1 b1 : Int) (a2 : Option Addr) (len2 cap2 : Nat) (l2 : List Int) (a3 : Option Addr) (len3 cap3 : Nat) (l3 : List Int) (w : World)
    (w0 : (-9223372036854775808 ≤ f0 ∧ f0 ≤ 9223372036854775807) ∧ (-9223372036854775808 ≤ g0 ∧ g0 ≤ 9223372036854775807) ∧ (-9223372036854775808 ≤ b0 ∧ b0 ≤ 9223372036854775807))
    (w1 : (-9223372036854775808 ≤ f1 ∧ f1 ≤ 9223372036854775807) ∧ (-9223372036854775808 ≤ g1 ∧ g1 ≤ 9223372036854775807) ∧ (-9223372036854775808 ≤ b1 ∧ b1 ≤ 9223372036854775807))
    (hr2 : Rd w 1 (.slice a2 len2 cap2) len2 (l2.map (Value.int .i64))) (hl2 : l2.length = len2) (y2 : len2 * 8 ≤ 140737488351232)
    (w2 : ∀ x ∈ l2, -9223372036854775808 ≤ x ∧ x ≤ 9223372036854775807) (n2 : a2 = none → cap2 = 0)
    (hr3 : Rd w 1 (.slice a3 len3 cap3) len3 (l3.map (Value.int .i64))) (hl3 : l3.length = len3) (y3 : len3 * 8 ≤ 140737488351232)
    (w3 : ∀ x ∈ l3, -9223372036854775808 ≤ x ∧ x ≤ 9223372036854775807) (n3 : a3 = none → cap3 = 0) :
    Calls Try.prog 5 #[.agg #[.int .i64 f0, .int .i64 g0, .int .i64 b0], .agg #[.int .i64 f1, .int .i64 g1, .int .i64 b1], .slice a2 len2 cap2, .slice a3 len3 cap3] w fun e w' => e = .returned (.bool true) ∧ Chg w w' nob := by
  subst hl2 hl3
  have HR2 : Hid (Rd w 1 (.slice a2 l2.length cap2) l2.length (intI l2)) := Lib.hid hr2
  have HR3 : Hid (Rd w 1 (.slice a3 l3.length cap3) l3.length (intI l3)) := Lib.hid hr3
  have HW2 := Lib.hid w2
  have HW3 := Lib.hid w3
  have HN2 := Lib.hid n2
  have HN3 := Lib.hid (hr3 : Rd w 1 (.slice a3 l3.length cap3) l3.length (intI l3)) |>.out.nil0 n3 |> Lib.hid
  have HT0 : Hid (Two w ((w.alloc (.cells #[.int .i64 f0, .int .i64 g0, .int .i64 b0] 23)).alloc (.cells #[.int .i64 f1, .int .i64 g1, .int .i64 b1] 23)) w.heap.size (w.heap.size + 1) (f0, g0, b0) (f1, g1, b1)) := Lib.hid ⟨(Blk.new w _ _).alloc _, by
    have h := Blk.new (w.alloc (.cells #[.int .i64 f0, .int .i64 g0, .int .i64 b0] 23)) 23 #[.int .i64 f1, .int .i64 g1, .int .i64 b1]
    rw [size_al] at h
    exact h, ((Chg.refl w nob).alloc _).alloc _⟩
  clear hr2 w2 n2 hr3 w3 n3 w0 w1
  go_enter Try.func5, Try.ntmps5
  go_wp2_with fail
  go_at_call 6
  refine (sfirst_any _).mono ?_
  rintro e wA ⟨rfl, hwA⟩
  have HS := Lib.hid (HT0.out.kept hwA)
  clear hwA HT0
  generalize w.heap.size + 1 = q at *
  generalize w.heap.size = p at *
  by_cases hl : l2.length ≤ 50 ∧ l3.length ≤ 50 ∧ l2 ≠ [] ∧ l3 ≠ []
  · obtain ⟨h1, h2, h3, h4⟩ := hl
    have m1 : ¬ (50 : Int) < (l2.length : Int) := by omega
    have m2 : ¬ (50 : Int) < (l3.length : Int) := by omega
    have m3 : ((l2.length : Int) == 0) = false := by simp; exact h3
    have m4 : ((l3.length : Int) == 0) = false := by simp; exact h4
    have HE1 := Lib.hid h3
    have HE2 := Lib.hid h4
    clear h3 h4
    go_upto_region 5 with (fail)
    go_cut [40] (fun c wx => c = .bool false ∧ Hid (Two w wx p q (f0, g0, b0) (f1, g1, b1)))
    case first =>
      have hone := Lib.hid (oneV l3)
      have hS : SS w p q f0 g0 b0 f1 g1 b1 wA := SS.of HS.out
      clear HS
      have h5 : l3.length ≤ 50 := h2
      obtain ⟨T, hT⟩ : ∃ T, applyF (f0, g0, b0) (0 :: l3) = T := ⟨_, rfl⟩
      have HT1 := Lib.hid hT
      have HT2 := Lib.hid ((reset_F (f0, g0, b0) (f1, g1, b1) l3).symm.trans hT)
      clear hT
      go_region_held3 (fun w' => w'.cell? ⟨p, 0, none⟩ = some (.int .i64 f0) ∧ w'.cell? ⟨p, 1, none⟩ = some (.int .i64 g0) ∧ w'.cell? ⟨p, 2, none⟩ = some (.int .i64 b0) ∧ w'.cell? ⟨q, 0, none⟩ = some (.int .i64 f1) ∧ w'.cell? ⟨q, 1, none⟩ = some (.int .i64 g1) ∧ w'.cell? ⟨q, 2, none⟩ = some (.int .i64 b1) ∧ Two w w' p q (f0, g0, b0) (f1, g1, b1))
        (first | assumption | exact SS.dr hS | exact SS.al (by assumption) _ | exact SS.dr (SS.al hS _) | exact SS.al (W := World.drew _) (by assumption) _)
        (first
          | (go_at_call_of 9 v1
             refine (apply_any _ f0 g0 b0 _ ((0) :: l3) ?_ ?_ ?_).mono ?_
             · (refine Own.rd (e := 3) ?_; repeat (first | (with_reducible exact ho1) | (with_reducible refine Own.dr ?_) | (with_reducible refine Own.al ?_ _) | ((with_reducible refine Own.keptL ?_ hc2 ?_); rotate_left; (intro k hk e; (try simp only [size_al, size_dr] at e); have z := ho1.lt hk; rcases hf1 k hk with e2 | e2; (have e3 := Option.some.inj (show some _ = some _ from e2); (try simp only [size_al, size_dr] at e3); omega); (try simp only [size_al, size_dr] at e2); omega))))
             · intro x hx; rcases List.mem_cons.1 hx with h | h; (subst h; omega); exact HW3.out x h
             · simp; omega
             rw [HT1.out]
             rintro e wC1 ⟨rfl, hC1⟩
             have hSC1 : SS w p q f0 g0 b0 f1 g1 b1 wC1 := SS.call (by assumption) hC1)
          | (refine step_guard (d := 33) rfl ?_
             refine wp_app (.tmp 31) (.tmp 32) 24 rfl 3 (.int .i64 0) 1 8 i_int u_ints rfl (by decide) (.slice (some ⟨_, 0, none⟩) 1 1) 1 [.int .i64 (0)] rfl (ownLit ?_) a3 l3.length cap3 (intI l3) rfl HN3.out (by simp [intI]) (SS.r3 (by assumption) HR3.out).news hone.out (by unfold maxLen; omega) (by omega) ?_
             · (repeat (first | (with_reducible exact Blk.at rfl) | (with_reducible exact Blk.at (size_al _ _).symm) | (with_reducible refine Blk.dr ?_) | (with_reducible refine Blk.alloc ?_ _) | (with_reducible refine Blk.keptN ?_ hC1) | ((with_reducible refine Blk.keptL ?_ hc2 ?_); rotate_left; (try simp only [size_al, size_dr]); omega)))
             intro v1 x1 ho1 hc1 hf1
             have ho1 := own_cons ho1
             refine step_note (SS.app (w := w) (p := p) (q := q) (f0 := f0) (g0 := g0) (b0 := b0) (f1 := f1) (g1 := g1) (b1 := b1) (W' := x1) ?_ (ownLit (u := .int .i64 (0)) ?_) ?_ hc1) ?_
             · assumption
             · (repeat (first | (with_reducible exact Blk.at rfl) | (with_reducible exact Blk.at (size_al _ _).symm) | (with_reducible refine Blk.dr ?_) | (with_reducible refine Blk.alloc ?_ _) | (with_reducible refine Blk.keptN ?_ hC1) | ((with_reducible refine Blk.keptL ?_ hc2 ?_); rotate_left; (try simp only [size_al, size_dr]); omega)))
             · intro k hk
               have e := Option.some.inj (show some _ = some _ from hk)
               have z0 := hS.sz
               (try have z1 := hS1.sz)
               (try have z2 := hS2.sz)
               (try have z3 := hSC1.sz)
               (try simp only [size_al, size_dr] at e)
               omega
             intro hS1)
          | (go_at_call_of 9 v2
             refine (apply_any _ f1 g1 b1 _ ((-1) :: l3) ?_ ?_ ?_).mono ?_
             · (refine Own.rd (e := 3) ?_; repeat (first | (with_reducible exact ho2) | (with_reducible refine Own.dr ?_) | (with_reducible refine Own.al ?_ _) | (with_reducible refine Own.keptN ?_ hC1) | ((with_reducible refine Own.keptL ?_ hc1 ?_); rotate_left; (intro k hk e; (try simp only [size_al, size_dr] at e); have z := ho2.lt hk; rcases hf2 k hk with e2 | e2; (have e3 := Option.some.inj (show some _ = some _ from e2); (try simp only [size_al, size_dr] at e3); omega); (try simp only [size_al, size_dr] at e2); omega))))
             · intro x hx; rcases List.mem_cons.1 hx with h | h; (subst h; omega); exact HW3.out x h
             · simp; omega
             rw [HT2.out]
             rintro e wC2 ⟨rfl, hC2⟩
             have hSC2 : SS w p q f0 g0 b0 f1 g1 b1 wC2 := SS.call (by assumption) hC2)
          | (refine step_guard (d := 38) rfl ?_
             refine wp_app (.tmp 36) (.tmp 37) 24 rfl 3 (.int .i64 0) 1 8 i_int u_ints rfl (by decide) (.slice (some ⟨_, 0, none⟩) 1 1) 1 [.int .i64 (-1)] rfl (ownLit ?_) a3 l3.length cap3 (intI l3) rfl HN3.out (by simp [intI]) (SS.r3 (by assumption) HR3.out).news hone.out (by unfold maxLen; omega) (by omega) ?_
             · (repeat (first | (with_reducible exact Blk.at rfl) | (with_reducible exact Blk.at (size_al _ _).symm) | (with_reducible refine Blk.dr ?_) | (with_reducible refine Blk.alloc ?_ _) | (with_reducible refine Blk.keptN ?_ hC1) | ((with_reducible refine Blk.keptL ?_ hc1 ?_); rotate_left; (try simp only [size_al, size_dr]); omega)))
             intro v2 x2 ho2 hc2 hf2
             have ho2 := own_cons ho2
             refine step_note (SS.app (w := w) (p := p) (q := q) (f0 := f0) (g0 := g0) (b0 := b0) (f1 := f1) (g1 := g1) (b1 := b1) (W' := x2) ?_ (ownLit (u := .int .i64 (-1)) ?_) ?_ hc2) ?_
             · assumption
             · (repeat (first | (with_reducible exact Blk.at rfl) | (with_reducible exact Blk.at (size_al _ _).symm) | (with_reducible refine Blk.dr ?_) | (with_reducible refine Blk.alloc ?_ _) | (with_reducible refine Blk.keptN ?_ hC1) | ((with_reducible refine Blk.keptL ?_ hc1 ?_); rotate_left; (try simp only [size_al, size_dr]); omega)))
             · intro k hk
               have e := Option.some.inj (show some _ = some _ from hk)
               have z0 := hS.sz
               (try have z1 := hS1.sz)
               (try have z2 := hS2.sz)
               (try have z3 := hSC1.sz)
               (try simp only [size_al, size_dr] at e)
               omega
             intro hS2))
      all_goals go_wp2
      all_goals go_meet
      all_goals exact ⟨rfl, Lib.hid (SS.two (by assumption))⟩
    case rest =>
      obtain ⟨rfl, HS⟩ := hcut
      have hp0 := HS.out.1.cell 0
      have hp1 := HS.out.1.cell 1
      have hp2 := HS.out.1.cell 2
      have hq0 := HS.out.2.1.cell 0
      have hq1 := HS.out.2.1.cell 1
      have hq2 := HS.out.2.1.cell 2
      simp only [List.getElem?_toArray, List.getElem?_cons_zero, List.getElem?_cons_succ] at hp0 hp1 hp2 hq0 hq1 hq2
      go_wp2_with fail
      refine wp_one [5, 11] [0, 3, 7, 9, 10, 13, 15] [(7, [5, 11]), (9, [5, 11]), (10, [11])] [0, 1, 2, 3, 4, 5, 6, 8, 11, 12, 14, 7, 9, 10, 13, 15, 16, 17, 18, 19] rfl (by kernel_rfl) (fun _ _ _ _ _ h => h) ?_; simp only [List.map_cons, List.map_nil, List.getElem?_toArray, List.getElem?_cons_zero, List.getElem?_cons_succ]
      (repeat (first | (apply can0; (· rfl); (· rfl); (· (intro w'; first | (go_simp; with_reducible rfl) | (go_simp; done))); simp only [Act.put, List.setIfInBounds_toArray, List.set_cons_zero, List.set_cons_succ]) | (apply can1; (· rfl); (· rfl); (· (first | (go_simp; with_reducible rfl) | (go_simp; done))); simp only [Act.put, List.setIfInBounds_toArray, List.set_cons_zero, List.set_cons_succ]) | (apply canN; (· rfl); (· rfl); simp only [Act.put, List.setIfInBounds_toArray, List.set_cons_zero, List.set_cons_succ]) | (apply canN1; (· rfl); (· rfl); simp only [Act.put, List.setIfInBounds_toArray, List.set_cons_zero, List.set_cons_succ]) | (apply can0; (· rfl); (· (go_simp; done)); (· (intro w'; first | (go_simp; with_reducible rfl) | (go_simp; done))); simp only [Act.put, List.setIfInBounds_toArray, List.set_cons_zero, List.set_cons_succ]) | (apply can1; (· rfl); (· (go_simp; done)); (· (first | (go_simp; with_reducible rfl) | (go_simp; done))); simp only [Act.put, List.setIfInBounds_toArray, List.set_cons_zero, List.set_cons_succ]) | (apply canN; (· rfl); (· (go_simp; done)); simp only [Act.put, List.setIfInBounds_toArray, List.set_cons_zero, List.set_cons_succ]) | (apply canN1; (· rfl); (· (go_simp; done)); simp only [Act.put, List.setIfInBounds_toArray, List.set_cons_zero, List.set_cons_succ])))
      refine canW rfl [] rfl (fun K hK => ?_)
      go_simp
      go_at_call 6
      refine (sfirst_any _).mono ?_
      rintro e wH ⟨rfl, hH⟩
      clear hp0 hp1 hp2 hq0 hq1 hq2
      have HS := Lib.hid (HS.out.kept (((Chg.refl wc nob).drew).trans hH fun _ _ h => h))
      clear hH
      have hp0 := HS.out.1.cell 0
      have hp1 := HS.out.1.cell 1
      have hp2 := HS.out.1.cell 2
      have hq0 := HS.out.2.1.cell 0
      have hq1 := HS.out.2.1.cell 1
      have hq2 := HS.out.2.1.cell 2
      simp only [List.getElem?_toArray, List.getElem?_cons_zero, List.getElem?_cons_succ] at hp0 hp1 hp2 hq0 hq1 hq2
      (refine hK _ _ (fun u hu => by cases hu) ?_; clear hK K; try simp only [Act.put, List.setIfInBounds_toArray, List.set_cons_zero, List.set_cons_succ])
      (repeat (first | (apply can0; (· rfl); (· rfl); (· (intro w'; first | (go_simp; with_reducible rfl) | (go_simp; done))); simp only [Act.put, List.setIfInBounds_toArray, List.set_cons_zero, List.set_cons_succ]) | (apply can1; (· rfl); (· rfl); (· (first | (go_simp; with_reducible rfl) | (go_simp; done))); simp only [Act.put, List.setIfInBounds_toArray, List.set_cons_zero, List.set_cons_succ]) | (apply canN; (· rfl); (· rfl); simp only [Act.put, List.setIfInBounds_toArray, List.set_cons_zero, List.set_cons_succ]) | (apply canN1; (· rfl); (· rfl); simp only [Act.put, List.setIfInBounds_toArray, List.set_cons_zero, List.set_cons_succ]) | (apply can0; (· rfl); (· (go_simp; done)); (· (intro w'; first | (go_simp; with_reducible rfl) | (go_simp; done))); simp only [Act.put, List.setIfInBounds_toArray, List.set_cons_zero, List.set_cons_succ]) | (apply can1; (· rfl); (· (go_simp; done)); (· (first | (go_simp; with_reducible rfl) | (go_simp; done))); simp only [Act.put, List.setIfInBounds_toArray, List.set_cons_zero, List.set_cons_succ]) | (apply canN; (· rfl); (· (go_simp; done)); simp only [Act.put, List.setIfInBounds_toArray, List.set_cons_zero, List.set_cons_succ]) | (apply canN1; (· rfl); (· (go_simp; done)); simp only [Act.put, List.setIfInBounds_toArray, List.set_cons_zero, List.set_cons_succ])))
      refine canW rfl [] rfl (fun K hK => ?_)
      go_simp
      go_at_call 10
      refine (cut_any _ _ l2 (HR2.out.kept HS.out.2.2 (fun _ _ => id)) (by omega)).mono ?_
      rintro e w' ⟨kc, rfl, hkc, rfl⟩
      have HKC := Lib.hid hkc
      clear hkc
      (refine hK _ _ (fun u hu => by cases hu) ?_; clear hK K; try simp only [Act.put, List.setIfInBounds_toArray, List.set_cons_zero, List.set_cons_succ])
      cases kc
      · have HSZ := Lib.hid HS.out.2.2.size
        have HOF := Lib.hid (order_F (f0, g0, b0) HE1.out HE2.out (HKC.out rfl))
        obtain ⟨ap, hap⟩ : ∃ ap, applyF (f0, g0, b0) l2 = ap := ⟨_, rfl⟩
        rw [hap] at HOF
        have HAP := Lib.hid hap
        clear hap
        obtain ⟨T, hT⟩ : ∃ T, applyF ap l3 = T := ⟨_, rfl⟩
        rw [hT] at HOF
        have HT := Lib.hid hT
        clear hT
        (repeat (first | (apply can0; (· rfl); (· rfl); (· (intro w'; first | (go_simp; with_reducible rfl) | (go_simp; done))); simp only [Act.put, List.setIfInBounds_toArray, List.set_cons_zero, List.set_cons_succ]) | (apply can1; (· rfl); (· rfl); (· (first | (go_simp; with_reducible rfl) | (go_simp; done))); simp only [Act.put, List.setIfInBounds_toArray, List.set_cons_zero, List.set_cons_succ]) | (apply canN; (· rfl); (· rfl); simp only [Act.put, List.setIfInBounds_toArray, List.set_cons_zero, List.set_cons_succ]) | (apply canN1; (· rfl); (· rfl); simp only [Act.put, List.setIfInBounds_toArray, List.set_cons_zero, List.set_cons_succ]) | (apply can0; (· rfl); (· (go_simp; done)); (· (intro w'; first | (go_simp; with_reducible rfl) | (go_simp; done))); simp only [Act.put, List.setIfInBounds_toArray, List.set_cons_zero, List.set_cons_succ]) | (apply can1; (· rfl); (· (go_simp; done)); (· (first | (go_simp; with_reducible rfl) | (go_simp; done))); simp only [Act.put, List.setIfInBounds_toArray, List.set_cons_zero, List.set_cons_succ]) | (apply canN; (· rfl); (· (go_simp; done)); simp only [Act.put, List.setIfInBounds_toArray, List.set_cons_zero, List.set_cons_succ]) | (apply canN1; (· rfl); (· (go_simp; done)); simp only [Act.put, List.setIfInBounds_toArray, List.set_cons_zero, List.set_cons_succ])))
        refine canW rfl [5, 11] rfl (fun K hK => ?_)
        go_simp
        go_at_call 11
        refine (copy_any _ a2 cap2 l2 (HR2.out.kept HS.out.2.2 (fun _ _ => id)) HN2.out (by omega)).mono ?_
        rintro e wI ⟨vc, rfl, hI⟩
        clear hp0 hp1 hp2 hq0 hq1 hq2
        have HS := Lib.hid (HS.out.kept hI.2.1)
        have HI := Lib.hid hI
        clear hI
        have hp0 := HS.out.1.cell 0
        have hp1 := HS.out.1.cell 1
        have hp2 := HS.out.1.cell 2
        have hq0 := HS.out.2.1.cell 0
        have hq1 := HS.out.2.1.cell 1
        have hq2 := HS.out.2.1.cell 2
        simp only [List.getElem?_toArray, List.getElem?_cons_zero, List.getElem?_cons_succ] at hp0 hp1 hp2 hq0 hq1 hq2
        have hnews := Lib.hid (HR3.out.kept HS.out.2.2 (fun _ _ => id)).news
        have hone := Lib.hid (oneV l3)
        (refine hK _ _ (fun u hu => by simp only [List.mem_cons, List.not_mem_nil, or_false] at hu; (first | (subst hu; exact reRun_mk rfl (by first | (go_simp; with_reducible rfl) | (go_simp; done)) (holds_at rfl)) | (rcases hu with rfl | rfl <;> exact reRun_mk rfl (by first | (go_simp; with_reducible rfl) | (go_simp; done)) (holds_at rfl)) | (rcases hu with rfl | rfl | rfl <;> exact reRun_mk rfl (by first | (go_simp; with_reducible rfl) | (go_simp; done)) (holds_at rfl)))) ?_; clear hK K; try simp only [Act.put, List.setIfInBounds_toArray, List.set_cons_zero, List.set_cons_succ])
        (repeat (first | (apply can0; (· rfl); (· rfl); (· (intro w'; first | (go_simp; with_reducible rfl) | (go_simp; done))); simp only [Act.put, List.setIfInBounds_toArray, List.set_cons_zero, List.set_cons_succ]) | (apply can1; (· rfl); (· rfl); (· (first | (go_simp; with_reducible rfl) | (go_simp; done))); simp only [Act.put, List.setIfInBounds_toArray, List.set_cons_zero, List.set_cons_succ]) | (apply canN; (· rfl); (· rfl); simp only [Act.put, List.setIfInBounds_toArray, List.set_cons_zero, List.set_cons_succ]) | (apply canN1; (· rfl); (· rfl); simp only [Act.put, List.setIfInBounds_toArray, List.set_cons_zero, List.set_cons_succ]) | (apply can0; (· rfl); (· (go_simp; done)); (· (intro w'; first | (go_simp; with_reducible rfl) | (go_simp; done))); simp only [Act.put, List.setIfInBounds_toArray, List.set_cons_zero, List.set_cons_succ]) | (apply can1; (· rfl); (· (go_simp; done)); (· (first | (go_simp; with_reducible rfl) | (go_simp; done))); simp only [Act.put, List.setIfInBounds_toArray, List.set_cons_zero, List.set_cons_succ]) | (apply canN; (· rfl); (· (go_simp; done)); simp only [Act.put, List.setIfInBounds_toArray, List.set_cons_zero, List.set_cons_succ]) | (apply canN1; (· rfl); (· (go_simp; done)); simp only [Act.put, List.setIfInBounds_toArray, List.set_cons_zero, List.set_cons_succ])))
        refine canW rfl [5, 11] rfl (fun K hK => ?_)
        rw [if_pos (by rfl)]
        refine wp_app (.tmp 48) (.tmp 49) 24 rfl 3 (.int .i64 0) 1 8 i_int u_ints rfl (by decide) _ l2.length _ rfl HI.out.1 a3 l3.length cap3 (intI l3) rfl HN3.out (by simp [intI]) hnews.out hone.out (by unfold maxLen; omega) (by omega) ?_
        intro v5 w5 ho5 hch5 hfo5
        have hb1 := HS.out.1.kept hch5 (HI.out.1.ne HS.out.1 (by decide))
        have hb2 := HS.out.2.1.kept hch5 (HI.out.1.ne HS.out.2.1 (by decide))
        have HJ := Lib.hid (HI.out.app (ys := l3) ho5 hch5 hfo5 rfl rfl)
        clear hp0 hp1 hp2 hq0 hq1 hq2
        have HS : Hid (Two w w5 p q (f0, g0, b0) (f1, g1, b1)) := Lib.hid ⟨hb1, hb2, HS.out.2.2.trans hch5 (fun i hi h => by
          have h1 := HI.out.2.2 i h
          have h2 := HSZ.out
          omega)⟩
        clear hb1 hb2 ho5 hch5 hfo5 hnews hone
        have hp0 := HS.out.1.cell 0
        have hp1 := HS.out.1.cell 1
        have hp2 := HS.out.1.cell 2
        have hq0 := HS.out.2.1.cell 0
        have hq1 := HS.out.2.1.cell 1
        have hq2 := HS.out.2.1.cell 2
        simp only [List.getElem?_toArray, List.getElem?_cons_zero, List.getElem?_cons_succ] at hp0 hp1 hp2 hq0 hq1 hq2
        (refine hK _ _ (fun u hu => by simp only [List.mem_cons, List.not_mem_nil, or_false] at hu; (first | (subst hu; exact reRun_mk rfl (by first | (go_simp; with_reducible rfl) | (go_simp; done)) (holds_at rfl)) | (rcases hu with rfl | rfl <;> exact reRun_mk rfl (by first | (go_simp; with_reducible rfl) | (go_simp; done)) (holds_at rfl)) | (rcases hu with rfl | rfl | rfl <;> exact reRun_mk rfl (by first | (go_simp; with_reducible rfl) | (go_simp; done)) (holds_at rfl)))) ?_; clear hK K; try simp only [Act.put, List.setIfInBounds_toArray, List.set_cons_zero, List.set_cons_succ])
        (repeat (first | (apply can0; (· rfl); (· rfl); (· (intro w'; first | (go_simp; with_reducible rfl) | (go_simp; done))); simp only [Act.put, List.setIfInBounds_toArray, List.set_cons_zero, List.set_cons_succ]) | (apply can1; (· rfl); (· rfl); (· (first | (go_simp; with_reducible rfl) | (go_simp; done))); simp only [Act.put, List.setIfInBounds_toArray, List.set_cons_zero, List.set_cons_succ]) | (apply canN; (· rfl); (· rfl); simp only [Act.put, List.setIfInBounds_toArray, List.set_cons_zero, List.set_cons_succ]) | (apply canN1; (· rfl); (· rfl); simp only [Act.put, List.setIfInBounds_toArray, List.set_cons_zero, List.set_cons_succ]) | (apply can0; (· rfl); (· (go_simp; done)); (· (intro w'; first | (go_simp; with_reducible rfl) | (go_simp; done))); simp only [Act.put, List.setIfInBounds_toArray, List.set_cons_zero, List.set_cons_succ]) | (apply can1; (· rfl); (· (go_simp; done)); (· (first | (go_simp; with_reducible rfl) | (go_simp; done))); simp only [Act.put, List.setIfInBounds_toArray, List.set_cons_zero, List.set_cons_succ]) | (apply canN; (· rfl); (· (go_simp; done)); simp only [Act.put, List.setIfInBounds_toArray, List.set_cons_zero, List.set_cons_succ]) | (apply canN1; (· rfl); (· (go_simp; done)); simp only [Act.put, List.setIfInBounds_toArray, List.set_cons_zero, List.set_cons_succ])))
        refine canW rfl [11] rfl (fun K hK => ?_)
        go_simp
        go_at_call 9
        refine (apply_any _ f0 g0 b0 _ (l2 ++ l3) HJ.out.1.rd (fun x hx => by rcases List.mem_append.1 hx with h | h; exact HW2.out x h; exact HW3.out x h) (by simp; omega)).mono ?_
        rw [HOF.out]
        rintro e wL ⟨rfl, hL⟩
        clear hp0 hp1 hp2 hq0 hq1 hq2
        have HS := Lib.hid (HS.out.kept hL)
        clear hL
        have hp0 := HS.out.1.cell 0
        have hp1 := HS.out.1.cell 1
        have hp2 := HS.out.1.cell 2
        have hq0 := HS.out.2.1.cell 0
        have hq1 := HS.out.2.1.cell 1
        have hq2 := HS.out.2.1.cell 2
        simp only [List.getElem?_toArray, List.getElem?_cons_zero, List.getElem?_cons_succ] at hp0 hp1 hp2 hq0 hq1 hq2
        (refine hK _ _ (fun u hu => by simp only [List.mem_cons, List.not_mem_nil, or_false] at hu; (first | (subst hu; exact reRun_mk rfl (by first | (go_simp; with_reducible rfl) | (go_simp; done)) (holds_at rfl)) | (rcases hu with rfl | rfl <;> exact reRun_mk rfl (by first | (go_simp; with_reducible rfl) | (go_simp; done)) (holds_at rfl)) | (rcases hu with rfl | rfl | rfl <;> exact reRun_mk rfl (by first | (go_simp; with_reducible rfl) | (go_simp; done)) (holds_at rfl)))) ?_; clear hK K; try simp only [Act.put, List.setIfInBounds_toArray, List.set_cons_zero, List.set_cons_succ])
        (repeat (first | (apply can0; (· rfl); (· rfl); (· (intro w'; first | (go_simp; with_reducible rfl) | (go_simp; done))); simp only [Act.put, List.setIfInBounds_toArray, List.set_cons_zero, List.set_cons_succ]) | (apply can1; (· rfl); (· rfl); (· (first | (go_simp; with_reducible rfl) | (go_simp; done))); simp only [Act.put, List.setIfInBounds_toArray, List.set_cons_zero, List.set_cons_succ]) | (apply canN; (· rfl); (· rfl); simp only [Act.put, List.setIfInBounds_toArray, List.set_cons_zero, List.set_cons_succ]) | (apply canN1; (· rfl); (· rfl); simp only [Act.put, List.setIfInBounds_toArray, List.set_cons_zero, List.set_cons_succ]) | (apply can0; (· rfl); (· (go_simp; done)); (· (intro w'; first | (go_simp; with_reducible rfl) | (go_simp; done))); simp only [Act.put, List.setIfInBounds_toArray, List.set_cons_zero, List.set_cons_succ]) | (apply can1; (· rfl); (· (go_simp; done)); (· (first | (go_simp; with_reducible rfl) | (go_simp; done))); simp only [Act.put, List.setIfInBounds_toArray, List.set_cons_zero, List.set_cons_succ]) | (apply canN; (· rfl); (· (go_simp; done)); simp only [Act.put, List.setIfInBounds_toArray, List.set_cons_zero, List.set_cons_succ]) | (apply canN1; (· rfl); (· (go_simp; done)); simp only [Act.put, List.setIfInBounds_toArray, List.set_cons_zero, List.set_cons_succ])))
        refine canW rfl [] rfl (fun K hK => ?_)
        go_simp
        go_at_call 9
        refine (apply_any _ f0 g0 b0 _ l2 (HR2.out.kept HS.out.2.2 (fun _ _ => id)) HW2.out (by omega)).mono ?_
        rw [HAP.out]
        rintro e wM ⟨rfl, hM⟩
        clear hp0 hp1 hp2 hq0 hq1 hq2
        have HS := Lib.hid (HS.out.kept hM)
        clear hM
        (refine hK _ _ (fun u hu => by cases hu) ?_; clear hK K; try simp only [Act.put, List.setIfInBounds_toArray, List.set_cons_zero, List.set_cons_succ])
        (repeat (first | (apply can0; (· rfl); (· rfl); (· (intro w'; first | (go_simp; with_reducible rfl) | (go_simp; done))); simp only [Act.put, List.setIfInBounds_toArray, List.set_cons_zero, List.set_cons_succ]) | (apply can1; (· rfl); (· rfl); (· (first | (go_simp; with_reducible rfl) | (go_simp; done))); simp only [Act.put, List.setIfInBounds_toArray, List.set_cons_zero, List.set_cons_succ]) | (apply canN; (· rfl); (· rfl); simp only [Act.put, List.setIfInBounds_toArray, List.set_cons_zero, List.set_cons_succ]) | (apply canN1; (· rfl); (· rfl); simp only [Act.put, List.setIfInBounds_toArray, List.set_cons_zero, List.set_cons_succ]) | (apply can0; (· rfl); (· (go_simp; done)); (· (intro w'; first | (go_simp; with_reducible rfl) | (go_simp; done))); simp only [Act.put, List.setIfInBounds_toArray, List.set_cons_zero, List.set_cons_succ]) | (apply can1; (· rfl); (· (go_simp; done)); (· (first | (go_simp; with_reducible rfl) | (go_simp; done))); simp only [Act.put, List.setIfInBounds_toArray, List.set_cons_zero, List.set_cons_succ]) | (apply canN; (· rfl); (· (go_simp; done)); simp only [Act.put, List.setIfInBounds_toArray, List.set_cons_zero, List.set_cons_succ]) | (apply canN1; (· rfl); (· (go_simp; done)); simp only [Act.put, List.setIfInBounds_toArray, List.set_cons_zero, List.set_cons_succ])))
        refine canW rfl [] rfl (fun K hK => ?_)
        go_simp
        go_at_call 9
        refine (apply_any _ ap.1 ap.2.1 ap.2.2 _ l3 (HR3.out.kept HS.out.2.2 (fun _ _ => id)) HW3.out (by omega)).mono ?_
        rw [show applyF (ap.1, ap.2.1, ap.2.2) l3 = T from HT.out]
        rintro e wN ⟨rfl, hN⟩
        have HS := Lib.hid (HS.out.kept hN)
        clear hN
        (refine hK _ _ (fun u hu => by cases hu) ?_; clear hK K; try simp only [Act.put, List.setIfInBounds_toArray, List.set_cons_zero, List.set_cons_succ])
        (repeat (first | (apply can0; (· rfl); (· rfl); (· (intro w'; first | (go_simp; with_reducible rfl) | (go_simp; done))); simp only [Act.put, List.setIfInBounds_toArray, List.set_cons_zero, List.set_cons_succ]) | (apply can1; (· rfl); (· rfl); (· (first | (go_simp; with_reducible rfl) | (go_simp; done))); simp only [Act.put, List.setIfInBounds_toArray, List.set_cons_zero, List.set_cons_succ]) | (apply canN; (· rfl); (· rfl); simp only [Act.put, List.setIfInBounds_toArray, List.set_cons_zero, List.set_cons_succ]) | (apply canN1; (· rfl); (· rfl); simp only [Act.put, List.setIfInBounds_toArray, List.set_cons_zero, List.set_cons_succ]) | (apply can0; (· rfl); (· (go_simp; done)); (· (intro w'; first | (go_simp; with_reducible rfl) | (go_simp; done))); simp only [Act.put, List.setIfInBounds_toArray, List.set_cons_zero, List.set_cons_succ]) | (apply can1; (· rfl); (· (go_simp; done)); (· (first | (go_simp; with_reducible rfl) | (go_simp; done))); simp only [Act.put, List.setIfInBounds_toArray, List.set_cons_zero, List.set_cons_succ]) | (apply canN; (· rfl); (· (go_simp; done)); simp only [Act.put, List.setIfInBounds_toArray, List.set_cons_zero, List.set_cons_succ]) | (apply canN1; (· rfl); (· (go_simp; done)); simp only [Act.put, List.setIfInBounds_toArray, List.set_cons_zero, List.set_cons_succ])))
        refine canE ?_
        go_wp2
        go_ret
        exact ⟨rfl, HS.out.2.2⟩
      · (repeat (first | (apply can0; (· rfl); (· rfl); (· (intro w'; first | (go_simp; with_reducible rfl) | (go_simp; done))); simp only [Act.put, List.setIfInBounds_toArray, List.set_cons_zero, List.set_cons_succ]) | (apply can1; (· rfl); (· rfl); (· (first | (go_simp; with_reducible rfl) | (go_simp; done))); simp only [Act.put, List.setIfInBounds_toArray, List.set_cons_zero, List.set_cons_succ]) | (apply canN; (· rfl); (· rfl); simp only [Act.put, List.setIfInBounds_toArray, List.set_cons_zero, List.set_cons_succ]) | (apply canN1; (· rfl); (· rfl); simp only [Act.put, List.setIfInBounds_toArray, List.set_cons_zero, List.set_cons_succ]) | (apply can0; (· rfl); (· (go_simp; done)); (· (intro w'; first | (go_simp; with_reducible rfl) | (go_simp; done))); simp only [Act.put, List.setIfInBounds_toArray, List.set_cons_zero, List.set_cons_succ]) | (apply can1; (· rfl); (· (go_simp; done)); (· (first | (go_simp; with_reducible rfl) | (go_simp; done))); simp only [Act.put, List.setIfInBounds_toArray, List.set_cons_zero, List.set_cons_succ]) | (apply canN; (· rfl); (· (go_simp; done)); simp only [Act.put, List.setIfInBounds_toArray, List.set_cons_zero, List.set_cons_succ]) | (apply canN1; (· rfl); (· (go_simp; done)); simp only [Act.put, List.setIfInBounds_toArray, List.set_cons_zero, List.set_cons_succ])))
        refine canM rfl [5, 11] rfl rfl (fun u hu => by simp only [List.mem_cons, List.not_mem_nil, or_false] at hu; (first | (subst hu; intro o ho hw; cases ho; cases (hw.symm.trans (show Region.wanted _ _ = false from rfl))) | (rcases hu with rfl | rfl <;> (intro o ho hw; cases ho; cases (hw.symm.trans (show Region.wanted _ _ = false from rfl)))))) ?_
        (repeat (first | (apply can0; (· rfl); (· rfl); (· (intro w'; first | (go_simp; with_reducible rfl) | (go_simp; done))); simp only [Act.put, List.setIfInBounds_toArray, List.set_cons_zero, List.set_cons_succ]) | (apply can1; (· rfl); (· rfl); (· (first | (go_simp; with_reducible rfl) | (go_simp; done))); simp only [Act.put, List.setIfInBounds_toArray, List.set_cons_zero, List.set_cons_succ]) | (apply canN; (· rfl); (· rfl); simp only [Act.put, List.setIfInBounds_toArray, List.set_cons_zero, List.set_cons_succ]) | (apply canN1; (· rfl); (· rfl); simp only [Act.put, List.setIfInBounds_toArray, List.set_cons_zero, List.set_cons_succ]) | (apply can0; (· rfl); (· (go_simp; done)); (· (intro w'; first | (go_simp; with_reducible rfl) | (go_simp; done))); simp only [Act.put, List.setIfInBounds_toArray, List.set_cons_zero, List.set_cons_succ]) | (apply can1; (· rfl); (· (go_simp; done)); (· (first | (go_simp; with_reducible rfl) | (go_simp; done))); simp only [Act.put, List.setIfInBounds_toArray, List.set_cons_zero, List.set_cons_succ]) | (apply canN; (· rfl); (· (go_simp; done)); simp only [Act.put, List.setIfInBounds_toArray, List.set_cons_zero, List.set_cons_succ]) | (apply canN1; (· rfl); (· (go_simp; done)); simp only [Act.put, List.setIfInBounds_toArray, List.set_cons_zero, List.set_cons_succ])))
        refine canM rfl [5, 11] rfl rfl (fun u hu => by simp only [List.mem_cons, List.not_mem_nil, or_false] at hu; (first | (subst hu; intro o ho hw; cases ho; cases (hw.symm.trans (show Region.wanted _ _ = false from rfl))) | (rcases hu with rfl | rfl <;> (intro o ho hw; cases ho; cases (hw.symm.trans (show Region.wanted _ _ = false from rfl)))))) ?_
        (repeat (first | (apply can0; (· rfl); (· rfl); (· (intro w'; first | (go_simp; with_reducible rfl) | (go_simp; done))); simp only [Act.put, List.setIfInBounds_toArray, List.set_cons_zero, List.set_cons_succ]) | (apply can1; (· rfl); (· rfl); (· (first | (go_simp; with_reducible rfl) | (go_simp; done))); simp only [Act.put, List.setIfInBounds_toArray, List.set_cons_zero, List.set_cons_succ]) | (apply canN; (· rfl); (· rfl); simp only [Act.put, List.setIfInBounds_toArray, List.set_cons_zero, List.set_cons_succ]) | (apply canN1; (· rfl); (· rfl); simp only [Act.put, List.setIfInBounds_toArray, List.set_cons_zero, List.set_cons_succ]) | (apply can0; (· rfl); (· (go_simp; done)); (· (intro w'; first | (go_simp; with_reducible rfl) | (go_simp; done))); simp only [Act.put, List.setIfInBounds_toArray, List.set_cons_zero, List.set_cons_succ]) | (apply can1; (· rfl); (· (go_simp; done)); (· (first | (go_simp; with_reducible rfl) | (go_simp; done))); simp only [Act.put, List.setIfInBounds_toArray, List.set_cons_zero, List.set_cons_succ]) | (apply canN; (· rfl); (· (go_simp; done)); simp only [Act.put, List.setIfInBounds_toArray, List.set_cons_zero, List.set_cons_succ]) | (apply canN1; (· rfl); (· (go_simp; done)); simp only [Act.put, List.setIfInBounds_toArray, List.set_cons_zero, List.set_cons_succ])))
        refine canM rfl [11] rfl rfl (fun u hu => by simp only [List.mem_cons, List.not_mem_nil, or_false] at hu; (first | (subst hu; intro o ho hw; cases ho; cases (hw.symm.trans (show Region.wanted _ _ = false from rfl))) | (rcases hu with rfl | rfl <;> (intro o ho hw; cases ho; cases (hw.symm.trans (show Region.wanted _ _ = false from rfl)))))) ?_
        (repeat (first | (apply can0; (· rfl); (· rfl); (· (intro w'; first | (go_simp; with_reducible rfl) | (go_simp; done))); simp only [Act.put, List.setIfInBounds_toArray, List.set_cons_zero, List.set_cons_succ]) | (apply can1; (· rfl); (· rfl); (· (first | (go_simp; with_reducible rfl) | (go_simp; done))); simp only [Act.put, List.setIfInBounds_toArray, List.set_cons_zero, List.set_cons_succ]) | (apply canN; (· rfl); (· rfl); simp only [Act.put, List.setIfInBounds_toArray, List.set_cons_zero, List.set_cons_succ]) | (apply canN1; (· rfl); (· rfl); simp only [Act.put, List.setIfInBounds_toArray, List.set_cons_zero, List.set_cons_succ]) | (apply can0; (· rfl); (· (go_simp; done)); (· (intro w'; first | (go_simp; with_reducible rfl) | (go_simp; done))); simp only [Act.put, List.setIfInBounds_toArray, List.set_cons_zero, List.set_cons_succ]) | (apply can1; (· rfl); (· (go_simp; done)); (· (first | (go_simp; with_reducible rfl) | (go_simp; done))); simp only [Act.put, List.setIfInBounds_toArray, List.set_cons_zero, List.set_cons_succ]) | (apply canN; (· rfl); (· (go_simp; done)); simp only [Act.put, List.setIfInBounds_toArray, List.set_cons_zero, List.set_cons_succ]) | (apply canN1; (· rfl); (· (go_simp; done)); simp only [Act.put, List.setIfInBounds_toArray, List.set_cons_zero, List.set_cons_succ])))
        refine canM rfl [] rfl rfl (fun u hu => by cases hu) ?_
        (repeat (first | (apply can0; (· rfl); (· rfl); (· (intro w'; first | (go_simp; with_reducible rfl) | (go_simp; done))); simp only [Act.put, List.setIfInBounds_toArray, List.set_cons_zero, List.set_cons_succ]) | (apply can1; (· rfl); (· rfl); (· (first | (go_simp; with_reducible rfl) | (go_simp; done))); simp only [Act.put, List.setIfInBounds_toArray, List.set_cons_zero, List.set_cons_succ]) | (apply canN; (· rfl); (· rfl); simp only [Act.put, List.setIfInBounds_toArray, List.set_cons_zero, List.set_cons_succ]) | (apply canN1; (· rfl); (· rfl); simp only [Act.put, List.setIfInBounds_toArray, List.set_cons_zero, List.set_cons_succ]) | (apply can0; (· rfl); (· (go_simp; done)); (· (intro w'; first | (go_simp; with_reducible rfl) | (go_simp; done))); simp only [Act.put, List.setIfInBounds_toArray, List.set_cons_zero, List.set_cons_succ]) | (apply can1; (· rfl); (· (go_simp; done)); (· (first | (go_simp; with_reducible rfl) | (go_simp; done))); simp only [Act.put, List.setIfInBounds_toArray, List.set_cons_zero, List.set_cons_succ]) | (apply canN; (· rfl); (· (go_simp; done)); simp only [Act.put, List.setIfInBounds_toArray, List.set_cons_zero, List.set_cons_succ]) | (apply canN1; (· rfl); (· (go_simp; done)); simp only [Act.put, List.setIfInBounds_toArray, List.set_cons_zero, List.set_cons_succ])))
        refine canM rfl [] rfl rfl (fun u hu => by cases hu) ?_
        (repeat (first | (apply can0; (· rfl); (· rfl); (· (intro w'; first | (go_simp; with_reducible rfl) | (go_simp; done))); simp only [Act.put, List.setIfInBounds_toArray, List.set_cons_zero, List.set_cons_succ]) | (apply can1; (· rfl); (· rfl); (· (first | (go_simp; with_reducible rfl) | (go_simp; done))); simp only [Act.put, List.setIfInBounds_toArray, List.set_cons_zero, List.set_cons_succ]) | (apply canN; (· rfl); (· rfl); simp only [Act.put, List.setIfInBounds_toArray, List.set_cons_zero, List.set_cons_succ]) | (apply canN1; (· rfl); (· rfl); simp only [Act.put, List.setIfInBounds_toArray, List.set_cons_zero, List.set_cons_succ]) | (apply can0; (· rfl); (· (go_simp; done)); (· (intro w'; first | (go_simp; with_reducible rfl) | (go_simp; done))); simp only [Act.put, List.setIfInBounds_toArray, List.set_cons_zero, List.set_cons_succ]) | (apply can1; (· rfl); (· (go_simp; done)); (· (first | (go_simp; with_reducible rfl) | (go_simp; done))); simp only [Act.put, List.setIfInBounds_toArray, List.set_cons_zero, List.set_cons_succ]) | (apply canN; (· rfl); (· (go_simp; done)); simp only [Act.put, List.setIfInBounds_toArray, List.set_cons_zero, List.set_cons_succ]) | (apply canN1; (· rfl); (· (go_simp; done)); simp only [Act.put, List.setIfInBounds_toArray, List.set_cons_zero, List.set_cons_succ])))
        refine canE ?_
        go_wp2
        go_ret
        exact ⟨rfl, HS.out.2.2⟩
  · rcases (show 50 < l2.length ∨ (l2.length ≤ 50 ∧ 50 < l3.length) ∨ (l2.length ≤ 50 ∧ l3.length ≤ 50 ∧ l2.length = 0) ∨ (l2.length ≤ 50 ∧ l3.length ≤ 50 ∧ l2.length ≠ 0 ∧ l3.length = 0) by
      by_cases c1 : l2.length = 0
      · omega
      · by_cases c2 : l3.length = 0
        · omega
        · have d1 : l2 ≠ [] := fun h => c1 (by rw [h]; rfl)
          have d2 : l3 ≠ [] := fun h => c2 (by rw [h]; rfl)
          by_cases c3 : l2.length ≤ 50
          · by_cases c4 : l3.length ≤ 50
            · exact absurd ⟨c3, c4, d1, d2⟩ hl
            · omega
          · omega) with c | ⟨c, c'⟩ | ⟨c, c', c2⟩ | ⟨c, c', c2, c3⟩
    · have m1 : (50 : Int) < (l2.length : Int) := by omega
      go_wp2_with fail
      go_at_call 6
      refine (sfirst_any _).mono ?_
      rintro e wC ⟨rfl, hwC⟩
      go_wp2
      go_ret
      exact ⟨rfl, HS.out.2.2.trans hwC fun _ _ h => h⟩
    · have m1 : ¬ (50 : Int) < (l2.length : Int) := by omega
      have m2 : (50 : Int) < (l3.length : Int) := by omega
      go_wp2_with fail
      go_at_call 6
      refine (sfirst_any _).mono ?_
      rintro e wC ⟨rfl, hwC⟩
      go_wp2
      go_ret
      exact ⟨rfl, HS.out.2.2.trans hwC fun _ _ h => h⟩
    · have m1 : ¬ (50 : Int) < (l2.length : Int) := by omega
      have m2 : ¬ (50 : Int) < (l3.length : Int) := by omega
      have m3 : ((l2.length : Int) == 0) = true := by simp; exact List.length_eq_zero_iff.1 c2
      go_wp2_with fail
      go_at_call 6
      refine (sfirst_any _).mono ?_
      rintro e wC ⟨rfl, hwC⟩
      go_wp2
      go_ret
      exact ⟨rfl, HS.out.2.2.trans hwC fun _ _ h => h⟩
    · have m1 : ¬ (50 : Int) < (l2.length : Int) := by omega
      have m2 : ¬ (50 : Int) < (l3.length : Int) := by omega
      have m3 : ((l2.length : Int) == 0) = false := by simp; exact fun h => c2 (by rw [h]; rfl)
      have m4 : ((l3.length : Int) == 0) = true := by simp; exact List.length_eq_zero_iff.1 c3
      go_wp2_with fail
      go_at_call 6
      refine (sfirst_any _).mono ?_
      rintro e wC ⟨rfl, hwC⟩
      go_wp2
      go_ret
      exact ⟨rfl, HS.out.2.2.trans hwC fun _ _ h => h⟩
end Go.Proofs.Ytkcpgafafbjiaaa
