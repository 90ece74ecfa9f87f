/-
  Chapter 9: the walk of SgrBack.
-/
import Derived.Test.YtkcpgafafbjiaaaSgr8
namespace Go.Proofs.Ytkcpgafafbjiaaa
open Go.RowKit
set_option linter.unusedVariables false
set_option linter.unusedSimpArgs false

theorem nilOf {k : IntKind} {w : World} {a : Option Addr} {len cap : Nat} {zs : List Int} (h : (a = none ∧ len = 0 ∧ cap = 0 ∧ zs = []) ∨ ∃ x, a = some x ∧ len ≤ cap ∧ cap ≤ maxLen ∧ zs.length = cap ∧ (∀ i, i < zs.length → w.cell? (x.add i) = some (.int k (zs.getD i 0))) ∧ ∀ n ∈ zs, (Lit.int k n).wf = true) : a = none → cap = 0 := fun h0 => by
  rcases h with ⟨_, _, h, _⟩ | ⟨x, h, _⟩
  · exact h
  · rw [h0] at h; cases h
/-- Two looks in blocks of the law's own. -/
def Two (w wX : World) (p q : Nat) (a b : Int × Int × Int) : Prop :=
  Blk wX p 23 #[.int .i64 a.1, .int .i64 a.2.1, .int .i64 a.2.2] ∧ Blk wX q 23 #[.int .i64 b.1, .int .i64 b.2.1, .int .i64 b.2.2] ∧ Chg w wX nob
theorem Two.kept {w wX wY : World} {p q : Nat} {a b : Int × Int × Int} (h : Two w wX p q a b) (hc : Chg wX wY nob) : Two w wY p q a b := ⟨h.1.kept hc id, h.2.1.kept hc id, h.2.2.trans hc fun _ _ h => h⟩
theorem may_ne {f g b : Int} : (paramsF f g b).length ≤ 19 ∧ paramsF f g b ≠ [] := by
  unfold paramsF
  split
  · have := flagsL_len f; have := namedF_len 38 g; have := namedF_len 48 b
    simp; omega
  · simp
theorem back_F {f g b : Int} (h : mayF f g b = true) (a : Int × Int × Int) : applyF a (paramsF f g b) = (f, g, b) := by
  unfold applyF; rw [if_neg may_ne.2]; exact params_back h a _ (Nat.le_refl _)
theorem back_app {f g b : Int} (h : mayF f g b = true) (a : Int × Int × Int) (l : List Int) (hc : NoCut l) : applyF a (l ++ paramsF f g b) = (f, g, b) := by
  unfold applyF; rw [if_neg (by simp [may_ne.2]), applyR_app l.length l _ a _ hc (Nat.le_refl _) (Nat.le_refl _)]
  exact params_back h _ _ (Nat.le_refl _)
theorem params_b {f g b : Int} (h : mayF f g b = true) : ∀ x ∈ paramsF f g b, -9223372036854775808 ≤ x ∧ x ≤ 9223372036854775807 := by
  have hg : mayC g = true := by simp [mayF] at h; exact h.1.2
  have hb : mayC b = true := by simp [mayF] at h; exact h.2
  have hn : ∀ w c, (w = 38 ∨ w = 48) → mayC c = true → ∀ x ∈ namedF w c, -9223372036854775808 ≤ x ∧ x ≤ 9223372036854775807 := fun w c hw hc x hx => by
    simp [mayC] at hc
    unfold namedF at hx
    split at hx
    · simp at hx; omega
    · split at hx
      · simp at hx; omega
      · simp at hx
  intro x hx
  unfold paramsF at hx
  rw [if_pos h] at hx
  simp only [List.cons_append, List.mem_cons, List.mem_append] at hx
  rcases hx with rfl | (hx | hx) | hx
  · omega
  · have := flagsL_mem hx; omega
  · exact hn 38 g (.inl rfl) hg x hx
  · exact hn 48 b (.inr rfl) hb x hx

set_option maxRecDepth 100000 in
set_option maxHeartbeats 8000000 in
theorem SgrBack_walk (f0 g0 b0 f1 g1 b1 : Int) (a2 : Option Addr) (len2 cap2 : Nat) (l2 : List Int) (w : World)
    (w0 : (-9223372036854775808 ≤ f0 ∧ f0 ≤ 9223372036854775807) ∧ (-9223372036854775808 ≤ g0 ∧ g0 ≤ 9223372036854775807) ∧ (-9223372036854775808 ≤ b0 ∧ b0 ≤ 9223372036854775807))
    (w1 : (-9223372036854775808 ≤ f1 ∧ f1 ≤ 9223372036854775807) ∧ (-9223372036854775808 ≤ g1 ∧ g1 ≤ 9223372036854775807) ∧ (-9223372036854775808 ≤ b1 ∧ b1 ≤ 9223372036854775807))
    (hr2 : Rd w 1 (.slice a2 len2 cap2) len2 (l2.map (Value.int .i64))) (hl2 : l2.length = len2) (y2 : len2 * 8 ≤ 140737488351232)
    (w2 : ∀ x ∈ l2, -9223372036854775808 ≤ x ∧ x ≤ 9223372036854775807) (n2 : a2 = none → cap2 = 0) :
    Calls Try.prog 3 #[.agg #[.int .i64 f0, .int .i64 g0, .int .i64 b0], .agg #[.int .i64 f1, .int .i64 g1, .int .i64 b1], .slice a2 len2 cap2] w fun e w' => e = .returned (.bool true) ∧ Chg w w' nob := by
  subst hl2
  have HR : Hid (Rd w 1 (.slice a2 l2.length cap2) l2.length (intI l2)) := Lib.hid hr2
  have HW2 := Lib.hid w2
  have HN2 := Lib.hid n2
  obtain ⟨k1, e1⟩ : ∃ k, mayF f0 g0 b0 = k := ⟨_, rfl⟩
  obtain ⟨k2, e2⟩ : ∃ k, mayF f1 g1 b1 = k := ⟨_, rfl⟩
  have E1 := Lib.hid e1
  have E2 := Lib.hid e2
  have HT0 : Hid (Two w ((w.alloc (.cells #[.int .i64 f0, .int .i64 g0, .int .i64 b0] 23)).alloc (.cells #[.int .i64 f1, .int .i64 g1, .int .i64 b1] 23)) w.heap.size (w.heap.size + 1) (f0, g0, b0) (f1, g1, b1)) := Lib.hid ⟨(Blk.new w _ _).alloc _, by
    have h := Blk.new (w.alloc (.cells #[.int .i64 f0, .int .i64 g0, .int .i64 b0] 23)) 23 #[.int .i64 f1, .int .i64 g1, .int .i64 b1]
    rw [size_al] at h
    exact h, ((Chg.refl w nob).alloc _).alloc _⟩
  clear hr2 w2 n2 e1 e2 w0 w1
  go_enter Try.func3, Try.ntmps3
  go_wp2_with fail
  go_at_call 6
  refine (sfirst_any _).mono ?_
  rintro e wA ⟨rfl, hwA⟩
  have HS := Lib.hid (HT0.out.kept hwA)
  clear hwA HT0
  generalize w.heap.size + 1 = q at *
  generalize w.heap.size = p at *
  by_cases hl : l2.length ≤ 100
  · have n100 : ¬ (100 : Int) < (l2.length : Int) := by omega
    have hp0 := HS.out.1.cell 0
    have hp1 := HS.out.1.cell 1
    have hp2 := HS.out.1.cell 2
    have hq0 := HS.out.2.1.cell 0
    have hq1 := HS.out.2.1.cell 1
    have hq2 := HS.out.2.1.cell 2
    simp only [List.getElem?_toArray, List.getElem?_cons_zero, List.getElem?_cons_succ] at hp0 hp1 hp2 hq0 hq1 hq2
    go_wp2_with fail
    go_at_call 7
    refine (may_any _ f0 g0 b0).mono ?_
    rw [E1.out]
    rintro e wB ⟨rfl, hB⟩
    clear hp0 hp1 hp2 hq0 hq1 hq2
    have HS := Lib.hid (HS.out.kept hB)
    clear hB
    have hp0 := HS.out.1.cell 0
    have hp1 := HS.out.1.cell 1
    have hp2 := HS.out.1.cell 2
    have hq0 := HS.out.2.1.cell 0
    have hq1 := HS.out.2.1.cell 1
    have hq2 := HS.out.2.1.cell 2
    simp only [List.getElem?_toArray, List.getElem?_cons_zero, List.getElem?_cons_succ] at hp0 hp1 hp2 hq0 hq1 hq2
    cases k1
    · skip
      go_wp2_with fail
      go_at_call 6
      refine (sfirst_any _).mono ?_
      rintro e wC ⟨rfl, hwC⟩
      go_wp2
      go_ret
      exact ⟨rfl, HS.out.2.2.trans hwC fun _ _ h => h⟩
    · go_wp2_with fail
      go_at_call 7
      refine (may_any _ f1 g1 b1).mono ?_
      rw [E2.out]
      rintro e wC ⟨rfl, hC⟩
      clear hp0 hp1 hp2 hq0 hq1 hq2
      have HS := Lib.hid (HS.out.kept hC)
      clear hC
      have hp0 := HS.out.1.cell 0
      have hp1 := HS.out.1.cell 1
      have hp2 := HS.out.1.cell 2
      have hq0 := HS.out.2.1.cell 0
      have hq1 := HS.out.2.1.cell 1
      have hq2 := HS.out.2.1.cell 2
      simp only [List.getElem?_toArray, List.getElem?_cons_zero, List.getElem?_cons_succ] at hp0 hp1 hp2 hq0 hq1 hq2
      cases k2
      · skip
        go_wp2_with fail
        go_at_call 6
        refine (sfirst_any _).mono ?_
        rintro e wD ⟨rfl, hwD⟩
        go_wp2
        go_ret
        exact ⟨rfl, HS.out.2.2.trans hwD fun _ _ h => h⟩
      · go_wp2_with fail
        go_at_call 8
        refine (params_any _ f0 g0 b0).mono ?_
        have hml := (may_ne (f := f0) (g := g0) (b := b0)).1
        have HPB := Lib.hid (params_b E1.out)
        have HB1 := Lib.hid (back_F E1.out (f1, g1, b1))
        have HB2 := Lib.hid (fun l h => back_app E1.out (f1, g1, b1) l h)
        have HMY : Hid (∀ l, mayF (applyF (f1, g1, b1) l).1 (applyF (f1, g1, b1) l).2.1 (applyF (f1, g1, b1) l).2.2 = true) := Lib.hid (fun l => applyF_may (f1, g1, b1) l E2.out)
        obtain ⟨PL, hPL⟩ : ∃ PL, paramsF f0 g0 b0 = PL := ⟨_, rfl⟩
        rw [hPL] at hml HPB HB1 HB2 ⊢
        clear hPL
        rintro e wD ⟨v, rfl, hD⟩
        clear hp0 hp1 hp2 hq0 hq1 hq2
        have HN := Lib.hid (show Own wD 3 1 v PL.length (intI PL) from hD.1)
        have HS := Lib.hid (HS.out.kept hD.2.1)
        clear hD
        obtain ⟨av, cv, rfl, _, _, hvn, _⟩ := HN.out.form
        have HVN := Lib.hid hvn
        clear hvn
        have hp0 := HS.out.1.cell 0
        have hp1 := HS.out.1.cell 1
        have hp2 := HS.out.1.cell 2
        have hq0 := HS.out.2.1.cell 0
        have hq1 := HS.out.2.1.cell 1
        have hq2 := HS.out.2.1.cell 2
        simp only [List.getElem?_toArray, List.getElem?_cons_zero, List.getElem?_cons_succ] at hp0 hp1 hp2 hq0 hq1 hq2
        go_wp2_with fail
        refine wp_one [0, 3, 6] [2, 8, 9] [(2, [3])] [0, 1, 3, 2, 4, 5, 6, 7, 8, 9, 10, 11] rfl (by kernel_rfl) (fun _ _ _ _ _ h => h) ?_; simp only [List.map_cons, List.map_nil, List.getElem?_toArray, List.getElem?_cons_zero, List.getElem?_cons_succ]
        (repeat (first | (apply can0; (· rfl); (· rfl); (· (intro w'; first | (go_simp; with_reducible rfl) | (go_simp; done))); simp only [Act.put, List.setIfInBounds_toArray, List.set_cons_zero, List.set_cons_succ]) | (apply can1; (· rfl); (· rfl); (· (first | (go_simp; with_reducible rfl) | (go_simp; done))); simp only [Act.put, List.setIfInBounds_toArray, List.set_cons_zero, List.set_cons_succ]) | (apply canN; (· rfl); (· rfl); simp only [Act.put, List.setIfInBounds_toArray, List.set_cons_zero, List.set_cons_succ]) | (apply canN1; (· rfl); (· rfl); simp only [Act.put, List.setIfInBounds_toArray, List.set_cons_zero, List.set_cons_succ]) | (apply can0; (· rfl); (· (go_simp; done)); (· (intro w'; first | (go_simp; with_reducible rfl) | (go_simp; done))); simp only [Act.put, List.setIfInBounds_toArray, List.set_cons_zero, List.set_cons_succ]) | (apply can1; (· rfl); (· (go_simp; done)); (· (first | (go_simp; with_reducible rfl) | (go_simp; done))); simp only [Act.put, List.setIfInBounds_toArray, List.set_cons_zero, List.set_cons_succ]) | (apply canN; (· rfl); (· (go_simp; done)); simp only [Act.put, List.setIfInBounds_toArray, List.set_cons_zero, List.set_cons_succ]) | (apply canN1; (· rfl); (· (go_simp; done)); simp only [Act.put, List.setIfInBounds_toArray, List.set_cons_zero, List.set_cons_succ])))
        refine canW rfl [3] rfl (fun K hK => ?_)
        go_simp
        go_at_call 9
        refine (apply_any _ f1 g1 b1 _ PL (HN.out.kept ((Chg.refl wD nob).drew) (fun _ _ => id)).rd HPB.out (by omega)).mono ?_
        rw [HB1.out]
        rintro e wE ⟨rfl, hE⟩
        clear hp0 hp1 hp2 hq0 hq1 hq2
        have HN := Lib.hid (HN.out.kept (((Chg.refl wD nob).drew).trans hE fun _ _ h => h) (fun _ _ => id))
        have HS := Lib.hid (HS.out.kept (((Chg.refl wD nob).drew).trans hE fun _ _ h => h))
        clear hE
        have hp0 := HS.out.1.cell 0
        have hp1 := HS.out.1.cell 1
        have hp2 := HS.out.1.cell 2
        have hq0 := HS.out.2.1.cell 0
        have hq1 := HS.out.2.1.cell 1
        have hq2 := HS.out.2.1.cell 2
        simp only [List.getElem?_toArray, List.getElem?_cons_zero, List.getElem?_cons_succ] at hp0 hp1 hp2 hq0 hq1 hq2
        (refine hK _ _ (fun u hu => by simp only [List.mem_cons, List.not_mem_nil, or_false] at hu; (first | (subst hu; exact reRun_mk rfl (by first | (go_simp; with_reducible rfl) | (go_simp; done)) (holds_at rfl)) | (rcases hu with rfl | rfl <;> exact reRun_mk rfl (by first | (go_simp; with_reducible rfl) | (go_simp; done)) (holds_at rfl)) | (rcases hu with rfl | rfl | rfl <;> exact reRun_mk rfl (by first | (go_simp; with_reducible rfl) | (go_simp; done)) (holds_at rfl)))) ?_; clear hK K; try simp only [Act.put, List.setIfInBounds_toArray, List.set_cons_zero, List.set_cons_succ])
        (repeat (first | (apply can0; (· rfl); (· rfl); (· (intro w'; first | (go_simp; with_reducible rfl) | (go_simp; done))); simp only [Act.put, List.setIfInBounds_toArray, List.set_cons_zero, List.set_cons_succ]) | (apply can1; (· rfl); (· rfl); (· (first | (go_simp; with_reducible rfl) | (go_simp; done))); simp only [Act.put, List.setIfInBounds_toArray, List.set_cons_zero, List.set_cons_succ]) | (apply canN; (· rfl); (· rfl); simp only [Act.put, List.setIfInBounds_toArray, List.set_cons_zero, List.set_cons_succ]) | (apply canN1; (· rfl); (· rfl); simp only [Act.put, List.setIfInBounds_toArray, List.set_cons_zero, List.set_cons_succ]) | (apply can0; (· rfl); (· (go_simp; done)); (· (intro w'; first | (go_simp; with_reducible rfl) | (go_simp; done))); simp only [Act.put, List.setIfInBounds_toArray, List.set_cons_zero, List.set_cons_succ]) | (apply can1; (· rfl); (· (go_simp; done)); (· (first | (go_simp; with_reducible rfl) | (go_simp; done))); simp only [Act.put, List.setIfInBounds_toArray, List.set_cons_zero, List.set_cons_succ]) | (apply canN; (· rfl); (· (go_simp; done)); simp only [Act.put, List.setIfInBounds_toArray, List.set_cons_zero, List.set_cons_succ]) | (apply canN1; (· rfl); (· (go_simp; done)); simp only [Act.put, List.setIfInBounds_toArray, List.set_cons_zero, List.set_cons_succ])))
        refine canW rfl [] rfl (fun K hK => ?_)
        go_simp
        go_at_call 9
        refine (apply_any _ f1 g1 b1 _ l2 (HR.out.kept HS.out.2.2 (fun _ _ => id)) HW2.out (by omega)).mono ?_
        have hmy := HMY.out l2
        generalize applyF (f1, g1, b1) l2 = ap at *
        rintro e wF ⟨rfl, hF⟩
        clear hp0 hp1 hp2 hq0 hq1 hq2
        have HN := Lib.hid (HN.out.kept hF (fun _ _ => id))
        have HS := Lib.hid (HS.out.kept hF)
        have HMA := Lib.hid hmy
        clear hF hmy
        (refine hK _ _ (fun u hu => by cases hu) ?_; clear hK K; try simp only [Act.put, List.setIfInBounds_toArray, List.set_cons_zero, List.set_cons_succ])
        (repeat (first | (apply can0; (· rfl); (· rfl); (· (intro w'; first | (go_simp; with_reducible rfl) | (go_simp; done))); simp only [Act.put, List.setIfInBounds_toArray, List.set_cons_zero, List.set_cons_succ]) | (apply can1; (· rfl); (· rfl); (· (first | (go_simp; with_reducible rfl) | (go_simp; done))); simp only [Act.put, List.setIfInBounds_toArray, List.set_cons_zero, List.set_cons_succ]) | (apply canN; (· rfl); (· rfl); simp only [Act.put, List.setIfInBounds_toArray, List.set_cons_zero, List.set_cons_succ]) | (apply canN1; (· rfl); (· rfl); simp only [Act.put, List.setIfInBounds_toArray, List.set_cons_zero, List.set_cons_succ]) | (apply can0; (· rfl); (· (go_simp; done)); (· (intro w'; first | (go_simp; with_reducible rfl) | (go_simp; done))); simp only [Act.put, List.setIfInBounds_toArray, List.set_cons_zero, List.set_cons_succ]) | (apply can1; (· rfl); (· (go_simp; done)); (· (first | (go_simp; with_reducible rfl) | (go_simp; done))); simp only [Act.put, List.setIfInBounds_toArray, List.set_cons_zero, List.set_cons_succ]) | (apply canN; (· rfl); (· (go_simp; done)); simp only [Act.put, List.setIfInBounds_toArray, List.set_cons_zero, List.set_cons_succ]) | (apply canN1; (· rfl); (· (go_simp; done)); simp only [Act.put, List.setIfInBounds_toArray, List.set_cons_zero, List.set_cons_succ])))
        refine canW rfl [] rfl (fun K hK => ?_)
        go_simp
        go_at_call 7
        refine (may_any _ ap.1 ap.2.1 ap.2.2).mono ?_
        rw [HMA.out]
        rintro e wG ⟨rfl, hG⟩
        have HN := Lib.hid (HN.out.kept hG (fun _ _ => id))
        have HS := Lib.hid (HS.out.kept hG)
        clear hG
        (refine hK _ _ (fun u hu => by cases hu) ?_; clear hK K; try simp only [Act.put, List.setIfInBounds_toArray, List.set_cons_zero, List.set_cons_succ])
        (repeat (first | (apply can0; (· rfl); (· rfl); (· (intro w'; first | (go_simp; with_reducible rfl) | (go_simp; done))); simp only [Act.put, List.setIfInBounds_toArray, List.set_cons_zero, List.set_cons_succ]) | (apply can1; (· rfl); (· rfl); (· (first | (go_simp; with_reducible rfl) | (go_simp; done))); simp only [Act.put, List.setIfInBounds_toArray, List.set_cons_zero, List.set_cons_succ]) | (apply canN; (· rfl); (· rfl); simp only [Act.put, List.setIfInBounds_toArray, List.set_cons_zero, List.set_cons_succ]) | (apply canN1; (· rfl); (· rfl); simp only [Act.put, List.setIfInBounds_toArray, List.set_cons_zero, List.set_cons_succ]) | (apply can0; (· rfl); (· (go_simp; done)); (· (intro w'; first | (go_simp; with_reducible rfl) | (go_simp; done))); simp only [Act.put, List.setIfInBounds_toArray, List.set_cons_zero, List.set_cons_succ]) | (apply can1; (· rfl); (· (go_simp; done)); (· (first | (go_simp; with_reducible rfl) | (go_simp; done))); simp only [Act.put, List.setIfInBounds_toArray, List.set_cons_zero, List.set_cons_succ]) | (apply canN; (· rfl); (· (go_simp; done)); simp only [Act.put, List.setIfInBounds_toArray, List.set_cons_zero, List.set_cons_succ]) | (apply canN1; (· rfl); (· (go_simp; done)); simp only [Act.put, List.setIfInBounds_toArray, List.set_cons_zero, List.set_cons_succ])))
        refine canE ?_
        have hp0 := HS.out.1.cell 0
        have hp1 := HS.out.1.cell 1
        have hp2 := HS.out.1.cell 2
        have hq0 := HS.out.2.1.cell 0
        have hq1 := HS.out.2.1.cell 1
        have hq2 := HS.out.2.1.cell 2
        simp only [List.getElem?_toArray, List.getElem?_cons_zero, List.getElem?_cons_succ] at hp0 hp1 hp2 hq0 hq1 hq2
        go_wp2_with fail
        refine wp_one [5, 11] [0, 3, 7, 9, 10] [(7, [5, 11]), (9, [5, 11]), (10, [11])] [0, 1, 2, 3, 4, 5, 6, 8, 11, 7, 9, 10, 12, 13, 14, 15] rfl (by kernel_rfl) (fun _ _ _ _ _ h => h) ?_; simp only [List.map_cons, List.map_nil, List.getElem?_toArray, List.getElem?_cons_zero, List.getElem?_cons_succ]
        (repeat (first | (apply can0; (· rfl); (· rfl); (· (intro w'; first | (go_simp; with_reducible rfl) | (go_simp; done))); simp only [Act.put, List.setIfInBounds_toArray, List.set_cons_zero, List.set_cons_succ]) | (apply can1; (· rfl); (· rfl); (· (first | (go_simp; with_reducible rfl) | (go_simp; done))); simp only [Act.put, List.setIfInBounds_toArray, List.set_cons_zero, List.set_cons_succ]) | (apply canN; (· rfl); (· rfl); simp only [Act.put, List.setIfInBounds_toArray, List.set_cons_zero, List.set_cons_succ]) | (apply canN1; (· rfl); (· rfl); simp only [Act.put, List.setIfInBounds_toArray, List.set_cons_zero, List.set_cons_succ]) | (apply can0; (· rfl); (· (go_simp; done)); (· (intro w'; first | (go_simp; with_reducible rfl) | (go_simp; done))); simp only [Act.put, List.setIfInBounds_toArray, List.set_cons_zero, List.set_cons_succ]) | (apply can1; (· rfl); (· (go_simp; done)); (· (first | (go_simp; with_reducible rfl) | (go_simp; done))); simp only [Act.put, List.setIfInBounds_toArray, List.set_cons_zero, List.set_cons_succ]) | (apply canN; (· rfl); (· (go_simp; done)); simp only [Act.put, List.setIfInBounds_toArray, List.set_cons_zero, List.set_cons_succ]) | (apply canN1; (· rfl); (· (go_simp; done)); simp only [Act.put, List.setIfInBounds_toArray, List.set_cons_zero, List.set_cons_succ])))
        refine canW rfl [] rfl (fun K hK => ?_)
        go_simp
        go_at_call 6
        refine (sfirst_any _).mono ?_
        rintro e wH ⟨rfl, hH⟩
        clear hp0 hp1 hp2 hq0 hq1 hq2
        have HN := Lib.hid (HN.out.kept (((Chg.refl wG nob).drew).trans hH fun _ _ h => h) (fun _ _ => id))
        have HS := Lib.hid (HS.out.kept (((Chg.refl wG nob).drew).trans hH fun _ _ h => h))
        clear hH
        have hp0 := HS.out.1.cell 0
        have hp1 := HS.out.1.cell 1
        have hp2 := HS.out.1.cell 2
        have hq0 := HS.out.2.1.cell 0
        have hq1 := HS.out.2.1.cell 1
        have hq2 := HS.out.2.1.cell 2
        simp only [List.getElem?_toArray, List.getElem?_cons_zero, List.getElem?_cons_succ] at hp0 hp1 hp2 hq0 hq1 hq2
        (refine hK _ _ (fun u hu => by cases hu) ?_; clear hK K; try simp only [Act.put, List.setIfInBounds_toArray, List.set_cons_zero, List.set_cons_succ])
        (repeat (first | (apply can0; (· rfl); (· rfl); (· (intro w'; first | (go_simp; with_reducible rfl) | (go_simp; done))); simp only [Act.put, List.setIfInBounds_toArray, List.set_cons_zero, List.set_cons_succ]) | (apply can1; (· rfl); (· rfl); (· (first | (go_simp; with_reducible rfl) | (go_simp; done))); simp only [Act.put, List.setIfInBounds_toArray, List.set_cons_zero, List.set_cons_succ]) | (apply canN; (· rfl); (· rfl); simp only [Act.put, List.setIfInBounds_toArray, List.set_cons_zero, List.set_cons_succ]) | (apply canN1; (· rfl); (· rfl); simp only [Act.put, List.setIfInBounds_toArray, List.set_cons_zero, List.set_cons_succ]) | (apply can0; (· rfl); (· (go_simp; done)); (· (intro w'; first | (go_simp; with_reducible rfl) | (go_simp; done))); simp only [Act.put, List.setIfInBounds_toArray, List.set_cons_zero, List.set_cons_succ]) | (apply can1; (· rfl); (· (go_simp; done)); (· (first | (go_simp; with_reducible rfl) | (go_simp; done))); simp only [Act.put, List.setIfInBounds_toArray, List.set_cons_zero, List.set_cons_succ]) | (apply canN; (· rfl); (· (go_simp; done)); simp only [Act.put, List.setIfInBounds_toArray, List.set_cons_zero, List.set_cons_succ]) | (apply canN1; (· rfl); (· (go_simp; done)); simp only [Act.put, List.setIfInBounds_toArray, List.set_cons_zero, List.set_cons_succ])))
        refine canW rfl [] rfl (fun K hK => ?_)
        go_simp
        go_at_call 10
        refine (cut_any _ _ l2 (HR.out.kept HS.out.2.2 (fun _ _ => id)) (by omega)).mono ?_
        rintro e w' ⟨kc, rfl, hkc, rfl⟩
        have HKC := Lib.hid hkc
        clear hkc
        (refine hK _ _ (fun u hu => by cases hu) ?_; clear hK K; try simp only [Act.put, List.setIfInBounds_toArray, List.set_cons_zero, List.set_cons_succ])
        cases kc
        · have HSZ := Lib.hid HS.out.2.2.size
          (repeat (first | (apply can0; (· rfl); (· rfl); (· (intro w'; first | (go_simp; with_reducible rfl) | (go_simp; done))); simp only [Act.put, List.setIfInBounds_toArray, List.set_cons_zero, List.set_cons_succ]) | (apply can1; (· rfl); (· rfl); (· (first | (go_simp; with_reducible rfl) | (go_simp; done))); simp only [Act.put, List.setIfInBounds_toArray, List.set_cons_zero, List.set_cons_succ]) | (apply canN; (· rfl); (· rfl); simp only [Act.put, List.setIfInBounds_toArray, List.set_cons_zero, List.set_cons_succ]) | (apply canN1; (· rfl); (· rfl); simp only [Act.put, List.setIfInBounds_toArray, List.set_cons_zero, List.set_cons_succ]) | (apply can0; (· rfl); (· (go_simp; done)); (· (intro w'; first | (go_simp; with_reducible rfl) | (go_simp; done))); simp only [Act.put, List.setIfInBounds_toArray, List.set_cons_zero, List.set_cons_succ]) | (apply can1; (· rfl); (· (go_simp; done)); (· (first | (go_simp; with_reducible rfl) | (go_simp; done))); simp only [Act.put, List.setIfInBounds_toArray, List.set_cons_zero, List.set_cons_succ]) | (apply canN; (· rfl); (· (go_simp; done)); simp only [Act.put, List.setIfInBounds_toArray, List.set_cons_zero, List.set_cons_succ]) | (apply canN1; (· rfl); (· (go_simp; done)); simp only [Act.put, List.setIfInBounds_toArray, List.set_cons_zero, List.set_cons_succ])))
          refine canW rfl [5, 11] rfl (fun K hK => ?_)
          go_simp
          go_at_call 11
          refine (copy_any _ a2 cap2 l2 (HR.out.kept HS.out.2.2 (fun _ _ => id)) HN2.out (by omega)).mono ?_
          rintro e wI ⟨vc, rfl, hI⟩
          clear hp0 hp1 hp2 hq0 hq1 hq2
          have HN := Lib.hid (HN.out.kept hI.2.1 (fun _ _ => id))
          have HS := Lib.hid (HS.out.kept hI.2.1)
          have HI := Lib.hid hI
          clear hI
          have hp0 := HS.out.1.cell 0
          have hp1 := HS.out.1.cell 1
          have hp2 := HS.out.1.cell 2
          have hq0 := HS.out.2.1.cell 0
          have hq1 := HS.out.2.1.cell 1
          have hq2 := HS.out.2.1.cell 2
          simp only [List.getElem?_toArray, List.getElem?_cons_zero, List.getElem?_cons_succ] at hp0 hp1 hp2 hq0 hq1 hq2
          have hnews := Lib.hid HN.out.news
          have hone := Lib.hid (oneV PL)
          (refine hK _ _ (fun u hu => by simp only [List.mem_cons, List.not_mem_nil, or_false] at hu; (first | (subst hu; exact reRun_mk rfl (by first | (go_simp; with_reducible rfl) | (go_simp; done)) (holds_at rfl)) | (rcases hu with rfl | rfl <;> exact reRun_mk rfl (by first | (go_simp; with_reducible rfl) | (go_simp; done)) (holds_at rfl)) | (rcases hu with rfl | rfl | rfl <;> exact reRun_mk rfl (by first | (go_simp; with_reducible rfl) | (go_simp; done)) (holds_at rfl)))) ?_; clear hK K; try simp only [Act.put, List.setIfInBounds_toArray, List.set_cons_zero, List.set_cons_succ])
          (repeat (first | (apply can0; (· rfl); (· rfl); (· (intro w'; first | (go_simp; with_reducible rfl) | (go_simp; done))); simp only [Act.put, List.setIfInBounds_toArray, List.set_cons_zero, List.set_cons_succ]) | (apply can1; (· rfl); (· rfl); (· (first | (go_simp; with_reducible rfl) | (go_simp; done))); simp only [Act.put, List.setIfInBounds_toArray, List.set_cons_zero, List.set_cons_succ]) | (apply canN; (· rfl); (· rfl); simp only [Act.put, List.setIfInBounds_toArray, List.set_cons_zero, List.set_cons_succ]) | (apply canN1; (· rfl); (· rfl); simp only [Act.put, List.setIfInBounds_toArray, List.set_cons_zero, List.set_cons_succ]) | (apply can0; (· rfl); (· (go_simp; done)); (· (intro w'; first | (go_simp; with_reducible rfl) | (go_simp; done))); simp only [Act.put, List.setIfInBounds_toArray, List.set_cons_zero, List.set_cons_succ]) | (apply can1; (· rfl); (· (go_simp; done)); (· (first | (go_simp; with_reducible rfl) | (go_simp; done))); simp only [Act.put, List.setIfInBounds_toArray, List.set_cons_zero, List.set_cons_succ]) | (apply canN; (· rfl); (· (go_simp; done)); simp only [Act.put, List.setIfInBounds_toArray, List.set_cons_zero, List.set_cons_succ]) | (apply canN1; (· rfl); (· (go_simp; done)); simp only [Act.put, List.setIfInBounds_toArray, List.set_cons_zero, List.set_cons_succ])))
          refine canW rfl [5, 11] rfl (fun K hK => ?_)
          rw [if_pos (by rfl)]
          refine wp_app (.tmp 45) (.tmp 46) 24 rfl 3 (.int .i64 0) 1 8 i_int u_ints rfl (by decide) _ l2.length _ rfl HI.out.1 av PL.length cv (intI PL) rfl HVN.out (by simp [intI]) hnews.out hone.out (by unfold maxLen; omega) (by omega) ?_
          intro v5 w5 ho5 hch5 hfo5
          have hb1 := HS.out.1.kept hch5 (HI.out.1.ne HS.out.1 (by decide))
          have hb2 := HS.out.2.1.kept hch5 (HI.out.1.ne HS.out.2.1 (by decide))
          have HJ := Lib.hid (HI.out.app (ys := PL) ho5 hch5 hfo5 rfl rfl)
          clear hp0 hp1 hp2 hq0 hq1 hq2
          have HS : Hid (Two w w5 p q (f0, g0, b0) (f1, g1, b1)) := Lib.hid ⟨hb1, hb2, HS.out.2.2.trans hch5 (fun i hi h => by
            have h1 := HI.out.2.2 i h
            have h2 := HSZ.out
            omega)⟩
          clear hb1 hb2 ho5 hch5 hfo5 hnews hone
          have hp0 := HS.out.1.cell 0
          have hp1 := HS.out.1.cell 1
          have hp2 := HS.out.1.cell 2
          have hq0 := HS.out.2.1.cell 0
          have hq1 := HS.out.2.1.cell 1
          have hq2 := HS.out.2.1.cell 2
          simp only [List.getElem?_toArray, List.getElem?_cons_zero, List.getElem?_cons_succ] at hp0 hp1 hp2 hq0 hq1 hq2
          (refine hK _ _ (fun u hu => by simp only [List.mem_cons, List.not_mem_nil, or_false] at hu; (first | (subst hu; exact reRun_mk rfl (by first | (go_simp; with_reducible rfl) | (go_simp; done)) (holds_at rfl)) | (rcases hu with rfl | rfl <;> exact reRun_mk rfl (by first | (go_simp; with_reducible rfl) | (go_simp; done)) (holds_at rfl)) | (rcases hu with rfl | rfl | rfl <;> exact reRun_mk rfl (by first | (go_simp; with_reducible rfl) | (go_simp; done)) (holds_at rfl)))) ?_; clear hK K; try simp only [Act.put, List.setIfInBounds_toArray, List.set_cons_zero, List.set_cons_succ])
          (repeat (first | (apply can0; (· rfl); (· rfl); (· (intro w'; first | (go_simp; with_reducible rfl) | (go_simp; done))); simp only [Act.put, List.setIfInBounds_toArray, List.set_cons_zero, List.set_cons_succ]) | (apply can1; (· rfl); (· rfl); (· (first | (go_simp; with_reducible rfl) | (go_simp; done))); simp only [Act.put, List.setIfInBounds_toArray, List.set_cons_zero, List.set_cons_succ]) | (apply canN; (· rfl); (· rfl); simp only [Act.put, List.setIfInBounds_toArray, List.set_cons_zero, List.set_cons_succ]) | (apply canN1; (· rfl); (· rfl); simp only [Act.put, List.setIfInBounds_toArray, List.set_cons_zero, List.set_cons_succ]) | (apply can0; (· rfl); (· (go_simp; done)); (· (intro w'; first | (go_simp; with_reducible rfl) | (go_simp; done))); simp only [Act.put, List.setIfInBounds_toArray, List.set_cons_zero, List.set_cons_succ]) | (apply can1; (· rfl); (· (go_simp; done)); (· (first | (go_simp; with_reducible rfl) | (go_simp; done))); simp only [Act.put, List.setIfInBounds_toArray, List.set_cons_zero, List.set_cons_succ]) | (apply canN; (· rfl); (· (go_simp; done)); simp only [Act.put, List.setIfInBounds_toArray, List.set_cons_zero, List.set_cons_succ]) | (apply canN1; (· rfl); (· (go_simp; done)); simp only [Act.put, List.setIfInBounds_toArray, List.set_cons_zero, List.set_cons_succ])))
          refine canW rfl [11] rfl (fun K hK => ?_)
          go_simp
          go_at_call 9
          refine (apply_any _ f1 g1 b1 _ (l2 ++ PL) HJ.out.1.rd (fun x hx => by rcases List.mem_append.1 hx with h | h; exact HW2.out x h; exact HPB.out x h) (by simp; omega)).mono ?_
          rw [HB2.out l2 (HKC.out rfl)]
          rintro e wL ⟨rfl, hL⟩
          clear hp0 hp1 hp2 hq0 hq1 hq2
          have HS := Lib.hid (HS.out.kept hL)
          clear hL
          have hp0 := HS.out.1.cell 0
          have hp1 := HS.out.1.cell 1
          have hp2 := HS.out.1.cell 2
          have hq0 := HS.out.2.1.cell 0
          have hq1 := HS.out.2.1.cell 1
          have hq2 := HS.out.2.1.cell 2
          simp only [List.getElem?_toArray, List.getElem?_cons_zero, List.getElem?_cons_succ] at hp0 hp1 hp2 hq0 hq1 hq2
          (refine hK _ _ (fun u hu => by simp only [List.mem_cons, List.not_mem_nil, or_false] at hu; (first | (subst hu; exact reRun_mk rfl (by first | (go_simp; with_reducible rfl) | (go_simp; done)) (holds_at rfl)) | (rcases hu with rfl | rfl <;> exact reRun_mk rfl (by first | (go_simp; with_reducible rfl) | (go_simp; done)) (holds_at rfl)) | (rcases hu with rfl | rfl | rfl <;> exact reRun_mk rfl (by first | (go_simp; with_reducible rfl) | (go_simp; done)) (holds_at rfl)))) ?_; clear hK K; try simp only [Act.put, List.setIfInBounds_toArray, List.set_cons_zero, List.set_cons_succ])
          (repeat (first | (apply can0; (· rfl); (· rfl); (· (intro w'; first | (go_simp; with_reducible rfl) | (go_simp; done))); simp only [Act.put, List.setIfInBounds_toArray, List.set_cons_zero, List.set_cons_succ]) | (apply can1; (· rfl); (· rfl); (· (first | (go_simp; with_reducible rfl) | (go_simp; done))); simp only [Act.put, List.setIfInBounds_toArray, List.set_cons_zero, List.set_cons_succ]) | (apply canN; (· rfl); (· rfl); simp only [Act.put, List.setIfInBounds_toArray, List.set_cons_zero, List.set_cons_succ]) | (apply canN1; (· rfl); (· rfl); simp only [Act.put, List.setIfInBounds_toArray, List.set_cons_zero, List.set_cons_succ]) | (apply can0; (· rfl); (· (go_simp; done)); (· (intro w'; first | (go_simp; with_reducible rfl) | (go_simp; done))); simp only [Act.put, List.setIfInBounds_toArray, List.set_cons_zero, List.set_cons_succ]) | (apply can1; (· rfl); (· (go_simp; done)); (· (first | (go_simp; with_reducible rfl) | (go_simp; done))); simp only [Act.put, List.setIfInBounds_toArray, List.set_cons_zero, List.set_cons_succ]) | (apply canN; (· rfl); (· (go_simp; done)); simp only [Act.put, List.setIfInBounds_toArray, List.set_cons_zero, List.set_cons_succ]) | (apply canN1; (· rfl); (· (go_simp; done)); simp only [Act.put, List.setIfInBounds_toArray, List.set_cons_zero, List.set_cons_succ])))
          refine canE ?_
          go_wp2
          go_ret
          exact ⟨rfl, HS.out.2.2⟩
        · (repeat (first | (apply can0; (· rfl); (· rfl); (· (intro w'; first | (go_simp; with_reducible rfl) | (go_simp; done))); simp only [Act.put, List.setIfInBounds_toArray, List.set_cons_zero, List.set_cons_succ]) | (apply can1; (· rfl); (· rfl); (· (first | (go_simp; with_reducible rfl) | (go_simp; done))); simp only [Act.put, List.setIfInBounds_toArray, List.set_cons_zero, List.set_cons_succ]) | (apply canN; (· rfl); (· rfl); simp only [Act.put, List.setIfInBounds_toArray, List.set_cons_zero, List.set_cons_succ]) | (apply canN1; (· rfl); (· rfl); simp only [Act.put, List.setIfInBounds_toArray, List.set_cons_zero, List.set_cons_succ]) | (apply can0; (· rfl); (· (go_simp; done)); (· (intro w'; first | (go_simp; with_reducible rfl) | (go_simp; done))); simp only [Act.put, List.setIfInBounds_toArray, List.set_cons_zero, List.set_cons_succ]) | (apply can1; (· rfl); (· (go_simp; done)); (· (first | (go_simp; with_reducible rfl) | (go_simp; done))); simp only [Act.put, List.setIfInBounds_toArray, List.set_cons_zero, List.set_cons_succ]) | (apply canN; (· rfl); (· (go_simp; done)); simp only [Act.put, List.setIfInBounds_toArray, List.set_cons_zero, List.set_cons_succ]) | (apply canN1; (· rfl); (· (go_simp; done)); simp only [Act.put, List.setIfInBounds_toArray, List.set_cons_zero, List.set_cons_succ])))
          refine canM rfl [5, 11] rfl rfl (fun u hu => by simp only [List.mem_cons, List.not_mem_nil, or_false] at hu; (first | (subst hu; intro o ho hw; cases ho; cases (hw.symm.trans (show Region.wanted _ _ = false from rfl))) | (rcases hu with rfl | rfl <;> (intro o ho hw; cases ho; cases (hw.symm.trans (show Region.wanted _ _ = false from rfl)))))) ?_
          (repeat (first | (apply can0; (· rfl); (· rfl); (· (intro w'; first | (go_simp; with_reducible rfl) | (go_simp; done))); simp only [Act.put, List.setIfInBounds_toArray, List.set_cons_zero, List.set_cons_succ]) | (apply can1; (· rfl); (· rfl); (· (first | (go_simp; with_reducible rfl) | (go_simp; done))); simp only [Act.put, List.setIfInBounds_toArray, List.set_cons_zero, List.set_cons_succ]) | (apply canN; (· rfl); (· rfl); simp only [Act.put, List.setIfInBounds_toArray, List.set_cons_zero, List.set_cons_succ]) | (apply canN1; (· rfl); (· rfl); simp only [Act.put, List.setIfInBounds_toArray, List.set_cons_zero, List.set_cons_succ]) | (apply can0; (· rfl); (· (go_simp; done)); (· (intro w'; first | (go_simp; with_reducible rfl) | (go_simp; done))); simp only [Act.put, List.setIfInBounds_toArray, List.set_cons_zero, List.set_cons_succ]) | (apply can1; (· rfl); (· (go_simp; done)); (· (first | (go_simp; with_reducible rfl) | (go_simp; done))); simp only [Act.put, List.setIfInBounds_toArray, List.set_cons_zero, List.set_cons_succ]) | (apply canN; (· rfl); (· (go_simp; done)); simp only [Act.put, List.setIfInBounds_toArray, List.set_cons_zero, List.set_cons_succ]) | (apply canN1; (· rfl); (· (go_simp; done)); simp only [Act.put, List.setIfInBounds_toArray, List.set_cons_zero, List.set_cons_succ])))
          refine canM rfl [5, 11] rfl rfl (fun u hu => by simp only [List.mem_cons, List.not_mem_nil, or_false] at hu; (first | (subst hu; intro o ho hw; cases ho; cases (hw.symm.trans (show Region.wanted _ _ = false from rfl))) | (rcases hu with rfl | rfl <;> (intro o ho hw; cases ho; cases (hw.symm.trans (show Region.wanted _ _ = false from rfl)))))) ?_
          (repeat (first | (apply can0; (· rfl); (· rfl); (· (intro w'; first | (go_simp; with_reducible rfl) | (go_simp; done))); simp only [Act.put, List.setIfInBounds_toArray, List.set_cons_zero, List.set_cons_succ]) | (apply can1; (· rfl); (· rfl); (· (first | (go_simp; with_reducible rfl) | (go_simp; done))); simp only [Act.put, List.setIfInBounds_toArray, List.set_cons_zero, List.set_cons_succ]) | (apply canN; (· rfl); (· rfl); simp only [Act.put, List.setIfInBounds_toArray, List.set_cons_zero, List.set_cons_succ]) | (apply canN1; (· rfl); (· rfl); simp only [Act.put, List.setIfInBounds_toArray, List.set_cons_zero, List.set_cons_succ]) | (apply can0; (· rfl); (· (go_simp; done)); (· (intro w'; first | (go_simp; with_reducible rfl) | (go_simp; done))); simp only [Act.put, List.setIfInBounds_toArray, List.set_cons_zero, List.set_cons_succ]) | (apply can1; (· rfl); (· (go_simp; done)); (· (first | (go_simp; with_reducible rfl) | (go_simp; done))); simp only [Act.put, List.setIfInBounds_toArray, List.set_cons_zero, List.set_cons_succ]) | (apply canN; (· rfl); (· (go_simp; done)); simp only [Act.put, List.setIfInBounds_toArray, List.set_cons_zero, List.set_cons_succ]) | (apply canN1; (· rfl); (· (go_simp; done)); simp only [Act.put, List.setIfInBounds_toArray, List.set_cons_zero, List.set_cons_succ])))
          refine canM rfl [11] rfl rfl (fun u hu => by simp only [List.mem_cons, List.not_mem_nil, or_false] at hu; (first | (subst hu; intro o ho hw; cases ho; cases (hw.symm.trans (show Region.wanted _ _ = false from rfl))) | (rcases hu with rfl | rfl <;> (intro o ho hw; cases ho; cases (hw.symm.trans (show Region.wanted _ _ = false from rfl)))))) ?_
          (repeat (first | (apply can0; (· rfl); (· rfl); (· (intro w'; first | (go_simp; with_reducible rfl) | (go_simp; done))); simp only [Act.put, List.setIfInBounds_toArray, List.set_cons_zero, List.set_cons_succ]) | (apply can1; (· rfl); (· rfl); (· (first | (go_simp; with_reducible rfl) | (go_simp; done))); simp only [Act.put, List.setIfInBounds_toArray, List.set_cons_zero, List.set_cons_succ]) | (apply canN; (· rfl); (· rfl); simp only [Act.put, List.setIfInBounds_toArray, List.set_cons_zero, List.set_cons_succ]) | (apply canN1; (· rfl); (· rfl); simp only [Act.put, List.setIfInBounds_toArray, List.set_cons_zero, List.set_cons_succ]) | (apply can0; (· rfl); (· (go_simp; done)); (· (intro w'; first | (go_simp; with_reducible rfl) | (go_simp; done))); simp only [Act.put, List.setIfInBounds_toArray, List.set_cons_zero, List.set_cons_succ]) | (apply can1; (· rfl); (· (go_simp; done)); (· (first | (go_simp; with_reducible rfl) | (go_simp; done))); simp only [Act.put, List.setIfInBounds_toArray, List.set_cons_zero, List.set_cons_succ]) | (apply canN; (· rfl); (· (go_simp; done)); simp only [Act.put, List.setIfInBounds_toArray, List.set_cons_zero, List.set_cons_succ]) | (apply canN1; (· rfl); (· (go_simp; done)); simp only [Act.put, List.setIfInBounds_toArray, List.set_cons_zero, List.set_cons_succ])))
          refine canE ?_
          go_wp2
          go_ret
          exact ⟨rfl, HS.out.2.2⟩
  · have n100 : (100 : Int) < (l2.length : Int) := by omega
    go_wp2_with fail
    go_at_call 6
    refine (sfirst_any _).mono ?_
    rintro e wC ⟨rfl, hwC⟩
    go_wp2
    go_ret
    exact ⟨rfl, HS.out.2.2.trans hwC fun _ _ h => h⟩
end Go.Proofs.Ytkcpgafafbjiaaa
