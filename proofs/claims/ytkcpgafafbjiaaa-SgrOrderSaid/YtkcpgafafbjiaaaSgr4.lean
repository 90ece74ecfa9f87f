/-
  Chapter 9: Apply.
-/
import Derived.Test.YtkcpgafafbjiaaaSgr3
namespace Go.Proofs.Ytkcpgafafbjiaaa
open Go.RowKit
set_option linter.unusedVariables false
set_option linter.unusedSimpArgs false
attribute [local go_sem ↓] run_cut_l run_cut_lh

/-- A look behind params; k: at least as many. -/
def applyR : Nat → (Int × Int × Int) → List Int → (Int × Int × Int)
  | 0, a, _ => a
  | _ + 1, a, [] => a
  | k + 1, a, n :: t =>
    if n ≠ 38 ∧ n ≠ 48 then applyR k (oneF a n) t
    else if usedF t = 0 then a
    else applyR k (if (givenF t).2.2 then (if n = 38 then (a.1, (givenF t).1, a.2.2) else (a.1, a.2.1, (givenF t).1)) else a) (t.drop (usedF t))
def applyF (a : Int × Int × Int) (l : List Int) : Int × Int × Int := if l = [] then (0, 0, 0) else applyR l.length a l
theorem givenF_used (l : List Int) : (givenF l).2.1 = usedF l := by
  unfold givenF; split
  · rename_i h; rw [h]
  · split <;> rfl
theorem usedF_le (l : List Int) : usedF l ≤ l.length := by unfold usedF; (repeat' split) <;> omega
theorem applyR_nil (k : Nat) (a : Int × Int × Int) : applyR k a [] = a := by cases k <;> rfl

theorem set3 {w : World} {b : Nat} {t : TypeId} {x0 x1 x2 : Value} (h : Blk w b t #[x0, x1, x2]) (u0 u1 u2 : Value) : Blk (((w.setCell ⟨b, 0, none⟩ u0).setCell ⟨b, 1, none⟩ u1).setCell ⟨b, 2, none⟩ u2) b t #[u0, u1, u2] := by
  have := ((h.set 0 u0).set 1 u1).set 2 u2
  simpa using this
theorem chg3 {w0 w : World} {b : Nat} (h : Chg w0 w nob) (hb : w0.heap.size ≤ b) (u0 u1 u2 : Value) : Chg w0 (((w.setCell ⟨b, 0, none⟩ u0).setCell ⟨b, 1, none⟩ u1).setCell ⟨b, 2, none⟩ u2) nob := ((h.setCell (p := ⟨b, 0, none⟩) (.inr hb) u0).setCell (p := ⟨b, 1, none⟩) (.inr hb) u1).setCell (p := ⟨b, 2, none⟩) (.inr hb) u2
theorem other3 {w : World} {b c : Nat} {t : TypeId} {cs : Array Value} (h : Blk w c t cs) (hn : c ≠ b) (u0 u1 u2 : Value) : Blk (((w.setCell ⟨b, 0, none⟩ u0).setCell ⟨b, 1, none⟩ u1).setCell ⟨b, 2, none⟩ u2) c t cs := ((h.other (p := ⟨b, 0, none⟩) hn u0).other (p := ⟨b, 1, none⟩) hn u1).other (p := ⟨b, 2, none⟩) hn u2
/-- The loop's state. -/
def AL (w wr : World) (p q : Nat) (a : Int × Int × Int) (R : List Int) (v : Value) : Prop :=
  Rd w 1 v R.length (intI R) ∧ (∀ x ∈ R, -9223372036854775808 ≤ x ∧ x ≤ 9223372036854775807) ∧ Blk wr p 23 #[.int .i64 a.1, .int .i64 a.2.1, .int .i64 a.2.2] ∧ Blk wr q 23 #[.int .i64 0, .int .i64 0, .int .i64 0] ∧ Chg w wr nob

set_option maxRecDepth 100000 in
set_option maxHeartbeats 8000000 in
theorem apply_any (w : World) (f g b : Int) (va : Value) (l : List Int) (ha : Rd w 1 va l.length (intI l)) (hb : ∀ x ∈ l, -9223372036854775808 ≤ x ∧ x ≤ 9223372036854775807) (hl : l.length ≤ 1000000) :
    Calls Try.prog 9 #[lookV f g b, va] w fun e w' => e = .returned (lookV (applyF (f, g, b) l).1 (applyF (f, g, b) l).2.1 (applyF (f, g, b) l).2.2) ∧ Chg w w' nob := by
  obtain ⟨ao, cap, rfl, hcap, _⟩ := ha.form
  by_cases h0 : l = []
  · subst h0
    have e : applyF (f, g, b) [] = (0, 0, 0) := rfl
    rw [e]
    clear hb ha
    go_enter Try.func9, Try.ntmps9
    go_wp2
    go_returns
    exact ⟨rfl, ((Chg.refl w nob).alloc _).alloc _⟩
  · have e : applyF (f, g, b) l = applyR l.length (f, g, b) l := by unfold applyF; rw [if_neg h0]
    rw [e]
    clear e
    obtain ⟨T, hT⟩ : ∃ T, applyR l.length (f, g, b) l = T := ⟨_, rfl⟩
    rw [hT]
    have HT := Lib.hid hT
    have hlz : ((l.length : Int) == 0) = false := by simp; exact h0
    clear hT h0
    have hI : Hid (AL w ((w.alloc (.cells #[.int .i64 f, .int .i64 g, .int .i64 b] 23)).alloc (.cells #[.int .i64 0, .int .i64 0, .int .i64 0] 23)) w.heap.size (w.heap.size + 1) (f, g, b) l (.slice ao l.length cap)) := Lib.hid ⟨ha, hb, (Blk.new w _ _).alloc _, by
      have h := Blk.new (w.alloc (.cells #[.int .i64 f, .int .i64 g, .int .i64 b] 23)) 23 #[.int .i64 0, .int .i64 0, .int .i64 0]
      rw [size_al] at h
      exact h, ((Chg.refl w nob).alloc _).alloc _⟩
    clear ha hb
    go_enter Try.func9, Try.ntmps9
    go_wp2_with fail
    generalize hq : w.heap.size + 1 = q at *
    obtain ⟨p, hp⟩ : ∃ p, w.heap.size = p := ⟨_, rfl⟩
    rw [hp] at hI ⊢
    have HPQ : Hid (w.heap.size ≤ p ∧ w.heap.size ≤ q ∧ p ≠ q) := Lib.hid (by omega)
    clear hp hq
    generalize (w.alloc (.cells #[.int .i64 f, .int .i64 g, .int .i64 b] 23)).alloc (.cells #[.int .i64 0, .int .i64 0, .int .i64 0] 23) = wA at *
    go_loopw [1] (fun v wr => ∃ (R : List Int) (a : Int × Int × Int) (k : Nat), R.length ≤ k ∧ R.length ≤ 1000000 ∧ (∃ ar cr, v = .slice ar R.length cr) ∧ Hid (AL w wr p q a R v) ∧ Hid (applyR k a R = T)) (fun v _ => match v with | .slice _ n _ => n | _ => 0)
    case atStart => exact ⟨l, (f, g, b), l.length, Nat.le_refl _, hl, ⟨_, _, rfl⟩, hI, HT⟩
    case round =>
      obtain ⟨R, ⟨f', g', b'⟩, k, hk, hRl, ⟨ar, cr, rfl⟩, HI, HR⟩ := hrel
      clear hI
      have hpc : ∀ j, wr.frozen? ⟨p, j, none⟩ = false := fun j => HI.out.2.2.1.free j
      have hqc : ∀ j, wr.frozen? ⟨q, j, none⟩ = false := fun j => HI.out.2.2.2.1.free j
      have hp0 : wr.cell? ⟨p, 0, none⟩ = some (.int .i64 f') := by rw [HI.out.2.2.1.cell]; rfl
      have hp1 : wr.cell? ⟨p, 1, none⟩ = some (.int .i64 g') := by rw [HI.out.2.2.1.cell]; rfl
      have hp2 : wr.cell? ⟨p, 2, none⟩ = some (.int .i64 b') := by rw [HI.out.2.2.1.cell]; rfl
      have hq0 : wr.cell? ⟨q, 0, none⟩ = some (.int .i64 0) := by rw [HI.out.2.2.2.1.cell]; rfl
      have hq1 : wr.cell? ⟨q, 1, none⟩ = some (.int .i64 0) := by rw [HI.out.2.2.2.1.cell]; rfl
      have hq2 : wr.cell? ⟨q, 2, none⟩ = some (.int .i64 0) := by rw [HI.out.2.2.2.1.cell]; rfl
      have hf0 := hpc 0
      have hf1 := hpc 1
      have hf2 := hpc 2
      have he0 := hqc 0
      have he1 := hqc 1
      have he2 := hqc 2
      clear hpc hqc
      cases R with
      | nil =>
        have ht : Hid (T = (f', g', b')) := Lib.hid (by rw [← HR.out, applyR_nil])
        obtain ⟨T1, T2, T3⟩ := T
        obtain ⟨rfl, rfl, rfl⟩ : T1 = f' ∧ T2 = g' ∧ T3 = b' := by have := ht.out; simpa using this
        go_wp2
        have hz := set3 HI.out.2.2.2.1 (.int .i64 T1) (.int .i64 T2) (.int .i64 T3)
        have hcz := chg3 HI.out.2.2.2.2 HPQ.out.2.1 (.int .i64 T1) (.int .i64 T2) (.int .i64 T3)
        generalize ((wr.setCell ⟨q, 0, none⟩ (.int .i64 T1)).setCell ⟨q, 1, none⟩ (.int .i64 T2)).setCell ⟨q, 2, none⟩ (.int .i64 T3) = wz at *
        have z0 : wz.cell? ⟨q, 0, none⟩ = some (.int .i64 T1) := by rw [hz.cell]; rfl
        have z1 : wz.cell? ⟨q, 1, none⟩ = some (.int .i64 T2) := by rw [hz.cell]; rfl
        have z2 : wz.cell? ⟨q, 2, none⟩ = some (.int .i64 T3) := by rw [hz.cell]; rfl
        have HCZ := Lib.hid hcz
        clear hz hcz
        refine bodyPost_ret (v := lookV T1 T2 T3) (by simp [results, Try.results9, go_sem, z0, z1, z2]) rfl ?_
        exact ⟨rfl, HCZ.out⟩
      | cons n t =>
        obtain ⟨k', rfl⟩ : ∃ k', k = k' + 1 := ⟨k - 1, by simp at hk; omega⟩
        obtain ⟨g0, o0, rfl, hc0⟩ := HI.out.1.cell (j := 0) (u := .int .i64 n) rfl
        have hcn := HI.out.2.2.2.2.cell hc0 id
        simp only [Nat.add_zero] at hcn
        have hnb := HI.out.2.1 n (by simp)
        have hRt : Rd w 1 (.slice (addS (some ⟨g0, o0, none⟩) cr 1) t.length (cr - 1)) t.length (intI t) := by
          have h := HI.out.1.cut (l := 1) (m := t.length + 1) (by omega) (by simp)
          rw [List.take_of_length_le (by simp [intI])] at h
          simpa [intI] using h
        have HRT := Lib.hid hRt
        have htb : Hid (∀ x ∈ t, -9223372036854775808 ≤ x ∧ x ≤ 9223372036854775807) := Lib.hid (fun x hx => HI.out.2.1 x (by simp [hx]))
        have HBP := Lib.hid HI.out.2.2.1
        have HBQ := Lib.hid HI.out.2.2.2.1
        have HCW := Lib.hid HI.out.2.2.2.2
        have htl : t.length ≤ k' ∧ t.length + 1 ≤ 1000000 := by simp at hk hRl; omega
        clear hRt hc0 HI hk hRl hq0 hq1 hq2 he0 he1 he2
        generalize hm : (n :: t).length = m at *
        have hmt : m = t.length + 1 := by rw [← hm]; simp
        have hm0 : (0 : Int) < (m : Int) := by omega
        have hm1 : (1 : Int) ≤ (m : Int) := by omega
        have hm2 : 1 ≤ m := by omega
        have hm3 : 0 < m := by omega
        have HMT : Hid (m - 1 = t.length) := Lib.hid (by omega)
        clear hm hmt
        by_cases hn : n ≠ 38 ∧ n ≠ 48
        · have n1 : (n != 38) = true := by simp; exact hn.1
          have n2 : (n != 48) = true := by simp; exact hn.2
          obtain ⟨⟨x, y, z⟩, h2⟩ : ∃ a2, oneF (f', g', b') n = a2 := ⟨_, rfl⟩
          have HR2 : Hid (applyR k' (x, y, z) t = T) := Lib.hid (by rw [← HR.out, applyR, if_pos hn, h2])
          have H2 := Lib.hid h2
          clear h2 hn
          go_wp2_with fail
          go_at_call 16
          refine (one_any wr f' g' b' n hnb).mono ?_
          rw [H2.out]
          rintro e w1 ⟨rfl, hc1⟩
          have hb1 := HBP.out.kept hc1 id
          have hq1 := HBQ.out.kept hc1 id
          have hw1 := HCW.out.trans hc1 fun _ _ h => h
          have hp0 : w1.cell? ⟨p, 0, none⟩ = some (.int .i64 f') := by rw [hb1.cell]; rfl
          have hp1 : w1.cell? ⟨p, 1, none⟩ = some (.int .i64 g') := by rw [hb1.cell]; rfl
          have hp2 : w1.cell? ⟨p, 2, none⟩ = some (.int .i64 b') := by rw [hb1.cell]; rfl
          have hf0 := hb1.free 0
          have hf1 := hb1.free 1
          have hf2 := hb1.free 2
          have HAL : Hid (AL w (((w1.setCell ⟨p, 0, none⟩ (.int .i64 x)).setCell ⟨p, 1, none⟩ (.int .i64 y)).setCell ⟨p, 2, none⟩ (.int .i64 z)) p q (x, y, z) t (.slice (addS (some ⟨g0, o0, none⟩) cr 1) t.length (cr - 1))) := Lib.hid ⟨HRT.out, htb.out, set3 hb1 _ _ _, other3 hq1 (fun e => HPQ.out.2.2 e.symm) _ _ _, chg3 hw1 HPQ.out.1 _ _ _⟩
          clear hb1 hq1 hw1 hc1
          go_wp2
          go_roundw
          case rel => exact ⟨t, (x, y, z), k', htl.1, by omega, ⟨_, _, by rw [HMT.out]⟩, by rw [HMT.out]; exact HAL, HR2⟩
          case measure => show m - 1 < m; omega
        · have hn' : n = 38 ∨ n = 48 := by omega
          obtain ⟨⟨c, u, ok⟩, hg⟩ : ∃ r, givenF t = r := ⟨_, rfl⟩
          have hu : usedF t = u := by rw [← givenF_used, hg]
          have HG := Lib.hid hg
          have HU := Lib.hid hu
          have HUL : Hid (u ≤ t.length) := Lib.hid (by rw [← hu]; exact usedF_le t)
          clear hg hu hn
          rcases hn' with hn | hn
          · subst hn
            go_wp2_with fail
            rw [HMT.out]
            go_at_call 17
            refine (given_any wr _ t (HRT.out.kept HCW.out (fun _ _ => id)) htb.out (by omega)).mono ?_
            rw [HG.out]
            rintro e w1 ⟨rfl, rfl⟩
            by_cases hu0 : u = 0
            · subst hu0
              have hT : Hid (T = (f', g', b')) := Lib.hid (by rw [← HR.out, applyR, if_neg (by decide), if_pos HU.out])
              have hq0 : w1.cell? ⟨q, 0, none⟩ = some (.int .i64 0) := by rw [HBQ.out.cell]; rfl
              have hq1 : w1.cell? ⟨q, 1, none⟩ = some (.int .i64 0) := by rw [HBQ.out.cell]; rfl
              have hq2 : w1.cell? ⟨q, 2, none⟩ = some (.int .i64 0) := by rw [HBQ.out.cell]; rfl
              have he0 := HBQ.out.free 0
              have he1 := HBQ.out.free 1
              have he2 := HBQ.out.free 2
              go_wp2
              have hz := set3 HBQ.out (.int .i64 f') (.int .i64 g') (.int .i64 b')
              have hcz := chg3 HCW.out HPQ.out.2.1 (.int .i64 f') (.int .i64 g') (.int .i64 b')
              generalize ((w1.setCell ⟨q, 0, none⟩ (.int .i64 f')).setCell ⟨q, 1, none⟩ (.int .i64 g')).setCell ⟨q, 2, none⟩ (.int .i64 b') = wz at *
              have z0 : wz.cell? ⟨q, 0, none⟩ = some (.int .i64 f') := by rw [hz.cell]; rfl
              have z1 : wz.cell? ⟨q, 1, none⟩ = some (.int .i64 g') := by rw [hz.cell]; rfl
              have z2 : wz.cell? ⟨q, 2, none⟩ = some (.int .i64 b') := by rw [hz.cell]; rfl
              have HCZ := Lib.hid hcz
              clear hz hcz
              refine bodyPost_ret (v := lookV f' g' b') (by simp [results, Try.results9, go_sem, z0, z1, z2]) rfl ?_
              exact ⟨by rw [hT.out], HCZ.out⟩
            · have hub : ((u : Int) == 0) = false := by simp; exact hu0
              have hul := HUL.out
              have huc : (u : Int) ≤ (t.length : Int) := by omega
              have hu1 : (0 : Int) ≤ (u : Int) := by omega
              have hdr : Hid (Rd w 1 (.slice (addS (addS (some ⟨g0, o0, none⟩) cr 1) (cr - 1) u) (t.length - u) (cr - 1 - u)) (t.drop u).length (intI (t.drop u))) := by
                have h := HRT.out.cut (l := u) (m := t.length) (by omega) (Nat.le_refl _)
                rw [List.take_of_length_le (by simp [intI])] at h
                unfold Hid
                rw [List.length_drop]
                simpa [intI, List.map_drop] using h
              have hdb : Hid (∀ x ∈ t.drop u, -9223372036854775808 ≤ x ∧ x ≤ 9223372036854775807) := Lib.hid (fun x hx => htb.out x (List.mem_of_mem_drop hx))
              have hdl : (t.drop u).length = t.length - u := List.length_drop
              have HDL := Lib.hid hdl
              have hdk : t.length - u ≤ k' := by omega
              have HLT : Hid (t.length - u < m) := Lib.hid (by have := HMT.out; omega)
              clear hdl
              cases ok
              · have HR2 : Hid (applyR k' (f', g', b') (t.drop u) = T) := Lib.hid (by rw [← HR.out, applyR, if_neg (by decide), HU.out, if_neg hu0, HG.out]; rfl)
                go_wp2
                go_roundw
                case rel => exact ⟨t.drop u, (f', g', b'), k', by rw [HDL.out]; exact hdk, by rw [HDL.out]; omega, ⟨_, _, by rw [HDL.out]⟩, ⟨hdr.out, hdb.out, HBP.out, HBQ.out, HCW.out⟩, HR2⟩
                case measure => exact HLT.out
              · have HR2 : Hid (applyR k' (f', c, b') (t.drop u) = T) := Lib.hid (by rw [← HR.out, applyR, if_neg (by decide), HU.out, if_neg hu0, HG.out]; rfl)
                go_wp2
                go_roundw
                case rel => exact ⟨t.drop u, (f', c, b'), k', by rw [HDL.out]; exact hdk, by rw [HDL.out]; omega, ⟨_, _, by rw [HDL.out]⟩, ⟨hdr.out, hdb.out, HBP.out.set 1 _, HBQ.out.other (p := ⟨p, 1, none⟩) (fun e => HPQ.out.2.2 e.symm) _, HCW.out.setCell (p := ⟨p, 1, none⟩) (.inr HPQ.out.1) _⟩, HR2⟩
                case measure => exact HLT.out
          · subst hn
            go_wp2_with fail
            rw [HMT.out]
            go_at_call 17
            refine (given_any wr _ t (HRT.out.kept HCW.out (fun _ _ => id)) htb.out (by omega)).mono ?_
            rw [HG.out]
            rintro e w1 ⟨rfl, rfl⟩
            by_cases hu0 : u = 0
            · subst hu0
              have hT : Hid (T = (f', g', b')) := Lib.hid (by rw [← HR.out, applyR, if_neg (by decide), if_pos HU.out])
              have hq0 : w1.cell? ⟨q, 0, none⟩ = some (.int .i64 0) := by rw [HBQ.out.cell]; rfl
              have hq1 : w1.cell? ⟨q, 1, none⟩ = some (.int .i64 0) := by rw [HBQ.out.cell]; rfl
              have hq2 : w1.cell? ⟨q, 2, none⟩ = some (.int .i64 0) := by rw [HBQ.out.cell]; rfl
              have he0 := HBQ.out.free 0
              have he1 := HBQ.out.free 1
              have he2 := HBQ.out.free 2
              go_wp2
              have hz := set3 HBQ.out (.int .i64 f') (.int .i64 g') (.int .i64 b')
              have hcz := chg3 HCW.out HPQ.out.2.1 (.int .i64 f') (.int .i64 g') (.int .i64 b')
              generalize ((w1.setCell ⟨q, 0, none⟩ (.int .i64 f')).setCell ⟨q, 1, none⟩ (.int .i64 g')).setCell ⟨q, 2, none⟩ (.int .i64 b') = wz at *
              have z0 : wz.cell? ⟨q, 0, none⟩ = some (.int .i64 f') := by rw [hz.cell]; rfl
              have z1 : wz.cell? ⟨q, 1, none⟩ = some (.int .i64 g') := by rw [hz.cell]; rfl
              have z2 : wz.cell? ⟨q, 2, none⟩ = some (.int .i64 b') := by rw [hz.cell]; rfl
              have HCZ := Lib.hid hcz
              clear hz hcz
              refine bodyPost_ret (v := lookV f' g' b') (by simp [results, Try.results9, go_sem, z0, z1, z2]) rfl ?_
              exact ⟨by rw [hT.out], HCZ.out⟩
            · have hub : ((u : Int) == 0) = false := by simp; exact hu0
              have hul := HUL.out
              have huc : (u : Int) ≤ (t.length : Int) := by omega
              have hu1 : (0 : Int) ≤ (u : Int) := by omega
              have hdr : Hid (Rd w 1 (.slice (addS (addS (some ⟨g0, o0, none⟩) cr 1) (cr - 1) u) (t.length - u) (cr - 1 - u)) (t.drop u).length (intI (t.drop u))) := by
                have h := HRT.out.cut (l := u) (m := t.length) (by omega) (Nat.le_refl _)
                rw [List.take_of_length_le (by simp [intI])] at h
                unfold Hid
                rw [List.length_drop]
                simpa [intI, List.map_drop] using h
              have hdb : Hid (∀ x ∈ t.drop u, -9223372036854775808 ≤ x ∧ x ≤ 9223372036854775807) := Lib.hid (fun x hx => htb.out x (List.mem_of_mem_drop hx))
              have hdl : (t.drop u).length = t.length - u := List.length_drop
              have HDL := Lib.hid hdl
              have hdk : t.length - u ≤ k' := by omega
              have HLT : Hid (t.length - u < m) := Lib.hid (by have := HMT.out; omega)
              clear hdl
              cases ok
              · have HR2 : Hid (applyR k' (f', g', b') (t.drop u) = T) := Lib.hid (by rw [← HR.out, applyR, if_neg (by decide), HU.out, if_neg hu0, HG.out]; rfl)
                go_wp2
                go_roundw
                case rel => exact ⟨t.drop u, (f', g', b'), k', by rw [HDL.out]; exact hdk, by rw [HDL.out]; omega, ⟨_, _, by rw [HDL.out]⟩, ⟨hdr.out, hdb.out, HBP.out, HBQ.out, HCW.out⟩, HR2⟩
                case measure => exact HLT.out
              · have HR2 : Hid (applyR k' (f', g', c) (t.drop u) = T) := Lib.hid (by rw [← HR.out, applyR, if_neg (by decide), HU.out, if_neg hu0, HG.out]; rfl)
                go_wp2
                go_roundw
                case rel => exact ⟨t.drop u, (f', g', c), k', by rw [HDL.out]; exact hdk, by rw [HDL.out]; omega, ⟨_, _, by rw [HDL.out]⟩, ⟨hdr.out, hdb.out, HBP.out.set 2 _, HBQ.out.other (p := ⟨p, 2, none⟩) (fun e => HPQ.out.2.2 e.symm) _, HCW.out.setCell (p := ⟨p, 2, none⟩) (.inr HPQ.out.1) _⟩, HR2⟩
                case measure => exact HLT.out
end Go.Proofs.Ytkcpgafafbjiaaa
