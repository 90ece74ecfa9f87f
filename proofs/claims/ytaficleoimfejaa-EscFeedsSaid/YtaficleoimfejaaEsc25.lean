/-
  Chapter 8, the document's answer: control's event.
-/
import Derived.Test.YtaficleoimfejaaEsc24
namespace Go.Proofs.Ytaficleoimfejaa
open Go.RowKit
set_option linter.unusedVariables false
set_option linter.unusedSimpArgs false
attribute [local go_sem ↓] run_min_two run_max_two run_cut_h



theorem RR.set0 {w : World} {x : Nat} {s : RS} {F : Nat → Prop} (h : RR w x s F) (n : Int) : RR (w.setCell ⟨x, 0, none⟩ (.int .i64 n)) x { s with st := n } F := by
  obtain ⟨vp, vt, hb, h1, h2, h6⟩ := h
  exact ⟨vp, vt, hb.set 0 _, Own.setOther (p := ⟨x, 0, none⟩) h1 (fun e => h1.ne hb (by decide) e) _, Own.setOther (p := ⟨x, 0, none⟩) h2 (fun e => h2.ne hb (by decide) e) _, h6⟩
theorem Own.empty (w : World) (e : TypeId) (size : Nat) : Own (w.alloc (.cells #[] e)) e size (.slice (some ⟨w.heap.size, 0, none⟩) 0 0) 0 [] :=
  ⟨by simp, .inr ⟨w.heap.size, 0, #[], rfl, Nat.zero_le _, Blk.new w _ _, Nat.le_refl _, by unfold maxLen; omega, by simp, by simp⟩⟩
/-- One event, its params in a new row. -/
theorem RO.litp {x : Nat} {s : RS} {F : Nat → Prop} {w w1 : World} (hc : Chg w w1 F) (hP : RR w1 x s F) (hFw : ∀ k, F k → k < w.heap.size) (ev : Ev) (pv : Value) (hr : Rd w1 1 pv ev.ps.length (intI ev.ps)) (hpv : ∀ k, blkOf pv k → w.heap.size ≤ k ∧ k < w1.heap.size)
    (cs : Array Value) (hcs : cs = (evc (ev, pv)).toArray) (n : Nat) (hn : n = w1.heap.size) : RO x s [ev] F w (w1.alloc (.cells cs 50)) (.slice (some ⟨n, 0, none⟩) 1 1) := by
  subst hcs hn
  refine ⟨hc.alloc _, F, fun k => blkOf pv k, fun k => k = w1.heap.size, hP.kept ((Chg.refl w1 nob).alloc _) (fun _ _ => id), ⟨[(ev, pv)], rfl, ?_, fun y hy => ?_, fun k hk => by cases hk; rfl⟩, fun k hk => .inl hk, fun k hk => ?_, fun k hk => ?_⟩
  · exact ⟨rfl, .inr ⟨w1.heap.size, 1, (evc (ev, pv)).toArray, rfl, Nat.zero_le _, Blk.new w1 _ _, Nat.le_refl _, by unfold maxLen; omega, rfl, by simp [evc]⟩⟩
  · rw [List.mem_singleton] at hy
    subst hy
    exact ⟨hr.alloc _, fun k hk => hk⟩
  · have h1 := hpv k hk
    exact ⟨h1.1, fun h => by have := hFw k h; omega, by rw [size_al]; omega, fun e => by have e' : k = w1.heap.size := e; omega⟩
  · have hk' : k = w1.heap.size := hk
    subst hk'
    exact ⟨hc.size, fun h => by have := hP.lt h; omega, by simp⟩
set_option maxRecDepth 100000 in
set_option maxHeartbeats 4000000 in
theorem refcontrol_e {w : World} {x : Nat} {s : RS} {F : Nat → Prop} (h : RR w x s F) (hl : s.params.length ≤ 1000000) (hp : s.params ≠ []) (r : Int) (h64 : 64 ≤ r) (h126 : r ≤ 126) :
    Calls Try.prog 30 #[.pointer (some ⟨x, 0, none⟩), .int .i32 r] w fun e w' => ∃ v, e = .returned v ∧ RO x (refControl s r).1 (refControl s r).2 F w w' v := by
  have H := Lib.hid h
  have HPN := Lib.hid hp
  have HFW := Lib.hid (fun k hk => h.lt (k := k) hk)
  have hll := hl
  clear h hp
  have h' := H.out
  obtain ⟨vp, vt, hb, i1, i2, i6⟩ := h'
  obtain ⟨ao, cap, rfl, hcap, hmax, hnone, hsome⟩ := i1.form
  have hp1 : w.cell? ⟨x, 1, none⟩ = some (.slice ao s.params.length cap) := by rw [hb.cell]; rfl
  have hk0 : IntKind.i64.wrap ((s.params.length : Int) - 1) = (s.params.length : Int) - 1 := wraps_i64 _ (by omega) (by omega)
  clear hb i1 i2 i6 hnone hsome hcap hmax hl
  have q0 : ¬ r < 32 := by omega
  have q1 : ¬ r ≤ 47 := by omega
  have q2 : ¬ r ≤ 57 := by omega
  have q3 : (r == 59) = false := by simp; omega
  have q4 : (r == 58) = false := by simp; omega
  have q5 : ¬ r ≤ 63 := by omega
  rw [show refControl s r = ({ s with st := 0 }, if s.sp = true then [] else [⟨4, 0, if s.any = true then s.params.take 16 else [], s.priv, s.inter, r, .empty⟩]) by unfold refControl; rw [if_neg q0, if_neg q1, if_neg q2, if_neg (by omega), if_neg q5, if_pos h126]]
  obtain ⟨nc0, nc2, nc3, nc4, nc5, nf0, nf2, nf3, nf4, nf5⟩ := H.out.nums
  obtain ⟨st, params, any, sp, priv, inter, text⟩ := s
  cases sp with
  | true =>
    rw [if_pos rfl]
    go_enter Try.func30, Try.ntmps30
    go_wp2
    go_ret
    exact ⟨_, rfl, RO.nil (H.out.num _ rfl rfl (rchg1 _ _ _ _) (fun vp vt hb => hb.set 0 _))⟩
  | false =>
    rw [if_neg (by simp)]
    go_enter Try.func30, Try.ntmps30
    go_upto_region 23 with (fail)
    obtain ⟨wb, hwb⟩ : ∃ wb, w.setCell ⟨x, 0, none⟩ (.int .i64 0) = wb := ⟨_, rfl⟩
    have hRb : RR wb x ⟨0, params, any, false, priv, inter, text⟩ F := by rw [← hwb]; exact H.out.set0 0
    have hcb : Chg w wb F := by
      rw [← hwb]
      obtain ⟨vp, vt, hb, h1, h2, h6⟩ := H.out
      exact Chg.setCell (p := ⟨x, 0, none⟩) (Chg.refl w F) (.inl ((h6 x).2 (.inl rfl))) _
    rw [hwb]
    have HRB := Lib.hid hRb
    have HCB := Lib.hid hcb
    have hsw : wb.heap.size = w.heap.size := by rw [← hwb]; simp [World.setCell]
    have HSW := Lib.hid hsw
    clear hRb hcb hwb hsw nc0 nc2 nc3 nc4 nc5 nf0 nf2 nf3 nf4 nf5 hp1 hk0
    obtain ⟨nc0, nc2, nc3, nc4, nc5, -, -, -, -, -⟩ := HRB.out.nums
    simp only at nc0 nc2 nc3 nc4 nc5
    refine wp_one [3, 7] [10, 11] [(10, [3, 7])] [0, 1, 2, 3, 4, 5, 6, 7, 8, 9, 10, 11] rfl (by kernel_rfl) (fun _ _ _ _ _ h => h) ?_; simp only [List.map_cons, List.map_nil, List.getElem?_toArray, List.getElem?_cons_zero, List.getElem?_cons_succ]
    (repeat (first | (apply can0; (· rfl); (· rfl); (· (intro w'; first | (go_simp; with_reducible rfl) | (go_simp; done))); simp only [Act.put, List.setIfInBounds_toArray, List.set_cons_zero, List.set_cons_succ]) | (apply can1; (· rfl); (· rfl); (· (first | (go_simp; with_reducible rfl) | (go_simp; done))); simp only [Act.put, List.setIfInBounds_toArray, List.set_cons_zero, List.set_cons_succ]) | (apply canN; (· rfl); (· rfl); simp only [Act.put, List.setIfInBounds_toArray, List.set_cons_zero, List.set_cons_succ]) | (apply canN1; (· rfl); (· rfl); simp only [Act.put, List.setIfInBounds_toArray, List.set_cons_zero, List.set_cons_succ]) | (apply can0; (· rfl); (· (go_simp; done)); (· (intro w'; first | (go_simp; with_reducible rfl) | (go_simp; done))); simp only [Act.put, List.setIfInBounds_toArray, List.set_cons_zero, List.set_cons_succ]) | (apply can1; (· rfl); (· (go_simp; done)); (· (first | (go_simp; with_reducible rfl) | (go_simp; done))); simp only [Act.put, List.setIfInBounds_toArray, List.set_cons_zero, List.set_cons_succ]) | (apply canN; (· rfl); (· (go_simp; done)); simp only [Act.put, List.setIfInBounds_toArray, List.set_cons_zero, List.set_cons_succ]) | (apply canN1; (· rfl); (· (go_simp; done)); simp only [Act.put, List.setIfInBounds_toArray, List.set_cons_zero, List.set_cons_succ])))
    refine canW rfl [3, 7] rfl (fun K hK => ?_)
    go_simp
    have np4 : (wb.alloc (.cells zeroE 50)).cell? ⟨x, 4, none⟩ = some (.int .i32 priv) := ((Chg.refl wb nob).alloc _).cell nc4 id
    have np5 : (wb.alloc (.cells zeroE 50)).cell? ⟨x, 5, none⟩ = some (.int .i32 inter) := ((Chg.refl wb nob).alloc _).cell nc5 id
    (refine hK _ _ (fun u hu => by simp only [List.mem_cons, List.not_mem_nil, or_false] at hu; (first | (subst hu; exact reRun_mk rfl (by first | (go_simp; with_reducible rfl) | (go_simp; done)) (holds_at rfl)) | (rcases hu with rfl | rfl <;> exact reRun_mk rfl (by first | (go_simp; with_reducible rfl) | (go_simp; done)) (holds_at rfl)) | (rcases hu with rfl | rfl | rfl <;> exact reRun_mk rfl (by first | (go_simp; with_reducible rfl) | (go_simp; done)) (holds_at rfl)))) ?_; clear hK K; try simp only [Act.put, List.setIfInBounds_toArray, List.set_cons_zero, List.set_cons_succ])
    (repeat (first | (apply can0; (· rfl); (· rfl); (· (intro w'; first | (go_simp; with_reducible rfl) | (go_simp; done))); simp only [Act.put, List.setIfInBounds_toArray, List.set_cons_zero, List.set_cons_succ]) | (apply can1; (· rfl); (· rfl); (· (first | (go_simp; with_reducible rfl) | (go_simp; done))); simp only [Act.put, List.setIfInBounds_toArray, List.set_cons_zero, List.set_cons_succ]) | (apply canN; (· rfl); (· rfl); simp only [Act.put, List.setIfInBounds_toArray, List.set_cons_zero, List.set_cons_succ]) | (apply canN1; (· rfl); (· rfl); simp only [Act.put, List.setIfInBounds_toArray, List.set_cons_zero, List.set_cons_succ]) | (apply can0; (· rfl); (· (go_simp; done)); (· (intro w'; first | (go_simp; with_reducible rfl) | (go_simp; done))); simp only [Act.put, List.setIfInBounds_toArray, List.set_cons_zero, List.set_cons_succ]) | (apply can1; (· rfl); (· (go_simp; done)); (· (first | (go_simp; with_reducible rfl) | (go_simp; done))); simp only [Act.put, List.setIfInBounds_toArray, List.set_cons_zero, List.set_cons_succ]) | (apply canN; (· rfl); (· (go_simp; done)); simp only [Act.put, List.setIfInBounds_toArray, List.set_cons_zero, List.set_cons_succ]) | (apply canN1; (· rfl); (· (go_simp; done)); simp only [Act.put, List.setIfInBounds_toArray, List.set_cons_zero, List.set_cons_succ])))
    refine canW rfl [] rfl (fun K hK => ?_)
    go_simp
    (refine hK _ _ (fun u hu => by cases hu) ?_; clear hK K; try simp only [Act.put, List.setIfInBounds_toArray, List.set_cons_zero, List.set_cons_succ])
    refine canE ?_
    obtain ⟨wd, hwd⟩ : ∃ wd, (wb.alloc (.cells #[.int .i64 4, .int .i32 0, .slice none 0 0, .int .i32 priv, .int .i32 inter, .int .i32 r, .string ⟨#[]⟩] 50)).drew = wd := ⟨_, rfl⟩
    rw [hwd]
    have hbe : Blk wd wb.heap.size 50 #[.int .i64 4, .int .i32 0, .slice none 0 0, .int .i32 priv, .int .i32 inter, .int .i32 r, .string ⟨#[]⟩] := by rw [← hwd]; exact Blk.new wb _ _
    have hcd : Chg wb wd nob := by rw [← hwd]; exact ((Chg.refl wb nob).alloc _).drew
    have HBE := Lib.hid hbe
    have HRD := Lib.hid (HRB.out.kept hcd (fun _ _ => id))
    have HCD := Lib.hid (HCB.out.trans hcd (fun _ _ h => h.elim))
    have HCBD := Lib.hid hcd
    clear hwd hcd np4 np5 nc0 nc2 nc3 nc4 nc5 hbe
    obtain ⟨nc0, nc2, nc3, nc4, nc5, -, -, -, -, -⟩ := HRD.out.nums
    simp only at nc0 nc2 nc3 nc4 nc5
    cases any with
    | false =>
      have he0 := HBE.out.cell 0
      have he1 := HBE.out.cell 1
      have he2 := HBE.out.cell 2
      have he3 := HBE.out.cell 3
      have he4 := HBE.out.cell 4
      have he5 := HBE.out.cell 5
      have he6 := HBE.out.cell 6
      simp only [List.getElem?_toArray, List.getElem?_cons_zero, List.getElem?_cons_succ] at he0 he1 he2 he3 he4 he5 he6
      go_wp2
      go_ret
      exact ⟨_, rfl, RO.litp HCD.out HRD.out HFW.out ⟨4, 0, [], priv, inter, r, .empty⟩ (.slice none 0 0) ⟨none, 0, rfl, Nat.le_refl _, rfl, fun j u hu => by simp [intI] at hu⟩ (fun k hk => by cases hk) _ rfl _ rfl⟩
    | true =>
      go_upto_region 25 with (fail)
      have hq := HRD.out
      obtain ⟨vp2, vt2, hb, h1, h2, h6⟩ := hq
      obtain ⟨ao2, cap2, rfl, hcap2, hmax2, hnone2, hsome2⟩ := h1.form
      simp only at hb h1 h2 hcap2 hnone2
      cases ao2 with
      | none => exact absurd (List.length_eq_zero_iff.1 (hnone2 rfl).1) HPN.out
      | some a =>
        obtain ⟨g, rfl⟩ := hsome2 a rfl
        obtain ⟨m, hm⟩ : ∃ m : Nat, mnI (params.length : Int) 16 = (m : Int) := Int.eq_ofNat_of_zero_le (by unfold mnI; split <;> omega)
        have hmL : m ≤ params.length := by unfold mnI at hm; split at hm <;> omega
        have hmt : m = min 16 params.length := by unfold mnI at hm; split at hm <;> omega
        have hpt : params.take 16 = params.take m := by
          rw [hmt]
          by_cases hc : 16 ≤ params.length
          · rw [Nat.min_eq_left hc]
          · rw [Nat.min_eq_right (by omega), List.take_of_length_le (by omega), List.take_length]
        have hmc : (m : Int) ≤ (cap2 : Int) := by omega
        have hm0 : (0 : Int) ≤ (m : Int) := by omega
        have hx1 : wd.cell? ⟨x, 1, none⟩ = some (.slice (some ⟨g, 0, none⟩) params.length cap2) := by rw [hb.cell]; rfl
        have hrd : Rd wd 1 (.slice (some ⟨g, 0, none⟩) m cap2) m ((intI params).take m) := (h1.cut hmL).rd
        have htl : (params.take m).length = m := by rw [List.length_take]; omega
        have HRP := Lib.hid hrd
        have HPT := Lib.hid hpt
        have HTL := Lib.hid htl
        have hml' : m ≤ 16 := by omega
        have HM := hm
        clear hb h1 h2 h6 hrd hpt hmt hnone2 hsome2 htl nc0 nc2 nc3 nc4 nc5
        refine wp_one [4, 8] [0, 12, 14] [(0, [4, 8])] [1, 2, 3, 4, 5, 6, 7, 8, 9, 10, 11, 0, 12, 13, 14] rfl (by kernel_rfl) (fun _ _ _ _ _ h => h) ?_; simp only [List.map_cons, List.map_nil, List.getElem?_toArray, List.getElem?_cons_zero, List.getElem?_cons_succ]
        (repeat (first | (apply can0; (· rfl); (· rfl); (· (intro w'; first | (go_simp; with_reducible rfl) | (go_simp; done))); simp only [Act.put, List.setIfInBounds_toArray, List.set_cons_zero, List.set_cons_succ]) | (apply can1; (· rfl); (· rfl); (· (first | (go_simp; with_reducible rfl) | (go_simp; done))); simp only [Act.put, List.setIfInBounds_toArray, List.set_cons_zero, List.set_cons_succ]) | (apply canN; (· rfl); (· rfl); simp only [Act.put, List.setIfInBounds_toArray, List.set_cons_zero, List.set_cons_succ]) | (apply canN1; (· rfl); (· rfl); simp only [Act.put, List.setIfInBounds_toArray, List.set_cons_zero, List.set_cons_succ]) | (apply can0; (· rfl); (· (go_simp; done)); (· (intro w'; first | (go_simp; with_reducible rfl) | (go_simp; done))); simp only [Act.put, List.setIfInBounds_toArray, List.set_cons_zero, List.set_cons_succ]) | (apply can1; (· rfl); (· (go_simp; done)); (· (first | (go_simp; with_reducible rfl) | (go_simp; done))); simp only [Act.put, List.setIfInBounds_toArray, List.set_cons_zero, List.set_cons_succ]) | (apply canN; (· rfl); (· (go_simp; done)); simp only [Act.put, List.setIfInBounds_toArray, List.set_cons_zero, List.set_cons_succ]) | (apply canN1; (· rfl); (· (go_simp; done)); simp only [Act.put, List.setIfInBounds_toArray, List.set_cons_zero, List.set_cons_succ])))
        refine canW rfl [4, 8] rfl (fun K hK => ?_)
        go_simp
        have np1 : (wd.alloc (.cells #[] 3)).cell? ⟨x, 1, none⟩ = some (.slice (some ⟨g, 0, none⟩) params.length cap2) := ((Chg.refl wd nob).alloc _).cell hx1 id
        (refine hK _ _ (fun u hu => by simp only [List.mem_cons, List.not_mem_nil, or_false] at hu; (first | (subst hu; exact reRun_mk rfl (by first | (go_simp; with_reducible rfl) | (go_simp; done)) (holds_at rfl)) | (rcases hu with rfl | rfl <;> exact reRun_mk rfl (by first | (go_simp; with_reducible rfl) | (go_simp; done)) (holds_at rfl)) | (rcases hu with rfl | rfl | rfl <;> exact reRun_mk rfl (by first | (go_simp; with_reducible rfl) | (go_simp; done)) (holds_at rfl)))) ?_; clear hK K; try simp only [Act.put, List.setIfInBounds_toArray, List.set_cons_zero, List.set_cons_succ])
        (repeat (first | (apply can0; (· rfl); (· rfl); (· (intro w'; first | (go_simp; with_reducible rfl) | (go_simp; done))); simp only [Act.put, List.setIfInBounds_toArray, List.set_cons_zero, List.set_cons_succ]) | (apply can1; (· rfl); (· rfl); (· (first | (go_simp; with_reducible rfl) | (go_simp; done))); simp only [Act.put, List.setIfInBounds_toArray, List.set_cons_zero, List.set_cons_succ]) | (apply canN; (· rfl); (· rfl); simp only [Act.put, List.setIfInBounds_toArray, List.set_cons_zero, List.set_cons_succ]) | (apply canN1; (· rfl); (· rfl); simp only [Act.put, List.setIfInBounds_toArray, List.set_cons_zero, List.set_cons_succ]) | (apply can0; (· rfl); (· (go_simp; done)); (· (intro w'; first | (go_simp; with_reducible rfl) | (go_simp; done))); simp only [Act.put, List.setIfInBounds_toArray, List.set_cons_zero, List.set_cons_succ]) | (apply can1; (· rfl); (· (go_simp; done)); (· (first | (go_simp; with_reducible rfl) | (go_simp; done))); simp only [Act.put, List.setIfInBounds_toArray, List.set_cons_zero, List.set_cons_succ]) | (apply canN; (· rfl); (· (go_simp; done)); simp only [Act.put, List.setIfInBounds_toArray, List.set_cons_zero, List.set_cons_succ]) | (apply canN1; (· rfl); (· (go_simp; done)); simp only [Act.put, List.setIfInBounds_toArray, List.set_cons_zero, List.set_cons_succ])))
        refine canW rfl [] rfl (fun K hK => ?_)
        rw [if_pos (by rfl)]
        have hck : Chg wd (wd.alloc (.cells #[] 3)).drew nob := ((Chg.refl wd nob).alloc _).drew
        refine wp_app (.tmp 178) (.tmp 189) 23 rfl 3 (.int .i64 0) 1 8 i_int u_ints rfl (by decide) (.slice (some ⟨wd.heap.size, 0, none⟩) 0 0) 0 [] rfl (Own.kept (Own.empty wd 3 1) ((Chg.refl _ nob).drew) (fun _ _ => id)) (some ⟨g, 0, none⟩) m cap2 ((intI params).take m) rfl (fun h => by cases h) (by simp [intI]; omega)
          (Rd.news (HRP.out.kept hck (fun _ _ => id))) (fun u hu => oneV .i64 params u (List.mem_of_mem_take hu)) (by unfold maxLen; omega) (by omega) ?_
        intro v1 w1 ho1 hch1 hfo1
        have hcn : Chg wd w1 nob := hck.trans hch1 (fun i hi h => by have e : wd.heap.size = i := Option.some.inj (show some _ = some _ from h); omega)
        have hsz1 : wd.heap.size ≤ w1.heap.size := hcn.size
        have hbl : wb.heap.size < wd.heap.size := HBE.out.lt
        have hv1 : ∀ k, blkOf v1 k → wd.heap.size ≤ k ∧ k < w1.heap.size := fun k hk => by
          refine ⟨?_, ho1.lt hk⟩
          rcases hfo1 k hk with h | h
          · have e : wd.heap.size = k := Option.some.inj (show some _ = some _ from h); omega
          · have e2 : wd.heap.size + 1 ≤ k := by
              have e3 : (wd.alloc (.cells #[] 3)).drew.heap.size = wd.heap.size + 1 := size_al _ _
              rw [← e3]; exact h
            omega
        have hbe1 := HBE.out.kept hcn id
        have hRd1 : Rd w1 1 v1 (params.take 16).length (intI (params.take 16)) := by
          have h := ho1.rd
          rw [HPT.out, HTL.out]
          simpa [intI, List.map_take] using h
        have HR1 := Lib.hid (HRD.out.kept hcn (fun _ _ => id))
        have HC1 := Lib.hid (HCD.out.trans hcn (fun _ _ h => h.elim))
        have HV1 := Lib.hid hv1
        have HRV := Lib.hid hRd1
        have HBE1 := Lib.hid hbe1
        have HBL := Lib.hid hbl
        have HS1 := Lib.hid hsz1
        obtain ⟨a1, c1, rfl, _⟩ := ho1.form
        have he2 : w1.cell? ⟨wb.heap.size, 2, none⟩ = some (.slice none 0 0) := by rw [hbe1.cell]; rfl
        have hf2 : w1.frozen? ⟨wb.heap.size, 2, none⟩ = false := hbe1.free 2
        clear ho1 hch1 hfo1 hcn hv1 hbe1 hRd1 hck hx1 np1 hbl hsz1
        (refine hK _ _ (fun u hu => by cases hu) ?_; clear hK K; try simp only [Act.put, List.setIfInBounds_toArray, List.set_cons_zero, List.set_cons_succ])
        (repeat (first | (apply can0; (· rfl); (· rfl); (· (intro w'; first | (go_simp; with_reducible rfl) | (go_simp; done))); simp only [Act.put, List.setIfInBounds_toArray, List.set_cons_zero, List.set_cons_succ]) | (apply can1; (· rfl); (· rfl); (· (first | (go_simp; with_reducible rfl) | (go_simp; done))); simp only [Act.put, List.setIfInBounds_toArray, List.set_cons_zero, List.set_cons_succ]) | (apply canN; (· rfl); (· rfl); simp only [Act.put, List.setIfInBounds_toArray, List.set_cons_zero, List.set_cons_succ]) | (apply canN1; (· rfl); (· rfl); simp only [Act.put, List.setIfInBounds_toArray, List.set_cons_zero, List.set_cons_succ]) | (apply can0; (· rfl); (· (go_simp; done)); (· (intro w'; first | (go_simp; with_reducible rfl) | (go_simp; done))); simp only [Act.put, List.setIfInBounds_toArray, List.set_cons_zero, List.set_cons_succ]) | (apply can1; (· rfl); (· (go_simp; done)); (· (first | (go_simp; with_reducible rfl) | (go_simp; done))); simp only [Act.put, List.setIfInBounds_toArray, List.set_cons_zero, List.set_cons_succ]) | (apply canN; (· rfl); (· (go_simp; done)); simp only [Act.put, List.setIfInBounds_toArray, List.set_cons_zero, List.set_cons_succ]) | (apply canN1; (· rfl); (· (go_simp; done)); simp only [Act.put, List.setIfInBounds_toArray, List.set_cons_zero, List.set_cons_succ])))
        refine canW rfl [] rfl (fun K hK => ?_)
        go_simp
        (refine hK _ _ (fun u hu => by cases hu) ?_; clear hK K; try simp only [Act.put, List.setIfInBounds_toArray, List.set_cons_zero, List.set_cons_succ])
        refine canE ?_
        have hmm : (0 : Nat) + m = m := Nat.zero_add m
        have hbz := HBE1.out.set 2 (.slice a1 m c1)
        have hcz : Chg w1 (w1.setCell ⟨wb.heap.size, 2, none⟩ (.slice a1 m c1)) (fun y => y = wb.heap.size) := rchg1 _ _ _ _
        have hcw := HC1.out.setCell (p := ⟨wb.heap.size, 2, none⟩) (.inr (by rw [HSW.out]; exact Nat.le_refl _)) (.slice a1 m c1)
        have hnb : ∀ k, blkOf (.slice a1 m c1) k → k ≠ wb.heap.size := fun k hk e => by have h1 := (HV1.out k (blk_same hk)).1; have h2 := HBL.out; omega
        obtain ⟨wz, hwz⟩ : ∃ wz, w1.setCell ⟨wb.heap.size, 2, none⟩ (.slice a1 m c1) = wz := ⟨_, rfl⟩
        rw [hwz] at hbz hcz hcw ⊢
        have hRz := HR1.out.kept hcz (fun k hk e => by have h1 := HFW.out k hk; have h2 := HSW.out; omega)
        have hPz : Rd wz 1 (.slice a1 m c1) (params.take 16).length (intI (params.take 16)) := by
          have h := HRV.out
          simp only [Nat.zero_add] at h
          exact h.kept hcz (fun k hk e => hnb k hk e)
        have hsz : w1.heap.size ≤ wz.heap.size := hcz.size
        have HRZ := Lib.hid hRz
        have HPZ := Lib.hid hPz
        have HCW := Lib.hid hcw
        have HBZ := Lib.hid hbz
        have HFR : Hid (∀ k, blkOf (.slice a1 m c1) k → w.heap.size ≤ k ∧ k < wz.heap.size) := Lib.hid (fun k hk => by
          have h1 := HV1.out k (blk_same hk)
          have h2 := HBL.out
          have h3 := HSW.out
          omega)
        clear hbz hcz hcw hnb hRz hPz hsz hwz he2 hf2
        have he0 := HBZ.out.cell 0
        have he1 := HBZ.out.cell 1
        have he2 := HBZ.out.cell 2
        have he3 := HBZ.out.cell 3
        have he4 := HBZ.out.cell 4
        have he5 := HBZ.out.cell 5
        have he6 := HBZ.out.cell 6
        simp only [List.setIfInBounds_toArray, List.set_cons_zero, List.set_cons_succ, List.getElem?_toArray, List.getElem?_cons_zero, List.getElem?_cons_succ] at he0 he1 he2 he3 he4 he5 he6
        clear hmm
        go_wp2
        go_ret
        exact ⟨_, rfl, RO.litp HCW.out HRZ.out HFW.out ⟨4, 0, params.take 16, priv, inter, r, .empty⟩ (.slice a1 m c1) HPZ.out HFR.out _ rfl _ rfl⟩
end Go.Proofs.Ytaficleoimfejaa
