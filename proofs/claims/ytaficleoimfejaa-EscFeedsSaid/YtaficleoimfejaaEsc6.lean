/-
  Chapter 8: the event of a CSI.
-/
import Derived.Test.YtaficleoimfejaaEsc5
namespace Go.Proofs.Ytaficleoimfejaa
open Go.RowKit
set_option linter.unusedVariables false
set_option linter.unusedSimpArgs false
attribute [local go_sem ↓] run_min_two run_max_two


theorem size_int (w : World) : (sizeOf (Try.prog.elem 23)).run Try.prog w = .ok 1 w := rfl
theorem run_cut_h (g len cap : Nat) (k : IntKind) (m : Nat) (w : World) (h2 : (m : Int) ≤ cap) :
    (Instr.slice 23 (.slice (some ⟨g, 0, none⟩) len cap) none (some (.int k m)) none).run Try.prog w = .ok (.slice (some ⟨g, 0, none⟩) m cap) w := by
  rw [run_slice_h w 23 (some ⟨g, 0, none⟩) len cap u_ints k m (by omega) h2, size_int]
  simp [Result.andThen, sliced, Addr.add_lit]
attribute [local go_sem ↓] run_cut_h
theorem set7 {w : World} {b : Nat} {t : TypeId} {x0 x1 x2 x3 x4 x5 x6 : Value} (h : Blk w b t #[x0, x1, x2, x3, x4, x5, x6]) (u0 u1 u2 u3 u4 u5 u6 : Value) :
    Blk (((((((w.setCell ⟨b, 0, none⟩ u0).setCell ⟨b, 1, none⟩ u1).setCell ⟨b, 2, none⟩ u2).setCell ⟨b, 3, none⟩ u3).setCell ⟨b, 4, none⟩ u4).setCell ⟨b, 5, none⟩ u5).setCell ⟨b, 6, none⟩ u6) b t #[u0, u1, u2, u3, u4, u5, u6] := by
  have h0 : Blk (w.setCell ⟨b, 0, none⟩ u0) b t #[u0, x1, x2, x3, x4, x5, x6] := h.set 0 u0
  have h1 : Blk ((w.setCell ⟨b, 0, none⟩ u0).setCell ⟨b, 1, none⟩ u1) b t #[u0, u1, x2, x3, x4, x5, x6] := h0.set 1 u1
  have h2 : Blk (((w.setCell ⟨b, 0, none⟩ u0).setCell ⟨b, 1, none⟩ u1).setCell ⟨b, 2, none⟩ u2) b t #[u0, u1, u2, x3, x4, x5, x6] := h1.set 2 u2
  have h3 : Blk ((((w.setCell ⟨b, 0, none⟩ u0).setCell ⟨b, 1, none⟩ u1).setCell ⟨b, 2, none⟩ u2).setCell ⟨b, 3, none⟩ u3) b t #[u0, u1, u2, u3, x4, x5, x6] := h2.set 3 u3
  have h4 : Blk (((((w.setCell ⟨b, 0, none⟩ u0).setCell ⟨b, 1, none⟩ u1).setCell ⟨b, 2, none⟩ u2).setCell ⟨b, 3, none⟩ u3).setCell ⟨b, 4, none⟩ u4) b t #[u0, u1, u2, u3, u4, x5, x6] := h3.set 4 u4
  have h5 : Blk ((((((w.setCell ⟨b, 0, none⟩ u0).setCell ⟨b, 1, none⟩ u1).setCell ⟨b, 2, none⟩ u2).setCell ⟨b, 3, none⟩ u3).setCell ⟨b, 4, none⟩ u4).setCell ⟨b, 5, none⟩ u5) b t #[u0, u1, u2, u3, u4, u5, x6] := h4.set 5 u5
  have h6 : Blk (((((((w.setCell ⟨b, 0, none⟩ u0).setCell ⟨b, 1, none⟩ u1).setCell ⟨b, 2, none⟩ u2).setCell ⟨b, 3, none⟩ u3).setCell ⟨b, 4, none⟩ u4).setCell ⟨b, 5, none⟩ u5).setCell ⟨b, 6, none⟩ u6) b t #[u0, u1, u2, u3, u4, u5, u6] := h5.set 6 u6
  exact h6
theorem chg7 {w0 w : World} {b : Nat} (h : Chg w0 w nob) (hb : w0.heap.size ≤ b) (u0 u1 u2 u3 u4 u5 u6 : Value) :
    Chg w0 (((((((w.setCell ⟨b, 0, none⟩ u0).setCell ⟨b, 1, none⟩ u1).setCell ⟨b, 2, none⟩ u2).setCell ⟨b, 3, none⟩ u3).setCell ⟨b, 4, none⟩ u4).setCell ⟨b, 5, none⟩ u5).setCell ⟨b, 6, none⟩ u6) nob :=
  ((((((h.setCell (p := ⟨b, 0, none⟩) (.inr hb) u0).setCell (p := ⟨b, 1, none⟩) (.inr hb) u1).setCell (p := ⟨b, 2, none⟩) (.inr hb) u2).setCell (p := ⟨b, 3, none⟩) (.inr hb) u3).setCell (p := ⟨b, 4, none⟩) (.inr hb) u4).setCell (p := ⟨b, 5, none⟩) (.inr hb) u5).setCell (p := ⟨b, 6, none⟩) (.inr hb) u6
abbrev zeroE : Array Value := #[.int .i64 0, .int .i32 0, .slice none 0 0, .int .i32 0, .int .i32 0, .int .i32 0, .string ⟨#[]⟩]
set_option maxRecDepth 100000 in
set_option maxHeartbeats 4000000 in
theorem csi_lo (w : World) (p : Nat) (st priv inter : Int) (told sp : Bool) (vt vo : Value) (g L cap m : Nat) (xs : List Value) (r : Int)
    (hb : Blk w p 49 (pcs st (.slice (some ⟨g, 0, none⟩) L cap) told priv inter sp vt vo)) (hm : mnI (L : Int) 16 = (m : Int)) (hmL : m ≤ L) (hL : L ≤ cap) (hcap : cap ≤ 9223372036854775807) :
    Calls Try.prog 36 #[.pointer (some ⟨p, 0, none⟩), .int .i32 r] w fun e w' =>
      e = .returned (.agg #[.int .i64 4, .int .i32 0, (if told = true then .slice (some ⟨g, 0, none⟩) m cap else .slice none 0 0), .int .i32 priv, .int .i32 inter, .int .i32 r, .string .empty]) ∧ Chg w w' nob := by
  obtain ⟨wa, hwa⟩ : ∃ wa, w.alloc (.cells zeroE 41) = wa := ⟨_, rfl⟩
  have hba : Blk wa w.heap.size 41 zeroE := by rw [← hwa]; exact Blk.new w _ _
  have hbp : Blk wa p 49 (pcs st (.slice (some ⟨g, 0, none⟩) L cap) told priv inter sp vt vo) := by rw [← hwa]; exact hb.alloc _
  have hca : Chg w wa nob := by rw [← hwa]; exact (Chg.refl w nob).alloc _
  have hp1 : wa.cell? ⟨p, 1, none⟩ = some (.slice (some ⟨g, 0, none⟩) L cap) := by rw [hbp.cell]; rfl
  have hp2 : wa.cell? ⟨p, 2, none⟩ = some (.bool told) := by rw [hbp.cell]; rfl
  have hp3 : wa.cell? ⟨p, 3, none⟩ = some (.int .i32 priv) := by rw [hbp.cell]; rfl
  have hp4 : wa.cell? ⟨p, 4, none⟩ = some (.int .i32 inter) := by rw [hbp.cell]; rfl
  have HWA := Lib.hid hwa
  have HBA := Lib.hid hba
  have HBP := Lib.hid hbp
  have HCA := Lib.hid hca
  clear hwa hba hbp hca hb
  go_enter Try.func36, Try.ntmps36
  go_upto_region 1 with (fail)
  rw [show w.alloc _ = wa from HWA.out]
  refine wp_one [3, 7] [10, 11] [(10, [3, 7])] [0, 1, 2, 3, 4, 5, 6, 7, 8, 9, 10, 11] rfl (by kernel_rfl) (fun _ _ _ _ _ h => h) ?_; simp only [List.map_cons, List.map_nil, List.getElem?_toArray, List.getElem?_cons_zero, List.getElem?_cons_succ]
  (repeat (first | (apply can0; (· rfl); (· rfl); (· (intro w'; first | (go_simp; with_reducible rfl) | (go_simp; done))); simp only [Act.put, List.setIfInBounds_toArray, List.set_cons_zero, List.set_cons_succ]) | (apply can1; (· rfl); (· rfl); (· (first | (go_simp; with_reducible rfl) | (go_simp; done))); simp only [Act.put, List.setIfInBounds_toArray, List.set_cons_zero, List.set_cons_succ]) | (apply canN; (· rfl); (· rfl); simp only [Act.put, List.setIfInBounds_toArray, List.set_cons_zero, List.set_cons_succ]) | (apply canN1; (· rfl); (· rfl); simp only [Act.put, List.setIfInBounds_toArray, List.set_cons_zero, List.set_cons_succ]) | (apply can0; (· rfl); (· (go_simp; done)); (· (intro w'; first | (go_simp; with_reducible rfl) | (go_simp; done))); simp only [Act.put, List.setIfInBounds_toArray, List.set_cons_zero, List.set_cons_succ]) | (apply can1; (· rfl); (· (go_simp; done)); (· (first | (go_simp; with_reducible rfl) | (go_simp; done))); simp only [Act.put, List.setIfInBounds_toArray, List.set_cons_zero, List.set_cons_succ]) | (apply canN; (· rfl); (· (go_simp; done)); simp only [Act.put, List.setIfInBounds_toArray, List.set_cons_zero, List.set_cons_succ]) | (apply canN1; (· rfl); (· (go_simp; done)); simp only [Act.put, List.setIfInBounds_toArray, List.set_cons_zero, List.set_cons_succ])))
  refine canW rfl [3, 7] rfl (fun K hK => ?_)
  go_simp
  have hp3' : (wa.alloc (.cells zeroE 41)).cell? ⟨p, 3, none⟩ = some (.int .i32 priv) := ((Chg.refl wa nob).alloc _).cell hp3 id
  have hp4' : (wa.alloc (.cells zeroE 41)).cell? ⟨p, 4, none⟩ = some (.int .i32 inter) := ((Chg.refl wa nob).alloc _).cell hp4 id
  (refine hK _ _ (fun u hu => by simp only [List.mem_cons, List.not_mem_nil, or_false] at hu; (first | (subst hu; exact reRun_mk rfl (by first | (go_simp; with_reducible rfl) | (go_simp; done)) (holds_at rfl)) | (rcases hu with rfl | rfl <;> exact reRun_mk rfl (by first | (go_simp; with_reducible rfl) | (go_simp; done)) (holds_at rfl)) | (rcases hu with rfl | rfl | rfl <;> exact reRun_mk rfl (by first | (go_simp; with_reducible rfl) | (go_simp; done)) (holds_at rfl)))) ?_; clear hK K; try simp only [Act.put, List.setIfInBounds_toArray, List.set_cons_zero, List.set_cons_succ])
  (repeat (first | (apply can0; (· rfl); (· rfl); (· (intro w'; first | (go_simp; with_reducible rfl) | (go_simp; done))); simp only [Act.put, List.setIfInBounds_toArray, List.set_cons_zero, List.set_cons_succ]) | (apply can1; (· rfl); (· rfl); (· (first | (go_simp; with_reducible rfl) | (go_simp; done))); simp only [Act.put, List.setIfInBounds_toArray, List.set_cons_zero, List.set_cons_succ]) | (apply canN; (· rfl); (· rfl); simp only [Act.put, List.setIfInBounds_toArray, List.set_cons_zero, List.set_cons_succ]) | (apply canN1; (· rfl); (· rfl); simp only [Act.put, List.setIfInBounds_toArray, List.set_cons_zero, List.set_cons_succ]) | (apply can0; (· rfl); (· (go_simp; done)); (· (intro w'; first | (go_simp; with_reducible rfl) | (go_simp; done))); simp only [Act.put, List.setIfInBounds_toArray, List.set_cons_zero, List.set_cons_succ]) | (apply can1; (· rfl); (· (go_simp; done)); (· (first | (go_simp; with_reducible rfl) | (go_simp; done))); simp only [Act.put, List.setIfInBounds_toArray, List.set_cons_zero, List.set_cons_succ]) | (apply canN; (· rfl); (· (go_simp; done)); simp only [Act.put, List.setIfInBounds_toArray, List.set_cons_zero, List.set_cons_succ]) | (apply canN1; (· rfl); (· (go_simp; done)); simp only [Act.put, List.setIfInBounds_toArray, List.set_cons_zero, List.set_cons_succ])))
  refine canW rfl [] rfl (fun K hK => ?_)
  go_simp
  (refine hK _ _ (fun u hu => by cases hu) ?_; clear hK K; try simp only [Act.put, List.setIfInBounds_toArray, List.set_cons_zero, List.set_cons_succ])
  refine canE ?_
  obtain ⟨wb, hwb⟩ : ∃ wb, (wa.alloc (.cells #[.int .i64 4, .int .i32 0, .slice none 0 0, .int .i32 priv, .int .i32 inter, .int .i32 r, .string ⟨#[]⟩] 41)).drew = wb := ⟨_, rfl⟩
  rw [hwb]
  have hbz : Blk wb w.heap.size 41 zeroE := by rw [← hwb]; exact (HBA.out).alloc _
  have hbe : Blk wb wa.heap.size 41 #[.int .i64 4, .int .i32 0, .slice none 0 0, .int .i32 priv, .int .i32 inter, .int .i32 r, .string ⟨#[]⟩] := by rw [← hwb]; exact Blk.new wa _ _
  have hbp : Blk wb p 49 (pcs st (.slice (some ⟨g, 0, none⟩) L cap) told priv inter sp vt vo) := by rw [← hwb]; exact HBP.out.alloc _
  have hcb : Chg w wb nob := by rw [← hwb]; exact (HCA.out.alloc _).drew
  have hsz : w.heap.size < wa.heap.size := HBA.out.lt
  have hne : ¬ wa.heap.size = w.heap.size := by omega
  have hne' : ¬ w.heap.size = wa.heap.size := by omega
  clear hp1 hp2 hp3 hp4 hp3' hp4' hwb
  have HSZ := Lib.hid hsz
  have HBP := Lib.hid hbp
  have HCB := Lib.hid hcb
  have HBZ := Lib.hid hbz
  have HBE := Lib.hid hbe
  clear hsz hcb
  cases told with
  | false =>
    clear hbz hbe hbp
    have hz0 := HBZ.out.cell 0
    have hz1 := HBZ.out.cell 1
    have hz2 := HBZ.out.cell 2
    have hz3 := HBZ.out.cell 3
    have hz4 := HBZ.out.cell 4
    have hz5 := HBZ.out.cell 5
    have hz6 := HBZ.out.cell 6
    have hy0 := HBZ.out.free 0
    have hy1 := HBZ.out.free 1
    have hy2 := HBZ.out.free 2
    have hy3 := HBZ.out.free 3
    have hy4 := HBZ.out.free 4
    have hy5 := HBZ.out.free 5
    have hy6 := HBZ.out.free 6
    have he0 := HBE.out.cell 0
    have he1 := HBE.out.cell 1
    have he2 := HBE.out.cell 2
    have he3 := HBE.out.cell 3
    have he4 := HBE.out.cell 4
    have he5 := HBE.out.cell 5
    have he6 := HBE.out.cell 6
    have hp2 := HBP.out.cell 2
    simp only [List.getElem?_toArray, List.getElem?_cons_zero, List.getElem?_cons_succ] at hz0 hz1 hz2 hz3 hz4 hz5 hz6 he0 he1 he2 he3 he4 he5 he6 hp2
    clear hne hne'
    go_upto_region 4 with (fail)
    go_wp2
    have hz := set7 HBZ.out (.int .i64 4) (.int .i32 0) (.slice none 0 0) (.int .i32 priv) (.int .i32 inter) (.int .i32 r) (.string ⟨#[]⟩)
    have hcz := chg7 HCB.out (Nat.le_refl w.heap.size) (.int .i64 4) (.int .i32 0) (.slice none 0 0) (.int .i32 priv) (.int .i32 inter) (.int .i32 r) (.string ⟨#[]⟩)
    generalize (((((((World.setCell _ ⟨w.heap.size, 0, none⟩ _).setCell ⟨w.heap.size, 1, none⟩ _).setCell ⟨w.heap.size, 2, none⟩ _).setCell ⟨w.heap.size, 3, none⟩ _).setCell ⟨w.heap.size, 4, none⟩ _).setCell ⟨w.heap.size, 5, none⟩ _).setCell ⟨w.heap.size, 6, none⟩ _) = wz at *
    have c0 := hz.cell 0
    have c1 := hz.cell 1
    have c2 := hz.cell 2
    have c3 := hz.cell 3
    have c4 := hz.cell 4
    have c5 := hz.cell 5
    have c6 := hz.cell 6
    simp only [List.getElem?_toArray, List.getElem?_cons_zero, List.getElem?_cons_succ] at c0 c1 c2 c3 c4 c5 c6
    refine bodyPost_ret (v := .agg #[.int .i64 4, .int .i32 0, (.slice none 0 0), .int .i32 priv, .int .i32 inter, .int .i32 r, .string ⟨#[]⟩]) (by simp [results, Try.results36, go_sem, c0, c1, c2, c3, c4, c5, c6]) rfl ?_
    exact ⟨rfl, hcz⟩
  | true =>
    have hp1 : wb.cell? ⟨p, 1, none⟩ = some (.slice (some ⟨g, 0, none⟩) L cap) := by rw [HBP.out.cell]; rfl
    have hm0 : (0 : Int) ≤ (m : Int) := by omega
    have hmc : (m : Int) ≤ (cap : Int) := by omega
    clear hbz hbe hbp
    have hz0 := HBZ.out.cell 0
    have hz1 := HBZ.out.cell 1
    have hz2 := HBZ.out.cell 2
    have hz3 := HBZ.out.cell 3
    have hz4 := HBZ.out.cell 4
    have hz5 := HBZ.out.cell 5
    have hz6 := HBZ.out.cell 6
    have hy0 := HBZ.out.free 0
    have hy1 := HBZ.out.free 1
    have hy2 := HBZ.out.free 2
    have hy3 := HBZ.out.free 3
    have hy4 := HBZ.out.free 4
    have hy5 := HBZ.out.free 5
    have hy6 := HBZ.out.free 6
    have he0 := HBE.out.cell 0
    have he1 := HBE.out.cell 1
    have he2 := HBE.out.cell 2
    have he3 := HBE.out.cell 3
    have he4 := HBE.out.cell 4
    have he5 := HBE.out.cell 5
    have he6 := HBE.out.cell 6
    have hp2 := HBP.out.cell 2
    simp only [List.getElem?_toArray, List.getElem?_cons_zero, List.getElem?_cons_succ] at hz0 hz1 hz2 hz3 hz4 hz5 hz6 he0 he1 he2 he3 he4 he5 he6 hp2
    have hq2 := HBE.out.free 2
    go_upto_region 3 with (fail)
    clear hz0 hz1 hz2 hz3 hz4 hz5 hz6 hy0 hy1 hy2 hy3 hy4 hy5 hy6 he0 he1 he3 he4 he5 he6
    refine wp_one [3, 7] [12] [] [0, 1, 2, 3, 4, 5, 6, 7, 8, 9, 10, 11, 12] rfl (by kernel_rfl) (fun _ _ _ _ _ h => h) ?_; simp only [List.map_cons, List.map_nil, List.getElem?_toArray, List.getElem?_cons_zero, List.getElem?_cons_succ]
    (repeat (first | (apply can0; (· rfl); (· rfl); (· (intro w'; first | (go_simp; with_reducible rfl) | (go_simp; done))); simp only [Act.put, List.setIfInBounds_toArray, List.set_cons_zero, List.set_cons_succ]) | (apply can1; (· rfl); (· rfl); (· (first | (go_simp; with_reducible rfl) | (go_simp; done))); simp only [Act.put, List.setIfInBounds_toArray, List.set_cons_zero, List.set_cons_succ]) | (apply canN; (· rfl); (· rfl); simp only [Act.put, List.setIfInBounds_toArray, List.set_cons_zero, List.set_cons_succ]) | (apply canN1; (· rfl); (· rfl); simp only [Act.put, List.setIfInBounds_toArray, List.set_cons_zero, List.set_cons_succ]) | (apply can0; (· rfl); (· (go_simp; done)); (· (intro w'; first | (go_simp; with_reducible rfl) | (go_simp; done))); simp only [Act.put, List.setIfInBounds_toArray, List.set_cons_zero, List.set_cons_succ]) | (apply can1; (· rfl); (· (go_simp; done)); (· (first | (go_simp; with_reducible rfl) | (go_simp; done))); simp only [Act.put, List.setIfInBounds_toArray, List.set_cons_zero, List.set_cons_succ]) | (apply canN; (· rfl); (· (go_simp; done)); simp only [Act.put, List.setIfInBounds_toArray, List.set_cons_zero, List.set_cons_succ]) | (apply canN1; (· rfl); (· (go_simp; done)); simp only [Act.put, List.setIfInBounds_toArray, List.set_cons_zero, List.set_cons_succ])))
    refine canW rfl [] rfl (fun K hK => ?_)
    go_simp
    (refine hK _ _ (fun u hu => by cases hu) ?_; clear hK K; try simp only [Act.put, List.setIfInBounds_toArray, List.set_cons_zero, List.set_cons_succ])
    refine canE ?_
    have hbz' : Blk (wb.setCell ⟨wa.heap.size, 2, none⟩ (.slice (some ⟨g, 0, none⟩) m cap)) w.heap.size 41 zeroE := HBZ.out.other (p := ⟨wa.heap.size, 2, none⟩) hne' _
    have hbe' := HBE.out.set 2 (.slice (some ⟨g, 0, none⟩) m cap)
    have hbp' : Blk (wb.setCell ⟨wa.heap.size, 2, none⟩ (.slice (some ⟨g, 0, none⟩) m cap)) p 49 (pcs st (.slice (some ⟨g, 0, none⟩) L cap) true priv inter sp vt vo) :=
      HBP.out.other (p := ⟨wa.heap.size, 2, none⟩) (fun e => by have h1 := HBP.out; have h2 := HBE.out; rw [e] at h1; exact absurd (h1.inj h2).1 (by decide)) _
    have hcb' := (HCB.out.setCell (p := ⟨wa.heap.size, 2, none⟩) (.inr (Nat.le_of_lt HSZ.out)) (.slice (some ⟨g, 0, none⟩) m cap)).drew
    obtain ⟨wc, hwc⟩ : ∃ wc, (wb.setCell ⟨wa.heap.size, 2, none⟩ (.slice (some ⟨g, 0, none⟩) m cap)).drew = wc := ⟨_, rfl⟩
    rw [hwc]
    have HBZ : Hid (Blk wc w.heap.size 41 zeroE) := Lib.hid (by rw [← hwc]; exact hbz')
    have HBE : Hid (Blk wc wa.heap.size 41 #[.int .i64 4, .int .i32 0, .slice (some ⟨g, 0, none⟩) m cap, .int .i32 priv, .int .i32 inter, .int .i32 r, .string ⟨#[]⟩]) := Lib.hid (by rw [← hwc]; exact hbe')
    have HBP : Hid (Blk wc p 49 (pcs st (.slice (some ⟨g, 0, none⟩) L cap) true priv inter sp vt vo)) := Lib.hid (by rw [← hwc]; exact hbp')
    have HCB : Hid (Chg w wc nob) := Lib.hid (by rw [← hwc]; exact hcb')
    clear hbz' hbe' hbp' hcb' hwc hp1 hp2 he2 hq2
    have hz0 := HBZ.out.cell 0
    have hz1 := HBZ.out.cell 1
    have hz2 := HBZ.out.cell 2
    have hz3 := HBZ.out.cell 3
    have hz4 := HBZ.out.cell 4
    have hz5 := HBZ.out.cell 5
    have hz6 := HBZ.out.cell 6
    have hy0 := HBZ.out.free 0
    have hy1 := HBZ.out.free 1
    have hy2 := HBZ.out.free 2
    have hy3 := HBZ.out.free 3
    have hy4 := HBZ.out.free 4
    have hy5 := HBZ.out.free 5
    have hy6 := HBZ.out.free 6
    have he0 := HBE.out.cell 0
    have he1 := HBE.out.cell 1
    have he2 := HBE.out.cell 2
    have he3 := HBE.out.cell 3
    have he4 := HBE.out.cell 4
    have he5 := HBE.out.cell 5
    have he6 := HBE.out.cell 6
    have hp2 := HBP.out.cell 2
    simp only [List.getElem?_toArray, List.getElem?_cons_zero, List.getElem?_cons_succ] at hz0 hz1 hz2 hz3 hz4 hz5 hz6 he0 he1 he2 he3 he4 he5 he6 hp2
    clear hne hne' hm0 hmc
    go_wp2
    have hz := set7 HBZ.out (.int .i64 4) (.int .i32 0) (.slice (some ⟨g, 0, none⟩) m cap) (.int .i32 priv) (.int .i32 inter) (.int .i32 r) (.string ⟨#[]⟩)
    have hcz := chg7 HCB.out (Nat.le_refl w.heap.size) (.int .i64 4) (.int .i32 0) (.slice (some ⟨g, 0, none⟩) m cap) (.int .i32 priv) (.int .i32 inter) (.int .i32 r) (.string ⟨#[]⟩)
    generalize (((((((World.setCell _ ⟨w.heap.size, 0, none⟩ _).setCell ⟨w.heap.size, 1, none⟩ _).setCell ⟨w.heap.size, 2, none⟩ _).setCell ⟨w.heap.size, 3, none⟩ _).setCell ⟨w.heap.size, 4, none⟩ _).setCell ⟨w.heap.size, 5, none⟩ _).setCell ⟨w.heap.size, 6, none⟩ _) = wz at *
    have c0 := hz.cell 0
    have c1 := hz.cell 1
    have c2 := hz.cell 2
    have c3 := hz.cell 3
    have c4 := hz.cell 4
    have c5 := hz.cell 5
    have c6 := hz.cell 6
    simp only [List.getElem?_toArray, List.getElem?_cons_zero, List.getElem?_cons_succ] at c0 c1 c2 c3 c4 c5 c6
    refine bodyPost_ret (v := .agg #[.int .i64 4, .int .i32 0, (.slice (some ⟨g, 0, none⟩) m cap), .int .i32 priv, .int .i32 inter, .int .i32 r, .string ⟨#[]⟩]) (by simp [results, Try.results36, go_sem, c0, c1, c2, c3, c4, c5, c6]) rfl ?_
    exact ⟨rfl, hcz⟩
end Go.Proofs.Ytaficleoimfejaa
