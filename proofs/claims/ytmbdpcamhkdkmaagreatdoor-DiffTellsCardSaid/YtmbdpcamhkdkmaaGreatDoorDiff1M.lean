/-
  Package diff: head (all but the cells).
-/
import Derived.Test.YtmbdpcamhkdkmaaGreatDoorMg25
import Derived.Test.YtmbdpcamhkdkmaaGreatDoorMg8
import Derived.Test.YtmbdpcamhkdkmaaGreatDoorMg28
import Derived.Test.YtmbdpcamhkdkmaaGreatDoorDecUM
namespace Go.Proofs.YtmbdpcamhkdkmaaGreatDoor
open Go.RowKit
set_option linter.unusedVariables false
set_option linter.unusedSimpArgs false

theorem Bx.kept2 {w wr w' : World} {v : Value} {L : List Int} (h : Bx w wr v L) (hc : Chg wr w' nob) : Bx w w' v L := h.keptC hc
theorem Bx.aft {w w1 wr : World} {v : Value} {L : List Int} (h : Bx w1 wr v L) (hc : Chg w w1 nob) : Bx w wr v L := h.newer hc
theorem wpList_bxs {o : Oper} {a : Act} {Q : Exit → Act → World → Prop} {w0 w : World} {ops : Array Oper} {rest : List Oper} (hgd : o.guard = none) (s x : Operand) (ho : o.op = .call { callee := .builtin .append, args := #[s, x], argTypes := #[25, 9] })
    (v : Value) (L : List Int) (hs : a.eval s = v) (hB : Bx w0 w v L) (t : ByteArray) (hx : a.eval x = .string t) (hl : L.length + t.size ≤ 140737488355328)
    (h : ∀ v' w', Bx w0 w' v' (L ++ numsS t) → Chg w w' (blkOf v) → wpList Tryz.prog ops Q rest (a.put o.dst v') w') : wpList Tryz.prog ops Q (o :: rest) a w :=
  wpList_plain hgd fun _ hK => wp_bxs s x ho v L hs hB t hx hl fun v' w' h1 h2 => hK _ _ (h v' w' h1 h2)
set_option maxRecDepth 100000 in
set_option maxHeartbeats 4000000 in
theorem dhead_any (w : World) (s : Sc) (va : Value) (hs : s.t.size ≤ 100000) :
    Calls Tryz.prog 16 #[scS s va] w fun e w' => ∃ v, e = .returned v ∧ Bx w w' v (headD s) := by
  obtain ⟨r, c, l, y, x, h, t⟩ := s
  simp only at hs ⊢
  have HD : Hid (headD ⟨r, c, l, y, x, h, t⟩ = varL (u64N y) ++ (varL (u64N x) ++ ([(bitN h : Int)] ++ (varL (u64N t.size) ++ numsS t)))) := Lib.hid (by
    unfold headD
    rw [varL_lt (n := bitN h) (by have := bitN_b h; omega)])
  have hy := varL_len 9 (u64N y) (by have := u64N_lt y; omega)
  have hx := varL_len 9 (u64N x) (by have := u64N_lt x; omega)
  have ht := varL_len 9 (u64N t.size) (by have := u64N_lt t.size; omega)
  have ey := u64N_int y
  have ex := u64N_int x
  have et := u64N_int t.size
  have hny := u64N_lt y
  have hnx := u64N_lt x
  have hnt := u64N_lt t.size
  obtain ⟨ny, eny⟩ : ∃ n, u64N y = n := ⟨_, rfl⟩
  obtain ⟨nx, enx⟩ : ∃ n, u64N x = n := ⟨_, rfl⟩
  obtain ⟨nt, ent⟩ : ∃ n, u64N t.size = n := ⟨_, rfl⟩
  rw [eny] at HD hy ey hny
  rw [enx] at HD hx ex hnx
  rw [ent] at HD ht et hnt
  clear eny enx ent
  go_enter Tryz.func16, Tryz.ntmps16
  go_upto_region 1 with (fail)
  obtain ⟨w1, hw⟩ : ∃ W, w.alloc (.cells (scA r c va y x h t) 24) = W := ⟨_, rfl⟩
  have HB : Hid (Blk w1 w.heap.size 24 (scA r c va y x h t)) := Lib.hid (by rw [← hw]; exact Blk.new w _ _)
  have HC : Hid (Chg w w1 nob) := Lib.hid (by rw [← hw]; exact (Chg.refl w nob).alloc _)
  rw [hw]
  clear hw
  obtain ⟨ia, hia⟩ : ∃ i, w.heap.size = i := ⟨_, rfl⟩
  rw [hia] at HB ⊢
  clear hia
  refine wp_one [1, 5] [3, 7, 8] [(3, [5])] [0, 1, 2, 4, 5, 6, 3, 7, 8, 9] rfl (by kernel_rfl) (fun _ _ _ _ _ h => h) ?_; simp only [List.map_cons, List.map_nil, List.getElem?_toArray, List.getElem?_cons_zero, List.getElem?_cons_succ]
  obtain ⟨w2, hw⟩ : ∃ W, World.drew w1 = W := ⟨_, rfl⟩
  have hck : Chg w1 w2 nob := by rw [← hw]; exact (Chg.refl w1 nob).drew
  rw [hw]
  clear hw
  replace HB := Lib.hid (HB.out.kept hck id)
  replace HC := Lib.hid (HC.out.trans hck (fun _ _ h => h))
  clear hck
  have u3 := HB.out.cell 3
  have u4 := HB.out.cell 4
  have u5 := HB.out.cell 5
  have u6 := HB.out.cell 6
  simp only [List.getElem?_toArray, List.getElem?_cons_zero, List.getElem?_cons_succ] at u3 u4 u5 u6
  (repeat (first | (apply can0; (· rfl); (· rfl); (· (intro w'; first | (go_simp; with_reducible rfl) | (go_simp; done))); simp only [Act.put, List.setIfInBounds_toArray, List.set_cons_zero, List.set_cons_succ]) | (apply can1; (· rfl); (· rfl); (· (first | (go_simp; with_reducible rfl) | (go_simp; done))); simp only [Act.put, List.setIfInBounds_toArray, List.set_cons_zero, List.set_cons_succ]) | (apply canN; (· rfl); (· rfl); simp only [Act.put, List.setIfInBounds_toArray, List.set_cons_zero, List.set_cons_succ]) | (apply canN1; (· rfl); (· rfl); simp only [Act.put, List.setIfInBounds_toArray, List.set_cons_zero, List.set_cons_succ]) | (apply can0; (· rfl); (· (go_simp; done)); (· (intro w'; first | (go_simp; with_reducible rfl) | (go_simp; done))); simp only [Act.put, List.setIfInBounds_toArray, List.set_cons_zero, List.set_cons_succ]) | (apply can1; (· rfl); (· (go_simp; done)); (· (first | (go_simp; with_reducible rfl) | (go_simp; done))); simp only [Act.put, List.setIfInBounds_toArray, List.set_cons_zero, List.set_cons_succ]) | (apply canN; (· rfl); (· (go_simp; done)); simp only [Act.put, List.setIfInBounds_toArray, List.set_cons_zero, List.set_cons_succ]) | (apply canN1; (· rfl); (· (go_simp; done)); simp only [Act.put, List.setIfInBounds_toArray, List.set_cons_zero, List.set_cons_succ])))
  refine canW rfl [5] rfl (fun K hK => ?_)
  go_simp
  go_at_call 44
  refine (var_any _ ny hny).mono ?_
  rintro e w3 ⟨v3, rfl, hb⟩
  have hck := hb.2.1
  clear u3 u4 u5 u6
  replace HB := Lib.hid (HB.out.kept hck id)
  have u3 := HB.out.cell 3
  have u4 := HB.out.cell 4
  have u5 := HB.out.cell 5
  have u6 := HB.out.cell 6
  simp only [List.getElem?_toArray, List.getElem?_cons_zero, List.getElem?_cons_succ] at u3 u4 u5 u6
  have HV3 := Lib.hid (hb.newer HC.out)
  replace HC := Lib.hid (HC.out.trans hck (fun _ _ h => h))
  clear hck hb
  (refine hK _ _ (fun u hu => by (simp only [List.mem_cons, List.not_mem_nil, or_false] at hu); (first | (subst hu; exact reRun_mk rfl (by first | (go_simp; with_reducible rfl) | (go_simp; done)) (holds_at rfl)) | ((repeat' (first | (rcases hu with rfl | hu) | (subst hu))) <;> exact reRun_mk rfl (by first | (go_simp; with_reducible rfl) | (go_simp; done)) (holds_at rfl)))) ?_; clear hK K; try simp only [Act.put, List.setIfInBounds_toArray, List.set_cons_zero, List.set_cons_succ])
  (repeat (first | (apply can0; (· rfl); (· rfl); (· (intro w'; first | (go_simp; with_reducible rfl) | (go_simp; done))); simp only [Act.put, List.setIfInBounds_toArray, List.set_cons_zero, List.set_cons_succ]) | (apply can1; (· rfl); (· rfl); (· (first | (go_simp; with_reducible rfl) | (go_simp; done))); simp only [Act.put, List.setIfInBounds_toArray, List.set_cons_zero, List.set_cons_succ]) | (apply canN; (· rfl); (· rfl); simp only [Act.put, List.setIfInBounds_toArray, List.set_cons_zero, List.set_cons_succ]) | (apply canN1; (· rfl); (· rfl); simp only [Act.put, List.setIfInBounds_toArray, List.set_cons_zero, List.set_cons_succ]) | (apply can0; (· rfl); (· (go_simp; done)); (· (intro w'; first | (go_simp; with_reducible rfl) | (go_simp; done))); simp only [Act.put, List.setIfInBounds_toArray, List.set_cons_zero, List.set_cons_succ]) | (apply can1; (· rfl); (· (go_simp; done)); (· (first | (go_simp; with_reducible rfl) | (go_simp; done))); simp only [Act.put, List.setIfInBounds_toArray, List.set_cons_zero, List.set_cons_succ]) | (apply canN; (· rfl); (· (go_simp; done)); simp only [Act.put, List.setIfInBounds_toArray, List.set_cons_zero, List.set_cons_succ]) | (apply canN1; (· rfl); (· (go_simp; done)); simp only [Act.put, List.setIfInBounds_toArray, List.set_cons_zero, List.set_cons_succ])))
  refine canW rfl [] rfl (fun K hK => ?_)
  go_simp
  go_at_call 44
  refine (var_any _ nx hnx).mono ?_
  rintro e w4 ⟨v4, rfl, hb⟩
  have hck := hb.2.1
  clear u3 u4 u5 u6
  replace HB := Lib.hid (HB.out.kept hck id)
  have u3 := HB.out.cell 3
  have u4 := HB.out.cell 4
  have u5 := HB.out.cell 5
  have u6 := HB.out.cell 6
  simp only [List.getElem?_toArray, List.getElem?_cons_zero, List.getElem?_cons_succ] at u3 u4 u5 u6
  have HV4 := Lib.hid hb.1
  replace HV3 := Lib.hid (HV3.out.keptC hck)
  replace HC := Lib.hid (HC.out.trans hck (fun _ _ h => h))
  clear hck hb
  obtain ⟨a3, c3, rfl, _⟩ := HV3.out.1.form
  obtain ⟨a4, c4, rfl, _⟩ := HV4.out.form
  (refine hK _ _ (fun u hu => by cases hu) ?_; clear hK K; try simp only [Act.put, List.setIfInBounds_toArray, List.set_cons_zero, List.set_cons_succ])
  refine canW rfl [] rfl (fun K hK => ?_)
  rw [if_pos (by rfl)]
  refine wp_bx _ _ rfl _ (varL ny) rfl HV3.out _ (varL nx) rfl HV4.out (by omega) ?_
  intro v5 w5 hb5 hc5
  replace HB := Lib.hid (HB.out.kept hc5 (fun hk => HV3.out.1.ne HB.out (by decide) hk))
  have HV := Lib.hid hb5
  clear hb5 hc5 HV3 HV4 HC u3 u4 u5 u6
  obtain ⟨L5, heL5⟩ : ∃ L, varL ny ++ varL nx = L := ⟨_, rfl⟩
  have hlL5 : L5.length ≤ 20 := by rw [← heL5]; simp only [List.length_append, List.length_cons, List.length_nil]; omega
  rw [heL5] at HV
  have HEL5 := Lib.hid heL5
  clear heL5
  obtain ⟨a5, c5, rfl, _⟩ := HV.out.1.form
  have u3 := HB.out.cell 3
  have u4 := HB.out.cell 4
  have u5 := HB.out.cell 5
  have u6 := HB.out.cell 6
  simp only [List.getElem?_toArray, List.getElem?_cons_zero, List.getElem?_cons_succ] at u3 u4 u5 u6
  (refine hK _ _ (fun u hu => by cases hu) ?_; clear hK K; try simp only [Act.put, List.setIfInBounds_toArray, List.set_cons_zero, List.set_cons_succ])
  (repeat (first | (apply can0; (· rfl); (· rfl); (· (intro w'; first | (go_simp; with_reducible rfl) | (go_simp; done))); simp only [Act.put, List.setIfInBounds_toArray, List.set_cons_zero, List.set_cons_succ]) | (apply can1; (· rfl); (· rfl); (· (first | (go_simp; with_reducible rfl) | (go_simp; done))); simp only [Act.put, List.setIfInBounds_toArray, List.set_cons_zero, List.set_cons_succ]) | (apply canN; (· rfl); (· rfl); simp only [Act.put, List.setIfInBounds_toArray, List.set_cons_zero, List.set_cons_succ]) | (apply canN1; (· rfl); (· rfl); simp only [Act.put, List.setIfInBounds_toArray, List.set_cons_zero, List.set_cons_succ]) | (apply can0; (· rfl); (· (go_simp; done)); (· (intro w'; first | (go_simp; with_reducible rfl) | (go_simp; done))); simp only [Act.put, List.setIfInBounds_toArray, List.set_cons_zero, List.set_cons_succ]) | (apply can1; (· rfl); (· (go_simp; done)); (· (first | (go_simp; with_reducible rfl) | (go_simp; done))); simp only [Act.put, List.setIfInBounds_toArray, List.set_cons_zero, List.set_cons_succ]) | (apply canN; (· rfl); (· (go_simp; done)); simp only [Act.put, List.setIfInBounds_toArray, List.set_cons_zero, List.set_cons_succ]) | (apply canN1; (· rfl); (· (go_simp; done)); simp only [Act.put, List.setIfInBounds_toArray, List.set_cons_zero, List.set_cons_succ])))
  refine canE ?_
  cases h with
  | false =>
    go_upto_region 5 with (fail)
    refine wp_one [5] [2, 3, 8, 9] [(2, [5]), (3, [5])] [0, 1, 4, 5, 6, 7, 2, 3, 8, 9, 10] rfl (by kernel_rfl) (fun _ _ _ _ _ h => h) ?_; simp only [List.map_cons, List.map_nil, List.getElem?_toArray, List.getElem?_cons_zero, List.getElem?_cons_succ]
    obtain ⟨w6, hw⟩ : ∃ W, World.drew w5 = W := ⟨_, rfl⟩
    have hck : Chg w5 w6 nob := by rw [← hw]; exact (Chg.refl w5 nob).drew
    rw [hw]
    clear hw
    replace HB := Lib.hid (HB.out.kept hck id)
    replace HV := Lib.hid (HV.out.keptC hck)
    clear hck u3 u4 u5 u6
    have u3 := HB.out.cell 3
    have u4 := HB.out.cell 4
    have u5 := HB.out.cell 5
    have u6 := HB.out.cell 6
    simp only [List.getElem?_toArray, List.getElem?_cons_zero, List.getElem?_cons_succ] at u3 u4 u5 u6
    (repeat (first | (apply can0; (· rfl); (· rfl); (· (intro w'; first | (go_simp; with_reducible rfl) | (go_simp; done))); simp only [Act.put, List.setIfInBounds_toArray, List.set_cons_zero, List.set_cons_succ]) | (apply can1; (· rfl); (· rfl); (· (first | (go_simp; with_reducible rfl) | (go_simp; done))); simp only [Act.put, List.setIfInBounds_toArray, List.set_cons_zero, List.set_cons_succ]) | (apply canN; (· rfl); (· rfl); simp only [Act.put, List.setIfInBounds_toArray, List.set_cons_zero, List.set_cons_succ]) | (apply canN1; (· rfl); (· rfl); simp only [Act.put, List.setIfInBounds_toArray, List.set_cons_zero, List.set_cons_succ]) | (apply can0; (· rfl); (· (go_simp; done)); (· (intro w'; first | (go_simp; with_reducible rfl) | (go_simp; done))); simp only [Act.put, List.setIfInBounds_toArray, List.set_cons_zero, List.set_cons_succ]) | (apply can1; (· rfl); (· (go_simp; done)); (· (first | (go_simp; with_reducible rfl) | (go_simp; done))); simp only [Act.put, List.setIfInBounds_toArray, List.set_cons_zero, List.set_cons_succ]) | (apply canN; (· rfl); (· (go_simp; done)); simp only [Act.put, List.setIfInBounds_toArray, List.set_cons_zero, List.set_cons_succ]) | (apply canN1; (· rfl); (· (go_simp; done)); simp only [Act.put, List.setIfInBounds_toArray, List.set_cons_zero, List.set_cons_succ])))
    refine canW rfl [5] rfl (fun K hK => ?_)
    go_simp
    obtain ⟨w7, hw⟩ : ∃ W, w6.alloc (.cells #[.int .u8 0] 5) = W := ⟨_, rfl⟩
    have hck : Chg w6 w7 nob := by rw [← hw]; exact (Chg.refl w6 nob).alloc _
    have HO : Hid (Own w7 5 1 (.slice (some ⟨w6.heap.size, 0, none⟩) 1 1) 1 [.int .u8 0]) := Lib.hid (by rw [← hw]; exact Own.lit w6 5 #[.int .u8 0] (by decide))
    rw [hw]
    clear hw
    replace HB := Lib.hid (HB.out.kept hck id)
    replace HV := Lib.hid (HV.out.keptC hck)
    clear hck u3 u4 u5 u6
    have u3 := HB.out.cell 3
    have u4 := HB.out.cell 4
    have u5 := HB.out.cell 5
    have u6 := HB.out.cell 6
    simp only [List.getElem?_toArray, List.getElem?_cons_zero, List.getElem?_cons_succ] at u3 u4 u5 u6
    (refine hK _ _ (fun u hu => by (simp only [List.mem_cons, List.not_mem_nil, or_false] at hu); (first | (subst hu; exact reRun_mk rfl (by first | (go_simp; with_reducible rfl) | (go_simp; done)) (holds_at rfl)) | ((repeat' (first | (rcases hu with rfl | hu) | (subst hu))) <;> exact reRun_mk rfl (by first | (go_simp; with_reducible rfl) | (go_simp; done)) (holds_at rfl)))) ?_; clear hK K; try simp only [Act.put, List.setIfInBounds_toArray, List.set_cons_zero, List.set_cons_succ])
    (repeat (first | (apply can0; (· rfl); (· rfl); (· (intro w'; first | (go_simp; with_reducible rfl) | (go_simp; done))); simp only [Act.put, List.setIfInBounds_toArray, List.set_cons_zero, List.set_cons_succ]) | (apply can1; (· rfl); (· rfl); (· (first | (go_simp; with_reducible rfl) | (go_simp; done))); simp only [Act.put, List.setIfInBounds_toArray, List.set_cons_zero, List.set_cons_succ]) | (apply canN; (· rfl); (· rfl); simp only [Act.put, List.setIfInBounds_toArray, List.set_cons_zero, List.set_cons_succ]) | (apply canN1; (· rfl); (· rfl); simp only [Act.put, List.setIfInBounds_toArray, List.set_cons_zero, List.set_cons_succ]) | (apply can0; (· rfl); (· (go_simp; done)); (· (intro w'; first | (go_simp; with_reducible rfl) | (go_simp; done))); simp only [Act.put, List.setIfInBounds_toArray, List.set_cons_zero, List.set_cons_succ]) | (apply can1; (· rfl); (· (go_simp; done)); (· (first | (go_simp; with_reducible rfl) | (go_simp; done))); simp only [Act.put, List.setIfInBounds_toArray, List.set_cons_zero, List.set_cons_succ]) | (apply canN; (· rfl); (· (go_simp; done)); simp only [Act.put, List.setIfInBounds_toArray, List.set_cons_zero, List.set_cons_succ]) | (apply canN1; (· rfl); (· (go_simp; done)); simp only [Act.put, List.setIfInBounds_toArray, List.set_cons_zero, List.set_cons_succ])))
    refine canW rfl [5] rfl (fun K hK => ?_)
    rw [if_pos (by rfl)]
    refine wp_bx _ _ rfl _ L5 rfl HV.out _ [0] rfl HO.out (by simp; omega) ?_
    intro v8 w8 hb8 hc8
    replace HB := Lib.hid (HB.out.kept hc8 (fun hk => HV.out.1.ne HB.out (by decide) hk))
    replace HV := Lib.hid hb8
    clear hb8 hc8 HO u3 u4 u5 u6
    obtain ⟨L8, heL8⟩ : ∃ L, L5 ++ [(0 : Int)] = L := ⟨_, rfl⟩
    have hlL8 : L8.length ≤ 30 := by rw [← heL8]; simp only [List.length_append, List.length_cons, List.length_nil]; omega
    rw [heL8] at HV
    have HEL8 := Lib.hid heL8
    clear heL8
    obtain ⟨a8, c8, rfl, _⟩ := HV.out.1.form
    have u3 := HB.out.cell 3
    have u4 := HB.out.cell 4
    have u5 := HB.out.cell 5
    have u6 := HB.out.cell 6
    simp only [List.getElem?_toArray, List.getElem?_cons_zero, List.getElem?_cons_succ] at u3 u4 u5 u6
    (refine hK _ _ (fun u hu => by (simp only [List.mem_cons, List.not_mem_nil, or_false] at hu); (first | (subst hu; exact reRun_mk rfl (by first | (go_simp; with_reducible rfl) | (go_simp; done)) (holds_at rfl)) | ((repeat' (first | (rcases hu with rfl | hu) | (subst hu))) <;> exact reRun_mk rfl (by first | (go_simp; with_reducible rfl) | (go_simp; done)) (holds_at rfl)))) ?_; clear hK K; try simp only [Act.put, List.setIfInBounds_toArray, List.set_cons_zero, List.set_cons_succ])
    (repeat (first | (apply can0; (· rfl); (· rfl); (· (intro w'; first | (go_simp; with_reducible rfl) | (go_simp; done))); simp only [Act.put, List.setIfInBounds_toArray, List.set_cons_zero, List.set_cons_succ]) | (apply can1; (· rfl); (· rfl); (· (first | (go_simp; with_reducible rfl) | (go_simp; done))); simp only [Act.put, List.setIfInBounds_toArray, List.set_cons_zero, List.set_cons_succ]) | (apply canN; (· rfl); (· rfl); simp only [Act.put, List.setIfInBounds_toArray, List.set_cons_zero, List.set_cons_succ]) | (apply canN1; (· rfl); (· rfl); simp only [Act.put, List.setIfInBounds_toArray, List.set_cons_zero, List.set_cons_succ]) | (apply can0; (· rfl); (· (go_simp; done)); (· (intro w'; first | (go_simp; with_reducible rfl) | (go_simp; done))); simp only [Act.put, List.setIfInBounds_toArray, List.set_cons_zero, List.set_cons_succ]) | (apply can1; (· rfl); (· (go_simp; done)); (· (first | (go_simp; with_reducible rfl) | (go_simp; done))); simp only [Act.put, List.setIfInBounds_toArray, List.set_cons_zero, List.set_cons_succ]) | (apply canN; (· rfl); (· (go_simp; done)); simp only [Act.put, List.setIfInBounds_toArray, List.set_cons_zero, List.set_cons_succ]) | (apply canN1; (· rfl); (· (go_simp; done)); simp only [Act.put, List.setIfInBounds_toArray, List.set_cons_zero, List.set_cons_succ])))
    refine canW rfl [] rfl (fun K hK => ?_)
    go_simp
    go_at_call 44
    refine (var_any _ nt hnt).mono ?_
    rintro e w9 ⟨v9, rfl, hb⟩
    have hck := hb.2.1
    clear u3 u4 u5 u6
    replace HB := Lib.hid (HB.out.kept hck id)
    have u3 := HB.out.cell 3
    have u4 := HB.out.cell 4
    have u5 := HB.out.cell 5
    have u6 := HB.out.cell 6
    simp only [List.getElem?_toArray, List.getElem?_cons_zero, List.getElem?_cons_succ] at u3 u4 u5 u6
    have HV9 := Lib.hid hb.1
    replace HV := Lib.hid (HV.out.keptC hck)
    clear hck hb
    obtain ⟨a9, c9, rfl, _⟩ := HV9.out.form
    (refine hK _ _ (fun u hu => by cases hu) ?_; clear hK K; try simp only [Act.put, List.setIfInBounds_toArray, List.set_cons_zero, List.set_cons_succ])
    (repeat (first | (apply can0; (· rfl); (· rfl); (· (intro w'; first | (go_simp; with_reducible rfl) | (go_simp; done))); simp only [Act.put, List.setIfInBounds_toArray, List.set_cons_zero, List.set_cons_succ]) | (apply can1; (· rfl); (· rfl); (· (first | (go_simp; with_reducible rfl) | (go_simp; done))); simp only [Act.put, List.setIfInBounds_toArray, List.set_cons_zero, List.set_cons_succ]) | (apply canN; (· rfl); (· rfl); simp only [Act.put, List.setIfInBounds_toArray, List.set_cons_zero, List.set_cons_succ]) | (apply canN1; (· rfl); (· rfl); simp only [Act.put, List.setIfInBounds_toArray, List.set_cons_zero, List.set_cons_succ]) | (apply can0; (· rfl); (· (go_simp; done)); (· (intro w'; first | (go_simp; with_reducible rfl) | (go_simp; done))); simp only [Act.put, List.setIfInBounds_toArray, List.set_cons_zero, List.set_cons_succ]) | (apply can1; (· rfl); (· (go_simp; done)); (· (first | (go_simp; with_reducible rfl) | (go_simp; done))); simp only [Act.put, List.setIfInBounds_toArray, List.set_cons_zero, List.set_cons_succ]) | (apply canN; (· rfl); (· (go_simp; done)); simp only [Act.put, List.setIfInBounds_toArray, List.set_cons_zero, List.set_cons_succ]) | (apply canN1; (· rfl); (· (go_simp; done)); simp only [Act.put, List.setIfInBounds_toArray, List.set_cons_zero, List.set_cons_succ])))
    refine canW rfl [] rfl (fun K hK => ?_)
    rw [if_pos (by rfl)]
    refine wp_bx _ _ rfl _ L8 rfl HV.out _ (varL nt) rfl HV9.out (by omega) ?_
    intro v10 w10 hb10 hc10
    replace HB := Lib.hid (HB.out.kept hc10 (fun hk => HV.out.1.ne HB.out (by decide) hk))
    replace HV := Lib.hid hb10
    clear hb10 hc10 HV9 u3 u4 u5 u6
    obtain ⟨L10, heL10⟩ : ∃ L, L8 ++ varL nt = L := ⟨_, rfl⟩
    have hlL10 : L10.length ≤ 60 := by rw [← heL10]; simp only [List.length_append, List.length_cons, List.length_nil]; omega
    rw [heL10] at HV
    have HEL10 := Lib.hid heL10
    clear heL10
    obtain ⟨a10, c10, rfl, _⟩ := HV.out.1.form
    have u3 := HB.out.cell 3
    have u4 := HB.out.cell 4
    have u5 := HB.out.cell 5
    have u6 := HB.out.cell 6
    simp only [List.getElem?_toArray, List.getElem?_cons_zero, List.getElem?_cons_succ] at u3 u4 u5 u6
    (refine hK _ _ (fun u hu => by cases hu) ?_; clear hK K; try simp only [Act.put, List.setIfInBounds_toArray, List.set_cons_zero, List.set_cons_succ])
    (repeat (first | (apply can0; (· rfl); (· rfl); (· (intro w'; first | (go_simp; with_reducible rfl) | (go_simp; done))); simp only [Act.put, List.setIfInBounds_toArray, List.set_cons_zero, List.set_cons_succ]) | (apply can1; (· rfl); (· rfl); (· (first | (go_simp; with_reducible rfl) | (go_simp; done))); simp only [Act.put, List.setIfInBounds_toArray, List.set_cons_zero, List.set_cons_succ]) | (apply canN; (· rfl); (· rfl); simp only [Act.put, List.setIfInBounds_toArray, List.set_cons_zero, List.set_cons_succ]) | (apply canN1; (· rfl); (· rfl); simp only [Act.put, List.setIfInBounds_toArray, List.set_cons_zero, List.set_cons_succ]) | (apply can0; (· rfl); (· (go_simp; done)); (· (intro w'; first | (go_simp; with_reducible rfl) | (go_simp; done))); simp only [Act.put, List.setIfInBounds_toArray, List.set_cons_zero, List.set_cons_succ]) | (apply can1; (· rfl); (· (go_simp; done)); (· (first | (go_simp; with_reducible rfl) | (go_simp; done))); simp only [Act.put, List.setIfInBounds_toArray, List.set_cons_zero, List.set_cons_succ]) | (apply canN; (· rfl); (· (go_simp; done)); simp only [Act.put, List.setIfInBounds_toArray, List.set_cons_zero, List.set_cons_succ]) | (apply canN1; (· rfl); (· (go_simp; done)); simp only [Act.put, List.setIfInBounds_toArray, List.set_cons_zero, List.set_cons_succ])))
    refine canE ?_
    go_wp2_with (at_builtin; refine wpList_bxs rfl (.tmp 26) (.tmp 28) rfl _ L10 rfl HV.out t rfl (by omega) ?_)
    intro v11 w11 hb11 _
    have HF := Lib.hid hb11
    clear hb11
    go_wp2
    go_ret
    refine ⟨_, rfl, ?_⟩
    have hf := HF.out
    rw [← HEL10.out, ← HEL8.out, ← HEL5.out] at hf
    rw [HD.out]
    simpa [bitN] using hf
  | true =>
    go_upto_region 5 with (fail)
    refine wp_one [5] [2, 3, 8, 9] [(2, [5]), (3, [5])] [0, 1, 4, 5, 6, 7, 2, 3, 8, 9, 10] rfl (by kernel_rfl) (fun _ _ _ _ _ h => h) ?_; simp only [List.map_cons, List.map_nil, List.getElem?_toArray, List.getElem?_cons_zero, List.getElem?_cons_succ]
    obtain ⟨w6, hw⟩ : ∃ W, World.drew w5 = W := ⟨_, rfl⟩
    have hck : Chg w5 w6 nob := by rw [← hw]; exact (Chg.refl w5 nob).drew
    rw [hw]
    clear hw
    replace HB := Lib.hid (HB.out.kept hck id)
    replace HV := Lib.hid (HV.out.keptC hck)
    clear hck u3 u4 u5 u6
    have u3 := HB.out.cell 3
    have u4 := HB.out.cell 4
    have u5 := HB.out.cell 5
    have u6 := HB.out.cell 6
    simp only [List.getElem?_toArray, List.getElem?_cons_zero, List.getElem?_cons_succ] at u3 u4 u5 u6
    (repeat (first | (apply can0; (· rfl); (· rfl); (· (intro w'; first | (go_simp; with_reducible rfl) | (go_simp; done))); simp only [Act.put, List.setIfInBounds_toArray, List.set_cons_zero, List.set_cons_succ]) | (apply can1; (· rfl); (· rfl); (· (first | (go_simp; with_reducible rfl) | (go_simp; done))); simp only [Act.put, List.setIfInBounds_toArray, List.set_cons_zero, List.set_cons_succ]) | (apply canN; (· rfl); (· rfl); simp only [Act.put, List.setIfInBounds_toArray, List.set_cons_zero, List.set_cons_succ]) | (apply canN1; (· rfl); (· rfl); simp only [Act.put, List.setIfInBounds_toArray, List.set_cons_zero, List.set_cons_succ]) | (apply can0; (· rfl); (· (go_simp; done)); (· (intro w'; first | (go_simp; with_reducible rfl) | (go_simp; done))); simp only [Act.put, List.setIfInBounds_toArray, List.set_cons_zero, List.set_cons_succ]) | (apply can1; (· rfl); (· (go_simp; done)); (· (first | (go_simp; with_reducible rfl) | (go_simp; done))); simp only [Act.put, List.setIfInBounds_toArray, List.set_cons_zero, List.set_cons_succ]) | (apply canN; (· rfl); (· (go_simp; done)); simp only [Act.put, List.setIfInBounds_toArray, List.set_cons_zero, List.set_cons_succ]) | (apply canN1; (· rfl); (· (go_simp; done)); simp only [Act.put, List.setIfInBounds_toArray, List.set_cons_zero, List.set_cons_succ])))
    refine canW rfl [5] rfl (fun K hK => ?_)
    go_simp
    obtain ⟨w7, hw⟩ : ∃ W, w6.alloc (.cells #[.int .u8 1] 5) = W := ⟨_, rfl⟩
    have hck : Chg w6 w7 nob := by rw [← hw]; exact (Chg.refl w6 nob).alloc _
    have HO : Hid (Own w7 5 1 (.slice (some ⟨w6.heap.size, 0, none⟩) 1 1) 1 [.int .u8 1]) := Lib.hid (by rw [← hw]; exact Own.lit w6 5 #[.int .u8 1] (by decide))
    rw [hw]
    clear hw
    replace HB := Lib.hid (HB.out.kept hck id)
    replace HV := Lib.hid (HV.out.keptC hck)
    clear hck u3 u4 u5 u6
    have u3 := HB.out.cell 3
    have u4 := HB.out.cell 4
    have u5 := HB.out.cell 5
    have u6 := HB.out.cell 6
    simp only [List.getElem?_toArray, List.getElem?_cons_zero, List.getElem?_cons_succ] at u3 u4 u5 u6
    (refine hK _ _ (fun u hu => by (simp only [List.mem_cons, List.not_mem_nil, or_false] at hu); (first | (subst hu; exact reRun_mk rfl (by first | (go_simp; with_reducible rfl) | (go_simp; done)) (holds_at rfl)) | ((repeat' (first | (rcases hu with rfl | hu) | (subst hu))) <;> exact reRun_mk rfl (by first | (go_simp; with_reducible rfl) | (go_simp; done)) (holds_at rfl)))) ?_; clear hK K; try simp only [Act.put, List.setIfInBounds_toArray, List.set_cons_zero, List.set_cons_succ])
    (repeat (first | (apply can0; (· rfl); (· rfl); (· (intro w'; first | (go_simp; with_reducible rfl) | (go_simp; done))); simp only [Act.put, List.setIfInBounds_toArray, List.set_cons_zero, List.set_cons_succ]) | (apply can1; (· rfl); (· rfl); (· (first | (go_simp; with_reducible rfl) | (go_simp; done))); simp only [Act.put, List.setIfInBounds_toArray, List.set_cons_zero, List.set_cons_succ]) | (apply canN; (· rfl); (· rfl); simp only [Act.put, List.setIfInBounds_toArray, List.set_cons_zero, List.set_cons_succ]) | (apply canN1; (· rfl); (· rfl); simp only [Act.put, List.setIfInBounds_toArray, List.set_cons_zero, List.set_cons_succ]) | (apply can0; (· rfl); (· (go_simp; done)); (· (intro w'; first | (go_simp; with_reducible rfl) | (go_simp; done))); simp only [Act.put, List.setIfInBounds_toArray, List.set_cons_zero, List.set_cons_succ]) | (apply can1; (· rfl); (· (go_simp; done)); (· (first | (go_simp; with_reducible rfl) | (go_simp; done))); simp only [Act.put, List.setIfInBounds_toArray, List.set_cons_zero, List.set_cons_succ]) | (apply canN; (· rfl); (· (go_simp; done)); simp only [Act.put, List.setIfInBounds_toArray, List.set_cons_zero, List.set_cons_succ]) | (apply canN1; (· rfl); (· (go_simp; done)); simp only [Act.put, List.setIfInBounds_toArray, List.set_cons_zero, List.set_cons_succ])))
    refine canW rfl [5] rfl (fun K hK => ?_)
    rw [if_pos (by rfl)]
    refine wp_bx _ _ rfl _ L5 rfl HV.out _ [1] rfl HO.out (by simp; omega) ?_
    intro v8 w8 hb8 hc8
    replace HB := Lib.hid (HB.out.kept hc8 (fun hk => HV.out.1.ne HB.out (by decide) hk))
    replace HV := Lib.hid hb8
    clear hb8 hc8 HO u3 u4 u5 u6
    obtain ⟨L8, heL8⟩ : ∃ L, L5 ++ [(1 : Int)] = L := ⟨_, rfl⟩
    have hlL8 : L8.length ≤ 30 := by rw [← heL8]; simp only [List.length_append, List.length_cons, List.length_nil]; omega
    rw [heL8] at HV
    have HEL8 := Lib.hid heL8
    clear heL8
    obtain ⟨a8, c8, rfl, _⟩ := HV.out.1.form
    have u3 := HB.out.cell 3
    have u4 := HB.out.cell 4
    have u5 := HB.out.cell 5
    have u6 := HB.out.cell 6
    simp only [List.getElem?_toArray, List.getElem?_cons_zero, List.getElem?_cons_succ] at u3 u4 u5 u6
    (refine hK _ _ (fun u hu => by (simp only [List.mem_cons, List.not_mem_nil, or_false] at hu); (first | (subst hu; exact reRun_mk rfl (by first | (go_simp; with_reducible rfl) | (go_simp; done)) (holds_at rfl)) | ((repeat' (first | (rcases hu with rfl | hu) | (subst hu))) <;> exact reRun_mk rfl (by first | (go_simp; with_reducible rfl) | (go_simp; done)) (holds_at rfl)))) ?_; clear hK K; try simp only [Act.put, List.setIfInBounds_toArray, List.set_cons_zero, List.set_cons_succ])
    (repeat (first | (apply can0; (· rfl); (· rfl); (· (intro w'; first | (go_simp; with_reducible rfl) | (go_simp; done))); simp only [Act.put, List.setIfInBounds_toArray, List.set_cons_zero, List.set_cons_succ]) | (apply can1; (· rfl); (· rfl); (· (first | (go_simp; with_reducible rfl) | (go_simp; done))); simp only [Act.put, List.setIfInBounds_toArray, List.set_cons_zero, List.set_cons_succ]) | (apply canN; (· rfl); (· rfl); simp only [Act.put, List.setIfInBounds_toArray, List.set_cons_zero, List.set_cons_succ]) | (apply canN1; (· rfl); (· rfl); simp only [Act.put, List.setIfInBounds_toArray, List.set_cons_zero, List.set_cons_succ]) | (apply can0; (· rfl); (· (go_simp; done)); (· (intro w'; first | (go_simp; with_reducible rfl) | (go_simp; done))); simp only [Act.put, List.setIfInBounds_toArray, List.set_cons_zero, List.set_cons_succ]) | (apply can1; (· rfl); (· (go_simp; done)); (· (first | (go_simp; with_reducible rfl) | (go_simp; done))); simp only [Act.put, List.setIfInBounds_toArray, List.set_cons_zero, List.set_cons_succ]) | (apply canN; (· rfl); (· (go_simp; done)); simp only [Act.put, List.setIfInBounds_toArray, List.set_cons_zero, List.set_cons_succ]) | (apply canN1; (· rfl); (· (go_simp; done)); simp only [Act.put, List.setIfInBounds_toArray, List.set_cons_zero, List.set_cons_succ])))
    refine canW rfl [] rfl (fun K hK => ?_)
    go_simp
    go_at_call 44
    refine (var_any _ nt hnt).mono ?_
    rintro e w9 ⟨v9, rfl, hb⟩
    have hck := hb.2.1
    clear u3 u4 u5 u6
    replace HB := Lib.hid (HB.out.kept hck id)
    have u3 := HB.out.cell 3
    have u4 := HB.out.cell 4
    have u5 := HB.out.cell 5
    have u6 := HB.out.cell 6
    simp only [List.getElem?_toArray, List.getElem?_cons_zero, List.getElem?_cons_succ] at u3 u4 u5 u6
    have HV9 := Lib.hid hb.1
    replace HV := Lib.hid (HV.out.keptC hck)
    clear hck hb
    obtain ⟨a9, c9, rfl, _⟩ := HV9.out.form
    (refine hK _ _ (fun u hu => by cases hu) ?_; clear hK K; try simp only [Act.put, List.setIfInBounds_toArray, List.set_cons_zero, List.set_cons_succ])
    (repeat (first | (apply can0; (· rfl); (· rfl); (· (intro w'; first | (go_simp; with_reducible rfl) | (go_simp; done))); simp only [Act.put, List.setIfInBounds_toArray, List.set_cons_zero, List.set_cons_succ]) | (apply can1; (· rfl); (· rfl); (· (first | (go_simp; with_reducible rfl) | (go_simp; done))); simp only [Act.put, List.setIfInBounds_toArray, List.set_cons_zero, List.set_cons_succ]) | (apply canN; (· rfl); (· rfl); simp only [Act.put, List.setIfInBounds_toArray, List.set_cons_zero, List.set_cons_succ]) | (apply canN1; (· rfl); (· rfl); simp only [Act.put, List.setIfInBounds_toArray, List.set_cons_zero, List.set_cons_succ]) | (apply can0; (· rfl); (· (go_simp; done)); (· (intro w'; first | (go_simp; with_reducible rfl) | (go_simp; done))); simp only [Act.put, List.setIfInBounds_toArray, List.set_cons_zero, List.set_cons_succ]) | (apply can1; (· rfl); (· (go_simp; done)); (· (first | (go_simp; with_reducible rfl) | (go_simp; done))); simp only [Act.put, List.setIfInBounds_toArray, List.set_cons_zero, List.set_cons_succ]) | (apply canN; (· rfl); (· (go_simp; done)); simp only [Act.put, List.setIfInBounds_toArray, List.set_cons_zero, List.set_cons_succ]) | (apply canN1; (· rfl); (· (go_simp; done)); simp only [Act.put, List.setIfInBounds_toArray, List.set_cons_zero, List.set_cons_succ])))
    refine canW rfl [] rfl (fun K hK => ?_)
    rw [if_pos (by rfl)]
    refine wp_bx _ _ rfl _ L8 rfl HV.out _ (varL nt) rfl HV9.out (by omega) ?_
    intro v10 w10 hb10 hc10
    replace HB := Lib.hid (HB.out.kept hc10 (fun hk => HV.out.1.ne HB.out (by decide) hk))
    replace HV := Lib.hid hb10
    clear hb10 hc10 HV9 u3 u4 u5 u6
    obtain ⟨L10, heL10⟩ : ∃ L, L8 ++ varL nt = L := ⟨_, rfl⟩
    have hlL10 : L10.length ≤ 60 := by rw [← heL10]; simp only [List.length_append, List.length_cons, List.length_nil]; omega
    rw [heL10] at HV
    have HEL10 := Lib.hid heL10
    clear heL10
    obtain ⟨a10, c10, rfl, _⟩ := HV.out.1.form
    have u3 := HB.out.cell 3
    have u4 := HB.out.cell 4
    have u5 := HB.out.cell 5
    have u6 := HB.out.cell 6
    simp only [List.getElem?_toArray, List.getElem?_cons_zero, List.getElem?_cons_succ] at u3 u4 u5 u6
    (refine hK _ _ (fun u hu => by cases hu) ?_; clear hK K; try simp only [Act.put, List.setIfInBounds_toArray, List.set_cons_zero, List.set_cons_succ])
    (repeat (first | (apply can0; (· rfl); (· rfl); (· (intro w'; first | (go_simp; with_reducible rfl) | (go_simp; done))); simp only [Act.put, List.setIfInBounds_toArray, List.set_cons_zero, List.set_cons_succ]) | (apply can1; (· rfl); (· rfl); (· (first | (go_simp; with_reducible rfl) | (go_simp; done))); simp only [Act.put, List.setIfInBounds_toArray, List.set_cons_zero, List.set_cons_succ]) | (apply canN; (· rfl); (· rfl); simp only [Act.put, List.setIfInBounds_toArray, List.set_cons_zero, List.set_cons_succ]) | (apply canN1; (· rfl); (· rfl); simp only [Act.put, List.setIfInBounds_toArray, List.set_cons_zero, List.set_cons_succ]) | (apply can0; (· rfl); (· (go_simp; done)); (· (intro w'; first | (go_simp; with_reducible rfl) | (go_simp; done))); simp only [Act.put, List.setIfInBounds_toArray, List.set_cons_zero, List.set_cons_succ]) | (apply can1; (· rfl); (· (go_simp; done)); (· (first | (go_simp; with_reducible rfl) | (go_simp; done))); simp only [Act.put, List.setIfInBounds_toArray, List.set_cons_zero, List.set_cons_succ]) | (apply canN; (· rfl); (· (go_simp; done)); simp only [Act.put, List.setIfInBounds_toArray, List.set_cons_zero, List.set_cons_succ]) | (apply canN1; (· rfl); (· (go_simp; done)); simp only [Act.put, List.setIfInBounds_toArray, List.set_cons_zero, List.set_cons_succ])))
    refine canE ?_
    go_wp2_with (at_builtin; refine wpList_bxs rfl (.tmp 26) (.tmp 28) rfl _ L10 rfl HV.out t rfl (by omega) ?_)
    intro v11 w11 hb11 _
    have HF := Lib.hid hb11
    clear hb11
    go_wp2
    go_ret
    refine ⟨_, rfl, ?_⟩
    have hf := HF.out
    rw [← HEL10.out, ← HEL8.out, ← HEL5.out] at hf
    rw [HD.out]
    simpa [bitN] using hf
end Go.Proofs.YtmbdpcamhkdkmaaGreatDoor
