/-
  Package diff: the stretches of cells that differ.
-/
import Derived.Test.YtmbdpcamhkdkmaaGreatDoorDiff1M
import Derived.Test.YtmbdpcamhkdkmaaGreatDoorRunsM
namespace Go.Proofs.YtmbdpcamhkdkmaaGreatDoor
open Go.RowKit
set_option linter.unusedVariables false
set_option linter.unusedSimpArgs false

theorem difLen_next : ∀ (s t : List Ce) (j : Nat), s.length = t.length → j ≤ difLen s t → (s.length = j → j = difLen s t) ∧ ∀ a b, s[j]? = some a → t[j]? = some b → (a ≠ b → j < difLen s t) ∧ (a = b → j = difLen s t)
  | [], [], j, _, h => by
    simp only [difLen] at h
    obtain rfl : j = 0 := by omega
    exact ⟨fun _ => rfl, fun a b h => by simp at h⟩
  | [], _ :: _, _, h, _ => by simp at h
  | _ :: _, [], _, h, _ => by simp at h
  | a :: s, b :: t, 0, hl, h => by
    refine ⟨fun h => by simp at h, fun x y hx hy => ?_⟩
    simp at hx hy
    subst hx hy
    refine ⟨fun hne => by rw [difLen, if_neg hne]; omega, fun he => by rw [difLen, if_pos he]⟩
  | a :: s, b :: t, j + 1, hl, h => by
    rw [difLen] at h ⊢
    split at h
    · omega
    · rename_i hne
      rw [if_neg hne]
      have ih := difLen_next s t j (by simpa using hl) (by omega)
      refine ⟨fun h => by have := ih.1 (by simpa using h); omega, fun x y hx hy => ?_⟩
      have h2 := ih.2 x y (by simpa using hx) (by simpa using hy)
      exact ⟨fun h => by have := h2.1 h; omega, fun h => by have := h2.2 h; omega⟩
theorem strL_zero : ∀ (s t : List Ce), s.length = t.length → difLen s t = 0 → strL 0 s t = strL 1 (s.drop 1) (t.drop 1)
  | [], [], _, _ => by simp [strL_nil]
  | [], _ :: _, h, _ => by simp at h
  | _ :: _, [], h, _ => by simp at h
  | a :: s, b :: t, hl, h => by
    by_cases hab : a = b
    · subst hab; rw [strL_same]; rfl
    · rw [difLen, if_neg hab] at h; omega
theorem difLen_rest : ∀ (s t : List Ce), difLen (s.drop (difLen s t)) (t.drop (difLen s t)) = 0
  | [], t => by simp [difLen]
  | a :: s, [] => by simp [difLen]
  | a :: s, b :: t => by
    by_cases hab : a = b
    · have h0 : difLen (a :: s) (b :: t) = 0 := by rw [difLen, if_pos hab]
      rw [h0]; exact h0
    · have h0 : difLen (a :: s) (b :: t) = difLen s t + 1 := by rw [difLen, if_neg hab]
      rw [h0]; exact difLen_rest s t
/-- One round: from place i on. -/
theorem strL_step (gap i d : Nat) (s t : List Ce) (hl : s.length = t.length) (hi : i < t.length) (hd : difLen (s.drop i) (t.drop i) = d) :
    (d = 0 → strL gap (s.drop i) (t.drop i) = strL (gap + 1) (s.drop (i + 1)) (t.drop (i + 1))) ∧
    (0 < d → strL gap (s.drop i) (t.drop i) = varL gap ++ (varL d ++ (runsL ((t.take (i + d)).drop i) ++ strL 1 (s.drop (i + d + 1)) (t.drop (i + d + 1))))) := by
  obtain ⟨a, hs⟩ : ∃ a, s.drop i = a :: s.drop (i + 1) := ⟨s[i], List.drop_eq_getElem_cons (by omega)⟩
  obtain ⟨b, ht⟩ : ∃ b, t.drop i = b :: t.drop (i + 1) := ⟨t[i], List.drop_eq_getElem_cons hi⟩
  have hr := difLen_rest (s.drop i) (t.drop i)
  rw [hd, List.drop_drop, List.drop_drop] at hr
  have hz := strL_zero (s.drop (i + d)) (t.drop (i + d)) (by simp; omega) hr
  rw [List.drop_drop, List.drop_drop] at hz
  have htk : (t.take (i + d)).drop i = (t.drop i).take d := by rw [List.drop_take, show i + d - i = d by omega]
  rw [hs, ht] at hd ⊢
  rw [htk, ht]
  by_cases hab : a = b
  · subst hab
    rw [difLen, if_pos rfl] at hd
    subst hd
    exact ⟨fun _ => strL_same, fun h => absurd h (by omega)⟩
  · rw [difLen, if_neg hab] at hd
    obtain ⟨e, rfl⟩ : ∃ e, d = e + 1 := ⟨d - 1, by omega⟩
    have he : difLen (s.drop (i + 1)) (t.drop (i + 1)) = e := by omega
    refine ⟨fun h => by omega, fun _ => ?_⟩
    rw [strL_other hab, he, List.take_succ_cons, List.drop_drop, List.drop_drop, show i + 1 + e = i + (e + 1) by omega, hz]
theorem strL_len : ∀ (m : Nat) (gap : Nat) (s t : List Ce), s.length ≤ m → gap + s.length < 18446744073709551615 → (strL gap s t).length ≤ 80 * t.length := by
  intro m
  induction m with
  | zero =>
    intro gap s t hm _
    obtain rfl : s = [] := List.length_eq_zero_iff.1 (by omega)
    rw [strL_nil]; simp
  | succ m ih =>
    intro gap s t hm hg
    cases s with
    | nil => rw [strL_nil]; simp
    | cons a s =>
      cases t with
      | nil => rw [strL] <;> simp
      | cons b t =>
        by_cases hab : a = b
        · subst hab
          rw [strL_same]
          have := ih (gap + 1) s t (by simpa using hm) (by simp at hg; omega)
          simp; omega
        · rw [strL_other hab]
          have h1 := difLen_le s t
          have h2 := ih 0 (s.drop (difLen s t)) (t.drop (difLen s t)) (by simp at hm ⊢; omega) (by simp at hg ⊢; omega)
          have h3 := runsL_len _ (b :: t.take (difLen s t)) (Nat.le_refl _)
          have h4 := varL_len 9 gap (by omega)
          have h5 := varL_len 9 (difLen s t + 1) (by simp at hg; omega)
          simp only [List.length_append, List.length_cons, List.length_take, List.length_drop] at h2 h3 ⊢
          omega
set_option maxRecDepth 100000 in
theorem run_cut5_lh (a : Option Addr) (len cap : Nat) (k k' : IntKind) (l h : Int) (w : World) (h0 : 0 ≤ l) (h1 : l ≤ h) (h2 : h ≤ cap) :
    (Instr.slice 22 (.slice a len cap) (some (.int k l)) (some (.int k' h)) none).run Tryz.prog w = .ok (.slice (addS5 a cap l.toNat) (h.toNat - l.toNat) (cap - l.toNat)) w := by
  rw [run_slice_lh w 22 a len cap u_cells k k' l h h0 h1 h2]
  have : (sizeOf (Tryz.prog.elem 22)).run Tryz.prog w = .ok 5 w := rfl
  rw [this]
  simp [Result.andThen, sliced, addS5]
theorem cellsV_take : ∀ (l : List Ce) (k : Nat), cellsV (l.take k) = (cellsV l).take (k * 5)
  | [], k => by simp [cellsV]
  | c :: t, 0 => by simp [cellsV]
  | c :: t, k + 1 => by
    have h := cellsV_take t k
    simp only [cellsV, List.take_succ_cons, List.flatMap_cons] at h ⊢
    rw [h, List.take_append]
    have : (k + 1) * 5 - (Ce.cs c).length = k * 5 := by (show (k + 1) * 5 - 5 = _); omega
    have h2 : (Ce.cs c).take ((k + 1) * 5) = Ce.cs c := List.take_of_length_le (by (show 5 ≤ (k + 1) * 5); omega)
    rw [this, h2]
theorem Rd.mid5 {w : World} {a : Option Addr} {len cap k m : Nat} {l : List Ce} (h : Rd w 5 (.slice a len cap) len (cellsV l)) (hk : k ≤ m) (hm : m ≤ len) :
    Rd w 5 (.slice (addS5 a cap k) (m - k) (cap - k)) (m - k) (cellsV ((l.take m).drop k)) := by
  obtain ⟨ao, cap', hv, h1, h2, h3⟩ := h
  cases hv
  rw [cellsV_drop, cellsV_take]
  refine ⟨_, _, rfl, by omega, by rw [List.length_drop, List.length_take, h2]; omega, fun j u hu => ?_⟩
  have hj := (List.getElem?_eq_some_iff.1 hu).1
  rw [List.length_drop, List.length_take, h2] at hj
  rw [List.getElem?_drop, List.getElem?_take_of_lt (by omega)] at hu
  obtain ⟨g, o, rfl, hc⟩ := h3 _ u hu
  by_cases hcl : cap = k
  · omega
  · refine ⟨g, o + k * 5, by simp [addS5, hcl, Addr.add_lit], by rw [Nat.add_assoc]; exact hc⟩
/-- Two screens in their boxes, behind w. -/
structure Box2 (w wr : World) (i j : Nat) (A B : Array Value) : Prop where
  chg : Chg w wr nob
  a : Blk wr i 24 A
  b : Blk wr j 24 B
theorem Box2.kept {w wr w' : World} {i j : Nat} {A B : Array Value} (h : Box2 w wr i j A B) (hc : Chg wr w' nob) : Box2 w w' i j A B := ⟨h.chg.trans hc (fun _ _ x => x), h.a.kept hc id, h.b.kept hc id⟩
attribute [local go_sem ↓] ce_guard run_eql_ce run_neq_ce run_cut5_lh
set_option maxRecDepth 100000 in
set_option maxHeartbeats 8000000 in
theorem dstr_any (w : World) (a b : Sc) (va vb : Value) (ha : Rd w 5 va a.l.length (cellsV a.l)) (hb : Rd w 5 vb b.l.length (cellsV b.l)) (hl : a.l.length = b.l.length) (hn : b.l.length ≤ 100000) :
    Calls Tryz.prog 17 #[scS a va, scS b vb] w fun e w' => ∃ v, e = .returned v ∧ Bx w w' v (strL 0 a.l b.l) := by
  obtain ⟨r, c, l, y, x, h, t⟩ := a
  obtain ⟨r', c', l', y', x', h', t'⟩ := b
  simp only at ha hb hl hn ⊢
  obtain ⟨aa, ca, rfl, hca, _⟩ := ha.form
  obtain ⟨ab, cb, rfl, hcb, _⟩ := hb.form
  have HA := Lib.hid ha
  have HB := Lib.hid hb
  obtain ⟨n, hn'⟩ : ∃ n, l'.length = n := ⟨_, rfl⟩
  have HSL := Lib.hid (strL_len l.length 0 l l' (Nat.le_refl _) (by omega))
  rw [hl, hn'] at HA
  rw [hn'] at HB hn hl hcb HSL
  rw [hl] at hca
  have HLA := Lib.hid hl
  have HLB := Lib.hid hn'
  obtain ⟨T, hT⟩ : ∃ T, strL 0 l l' = T := ⟨_, rfl⟩
  have HTT := Lib.hid hT
  rw [hT] at HSL ⊢
  clear ha hb hT
  go_enter Tryz.func17, Tryz.ntmps17
  rw [hl, hn']
  clear hl hn'
  go_upto_region 1 with (fail)
  obtain ⟨w1, hw⟩ : ∃ W, (w.alloc (.cells (scA r c (.slice aa n ca) y x h t) 24)).alloc (.cells (scA r' c' (.slice ab n cb) y' x' h' t') 24) = W := ⟨_, rfl⟩
  have HX : Hid (Box2 w w1 w.heap.size (w.heap.size + 1) (scA r c (.slice aa n ca) y x h t) (scA r' c' (.slice ab n cb) y' x' h' t')) := Lib.hid (by rw [← hw]; exact ⟨((Chg.refl w nob).alloc _).alloc _, (Blk.new w _ _).alloc _, Blk.new2' w _ _ _⟩)
  rw [hw]
  clear hw
  obtain ⟨ia, hia⟩ : ∃ i, w.heap.size = i := ⟨_, rfl⟩
  rw [hia] at HX ⊢
  clear hia
  obtain ⟨ib, hib⟩ : ∃ i, ia + 1 = i := ⟨_, rfl⟩
  rw [hib] at HX ⊢
  clear hib
  go_wp2_with fail
  go_loopw [5, 6, 7] (fun ov lv iv wr => ∃ (i last : Nat) (O : List Int), i ≤ n + 1 ∧ last ≤ i ∧ lv = .int .i64 last ∧ iv = .int .i64 i ∧ Hid (Bx w wr ov O) ∧ Hid (O ++ strL (i - last) (l.drop i) (l'.drop i) = T) ∧ Hid (Box2 w wr ia ib (scA r c (.slice aa n ca) y x h t) (scA r' c' (.slice ab n cb) y' x' h' t'))) (fun _ _ iv _ => n + 1 - (intOf iv).toNat)
  case atStart => exact ⟨0, 0, [], by omega, Nat.le_refl _, rfl, rfl, Lib.hid ⟨World.ownsRow_nil _ _ _ _, HX.out.chg, fun k hk => by cases hk⟩, Lib.hid HTT.out, HX⟩
  case round =>
    clear HX
    obtain ⟨i, last, O, hi, hlast, rfl, rfl, HO, HE, HX⟩ := hrel
    have hol : O.length ≤ 8000000 := by
      have h1 := congrArg List.length HE.out
      rw [List.length_append] at h1
      have h2 := HSL.out
      omega
    obtain ⟨ao, co, rfl, _⟩ := HO.out.1.form
    have ua := HX.out.a.cell 2
    have ub := HX.out.b.cell 2
    simp only [List.getElem?_toArray, List.getElem?_cons_zero, List.getElem?_cons_succ] at ua ub
    by_cases hin : i < n
    · have hii : (i : Int) < (n : Int) := by omega
      have hi0 : (0 : Int) ≤ (i : Int) := by omega
      obtain ⟨d, hd⟩ : ∃ d, difLen (l.drop i) (l'.drop i) = d := ⟨_, rfl⟩
      have HST := Lib.hid (strL_step (i - last) i d l l' (by rw [HLA.out, HLB.out]) (by rw [HLB.out]; exact hin) hd)
      have hdl : d ≤ n - i := by have := (difLen_le (l.drop i) (l'.drop i)).2; rw [hd] at this; simp only [List.length_drop, HLB.out] at this; omega
      have HNX : Hid (∀ j, j ≤ d → (n = i + j → j = d) ∧ ∀ x y, l[i + j]? = some x → l'[i + j]? = some y → (x ≠ y → j < d) ∧ (x = y → j = d)) := Lib.hid (fun j hj => by
        have h1 := difLen_next (l.drop i) (l'.drop i) j (by simp only [List.length_drop, HLA.out, HLB.out]) (by rw [hd]; exact hj)
        rw [hd] at h1
        refine ⟨fun e => h1.1 (by simp only [List.length_drop, HLA.out]; omega), fun x y hx hy => h1.2 x y (by rw [List.getElem?_drop]; exact hx) (by rw [List.getElem?_drop]; exact hy)⟩)
      clear hd
      rename World => wo
      go_wp2_with fail
      go_loopw [8] (fun ev wx => ∃ j : Nat, j ≤ d ∧ ev = .int .i64 (i + j : Nat) ∧ Hid (Chg wo wx nob)) (fun ev _ => n + 1 - (intOf ev).toNat)
      case atStart => exact ⟨0, Nat.zero_le _, rfl, Lib.hid (Chg.refl _ _)⟩
      case round =>
        obtain ⟨j, hj, rfl, HW⟩ := hrel
        obtain ⟨hn1, hn2⟩ := HNX.out j hj
        clear ua ub
        have HX2 := Lib.hid (HX.out.kept HW.out)
        obtain ⟨m, hm⟩ : ∃ m, i + j = m := ⟨_, rfl⟩
        rw [hm] at hn1 hn2 ⊢
        have hm0 : (0 : Int) ≤ (m : Int) := by omega
        have HMM := Lib.hid hm
        clear hm
        by_cases hmn : m < n
        · have hmi : (m : Int) < (n : Int) := by omega
          obtain ⟨cx, hx⟩ : ∃ x, l[m]? = some x := ⟨l[m]'(by rw [HLA.out]; exact hmn), List.getElem?_eq_getElem _⟩
          obtain ⟨cy, hy⟩ : ∃ x, l'[m]? = some x := ⟨l'[m]'(by rw [HLB.out]; exact hmn), List.getElem?_eq_getElem _⟩
          obtain ⟨e1, e2⟩ := hn2 cx cy hx hy
          obtain ⟨q, hq⟩ : ∃ q, eqC cx cy = q := ⟨_, rfl⟩
          have hra := HA.out.kept HX2.out.chg (fun _ _ => id)
          have hrb := HB.out.kept HX2.out.chg (fun _ _ => id)
          have HQ : Hid ((q = false → j < d) ∧ (q = true → j = d)) := Lib.hid ⟨fun h => e1 (eqC_f (hq.trans h)), fun h => e2 (eqC_t (hq.trans h))⟩
          obtain ⟨ga, oa, rfl, s0, s1, s2, s3, s4⟩ := hra.cell5 hx
          obtain ⟨gb, ob, rfl, t0, t1, t2, t3, t4⟩ := hrb.cell5 hy
          obtain ⟨r0, f0, g0, b0, w0⟩ := cx
          obtain ⟨r1, f1, g1, b1, w1⟩ := cy
          simp only at s0 s1 s2 s3 s4 t0 t1 t2 t3 t4
          clear hn1 hn2 hx hy e1 e2 hra hrb
          have ua := HX2.out.a.cell 2
          have ub := HX2.out.b.cell 2
          simp only [List.getElem?_toArray, List.getElem?_cons_zero, List.getElem?_cons_succ] at ua ub
          go_upto_region 7 with (fail)
          refine wp_one [2, 7, 10, 12, 15] [] [] [0, 1, 2, 3, 4, 5, 6, 7, 8, 9, 10, 11, 12, 13, 14, 15, 16, 17] rfl (by kernel_rfl) (fun _ _ _ _ _ h => h) ?_; simp only [List.map_cons, List.map_nil, List.getElem?_toArray, List.getElem?_cons_zero, List.getElem?_cons_succ]
          obtain ⟨wd, hw⟩ : ∃ W, World.drew wr = W := ⟨_, rfl⟩
          have hck : Chg wr wd nob := by rw [← hw]; exact (Chg.refl wr nob).drew
          rw [hw]
          clear hw
          replace HX2 := Lib.hid (HX2.out.kept hck)
          replace HW := Lib.hid (HW.out.trans hck (fun _ _ h => h))
          replace s0 := hck.cell s0 id
          replace s1 := hck.cell s1 id
          replace s2 := hck.cell s2 id
          replace s3 := hck.cell s3 id
          replace s4 := hck.cell s4 id
          replace t0 := hck.cell t0 id
          replace t1 := hck.cell t1 id
          replace t2 := hck.cell t2 id
          replace t3 := hck.cell t3 id
          replace t4 := hck.cell t4 id
          clear hck ua ub
          have ua := HX2.out.a.cell 2
          have ub := HX2.out.b.cell 2
          simp only [List.getElem?_toArray, List.getElem?_cons_zero, List.getElem?_cons_succ] at ua ub
          (repeat (first | (apply can0; (· rfl); (· rfl); (· (intro w'; first | (go_simp; with_reducible rfl) | (go_simp; done))); simp only [Act.put, List.setIfInBounds_toArray, List.set_cons_zero, List.set_cons_succ]) | (apply can1; (· rfl); (· rfl); (· (first | (go_simp; with_reducible rfl) | (go_simp; done))); simp only [Act.put, List.setIfInBounds_toArray, List.set_cons_zero, List.set_cons_succ]) | (apply canN; (· rfl); (· rfl); simp only [Act.put, List.setIfInBounds_toArray, List.set_cons_zero, List.set_cons_succ]) | (apply canN1; (· rfl); (· rfl); simp only [Act.put, List.setIfInBounds_toArray, List.set_cons_zero, List.set_cons_succ]) | (apply can0; (· rfl); (· (go_simp; done)); (· (intro w'; first | (go_simp; with_reducible rfl) | (go_simp; done))); simp only [Act.put, List.setIfInBounds_toArray, List.set_cons_zero, List.set_cons_succ]) | (apply can1; (· rfl); (· (go_simp; done)); (· (first | (go_simp; with_reducible rfl) | (go_simp; done))); simp only [Act.put, List.setIfInBounds_toArray, List.set_cons_zero, List.set_cons_succ]) | (apply canN; (· rfl); (· (go_simp; done)); simp only [Act.put, List.setIfInBounds_toArray, List.set_cons_zero, List.set_cons_succ]) | (apply canN1; (· rfl); (· (go_simp; done)); simp only [Act.put, List.setIfInBounds_toArray, List.set_cons_zero, List.set_cons_succ])))
          refine canE ?_
          clear s0 s1 s2 s3 s4 t0 t1 t2 t3 t4 ua ub hq
          cases q with
          | false =>
            have hjd := HQ.out.1 rfl
            go_wp2
            go_roundw
            case rel => exact ⟨j + 1, by omega, by rw [show i + (j + 1) = m + 1 from by have := HMM.out; omega]; go_num, HW⟩
            case measure => simp [intOf]; omega
          | true =>
            have hjd := HQ.out.2 rfl
            have HO2 := Lib.hid (HO.out.keptC HW.out)
            have HEX := Lib.hid (And.intro HMM.out hjd)
            clear HO HW hjd
            by_cases hd0 : d = 0
            · obtain rfl : m = i := by have := HEX.out; omega
              have HR : Hid (O ++ strL (m + 1 - last) (l.drop (m + 1)) (l'.drop (m + 1)) = T) := Lib.hid (by
                have h := HE.out
                rw [HST.out.1 hd0] at h
                rwa [show m + 1 - last = m - last + 1 by omega])
              clear HEX hd0
              go_wp2
              go_roundw
              case rel => exact ⟨m + 1, last, O, by omega, by omega, rfl, by go_num, HO2, HR, HX2⟩
              case measure => simp [intOf]; omega
            · have hmi2 : ((m : Int) == (i : Int)) = false := by have := HEX.out; simp; omega
              have hpos : 0 < d := by omega
              have hmn' : m ≤ n := by have := HEX.out; omega
              have hmd : m = i + d := by have := HEX.out; omega
              have hvi : IntKind.i64.wrap ((i : Int) - (last : Int)) = ((i - last : Nat) : Int) := by simp only [IntKind.wrap, IntKind.bits, IntKind.signed]; simp; omega
              have hvi2 : IntKind.u64.wrap ((i - last : Nat) : Int) = ((i - last : Nat) : Int) := wraps_u64 _ (by omega) (by omega)
              have hvd : IntKind.i64.wrap ((m : Int) - (i : Int)) = (d : Int) := by simp only [IntKind.wrap, IntKind.bits, IntKind.signed]; simp; omega
              have hvd2 : IntKind.u64.wrap (d : Int) = (d : Int) := wraps_u64 _ (by omega) (by omega)
              have hv1 := varL_len 9 (i - last) (by omega)
              have hv2 := varL_len 9 d (by omega)
              have him : (i : Int) ≤ (m : Int) := by omega
              have hmc : (m : Int) ≤ (cb : Int) := by omega
              have HR := Lib.hid (HST.out.2 hpos)
              have HMD := Lib.hid hmd
              clear HEX hd0 hmd
              obtain ⟨gO, hgO⟩ : ∃ L, varL (i - last) = L := ⟨_, rfl⟩
              obtain ⟨gD, hgD⟩ : ∃ L, varL d = L := ⟨_, rfl⟩
              have HV1 := Lib.hid (var_any wd (i - last) (by omega))
              rw [hgO] at HV1 HR hv1
              rw [hgD] at HR hv2
              go_wp2_with fail
              go_at_call 44
              refine HV1.out.mono ?_
              rintro e w2 ⟨v2, rfl, hb⟩
              have hck := hb.2.1
              have HV2 := Lib.hid hb.1
              have HO3 := Lib.hid (HO2.out.keptC hck)
              replace HX2 := Lib.hid (HX2.out.kept hck)
              clear hb hck HV1 HO2
              try clear ua ub
              obtain ⟨a2, c2, rfl, _⟩ := HV2.out.form
              go_wp2_with (at_builtin; refine wpList_bx rfl (.tmp 40) (.tmp 45) rfl _ O rfl HO3.out _ gO rfl HV2.out (by omega) ?_)
              intro v3 w3 hb3 hc3
              have HO4 := Lib.hid hb3
              replace HX2 : Hid (Box2 w w3 ia ib _ _) := Lib.hid ⟨hb3.2.1, HX2.out.a.kept hc3 (fun hk => HO3.out.1.ne HX2.out.a (by decide) hk), HX2.out.b.kept hc3 (fun hk => HO3.out.1.ne HX2.out.b (by decide) hk)⟩
              clear hb3 hc3 HO3 HV2
              obtain ⟨a3, c3, rfl, _⟩ := HO4.out.1.form
              have HV4 := Lib.hid (var_any w3 d (by omega))
              rw [hgD] at HV4
              clear hgO hgD
              go_wp2_with fail
              go_at_call 44
              refine HV4.out.mono ?_
              rintro e w4 ⟨v4, rfl, hb⟩
              have hck := hb.2.1
              have HV5 := Lib.hid hb.1
              have HO5 := Lib.hid (HO4.out.keptC hck)
              replace HX2 := Lib.hid (HX2.out.kept hck)
              clear hb hck HV4 HO4
              obtain ⟨a4, c4, rfl, _⟩ := HV5.out.form
              obtain ⟨O5, hO5⟩ : ∃ L, O ++ gO = L := ⟨_, rfl⟩
              have hl5 : O5.length ≤ 8000020 := by rw [← hO5, List.length_append]; omega
              rw [hO5] at HO5 ⊢
              have HE5 := Lib.hid hO5
              clear hO5
              go_wp2_with (at_builtin; refine wpList_bx rfl (.tmp 46) (.tmp 51) rfl _ O5 rfl HO5.out _ gD rfl HV5.out (by omega) ?_)
              intro v6 w6 hb3 hc3
              have HO6 := Lib.hid hb3
              replace HX2 : Hid (Box2 w w6 ia ib _ _) := Lib.hid ⟨hb3.2.1, HX2.out.a.kept hc3 (fun hk => HO5.out.1.ne HX2.out.a (by decide) hk), HX2.out.b.kept hc3 (fun hk => HO5.out.1.ne HX2.out.b (by decide) hk)⟩
              clear hb3 hc3 HO5 HV5
              obtain ⟨a6, c6, rfl, _⟩ := HO6.out.1.form
              obtain ⟨O6, hO6⟩ : ∃ L, O5 ++ gD = L := ⟨_, rfl⟩
              have hl6 : O6.length ≤ 8000040 := by rw [← hO6, List.length_append]; omega
              rw [hO6] at HO6 ⊢
              have HE6 := Lib.hid hO6
              clear hO6
              have ua := HX2.out.a.cell 2
              have ub := HX2.out.b.cell 2
              simp only [List.getElem?_toArray, List.getElem?_cons_zero, List.getElem?_cons_succ] at ua ub
              obtain ⟨P, hP⟩ : ∃ P, (l'.take (i + d)).drop i = P := ⟨_, rfl⟩
              have hPl : P.length = d := by rw [← hP, List.length_drop, List.length_take, HLB.out]; omega
              have HP : Hid (Rd w 5 (.slice (addS5 (some ⟨gb, ob, none⟩) cb i) (m - i) (cb - i)) P.length (cellsV P)) := Lib.hid (by
                have h := HB.out.mid5 (k := i) (m := m) (by omega) (by omega)
                rw [HMD.out, hP] at h
                rw [HMD.out, hPl]
                rwa [show i + d - i = d by omega] at h ⊢)
              rw [hP] at HR
              have HKC := Lib.hid (kcells_any w6 _ P (HP.out.kept HX2.out.chg (fun _ _ => id)) (by omega))
              have hrl := runsL_len _ P (Nat.le_refl _)
              obtain ⟨RP, hRP⟩ : ∃ R, runsL P = R := ⟨_, rfl⟩
              rw [hRP] at HKC HR hrl
              rw [hPl] at hrl
              clear hP HP hRP hPl
              go_wp2_with fail
              go_at_call 43
              refine HKC.out.mono ?_
              rintro e w7 ⟨v7, rfl, hb⟩
              have hck := hb.2.1
              have HV7 := Lib.hid hb.1
              have HO7 := Lib.hid (HO6.out.keptC hck)
              replace HX2 := Lib.hid (HX2.out.kept hck)
              clear hb hck HKC HO6 ua ub
              obtain ⟨a7, c7, rfl, _⟩ := HV7.out.form
              go_wp2_with (at_builtin; refine wpList_bx rfl (.tmp 53) (.tmp 59) rfl _ O6 rfl HO7.out _ RP rfl HV7.out (by omega) ?_)
              intro v8 w8 hb3 hc3
              have HO8 := Lib.hid hb3
              replace HX2 : Hid (Box2 w w8 ia ib _ _) := Lib.hid ⟨hb3.2.1, HX2.out.a.kept hc3 (fun hk => HO7.out.1.ne HX2.out.a (by decide) hk), HX2.out.b.kept hc3 (fun hk => HO7.out.1.ne HX2.out.b (by decide) hk)⟩
              clear hb3 hc3 HO7 HV7
              obtain ⟨a8, c8, rfl, _⟩ := HO8.out.1.form
              have HR8 : Hid ((O6 ++ RP) ++ strL (m + 1 - m) (l.drop (m + 1)) (l'.drop (m + 1)) = T) := Lib.hid (by
                have h := HE.out
                rw [HR.out] at h
                rw [← h, ← HE6.out, ← HE5.out, HMD.out, show i + d + 1 - (i + d) = 1 by omega]
                simp only [List.append_assoc])
              clear HR
              go_wp2
              go_roundw
              case rel => exact ⟨m + 1, m, O6 ++ RP, by omega, by omega, rfl, by go_num, HO8, HR8, HX2⟩
              case measure => simp [intOf]; omega
        · have hjd : j = d := hn1 (by have := HMM.out; omega)
          have hmi : ¬ ((m : Int) < (n : Int)) := by omega
          clear hn1 hn2
          have ua := HX2.out.a.cell 2
          have ub := HX2.out.b.cell 2
          simp only [List.getElem?_toArray, List.getElem?_cons_zero, List.getElem?_cons_succ] at ua ub
          go_upto_region 7 with (fail)
          refine wp_one [2, 7, 10, 12, 15] [] [] [0, 1, 2, 3, 4, 5, 6, 7, 8, 9, 10, 11, 12, 13, 14, 15, 16, 17] rfl (by kernel_rfl) (fun _ _ _ _ _ h => h) ?_; simp only [List.map_cons, List.map_nil, List.getElem?_toArray, List.getElem?_cons_zero, List.getElem?_cons_succ]
          obtain ⟨wd, hw⟩ : ∃ W, World.drew wr = W := ⟨_, rfl⟩
          have hck : Chg wr wd nob := by rw [← hw]; exact (Chg.refl wr nob).drew
          rw [hw]
          clear hw
          replace HX2 := Lib.hid (HX2.out.kept hck)
          replace HW := Lib.hid (HW.out.trans hck (fun _ _ h => h))
          clear hck ua ub
          have ua := HX2.out.a.cell 2
          have ub := HX2.out.b.cell 2
          simp only [List.getElem?_toArray, List.getElem?_cons_zero, List.getElem?_cons_succ] at ua ub
          (repeat (first | (apply can0; (· rfl); (· rfl); (· (intro w'; first | (go_simp; with_reducible rfl) | (go_simp; done))); simp only [Act.put, List.setIfInBounds_toArray, List.set_cons_zero, List.set_cons_succ]) | (apply can1; (· rfl); (· rfl); (· (first | (go_simp; with_reducible rfl) | (go_simp; done))); simp only [Act.put, List.setIfInBounds_toArray, List.set_cons_zero, List.set_cons_succ]) | (apply canN; (· rfl); (· rfl); simp only [Act.put, List.setIfInBounds_toArray, List.set_cons_zero, List.set_cons_succ]) | (apply canN1; (· rfl); (· rfl); simp only [Act.put, List.setIfInBounds_toArray, List.set_cons_zero, List.set_cons_succ]) | (apply can0; (· rfl); (· (go_simp; done)); (· (intro w'; first | (go_simp; with_reducible rfl) | (go_simp; done))); simp only [Act.put, List.setIfInBounds_toArray, List.set_cons_zero, List.set_cons_succ]) | (apply can1; (· rfl); (· (go_simp; done)); (· (first | (go_simp; with_reducible rfl) | (go_simp; done))); simp only [Act.put, List.setIfInBounds_toArray, List.set_cons_zero, List.set_cons_succ]) | (apply canN; (· rfl); (· (go_simp; done)); simp only [Act.put, List.setIfInBounds_toArray, List.set_cons_zero, List.set_cons_succ]) | (apply canN1; (· rfl); (· (go_simp; done)); simp only [Act.put, List.setIfInBounds_toArray, List.set_cons_zero, List.set_cons_succ])))
          refine canE ?_
          clear ua ub
          have HO2 := Lib.hid (HO.out.keptC HW.out)
          have HEX := Lib.hid (And.intro HMM.out hjd)
          clear HO HW hjd
          by_cases hd0 : d = 0
          · obtain rfl : m = i := by have := HEX.out; omega
            have HR : Hid (O ++ strL (m + 1 - last) (l.drop (m + 1)) (l'.drop (m + 1)) = T) := Lib.hid (by
              have h := HE.out
              rw [HST.out.1 hd0] at h
              rwa [show m + 1 - last = m - last + 1 by omega])
            clear HEX hd0
            go_wp2
            go_roundw
            case rel => exact ⟨m + 1, last, O, by omega, by omega, rfl, by go_num, HO2, HR, HX2⟩
            case measure => simp [intOf]; omega
          · have hmi2 : ((m : Int) == (i : Int)) = false := by have := HEX.out; simp; omega
            have hpos : 0 < d := by omega
            have hmn' : m ≤ n := by have := HEX.out; omega
            have hmd : m = i + d := by have := HEX.out; omega
            have hvi : IntKind.i64.wrap ((i : Int) - (last : Int)) = ((i - last : Nat) : Int) := by simp only [IntKind.wrap, IntKind.bits, IntKind.signed]; simp; omega
            have hvi2 : IntKind.u64.wrap ((i - last : Nat) : Int) = ((i - last : Nat) : Int) := wraps_u64 _ (by omega) (by omega)
            have hvd : IntKind.i64.wrap ((m : Int) - (i : Int)) = (d : Int) := by simp only [IntKind.wrap, IntKind.bits, IntKind.signed]; simp; omega
            have hvd2 : IntKind.u64.wrap (d : Int) = (d : Int) := wraps_u64 _ (by omega) (by omega)
            have hv1 := varL_len 9 (i - last) (by omega)
            have hv2 := varL_len 9 d (by omega)
            have him : (i : Int) ≤ (m : Int) := by omega
            have hmc : (m : Int) ≤ (cb : Int) := by omega
            have HR := Lib.hid (HST.out.2 hpos)
            have HMD := Lib.hid hmd
            clear HEX hd0 hmd
            obtain ⟨gO, hgO⟩ : ∃ L, varL (i - last) = L := ⟨_, rfl⟩
            obtain ⟨gD, hgD⟩ : ∃ L, varL d = L := ⟨_, rfl⟩
            have HV1 := Lib.hid (var_any wd (i - last) (by omega))
            rw [hgO] at HV1 HR hv1
            rw [hgD] at HR hv2
            go_wp2_with fail
            go_at_call 44
            refine HV1.out.mono ?_
            rintro e w2 ⟨v2, rfl, hb⟩
            have hck := hb.2.1
            have HV2 := Lib.hid hb.1
            have HO3 := Lib.hid (HO2.out.keptC hck)
            replace HX2 := Lib.hid (HX2.out.kept hck)
            clear hb hck HV1 HO2
            try clear ua ub
            obtain ⟨a2, c2, rfl, _⟩ := HV2.out.form
            go_wp2_with (at_builtin; refine wpList_bx rfl (.tmp 40) (.tmp 45) rfl _ O rfl HO3.out _ gO rfl HV2.out (by omega) ?_)
            intro v3 w3 hb3 hc3
            have HO4 := Lib.hid hb3
            replace HX2 : Hid (Box2 w w3 ia ib _ _) := Lib.hid ⟨hb3.2.1, HX2.out.a.kept hc3 (fun hk => HO3.out.1.ne HX2.out.a (by decide) hk), HX2.out.b.kept hc3 (fun hk => HO3.out.1.ne HX2.out.b (by decide) hk)⟩
            clear hb3 hc3 HO3 HV2
            obtain ⟨a3, c3, rfl, _⟩ := HO4.out.1.form
            have HV4 := Lib.hid (var_any w3 d (by omega))
            rw [hgD] at HV4
            clear hgO hgD
            go_wp2_with fail
            go_at_call 44
            refine HV4.out.mono ?_
            rintro e w4 ⟨v4, rfl, hb⟩
            have hck := hb.2.1
            have HV5 := Lib.hid hb.1
            have HO5 := Lib.hid (HO4.out.keptC hck)
            replace HX2 := Lib.hid (HX2.out.kept hck)
            clear hb hck HV4 HO4
            obtain ⟨a4, c4, rfl, _⟩ := HV5.out.form
            obtain ⟨O5, hO5⟩ : ∃ L, O ++ gO = L := ⟨_, rfl⟩
            have hl5 : O5.length ≤ 8000020 := by rw [← hO5, List.length_append]; omega
            rw [hO5] at HO5 ⊢
            have HE5 := Lib.hid hO5
            clear hO5
            go_wp2_with (at_builtin; refine wpList_bx rfl (.tmp 46) (.tmp 51) rfl _ O5 rfl HO5.out _ gD rfl HV5.out (by omega) ?_)
            intro v6 w6 hb3 hc3
            have HO6 := Lib.hid hb3
            replace HX2 : Hid (Box2 w w6 ia ib _ _) := Lib.hid ⟨hb3.2.1, HX2.out.a.kept hc3 (fun hk => HO5.out.1.ne HX2.out.a (by decide) hk), HX2.out.b.kept hc3 (fun hk => HO5.out.1.ne HX2.out.b (by decide) hk)⟩
            clear hb3 hc3 HO5 HV5
            obtain ⟨a6, c6, rfl, _⟩ := HO6.out.1.form
            obtain ⟨O6, hO6⟩ : ∃ L, O5 ++ gD = L := ⟨_, rfl⟩
            have hl6 : O6.length ≤ 8000040 := by rw [← hO6, List.length_append]; omega
            rw [hO6] at HO6 ⊢
            have HE6 := Lib.hid hO6
            clear hO6
            have ua := HX2.out.a.cell 2
            have ub := HX2.out.b.cell 2
            simp only [List.getElem?_toArray, List.getElem?_cons_zero, List.getElem?_cons_succ] at ua ub
            obtain ⟨P, hP⟩ : ∃ P, (l'.take (i + d)).drop i = P := ⟨_, rfl⟩
            have hPl : P.length = d := by rw [← hP, List.length_drop, List.length_take, HLB.out]; omega
            have HP : Hid (Rd w 5 (.slice (addS5 (ab) cb i) (m - i) (cb - i)) P.length (cellsV P)) := Lib.hid (by
              have h := HB.out.mid5 (k := i) (m := m) (by omega) (by omega)
              rw [HMD.out, hP] at h
              rw [HMD.out, hPl]
              rwa [show i + d - i = d by omega] at h ⊢)
            rw [hP] at HR
            have HKC := Lib.hid (kcells_any w6 _ P (HP.out.kept HX2.out.chg (fun _ _ => id)) (by omega))
            have hrl := runsL_len _ P (Nat.le_refl _)
            obtain ⟨RP, hRP⟩ : ∃ R, runsL P = R := ⟨_, rfl⟩
            rw [hRP] at HKC HR hrl
            rw [hPl] at hrl
            clear hP HP hRP hPl
            go_wp2_with fail
            go_at_call 43
            refine HKC.out.mono ?_
            rintro e w7 ⟨v7, rfl, hb⟩
            have hck := hb.2.1
            have HV7 := Lib.hid hb.1
            have HO7 := Lib.hid (HO6.out.keptC hck)
            replace HX2 := Lib.hid (HX2.out.kept hck)
            clear hb hck HKC HO6 ua ub
            obtain ⟨a7, c7, rfl, _⟩ := HV7.out.form
            go_wp2_with (at_builtin; refine wpList_bx rfl (.tmp 53) (.tmp 59) rfl _ O6 rfl HO7.out _ RP rfl HV7.out (by omega) ?_)
            intro v8 w8 hb3 hc3
            have HO8 := Lib.hid hb3
            replace HX2 : Hid (Box2 w w8 ia ib _ _) := Lib.hid ⟨hb3.2.1, HX2.out.a.kept hc3 (fun hk => HO7.out.1.ne HX2.out.a (by decide) hk), HX2.out.b.kept hc3 (fun hk => HO7.out.1.ne HX2.out.b (by decide) hk)⟩
            clear hb3 hc3 HO7 HV7
            obtain ⟨a8, c8, rfl, _⟩ := HO8.out.1.form
            have HR8 : Hid ((O6 ++ RP) ++ strL (m + 1 - m) (l.drop (m + 1)) (l'.drop (m + 1)) = T) := Lib.hid (by
              have h := HE.out
              rw [HR.out] at h
              rw [← h, ← HE6.out, ← HE5.out, HMD.out, show i + d + 1 - (i + d) = 1 by omega]
              simp only [List.append_assoc])
            clear HR
            go_wp2
            go_roundw
            case rel => exact ⟨m + 1, m, O6 ++ RP, by omega, by omega, rfl, by go_num, HO8, HR8, HX2⟩
            case measure => simp [intOf]; omega
    · have hii : ¬ ((i : Int) < (n : Int)) := by omega
      have HT : Hid (O = T) := Lib.hid (by
        have h := HE.out
        rw [List.drop_eq_nil_of_le (by rw [HLA.out]; omega), List.drop_eq_nil_of_le (by rw [HLB.out]; omega), strL_nil, List.append_nil] at h
        exact h)
      go_wp2
      go_ret
      exact ⟨_, rfl, by rw [← HT.out]; exact HO.out⟩
end Go.Proofs.YtmbdpcamhkdkmaaGreatDoor
