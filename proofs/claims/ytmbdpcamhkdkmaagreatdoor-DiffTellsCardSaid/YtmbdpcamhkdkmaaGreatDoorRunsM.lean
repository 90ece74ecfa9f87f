/-
  Cells run by run: key.Cells.
-/
import Derived.Test.YtmbdpcamhkdkmaaGreatDoorMg12
import Derived.Test.YtmbdpcamhkdkmaaGreatDoorMg5
import Derived.Test.YtmbdpcamhkdkmaaGreatDoorMg7
namespace Go.Proofs.YtmbdpcamhkdkmaaGreatDoor
open Go.RowKit
set_option linter.unusedVariables false
set_option linter.unusedSimpArgs false

/-- How many of a list's first cells are this one. -/
def runLen (c : Ce) : List Ce → Nat
  | [] => 0
  | x :: t => if x = c then runLen c t + 1 else 0
theorem runLen_le (c : Ce) : ∀ t : List Ce, runLen c t ≤ t.length
  | [] => Nat.le_refl _
  | x :: t => by
    unfold runLen
    have := runLen_le c t
    split
    · simp; exact this
    · exact Nat.zero_le _
theorem runLen_next (c : Ce) : ∀ (t : List Ce) (i : Nat), i ≤ runLen c t → (t[i]? = some c → i < runLen c t) ∧ (t[i]? ≠ some c → i = runLen c t)
  | [], i, h => ⟨fun e => by simp at e, fun _ => by simp [runLen] at *; omega⟩
  | x :: t, 0, h => by
    by_cases hx : x = c
    · subst hx
      exact ⟨fun _ => by simp [runLen], fun e => absurd rfl e⟩
    · have e : runLen c (x :: t) = 0 := by simp [runLen, hx]
      rw [e]
      exact ⟨fun h => absurd (by simpa using h) hx, fun _ => rfl⟩
  | x :: t, i + 1, h => by
    by_cases hx : x = c
    · subst hx
      have e : runLen x (x :: t) = runLen x t + 1 := by simp [runLen]
      have ih := runLen_next x t i (by omega)
      rw [e]
      refine ⟨fun h => Nat.succ_lt_succ (ih.1 (by simpa using h)), fun h => by rw [← ih.2 (by simpa using h)]⟩
    · have e : runLen c (x :: t) = 0 := by simp [runLen, hx]
      omega
theorem runLen_next1 (c : Ce) (t : List Ce) (n : Nat) (h0 : 1 ≤ n) (h : n ≤ runLen c t + 1) : ((c :: t)[n]? = some c → n < runLen c t + 1) ∧ ((c :: t)[n]? ≠ some c → n = runLen c t + 1) := by
  obtain ⟨i, rfl⟩ : ∃ i, n = i + 1 := ⟨n - 1, by omega⟩
  have := runLen_next c t i (by omega)
  rw [List.getElem?_cons_succ]
  exact ⟨fun h => by have := this.1 h; omega, fun h => by have := this.2 h; omega⟩
def u64N (n : Int) : Nat := (IntKind.u64.wrap n).toNat
theorem u64N_lt (n : Int) : u64N n < 18446744073709551616 := by simp only [u64N, IntKind.wrap, IntKind.bits, IntKind.signed]; simp; omega
theorem u64N_int (n : Int) : IntKind.u64.wrap n = (u64N n : Int) := by simp only [u64N, IntKind.wrap, IntKind.bits, IntKind.signed]; simp; omega
/-- What is written of a run. -/
def ceN (n : Nat) (c : Ce) : List Nat := [u64N n, u64N c.r, u64N c.f, u64N c.g, u64N c.b, u64N c.w]
theorem u64N_nat (n : Nat) (h : n < 18446744073709551616) : (u64N (n : Int) : Int) = n := by simp only [u64N, IntKind.wrap, IntKind.bits, IntKind.signed]; simp; omega
theorem ceN_V (n : Nat) (h : n < 18446744073709551616) (c : Ce) : numsV (ceN n c) = [.int .u64 n, .int .u64 (IntKind.u64.wrap c.r), .int .u64 (IntKind.u64.wrap c.f), .int .u64 (IntKind.u64.wrap c.g), .int .u64 (IntKind.u64.wrap c.b), .int .u64 (IntKind.u64.wrap c.w)] := by
  simp only [numsV, ceN, List.map_cons, List.map_nil, u64N_nat n h, u64N_int]
def runsL : List Ce → List Int
  | [] => []
  | c :: t => varsL (ceN (runLen c t + 1) c) ++ runsL (t.drop (runLen c t))
termination_by l => l.length
decreasing_by simp; omega
theorem ceN_lt (n : Nat) (c : Ce) : ∀ x ∈ ceN n c, x < 18446744073709551616 := by
  intro x hx
  simp only [ceN, List.mem_cons, List.not_mem_nil, or_false] at hx
  rcases hx with rfl | rfl | rfl | rfl | rfl | rfl <;> exact u64N_lt _
theorem runsL_len : ∀ (m : Nat) (l : List Ce), l.length ≤ m → (runsL l).length ≤ 60 * l.length
  | _, [], _ => by simp [runsL]
  | m + 1, c :: t, h => by
    rw [runsL, List.length_append]
    have h1 := varsL_len (ceN (runLen c t + 1) c) (ceN_lt _ _)
    have h2 := runsL_len m (t.drop (runLen c t)) (by simp at h ⊢; omega)
    simp only [List.length_drop, List.length_cons, ceN, List.length_nil] at *
    omega
/-- Where a slice of a slice of cells begins. -/
def addS5 (a : Option Addr) (cap l : Nat) : Option Addr := if cap = l then a else a.map (·.add (l * 5))
theorem u_cells : Tryz.prog.underlying 22 = some (.slice 47) := by kernel_rfl
set_option maxRecDepth 100000 in
theorem run_cut5_l (a : Option Addr) (len cap : Nat) (k : IntKind) (l : Int) (w : World) (h0 : 0 ≤ l) (h2 : l ≤ len) :
    (Instr.slice 22 (.slice a len cap) (some (.int k l)) none none).run Tryz.prog w = .ok (.slice (addS5 a cap l.toNat) (len - l.toNat) (cap - l.toNat)) w := by
  rw [run_slice_l w 22 a len cap u_cells k l h0 h2]
  have : (sizeOf (Tryz.prog.elem 22)).run Tryz.prog w = .ok 5 w := rfl
  rw [this]
  simp [Result.andThen, sliced, addS5]
theorem addS5_blk {a : Option Addr} {cap l m n c d k : Nat} (h : blkOf (.slice (addS5 a cap l) m c) k) : blkOf (.slice a n d) k := by
  cases a with
  | none => unfold addS5 at h; split at h <;> cases h
  | some x =>
    unfold addS5 at h
    split at h
    · exact h
    · have hb : (x.add (l * 5)).block = x.block := by unfold Addr.add; split <;> rfl
      simpa [blkOf, Value.ownBlock, hb] using h
theorem cellsV_drop : ∀ (l : List Ce) (k : Nat), cellsV (l.drop k) = (cellsV l).drop (k * 5)
  | [], k => by simp [cellsV]
  | c :: t, 0 => by simp
  | c :: t, k + 1 => by
    rw [List.drop_succ_cons, cellsV_drop t k, show (k + 1) * 5 = c.cs.length + k * 5 by simp [Ce.cs]; omega]
    rw [← List.drop_drop]
    congr 1
theorem Rd.cut5 {w : World} {a : Option Addr} {len cap k : Nat} {l : List Ce} (h : Rd w 5 (.slice a len cap) len (cellsV l)) (hk : k ≤ len) :
    Rd w 5 (.slice (addS5 a cap k) (len - k) (cap - k)) (len - k) (cellsV (l.drop k)) := by
  obtain ⟨ao, cap', hv, h1, h2, h3⟩ := h
  cases hv
  rw [cellsV_drop]
  refine ⟨_, _, rfl, by omega, by rw [List.length_drop, h2]; omega, fun j u hu => ?_⟩
  have hj := (List.getElem?_eq_some_iff.1 hu).1
  rw [List.length_drop, h2] at hj
  rw [List.getElem?_drop] at hu
  obtain ⟨g, o, rfl, hc⟩ := h3 _ u hu
  by_cases hcl : cap = k
  · omega
  · refine ⟨g, o + k * 5, by simp [addS5, hcl, Addr.add_lit], by rw [Nat.add_assoc]; exact hc⟩
attribute [local go_sem ↓] run_cut5_l ce_guard run_eql_ce run_neq_ce
set_option maxRecDepth 100000 in
set_option maxHeartbeats 8000000 in
theorem kcells_any (w : World) (va : Value) (l : List Ce) (ha : Rd w 5 va l.length (cellsV l)) (hl : l.length ≤ 100000) :
    Calls Tryz.prog 43 #[va] w fun e w' => ∃ v, e = .returned v ∧ Bx w w' v (runsL l) := by
  obtain ⟨a1, c1, rfl, hn1, _⟩ := ha.form
  have HC := Lib.hid ha
  clear ha
  go_enter Tryz.func43, Tryz.ntmps43
  go_wp2
  go_loopw [0, 3, 4, 5] (fun lv bv _ _ wr => ∃ (t : List Ce) (B : List Int) (ao : Option Addr) (co : Nat), t.length ≤ l.length ∧ lv = .slice ao t.length co ∧ Hid (Rd w 5 (.slice ao t.length co) t.length (cellsV t)) ∧ Hid (B ++ runsL t = runsL l) ∧ Hid (Bx w wr bv B)) (fun lv _ _ _ _ => match lv with | .slice _ n _ => n | _ => 0)
  case atStart => exact ⟨l, [], a1, c1, Nat.le_refl _, rfl, HC, Lib.hid rfl, Lib.hid ⟨World.ownsRow_nil _ _ _ _, Chg.refl _ _, fun k hk => by cases hk⟩⟩
  case round =>
    obtain ⟨t, B, ao, co, htl, rfl, HR, HE, HB⟩ := hrel
    have hll : B.length ≤ 6000000 := by
      have h1 := congrArg List.length HE.out
      rw [List.length_append] at h1
      have h2 := runsL_len _ l (Nat.le_refl _)
      omega
    cases t with
    | nil =>
      have he : Hid (B = runsL l) := Lib.hid (by rw [← HE.out]; simp [runsL])
      go_wp2
      go_ret
      exact ⟨_, rfl, by rw [← he.out]; exact HB.out⟩
    | cons c t =>
      have h0 : (0 : Int) < (((c :: t).length : Nat) : Int) := by simp
      have hco := HR.out.form
      obtain ⟨_, _, hcv, hcc, _⟩ := hco
      cases hcv
      have hrd := HR.out.kept HB.out.2.1 (fun _ _ => id)
      obtain ⟨g, o, rfl, t0, t1, t2, t3, t4⟩ := hrd.cell5 (k := 0) (c := c) rfl
      obtain ⟨r0, f0, g0, b0, w0⟩ := c
      simp only [Nat.zero_mul, Nat.add_zero] at t0 t1 t2 t3 t4
      clear hrd
      rw [List.length_cons] at *
      go_wp2_with fail
      obtain ⟨wa, hwa⟩ : ∃ wa, wr.alloc (.cells #[.int .i32 r0, .int .i64 f0, .int .i64 g0, .int .i64 b0, .int .i64 w0] 47) = wa := ⟨_, rfl⟩
      have HBK : Hid (Blk wa wr.heap.size 47 #[.int .i32 r0, .int .i64 f0, .int .i64 g0, .int .i64 b0, .int .i64 w0]) := Lib.hid (by rw [← hwa]; exact Blk.new wr _ _)
      have HCA : Hid (Chg wr wa nob) := Lib.hid (by rw [← hwa]; exact (Chg.refl wr nob).alloc _)
      rw [hwa]
      clear hwa t0 t1 t2 t3 t4
      obtain ⟨c, hc⟩ : ∃ c : Ce, c = ⟨r0, f0, g0, b0, w0⟩ := ⟨_, rfl⟩
      rw [← hc] at HR HE
      have HEQ := Lib.hid hc
      clear hc
      have hrl := runLen_le c t
      go_loopw [5] (fun nv wi => ∃ n : Nat, 1 ≤ n ∧ n ≤ runLen c t + 1 ∧ nv = .int .i64 n ∧ Hid (Chg wa wi nob)) (fun nv _ => t.length + 2 - (intOf nv).toNat)
      case atStart => exact ⟨1, Nat.le_refl _, by omega, rfl, Lib.hid (Chg.refl _ _)⟩
      case round =>
        obtain ⟨n, hn, hnr, rfl, HI⟩ := hrel
        have hb := HBK.out.kept HI.out id
        have s0 := hb.cell 0
        have s1 := hb.cell 1
        have s2 := hb.cell 2
        have s3 := hb.cell 3
        have s4 := hb.cell 4
        simp only [List.getElem?_toArray, List.getElem?_cons_zero, List.getElem?_cons_succ] at s0 s1 s2 s3 s4
        have hnx := Lib.hid (runLen_next1 c t n hn hnr)
        by_cases hin : n < t.length + 1
        · have hlt : (n : Int) < (t.length : Int) + 1 := by omega
          have hlt0 : (0 : Int) ≤ (n : Int) := by omega
          obtain ⟨x, hx⟩ : ∃ x, (c :: t)[n]? = some x := ⟨(c :: t)[n], List.getElem?_eq_getElem (by simpa using hin)⟩
          have hrd := (HR.out.kept (HB.out.2.1.trans (HCA.out.trans HI.out (fun _ _ h => h)) (fun _ _ h => h)) (fun _ _ => id))
          obtain ⟨g', o', heq, t0, t1, t2, t3, t4⟩ := hrd.cell5 hx
          cases heq
          have HX := Lib.hid hx
          clear hx
          obtain ⟨q, hq⟩ : ∃ q, eqC x c = q := ⟨_, rfl⟩
          have HQ := Lib.hid hq
          rw [HEQ.out] at hq
          obtain ⟨r1, f1, g1, b1, w1⟩ := x
          simp only at t0 t1 t2 t3 t4
          clear hrd hb
          go_wp2_with fail
          refine wp_one [8, 9] [] [] [0, 1, 2, 3, 4, 5, 6, 7, 8, 9, 10, 11] rfl (by kernel_rfl) (fun _ _ _ _ _ h => h) ?_; simp only [List.map_cons, List.map_nil, List.getElem?_toArray, List.getElem?_cons_zero, List.getElem?_cons_succ]
          (repeat (first | (apply can0; (· rfl); (· rfl); (· (intro w'; first | (go_simp; with_reducible rfl) | (go_simp; done))); simp only [Act.put, List.setIfInBounds_toArray, List.set_cons_zero, List.set_cons_succ]) | (apply can1; (· rfl); (· rfl); (· (first | (go_simp; with_reducible rfl) | (go_simp; done))); simp only [Act.put, List.setIfInBounds_toArray, List.set_cons_zero, List.set_cons_succ]) | (apply canN; (· rfl); (· rfl); simp only [Act.put, List.setIfInBounds_toArray, List.set_cons_zero, List.set_cons_succ]) | (apply canN1; (· rfl); (· rfl); simp only [Act.put, List.setIfInBounds_toArray, List.set_cons_zero, List.set_cons_succ]) | (apply can0; (· rfl); (· (go_simp; done)); (· (intro w'; first | (go_simp; with_reducible rfl) | (go_simp; done))); simp only [Act.put, List.setIfInBounds_toArray, List.set_cons_zero, List.set_cons_succ]) | (apply can1; (· rfl); (· (go_simp; done)); (· (first | (go_simp; with_reducible rfl) | (go_simp; done))); simp only [Act.put, List.setIfInBounds_toArray, List.set_cons_zero, List.set_cons_succ]) | (apply canN; (· rfl); (· (go_simp; done)); simp only [Act.put, List.setIfInBounds_toArray, List.set_cons_zero, List.set_cons_succ]) | (apply canN1; (· rfl); (· (go_simp; done)); simp only [Act.put, List.setIfInBounds_toArray, List.set_cons_zero, List.set_cons_succ])))
          refine canE ?_
          clear hq s0 s1 s2 s3 s4 t0 t1 t2 t3 t4
          cases q
          · have HNE := Lib.hid (hnx.out.2 (by rw [HX.out]; intro h; exact eqC_f HQ.out (Option.some.inj h)))
            have hcn : ¬ co = n := by omega
            have hea : Hid (addS5 (some ⟨g, o, none⟩) co n = some ⟨g, o + n * 5, none⟩) := Lib.hid (by simp [addS5, hcn, Addr.add_lit])
            have HIe := Lib.hid (HI.out.drew)
            have hb2 := HBK.out.kept HIe.out id
            have hrun : Hid (runsL (c :: t) = varsL (ceN n c) ++ runsL (t.drop (n - 1))) := Lib.hid (by rw [runsL, HNE.out]; rfl)
            have s0 := hb2.cell 0
            have s1 := hb2.cell 1
            have s2 := hb2.cell 2
            have s3 := hb2.cell 3
            have s4 := hb2.cell 4
            simp only [List.getElem?_toArray, List.getElem?_cons_zero, List.getElem?_cons_succ] at s0 s1 s2 s3 s4
            clear hb2
            clear hnx
            have hnv : Hid (numsV (ceN n c) = [.int .u64 n, .int .u64 (IntKind.u64.wrap r0), .int .u64 (IntKind.u64.wrap f0), .int .u64 (IntKind.u64.wrap g0), .int .u64 (IntKind.u64.wrap b0), .int .u64 (IntKind.u64.wrap w0)]) := Lib.hid (by rw [ceN_V n (by omega), HEQ.out])
            have hvl : Hid ((varsL (ceN n c)).length ≤ 60) := Lib.hid (varsL_len _ (ceN_lt n c))
            go_wp2_with fail
            go_at_call 41
            refine (vars_any _ _ (ceN n c) (by
              rw [hnv.out]
              exact (Rd.made wr 41 _ rfl (Nat.le_refl _)).kept ((Chg.refl _ nob).drew) (fun _ _ => id)) (ceN_lt _ _) (by (show 6 ≤ 1000); decide)).mono ?_
            rintro e w2 ⟨v, rfl, hv⟩
            have hvc := hv.2.1
            have hv' : Bx w w2 v (varsL (ceN n c)) := ⟨hv.1, (HB.out.2.1.trans (HCA.out.trans (HI.out.trans (((Chg.refl wr nob).alloc _).drew.trans hvc (fun _ _ h => h)) (fun _ _ h => h)) (fun _ _ h => h)) (fun _ _ h => h)), fun k hk => by
              have h1 := hv.2.2 k hk
              have h2 := (HB.out.2.1.trans (HCA.out.trans HI.out (fun _ _ h => h)) (fun _ _ h => h)).size
              simp at h1
              omega⟩
            have HV := Lib.hid hv'
            have HB2 := Lib.hid (show Bx w w2 _ B from ⟨HB.out.1.kept ((HCA.out.trans (HI.out.trans (((Chg.refl wr nob).alloc _).drew.trans hvc (fun _ _ h => h)) (fun _ _ h => h)) (fun _ _ h => h))) (fun _ _ => id), hv'.2.1, HB.out.2.2⟩)
            clear hv hv' hvc s0 s1 s2 s3 s4
            have hvl2 := hvl.out
            obtain ⟨av, cv, rfl, _⟩ := HV.out.1.form
            obtain ⟨ab, cb, rfl, _⟩ := HB.out.1.form
            go_wp2_with (at_builtin; refine wpList_bx rfl (.tmp 26) (.tmp 48) rfl _ B rfl HB2.out _ (varsL (ceN n c)) rfl HV.out.1 (by omega) ?_)
            intro v3 w3 hb3 hc3
            have HB3 := Lib.hid hb3
            clear hb3 hc3
            obtain ⟨a3, c3, rfl, _⟩ := HB3.out.1.form
            go_wp2
            go_roundw
            case rel =>
              have hdl : (t.drop (n - 1)).length = t.length + 1 - n := by rw [List.length_drop]; omega
              have hcut := HR.out.cut5 (k := n) (by omega)
              have hdc : (c :: t).drop n = t.drop (n - 1) := by obtain ⟨i, rfl⟩ : ∃ i, n = i + 1 := ⟨n - 1, by omega⟩; rfl
              rw [hdc] at hcut
              rw [hea.out] at hcut
              try rw [hz.out] at hcut
              rw [← hdl] at hcut ⊢
              exact ⟨t.drop (n - 1), B ++ varsL (ceN n c), _, _, by omega, rfl, Lib.hid hcut, Lib.hid (by rw [List.append_assoc, ← hrun.out]; exact HE.out), HB3⟩
            case measure => simp; omega
          · have hne : n < runLen c t + 1 := hnx.out.1 (by rw [HX.out, eqC_t HQ.out])
            go_wp2
            go_roundw
            case rel => exact ⟨n + 1, by omega, by omega, by go_num, Lib.hid HI.out.drew⟩
            case measure => simp [intOf]; omega
        · have HNE := Lib.hid (hnx.out.2 (by rw [List.getElem?_eq_none (by simpa using hin)]; simp))
          have HIe := Lib.hid (HI.out.drew)
          have hlt : ¬ (n : Int) < (t.length : Int) + 1 := by omega
          clear hb
          by_cases hcn : co = n
          · have hea : Hid (addS5 (some ⟨g, o, none⟩) co n = some ⟨g, o, none⟩) := Lib.hid (by simp [addS5, hcn])
            have hz : Hid (co - n = 0) := Lib.hid (by omega)
            go_wp2_with fail
            refine wp_one [8, 9] [] [] [0, 1, 2, 3, 4, 5, 6, 7, 8, 9, 10, 11] rfl (by kernel_rfl) (fun _ _ _ _ _ h => h) ?_; simp only [List.map_cons, List.map_nil, List.getElem?_toArray, List.getElem?_cons_zero, List.getElem?_cons_succ]
            (repeat (first | (apply can0; (· rfl); (· rfl); (· (intro w'; first | (go_simp; with_reducible rfl) | (go_simp; done))); simp only [Act.put, List.setIfInBounds_toArray, List.set_cons_zero, List.set_cons_succ]) | (apply can1; (· rfl); (· rfl); (· (first | (go_simp; with_reducible rfl) | (go_simp; done))); simp only [Act.put, List.setIfInBounds_toArray, List.set_cons_zero, List.set_cons_succ]) | (apply canN; (· rfl); (· rfl); simp only [Act.put, List.setIfInBounds_toArray, List.set_cons_zero, List.set_cons_succ]) | (apply canN1; (· rfl); (· rfl); simp only [Act.put, List.setIfInBounds_toArray, List.set_cons_zero, List.set_cons_succ]) | (apply can0; (· rfl); (· (go_simp; done)); (· (intro w'; first | (go_simp; with_reducible rfl) | (go_simp; done))); simp only [Act.put, List.setIfInBounds_toArray, List.set_cons_zero, List.set_cons_succ]) | (apply can1; (· rfl); (· (go_simp; done)); (· (first | (go_simp; with_reducible rfl) | (go_simp; done))); simp only [Act.put, List.setIfInBounds_toArray, List.set_cons_zero, List.set_cons_succ]) | (apply canN; (· rfl); (· (go_simp; done)); simp only [Act.put, List.setIfInBounds_toArray, List.set_cons_zero, List.set_cons_succ]) | (apply canN1; (· rfl); (· (go_simp; done)); simp only [Act.put, List.setIfInBounds_toArray, List.set_cons_zero, List.set_cons_succ])))
            refine canE ?_
            clear s0 s1 s2 s3 s4
            have hb2 := HBK.out.kept HIe.out id
            have hrun : Hid (runsL (c :: t) = varsL (ceN n c) ++ runsL (t.drop (n - 1))) := Lib.hid (by rw [runsL, HNE.out]; rfl)
            have s0 := hb2.cell 0
            have s1 := hb2.cell 1
            have s2 := hb2.cell 2
            have s3 := hb2.cell 3
            have s4 := hb2.cell 4
            simp only [List.getElem?_toArray, List.getElem?_cons_zero, List.getElem?_cons_succ] at s0 s1 s2 s3 s4
            clear hb2
            clear hnx
            have hnv : Hid (numsV (ceN n c) = [.int .u64 n, .int .u64 (IntKind.u64.wrap r0), .int .u64 (IntKind.u64.wrap f0), .int .u64 (IntKind.u64.wrap g0), .int .u64 (IntKind.u64.wrap b0), .int .u64 (IntKind.u64.wrap w0)]) := Lib.hid (by rw [ceN_V n (by omega), HEQ.out])
            have hvl : Hid ((varsL (ceN n c)).length ≤ 60) := Lib.hid (varsL_len _ (ceN_lt n c))
            go_wp2_with fail
            go_at_call 41
            refine (vars_any _ _ (ceN n c) (by
              rw [hnv.out]
              exact (Rd.made wr 41 _ rfl (Nat.le_refl _)).kept ((Chg.refl _ nob).drew) (fun _ _ => id)) (ceN_lt _ _) (by (show 6 ≤ 1000); decide)).mono ?_
            rintro e w2 ⟨v, rfl, hv⟩
            have hvc := hv.2.1
            have hv' : Bx w w2 v (varsL (ceN n c)) := ⟨hv.1, (HB.out.2.1.trans (HCA.out.trans (HI.out.trans (((Chg.refl wr nob).alloc _).drew.trans hvc (fun _ _ h => h)) (fun _ _ h => h)) (fun _ _ h => h)) (fun _ _ h => h)), fun k hk => by
              have h1 := hv.2.2 k hk
              have h2 := (HB.out.2.1.trans (HCA.out.trans HI.out (fun _ _ h => h)) (fun _ _ h => h)).size
              simp at h1
              omega⟩
            have HV := Lib.hid hv'
            have HB2 := Lib.hid (show Bx w w2 _ B from ⟨HB.out.1.kept ((HCA.out.trans (HI.out.trans (((Chg.refl wr nob).alloc _).drew.trans hvc (fun _ _ h => h)) (fun _ _ h => h)) (fun _ _ h => h))) (fun _ _ => id), hv'.2.1, HB.out.2.2⟩)
            clear hv hv' hvc s0 s1 s2 s3 s4
            have hvl2 := hvl.out
            obtain ⟨av, cv, rfl, _⟩ := HV.out.1.form
            obtain ⟨ab, cb, rfl, _⟩ := HB.out.1.form
            go_wp2_with (at_builtin; refine wpList_bx rfl (.tmp 26) (.tmp 48) rfl _ B rfl HB2.out _ (varsL (ceN n c)) rfl HV.out.1 (by omega) ?_)
            intro v3 w3 hb3 hc3
            have HB3 := Lib.hid hb3
            clear hb3 hc3
            obtain ⟨a3, c3, rfl, _⟩ := HB3.out.1.form
            go_wp2
            go_roundw
            case rel =>
              have hdl : (t.drop (n - 1)).length = t.length + 1 - n := by rw [List.length_drop]; omega
              have hcut := HR.out.cut5 (k := n) (by omega)
              have hdc : (c :: t).drop n = t.drop (n - 1) := by obtain ⟨i, rfl⟩ : ∃ i, n = i + 1 := ⟨n - 1, by omega⟩; rfl
              rw [hdc] at hcut
              rw [hea.out] at hcut
              try rw [hz.out] at hcut
              rw [← hdl] at hcut ⊢
              exact ⟨t.drop (n - 1), B ++ varsL (ceN n c), _, _, by omega, rfl, Lib.hid hcut, Lib.hid (by rw [List.append_assoc, ← hrun.out]; exact HE.out), HB3⟩
            case measure => simp; omega
          · have hea : Hid (addS5 (some ⟨g, o, none⟩) co n = some ⟨g, o + n * 5, none⟩) := Lib.hid (by simp [addS5, hcn, Addr.add_lit])
            go_wp2_with fail
            refine wp_one [8, 9] [] [] [0, 1, 2, 3, 4, 5, 6, 7, 8, 9, 10, 11] rfl (by kernel_rfl) (fun _ _ _ _ _ h => h) ?_; simp only [List.map_cons, List.map_nil, List.getElem?_toArray, List.getElem?_cons_zero, List.getElem?_cons_succ]
            (repeat (first | (apply can0; (· rfl); (· rfl); (· (intro w'; first | (go_simp; with_reducible rfl) | (go_simp; done))); simp only [Act.put, List.setIfInBounds_toArray, List.set_cons_zero, List.set_cons_succ]) | (apply can1; (· rfl); (· rfl); (· (first | (go_simp; with_reducible rfl) | (go_simp; done))); simp only [Act.put, List.setIfInBounds_toArray, List.set_cons_zero, List.set_cons_succ]) | (apply canN; (· rfl); (· rfl); simp only [Act.put, List.setIfInBounds_toArray, List.set_cons_zero, List.set_cons_succ]) | (apply canN1; (· rfl); (· rfl); simp only [Act.put, List.setIfInBounds_toArray, List.set_cons_zero, List.set_cons_succ]) | (apply can0; (· rfl); (· (go_simp; done)); (· (intro w'; first | (go_simp; with_reducible rfl) | (go_simp; done))); simp only [Act.put, List.setIfInBounds_toArray, List.set_cons_zero, List.set_cons_succ]) | (apply can1; (· rfl); (· (go_simp; done)); (· (first | (go_simp; with_reducible rfl) | (go_simp; done))); simp only [Act.put, List.setIfInBounds_toArray, List.set_cons_zero, List.set_cons_succ]) | (apply canN; (· rfl); (· (go_simp; done)); simp only [Act.put, List.setIfInBounds_toArray, List.set_cons_zero, List.set_cons_succ]) | (apply canN1; (· rfl); (· (go_simp; done)); simp only [Act.put, List.setIfInBounds_toArray, List.set_cons_zero, List.set_cons_succ])))
            refine canE ?_
            clear s0 s1 s2 s3 s4
            have hb2 := HBK.out.kept HIe.out id
            have hrun : Hid (runsL (c :: t) = varsL (ceN n c) ++ runsL (t.drop (n - 1))) := Lib.hid (by rw [runsL, HNE.out]; rfl)
            have s0 := hb2.cell 0
            have s1 := hb2.cell 1
            have s2 := hb2.cell 2
            have s3 := hb2.cell 3
            have s4 := hb2.cell 4
            simp only [List.getElem?_toArray, List.getElem?_cons_zero, List.getElem?_cons_succ] at s0 s1 s2 s3 s4
            clear hb2
            clear hnx
            have hnv : Hid (numsV (ceN n c) = [.int .u64 n, .int .u64 (IntKind.u64.wrap r0), .int .u64 (IntKind.u64.wrap f0), .int .u64 (IntKind.u64.wrap g0), .int .u64 (IntKind.u64.wrap b0), .int .u64 (IntKind.u64.wrap w0)]) := Lib.hid (by rw [ceN_V n (by omega), HEQ.out])
            have hvl : Hid ((varsL (ceN n c)).length ≤ 60) := Lib.hid (varsL_len _ (ceN_lt n c))
            go_wp2_with fail
            go_at_call 41
            refine (vars_any _ _ (ceN n c) (by
              rw [hnv.out]
              exact (Rd.made wr 41 _ rfl (Nat.le_refl _)).kept ((Chg.refl _ nob).drew) (fun _ _ => id)) (ceN_lt _ _) (by (show 6 ≤ 1000); decide)).mono ?_
            rintro e w2 ⟨v, rfl, hv⟩
            have hvc := hv.2.1
            have hv' : Bx w w2 v (varsL (ceN n c)) := ⟨hv.1, (HB.out.2.1.trans (HCA.out.trans (HI.out.trans (((Chg.refl wr nob).alloc _).drew.trans hvc (fun _ _ h => h)) (fun _ _ h => h)) (fun _ _ h => h)) (fun _ _ h => h)), fun k hk => by
              have h1 := hv.2.2 k hk
              have h2 := (HB.out.2.1.trans (HCA.out.trans HI.out (fun _ _ h => h)) (fun _ _ h => h)).size
              simp at h1
              omega⟩
            have HV := Lib.hid hv'
            have HB2 := Lib.hid (show Bx w w2 _ B from ⟨HB.out.1.kept ((HCA.out.trans (HI.out.trans (((Chg.refl wr nob).alloc _).drew.trans hvc (fun _ _ h => h)) (fun _ _ h => h)) (fun _ _ h => h))) (fun _ _ => id), hv'.2.1, HB.out.2.2⟩)
            clear hv hv' hvc s0 s1 s2 s3 s4
            have hvl2 := hvl.out
            obtain ⟨av, cv, rfl, _⟩ := HV.out.1.form
            obtain ⟨ab, cb, rfl, _⟩ := HB.out.1.form
            go_wp2_with (at_builtin; refine wpList_bx rfl (.tmp 26) (.tmp 48) rfl _ B rfl HB2.out _ (varsL (ceN n c)) rfl HV.out.1 (by omega) ?_)
            intro v3 w3 hb3 hc3
            have HB3 := Lib.hid hb3
            clear hb3 hc3
            obtain ⟨a3, c3, rfl, _⟩ := HB3.out.1.form
            go_wp2
            go_roundw
            case rel =>
              have hdl : (t.drop (n - 1)).length = t.length + 1 - n := by rw [List.length_drop]; omega
              have hcut := HR.out.cut5 (k := n) (by omega)
              have hdc : (c :: t).drop n = t.drop (n - 1) := by obtain ⟨i, rfl⟩ : ∃ i, n = i + 1 := ⟨n - 1, by omega⟩; rfl
              rw [hdc] at hcut
              rw [hea.out] at hcut
              try rw [hz.out] at hcut
              rw [← hdl] at hcut ⊢
              exact ⟨t.drop (n - 1), B ++ varsL (ceN n c), _, _, by omega, rfl, Lib.hid hcut, Lib.hid (by rw [List.append_assoc, ← hrun.out]; exact HE.out), HB3⟩
            case measure => simp; omega
end Go.Proofs.YtmbdpcamhkdkmaaGreatDoor
