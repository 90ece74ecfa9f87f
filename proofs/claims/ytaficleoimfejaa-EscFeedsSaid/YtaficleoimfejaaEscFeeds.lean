/-
  Chapter 8: the walk of EscFeeds.
-/
import Derived.Test.YtaficleoimfejaaEsc33
import Derived.Test.YtaficleoimfejaaEsc19
namespace Go.Proofs.Ytaficleoimfejaa
open Go.RowKit
set_option linter.unusedVariables false
set_option linter.unusedSimpArgs false

/-- Where a slice of a slice begins. -/
def addS (a : Option Addr) (cap l : Nat) : Option Addr := if cap = l then a else a.map (·.add l)
theorem addS_blk {a : Option Addr} {cap l m n c d k : Nat} (h : blkOf (.slice (addS a cap l) m c) k) : blkOf (.slice a n d) k := by
  cases a with
  | none => unfold addS at h; split at h <;> cases h
  | some x =>
    unfold addS at h
    split at h
    · exact h
    · have hb : (x.add l).block = x.block := by unfold Addr.add; split <;> rfl
      simpa [blkOf, Value.ownBlock, hb] using h
theorem Rd.cut {w : World} {a : Option Addr} {len cap l m : Nat} {xs : List Value} (h : Rd w 1 (.slice a len cap) len xs) (hl : l ≤ m) (hm : m ≤ len) :
    Rd w 1 (.slice (addS a cap l) (m - l) (cap - l)) (m - l) ((xs.take m).drop l) := by
  obtain ⟨ao, cap', hv, h1, h2, h3⟩ := h
  cases hv
  refine ⟨_, _, rfl, by omega, by simp; omega, fun j u hu => ?_⟩
  have hj := (List.getElem?_eq_some_iff.1 hu).1
  simp at hj
  rw [List.getElem?_drop, List.getElem?_take_of_lt (by omega)] at hu
  obtain ⟨g, o, rfl, hc⟩ := h3 _ u hu
  by_cases hcl : cap = l
  · omega
  · refine ⟨g, o + l, by simp [addS, hcl, Addr.add_lit], by rw [Nat.add_assoc]; exact hc⟩

theorem size_rune (w : World) : (sizeOf (Try.prog.elem 22)).run Try.prog w = .ok 1 w := rfl
theorem run_cutr_h (a : Option Addr) (len cap : Nat) (k : IntKind) (h : Int) (w : World) (h0 : 0 ≤ h) (h2 : h ≤ cap) :
    (Instr.slice 22 (.slice a len cap) none (some (.int k h)) none).run Try.prog w = .ok (.slice (addS a cap 0) h.toNat cap) w := by
  rw [run_slice_h w 22 a len cap u_runes k h h0 h2]
  rfl
theorem run_cutr_l (a : Option Addr) (len cap : Nat) (k : IntKind) (l : Int) (w : World) (h0 : 0 ≤ l) (h2 : l ≤ len) :
    (Instr.slice 22 (.slice a len cap) (some (.int k l)) none none).run Try.prog w = .ok (.slice (addS a cap l.toNat) (len - l.toNat) (cap - l.toNat)) w := by
  rw [run_slice_l w 22 a len cap u_runes k l h0 h2, size_rune]
  simp [Result.andThen, sliced, addS]
attribute [local go_sem ↓] run_min_two run_max_two run_cutr_h run_cutr_l
/-- Both parsers after the same signs. -/
structure PX (w0 w : World) (p x : Nat) (S : PS) (T : RS) (n : Nat) (Fp Fx : Nat → Prop) : Prop where
  hp : PH w0 w p S n Fp
  hx : RR w x T Fx
  ok : RSok T n
  sim : Sim S T
  own : ∀ k, Fx k → w0.heap.size ≤ k
  ap : ∀ k, Fp k → ¬ Fx k
theorem PX.kept {w0 w w' : World} {p x : Nat} {S : PS} {T : RS} {n : Nat} {Fp Fx : Nat → Prop} (h : PX w0 w p x S T n Fp Fx) (hc : Chg w w' nob) : PX w0 w' p x S T n Fp Fx :=
  ⟨h.hp.kept hc, h.hx.kept hc (fun _ _ => id), h.ok, h.sim, h.own, h.ap⟩
set_option maxRecDepth 100000 in
set_option maxHeartbeats 16000000 in
theorem EscFeeds_walk (a0 : Option Addr) (len0 cap0 : Nat) (l0 : List Int) (a1 : Option Addr) (len1 cap1 : Nat) (l1 : List Int) (w : World)
    (hr0 : Rd w 1 (.slice a0 len0 cap0) len0 (l0.map (Value.int .i32))) (hl0 : l0.length = len0) (y0 : len0 * 4 ≤ 140737488351232) (w0 : ∀ x ∈ l0, -2147483648 ≤ x ∧ x ≤ 2147483647)
    (hr1 : Rd w 1 (.slice a1 len1 cap1) len1 (l1.map (Value.int .i64))) (hl1 : l1.length = len1) (y1 : len1 * 8 ≤ 140737488351232) (w1 : ∀ x ∈ l1, -9223372036854775808 ≤ x ∧ x ≤ 9223372036854775807) :
    Calls Try.prog 3 #[.slice a0 len0 cap0, .slice a1 len1 cap1] w fun e w' => e = .returned (.bool true) ∧ Chg w w' nob := by
  subst hl0
  have HR0 : Hid (Rd w 1 (.slice a0 l0.length cap0) l0.length (runesV l0)) := Lib.hid hr0
  have HR1 : Hid (Rd w 1 (.slice a1 len1 cap1) len1 (intI l1)) := Lib.hid hr1
  have HL1 := Lib.hid hl1
  clear hr0 hr1 w0 w1 y0 y1 hl1
  go_enter Try.func3, Try.ntmps3
  go_wp2_with fail
  go_at_call 7
  refine (efirst_any _).mono ?_
  rintro e wA ⟨rfl, hA⟩
  have HA := Lib.hid hA
  clear hA
  by_cases hl : l0.length ≤ 2000 ∧ len1 ≤ 200
  · obtain ⟨h5, h1⟩ := hl
    have m1 : ¬ (2000 : Int) < (l0.length : Int) := by omega
    have m2 : ¬ (200 : Int) < (len1 : Int) := by omega
    go_wp2_with fail
    go_at_call 8
    refine (h_new wA).mono ?_
    rintro e wB ⟨p, rfl, hP, hB, -⟩
    have HP := Lib.hid (hP.before HA.out)
    clear hP hB
    go_upto_region 6 with (fail)
    obtain ⟨wC, hwC⟩ : ∃ wC, wB.alloc (.cells #[.int .i64 0, .slice none 0 0, .bool false, .bool false, .int .i32 0, .int .i32 0, .slice none 0 0] 29) = wC := ⟨_, rfl⟩
    rw [hwC]
    have hX : RR wC wB.heap.size newR (fun k => k = wB.heap.size) := by
      rw [← hwC]
      exact ⟨.slice none 0 0, .slice none 0 0, Blk.new wB _ _, World.ownsRow_nil _ _ _ _, World.ownsRow_nil _ _ _ _, fun k => ⟨.inl, fun h => by rcases h with h | h | h; exact h; cases h; cases h⟩⟩
    have hcC : Chg wB wC nob := by rw [← hwC]; exact (Chg.refl wB nob).alloc _
    obtain ⟨x, hxe⟩ : ∃ x, wB.heap.size = x := ⟨_, rfl⟩
    rw [hxe] at hX ⊢
    have HPX : Hid (PX w wC p x newS newR 0 (fun k => k = p) (fun k => k = x)) := Lib.hid ⟨HP.out.kept hcC, hX, newR_ok, sim_new, fun k hk => by have h : k = x := hk; have := HP.out.chg.size; omega, fun k hk hk2 => by have h1 : k = p := hk; have h2 : k = x := hk2; have := HP.out.pr.lt (k := p) rfl; omega⟩
    clear hX hcC hxe hwC HP
    go_wp2
    go_loopw [7, 8] (fun rest i wr => ∃ k m : Nat, k ≤ len1 + 1 ∧ i = .int .i64 k ∧ m ≤ l0.length ∧ Hid (Rd w 1 rest (l0.length - m) (runesV (l0.drop m))) ∧ ∃ S T Fp Fx, Hid (PX w wr p x S T m Fp Fx))
      (fun _ i _ => len1 + 1 - (intOf i).toNat)
    case atStart => exact ⟨0, 0, by omega, rfl, by omega, HR0, _, _, _, _, HPX⟩
    case round =>
      obtain ⟨k, m, hk, rfl, hm, HRR, S, T, Fp, Fx, HX⟩ := hrel
      clear HPX
      obtain ⟨ar, cr, rfl, hcr, _⟩ := HRR.out.form
      generalize hpq : l0.length - m = P at *
      by_cases hkl : k ≤ len1
      · have hki : (k : Int) ≤ (len1 : Int) := by omega
        go_upto_if 38 with (fail)
        go_cut [9] (fun v wx => ∃ n : Nat, n ≤ P ∧ v = .int .i64 n ∧ wx = wr)
        case first =>
          by_cases hkc : k < len1
          · have hkc' : (k : Int) < (len1 : Int) := by omega
            obtain ⟨b1, o1, rfl, hc1⟩ := HR1.out.cell (j := k) (u := .int .i64 (l1.getD k 0)) (by simp [intI, List.getD, HL1.out, hkc])
            have hc2 := HX.out.hp.chg.cell hc1 id
            generalize l1.getD k 0 = c at *
            go_wp2
            all_goals go_meet
            all_goals (first | exact ⟨0, by omega, rfl, rfl⟩ | exact ⟨P, by omega, rfl, rfl⟩ | exact ⟨(mnI (mxI c 0) P).toNat, by unfold mnI mxI; (repeat' split) <;> omega, by congr 1; unfold mnI mxI; (repeat' split) <;> omega, rfl⟩ | exact ⟨c.toNat, by omega, by congr 1; omega, rfl⟩)
          · have hkc' : ¬ (k : Int) < (len1 : Int) := by omega
            go_wp2
            go_meet
            exact ⟨P, Nat.le_refl _, rfl, rfl⟩
        case rest =>
          obtain ⟨n, hn, rfl, rfl⟩ := hcut
          have hn0 : (0 : Int) ≤ (n : Int) := by omega
          have hn1 : (n : Int) ≤ (cr : Int) := by omega
          have hn2 : (n : Int) ≤ (P : Int) := by omega
          have hpl : ((l0.drop m).take n).length = n := by simp; omega
          have hx1 : Hid (Rd w 1 (.slice (addS ar cr 0) n cr) ((l0.drop m).take n).length (runesV ((l0.drop m).take n))) := by
            have h := HRR.out.cut (l := 0) (m := n) (Nat.zero_le _) hn
            unfold Hid
            rw [hpl]; simpa [runesV, List.map_take] using h
          obtain ⟨bs, hbs⟩ : ∃ bs, (l0.drop m).take n = bs := ⟨_, rfl⟩
          rw [hbs] at hx1 hpl
          have hsf := sim_feed HX.out.sim HX.out.hp.ok HX.out.hp.out bs
          have h16 : ∀ ev ∈ (runS S bs).out, ev.ps.length ≤ 16 := ps16_run bs S (fun ev hev => by rw [HX.out.hp.out] at hev; simp at hev)
          have hol := (HX.out.hp.ok.run bs).olen
          have hrk := rok_run HX.out.ok bs
          rw [hpl] at hol hrk
          have HPL := Lib.hid hpl
          have HSF := Lib.hid hsf
          have H16 := Lib.hid h16
          have HRK := Lib.hid hrk
          have hoL : (runS S bs).out.length ≤ 4000 := by omega
          clear hsf h16 hrk hol hbs hpl
          go_wp2_with fail
          refine wp_one [19] [4, 5, 10, 11, 15] [(15, [19])] [0, 1, 2, 3, 6, 7, 8, 9, 4, 5, 10, 11, 12, 13, 14, 16, 17, 18, 19, 15, 20, 21] rfl (by kernel_rfl) (fun _ _ _ _ _ h => h) ?_; simp only [List.map_cons, List.map_nil, List.getElem?_toArray, List.getElem?_cons_zero, List.getElem?_cons_succ]
          (repeat (first | (apply can0; (· rfl); (· rfl); (· (intro w'; first | (go_simp; with_reducible rfl) | (go_simp; done))); simp only [Act.put, List.setIfInBounds_toArray, List.set_cons_zero, List.set_cons_succ]) | (apply can1; (· rfl); (· rfl); (· (first | (go_simp; with_reducible rfl) | (go_simp; done))); simp only [Act.put, List.setIfInBounds_toArray, List.set_cons_zero, List.set_cons_succ]) | (apply canN; (· rfl); (· rfl); simp only [Act.put, List.setIfInBounds_toArray, List.set_cons_zero, List.set_cons_succ]) | (apply canN1; (· rfl); (· rfl); simp only [Act.put, List.setIfInBounds_toArray, List.set_cons_zero, List.set_cons_succ]) | (apply can0; (· rfl); (· (go_simp; done)); (· (intro w'; first | (go_simp; with_reducible rfl) | (go_simp; done))); simp only [Act.put, List.setIfInBounds_toArray, List.set_cons_zero, List.set_cons_succ]) | (apply can1; (· rfl); (· (go_simp; done)); (· (first | (go_simp; with_reducible rfl) | (go_simp; done))); simp only [Act.put, List.setIfInBounds_toArray, List.set_cons_zero, List.set_cons_succ]) | (apply canN; (· rfl); (· (go_simp; done)); simp only [Act.put, List.setIfInBounds_toArray, List.set_cons_zero, List.set_cons_succ]) | (apply canN1; (· rfl); (· (go_simp; done)); simp only [Act.put, List.setIfInBounds_toArray, List.set_cons_zero, List.set_cons_succ])))
          refine canW rfl [] rfl (fun K hK => ?_)
          go_simp
          go_at_call 11
          have HXd := Lib.hid (HX.out.kept (Chg.refl wc nob).drew)
          refine (h_feed HXd.out.hp _ bs (hx1.out.kept HXd.out.hp.chg (fun _ _ => id)) (fun h0 y hy hF => by have e1 := hx1.out.lt (by simpa [runesV] using h0) hy; have e2 := HXd.out.hp.own y hF; omega) (by have := HPL.out; omega)).mono ?_
          rintro e w2 ⟨v1, Fp2, D, rfl, hP2, hE2, hc2, hF2, hD2⟩
          have hx2 := HXd.out.hx.kept hc2 (fun y hy hf => HXd.out.ap y hf hy)
          have hxlt : ∀ y, Fx y → y < wc.drew.heap.size := fun y hy => HXd.out.hx.lt hy
          have hsz2 := hc2.size
          have hap2 : ∀ y, Fp2 y → ¬ Fx y := fun y hy hf => by
            rcases hF2 y hy with h | h
            · exact HXd.out.ap y h hf
            · have := hxlt y hf; omega
          have hDx : ∀ y, D y → ¬ Fx y := fun y hy hf => by
            rcases (hD2 y hy).1 with h | h
            · exact HXd.out.ap y h hf
            · have := hxlt y hf; omega
          have hxl2 : ∀ y, Fx y → y < w2.heap.size := fun y hy => by have := hxlt y hy; omega
          have HP2 := Lib.hid hP2
          have HE2 := Lib.hid hE2
          have HX2 := Lib.hid hx2
          have HAP := Lib.hid hap2
          have HDX := Lib.hid hDx
          have HXL := Lib.hid hxl2
          have HDL := Lib.hid (fun y hy => (hD2 y hy).2.2)
          have HXO := Lib.hid HXd.out.own
          have HXS := Lib.hid HXd.out.ok
          have HD2S := Lib.hid hc2.size
          obtain ⟨av1, cv1, rfl, _, _⟩ := hE2.len
          clear hP2 hE2 hc2 hF2 hD2 hx2 hxlt hsz2 hap2 hDx hxl2 HXd HX
          (refine hK _ _ (fun u hu => by cases hu) ?_; clear hK K; try simp only [Act.put, List.setIfInBounds_toArray, List.set_cons_zero, List.set_cons_succ])
          (repeat (first | (apply can0; (· rfl); (· rfl); (· (intro w'; first | (go_simp; with_reducible rfl) | (go_simp; done))); simp only [Act.put, List.setIfInBounds_toArray, List.set_cons_zero, List.set_cons_succ]) | (apply can1; (· rfl); (· rfl); (· (first | (go_simp; with_reducible rfl) | (go_simp; done))); simp only [Act.put, List.setIfInBounds_toArray, List.set_cons_zero, List.set_cons_succ]) | (apply canN; (· rfl); (· rfl); simp only [Act.put, List.setIfInBounds_toArray, List.set_cons_zero, List.set_cons_succ]) | (apply canN1; (· rfl); (· rfl); simp only [Act.put, List.setIfInBounds_toArray, List.set_cons_zero, List.set_cons_succ]) | (apply can0; (· rfl); (· (go_simp; done)); (· (intro w'; first | (go_simp; with_reducible rfl) | (go_simp; done))); simp only [Act.put, List.setIfInBounds_toArray, List.set_cons_zero, List.set_cons_succ]) | (apply can1; (· rfl); (· (go_simp; done)); (· (first | (go_simp; with_reducible rfl) | (go_simp; done))); simp only [Act.put, List.setIfInBounds_toArray, List.set_cons_zero, List.set_cons_succ]) | (apply canN; (· rfl); (· (go_simp; done)); simp only [Act.put, List.setIfInBounds_toArray, List.set_cons_zero, List.set_cons_succ]) | (apply canN1; (· rfl); (· (go_simp; done)); simp only [Act.put, List.setIfInBounds_toArray, List.set_cons_zero, List.set_cons_succ])))
          refine canW rfl [] rfl (fun K hK => ?_)
          go_simp
          go_at_call 10
          refine (plain_any w2 _ (runS S bs).out D HE2.out HDL.out (by omega)).mono ?_
          rintro e w3 ⟨v2, rfl, qq, hq1, hq2, hq3, hc3, hq5⟩
          have hE3 : EVT w3 v2 (runS S bs).out D (blkOf v2) := ⟨qq, hq1, hq2, hq3, fun k hk => hk⟩
          have HE3 := Lib.hid hE3
          have HV3 := Lib.hid hq5
          have HP3 := Lib.hid (HP2.out.kept hc3)
          have HX3 := Lib.hid (HX2.out.kept hc3 (fun _ _ => id))
          have HS3 := Lib.hid hc3.size
          obtain ⟨av2, cv2, rfl, _, _⟩ := hE3.len
          clear hE3 hq1 hq2 hq3 hc3 hq5 HP2 HX2 HE2
          (refine hK _ _ (fun u hu => by cases hu) ?_; clear hK K; try simp only [Act.put, List.setIfInBounds_toArray, List.set_cons_zero, List.set_cons_succ])
          (repeat (first | (apply can0; (· rfl); (· rfl); (· (intro w'; first | (go_simp; with_reducible rfl) | (go_simp; done))); simp only [Act.put, List.setIfInBounds_toArray, List.set_cons_zero, List.set_cons_succ]) | (apply can1; (· rfl); (· rfl); (· (first | (go_simp; with_reducible rfl) | (go_simp; done))); simp only [Act.put, List.setIfInBounds_toArray, List.set_cons_zero, List.set_cons_succ]) | (apply canN; (· rfl); (· rfl); simp only [Act.put, List.setIfInBounds_toArray, List.set_cons_zero, List.set_cons_succ]) | (apply canN1; (· rfl); (· rfl); simp only [Act.put, List.setIfInBounds_toArray, List.set_cons_zero, List.set_cons_succ]) | (apply can0; (· rfl); (· (go_simp; done)); (· (intro w'; first | (go_simp; with_reducible rfl) | (go_simp; done))); simp only [Act.put, List.setIfInBounds_toArray, List.set_cons_zero, List.set_cons_succ]) | (apply can1; (· rfl); (· (go_simp; done)); (· (first | (go_simp; with_reducible rfl) | (go_simp; done))); simp only [Act.put, List.setIfInBounds_toArray, List.set_cons_zero, List.set_cons_succ]) | (apply canN; (· rfl); (· (go_simp; done)); simp only [Act.put, List.setIfInBounds_toArray, List.set_cons_zero, List.set_cons_succ]) | (apply canN1; (· rfl); (· (go_simp; done)); simp only [Act.put, List.setIfInBounds_toArray, List.set_cons_zero, List.set_cons_succ])))
          refine canW rfl [] rfl (fun K hK => ?_)
          go_simp
          go_at_call 12
          refine (reffeed_any HX3.out HXS.out _ bs (hx1.out.kept HP3.out.chg (fun _ _ => id)) (fun h0 y hy hF => by have e1 := hx1.out.lt (by simpa [runesV] using h0) hy; have e2 := HXO.out y hF; omega) (by have := HPL.out; omega)).mono ?_
          rintro e w4 ⟨v3, rfl, hc4, Fx4, P4, R4, hR4, hE4, hF4, -, -⟩
          rw [← HSF.out.1] at hE4
          have hz2 := HD2S.out
          have hz3 := HS3.out
          have HP4 := Lib.hid (HP3.out.apart hc4 (fun y hy => HAP.out y hy) HXO.out)
          have HE5 := Lib.hid (HE3.out.kept hc4 (fun y hy => HDX.out y hy) (fun y hy hf => by have e1 := HV3.out y hy; have e2 := HXL.out y hf; omega))
          have HE4 := Lib.hid hE4
          have HR4 := Lib.hid hR4
          have hap4 : ∀ y, Fp2 y → ¬ Fx4 y := fun y hy hf => by
            rcases hF4 y hf with h | h
            · exact HAP.out y hy h
            · have := HP3.out.pr.lt hy; omega
          have hown4 : ∀ y, Fx4 y → w.heap.size ≤ y := fun y hy => by
            rcases hF4 y hy with h | h
            · exact HXO.out y h
            · have := HP3.out.chg.size; omega
          have HAP4 := Lib.hid hap4
          have HOW4 := Lib.hid hown4
          obtain ⟨av3, cv3, rfl, _, _⟩ := hE4.len
          clear hc4 hR4 hE4 hF4 hap4 hown4 hz2 hz3 HP3 HX3 HE3 HV3 HXO HXS HAP HDX HXL HDL HD2S HS3
          (refine hK _ _ (fun u hu => by cases hu) ?_; clear hK K; try simp only [Act.put, List.setIfInBounds_toArray, List.set_cons_zero, List.set_cons_succ])
          (repeat (first | (apply can0; (· rfl); (· rfl); (· (intro w'; first | (go_simp; with_reducible rfl) | (go_simp; done))); simp only [Act.put, List.setIfInBounds_toArray, List.set_cons_zero, List.set_cons_succ]) | (apply can1; (· rfl); (· rfl); (· (first | (go_simp; with_reducible rfl) | (go_simp; done))); simp only [Act.put, List.setIfInBounds_toArray, List.set_cons_zero, List.set_cons_succ]) | (apply canN; (· rfl); (· rfl); simp only [Act.put, List.setIfInBounds_toArray, List.set_cons_zero, List.set_cons_succ]) | (apply canN1; (· rfl); (· rfl); simp only [Act.put, List.setIfInBounds_toArray, List.set_cons_zero, List.set_cons_succ]) | (apply can0; (· rfl); (· (go_simp; done)); (· (intro w'; first | (go_simp; with_reducible rfl) | (go_simp; done))); simp only [Act.put, List.setIfInBounds_toArray, List.set_cons_zero, List.set_cons_succ]) | (apply can1; (· rfl); (· (go_simp; done)); (· (first | (go_simp; with_reducible rfl) | (go_simp; done))); simp only [Act.put, List.setIfInBounds_toArray, List.set_cons_zero, List.set_cons_succ]) | (apply canN; (· rfl); (· (go_simp; done)); simp only [Act.put, List.setIfInBounds_toArray, List.set_cons_zero, List.set_cons_succ]) | (apply canN1; (· rfl); (· (go_simp; done)); simp only [Act.put, List.setIfInBounds_toArray, List.set_cons_zero, List.set_cons_succ])))
          refine canW rfl [] rfl (fun K hK => ?_)
          go_simp
          go_at_call 9
          refine (sameevents_any w4 _ _ (runS S bs).out _ _ _ _ HE5.out HE4.out (by omega) (fun ev hev => by have := H16.out ev hev; omega)).mono ?_
          rintro e w5 ⟨rfl, hc5⟩
          have hX5 : PX w w5 p x (outE (runS S bs)) (refRun T bs).1 (m + n) Fp2 Fx4 := by
            have h := HP4.out.kept hc5
            rw [HPL.out] at h
            exact ⟨h, HR4.out.kept hc5 (fun _ _ => id), HRK.out, HSF.out.2, HOW4.out, HAP4.out⟩
          have HX5 := Lib.hid hX5
          have nc0 := hX5.hx.nums.1
          rw [hX5.sim.st] at nc0
          clear hX5 hc5 HE5 HE4 HR4 HP4 HAP4 HOW4
          obtain ⟨st5, hst5⟩ : ∃ st5, (outE (runS S bs)).st = st5 := ⟨_, rfl⟩
          rw [hst5] at nc0
          have HST5 := Lib.hid hst5
          have hss : (st5 != st5) = false := by simp
          clear hst5
          (refine hK _ _ (fun u hu => by cases hu) ?_; clear hK K; try simp only [Act.put, List.setIfInBounds_toArray, List.set_cons_zero, List.set_cons_succ])
          (repeat (first | (apply can0; (· rfl); (· rfl); (· (intro w'; first | (go_simp; with_reducible rfl) | (go_simp; done))); simp only [Act.put, List.setIfInBounds_toArray, List.set_cons_zero, List.set_cons_succ]) | (apply can1; (· rfl); (· rfl); (· (first | (go_simp; with_reducible rfl) | (go_simp; done))); simp only [Act.put, List.setIfInBounds_toArray, List.set_cons_zero, List.set_cons_succ]) | (apply canN; (· rfl); (· rfl); simp only [Act.put, List.setIfInBounds_toArray, List.set_cons_zero, List.set_cons_succ]) | (apply canN1; (· rfl); (· rfl); simp only [Act.put, List.setIfInBounds_toArray, List.set_cons_zero, List.set_cons_succ]) | (apply can0; (· rfl); (· (go_simp; done)); (· (intro w'; first | (go_simp; with_reducible rfl) | (go_simp; done))); simp only [Act.put, List.setIfInBounds_toArray, List.set_cons_zero, List.set_cons_succ]) | (apply can1; (· rfl); (· (go_simp; done)); (· (first | (go_simp; with_reducible rfl) | (go_simp; done))); simp only [Act.put, List.setIfInBounds_toArray, List.set_cons_zero, List.set_cons_succ]) | (apply canN; (· rfl); (· (go_simp; done)); simp only [Act.put, List.setIfInBounds_toArray, List.set_cons_zero, List.set_cons_succ]) | (apply canN1; (· rfl); (· (go_simp; done)); simp only [Act.put, List.setIfInBounds_toArray, List.set_cons_zero, List.set_cons_succ])))
          refine canW rfl [19] rfl (fun K hK => ?_)
          go_simp
          go_at_call 13
          refine (state_is HX5.out.hp.pr st5 HST5.out).mono ?_
          rintro e w' ⟨rfl, rfl⟩
          (refine hK _ _ (fun u hu => by simp only [List.mem_cons, List.not_mem_nil, or_false] at hu; (first | (subst hu; exact reRun_mk rfl (by first | (go_simp; with_reducible rfl) | (go_simp; done)) (holds_at rfl)) | (rcases hu with rfl | rfl <;> exact reRun_mk rfl (by first | (go_simp; with_reducible rfl) | (go_simp; done)) (holds_at rfl)) | (rcases hu with rfl | rfl | rfl <;> exact reRun_mk rfl (by first | (go_simp; with_reducible rfl) | (go_simp; done)) (holds_at rfl)))) ?_; clear hK K; try simp only [Act.put, List.setIfInBounds_toArray, List.set_cons_zero, List.set_cons_succ])
          (repeat (first | (apply can0; (· rfl); (· rfl); (· (intro w'; first | (go_simp; with_reducible rfl) | (go_simp; done))); simp only [Act.put, List.setIfInBounds_toArray, List.set_cons_zero, List.set_cons_succ]) | (apply can1; (· rfl); (· rfl); (· (first | (go_simp; with_reducible rfl) | (go_simp; done))); simp only [Act.put, List.setIfInBounds_toArray, List.set_cons_zero, List.set_cons_succ]) | (apply canN; (· rfl); (· rfl); simp only [Act.put, List.setIfInBounds_toArray, List.set_cons_zero, List.set_cons_succ]) | (apply canN1; (· rfl); (· rfl); simp only [Act.put, List.setIfInBounds_toArray, List.set_cons_zero, List.set_cons_succ]) | (apply can0; (· rfl); (· (go_simp; done)); (· (intro w'; first | (go_simp; with_reducible rfl) | (go_simp; done))); simp only [Act.put, List.setIfInBounds_toArray, List.set_cons_zero, List.set_cons_succ]) | (apply can1; (· rfl); (· (go_simp; done)); (· (first | (go_simp; with_reducible rfl) | (go_simp; done))); simp only [Act.put, List.setIfInBounds_toArray, List.set_cons_zero, List.set_cons_succ]) | (apply canN; (· rfl); (· (go_simp; done)); simp only [Act.put, List.setIfInBounds_toArray, List.set_cons_zero, List.set_cons_succ]) | (apply canN1; (· rfl); (· (go_simp; done)); simp only [Act.put, List.setIfInBounds_toArray, List.set_cons_zero, List.set_cons_succ])))
          refine canE ?_
          have hrr5 : Rd w 1 (.slice (addS ar cr n) (P - n) (cr - n)) (l0.length - (m + n)) (runesV (l0.drop (m + n))) := by
            have h := HRR.out.cut (l := n) (m := P) hn (Nat.le_refl _)
            have e : l0.length - (m + n) = P - n := by omega
            have e2 : (runesV (l0.drop m)).take P = runesV (l0.drop m) := List.take_of_length_le (by simp [runesV]; omega)
            rw [e2] at h
            rw [e, ← List.drop_drop]
            simpa [runesV, List.map_drop] using h
          have HRR5 := Lib.hid hrr5
          clear hrr5 nc0 hss
          go_wp2
          go_roundw
          case rel => exact ⟨k + 1, m + n, by omega, by go_num, by omega, HRR5, _, _, _, _, HX5⟩
          case measure => simp [intOf]; omega
      · obtain rfl : k = len1 + 1 := by omega
        have hki2 : ¬ ((len1 : Int) + 1 ≤ (len1 : Int)) := by omega
        go_wp2_with fail
        go_at_call 7
        refine (efirst_any _).mono ?_
        rintro e wC ⟨rfl, hC⟩
        go_wp2
        go_ret
        exact ⟨rfl, HX.out.hp.chg.trans hC fun _ _ h => h⟩
  · rcases (show 2000 < l0.length ∨ (l0.length ≤ 2000 ∧ 200 < len1) by omega) with c | ⟨c, c'⟩
    · have m1 : (2000 : Int) < (l0.length : Int) := by omega
      go_wp2_with fail
      go_at_call 7
      refine (efirst_any _).mono ?_
      rintro e wC ⟨rfl, hC⟩
      go_wp2
      go_ret
      exact ⟨rfl, HA.out.trans hC fun _ _ h => h⟩
    · have m1 : ¬ (2000 : Int) < (l0.length : Int) := by omega
      have m2 : (200 : Int) < (len1 : Int) := by omega
      go_wp2_with fail
      go_at_call 7
      refine (efirst_any _).mono ?_
      rintro e wC ⟨rfl, hC⟩
      go_wp2
      go_ret
      exact ⟨rfl, HA.out.trans hC fun _ _ h => h⟩
end Go.Proofs.Ytaficleoimfejaa
