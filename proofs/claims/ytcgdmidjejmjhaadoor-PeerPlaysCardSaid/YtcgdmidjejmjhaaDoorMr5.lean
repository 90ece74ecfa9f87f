
/-
  The document's Hmac and Tag.
-/
import Derived.Test.YtcgdmidjejmjhaaDoorMr4
import Derived.Test.YtcgdmidjejmjhaaDoorHm
namespace Go.Proofs.YtcgdmidjejmjhaaDoor
open Go.RowKit
set_option linter.unusedVariables false
set_option linter.unusedSimpArgs false

theorem xor_comm8 (a b : Int) : bits .xor .u8 a b = bits .xor .u8 b a := by
  unfold bits
  simp only [BitVec.xor_comm]
theorem made_bytes (k : Nat) : (madeCells #[.int .u8 0] k).toList = bytesV (List.replicate k 0) := by
  apply List.ext_getElem?
  intro j
  by_cases h : j < k
  · rw [bytesV, List.getElem?_map, List.getElem?_replicate, if_pos h]
    simp [madeCells, h, Nat.mod_one]
  · rw [List.getElem?_eq_none (by simp [madeCells]; omega), List.getElem?_eq_none (by simp [bytesV]; omega)]
def zero64 : List Int := List.replicate 64 0
theorem Blk.atN {w : World} {n : Nat} {t : TypeId} {cs : Array Value} (h : n = w.heap.size) : Blk (w.alloc (.cells cs t)) n t cs := by subst h; exact Blk.new w t cs
theorem mk64 (w : World) : (Instr.makeSlice 22 (.int .i64 64) (.int .i64 64)).run Tryd.prog w = .ok (.slice (some ⟨w.heap.size, 0, none⟩) 64 64) (w.alloc (.cells (bytesV zero64).toArray 5)) := by
  show (Instr.makeSlice 22 (.int .i64 64) (.int .i64 64)).run Tryd.prog w = .ok (.slice (some ⟨w.heap.size, 0, none⟩) 64 64) (w.alloc (.cells (bytesV (List.replicate 64 0)).toArray 5))
  obtain ⟨i, hi, hz, hsize, hby⟩ := info_parts i_byte
  have hr := run_make (P := Tryd.prog) w 22 5 i _ u_bytes hi hz .i64 .i64 64 64 (by omega) (Int.le_refl _) (by rw [hby]; omega) (by omega)
  have e : madeCells (Value.int .u8 0).cells (Int.toNat 64 * i.size) = (bytesV (List.replicate 64 0)).toArray := by
    rw [hsize]
    apply Array.ext'
    exact made_bytes 64
  rw [e] at hr
  exact hr
/-- A row whose first i bytes are a key's, each turned by another one. -/
def tnN (by_ : Int) (k : List Int) (i : Nat) : List Int := (List.range 64).map fun j => if j < i then bits .xor .u8 by_ (k.getD j 0) else 0
theorem tnN_zero (by_ : Int) (k : List Int) : tnN by_ k 0 = zero64 := by
  show _ = List.replicate 64 0
  apply List.ext_getElem?
  intro j
  by_cases h : j < 64
  · rw [List.getElem?_replicate, if_pos h]; simp [tnN, h]
  · rw [List.getElem?_eq_none (by simp [tnN]; omega), List.getElem?_eq_none (by rw [List.length_replicate]; omega)]
theorem tnN_set (by_ : Int) (k : List Int) {i : Nat} (h : i < 64) : (tnN by_ k i).set i (bits .xor .u8 (k.getD i 0) by_) = tnN by_ k (i + 1) := by
  rw [xor_comm8]
  apply List.ext_getElem?
  intro j
  by_cases hj : j = i
  · subst hj
    rw [List.getElem?_set_self (by simp [tnN]; omega)]
    simp [tnN, h]
  · rw [List.getElem?_set_ne (by omega)]
    by_cases h3 : j < 64
    · simp only [tnN, List.getElem?_map, List.getElem?_range h3, Option.map_some]
      by_cases h4 : j < i
      · rw [if_pos h4, if_pos (by omega)]
      · rw [if_neg h4, if_neg (by omega)]
    · rw [List.getElem?_eq_none (by simp [tnN]; omega), List.getElem?_eq_none (by simp [tnN]; omega)]
theorem tnN_end (by_ : Int) (k : List Int) : tnN by_ k 64 = (List.range 64).map fun i => bits .xor .u8 by_ (k.getD i 0) := by
  unfold tnN
  refine List.map_congr_left fun j hj => ?_
  rw [if_pos (by simpa using hj)]
theorem tnN_at (by_ : Int) (k : List Int) {i : Nat} (h : i < 64) : (bytesV (tnN by_ k i)).toArray[i]? = some (.int .u8 0) := by simp [bytesV, tnN, h]
theorem tnN_len (by_ : Int) (k : List Int) (i : Nat) : (tnN by_ k i).length = 64 := by simp [tnN]
theorem own_blk {w : World} {g : Nat} {L : List Int} (h : Blk w g 5 (bytesV L).toArray) (hl : L.length ≤ 1000000) : Own w 5 1 (.slice (some ⟨g, 0, none⟩) L.length L.length) L.length (bytesV L) :=
  ⟨by simp [bytesV], .inr ⟨g, L.length, _, rfl, Nat.zero_le _, h, Nat.le_refl _, by unfold maxLen; omega, by simp [bytesV], by rw [Nat.mul_one]; exact List.take_of_length_le (by simp [bytesV])⟩⟩
theorem own_take {w : World} {av : Option Addr} {cv k : Nat} {L : List Int} (h : Own w 5 1 (.slice av L.length cv) L.length (bytesV L)) (hk : k ≤ L.length) : Own w 5 1 (.slice av k cv) k (bytesV (L.take k)) := by
  refine ⟨by simp [bytesV]; omega, ?_⟩
  rcases h.2 with ⟨hv, hn⟩ | ⟨g, cap, cur, hv, hg, hh, h1, h2, h3, h4⟩
  · obtain rfl : k = 0 := by omega
    injection hv with e1 e2 e3
    subst e1 e3
    exact .inl ⟨rfl, rfl⟩
  · cases hv
    refine .inr ⟨g, _, cur, rfl, hg, hh, by omega, h2, h3, ?_⟩
    rw [show (cur.toList.take (k * 1)) = (cur.toList.take (L.length * 1)).take k by rw [List.take_take]; congr 1; omega, h4]
    simp [bytesV, List.map_take]
def keyL (k : List Int) : List Int := if k.length ≤ 64 then k else sumL k
theorem keyL_len (k : List Int) : (keyL k).length ≤ 64 := by unfold keyL; split; assumption; rw [sumL_len]; omega
theorem paddedL_tn (k : List Int) (b : Int) : paddedL k b = tnN b (keyL k) 64 := by rw [tnN_end]; rfl
section
attribute [local go_sem] mk64
set_option maxRecDepth 100000 in
set_option maxHeartbeats 1500000 in
theorem rhmac_any (w : World) (va vt : Value) (xs ts : List Int) (ha : Rd w 1 va xs.length (bytesV xs)) (hn : NilOk va) (hb : ∀ x ∈ xs, 0 ≤ x ∧ x ≤ 255) (hl : xs.length ≤ 1000000)
    (htx : Rd w 1 vt ts.length (bytesV ts)) (htn : NilOk vt) (htb : ∀ x ∈ ts, 0 ≤ x ∧ x ≤ 255) (htl : ts.length ≤ 900000) :
    Calls Tryd.prog 35 #[va, vt] w fun e w' => ∃ v, e = .returned v ∧ Bx w w' v (hmacL xs ts) := by
  have HA := Lib.hid ha
  have HN := Lib.hid hn
  have HBY := Lib.hid hb
  have HTX := Lib.hid htx
  have HTN := Lib.hid htn
  have HTB := Lib.hid htb
  obtain ⟨ao, cap, rfl, hc, hlen⟩ := ha.form
  have hn0 : (0 : Int) ≤ (xs.length : Int) := by omega
  have HKL : Hid ((xs.length ≤ 64 → keyL xs = xs) ∧ (¬ xs.length ≤ 64 → keyL xs = sumL xs)) := Lib.hid ⟨fun h => if_pos h, fun h => if_neg h⟩
  have hkl := keyL_len xs
  have HP1 : Hid (paddedL xs 54 = tnN 54 (keyL xs) 64) := Lib.hid (paddedL_tn xs 54)
  have HP2 : Hid (paddedL xs 92 = tnN 92 (keyL xs) 64) := Lib.hid (paddedL_tn xs 92)
  obtain ⟨Ky, hKy⟩ : ∃ K, keyL xs = K := ⟨_, rfl⟩
  rw [hKy] at HKL hkl HP1 HP2
  clear ha hn hb htx htn htb hc hlen hKy
  go_enter Tryd.func35, Tryd.ntmps35
  go_upto_if 11 with (fail)
  go_cut [0] (fun kv wx => ∃ ak ck, kv = .slice ak Ky.length ck ∧ Hid (Rd wx 1 (.slice ak Ky.length ck) Ky.length (bytesV Ky)) ∧ Hid (Chg w wx nob))
  case first =>
    by_cases h64 : xs.length ≤ 64
    · have hi64 : (xs.length : Int) ≤ 64 := by omega
      have hK := HKL.out.1 h64
      subst hK
      go_wp2
      go_meet
      exact ⟨_, _, rfl, HA, Lib.hid (Chg.refl _ _)⟩
    · have hi64 : (64 : Int) < (xs.length : Int) := by omega
      have HK := Lib.hid (HKL.out.2 h64)
      go_wp2_with fail
      go_at_call 40
      refine (rsum_any w _ xs HA.out HN.out HBY.out hl).mono ?_
      rw [← HK.out]
      rintro e w1 ⟨v1, rfl, hb1⟩
      have HR1 := Lib.hid hb1.1.rd
      have HC1 := Lib.hid hb1.2.1
      obtain ⟨av, cv, rfl, _⟩ := hb1.1.form
      clear hb1
      go_wp2
      go_meet
      exact ⟨_, _, rfl, HR1, HC1⟩
  case rest =>
    obtain ⟨ak, ck, rfl, HK, HC⟩ := hcut
    rename World => w1
    clear HA
    go_upto_region 3 with (fail)
    go_cut [5, 6] (fun p q wx => ∃ bp bq : Nat, p = .slice (some ⟨bp, 0, none⟩) 64 64 ∧ q = .slice (some ⟨bq, 0, none⟩) 64 64 ∧ Hid (bp ≠ bq ∧ w1.heap.size ≤ bp ∧ w1.heap.size ≤ bq) ∧ Hid (Chg w1 wx nob) ∧ Hid (Blk wx bp 5 (bytesV (tnN 54 Ky 0)).toArray) ∧ Hid (Blk wx bq 5 (bytesV (tnN 92 Ky 0)).toArray))
    case first =>
      go_region_with (fail)
      all_goals go_wp2
      all_goals go_meet
      all_goals rw [tnN_zero, tnN_zero]
      all_goals exact ⟨_, _, rfl, rfl, Lib.hid (by have h1 := size_al w1 (.cells (bytesV zero64).toArray 5); simp at h1 ⊢), Lib.hid (((Chg.refl w1 nob).alloc _).alloc _).drew, Lib.hid (by first | exact Blk.drew (Blk.atN (size_al _ _).symm) | exact Blk.drew (Blk.alloc (Blk.atN rfl) _)), Lib.hid (by first | exact Blk.drew (Blk.atN (size_al _ _).symm) | exact Blk.drew (Blk.alloc (Blk.atN rfl) _))⟩
    case rest =>
      obtain ⟨bp, bq, rfl, rfl, HD, HC2, HBP, HBQ⟩ := hcut
      rename World => w2
      go_wp2_with fail
      go_loopw [7, 8] (fun iv _ wr => ∃ i : Nat, i ≤ 64 ∧ iv = .int .i64 i ∧ Hid (Chg w1 wr nob) ∧ Hid (Blk wr bp 5 (bytesV (tnN 54 Ky i)).toArray) ∧ Hid (Blk wr bq 5 (bytesV (tnN 92 Ky i)).toArray)) (fun iv _ _ => 64 - (intOf iv).toNat)
      case atStart => exact ⟨0, by omega, rfl, HC2, HBP, HBQ⟩
      case round =>
        obtain ⟨i, hi, rfl, HC3, HB1, HB2⟩ := hrel
        clear HC2 HBP HBQ
        by_cases hil : i < 64
        · have hii : (i : Int) < 64 := by omega
          have hi0 : (0 : Int) ≤ (i : Int) := by omega
          go_upto_if 23 with (fail)
          go_cut [8] (fun c wx => c = .int .u8 (Ky.getD i 0) ∧ wx = wr)
          case first =>
            by_cases hk : i < Ky.length
            · have hki : (i : Int) < (Ky.length : Int) := by omega
              obtain ⟨gk, ok, rfl, hck⟩ := HK.out.cell (j := i) (u := .int .u8 (Ky.getD i 0)) (by simp [bytesV, List.getD, hk])
              have hcr := HC3.out.cell hck id
              obtain ⟨x, hx⟩ : ∃ x, Ky.getD i 0 = x := ⟨_, rfl⟩
              rw [hx] at hcr
              have HX := Lib.hid hx
              clear hck hx
              go_wp2
              go_meet
              exact ⟨by rw [HX.out], rfl⟩
            · have hki : decide (i < Ky.length) = false := by simp; omega
              have hx : Ky.getD i 0 = 0 := by simp [List.getD, List.getElem?_eq_none (show Ky.length ≤ i by omega)]
              have HX := Lib.hid hx
              clear hx
              go_wp2
              go_meet
              exact ⟨by rw [HX.out], rfl⟩
          case rest =>
            obtain ⟨rfl, rfl⟩ := hcut
            have f1 := HB1.out.free i
            have q1 := HB1.out.cell i
            rw [tnN_at 54 Ky hil] at q1
            have hne := HD.out.1
            have HB3 : Hid (Blk ((World.setCell _ ⟨bp, i, none⟩ (.int .u8 (bits .xor .u8 (Ky.getD i 0) 54))).setCell ⟨bq, i, none⟩ (.int .u8 (bits .xor .u8 (Ky.getD i 0) 92))) bp 5 (bytesV (tnN 54 Ky (i + 1))).toArray) := Lib.hid (by
              have h := (HB1.out.set i (.int .u8 (bits .xor .u8 (Ky.getD i 0) 54))).other (p := ⟨bq, i, none⟩) hne (.int .u8 (bits .xor .u8 (Ky.getD i 0) 92))
              rw [← tnN_set 54 Ky hil]
              simpa [bytesV, List.map_set] using h)
            have hq := HB2.out.other (p := ⟨bp, i, none⟩) (Ne.symm hne) (.int .u8 (bits .xor .u8 (Ky.getD i 0) 54))
            have f2 := hq.free i
            have q2 := hq.cell i
            rw [tnN_at 92 Ky hil] at q2
            have HB4 : Hid (Blk ((World.setCell _ ⟨bp, i, none⟩ (.int .u8 (bits .xor .u8 (Ky.getD i 0) 54))).setCell ⟨bq, i, none⟩ (.int .u8 (bits .xor .u8 (Ky.getD i 0) 92))) bq 5 (bytesV (tnN 92 Ky (i + 1))).toArray) := Lib.hid (by
              have h := hq.set i (.int .u8 (bits .xor .u8 (Ky.getD i 0) 92))
              rw [← tnN_set 92 Ky hil]
              simpa [bytesV, List.map_set] using h)
            have HC4 := Lib.hid ((HC3.out.setCell (p := ⟨bp, i, none⟩) (.inr HD.out.2.1) (.int .u8 (bits .xor .u8 (Ky.getD i 0) 54))).setCell (p := ⟨bq, i, none⟩) (.inr HD.out.2.2) (.int .u8 (bits .xor .u8 (Ky.getD i 0) 92)))
            obtain ⟨x, hx⟩ : ∃ x, Ky.getD i 0 = x := ⟨_, rfl⟩
            rw [hx] at HB3 HB4 HC4 f2 q2 ⊢
            clear hx hq hne HB1 HB2 HC3
            go_wp2_with fail
            go_roundw
            case rel => exact ⟨i + 1, by omega, by go_num, HC4, HB3, HB4⟩
            case measure => simp [intOf]; omega
        · obtain rfl : i = 64 := by omega
          rename World => w3
          rw [← HP1.out] at HB1
          rw [← HP2.out] at HB2
          have hp1 := paddedL_len xs 54
          have hp2 := paddedL_len xs 92
          have HPB1 := Lib.hid (paddedL_byte xs 54)
          have HPB2 := Lib.hid (paddedL_byte xs 92)
          have HHM : Hid (hmacL xs ts = sumL (paddedL xs 92 ++ sumL (paddedL xs 54 ++ ts))) := Lib.hid rfl
          obtain ⟨I, hI⟩ : ∃ I, paddedL xs 54 = I := ⟨_, rfl⟩
          obtain ⟨O, hO⟩ : ∃ O, paddedL xs 92 = O := ⟨_, rfl⟩
          rw [hI] at HB1 hp1 HPB1 HHM
          rw [hO] at HB2 hp2 HPB2 HHM
          have HB5 : Hid (Bx w w3 (.slice (some ⟨bp, 0, none⟩) I.length I.length) I) := Lib.hid ⟨own_blk HB1.out (by omega), HC.out.trans HC3.out (fun _ _ h => h), fun k hk => by cases hk; exact Nat.le_trans HC.out.size HD.out.2.1⟩
          have HW3 : Hid (Chg w w3 nob) := Lib.hid (HC.out.trans HC3.out (fun _ _ h => h))
          have HI := Lib.hid hp1
          have HO := Lib.hid hp2
          have HQ : Hid (w.heap.size ≤ bq) := Lib.hid (Nat.le_trans HC.out.size HD.out.2.2)
          clear hI hO HK HC HC3 HKL HP1 HP2 hkl
          go_wp2_with (at_builtin; refine wpList_bxr rfl (.tmp 39) (.tmp 40) rfl (.slice (some ⟨bp, 0, none⟩) I.length I.length) I (by rw [HI.out]; rfl) HB5.out vt ts rfl (HTX.out.kept HW3.out (fun _ _ => id)) HTN.out (by have := HI.out; omega) ?_)
          intro v4 w4 hb4 hc4
          have HB4 := Lib.hid hb4
          have HQ4 : Hid (Blk w4 bq 5 (bytesV O).toArray) := Lib.hid (HB2.out.kept hc4 (fun h => HD.out.1 (by cases h; rfl)))
          clear hb4 hc4 HB5 HB1 HB2
          go_wp2_with fail
          go_at_call 40
          refine (rsum_any w4 v4 (I ++ ts) HB4.out.1.rd HB4.out.nilOk (fun x hx => by
            rcases List.mem_append.1 hx with h | h
            · exact HPB1.out x h
            · exact HTB.out x h) (by rw [List.length_append]; have := HI.out; omega)).mono ?_
          rintro e w5 ⟨v5, rfl, hb5⟩
          have hsl := sumL_len (I ++ ts)
          have hsb := sumL_byte (I ++ ts)
          obtain ⟨S1, hS1⟩ : ∃ S1, sumL (I ++ ts) = S1 := ⟨_, rfl⟩
          rw [hS1] at hb5 HHM hsl hsb
          have HSL := Lib.hid hsl
          have HSB := Lib.hid hsb
          have HR5 := Lib.hid hb5.1.rd
          have HN5 := Lib.hid hb5.nilOk
          have HC5 : Hid (Chg w w5 nob) := Lib.hid (HB4.out.2.1.trans hb5.2.1 (fun _ _ h => h))
          have HB6 : Hid (Bx w w5 (.slice (some ⟨bq, 0, none⟩) O.length O.length) O) := Lib.hid ⟨own_blk (HQ4.out.kept hb5.2.1 id) (by have := HO.out; omega), HC5.out, fun k hk => by cases hk; exact HQ.out⟩
          clear hS1 hsl hsb hb5 HB4 HQ4
          go_wp2_with (at_builtin; refine wpList_bxr rfl (.tmp 38) (.tmp 42) rfl (.slice (some ⟨bq, 0, none⟩) O.length O.length) O (by rw [HO.out]; rfl) HB6.out v5 S1 rfl HR5.out HN5.out (by rw [HO.out, HSL.out]; omega) ?_)
          intro v6 w6 hb6 hc6
          have HB7 := Lib.hid hb6
          clear hb6 hc6 HB6
          go_wp2_with fail
          go_at_call 40
          refine (rsum_any w6 v6 (O ++ S1) HB7.out.1.rd HB7.out.nilOk (fun x hx => by
            rcases List.mem_append.1 hx with h | h
            · exact HPB2.out x h
            · exact HSB.out x h) (by rw [List.length_append, HO.out, HSL.out]; omega)).mono ?_
          rw [← HHM.out]
          rintro e w7 ⟨v7, rfl, hb7⟩
          have HB8 := Lib.hid (hb7.before HB7.out.2.1)
          clear hb7
          go_wp2
          go_ret
          exact ⟨_, rfl, HB8.out⟩
end
set_option maxRecDepth 100000 in
set_option maxHeartbeats 1500000 in
theorem rtag_any (w : World) (va vt : Value) (xs ts : List Int) (ha : Rd w 1 va xs.length (bytesV xs)) (hn : NilOk va) (hb : ∀ x ∈ xs, 0 ≤ x ∧ x ≤ 255) (hl : xs.length ≤ 1000000)
    (htx : Rd w 1 vt ts.length (bytesV ts)) (htn : NilOk vt) (htb : ∀ x ∈ ts, 0 ≤ x ∧ x ≤ 255) (htl : ts.length ≤ 900000) :
    Calls Tryd.prog 29 #[va, vt] w fun e w' => ∃ v, e = .returned v ∧ Bx w w' v (tagL xs ts) := by
  have HH := Lib.hid (rhmac_any w va vt xs ts ha hn hb hl htx htn htb htl)
  clear ha hn hb htx htn htb
  go_enter Tryd.func29, Tryd.ntmps29
  go_wp2_with fail
  go_at_call 35
  refine HH.out.mono ?_
  rintro e w1 ⟨v1, rfl, hb1⟩
  obtain ⟨H, hH⟩ : ∃ H, hmacL xs ts = H := ⟨_, rfl⟩
  have hHl : H.length = 32 := by rw [← hH]; exact sumL_len _
  have HT : Hid (tagL xs ts = H.take 16) := Lib.hid (by rw [← hH]; rfl)
  rw [hH] at hb1
  obtain ⟨av, cv, rfl, hcv, _, _, hav⟩ := hb1.1.form
  have hz := addS_zero (cv := cv) hav
  have HB1 := Lib.hid hb1
  have h16 : (16 : Int) ≤ (cv : Int) := by omega
  have HO : Hid (Own w1 5 1 (.slice av (H.take 16).length cv) (H.take 16).length (bytesV (H.take 16))) := Lib.hid (by
    have h := own_take (k := 16) hb1.1 (by omega)
    have e : (H.take 16).length = 16 := by simp; omega
    rw [e]; exact h)
  have HL16 : Hid ((H.take 16).length = 16) := Lib.hid (by simp; omega)
  have hcut : ∀ w', (Instr.slice 22 (.slice av H.length cv) none (some (.int .i64 16)) none).run Tryd.prog w' = .ok (.slice av 16 cv) w' := fun w' => by
    have h := run_cut_h av H.length cv .i64 16 w' (by omega) h16
    rw [hz] at h
    exact h
  clear hH hb1 hz hav hcv
  go_wp2
  go_ret
  refine ⟨_, rfl, ?_⟩
  rw [HT.out]
  refine ⟨?_, HB1.out.2.1, fun k hk => HB1.out.2.2 k (blk_same hk)⟩
  have h := HO.out
  rw [HL16.out] at h ⊢
  exact h
end Go.Proofs.YtcgdmidjejmjhaaDoor
