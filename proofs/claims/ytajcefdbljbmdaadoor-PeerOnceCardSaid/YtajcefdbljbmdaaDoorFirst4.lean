/-
  Chapter 4's examples.
-/
import Derived.Test.YtajcefdbljbmdaaDoorHm
import Derived.Lib.SlBytesConst
namespace Go.Proofs.YtajcefdbljbmdaaDoor
open Go.RowKit
set_option linter.unusedVariables false
set_option linter.unusedSimpArgs false

def jefe : List Int := [74, 101, 102, 101]
def what : List Int := [119, 104, 97, 116, 32, 100, 111, 32, 121, 97, 32, 119, 97, 110, 116, 32]
def fornot : List Int := [102, 111, 114, 32, 110, 111, 116, 104, 105, 110, 103, 63]
set_option maxRecDepth 100000 in
theorem sum_nil : (sumL []).take 4 = [227, 176, 196, 66] := by decide +kernel
set_option maxRecDepth 100000 in
theorem hmac_jefe : (hmacL jefe (what ++ fornot)).take 4 = [91, 220, 193, 70] := by decide +kernel
theorem Ps.lit {w : World} {b : Nat} {T : TypeId} {vs : List Value} {P : List (List Int)} (hb : Blk w b T vs.toArray) (hl : vs.length = P.length)
    (h : ∀ (i : Nat) (u : Value) (l : List Int), vs[i]? = some u → P[i]? = some l → Rd w 1 u l.length (bytesV l) ∧ NilOk u ∧ byteL l) : Ps w (.slice (some ⟨b, 0, none⟩) P.length P.length) P :=
  ⟨vs, P.length, b, 0, rfl, Nat.le_refl _, hl, fun i u hu => by rw [Nat.zero_add, hb.cell]; simpa using hu, h⟩
theorem Ps.one {w : World} {T : TypeId} {u : Value} {l : List Int} (hr : Rd w 1 u l.length (bytesV l)) (hn : NilOk u) (hb : byteL l) : Ps (w.alloc (.cells #[u] T)) (.slice (some ⟨w.heap.size, 0, none⟩) 1 1) [l] :=
  Ps.lit (vs := [u]) (P := [l]) (Blk.new w T _) rfl fun i u' l' h1 h2 => by
    match i, h1, h2 with
    | 0, h1, h2 => cases h1; cases h2; exact ⟨hr.alloc _, hn, hb⟩
theorem Ps.two {w : World} {T : TypeId} {u v : Value} {l m : List Int} (hr : Rd w 1 u l.length (bytesV l)) (hn : NilOk u) (hb : byteL l) (hr2 : Rd w 1 v m.length (bytesV m)) (hn2 : NilOk v) (hb2 : byteL m) : Ps (w.alloc (.cells #[u, v] T)) (.slice (some ⟨w.heap.size, 0, none⟩) 2 2) [l, m] :=
  Ps.lit (vs := [u, v]) (P := [l, m]) (Blk.new w T _) rfl fun i u' l' h1 h2 => by
    match i, h1, h2 with
    | 0, h1, h2 => cases h1; cases h2; exact ⟨hr.alloc _, hn, hb⟩
    | 1, h1, h2 => cases h1; cases h2; exact ⟨hr2.alloc _, hn2, hb2⟩
theorem Ps.three {w : World} {T : TypeId} {u v x : Value} {l m n : List Int} (hr : Rd w 1 u l.length (bytesV l)) (hn : NilOk u) (hb : byteL l) (hr2 : Rd w 1 v m.length (bytesV m)) (hn2 : NilOk v) (hb2 : byteL m) (hr3 : Rd w 1 x n.length (bytesV n)) (hn3 : NilOk x) (hb3 : byteL n) : Ps (w.alloc (.cells #[u, v, x] T)) (.slice (some ⟨w.heap.size, 0, none⟩) 3 3) [l, m, n] :=
  Ps.lit (vs := [u, v, x]) (P := [l, m, n]) (Blk.new w T _) rfl fun i u' l' h1 h2 => by
    match i, h1, h2 with
    | 0, h1, h2 => cases h1; cases h2; exact ⟨hr.alloc _, hn, hb⟩
    | 1, h1, h2 => cases h1; cases h2; exact ⟨hr2.alloc _, hn2, hb2⟩
    | 2, h1, h2 => cases h1; cases h2; exact ⟨hr3.alloc _, hn3, hb3⟩
theorem cutS {w : World} {av : Option Addr} {cv : Nat} {L : List Int} {m : Nat} (h : Own w 5 1 (.slice av L.length cv) L.length (bytesV L)) (hm : m ≤ L.length) : Rd w 1 (.slice av m cv) (L.take m).length (bytesV (L.take m)) ∧ NilOk (.slice av m cv) := by
  have hav : ∀ a, av = some a → ∃ g, a = ⟨g, 0, none⟩ := fun a ha => by
    obtain ⟨ao, cap, hv, _, _, _, h7⟩ := h.form
    cases hv
    exact h7 a ha
  have hrd := h.rd.cut (l := 0) (m := m) (by omega) hm
  have hnk := h.nilOk.cut (l := 0) (m := m)
  rw [addS_zero hav] at hrd hnk
  refine ⟨?_, by simpa using hnk⟩
  have e : (L.take m).length = m := by simp; omega
  rw [e]
  simpa [bytesV, List.map_take] using hrd
theorem conv_const (w : World) (b : Nat) (C : Array Value) (n c : Nat) (h : b = w.heap.size) : (convert 22 22 (.slice (some ⟨b, 0, none⟩) n c)).run Tryd.prog (w.alloc (.cells C 5)) = .ok (.slice (some ⟨b, 0, none⟩) n c) (w.alloc (.cells C 5 (C.size, C.size + 1))) := by
  subst h
  exact Lib.run_convert_bytes_const (P := Tryd.prog) w 22 5 C n c u_bytes (by kernel_rfl)
theorem Rd.litM (w : World) (L : List Int) (b n : Nat) (fr : Nat × Nat) (hb : b = w.heap.size) (hn : n = L.length) : Rd (w.alloc (.cells (bytesV L).toArray 5 fr)) 1 (.slice (some ⟨b, 0, none⟩) n n) L.length (bytesV L) := by
  subst hb hn
  refine ⟨_, _, rfl, Nat.le_refl _, by simp [bytesV], fun j u hu => ⟨w.heap.size, 0, rfl, ?_⟩⟩
  rw [Nat.zero_add, cell_of_row _ _ j (bytesV L).toArray 5 fr (heap_alloc_new w _)]
  simpa using hu
attribute [local go_sem] conv_const
set_option maxRecDepth 100000 in
set_option maxHeartbeats 4000000 in
theorem first4_any (w : World) (ht : Tab w) : Calls Tryd.prog 13 #[] w fun e w' => e = .returned (.bool true) ∧ Chg w w' nob := by
  have HT := Lib.hid ht
  have hs := sum_any w (.slice none 0 0) [] ht (Bx.nil w).1.rd (Bx.nil w).nilOk (fun x hx => by cases hx) (by simp)
  have HS := Lib.hid hs
  clear ht hs
  go_enter Tryd.func13, Tryd.ntmps13
  go_wp2_with fail
  go_at_call 17
  refine HS.out.mono ?_
  rintro e w1 ⟨v1, rfl, hb1⟩
  have HB1 := Lib.hid hb1
  clear hb1
  go_wp2_with fail
  go_at_call 14
  obtain ⟨A, hA⟩ : ∃ A : Obj, (.cells #[.int .u8 74, .int .u8 101, .int .u8 102, .int .u8 101] 5 (4, 5) : Obj) = A := ⟨_, rfl⟩
  obtain ⟨B, hB⟩ : ∃ A : Obj, (.cells #[.int .u8 119, .int .u8 104, .int .u8 97, .int .u8 116, .int .u8 32, .int .u8 100, .int .u8 111, .int .u8 32, .int .u8 121, .int .u8 97, .int .u8 32, .int .u8 119, .int .u8 97, .int .u8 110, .int .u8 116, .int .u8 32] 5 (16, 17) : Obj) = A := ⟨_, rfl⟩
  obtain ⟨C, hC⟩ : ∃ A : Obj, (.cells #[.int .u8 102, .int .u8 111, .int .u8 114, .int .u8 32, .int .u8 110, .int .u8 111, .int .u8 116, .int .u8 104, .int .u8 105, .int .u8 110, .int .u8 103, .int .u8 63] 5 (12, 13) : Obj) = A := ⟨_, rfl⟩
  have r1 : Rd (w1.alloc A) 1 (.slice (some ⟨w1.heap.size, 0, none⟩) 4 4) jefe.length (bytesV jefe) := by rw [← hA]; exact Rd.litM w1 jefe _ 4 (4, 5) rfl rfl
  have r2 : Rd ((w1.alloc A).alloc B) 1 (.slice (some ⟨w1.heap.size + 1, 0, none⟩) 16 16) what.length (bytesV what) := by rw [← hB]; exact Rd.litM (w1.alloc A) what _ 16 (16, 17) (by rw [size_al]) rfl
  have r3 : Rd (((w1.alloc A).alloc B).alloc C) 1 (.slice (some ⟨w1.heap.size + 1 + 1, 0, none⟩) 12 12) fornot.length (bytesV fornot) := by rw [← hC]; exact Rd.litM ((w1.alloc A).alloc B) fornot _ 12 (12, 13) (by rw [size_al, size_al]) rfl
  rw [hA, hB, hC]
  clear hA hB hC
  have bj : byteL jefe := by unfold byteL jefe; decide
  have bw : byteL what := by unfold byteL what; decide
  have bf : byteL fornot := by unfold byteL fornot; decide
  have hps := Ps.two (T := 22) (r2.alloc C) (nilOk_some _ _ _) bw r3 (nilOk_some _ _ _) bf
  simp only [size_al] at hps
  have r1d := ((r1.alloc B).alloc C).alloc (.cells #[.slice (some ⟨w1.heap.size + 1, 0, none⟩) 16 16, .slice (some ⟨w1.heap.size + 1 + 1, 0, none⟩) 12 12] 22)
  have hcw : Chg w1 ((((w1.alloc A).alloc B).alloc C).alloc (.cells #[.slice (some ⟨w1.heap.size + 1, 0, none⟩) 16 16, .slice (some ⟨w1.heap.size + 1 + 1, 0, none⟩) 12 12] 22)) nob := ((((Chg.refl w1 nob).alloc _).alloc _).alloc _).alloc _
  obtain ⟨W, hW⟩ : ∃ W, (((w1.alloc A).alloc B).alloc C).alloc (.cells #[.slice (some ⟨w1.heap.size + 1, 0, none⟩) 16 16, .slice (some ⟨w1.heap.size + 1 + 1, 0, none⟩) 12 12] 22) = W := ⟨_, rfl⟩
  rw [hW] at hps r1d hcw ⊢
  clear hW r1 r2 r3
  refine (hmac_any W _ _ jefe [what, fornot] ((HT.out.kept HB1.out.2.1 id).kept hcw id) r1d (nilOk_some _ _ _) bj (by decide) hps (by decide) (by decide) (by decide)).mono ?_
  rintro e w2 ⟨v2, rfl, hb2⟩
  obtain ⟨S, hS⟩ : ∃ S, sumL [] = S := ⟨_, rfl⟩
  obtain ⟨H, hH⟩ : ∃ H, hmacL jefe (what ++ fornot) = H := ⟨_, rfl⟩
  have hSl : S.length = 32 := by rw [← hS]; exact sumL_len _
  have hHl : H.length = 32 := by rw [← hH]; exact sumL_len _
  have HSB : Hid (∀ x ∈ S, 0 ≤ x ∧ x ≤ 255) := Lib.hid (by rw [← hS]; exact sumL_byte _)
  have HHB : Hid (∀ x ∈ H, 0 ≤ x ∧ x ≤ 255) := Lib.hid (by rw [← hH]; exact sumL_byte _)
  have HS4 : Hid (S.take 4 = [227, 176, 196, 66]) := Lib.hid (by rw [← hS]; exact sum_nil)
  have HH4 : Hid (H.take 4 = [91, 220, 193, 70]) := Lib.hid (by rw [← hH]; exact hmac_jefe)
  have hb2' : Bx W w2 v2 H := by rw [← hH]; exact hb2
  rw [hS] at HB1
  have hO1 := HB1.out.1.kept (hcw.trans hb2'.2.1 (fun _ _ h => h)) (fun _ _ => id)
  have hO2 := hb2'.1
  have HC2 : Hid (Chg w w2 nob) := Lib.hid (HB1.out.2.1.trans (hcw.trans hb2'.2.1 (fun _ _ h => h)) (fun _ _ h => h))
  clear hb2 hb2' hcw hps r1d hS hH
  obtain ⟨a1, c1, rfl, _⟩ := hO1.form
  obtain ⟨a2, c2, rfl, _⟩ := hO2.form
  have HO1 := Lib.hid hO1
  have HO2 := Lib.hid hO2
  have HSL := Lib.hid hSl
  have HHL := Lib.hid hHl
  rw [hSl, hHl]
  clear hO1 hO2
  have hc1 : (4 : Int) ≤ (c1 : Int) := by omega
  have hc2 : (4 : Int) ≤ (c2 : Int) := by omega
  go_wp2_with fail
  go_at_call 18
  refine (bytes_eq _ _ _ (S.take 4) [227, 176, 196, 66] ((cutS HO1.out (by rw [HSL.out]; omega)).1.alloc _) (Rd.lit w2 [227, 176, 196, 66]) (fun x hx => HSB.out x (List.mem_of_mem_take hx)) (by decide)).mono ?_
  rw [HS4.out, show decide (([227, 176, 196, 66] : List Int) = [227, 176, 196, 66]) = true from by decide]
  rintro e w3 ⟨rfl, rfl⟩
  obtain ⟨w3, hw3⟩ : ∃ w3, w2.alloc (.cells (bytesV [227, 176, 196, 66]).toArray 5) = w3 := ⟨_, rfl⟩
  rw [hw3]
  have hc3 : Chg w2 w3 nob := by rw [← hw3]; exact (Chg.refl w2 nob).alloc _
  have HC3 := Lib.hid hc3
  clear hw3 hc3
  go_wp2_with fail
  go_at_call 18
  refine (bytes_eq _ _ _ (H.take 4) [91, 220, 193, 70] (((cutS HO2.out (by rw [HHL.out]; omega)).1.kept HC3.out (fun _ _ => id)).alloc _) (Rd.lit w3 [91, 220, 193, 70]) (fun x hx => HHB.out x (List.mem_of_mem_take hx)) (by decide)).mono ?_
  rw [HH4.out, show decide (([91, 220, 193, 70] : List Int) = [91, 220, 193, 70]) = true from by decide]
  rintro e w4 ⟨rfl, rfl⟩
  obtain ⟨w4, hw4⟩ : ∃ w4, w3.alloc (.cells (bytesV [91, 220, 193, 70]).toArray 5) = w4 := ⟨_, rfl⟩
  rw [hw4]
  have hc4 : Chg w2 w4 nob := by rw [← hw4]; exact HC3.out.alloc _
  have HC4 := Lib.hid hc4
  clear hw4 hc4
  have R1 : Hid (Rd w4 1 (.slice a1 32 c1) S.length (bytesV S)) := Lib.hid (by have h := HO1.out.rd.kept HC4.out (fun _ _ => id); rwa [HSL.out] at h ⊢)
  have R2 : Hid (Rd w4 1 (.slice a2 32 c2) H.length (bytesV H)) := Lib.hid (by have h := HO2.out.rd.kept HC4.out (fun _ _ => id); rwa [HHL.out] at h ⊢)
  go_wp2_with fail
  go_at_call 15
  refine (equal_any w4 _ _ S S R1.out R1.out HSB.out HSB.out).mono ?_
  rw [show decide (S = S) = true by simp]
  rintro e w5 ⟨rfl, rfl⟩
  go_wp2_with fail
  go_at_call 15
  refine (equal_any w5 _ _ S H R1.out R2.out HSB.out HHB.out).mono ?_
  rw [show decide (S = H) = false from decide_eq_false (fun e => by have h1 := HS4.out; rw [e, HH4.out] at h1; cases h1)]
  rintro e w6 ⟨rfl, rfl⟩
  go_wp2
  go_ret
  exact ⟨rfl, HC2.out.trans HC4.out (fun _ _ h => h)⟩
end Go.Proofs.YtajcefdbljbmdaaDoor
