
/-
  The program's reader: Num.
-/
import Derived.Test.YtmekakecdgblaaaTries
namespace Go.Proofs.Ytmekakecdgblaaa
open Go.RowKit
set_option linter.unusedVariables false
set_option linter.unusedSimpArgs false

theorem Blk.new2 (w : World) (o : Obj) (t : TypeId) (cs : Array Value) : Blk ((w.alloc o).alloc (.cells cs t)) (w.heap.size + 1) t cs := by
  have h := Blk.new (w.alloc o) t cs
  have e : (w.alloc o).heap.size = w.heap.size + 1 := Array.size_push ..
  rwa [e] at h
set_option maxRecDepth 100000 in
set_option maxHeartbeats 2000000 in
theorem tries_num (w : World) (g j1 j2 : Nat) (u : Value) (B : List Int) (p : Nat) (e : Int) (h : RdrR w g u B p e) (OK : Value → World → Nat → Prop) (BAD : Int → Prop)
    (hread : ∀ w3, Chg w w3 nob → RdrR w3 g u B p 0 → Calls Try.prog 38 #[ptr j1, ptr j2] w3 fun e' w' => Chg w3 w' (fun k => k = g) ∧ ∃ q, RdrR w' g u B q 0 ∧ ((∃ (n : Nat), e' = .returned (.int .u64 n) ∧ OK (.int .u64 n) w' q) ∨ ∃ er, er ≠ 0 ∧ e' = stopE er ∧ BAD er))
    (hkeep : ∀ v w' w'' q k cs F, OK v w' q → Blk w' k 24 cs → Chg w' w'' F → (∀ i, F i → i = k) → OK v w'' q) :
    Calls Try.prog 37 #[ptr g, .func (.func 38) #[] #[ptr j1, ptr j2]] w fun e' w' => Chg w w' (fun k => k = g) ∧ ((e ≠ 0 ∧ e' = .returned (.int .u64 0) ∧ RdrR w' g u B p e) ∨ (e = 0 ∧ ((∃ (n : Nat), ∃ q, e' = .returned (.int .u64 n) ∧ RdrR w' g u B q 0 ∧ OK (.int .u64 n) w' q) ∨ ∃ er, er ≠ 0 ∧ BAD er ∧ e' = .returned (.int .u64 0) ∧ RdrR w' g u B p er))) := by
  have HR := Lib.hid h
  have HLE := Lib.hid h.le
  have HRD := Lib.hid hread
  have HK := Lib.hid hkeep
  clear h hread hkeep
  have hmf : ∀ (fn : Fn) (first cap : Array Value) (w : World), (Instr.makeFunc fn first cap).run Try.prog w = .ok (.func fn first cap) w := fun _ _ _ _ => rfl
  have q2 := HR.out.blk.cell 2
  have q1 := HR.out.blk.cell 1
  simp only [List.getElem?_toArray, List.getElem?_cons_zero, List.getElem?_cons_succ] at q1 q2
  go_enter_defers Try.func37, Try.ntmps37
  go_upto_region 1 with (fail)
  obtain ⟨w1, hw⟩ : ∃ W, (w.alloc (.cells #[ptr g] 46)).alloc (.cells #[.int .u64 0] 24) = W := ⟨_, rfl⟩
  have hc1 : Chg w w1 nob := by rw [← hw]; exact ((Chg.refl w nob).alloc _).alloc _
  have hba : Blk w1 w.heap.size 46 #[ptr g] := by rw [← hw]; exact (Blk.new w _ _).alloc _
  have hbd : Blk w1 (w.heap.size + 1) 24 #[.int .u64 0] := by rw [← hw]; exact Blk.new2 w _ _ _
  rw [hw]
  clear hw
  obtain ⟨ia, hia⟩ : ∃ i, w.heap.size = i := ⟨_, rfl⟩
  have HIA := Lib.hid hia
  rw [hia] at hba hbd ⊢
  clear hia
  obtain ⟨id, hid⟩ : ∃ i, ia + 1 = i := ⟨_, rfl⟩
  have HID := Lib.hid hid
  rw [hid] at hbd ⊢
  clear hid q1 q2
  have HC := Lib.hid hc1
  replace HR := Lib.hid (HR.out.kept hc1)
  have HA := Lib.hid hba
  have HD := Lib.hid hbd
  clear hc1 hba hbd
  have q2 := HR.out.blk.cell 2
  have q1 := HR.out.blk.cell 1
  have ra := HA.out.cell 0
  have rd := HD.out.cell 0
  simp only [List.getElem?_toArray, List.getElem?_cons_zero, List.getElem?_cons_succ] at q1 q2 ra rd
  have fd := HD.out.free 0
  by_cases he : e = 0
  · have he' : (e != 0) = false := by simpa using he
    have HE0 := Lib.hid he
    clear he
    go_upto_region 4 with (fail)
    obtain ⟨w2, hw⟩ : ∃ W, w1.alloc (.cells #[.int .i64 p] 3) = W := ⟨_, rfl⟩
    have hck : Chg w1 w2 nob := by rw [← hw]; exact (Chg.refl w1 nob).alloc _
    have HB : Hid (Blk w2 w1.heap.size 3 #[.int .i64 p]) := Lib.hid (by rw [← hw]; exact Blk.new w1 _ _)
    rw [hw]
    clear hw
    obtain ⟨ib, hib⟩ : ∃ i, w1.heap.size = i := ⟨_, rfl⟩
    rw [hib] at HB ⊢
    clear hib
    replace HC := Lib.hid (HC.out.trans hck (fun _ _ h => h))
    replace HR := Lib.hid (HR.out.kept hck)
    replace HA := Lib.hid (HA.out.kept hck (fun h => h))
    replace HD := Lib.hid (HD.out.kept hck (fun h => h))
    clear hck q1 q2 ra rd fd
    go_upto_region 5 with (fail)
    obtain ⟨w3, hw⟩ : ∃ W, w2.alloc (.cells #[.int .u64 0] 24) = W := ⟨_, rfl⟩
    have hck : Chg w2 w3 nob := by rw [← hw]; exact (Chg.refl w2 nob).alloc _
    have HZ : Hid (Blk w3 w2.heap.size 24 #[.int .u64 0]) := Lib.hid (by rw [← hw]; exact Blk.new w2 _ _)
    rw [hw]
    clear hw
    obtain ⟨ic, hic⟩ : ∃ i, w2.heap.size = i := ⟨_, rfl⟩
    rw [hic] at HZ ⊢
    have HIC := Lib.hid hic
    clear hic
    replace HC := Lib.hid (HC.out.trans hck (fun _ _ h => h))
    replace HR := Lib.hid (HR.out.kept hck)
    have H4 : Hid (Four4 w3 24 g ia ib ic id p (.int .u64 0) (.int .u64 0)) := Lib.hid ⟨HA.out.kept hck (fun h => h), HB.out.kept hck (fun h => h), HZ.out, HD.out.kept hck (fun h => h), by have h1 := HD.out.lt; have h2 := HIC.out; omega⟩
    clear hck HA HB HD HZ
    have hne := H4.out.ne HR.out (by decide)
    have HNR := Lib.hid (HRD.out w3 HC.out (by have h := HR.out; rwa [HE0.out] at h))
    go_wp2_with fail
    go_at_call 38
    refine HNR.out.mono ?_
    rintro e' w4 ⟨hc, q, hr, hcase⟩
    have H44 := Lib.hid (H4.out.keptG HR.out (by decide) hc)
    have HC4 : Hid (Chg w w4 (fun k => k = g)) := Lib.hid ((HC.out.mono (G := fun k => k = g) (fun _ _ h => h.elim)).trans hc (fun _ _ h => h))
    have HR4 := Lib.hid hr
    clear hc hr HNR H4 HR HC HRD
    have sa := H44.out.a.cell 0
    have sd := H44.out.d.cell 0
    simp only [List.getElem?_toArray, List.getElem?_cons_zero, List.getElem?_cons_succ] at sa sd
    have fd := H44.out.d.free 0
    rcases hcase with ⟨n, rfl, hok⟩ | ⟨er, h1, rfl, hbad⟩
    · have HOK := Lib.hid hok
      clear hok
      go_wp2
      refine leaves_cons (f := 47) (args := #[ptr ia, ptr ib, ptr ic, ptr id]) (by simp) (by simp [go_sem]) ?_
      have HR5 := Lib.hid (HR4.out.setOther H44.out.d (by decide) (by decide) 0 (.int .u64 n))
      have H45 := Lib.hid (H44.out.set (by decide) (by decide) (.int .u64 n))
      have HC5 := Lib.hid (HC4.out.setCell (p := ⟨id, 0, none⟩) (.inr (show w.heap.size ≤ id by have h1 := HIA.out; have h2 := HID.out; omega)) (.int .u64 n))
      have HOK5 : Hid (OK (.int .u64 n) (w4.setCell ⟨id, 0, none⟩ (.int .u64 n)) q) := Lib.hid (HK.out (.int .u64 n) w4 _ q id _ (fun k => k = id) HOK.out H44.out.d ((Chg.refl w4 (fun k => k = id)).setCell (p := ⟨id, 0, none⟩) (.inl rfl) (.int .u64 n)) (fun _ h => h))
      refine (num_ret _ g ia ib ic id p _ u _ B HR5.out H45.out).mono ?_
      rintro e' u' w6 ⟨rfl, rfl, hc⟩
      have HOK6 := HK.out (.int .u64 n) _ w6 q id _ nob HOK5.out H45.out.d hc (fun _ h => h.elim)
      have s6 := (H45.out.kept hc).d.cell 0
      simp only [List.getElem?_toArray, List.getElem?_cons_zero, List.getElem?_cons_succ] at s6
      refine ⟨.int .u64 n, by simp [results, Try.results37, go_sem, s6], HC5.out.trans hc (fun _ _ h => h.elim), .inr ⟨HE0.out, .inl ⟨n, q, rfl, HR5.out.kept hc, HOK6⟩⟩⟩
    · go_wp2
      refine leaves_cons (f := 47) (args := #[ptr ia, ptr ib, ptr ic, ptr id]) (by simp) (by simp [go_sem]) ?_
      refine (num_pan w4 g ia ib ic id p q u _ B 0 er h1 HR4.out HLE.out H44.out).mono ?_
      rintro e' u' w6 ⟨rfl, rfl, hr, hb, hc⟩
      have s6 := hb.cell 0
      simp only [List.getElem?_toArray, List.getElem?_cons_zero, List.getElem?_cons_succ] at s6
      refine ⟨.int .u64 0, by simp [results, Try.results37, go_sem, s6], HC4.out.trans hc (fun i hi h => h.elim (fun h => h) (fun e => by have h1 := HIA.out; have h2 := HID.out; omega)), .inr ⟨HE0.out, .inr ⟨er, h1, hbad, rfl, hr⟩⟩⟩
  · have he' : (e != 0) = true := by simpa using he
    go_wp2
    refine ⟨.int .u64 0, by simp [results, Try.results37, go_sem, fd, rd], (HC.out.mono (G := fun k => k = g) (fun _ _ h => h.elim)).setCell (p := ⟨id, 0, none⟩) (.inr (show w.heap.size ≤ id by have h1 := HIA.out; have h2 := HID.out; omega)) _, .inl ⟨he, rfl, HR.out.setOther HD.out (by decide) (by decide) 0 _⟩⟩
set_option maxRecDepth 100000 in
set_option maxHeartbeats 2000000 in
theorem tries_raw (w : World) (g j1 j2 : Nat) (u : Value) (B : List Int) (p : Nat) (e : Int) (h : RdrR w g u B p e) (OK : Value → World → Nat → Prop) (BAD : Int → Prop)
    (hread : ∀ w3, Chg w w3 nob → RdrR w3 g u B p 0 → Calls Try.prog 35 #[ptr j1, ptr j2] w3 fun e' w' => Chg w3 w' (fun k => k = g) ∧ ∃ q, RdrR w' g u B q 0 ∧ ((∃ (a : Option Addr) (m c : Nat), e' = .returned (.slice a m c) ∧ OK (.slice a m c) w' q) ∨ ∃ er, er ≠ 0 ∧ e' = stopE er ∧ BAD er))
    (hkeep : ∀ v w' w'' q k cs F, OK v w' q → Blk w' k 23 cs → Chg w' w'' F → (∀ i, F i → i = k) → OK v w'' q) :
    Calls Try.prog 34 #[ptr g, .func (.func 35) #[] #[ptr j1, ptr j2]] w fun e' w' => Chg w w' (fun k => k = g) ∧ ((e ≠ 0 ∧ e' = .returned (.slice none 0 0) ∧ RdrR w' g u B p e) ∨ (e = 0 ∧ ((∃ (a : Option Addr) (m c : Nat), ∃ q, e' = .returned (.slice a m c) ∧ RdrR w' g u B q 0 ∧ OK (.slice a m c) w' q) ∨ ∃ er, er ≠ 0 ∧ BAD er ∧ e' = .returned (.slice none 0 0) ∧ RdrR w' g u B p er))) := by
  have HR := Lib.hid h
  have HLE := Lib.hid h.le
  have HRD := Lib.hid hread
  have HK := Lib.hid hkeep
  clear h hread hkeep
  have hmf : ∀ (fn : Fn) (first cap : Array Value) (w : World), (Instr.makeFunc fn first cap).run Try.prog w = .ok (.func fn first cap) w := fun _ _ _ _ => rfl
  have q2 := HR.out.blk.cell 2
  have q1 := HR.out.blk.cell 1
  simp only [List.getElem?_toArray, List.getElem?_cons_zero, List.getElem?_cons_succ] at q1 q2
  go_enter_defers Try.func34, Try.ntmps34
  go_upto_region 1 with (fail)
  obtain ⟨w1, hw⟩ : ∃ W, (w.alloc (.cells #[ptr g] 46)).alloc (.cells #[.slice none 0 0] 23) = W := ⟨_, rfl⟩
  have hc1 : Chg w w1 nob := by rw [← hw]; exact ((Chg.refl w nob).alloc _).alloc _
  have hba : Blk w1 w.heap.size 46 #[ptr g] := by rw [← hw]; exact (Blk.new w _ _).alloc _
  have hbd : Blk w1 (w.heap.size + 1) 23 #[.slice none 0 0] := by rw [← hw]; exact Blk.new2 w _ _ _
  rw [hw]
  clear hw
  obtain ⟨ia, hia⟩ : ∃ i, w.heap.size = i := ⟨_, rfl⟩
  have HIA := Lib.hid hia
  rw [hia] at hba hbd ⊢
  clear hia
  obtain ⟨id, hid⟩ : ∃ i, ia + 1 = i := ⟨_, rfl⟩
  have HID := Lib.hid hid
  rw [hid] at hbd ⊢
  clear hid q1 q2
  have HC := Lib.hid hc1
  replace HR := Lib.hid (HR.out.kept hc1)
  have HA := Lib.hid hba
  have HD := Lib.hid hbd
  clear hc1 hba hbd
  have q2 := HR.out.blk.cell 2
  have q1 := HR.out.blk.cell 1
  have ra := HA.out.cell 0
  have rd := HD.out.cell 0
  simp only [List.getElem?_toArray, List.getElem?_cons_zero, List.getElem?_cons_succ] at q1 q2 ra rd
  have fd := HD.out.free 0
  by_cases he : e = 0
  · have he' : (e != 0) = false := by simpa using he
    have HE0 := Lib.hid he
    clear he
    go_upto_region 4 with (fail)
    obtain ⟨w2, hw⟩ : ∃ W, w1.alloc (.cells #[.int .i64 p] 3) = W := ⟨_, rfl⟩
    have hck : Chg w1 w2 nob := by rw [← hw]; exact (Chg.refl w1 nob).alloc _
    have HB : Hid (Blk w2 w1.heap.size 3 #[.int .i64 p]) := Lib.hid (by rw [← hw]; exact Blk.new w1 _ _)
    rw [hw]
    clear hw
    obtain ⟨ib, hib⟩ : ∃ i, w1.heap.size = i := ⟨_, rfl⟩
    rw [hib] at HB ⊢
    clear hib
    replace HC := Lib.hid (HC.out.trans hck (fun _ _ h => h))
    replace HR := Lib.hid (HR.out.kept hck)
    replace HA := Lib.hid (HA.out.kept hck (fun h => h))
    replace HD := Lib.hid (HD.out.kept hck (fun h => h))
    clear hck q1 q2 ra rd fd
    go_upto_region 5 with (fail)
    obtain ⟨w3, hw⟩ : ∃ W, w2.alloc (.cells #[.slice none 0 0] 23) = W := ⟨_, rfl⟩
    have hck : Chg w2 w3 nob := by rw [← hw]; exact (Chg.refl w2 nob).alloc _
    have HZ : Hid (Blk w3 w2.heap.size 23 #[.slice none 0 0]) := Lib.hid (by rw [← hw]; exact Blk.new w2 _ _)
    rw [hw]
    clear hw
    obtain ⟨ic, hic⟩ : ∃ i, w2.heap.size = i := ⟨_, rfl⟩
    rw [hic] at HZ ⊢
    have HIC := Lib.hid hic
    clear hic
    replace HC := Lib.hid (HC.out.trans hck (fun _ _ h => h))
    replace HR := Lib.hid (HR.out.kept hck)
    have H4 : Hid (Four4 w3 23 g ia ib ic id p (.slice none 0 0) (.slice none 0 0)) := Lib.hid ⟨HA.out.kept hck (fun h => h), HB.out.kept hck (fun h => h), HZ.out, HD.out.kept hck (fun h => h), by have h1 := HD.out.lt; have h2 := HIC.out; omega⟩
    clear hck HA HB HD HZ
    have hne := H4.out.ne HR.out (by decide)
    have HNR := Lib.hid (HRD.out w3 HC.out (by have h := HR.out; rwa [HE0.out] at h))
    go_wp2_with fail
    go_at_call 35
    refine HNR.out.mono ?_
    rintro e' w4 ⟨hc, q, hr, hcase⟩
    have H44 := Lib.hid (H4.out.keptG HR.out (by decide) hc)
    have HC4 : Hid (Chg w w4 (fun k => k = g)) := Lib.hid ((HC.out.mono (G := fun k => k = g) (fun _ _ h => h.elim)).trans hc (fun _ _ h => h))
    have HR4 := Lib.hid hr
    clear hc hr HNR H4 HR HC HRD
    have sa := H44.out.a.cell 0
    have sd := H44.out.d.cell 0
    simp only [List.getElem?_toArray, List.getElem?_cons_zero, List.getElem?_cons_succ] at sa sd
    have fd := H44.out.d.free 0
    rcases hcase with ⟨a, m, c, rfl, hok⟩ | ⟨er, h1, rfl, hbad⟩
    · have HOK := Lib.hid hok
      clear hok
      go_wp2
      refine leaves_cons (f := 44) (args := #[ptr ia, ptr ib, ptr ic, ptr id]) (by simp) (by simp [go_sem]) ?_
      have HR5 := Lib.hid (HR4.out.setOther H44.out.d (by decide) (by decide) 0 (.slice a m c))
      have H45 := Lib.hid (H44.out.set (by decide) (by decide) (.slice a m c))
      have HC5 := Lib.hid (HC4.out.setCell (p := ⟨id, 0, none⟩) (.inr (show w.heap.size ≤ id by have h1 := HIA.out; have h2 := HID.out; omega)) (.slice a m c))
      have HOK5 : Hid (OK (.slice a m c) (w4.setCell ⟨id, 0, none⟩ (.slice a m c)) q) := Lib.hid (HK.out (.slice a m c) w4 _ q id _ (fun k => k = id) HOK.out H44.out.d ((Chg.refl w4 (fun k => k = id)).setCell (p := ⟨id, 0, none⟩) (.inl rfl) (.slice a m c)) (fun _ h => h))
      refine (raw_ret _ g ia ib ic id p _ u _ B HR5.out H45.out).mono ?_
      rintro e' u' w6 ⟨rfl, rfl, hc⟩
      have HOK6 := HK.out (.slice a m c) _ w6 q id _ nob HOK5.out H45.out.d hc (fun _ h => h.elim)
      have s6 := (H45.out.kept hc).d.cell 0
      simp only [List.getElem?_toArray, List.getElem?_cons_zero, List.getElem?_cons_succ] at s6
      refine ⟨.slice a m c, by simp [results, Try.results34, go_sem, s6], HC5.out.trans hc (fun _ _ h => h.elim), .inr ⟨HE0.out, .inl ⟨a, m, c, q, rfl, HR5.out.kept hc, HOK6⟩⟩⟩
    · go_wp2
      refine leaves_cons (f := 44) (args := #[ptr ia, ptr ib, ptr ic, ptr id]) (by simp) (by simp [go_sem]) ?_
      refine (raw_pan w4 g ia ib ic id p q u _ B 0 er h1 HR4.out HLE.out H44.out).mono ?_
      rintro e' u' w6 ⟨rfl, rfl, hr, hb, hc⟩
      have s6 := hb.cell 0
      simp only [List.getElem?_toArray, List.getElem?_cons_zero, List.getElem?_cons_succ] at s6
      refine ⟨.slice none 0 0, by simp [results, Try.results34, go_sem, s6], HC4.out.trans hc (fun i hi h => h.elim (fun h => h) (fun e => by have h1 := HIA.out; have h2 := HID.out; omega)), .inr ⟨HE0.out, .inr ⟨er, h1, hbad, rfl, hr⟩⟩⟩
  · have he' : (e != 0) = true := by simpa using he
    go_wp2
    refine ⟨.slice none 0 0, by simp [results, Try.results34, go_sem, fd, rd], (HC.out.mono (G := fun k => k = g) (fun _ _ h => h.elim)).setCell (p := ⟨id, 0, none⟩) (.inr (show w.heap.size ≤ id by have h1 := HIA.out; have h2 := HID.out; omega)) _, .inl ⟨he, rfl, HR.out.setOther HD.out (by decide) (by decide) 0 _⟩⟩
/-- What a reading that comes to R tells, where it stands then, why it failed. -/
def rdE (R : Int × Nat × Nat) (p : Nat) (e : Int) : Nat × Nat × Int := if e ≠ 0 then (0, p, e) else if R.1 = 0 then (R.2.1, p + R.2.2, 0) else (0, p, R.1)
set_option maxRecDepth 100000 in
theorem num1_any (w : World) (g jr jm : Nat) (u : Value) (B : List Int) (p : Nat) (e : Int) (h : RdrR w g u B p e) (most : Nat) (hr : Blk w jr 46 #[ptr g]) (hm : Blk w jm 24 #[.int .u64 most]) (R : Int × Nat × Nat) (hR : upE most (B.drop p) = R) :
    Calls Try.prog 38 #[ptr jr, ptr jm] w fun e' w' => Chg w w' (fun k => k = g) ∧ ∃ q, RdrR w' g u B q e ∧ ((R.1 = 0 ∧ e' = .returned (.int .u64 R.2.1) ∧ q = p + R.2.2) ∨ (R.1 ≠ 0 ∧ e' = stopE R.1)) := by
  have HU := Lib.hid (upto_any w g u B p e h most R hR)
  have q0 := hr.cell 0
  have q1 := hm.cell 0
  simp only [List.getElem?_toArray, List.getElem?_cons_zero, List.getElem?_cons_succ] at q0 q1
  clear h hr hm hR
  go_enter Try.func38, Try.ntmps38
  go_wp2_with fail
  go_at_call 39
  refine HU.out.mono ?_
  rintro e' w2 ⟨hc, q, hr, hcase⟩
  have HC := Lib.hid hc
  have HRR := Lib.hid hr
  clear hc hr HU
  rcases hcase with ⟨h1, rfl, hq⟩ | ⟨h1, rfl⟩
  · have HQ := Lib.hid hq
    clear hq
    go_wp2
    go_ret
    exact ⟨HC.out, _, HRR.out, .inl ⟨h1, rfl, HQ.out⟩⟩
  · go_wp2
    exact ⟨rfl, HC.out, _, HRR.out, .inr ⟨h1, rfl⟩⟩
end Go.Proofs.Ytmekakecdgblaaa
