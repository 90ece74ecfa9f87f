/-
  Chapter 8: the parser's block, what it tells, where it goes.
-/
import Derived.Test.YtaficleoimfejaaK
import Derived.Test.YtaficleoimfejaaC
import Derived.Deep.DeepCutAuto
import Derived.Deep.CutBlock
import Derived.Handy
import Derived.Laws.Cover4
namespace Go.Proofs.Ytaficleoimfejaa
open Go.RowKit
set_option linter.unusedVariables false
set_option linter.unusedSimpArgs false

def intI (l : List Int) : List Value := l.map (Value.int .i64)
def runesV (l : List Int) : List Value := l.map (Value.int .i32)
theorem u_ints : Try.prog.underlying 23 = some (.slice 3) := by kernel_rfl
theorem i_int : (Try.prog.info? 3).map (fun i => (i.zero, i.size, i.bytes)) = some (some (.int .i64 0), 1, 8) := by kernel_rfl
theorem u_runes : Try.prog.underlying 22 = some (.slice 21) := by kernel_rfl
theorem i_rune : (Try.prog.info? 21).map (fun i => (i.zero, i.size, i.bytes)) = some (some (.int .i32 0), 1, 4) := by kernel_rfl
theorem u_events : Try.prog.underlying 33 = some (.slice 41) := by kernel_rfl
theorem i_event : (Try.prog.info? 41).map (fun i => (i.zero, i.size, i.bytes)) = some (some (.agg #[.int .i64 0, .int .i32 0, .slice none 0 0, .int .i32 0, .int .i32 0, .int .i32 0, .string .empty]), 7, 72) := by kernel_rfl
theorem alloc_drew (w : World) (o : Obj) : (w.alloc o).drew = w.drew.alloc o := rfl
theorem size_al (w : World) (o : Obj) : (w.alloc o).heap.size = w.heap.size + 1 := Array.size_push _

/-- The cells of a parser. -/
abbrev pcs (st : Int) (vp : Value) (told : Bool) (priv inter : Int) (sp : Bool) (vt vo : Value) : Array Value :=
  #[.int .i64 st, vp, .bool told, .int .i32 priv, .int .i32 inter, .bool sp, vt, vo]
/-- The cells of an event. -/
abbrev ecs (k r : Int) (a : Option Addr) (l c : Nat) (pr it fi : Int) (tx : ByteArray) : List Value :=
  [.int .i64 k, .int .i32 r, .slice a l c, .int .i32 pr, .int .i32 it, .int .i32 fi, .string tx]

set_option maxRecDepth 100000 in
set_option maxHeartbeats 4000000 in
theorem tells_lo (w : World) (p : Nat) (c0 c1 c2 c3 c4 c5 c6 vo : Value) (n : Nat) (xs : List Value) (k r : Int) (a : Option Addr) (l c : Nat) (pr it fi : Int) (tx : ByteArray)
    (hb : Blk w p 49 #[c0, c1, c2, c3, c4, c5, c6, vo]) (ho : Own w 41 7 vo n xs) (hn : n ≤ 1000000) :
    Calls Try.prog 34 #[.pointer (some ⟨p, 0, none⟩), .agg (ecs k r a l c pr it fi tx).toArray] w fun e w' =>
      e = .returned (.tuple #[]) ∧ ∃ vo', Blk w' p 49 #[c0, c1, c2, c3, c4, c5, c6, vo'] ∧ Own w' 41 7 vo' (n + 1) (xs ++ ecs k r a l c pr it fi tx) ∧
        Chg w w' (fun x => x = p ∨ blkOf vo x) ∧ ∀ x, blkOf vo' x → blkOf vo x ∨ w.heap.size ≤ x := by
  obtain ⟨ao, cap, rfl, hcap, hmax, hnone, hsome⟩ := ho.form
  obtain ⟨wd, hwd⟩ : ∃ wd, w.alloc (.cells #[.int .i64 k, .int .i32 r, .slice a l c, .int .i32 pr, .int .i32 it, .int .i32 fi, .string tx] 41) = wd := ⟨_, rfl⟩
  have hbe : Blk wd w.heap.size 41 #[.int .i64 k, .int .i32 r, .slice a l c, .int .i32 pr, .int .i32 it, .int .i32 fi, .string tx] := by rw [← hwd]; exact Blk.new w _ _
  have hbd : Blk wd p 49 #[c0, c1, c2, c3, c4, c5, c6, .slice ao n cap] := by rw [← hwd]; exact hb.alloc _
  have hcd : Chg w wd nob := by rw [← hwd]; exact (Chg.refl w nob).alloc _
  have hod := ho.kept hcd (fun _ _ => id)
  have hne := hod.ne hbd (by decide)
  have HWD := Lib.hid hwd
  have HOD := Lib.hid hod
  have HBD := Lib.hid hbd
  have HCD := Lib.hid hcd
  have HNE := Lib.hid hne
  clear hwd hod hcd hne ho hb hnone hsome
  go_enter Try.func34, Try.ntmps34
  go_upto_region 1 with (fail)
  rw [HWD.out]
  have hp7 : wd.cell? ⟨p, 7, none⟩ = some (.slice ao n cap) := by rw [HBD.out.cell]; rfl
  have he0 := hbe.cell 0
  have he1 := hbe.cell 1
  have he2 := hbe.cell 2
  have he3 := hbe.cell 3
  have he4 := hbe.cell 4
  have he5 := hbe.cell 5
  have he6 := hbe.cell 6
  simp only [List.getElem?_toArray, List.getElem?_cons_zero, List.getElem?_cons_succ] at he0 he1 he2 he3 he4 he5 he6
  clear hbe hbd
  refine wp_one [4, 5] [6, 7, 10] [(6, [4])] [0, 1, 2, 3, 4, 5, 6, 7, 8, 9, 10] rfl (by kernel_rfl) (fun _ _ _ _ _ h => h) ?_; simp only [List.map_cons, List.map_nil, List.getElem?_toArray, List.getElem?_cons_zero, List.getElem?_cons_succ]
  (repeat (first | (apply can0; (· rfl); (· rfl); (· (intro w'; first | (go_simp; with_reducible rfl) | (go_simp; done))); simp only [Act.put, List.setIfInBounds_toArray, List.set_cons_zero, List.set_cons_succ]) | (apply can1; (· rfl); (· rfl); (· (first | (go_simp; with_reducible rfl) | (go_simp; done))); simp only [Act.put, List.setIfInBounds_toArray, List.set_cons_zero, List.set_cons_succ]) | (apply canN; (· rfl); (· rfl); simp only [Act.put, List.setIfInBounds_toArray, List.set_cons_zero, List.set_cons_succ]) | (apply canN1; (· rfl); (· rfl); simp only [Act.put, List.setIfInBounds_toArray, List.set_cons_zero, List.set_cons_succ]) | (apply can0; (· rfl); (· (go_simp; done)); (· (intro w'; first | (go_simp; with_reducible rfl) | (go_simp; done))); simp only [Act.put, List.setIfInBounds_toArray, List.set_cons_zero, List.set_cons_succ]) | (apply can1; (· rfl); (· (go_simp; done)); (· (first | (go_simp; with_reducible rfl) | (go_simp; done))); simp only [Act.put, List.setIfInBounds_toArray, List.set_cons_zero, List.set_cons_succ]) | (apply canN; (· rfl); (· (go_simp; done)); simp only [Act.put, List.setIfInBounds_toArray, List.set_cons_zero, List.set_cons_succ]) | (apply canN1; (· rfl); (· (go_simp; done)); simp only [Act.put, List.setIfInBounds_toArray, List.set_cons_zero, List.set_cons_succ])))
  refine canW rfl [4] rfl (fun K hK => ?_)
  go_simp
  have hp7' : (wd.alloc (.cells #[.int .i64 k, .int .i32 r, .slice a l c, .int .i32 pr, .int .i32 it, .int .i32 fi, .string tx] 41)).cell? ⟨p, 7, none⟩ = some (.slice ao n cap) := ((Chg.refl wd nob).alloc _).cell hp7 id
  (refine hK _ _ (fun u hu => by simp only [List.mem_cons, List.not_mem_nil, or_false] at hu; (first | (subst hu; exact reRun_mk rfl (by first | (go_simp; with_reducible rfl) | (go_simp; done)) (holds_at rfl)) | (rcases hu with rfl | rfl <;> exact reRun_mk rfl (by first | (go_simp; with_reducible rfl) | (go_simp; done)) (holds_at rfl)) | (rcases hu with rfl | rfl | rfl <;> exact reRun_mk rfl (by first | (go_simp; with_reducible rfl) | (go_simp; done)) (holds_at rfl)))) ?_; clear hK K; try simp only [Act.put, List.setIfInBounds_toArray, List.set_cons_zero, List.set_cons_succ])
  (repeat (first | (apply can0; (· rfl); (· rfl); (· (intro w'; first | (go_simp; with_reducible rfl) | (go_simp; done))); simp only [Act.put, List.setIfInBounds_toArray, List.set_cons_zero, List.set_cons_succ]) | (apply can1; (· rfl); (· rfl); (· (first | (go_simp; with_reducible rfl) | (go_simp; done))); simp only [Act.put, List.setIfInBounds_toArray, List.set_cons_zero, List.set_cons_succ]) | (apply canN; (· rfl); (· rfl); simp only [Act.put, List.setIfInBounds_toArray, List.set_cons_zero, List.set_cons_succ]) | (apply canN1; (· rfl); (· rfl); simp only [Act.put, List.setIfInBounds_toArray, List.set_cons_zero, List.set_cons_succ]) | (apply can0; (· rfl); (· (go_simp; done)); (· (intro w'; first | (go_simp; with_reducible rfl) | (go_simp; done))); simp only [Act.put, List.setIfInBounds_toArray, List.set_cons_zero, List.set_cons_succ]) | (apply can1; (· rfl); (· (go_simp; done)); (· (first | (go_simp; with_reducible rfl) | (go_simp; done))); simp only [Act.put, List.setIfInBounds_toArray, List.set_cons_zero, List.set_cons_succ]) | (apply canN; (· rfl); (· (go_simp; done)); simp only [Act.put, List.setIfInBounds_toArray, List.set_cons_zero, List.set_cons_succ]) | (apply canN1; (· rfl); (· (go_simp; done)); simp only [Act.put, List.setIfInBounds_toArray, List.set_cons_zero, List.set_cons_succ])))
  refine canW rfl [] rfl (fun K hK => ?_)
  rw [alloc_drew]
  refine step_push rfl (.tmp 8) (.tmp 10) 33 rfl 41 (.agg #[.int .i64 0, .int .i32 0, .slice none 0 0, .int .i32 0, .int .i32 0, .int .i32 0, .string .empty]) 7 72 i_event u_events rfl (by decide) (.slice ao n cap) n xs rfl (HOD.out.kept ((Chg.refl wd nob).drew) (fun _ _ => id)) 1 1 rfl rfl rfl (by unfold maxLen; omega) (by omega) ?_
  intro v1 w1 ho1 (hch1 : Chg wd.drew w1 (blkOf (.slice ao n cap))) (hfo1 : ∀ x, blkOf v1 x → blkOf (.slice ao n cap) x ∨ wd.heap.size ≤ x)
  have hb1 := Blk.kept (w := wd.drew) HBD.out hch1 HNE.out
  obtain ⟨a1, cap1, rfl, _⟩ := ho1.form
  have hf1 : w1.frozen? ⟨p, 7, none⟩ = false := hb1.free 7
  have hc7 : w1.cell? ⟨p, 7, none⟩ = some (.slice ao n cap) := by rw [hb1.cell]; rfl
  have HB1 := Lib.hid hb1
  have HO1 := Lib.hid ho1
  have HC1 := Lib.hid ((HCD.out.mono (fun _ _ h => h.elim) : Chg w wd (blkOf (.slice ao n cap))).drew.trans hch1 (fun i hi h => h))
  have HF1 := Lib.hid hfo1
  clear hb1 ho1 hch1 hfo1 he0 he1 he2 he3 he4 he5 he6 hp7 hp7'
  (refine hK _ _ (fun u hu => by cases hu) ?_; clear hK K; try simp only [Act.put, List.setIfInBounds_toArray, List.set_cons_zero, List.set_cons_succ])
  (repeat (first | (apply can0; (· rfl); (· rfl); (· (intro w'; first | (go_simp; with_reducible rfl) | (go_simp; done))); simp only [Act.put, List.setIfInBounds_toArray, List.set_cons_zero, List.set_cons_succ]) | (apply can1; (· rfl); (· rfl); (· (first | (go_simp; with_reducible rfl) | (go_simp; done))); simp only [Act.put, List.setIfInBounds_toArray, List.set_cons_zero, List.set_cons_succ]) | (apply canN; (· rfl); (· rfl); simp only [Act.put, List.setIfInBounds_toArray, List.set_cons_zero, List.set_cons_succ]) | (apply canN1; (· rfl); (· rfl); simp only [Act.put, List.setIfInBounds_toArray, List.set_cons_zero, List.set_cons_succ]) | (apply can0; (· rfl); (· (go_simp; done)); (· (intro w'; first | (go_simp; with_reducible rfl) | (go_simp; done))); simp only [Act.put, List.setIfInBounds_toArray, List.set_cons_zero, List.set_cons_succ]) | (apply can1; (· rfl); (· (go_simp; done)); (· (first | (go_simp; with_reducible rfl) | (go_simp; done))); simp only [Act.put, List.setIfInBounds_toArray, List.set_cons_zero, List.set_cons_succ]) | (apply canN; (· rfl); (· (go_simp; done)); simp only [Act.put, List.setIfInBounds_toArray, List.set_cons_zero, List.set_cons_succ]) | (apply canN1; (· rfl); (· (go_simp; done)); simp only [Act.put, List.setIfInBounds_toArray, List.set_cons_zero, List.set_cons_succ])))
  refine canW rfl [] rfl (fun K hK => ?_)
  go_simp
  (refine hK _ _ (fun u hu => by cases hu) ?_; clear hK K; try simp only [Act.put, List.setIfInBounds_toArray, List.set_cons_zero, List.set_cons_succ])
  refine canE ?_
  go_wp2
  go_end0
  have hne1 := HO1.out.ne HB1.out (by decide)
  refine ⟨rfl, .slice a1 (n + 1) cap1, HB1.out.set 7 _, Own.setOther (p := ⟨p, 7, none⟩) HO1.out hne1 _, (HC1.out.mono (fun _ _ h => .inr h)).setCell (.inl (.inl rfl)) _, fun x hx => ?_⟩
  rcases HF1.out x hx with h | h
  · exact .inl h
  · exact .inr (Nat.le_trans HCD.out.size h)

set_option maxRecDepth 100000 in
set_option maxHeartbeats 4000000 in
theorem goes_lo (w : World) (p : Nat) (st : Int) (vp : Value) (told : Bool) (priv inter : Int) (sp : Bool) (vt vo : Value) (nx : Int) (hb : Blk w p 49 (pcs st vp told priv inter sp vt vo)) :
    Calls Try.prog 21 #[.pointer (some ⟨p, 0, none⟩), .int .i64 nx] w fun e w' =>
      e = .returned (.tuple #[]) ∧ ∃ vp', Blk w' p 49 (pcs nx vp' false 0 0 false (.slice none 0 0) vo) ∧ Own w' 3 1 vp' 1 (intI [-1]) ∧
        Chg w w' (fun x => x = p) ∧ ∀ x, blkOf vp' x → w.heap.size ≤ x := by
  obtain ⟨wd, hwd⟩ : ∃ wd, w.alloc (.cells #[.int .i64 (-1)] 3) = wd := ⟨_, rfl⟩
  have hbd : Blk wd p 49 (pcs st vp told priv inter sp vt vo) := by rw [← hwd]; exact hb.alloc _
  have hod : Own wd 3 1 (.slice (some ⟨w.heap.size, 0, none⟩) 1 1) 1 [.int .i64 (-1)] := by
    rw [← hwd]
    exact ⟨rfl, .inr ⟨w.heap.size, 1, #[.int .i64 (-1)], rfl, Nat.zero_le _, Blk.new w _ _, Nat.le_refl _, by unfold maxLen; omega, rfl, rfl⟩⟩
  have hcd : Chg w wd nob := by rw [← hwd]; exact (Chg.refl w nob).alloc _
  have hf0 := hbd.free 0
  have hf1 := hbd.free 1
  have hf2 := hbd.free 2
  have hf3 := hbd.free 3
  have hf4 := hbd.free 4
  have hf5 := hbd.free 5
  have hf6 := hbd.free 6
  have hc0 := hbd.cell 0
  have hc1 := hbd.cell 1
  have hc2 := hbd.cell 2
  have hc3 := hbd.cell 3
  have hc4 := hbd.cell 4
  have hc5 := hbd.cell 5
  have hc6 := hbd.cell 6
  simp only [List.getElem?_toArray, List.getElem?_cons_zero, List.getElem?_cons_succ] at hc0 hc1 hc2 hc3 hc4 hc5 hc6
  have HBD := Lib.hid hbd
  have HOD := Lib.hid hod
  have HCD := Lib.hid hcd
  have HWD := Lib.hid hwd
  rw [← hwd] at hf0 hf1 hf2 hf3 hf4 hf5 hf6 hc0 hc1 hc2 hc3 hc4 hc5 hc6
  clear hb hbd hod hcd hwd
  go_enter Try.func21, Try.ntmps21
  go_wp2
  go_end0
  rw [HWD.out]
  have hne := HOD.out.ne HBD.out (by decide)
  refine ⟨rfl, .slice (some ⟨w.heap.size, 0, none⟩) 1 1, (((((((HBD.out.set 0 _).set 1 _).set 2 _).set 3 _).set 4 _).set 5 _).set 6 _), ?_, ?_, fun x hx => by cases hx; exact Nat.le_refl _⟩
  · exact Own.setOther (Own.setOther (Own.setOther (Own.setOther (Own.setOther (Own.setOther (Own.setOther HOD.out hne _) hne _) hne _) hne _) hne _) hne _) hne _
  · have h0 : Chg w wd (fun x => x = p) := HCD.out.mono (fun _ _ h => h.elim)
    exact ((((((h0.setCell (.inl rfl) _).setCell (.inl rfl) _).setCell (.inl rfl) _).setCell (.inl rfl) _).setCell (.inl rfl) _).setCell (.inl rfl) _).setCell (.inl rfl) _
end Go.Proofs.Ytaficleoimfejaa
