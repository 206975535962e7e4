/- A pointer's sectors dropped: the walk of Drop. -/
import Derived.Test.YtpbhnpoldjdfdaaSpPlaces
set_option linter.unusedVariables false
set_option linter.unusedSimpArgs false
namespace Go.Proofs.Ytpbhnpoldjdfdaa.SpDrop
open Go Go.RowKit Go.Proofs.Ytpbhnpoldjdfdaa.K Go.Proofs.Ytpbhnpoldjdfdaa.EqKit Go.Proofs.Ytpbhnpoldjdfdaa.ArrKit Go.Proofs.Ytpbhnpoldjdfdaa.HeldKit Go.Proofs.Ytpbhnpoldjdfdaa.GKit Go.Proofs.Ytpbhnpoldjdfdaa.GRow Go.Proofs.Ytpbhnpoldjdfdaa.SpKit Go.Proofs.Ytpbhnpoldjdfdaa.SpAsk Go.Proofs.Ytpbhnpoldjdfdaa.SpFind Go.Proofs.Ytpbhnpoldjdfdaa.SpNew Go.Proofs.Ytpbhnpoldjdfdaa.SpBecome Go.Proofs.Ytpbhnpoldjdfdaa.SpIdx Go.Proofs.Ytpbhnpoldjdfdaa.SpTake Go.Proofs.Ytpbhnpoldjdfdaa.SpPlaces Go.Proofs.Ytpbhnpoldjdfdaa.PtrKit

set_option maxHeartbeats 2000000 in
set_option maxRecDepth 100000 in
theorem dfn_calls (p bx : Nat) (s : Sp) (g o c i : Nat) (w : World) (hi : i < 2 * s.z) (hu : ∀ y, s.st[i]? = some y → usedB y = true) (hn : s.st.length = 2 * s.z) (hb : Bk w bx #[.pointer (some ⟨p, 0, none⟩)] 34) (h : SAt w p s g o c) : Calls Try.prog 18 #[.int .i64 (i : Int), .pointer (some ⟨bx, 0, none⟩)] w fun e w' => e = .returned (.bool false) ∧ w' = w := by
  have ki : i < s.st.length := by omega
  have ei := h.rd.cell ki
  have ui : Hid (∀ W, Calls Try.prog 19 #[.int .u8 (s.st[i].toNat : Int)] W fun e w' => e = .returned (.bool true) ∧ w' = W) := Lib.hid (fun W => by have := used_calls s.st[i] W; rwa [hu _ (List.getElem?_eq_getElem ki)] at this)
  simp only [B] at ei
  generalize s.st[i].toNat = vi at *
  have ii : (i : Int) < 2 * (s.z : Int) := by omega
  have cb : w.cell? ⟨bx, 0, none⟩ = some (.pointer (some ⟨p, 0, none⟩)) := Bk.cell hb 0
  have c3 : w.cell? ⟨p, 3, none⟩ = some (.slice (some ⟨g, o, none⟩) (2 * s.z) c) := by have := Bk.cell h.blk 3; rw [this, ← hn]; rfl
  clear hb h hn hu ki
  go_enter Try.func18, Try.ntmps18
  go_wp2_with (go_at_call 19; (with_reducible refine (ui.out _).mono ?_); rintro e w9 ⟨rfl, rfl⟩)
  go_ret
  exact ⟨rfl, rfl⟩

set_option maxHeartbeats 2000000 in
set_option maxRecDepth 100000 in
theorem idxf_1 (p bx g1 c1 : Nat) (s : Sp) (g o c : Nat) (i : Nat) (w : World) (hi : i < 2 * s.z) (hui : ∀ y, s.st[i]? = some y → usedB y = true) (hn : s.st.length = 2 * s.z) (hl : RdI w (some ⟨g1, 0, none⟩) [(i : Int)]) (hb : Bk w bx #[.pointer (some ⟨p, 0, none⟩)] 34) (h : SAt w p s g o c) : Calls Try.prog 26 #[.slice (some ⟨g1, 0, none⟩) 1 c1, .func (Fn.func 18) #[] #[.pointer (some ⟨bx, 0, none⟩)]] w fun e w' => e = .returned (.int .i64 (-1)) ∧ w' = w := by
  have ce0 : w.cell? ⟨g1, 0, none⟩ = some (.int .i64 (i : Int)) := by have := hl.cell (i := 0) (by simp); rwa [Nat.zero_add] at this
  have ui := Lib.hid (dfn_calls p bx s g o c i w hi hui hn hb h)
  clear hl hb h hn hui
  go_enter Try.func26, Try.ntmps26
  go_wp2
  refine wp_loop_rounds 2 ?_
  rw [rounds_succ]
  go_wp2_with (first | (go_at_call 18; (with_reducible refine (ui.out).mono ?_); rintro e w9 ⟨rfl, rfl⟩))
  rw [rounds_succ]
  go_wp2
  go_ret
  exact ⟨rfl, rfl⟩
set_option maxHeartbeats 2000000 in
set_option maxRecDepth 100000 in
theorem cfn_1 (p bx g1 c1 : Nat) (s : Sp) (g o c : Nat) (i : Nat) (w : World) (hi : i < 2 * s.z) (hui : ∀ y, s.st[i]? = some y → usedB y = true) (hn : s.st.length = 2 * s.z) (hl : RdI w (some ⟨g1, 0, none⟩) [(i : Int)]) (hb : Bk w bx #[.pointer (some ⟨p, 0, none⟩)] 34) (h : SAt w p s g o c) : Calls Try.prog 17 #[.slice (some ⟨g1, 0, none⟩) 1 c1, .func (Fn.func 18) #[] #[.pointer (some ⟨bx, 0, none⟩)]] w fun e w' => e = .returned (.bool false) ∧ w' = w := by
  have HIX := Lib.hid (idxf_1 p bx g1 c1 s g o c i w hi hui hn hl hb h)
  clear hl hb h hn hui
  go_enter Try.func17, Try.ntmps17
  go_wp2_with (go_at_call 26; (with_reducible refine HIX.out.mono ?_); rintro e w1 ⟨rfl, rfl⟩)
  go_ret
  exact ⟨rfl, rfl⟩

set_option maxHeartbeats 2000000 in
set_option maxRecDepth 100000 in
theorem idxf_2 (p bx g1 c1 : Nat) (s : Sp) (g o c : Nat) (i j : Nat) (w : World) (hi : i < 2 * s.z) (hui : ∀ y, s.st[i]? = some y → usedB y = true) (hj : j < 2 * s.z) (huj : ∀ y, s.st[j]? = some y → usedB y = true) (hn : s.st.length = 2 * s.z) (hl : RdI w (some ⟨g1, 0, none⟩) [(i : Int), (j : Int)]) (hb : Bk w bx #[.pointer (some ⟨p, 0, none⟩)] 34) (h : SAt w p s g o c) : Calls Try.prog 26 #[.slice (some ⟨g1, 0, none⟩) 2 c1, .func (Fn.func 18) #[] #[.pointer (some ⟨bx, 0, none⟩)]] w fun e w' => e = .returned (.int .i64 (-1)) ∧ w' = w := by
  have ce0 : w.cell? ⟨g1, 0, none⟩ = some (.int .i64 (i : Int)) := by have := hl.cell (i := 0) (by simp); rwa [Nat.zero_add] at this
  have ui := Lib.hid (dfn_calls p bx s g o c i w hi hui hn hb h)
  have ce1 : w.cell? ⟨g1, 1, none⟩ = some (.int .i64 (j : Int)) := by have := hl.cell (i := 1) (by simp); rwa [Nat.zero_add] at this
  have uj := Lib.hid (dfn_calls p bx s g o c j w hj huj hn hb h)
  clear hl hb h hn hui huj
  go_enter Try.func26, Try.ntmps26
  go_wp2
  refine wp_loop_rounds 3 ?_
  rw [rounds_succ]
  go_wp2_with (first | (go_at_call 18; (with_reducible refine (ui.out).mono ?_); rintro e w9 ⟨rfl, rfl⟩) | (go_at_call 18; (with_reducible refine (uj.out).mono ?_); rintro e w9 ⟨rfl, rfl⟩))
  rw [rounds_succ]
  go_wp2_with (first | (go_at_call 18; (with_reducible refine (ui.out).mono ?_); rintro e w9 ⟨rfl, rfl⟩) | (go_at_call 18; (with_reducible refine (uj.out).mono ?_); rintro e w9 ⟨rfl, rfl⟩))
  rw [rounds_succ]
  go_wp2
  go_ret
  exact ⟨rfl, rfl⟩
set_option maxHeartbeats 2000000 in
set_option maxRecDepth 100000 in
theorem cfn_2 (p bx g1 c1 : Nat) (s : Sp) (g o c : Nat) (i j : Nat) (w : World) (hi : i < 2 * s.z) (hui : ∀ y, s.st[i]? = some y → usedB y = true) (hj : j < 2 * s.z) (huj : ∀ y, s.st[j]? = some y → usedB y = true) (hn : s.st.length = 2 * s.z) (hl : RdI w (some ⟨g1, 0, none⟩) [(i : Int), (j : Int)]) (hb : Bk w bx #[.pointer (some ⟨p, 0, none⟩)] 34) (h : SAt w p s g o c) : Calls Try.prog 17 #[.slice (some ⟨g1, 0, none⟩) 2 c1, .func (Fn.func 18) #[] #[.pointer (some ⟨bx, 0, none⟩)]] w fun e w' => e = .returned (.bool false) ∧ w' = w := by
  have HIX := Lib.hid (idxf_2 p bx g1 c1 s g o c i j w hi hui hj huj hn hl hb h)
  clear hl hb h hn hui huj
  go_enter Try.func17, Try.ntmps17
  go_wp2_with (go_at_call 26; (with_reducible refine HIX.out.mono ?_); rintro e w1 ⟨rfl, rfl⟩)
  go_ret
  exact ⟨rfl, rfl⟩

def dropB (x : UInt8) : UInt8 := if x.toNat = 1 then 3 else 4
def dropK (l : List UInt8) (i : Nat) : List UInt8 := l.set i (dropB (l.getD i 0))
theorem dropK_eq {l : List UInt8} {i : Nat} {q : UInt8} (h : dropB (l.getD i 0) = q) : l.set i q = dropK l i := by rw [dropK, h]
theorem dropK_len (l : List UInt8) (i : Nat) : (dropK l i).length = l.length := by simp [dropK]

set_option maxHeartbeats 4000000 in
set_option maxRecDepth 100000 in
theorem drop_1 (p : Nat) (s : Sp) (g o c : Nat) (i : Nat) (hi : i < 2 * s.z) (hui : ∀ y, s.st[i]? = some y → usedB y = true) (t : List UInt8) (w : World) (ht : t.length = 32) (hok : s.ok) (h : SAt w p s g o c) : Calls Try.prog 7 #[.pointer (some ⟨p, 0, none⟩), .agg (PC (SpAsk.Sp.sec s i : Int) (-1 : Int) t).toArray] w fun e w' => e = .returned (.int .i64 0) ∧ Now w w' p (S4 s (dropK s.st i)) := by
  have HIP : Hid ((Try.prog.info? 37).map (·.size) = some (PC (SpAsk.Sp.sec s i : Int) (-1 : Int) t).toArray.size) := Lib.hid (by rw [PtrAsk.info_p, List.size_toArray, PC_length, ht])
  have HPL : Hid (∀ W, Fr0 w W → Calls Try.prog 16 #[.pointer (some ⟨p, 0, none⟩), .agg (PC (SpAsk.Sp.sec s i : Int) (-1 : Int) t).toArray] W fun e w' => ∃ g1 c1 cur, e = .returned (.tuple #[.slice (some ⟨g1, 0, none⟩) 1 c1, .bool true]) ∧ W.heap.size ≤ g1 ∧ OwnI w' g1 c1 cur [(i : Int)] ∧ Fr0 W w') := Lib.hid (fun W f => places_1 p s g o c i hi t W ht hok (h.keep f))
  generalize (PC (SpAsk.Sp.sec s i : Int) (-1 : Int) t).toArray = X at *
  have hpw := Bk.lt h.blk
  have hs1 : (w.alloc (.cells #[.pointer (some ⟨p, 0, none⟩)] 34)).heap.size = w.heap.size + 1 := by simp
  have HF1 : Hid (Fr0 w ((w.alloc (.cells #[.pointer (some ⟨p, 0, none⟩)] 34)).alloc (.cells X 37))) := Lib.hid (Fr.alloc (Fr.alloc (Fr.refl _ _) _) _)
  have HS1 : Hid (Bk ((w.alloc (.cells #[.pointer (some ⟨p, 0, none⟩)] 34)).alloc (.cells X 37)) w.heap.size #[.pointer (some ⟨p, 0, none⟩)] 34) := Lib.hid (Bk.alloc (Bk.new w _) _)
  have HX1 : Hid (Bk ((w.alloc (.cells #[.pointer (some ⟨p, 0, none⟩)] 34)).alloc (.cells X 37)) (w.heap.size + 1) X 37) := Lib.hid (by have := Bk.new (w.alloc (.cells #[.pointer (some ⟨p, 0, none⟩)] 34)) (.cells X 37); rwa [hs1] at this)
  have HCF : Hid (∀ W g1 c1, Fr0 w W → RdI W (some ⟨g1, 0, none⟩) [(i : Int)] → Bk W w.heap.size #[.pointer (some ⟨p, 0, none⟩)] 34 → Calls Try.prog 17 #[.slice (some ⟨g1, 0, none⟩) 1 c1, .func (Fn.func 18) #[] #[.pointer (some ⟨w.heap.size, 0, none⟩)]] W fun e w' => e = .returned (.bool false) ∧ w' = W) := Lib.hid (fun W g1 c1 f hr hb => cfn_1 p w.heap.size g1 c1 s g o c i W hi hui hok.len hr hb (h.keep f))
  have HCL : Hid (∀ W, Fr0 w W → Calls Try.prog 14 #[.slice (some ⟨g, o, none⟩) (2 * s.z) c] W fun e w' => ∃ g3 c3 cur3, e = .returned (.slice (some ⟨g3, 0, none⟩) (2 * s.z) c3) ∧ W.heap.size ≤ g3 ∧ OwnU w' g3 c3 cur3 s.st ∧ Fr0 W w') := Lib.hid (fun W f => by
    have := clone_calls g o c s.st W (h.rd.keep f) (by have := hok.len; have := hok.z2; omega)
    rwa [hok.len] at this)
  have HB0 : Hid (Bk w p (SC s.a s.b s.z (.slice (some ⟨g, o, none⟩) (2 * s.z) c)) 26) := Lib.hid (by have := h.blk; unfold sval at this; rwa [hok.len] at this)
  have HLN := Lib.hid hok.len
  have hz2 := hok.z2
  clear h hs1 hok
  go_enter Try.func7, Try.ntmps7
  go_wp2_with (first | ((with_reducible show wpList _ _ _ ({ dst := _, op := Op.load 37 _, type := _, pos := _, after := _, guard := _ } :: _) _ _); refine wpList_load_row_g (by rfl) 37 _ rfl (w.heap.size + 1) rfl 37 _ (0, 0) _ HX1.out Try.underlying37 rfl HIP.out ?_) | (go_at_call 16; (with_reducible refine (HPL.out _ HF1.out).mono ?_); rintro e w2 ⟨g1, c1, cur, rfl, hg1, ho1, hf2⟩; have HS2 := Lib.hid (hf2.keep HS1.out (fun h => h)); have HG1 := Lib.hid hg1; have HO2 := Lib.hid ho1; have HR2 : Hid (RdI w2 (some ⟨g1, 0, none⟩) [(i : Int)]) := Lib.hid (OwnG.rd ho1); have HF2 := Lib.hid (HF1.out.then0 hf2); have c0 : w2.cell? ⟨w.heap.size, 0, none⟩ = some (.pointer (some ⟨p, 0, none⟩)) := Bk.cell HS2.out 0; clear hg1 ho1 hf2) | (go_at_call 17; (with_reducible refine (HCF.out _ _ _ HF2.out HR2.out HS2.out).mono ?_); rintro e w3 ⟨rfl, rfl⟩))
  have hbs := Bk.lt HS2.out
  have HSa : Hid (Bk w3.drew w.heap.size #[.pointer (some ⟨p, 0, none⟩)] 34) := Lib.hid HS2.out
  have HBa : Hid (Bk w3.drew p (SC s.a s.b s.z (.slice (some ⟨g, o, none⟩) (2 * s.z) c)) 26) := Lib.hid (HF2.out.keep HB0.out (fun h => h))
  have HOa : Hid (OwnI w3.drew g1 c1 cur [(i : Int)]) := Lib.hid (OwnG.keep HO2.out (Fr.drew (Fr.refl (fun _ => False) _)) (fun h => h))
  have HFa : Hid (Fr0 w w3.drew) := Lib.hid (Fr.drew HF2.out)
  clear c0 HCF HPL HX1 HR2
  refine wp_region_noPanic ?_
  refine wp_region_held_drew (S := (fun W => W.cell? ⟨w.heap.size, 0, none⟩ = some (.pointer (some ⟨p, 0, none⟩)))) (by kernel_rfl) (Bk.cell HS2.out 0) (fun hHeld0 => ?_)
  change wpAnyH _ _ _ _ _ 9 #[false, false, false, false, false, false, false, false, false] _ _
  refine wpAnyH_take (i := 0) (v := .pointer (some ⟨p, 0, none⟩)) rfl (by kernel_rfl) (by kernel_rfl) (by kernel_rfl) (fun _ _ _ h => h) (Or.inl ⟨by kernel_rfl, fun w hSw => by have hcl := (fun W h => h) w hSw; go_simp⟩) hHeld0 ?_
  simp only [Act.put, List.getElem_toArray, List.getElem_cons_succ, List.getElem_cons_zero, List.setIfInBounds_toArray, List.set_cons_zero, List.set_cons_succ]
  change wpAnyH _ _ _ _ _ 8 #[true, false, false, false, false, false, false, false, false] _ _
  refine wpAnyH_take (i := 1) (v := .pointer (some ⟨p, 0, none⟩)) rfl (by kernel_rfl) (by kernel_rfl) (by kernel_rfl) (fun _ _ _ h => h) (Or.inl ⟨by kernel_rfl, fun w hSw => by have hcl := (fun W h => h) w hSw; go_simp⟩) hHeld0 ?_
  simp only [Act.put, List.getElem_toArray, List.getElem_cons_succ, List.getElem_cons_zero, List.setIfInBounds_toArray, List.set_cons_zero, List.set_cons_succ]
  change wpAnyH _ _ _ _ _ 7 #[true, true, false, false, false, false, false, false, false] _ _
  refine wpAnyH_take (i := 2) (v := .pointer (some ⟨p, 0, none⟩)) rfl (by kernel_rfl) (by kernel_rfl) (by kernel_rfl) (fun _ _ _ h => h) (Or.inl ⟨by kernel_rfl, fun w hSw => by first | kernel_rfl | (go_simp; done)⟩) hHeld0 ?_
  simp only [Act.put, List.getElem_toArray, List.getElem_cons_succ, List.getElem_cons_zero, List.setIfInBounds_toArray, List.set_cons_zero, List.set_cons_succ]
  change wpAnyH _ _ _ _ _ 6 #[true, true, true, false, false, false, false, false, false] _ _
  refine wpAnyH_take (i := 3) (v := .pointer (some ⟨p, 3, none⟩)) rfl (by kernel_rfl) (by kernel_rfl) (by kernel_rfl) (fun _ _ _ h => h) (Or.inl ⟨by kernel_rfl, fun w hSw => by first | kernel_rfl | (go_simp; done)⟩) hHeld0 ?_
  simp only [Act.put, List.getElem_toArray, List.getElem_cons_succ, List.getElem_cons_zero, List.setIfInBounds_toArray, List.set_cons_zero, List.set_cons_succ]
  change wpAnyH _ _ _ _ _ 5 #[true, true, true, true, false, false, false, false, false] _ _
  refine wpAnyH_ready (rs := [4]) (by kernel_rfl) (by simp) ?_
  refine AllReadyH.cons rfl (fun K hK => ?_) AllReadyH.nil
  simp only [List.getElem_toArray, List.getElem_cons_succ, List.getElem_cons_zero]
  refine (if_pos (by kernel_rfl)).mpr ?_
  have q1 : w3.drew.cell? ⟨p, 3, none⟩ = some (.slice (some ⟨g, o, none⟩) (2 * s.z) c) := Bk.cell HBa.out 3
  go_wp2_with fail
  refine hK.out _ _ (hHeld0) (fun hHeld1 => ?_)
  clear hK K hHeld0
  clear q1
  change wpAnyH _ _ _ _ _ 4 #[true, true, true, true, true, false, false, false, false] _ _
  refine wpAnyH_ready (rs := [5]) (by kernel_rfl) (by simp) ?_
  refine AllReadyH.cons rfl (fun K hK => ?_) AllReadyH.nil
  simp only [List.getElem_toArray, List.getElem_cons_succ, List.getElem_cons_zero]
  refine (if_pos (by kernel_rfl)).mpr ?_
  go_wp2_with fail
  refine (HCL.out _ HFa.out).mono ?_
  rintro e wx1 ⟨g3, c3, cur3, rfl, hg3, ho3, hfx⟩
  dsimp only
  have HSb := Lib.hid (hfx.keep HSa.out (fun h => h))
  have HBb := Lib.hid (hfx.keep HBa.out (fun h => h))
  have HOb := Lib.hid (OwnG.keep HOa.out hfx (fun h => h))
  have HFb := Lib.hid (HFa.out.then0 hfx)
  have HG3 := Lib.hid hg3
  have HO3 := Lib.hid ho3
  clear hg3 ho3
  refine hK.out _ _ (Bk.cell HSb.out 0) (fun hHeld2 => ?_)
  clear hK K hHeld1
  change wpAnyH _ _ _ _ _ 3 #[true, true, true, true, true, true, false, false, false] _ _
  refine wpAnyH_take (i := 6) (v := .pointer (some ⟨p, 0, none⟩)) rfl (by kernel_rfl) (by kernel_rfl) (by kernel_rfl) (fun _ _ _ h => h) (Or.inl ⟨by kernel_rfl, fun w hSw => by first | kernel_rfl | (go_simp; done)⟩) hHeld2 ?_
  simp only [Act.put, List.getElem_toArray, List.getElem_cons_succ, List.getElem_cons_zero, List.setIfInBounds_toArray, List.set_cons_zero, List.set_cons_succ]
  change wpAnyH _ _ _ _ _ 2 #[true, true, true, true, true, true, true, false, false] _ _
  refine wpAnyH_take (i := 7) (v := .pointer (some ⟨p, 3, none⟩)) rfl (by kernel_rfl) (by kernel_rfl) (by kernel_rfl) (fun _ _ _ h => h) (Or.inl ⟨by kernel_rfl, fun w hSw => by first | kernel_rfl | (go_simp; done)⟩) hHeld2 ?_
  simp only [Act.put, List.getElem_toArray, List.getElem_cons_succ, List.getElem_cons_zero, List.setIfInBounds_toArray, List.set_cons_zero, List.set_cons_succ]
  change wpAnyH _ _ _ _ _ 1 #[true, true, true, true, true, true, true, true, false] _ _
  refine wpAnyH_ready (rs := [8]) (by kernel_rfl) (by simp) ?_
  refine AllReadyH.cons rfl (fun K hK => ?_) AllReadyH.nil
  simp only [List.getElem_toArray, List.getElem_cons_succ, List.getElem_cons_zero]
  refine (if_pos (by kernel_rfl)).mpr ?_
  have q1 : wx1.cell? ⟨p, 3, none⟩ = some (.slice (some ⟨g, o, none⟩) (2 * s.z) c) := Bk.cell HBb.out 3
  have f1 := Bk.free HBb.out 3
  go_wp2_with fail
  refine hK.out _ _ (Bk.cell (Bk.setOther HSb.out (⟨p, 3, none⟩ : Addr) (.slice (some ⟨g3, 0, none⟩) (2 * s.z) c3) (by show w.heap.size ≠ p; omega)) 0) (fun hHeld3 => ?_)
  clear hK K hHeld2
  clear q1 f1
  change wpAnyH _ _ _ _ _ 0 #[true, true, true, true, true, true, true, true, true] _ _
  refine wpAnyH_done (by kernel_rfl) ?_ _
  refine NoPanic.normal ?_
  have HEND := Lib.hid hHeld3
  clear hHeld3
  go_wp2_with fail
  have hg1 := HG1.out
  have hg3 := HG3.out
  have hb1 := Bk.lt HOb.out.blk
  have hs0 := Bk.lt HOa.out.blk
  have hf3 := HFa.out.size
  have hsz : ((((w.alloc (.cells #[.pointer (some ⟨p, 0, none⟩)] 34)).alloc (.cells X 37))).heap.size) = w.heap.size + 1 + 1 := by simp
  rw [hsz] at hg1
  have hwg : w.heap.size ≤ g3 := by omega
  have hg13 : g1 ≠ g3 := by omega
  have hsg : w.heap.size ≠ g3 := by have := Bk.lt HSa.out; omega
  have hgp : g1 ≠ p := by omega
  have HO6 : Hid (OwnU (wx1.setCell ⟨p, 3, none⟩ (.slice (some ⟨g3, 0, none⟩) (2 * s.z) c3)) g3 c3 cur3 s.st) := Lib.hid (OwnG.keep HO3.out (Fr.set1 wx1 p 3 (.slice (some ⟨g3, 0, none⟩) (2 * s.z) c3)) (by omega))
  have HB6 : Hid (Bk (wx1.setCell ⟨p, 3, none⟩ (.slice (some ⟨g3, 0, none⟩) (2 * s.z) c3)) p (SC s.a s.b s.z (.slice (some ⟨g3, 0, none⟩) (2 * s.z) c3)) 26) := Lib.hid (Bk.set HBb.out 3 (.slice (some ⟨g3, 0, none⟩) (2 * s.z) c3))
  have HL6 : Hid (OwnI (wx1.setCell ⟨p, 3, none⟩ (.slice (some ⟨g3, 0, none⟩) (2 * s.z) c3)) g1 c1 cur [(i : Int)]) := Lib.hid (OwnG.keep HOb.out (Fr.set1 wx1 p 3 (.slice (some ⟨g3, 0, none⟩) (2 * s.z) c3)) hgp)
  have HS6 : Hid (Bk (wx1.setCell ⟨p, 3, none⟩ (.slice (some ⟨g3, 0, none⟩) (2 * s.z) c3)) w.heap.size #[.pointer (some ⟨p, 0, none⟩)] 34) := Lib.hid (Bk.setOther HSb.out _ _ (by show w.heap.size ≠ p; omega))
  have HF6 : Hid (Fr (fun i => i = p) w (wx1.setCell ⟨p, 3, none⟩ (.slice (some ⟨g3, 0, none⟩) (2 * s.z) c3))) := Lib.hid (Fr.set (HFb.out.weaken (S' := fun i => i = p) (fun _ _ h => h.elim)) (⟨p, 3, none⟩ : Addr) _ (.inr rfl))
  clear HSa HBa HOa HFa HSb HBb HOb HFb HG1 HG3 HO3 HCL hg1 hg3 hb1 hs0 hf3 hsz
  generalize (wx1.setCell ⟨p, 3, none⟩ (.slice (some ⟨g3, 0, none⟩) (2 * s.z) c3)) = y0 at *
  refine wp_loop_rounds 2 ?_
  have hx0 : i < (s.st).length := by have := HLN.out; omega
  have ca : y0.cell? ⟨g1, 0, none⟩ = some (.int .i64 (i : Int)) := by have := RdI.cell HL6.out.rd (i := 0) (by simp); rwa [Nat.zero_add] at this
  have cs : y0.cell? ⟨w.heap.size, 0, none⟩ = some (.pointer (some ⟨p, 0, none⟩)) := Bk.cell HS6.out 0
  have cp : y0.cell? ⟨p, 3, none⟩ = some (.slice (some ⟨g3, 0, none⟩) (2 * s.z) c3) := Bk.cell HB6.out 3
  have cx : y0.cell? ⟨g3, i, none⟩ = some (.int .u8 (((s.st).getD i 0).toNat : Int)) := by have := RdU.cell HO6.out.rd hx0; rw [Nat.zero_add] at this; rw [this, List.getD_eq_getElem?_getD, List.getElem?_eq_getElem hx0]; rfl
  have fx := Bk.free HO6.out.blk i
  have ix : (i : Int) < 2 * (s.z : Int) := by omega
  have HDB : Hid (∀ q : UInt8, dropB ((s.st).getD i 0) = q → (s.st).set i q = dropK (s.st) i) := Lib.hid (fun q e => dropK_eq e)
  have HX0 := Lib.hid hx0
  have HDV : Hid (dropB ((s.st).getD i 0) = if ((s.st).getD i 0).toNat = 1 then 3 else 4) := Lib.hid rfl
  generalize dropB ((s.st).getD i 0) = db at *
  generalize ((s.st).getD i 0).toNat = vv at *
  clear hx0
  by_cases hv0 : vv = 1
  · subst hv0
    rw [if_pos rfl] at HDV
    have HST := HDB.out _ HDV.out
    rw [rounds_succ]
    go_wp2
    clear ca cs cp cx fx ix
    have HO0n : Hid (OwnU (y0.setCell ⟨g3, i, none⟩ (.int .u8 3)) g3 c3 (cur3.setIfInBounds i (B 3)) (dropK (s.st) i)) := Lib.hid (by have := OwnU.set1 HO6.out HX0.out 3; rwa [HST] at this)
    have HB0n : Hid (Bk (y0.setCell ⟨g3, i, none⟩ (.int .u8 3)) p (SC s.a s.b s.z (.slice (some ⟨g3, 0, none⟩) (2 * s.z) c3)) 26) := Lib.hid (Bk.setOther HB6.out _ _ (by show p ≠ g3; omega))
    have HL0n : Hid (OwnI (y0.setCell ⟨g3, i, none⟩ (.int .u8 3)) g1 c1 cur [(i : Int)]) := Lib.hid (OwnG.keep HL6.out (Fr.set1 y0 g3 i (.int .u8 3)) (by omega))
    have HS0n : Hid (Bk (y0.setCell ⟨g3, i, none⟩ (.int .u8 3)) w.heap.size #[.pointer (some ⟨p, 0, none⟩)] 34) := Lib.hid (Bk.setOther HS6.out _ _ (by show w.heap.size ≠ g3; omega))
    have HF0n : Hid (Fr (fun i => i = p) w (y0.setCell ⟨g3, i, none⟩ (.int .u8 3))) := Lib.hid (Fr.set HF6.out (⟨g3, i, none⟩ : Addr) _ (.inl (by show w.heap.size ≤ g3; exact hwg)))
    clear HO6 HB6 HL6 HS6 HF6
    generalize (y0.setCell ⟨g3, i, none⟩ (.int .u8 3)) = u0 at *
    rw [rounds_succ]
    go_wp2
    go_ret
    have hcap := HO0n.out.room
    have hmax := HO0n.out.max
    refine ⟨rfl, ⟨g3, c3, hwg, ?_, HO0n.out.rd, hcap, hmax⟩, HF0n.out⟩
    have := HB0n.out
    show Bk _ p (SC s.a s.b s.z (.slice (some ⟨g3, 0, none⟩) ((dropK s.st i)).length c3)) 26
    rw [dropK_len, HLN.out]
    exact this
  · have hb : ((vv : Int) == 1) = false := by simp; omega
    rw [if_neg hv0] at HDV
    have HST := HDB.out _ HDV.out
    rw [rounds_succ]
    go_wp2
    clear ca cs cp cx fx ix hb
    have HO0n : Hid (OwnU (y0.setCell ⟨g3, i, none⟩ (.int .u8 4)) g3 c3 (cur3.setIfInBounds i (B 4)) (dropK (s.st) i)) := Lib.hid (by have := OwnU.set1 HO6.out HX0.out 4; rwa [HST] at this)
    have HB0n : Hid (Bk (y0.setCell ⟨g3, i, none⟩ (.int .u8 4)) p (SC s.a s.b s.z (.slice (some ⟨g3, 0, none⟩) (2 * s.z) c3)) 26) := Lib.hid (Bk.setOther HB6.out _ _ (by show p ≠ g3; omega))
    have HL0n : Hid (OwnI (y0.setCell ⟨g3, i, none⟩ (.int .u8 4)) g1 c1 cur [(i : Int)]) := Lib.hid (OwnG.keep HL6.out (Fr.set1 y0 g3 i (.int .u8 4)) (by omega))
    have HS0n : Hid (Bk (y0.setCell ⟨g3, i, none⟩ (.int .u8 4)) w.heap.size #[.pointer (some ⟨p, 0, none⟩)] 34) := Lib.hid (Bk.setOther HS6.out _ _ (by show w.heap.size ≠ g3; omega))
    have HF0n : Hid (Fr (fun i => i = p) w (y0.setCell ⟨g3, i, none⟩ (.int .u8 4))) := Lib.hid (Fr.set HF6.out (⟨g3, i, none⟩ : Addr) _ (.inl (by show w.heap.size ≤ g3; exact hwg)))
    clear HO6 HB6 HL6 HS6 HF6
    generalize (y0.setCell ⟨g3, i, none⟩ (.int .u8 4)) = u0 at *
    rw [rounds_succ]
    go_wp2
    go_ret
    have hcap := HO0n.out.room
    have hmax := HO0n.out.max
    refine ⟨rfl, ⟨g3, c3, hwg, ?_, HO0n.out.rd, hcap, hmax⟩, HF0n.out⟩
    have := HB0n.out
    show Bk _ p (SC s.a s.b s.z (.slice (some ⟨g3, 0, none⟩) ((dropK s.st i)).length c3)) 26
    rw [dropK_len, HLN.out]
    exact this

set_option maxHeartbeats 4000000 in
set_option maxRecDepth 100000 in
theorem drop_2 (p : Nat) (s : Sp) (g o c : Nat) (i j : Nat) (hi : i < 2 * s.z) (hj : j < 2 * s.z) (hij : j ≠ i) (hui : ∀ y, s.st[i]? = some y → usedB y = true) (huj : ∀ y, s.st[j]? = some y → usedB y = true) (t : List UInt8) (w : World) (ht : t.length = 32) (hok : s.ok) (h : SAt w p s g o c) : Calls Try.prog 7 #[.pointer (some ⟨p, 0, none⟩), .agg (PC (SpAsk.Sp.sec s i : Int) (SpAsk.Sp.sec s j : Int) t).toArray] w fun e w' => e = .returned (.int .i64 0) ∧ Now w w' p (S4 s (dropK (dropK s.st i) j)) := by
  have HIP : Hid ((Try.prog.info? 37).map (·.size) = some (PC (SpAsk.Sp.sec s i : Int) (SpAsk.Sp.sec s j : Int) t).toArray.size) := Lib.hid (by rw [PtrAsk.info_p, List.size_toArray, PC_length, ht])
  have HPL : Hid (∀ W, Fr0 w W → Calls Try.prog 16 #[.pointer (some ⟨p, 0, none⟩), .agg (PC (SpAsk.Sp.sec s i : Int) (SpAsk.Sp.sec s j : Int) t).toArray] W fun e w' => ∃ g1 c1 cur, e = .returned (.tuple #[.slice (some ⟨g1, 0, none⟩) 2 c1, .bool true]) ∧ W.heap.size ≤ g1 ∧ OwnI w' g1 c1 cur [(i : Int), (j : Int)] ∧ Fr0 W w') := Lib.hid (fun W f => places_2 p s g o c i j hi hj hij t W ht hok (h.keep f))
  generalize (PC (SpAsk.Sp.sec s i : Int) (SpAsk.Sp.sec s j : Int) t).toArray = X at *
  have hpw := Bk.lt h.blk
  have hs1 : (w.alloc (.cells #[.pointer (some ⟨p, 0, none⟩)] 34)).heap.size = w.heap.size + 1 := by simp
  have HF1 : Hid (Fr0 w ((w.alloc (.cells #[.pointer (some ⟨p, 0, none⟩)] 34)).alloc (.cells X 37))) := Lib.hid (Fr.alloc (Fr.alloc (Fr.refl _ _) _) _)
  have HS1 : Hid (Bk ((w.alloc (.cells #[.pointer (some ⟨p, 0, none⟩)] 34)).alloc (.cells X 37)) w.heap.size #[.pointer (some ⟨p, 0, none⟩)] 34) := Lib.hid (Bk.alloc (Bk.new w _) _)
  have HX1 : Hid (Bk ((w.alloc (.cells #[.pointer (some ⟨p, 0, none⟩)] 34)).alloc (.cells X 37)) (w.heap.size + 1) X 37) := Lib.hid (by have := Bk.new (w.alloc (.cells #[.pointer (some ⟨p, 0, none⟩)] 34)) (.cells X 37); rwa [hs1] at this)
  have HCF : Hid (∀ W g1 c1, Fr0 w W → RdI W (some ⟨g1, 0, none⟩) [(i : Int), (j : Int)] → Bk W w.heap.size #[.pointer (some ⟨p, 0, none⟩)] 34 → Calls Try.prog 17 #[.slice (some ⟨g1, 0, none⟩) 2 c1, .func (Fn.func 18) #[] #[.pointer (some ⟨w.heap.size, 0, none⟩)]] W fun e w' => e = .returned (.bool false) ∧ w' = W) := Lib.hid (fun W g1 c1 f hr hb => cfn_2 p w.heap.size g1 c1 s g o c i j W hi hui hj huj hok.len hr hb (h.keep f))
  have HCL : Hid (∀ W, Fr0 w W → Calls Try.prog 14 #[.slice (some ⟨g, o, none⟩) (2 * s.z) c] W fun e w' => ∃ g3 c3 cur3, e = .returned (.slice (some ⟨g3, 0, none⟩) (2 * s.z) c3) ∧ W.heap.size ≤ g3 ∧ OwnU w' g3 c3 cur3 s.st ∧ Fr0 W w') := Lib.hid (fun W f => by
    have := clone_calls g o c s.st W (h.rd.keep f) (by have := hok.len; have := hok.z2; omega)
    rwa [hok.len] at this)
  have HB0 : Hid (Bk w p (SC s.a s.b s.z (.slice (some ⟨g, o, none⟩) (2 * s.z) c)) 26) := Lib.hid (by have := h.blk; unfold sval at this; rwa [hok.len] at this)
  have HLN := Lib.hid hok.len
  have hz2 := hok.z2
  clear h hs1 hok
  go_enter Try.func7, Try.ntmps7
  go_wp2_with (first | ((with_reducible show wpList _ _ _ ({ dst := _, op := Op.load 37 _, type := _, pos := _, after := _, guard := _ } :: _) _ _); refine wpList_load_row_g (by rfl) 37 _ rfl (w.heap.size + 1) rfl 37 _ (0, 0) _ HX1.out Try.underlying37 rfl HIP.out ?_) | (go_at_call 16; (with_reducible refine (HPL.out _ HF1.out).mono ?_); rintro e w2 ⟨g1, c1, cur, rfl, hg1, ho1, hf2⟩; have HS2 := Lib.hid (hf2.keep HS1.out (fun h => h)); have HG1 := Lib.hid hg1; have HO2 := Lib.hid ho1; have HR2 : Hid (RdI w2 (some ⟨g1, 0, none⟩) [(i : Int), (j : Int)]) := Lib.hid (OwnG.rd ho1); have HF2 := Lib.hid (HF1.out.then0 hf2); have c0 : w2.cell? ⟨w.heap.size, 0, none⟩ = some (.pointer (some ⟨p, 0, none⟩)) := Bk.cell HS2.out 0; clear hg1 ho1 hf2) | (go_at_call 17; (with_reducible refine (HCF.out _ _ _ HF2.out HR2.out HS2.out).mono ?_); rintro e w3 ⟨rfl, rfl⟩))
  have hbs := Bk.lt HS2.out
  have HSa : Hid (Bk w3.drew w.heap.size #[.pointer (some ⟨p, 0, none⟩)] 34) := Lib.hid HS2.out
  have HBa : Hid (Bk w3.drew p (SC s.a s.b s.z (.slice (some ⟨g, o, none⟩) (2 * s.z) c)) 26) := Lib.hid (HF2.out.keep HB0.out (fun h => h))
  have HOa : Hid (OwnI w3.drew g1 c1 cur [(i : Int), (j : Int)]) := Lib.hid (OwnG.keep HO2.out (Fr.drew (Fr.refl (fun _ => False) _)) (fun h => h))
  have HFa : Hid (Fr0 w w3.drew) := Lib.hid (Fr.drew HF2.out)
  clear c0 HCF HPL HX1 HR2
  refine wp_region_noPanic ?_
  refine wp_region_held_drew (S := (fun W => W.cell? ⟨w.heap.size, 0, none⟩ = some (.pointer (some ⟨p, 0, none⟩)))) (by kernel_rfl) (Bk.cell HS2.out 0) (fun hHeld0 => ?_)
  change wpAnyH _ _ _ _ _ 9 #[false, false, false, false, false, false, false, false, false] _ _
  refine wpAnyH_take (i := 0) (v := .pointer (some ⟨p, 0, none⟩)) rfl (by kernel_rfl) (by kernel_rfl) (by kernel_rfl) (fun _ _ _ h => h) (Or.inl ⟨by kernel_rfl, fun w hSw => by have hcl := (fun W h => h) w hSw; go_simp⟩) hHeld0 ?_
  simp only [Act.put, List.getElem_toArray, List.getElem_cons_succ, List.getElem_cons_zero, List.setIfInBounds_toArray, List.set_cons_zero, List.set_cons_succ]
  change wpAnyH _ _ _ _ _ 8 #[true, false, false, false, false, false, false, false, false] _ _
  refine wpAnyH_take (i := 1) (v := .pointer (some ⟨p, 0, none⟩)) rfl (by kernel_rfl) (by kernel_rfl) (by kernel_rfl) (fun _ _ _ h => h) (Or.inl ⟨by kernel_rfl, fun w hSw => by have hcl := (fun W h => h) w hSw; go_simp⟩) hHeld0 ?_
  simp only [Act.put, List.getElem_toArray, List.getElem_cons_succ, List.getElem_cons_zero, List.setIfInBounds_toArray, List.set_cons_zero, List.set_cons_succ]
  change wpAnyH _ _ _ _ _ 7 #[true, true, false, false, false, false, false, false, false] _ _
  refine wpAnyH_take (i := 2) (v := .pointer (some ⟨p, 0, none⟩)) rfl (by kernel_rfl) (by kernel_rfl) (by kernel_rfl) (fun _ _ _ h => h) (Or.inl ⟨by kernel_rfl, fun w hSw => by first | kernel_rfl | (go_simp; done)⟩) hHeld0 ?_
  simp only [Act.put, List.getElem_toArray, List.getElem_cons_succ, List.getElem_cons_zero, List.setIfInBounds_toArray, List.set_cons_zero, List.set_cons_succ]
  change wpAnyH _ _ _ _ _ 6 #[true, true, true, false, false, false, false, false, false] _ _
  refine wpAnyH_take (i := 3) (v := .pointer (some ⟨p, 3, none⟩)) rfl (by kernel_rfl) (by kernel_rfl) (by kernel_rfl) (fun _ _ _ h => h) (Or.inl ⟨by kernel_rfl, fun w hSw => by first | kernel_rfl | (go_simp; done)⟩) hHeld0 ?_
  simp only [Act.put, List.getElem_toArray, List.getElem_cons_succ, List.getElem_cons_zero, List.setIfInBounds_toArray, List.set_cons_zero, List.set_cons_succ]
  change wpAnyH _ _ _ _ _ 5 #[true, true, true, true, false, false, false, false, false] _ _
  refine wpAnyH_ready (rs := [4]) (by kernel_rfl) (by simp) ?_
  refine AllReadyH.cons rfl (fun K hK => ?_) AllReadyH.nil
  simp only [List.getElem_toArray, List.getElem_cons_succ, List.getElem_cons_zero]
  refine (if_pos (by kernel_rfl)).mpr ?_
  have q1 : w3.drew.cell? ⟨p, 3, none⟩ = some (.slice (some ⟨g, o, none⟩) (2 * s.z) c) := Bk.cell HBa.out 3
  go_wp2_with fail
  refine hK.out _ _ (hHeld0) (fun hHeld1 => ?_)
  clear hK K hHeld0
  clear q1
  change wpAnyH _ _ _ _ _ 4 #[true, true, true, true, true, false, false, false, false] _ _
  refine wpAnyH_ready (rs := [5]) (by kernel_rfl) (by simp) ?_
  refine AllReadyH.cons rfl (fun K hK => ?_) AllReadyH.nil
  simp only [List.getElem_toArray, List.getElem_cons_succ, List.getElem_cons_zero]
  refine (if_pos (by kernel_rfl)).mpr ?_
  go_wp2_with fail
  refine (HCL.out _ HFa.out).mono ?_
  rintro e wx1 ⟨g3, c3, cur3, rfl, hg3, ho3, hfx⟩
  dsimp only
  have HSb := Lib.hid (hfx.keep HSa.out (fun h => h))
  have HBb := Lib.hid (hfx.keep HBa.out (fun h => h))
  have HOb := Lib.hid (OwnG.keep HOa.out hfx (fun h => h))
  have HFb := Lib.hid (HFa.out.then0 hfx)
  have HG3 := Lib.hid hg3
  have HO3 := Lib.hid ho3
  clear hg3 ho3
  refine hK.out _ _ (Bk.cell HSb.out 0) (fun hHeld2 => ?_)
  clear hK K hHeld1
  change wpAnyH _ _ _ _ _ 3 #[true, true, true, true, true, true, false, false, false] _ _
  refine wpAnyH_take (i := 6) (v := .pointer (some ⟨p, 0, none⟩)) rfl (by kernel_rfl) (by kernel_rfl) (by kernel_rfl) (fun _ _ _ h => h) (Or.inl ⟨by kernel_rfl, fun w hSw => by first | kernel_rfl | (go_simp; done)⟩) hHeld2 ?_
  simp only [Act.put, List.getElem_toArray, List.getElem_cons_succ, List.getElem_cons_zero, List.setIfInBounds_toArray, List.set_cons_zero, List.set_cons_succ]
  change wpAnyH _ _ _ _ _ 2 #[true, true, true, true, true, true, true, false, false] _ _
  refine wpAnyH_take (i := 7) (v := .pointer (some ⟨p, 3, none⟩)) rfl (by kernel_rfl) (by kernel_rfl) (by kernel_rfl) (fun _ _ _ h => h) (Or.inl ⟨by kernel_rfl, fun w hSw => by first | kernel_rfl | (go_simp; done)⟩) hHeld2 ?_
  simp only [Act.put, List.getElem_toArray, List.getElem_cons_succ, List.getElem_cons_zero, List.setIfInBounds_toArray, List.set_cons_zero, List.set_cons_succ]
  change wpAnyH _ _ _ _ _ 1 #[true, true, true, true, true, true, true, true, false] _ _
  refine wpAnyH_ready (rs := [8]) (by kernel_rfl) (by simp) ?_
  refine AllReadyH.cons rfl (fun K hK => ?_) AllReadyH.nil
  simp only [List.getElem_toArray, List.getElem_cons_succ, List.getElem_cons_zero]
  refine (if_pos (by kernel_rfl)).mpr ?_
  have q1 : wx1.cell? ⟨p, 3, none⟩ = some (.slice (some ⟨g, o, none⟩) (2 * s.z) c) := Bk.cell HBb.out 3
  have f1 := Bk.free HBb.out 3
  go_wp2_with fail
  refine hK.out _ _ (Bk.cell (Bk.setOther HSb.out (⟨p, 3, none⟩ : Addr) (.slice (some ⟨g3, 0, none⟩) (2 * s.z) c3) (by show w.heap.size ≠ p; omega)) 0) (fun hHeld3 => ?_)
  clear hK K hHeld2
  clear q1 f1
  change wpAnyH _ _ _ _ _ 0 #[true, true, true, true, true, true, true, true, true] _ _
  refine wpAnyH_done (by kernel_rfl) ?_ _
  refine NoPanic.normal ?_
  have HEND := Lib.hid hHeld3
  clear hHeld3
  go_wp2_with fail
  have hg1 := HG1.out
  have hg3 := HG3.out
  have hb1 := Bk.lt HOb.out.blk
  have hs0 := Bk.lt HOa.out.blk
  have hf3 := HFa.out.size
  have hsz : ((((w.alloc (.cells #[.pointer (some ⟨p, 0, none⟩)] 34)).alloc (.cells X 37))).heap.size) = w.heap.size + 1 + 1 := by simp
  rw [hsz] at hg1
  have hwg : w.heap.size ≤ g3 := by omega
  have hg13 : g1 ≠ g3 := by omega
  have hsg : w.heap.size ≠ g3 := by have := Bk.lt HSa.out; omega
  have hgp : g1 ≠ p := by omega
  have HO6 : Hid (OwnU (wx1.setCell ⟨p, 3, none⟩ (.slice (some ⟨g3, 0, none⟩) (2 * s.z) c3)) g3 c3 cur3 s.st) := Lib.hid (OwnG.keep HO3.out (Fr.set1 wx1 p 3 (.slice (some ⟨g3, 0, none⟩) (2 * s.z) c3)) (by omega))
  have HB6 : Hid (Bk (wx1.setCell ⟨p, 3, none⟩ (.slice (some ⟨g3, 0, none⟩) (2 * s.z) c3)) p (SC s.a s.b s.z (.slice (some ⟨g3, 0, none⟩) (2 * s.z) c3)) 26) := Lib.hid (Bk.set HBb.out 3 (.slice (some ⟨g3, 0, none⟩) (2 * s.z) c3))
  have HL6 : Hid (OwnI (wx1.setCell ⟨p, 3, none⟩ (.slice (some ⟨g3, 0, none⟩) (2 * s.z) c3)) g1 c1 cur [(i : Int), (j : Int)]) := Lib.hid (OwnG.keep HOb.out (Fr.set1 wx1 p 3 (.slice (some ⟨g3, 0, none⟩) (2 * s.z) c3)) hgp)
  have HS6 : Hid (Bk (wx1.setCell ⟨p, 3, none⟩ (.slice (some ⟨g3, 0, none⟩) (2 * s.z) c3)) w.heap.size #[.pointer (some ⟨p, 0, none⟩)] 34) := Lib.hid (Bk.setOther HSb.out _ _ (by show w.heap.size ≠ p; omega))
  have HF6 : Hid (Fr (fun i => i = p) w (wx1.setCell ⟨p, 3, none⟩ (.slice (some ⟨g3, 0, none⟩) (2 * s.z) c3))) := Lib.hid (Fr.set (HFb.out.weaken (S' := fun i => i = p) (fun _ _ h => h.elim)) (⟨p, 3, none⟩ : Addr) _ (.inr rfl))
  clear HSa HBa HOa HFa HSb HBb HOb HFb HG1 HG3 HO3 HCL hg1 hg3 hb1 hs0 hf3 hsz
  generalize (wx1.setCell ⟨p, 3, none⟩ (.slice (some ⟨g3, 0, none⟩) (2 * s.z) c3)) = y0 at *
  refine wp_loop_rounds 3 ?_
  have hx0 : i < (s.st).length := by have := HLN.out; omega
  have ca : y0.cell? ⟨g1, 0, none⟩ = some (.int .i64 (i : Int)) := by have := RdI.cell HL6.out.rd (i := 0) (by simp); rwa [Nat.zero_add] at this
  have cs : y0.cell? ⟨w.heap.size, 0, none⟩ = some (.pointer (some ⟨p, 0, none⟩)) := Bk.cell HS6.out 0
  have cp : y0.cell? ⟨p, 3, none⟩ = some (.slice (some ⟨g3, 0, none⟩) (2 * s.z) c3) := Bk.cell HB6.out 3
  have cx : y0.cell? ⟨g3, i, none⟩ = some (.int .u8 (((s.st).getD i 0).toNat : Int)) := by have := RdU.cell HO6.out.rd hx0; rw [Nat.zero_add] at this; rw [this, List.getD_eq_getElem?_getD, List.getElem?_eq_getElem hx0]; rfl
  have fx := Bk.free HO6.out.blk i
  have ix : (i : Int) < 2 * (s.z : Int) := by omega
  have HDB : Hid (∀ q : UInt8, dropB ((s.st).getD i 0) = q → (s.st).set i q = dropK (s.st) i) := Lib.hid (fun q e => dropK_eq e)
  have HX0 := Lib.hid hx0
  have HDV : Hid (dropB ((s.st).getD i 0) = if ((s.st).getD i 0).toNat = 1 then 3 else 4) := Lib.hid rfl
  generalize dropB ((s.st).getD i 0) = db at *
  generalize ((s.st).getD i 0).toNat = vv at *
  clear hx0
  by_cases hv0 : vv = 1
  · subst hv0
    rw [if_pos rfl] at HDV
    have HST := HDB.out _ HDV.out
    rw [rounds_succ]
    go_wp2
    clear ca cs cp cx fx ix
    have HO0n : Hid (OwnU (y0.setCell ⟨g3, i, none⟩ (.int .u8 3)) g3 c3 (cur3.setIfInBounds i (B 3)) (dropK (s.st) i)) := Lib.hid (by have := OwnU.set1 HO6.out HX0.out 3; rwa [HST] at this)
    have HB0n : Hid (Bk (y0.setCell ⟨g3, i, none⟩ (.int .u8 3)) p (SC s.a s.b s.z (.slice (some ⟨g3, 0, none⟩) (2 * s.z) c3)) 26) := Lib.hid (Bk.setOther HB6.out _ _ (by show p ≠ g3; omega))
    have HL0n : Hid (OwnI (y0.setCell ⟨g3, i, none⟩ (.int .u8 3)) g1 c1 cur [(i : Int), (j : Int)]) := Lib.hid (OwnG.keep HL6.out (Fr.set1 y0 g3 i (.int .u8 3)) (by omega))
    have HS0n : Hid (Bk (y0.setCell ⟨g3, i, none⟩ (.int .u8 3)) w.heap.size #[.pointer (some ⟨p, 0, none⟩)] 34) := Lib.hid (Bk.setOther HS6.out _ _ (by show w.heap.size ≠ g3; omega))
    have HF0n : Hid (Fr (fun i => i = p) w (y0.setCell ⟨g3, i, none⟩ (.int .u8 3))) := Lib.hid (Fr.set HF6.out (⟨g3, i, none⟩ : Addr) _ (.inl (by show w.heap.size ≤ g3; exact hwg)))
    clear HO6 HB6 HL6 HS6 HF6
    generalize (y0.setCell ⟨g3, i, none⟩ (.int .u8 3)) = u0 at *
    have hx1 : j < ((dropK s.st i)).length := by rw [dropK_len]; have := HLN.out; omega
    have ca : u0.cell? ⟨g1, 1, none⟩ = some (.int .i64 (j : Int)) := by have := RdI.cell HL0n.out.rd (i := 1) (by simp); rwa [Nat.zero_add] at this
    have cs : u0.cell? ⟨w.heap.size, 0, none⟩ = some (.pointer (some ⟨p, 0, none⟩)) := Bk.cell HS0n.out 0
    have cp : u0.cell? ⟨p, 3, none⟩ = some (.slice (some ⟨g3, 0, none⟩) (2 * s.z) c3) := Bk.cell HB0n.out 3
    have cx : u0.cell? ⟨g3, j, none⟩ = some (.int .u8 ((((dropK s.st i)).getD j 0).toNat : Int)) := by have := RdU.cell HO0n.out.rd hx1; rw [Nat.zero_add] at this; rw [this, List.getD_eq_getElem?_getD, List.getElem?_eq_getElem hx1]; rfl
    have fx := Bk.free HO0n.out.blk j
    have ix : (j : Int) < 2 * (s.z : Int) := by omega
    have HDB : Hid (∀ q : UInt8, dropB (((dropK s.st i)).getD j 0) = q → ((dropK s.st i)).set j q = dropK ((dropK s.st i)) j) := Lib.hid (fun q e => dropK_eq e)
    have HX1 := Lib.hid hx1
    have HDV : Hid (dropB (((dropK s.st i)).getD j 0) = if (((dropK s.st i)).getD j 0).toNat = 1 then 3 else 4) := Lib.hid rfl
    generalize dropB (((dropK s.st i)).getD j 0) = db at *
    generalize (((dropK s.st i)).getD j 0).toNat = vv at *
    clear hx1
    by_cases hv1 : vv = 1
    · subst hv1
      rw [if_pos rfl] at HDV
      have HST := HDB.out _ HDV.out
      rw [rounds_succ]
      go_wp2
      clear ca cs cp cx fx ix
      have HO1n : Hid (OwnU (u0.setCell ⟨g3, j, none⟩ (.int .u8 3)) g3 c3 ((cur3.setIfInBounds i (B 3)).setIfInBounds j (B 3)) (dropK ((dropK s.st i)) j)) := Lib.hid (by have := OwnU.set1 HO0n.out HX1.out 3; rwa [HST] at this)
      have HB1n : Hid (Bk (u0.setCell ⟨g3, j, none⟩ (.int .u8 3)) p (SC s.a s.b s.z (.slice (some ⟨g3, 0, none⟩) (2 * s.z) c3)) 26) := Lib.hid (Bk.setOther HB0n.out _ _ (by show p ≠ g3; omega))
      have HL1n : Hid (OwnI (u0.setCell ⟨g3, j, none⟩ (.int .u8 3)) g1 c1 cur [(i : Int), (j : Int)]) := Lib.hid (OwnG.keep HL0n.out (Fr.set1 u0 g3 j (.int .u8 3)) (by omega))
      have HS1n : Hid (Bk (u0.setCell ⟨g3, j, none⟩ (.int .u8 3)) w.heap.size #[.pointer (some ⟨p, 0, none⟩)] 34) := Lib.hid (Bk.setOther HS0n.out _ _ (by show w.heap.size ≠ g3; omega))
      have HF1n : Hid (Fr (fun i => i = p) w (u0.setCell ⟨g3, j, none⟩ (.int .u8 3))) := Lib.hid (Fr.set HF0n.out (⟨g3, j, none⟩ : Addr) _ (.inl (by show w.heap.size ≤ g3; exact hwg)))
      clear HO0n HB0n HL0n HS0n HF0n
      generalize (u0.setCell ⟨g3, j, none⟩ (.int .u8 3)) = u1 at *
      rw [rounds_succ]
      go_wp2
      go_ret
      have hcap := HO1n.out.room
      have hmax := HO1n.out.max
      refine ⟨rfl, ⟨g3, c3, hwg, ?_, HO1n.out.rd, hcap, hmax⟩, HF1n.out⟩
      have := HB1n.out
      show Bk _ p (SC s.a s.b s.z (.slice (some ⟨g3, 0, none⟩) ((dropK (dropK s.st i) j)).length c3)) 26
      rw [dropK_len, dropK_len, HLN.out]
      exact this
    · have hb : ((vv : Int) == 1) = false := by simp; omega
      rw [if_neg hv1] at HDV
      have HST := HDB.out _ HDV.out
      rw [rounds_succ]
      go_wp2
      clear ca cs cp cx fx ix hb
      have HO1n : Hid (OwnU (u0.setCell ⟨g3, j, none⟩ (.int .u8 4)) g3 c3 ((cur3.setIfInBounds i (B 3)).setIfInBounds j (B 4)) (dropK ((dropK s.st i)) j)) := Lib.hid (by have := OwnU.set1 HO0n.out HX1.out 4; rwa [HST] at this)
      have HB1n : Hid (Bk (u0.setCell ⟨g3, j, none⟩ (.int .u8 4)) p (SC s.a s.b s.z (.slice (some ⟨g3, 0, none⟩) (2 * s.z) c3)) 26) := Lib.hid (Bk.setOther HB0n.out _ _ (by show p ≠ g3; omega))
      have HL1n : Hid (OwnI (u0.setCell ⟨g3, j, none⟩ (.int .u8 4)) g1 c1 cur [(i : Int), (j : Int)]) := Lib.hid (OwnG.keep HL0n.out (Fr.set1 u0 g3 j (.int .u8 4)) (by omega))
      have HS1n : Hid (Bk (u0.setCell ⟨g3, j, none⟩ (.int .u8 4)) w.heap.size #[.pointer (some ⟨p, 0, none⟩)] 34) := Lib.hid (Bk.setOther HS0n.out _ _ (by show w.heap.size ≠ g3; omega))
      have HF1n : Hid (Fr (fun i => i = p) w (u0.setCell ⟨g3, j, none⟩ (.int .u8 4))) := Lib.hid (Fr.set HF0n.out (⟨g3, j, none⟩ : Addr) _ (.inl (by show w.heap.size ≤ g3; exact hwg)))
      clear HO0n HB0n HL0n HS0n HF0n
      generalize (u0.setCell ⟨g3, j, none⟩ (.int .u8 4)) = u1 at *
      rw [rounds_succ]
      go_wp2
      go_ret
      have hcap := HO1n.out.room
      have hmax := HO1n.out.max
      refine ⟨rfl, ⟨g3, c3, hwg, ?_, HO1n.out.rd, hcap, hmax⟩, HF1n.out⟩
      have := HB1n.out
      show Bk _ p (SC s.a s.b s.z (.slice (some ⟨g3, 0, none⟩) ((dropK (dropK s.st i) j)).length c3)) 26
      rw [dropK_len, dropK_len, HLN.out]
      exact this
  · have hb : ((vv : Int) == 1) = false := by simp; omega
    rw [if_neg hv0] at HDV
    have HST := HDB.out _ HDV.out
    rw [rounds_succ]
    go_wp2
    clear ca cs cp cx fx ix hb
    have HO0n : Hid (OwnU (y0.setCell ⟨g3, i, none⟩ (.int .u8 4)) g3 c3 (cur3.setIfInBounds i (B 4)) (dropK (s.st) i)) := Lib.hid (by have := OwnU.set1 HO6.out HX0.out 4; rwa [HST] at this)
    have HB0n : Hid (Bk (y0.setCell ⟨g3, i, none⟩ (.int .u8 4)) p (SC s.a s.b s.z (.slice (some ⟨g3, 0, none⟩) (2 * s.z) c3)) 26) := Lib.hid (Bk.setOther HB6.out _ _ (by show p ≠ g3; omega))
    have HL0n : Hid (OwnI (y0.setCell ⟨g3, i, none⟩ (.int .u8 4)) g1 c1 cur [(i : Int), (j : Int)]) := Lib.hid (OwnG.keep HL6.out (Fr.set1 y0 g3 i (.int .u8 4)) (by omega))
    have HS0n : Hid (Bk (y0.setCell ⟨g3, i, none⟩ (.int .u8 4)) w.heap.size #[.pointer (some ⟨p, 0, none⟩)] 34) := Lib.hid (Bk.setOther HS6.out _ _ (by show w.heap.size ≠ g3; omega))
    have HF0n : Hid (Fr (fun i => i = p) w (y0.setCell ⟨g3, i, none⟩ (.int .u8 4))) := Lib.hid (Fr.set HF6.out (⟨g3, i, none⟩ : Addr) _ (.inl (by show w.heap.size ≤ g3; exact hwg)))
    clear HO6 HB6 HL6 HS6 HF6
    generalize (y0.setCell ⟨g3, i, none⟩ (.int .u8 4)) = u0 at *
    have hx1 : j < ((dropK s.st i)).length := by rw [dropK_len]; have := HLN.out; omega
    have ca : u0.cell? ⟨g1, 1, none⟩ = some (.int .i64 (j : Int)) := by have := RdI.cell HL0n.out.rd (i := 1) (by simp); rwa [Nat.zero_add] at this
    have cs : u0.cell? ⟨w.heap.size, 0, none⟩ = some (.pointer (some ⟨p, 0, none⟩)) := Bk.cell HS0n.out 0
    have cp : u0.cell? ⟨p, 3, none⟩ = some (.slice (some ⟨g3, 0, none⟩) (2 * s.z) c3) := Bk.cell HB0n.out 3
    have cx : u0.cell? ⟨g3, j, none⟩ = some (.int .u8 ((((dropK s.st i)).getD j 0).toNat : Int)) := by have := RdU.cell HO0n.out.rd hx1; rw [Nat.zero_add] at this; rw [this, List.getD_eq_getElem?_getD, List.getElem?_eq_getElem hx1]; rfl
    have fx := Bk.free HO0n.out.blk j
    have ix : (j : Int) < 2 * (s.z : Int) := by omega
    have HDB : Hid (∀ q : UInt8, dropB (((dropK s.st i)).getD j 0) = q → ((dropK s.st i)).set j q = dropK ((dropK s.st i)) j) := Lib.hid (fun q e => dropK_eq e)
    have HX1 := Lib.hid hx1
    have HDV : Hid (dropB (((dropK s.st i)).getD j 0) = if (((dropK s.st i)).getD j 0).toNat = 1 then 3 else 4) := Lib.hid rfl
    generalize dropB (((dropK s.st i)).getD j 0) = db at *
    generalize (((dropK s.st i)).getD j 0).toNat = vv at *
    clear hx1
    by_cases hv1 : vv = 1
    · subst hv1
      rw [if_pos rfl] at HDV
      have HST := HDB.out _ HDV.out
      rw [rounds_succ]
      go_wp2
      clear ca cs cp cx fx ix
      have HO1n : Hid (OwnU (u0.setCell ⟨g3, j, none⟩ (.int .u8 3)) g3 c3 ((cur3.setIfInBounds i (B 4)).setIfInBounds j (B 3)) (dropK ((dropK s.st i)) j)) := Lib.hid (by have := OwnU.set1 HO0n.out HX1.out 3; rwa [HST] at this)
      have HB1n : Hid (Bk (u0.setCell ⟨g3, j, none⟩ (.int .u8 3)) p (SC s.a s.b s.z (.slice (some ⟨g3, 0, none⟩) (2 * s.z) c3)) 26) := Lib.hid (Bk.setOther HB0n.out _ _ (by show p ≠ g3; omega))
      have HL1n : Hid (OwnI (u0.setCell ⟨g3, j, none⟩ (.int .u8 3)) g1 c1 cur [(i : Int), (j : Int)]) := Lib.hid (OwnG.keep HL0n.out (Fr.set1 u0 g3 j (.int .u8 3)) (by omega))
      have HS1n : Hid (Bk (u0.setCell ⟨g3, j, none⟩ (.int .u8 3)) w.heap.size #[.pointer (some ⟨p, 0, none⟩)] 34) := Lib.hid (Bk.setOther HS0n.out _ _ (by show w.heap.size ≠ g3; omega))
      have HF1n : Hid (Fr (fun i => i = p) w (u0.setCell ⟨g3, j, none⟩ (.int .u8 3))) := Lib.hid (Fr.set HF0n.out (⟨g3, j, none⟩ : Addr) _ (.inl (by show w.heap.size ≤ g3; exact hwg)))
      clear HO0n HB0n HL0n HS0n HF0n
      generalize (u0.setCell ⟨g3, j, none⟩ (.int .u8 3)) = u1 at *
      rw [rounds_succ]
      go_wp2
      go_ret
      have hcap := HO1n.out.room
      have hmax := HO1n.out.max
      refine ⟨rfl, ⟨g3, c3, hwg, ?_, HO1n.out.rd, hcap, hmax⟩, HF1n.out⟩
      have := HB1n.out
      show Bk _ p (SC s.a s.b s.z (.slice (some ⟨g3, 0, none⟩) ((dropK (dropK s.st i) j)).length c3)) 26
      rw [dropK_len, dropK_len, HLN.out]
      exact this
    · have hb : ((vv : Int) == 1) = false := by simp; omega
      rw [if_neg hv1] at HDV
      have HST := HDB.out _ HDV.out
      rw [rounds_succ]
      go_wp2
      clear ca cs cp cx fx ix hb
      have HO1n : Hid (OwnU (u0.setCell ⟨g3, j, none⟩ (.int .u8 4)) g3 c3 ((cur3.setIfInBounds i (B 4)).setIfInBounds j (B 4)) (dropK ((dropK s.st i)) j)) := Lib.hid (by have := OwnU.set1 HO0n.out HX1.out 4; rwa [HST] at this)
      have HB1n : Hid (Bk (u0.setCell ⟨g3, j, none⟩ (.int .u8 4)) p (SC s.a s.b s.z (.slice (some ⟨g3, 0, none⟩) (2 * s.z) c3)) 26) := Lib.hid (Bk.setOther HB0n.out _ _ (by show p ≠ g3; omega))
      have HL1n : Hid (OwnI (u0.setCell ⟨g3, j, none⟩ (.int .u8 4)) g1 c1 cur [(i : Int), (j : Int)]) := Lib.hid (OwnG.keep HL0n.out (Fr.set1 u0 g3 j (.int .u8 4)) (by omega))
      have HS1n : Hid (Bk (u0.setCell ⟨g3, j, none⟩ (.int .u8 4)) w.heap.size #[.pointer (some ⟨p, 0, none⟩)] 34) := Lib.hid (Bk.setOther HS0n.out _ _ (by show w.heap.size ≠ g3; omega))
      have HF1n : Hid (Fr (fun i => i = p) w (u0.setCell ⟨g3, j, none⟩ (.int .u8 4))) := Lib.hid (Fr.set HF0n.out (⟨g3, j, none⟩ : Addr) _ (.inl (by show w.heap.size ≤ g3; exact hwg)))
      clear HO0n HB0n HL0n HS0n HF0n
      generalize (u0.setCell ⟨g3, j, none⟩ (.int .u8 4)) = u1 at *
      rw [rounds_succ]
      go_wp2
      go_ret
      have hcap := HO1n.out.room
      have hmax := HO1n.out.max
      refine ⟨rfl, ⟨g3, c3, hwg, ?_, HO1n.out.rd, hcap, hmax⟩, HF1n.out⟩
      have := HB1n.out
      show Bk _ p (SC s.a s.b s.z (.slice (some ⟨g3, 0, none⟩) ((dropK (dropK s.st i) j)).length c3)) 26
      rw [dropK_len, dropK_len, HLN.out]
      exact this

end Go.Proofs.Ytpbhnpoldjdfdaa.SpDrop
