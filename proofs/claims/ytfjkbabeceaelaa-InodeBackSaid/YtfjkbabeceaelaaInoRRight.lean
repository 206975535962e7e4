/- Whether a node is right, as the reference asks: the walks of lazaretref10.Right and lazaretref13.Right. -/
import Derived.Test.YtfjkbabeceaelaaInoKit
import Derived.Test.YtfjkbabeceaelaaPtrRRight
set_option linter.unusedVariables false
set_option linter.unusedSimpArgs false
namespace Go.Proofs.Ytfjkbabeceaelaa.InoRRight
open Go Go.RowKit Go.Proofs.Ytfjkbabeceaelaa.K Go.Proofs.Ytfjkbabeceaelaa.EqKit Go.Proofs.Ytfjkbabeceaelaa.PtrKit Go.Proofs.Ytfjkbabeceaelaa.ArrKit Go.Proofs.Ytfjkbabeceaelaa.HeldKit Go.Proofs.Ytfjkbabeceaelaa.PtrAsk Go.Proofs.Ytfjkbabeceaelaa.PtrRRight Go.Proofs.Ytfjkbabeceaelaa.ShaStep Go.Proofs.Ytfjkbabeceaelaa.ShaSum Go.Proofs.Ytfjkbabeceaelaa.PtrOf Go.Proofs.Ytfjkbabeceaelaa.WordPut Go.Proofs.Ytfjkbabeceaelaa.WordTake Go.Proofs.Ytfjkbabeceaelaa.PtrPut Go.Proofs.Ytfjkbabeceaelaa.InoKit

def NV.stem (x : NV) : List Value := x.root.pc ++ [.int .i64 x.size, .int .i64 x.cps]
theorem stem_length {x : NV} (h : x.ok) : (NV.stem x).length = 36 := by simp [NV.stem, pc_length h.root]
theorem info_s : (Try.prog.info? 28).map (·.size) = some 36 := by kernel_rfl
def stemR (x : NV) : Bool := x.root.right && decide (0 ≤ x.size ∧ x.size ≤ 8192 ∧ (x.cps = 1 ∨ x.cps = 2))
theorem stem_root {W : World} {g : Nat} {t : TypeId} {x : NV} (h : x.ok) (hb : Bk W g (NV.stem x).toArray t) : W.rangeAt g 0 x.root.pc := fun j u hj => by
  have hl : j < x.root.pc.length := (List.getElem?_eq_some_iff.1 hj).1
  rw [Bk.cell hb, List.getElem?_toArray, NV.stem, Nat.zero_add, List.getElem?_append_left hl]; exact hj
theorem stem_size {W : World} {g : Nat} {t : TypeId} {x : NV} (h : x.ok) (hb : Bk W g (NV.stem x).toArray t) : W.cell? ⟨g, 34, none⟩ = some (.int .i64 x.size) := by
  rw [Bk.cell hb, List.getElem?_toArray, NV.stem, List.getElem?_append_right (by rw [pc_length h.root]; omega), pc_length h.root]; rfl
theorem stem_cps {W : World} {g : Nat} {t : TypeId} {x : NV} (h : x.ok) (hb : Bk W g (NV.stem x).toArray t) : W.cell? ⟨g, 35, none⟩ = some (.int .i64 x.cps) := by
  rw [Bk.cell hb, List.getElem?_toArray, NV.stem, List.getElem?_append_right (by rw [pc_length h.root]; omega), pc_length h.root]; rfl

set_option maxHeartbeats 2000000 in
set_option maxRecDepth 100000 in
theorem sright_f (x : NV) (w : World) (hx : x.ok) (hrr : x.root.right = false)  : Calls Try.prog 28 #[.agg (NV.stem x).toArray] w fun e w' => e = .returned (.bool false) ∧ Fr0 w w' := by
  have HRI : Hid (∀ W : World, Calls Try.prog 35 #[.agg x.root.pc.toArray] W fun e w' => e = .returned (.bool false) ∧ Fr0 W w') := Lib.hid (fun W => by
    have := rright_calls x.root.a x.root.b x.root.s W hx.root.len hx.root.wa hx.root.wb
    rw [show rightB x.root.a x.root.b x.root.s = false from hrr] at this
    exact this)
  have HIR : Hid ((Try.prog.info? 26).map (·.size) = some x.root.pc.length) := Lib.hid (by rw [info_p, pc_length hx.root])
  have HN : Hid (Bk (w.alloc (.cells (NV.stem x).toArray 28)) w.heap.size (NV.stem x).toArray 28) := Lib.hid (Bk.new w _)
  have HRT := Lib.hid (stem_root hx HN.out)
  have HF : Hid (Fr0 w (w.alloc (.cells (NV.stem x).toArray 28))) := Lib.hid (Fr.alloc (Fr.refl _ _) _)
  have HQ3 := Lib.hid (stem_size hx HN.out)
  have HQ4 := Lib.hid (stem_cps hx HN.out)
  clear hx hrr 
  generalize (NV.stem x).toArray = X at *
  generalize x.root.pc = rp at *
  generalize x.size = xs at *
  generalize x.cps = xc at *
  go_enter Try.func28, Try.ntmps28
  go_wp2_with (first | ((with_reducible show wpList _ _ _ ({ dst := _, op := Op.load 26 _, type := _, pos := _, after := _, guard := _ } :: _) _ _); refine wpList_load_mid_g (by rfl) 26 _ rfl w.heap.size 0 rfl rp _ HRT.out Try.underlying26 rfl HIR.out ?_) | (go_at_call 35; (with_reducible refine (HRI.out _).mono ?_); rintro e w2 ⟨rfl, hf2⟩; have HF2 := Lib.hid (HF.out.then0 hf2); have HX2 := Lib.hid (hf2.keep HN.out (fun h => h)); have q3 : w2.cell? ⟨w.heap.size, 34, none⟩ = some (.int .i64 xs) := (hf2.cell _ 34 (by simp) (fun h => h)).trans HQ3.out; have q4 : w2.cell? ⟨w.heap.size, 35, none⟩ = some (.int .i64 xc) := (hf2.cell _ 35 (by simp) (fun h => h)).trans HQ4.out; clear hf2))
  all_goals go_ret
  exact ⟨by first | rfl | simp, HF2.out⟩

set_option maxHeartbeats 2000000 in
set_option maxRecDepth 100000 in
theorem sright_0 (x : NV) (w : World) (hx : x.ok) (hrr : x.root.right = true) (h0 : ¬ 0 ≤ x.size) : Calls Try.prog 28 #[.agg (NV.stem x).toArray] w fun e w' => e = .returned (.bool false) ∧ Fr0 w w' := by
  have c0 : decide (0 ≤ x.size) = false := decide_eq_false (by omega)
  have HRI : Hid (∀ W : World, Calls Try.prog 35 #[.agg x.root.pc.toArray] W fun e w' => e = .returned (.bool true) ∧ Fr0 W w') := Lib.hid (fun W => by
    have := rright_calls x.root.a x.root.b x.root.s W hx.root.len hx.root.wa hx.root.wb
    rw [show rightB x.root.a x.root.b x.root.s = true from hrr] at this
    exact this)
  have HIR : Hid ((Try.prog.info? 26).map (·.size) = some x.root.pc.length) := Lib.hid (by rw [info_p, pc_length hx.root])
  have HN : Hid (Bk (w.alloc (.cells (NV.stem x).toArray 28)) w.heap.size (NV.stem x).toArray 28) := Lib.hid (Bk.new w _)
  have HRT := Lib.hid (stem_root hx HN.out)
  have HF : Hid (Fr0 w (w.alloc (.cells (NV.stem x).toArray 28))) := Lib.hid (Fr.alloc (Fr.refl _ _) _)
  have HQ3 := Lib.hid (stem_size hx HN.out)
  have HQ4 := Lib.hid (stem_cps hx HN.out)
  clear hx hrr 
  generalize (NV.stem x).toArray = X at *
  generalize x.root.pc = rp at *
  generalize x.size = xs at *
  generalize x.cps = xc at *
  go_enter Try.func28, Try.ntmps28
  go_wp2_with (first | ((with_reducible show wpList _ _ _ ({ dst := _, op := Op.load 26 _, type := _, pos := _, after := _, guard := _ } :: _) _ _); refine wpList_load_mid_g (by rfl) 26 _ rfl w.heap.size 0 rfl rp _ HRT.out Try.underlying26 rfl HIR.out ?_) | (go_at_call 35; (with_reducible refine (HRI.out _).mono ?_); rintro e w2 ⟨rfl, hf2⟩; have HF2 := Lib.hid (HF.out.then0 hf2); have HX2 := Lib.hid (hf2.keep HN.out (fun h => h)); have q3 : w2.cell? ⟨w.heap.size, 34, none⟩ = some (.int .i64 xs) := (hf2.cell _ 34 (by simp) (fun h => h)).trans HQ3.out; have q4 : w2.cell? ⟨w.heap.size, 35, none⟩ = some (.int .i64 xc) := (hf2.cell _ 35 (by simp) (fun h => h)).trans HQ4.out; clear hf2))
  all_goals go_ret
  exact ⟨by first | rfl | simp, HF2.out⟩

set_option maxHeartbeats 2000000 in
set_option maxRecDepth 100000 in
theorem sright_1 (x : NV) (w : World) (hx : x.ok) (hrr : x.root.right = true) (h0 : 0 ≤ x.size) (h1 : ¬ x.size ≤ 8192) : Calls Try.prog 28 #[.agg (NV.stem x).toArray] w fun e w' => e = .returned (.bool false) ∧ Fr0 w w' := by
  have c0 : decide (0 ≤ x.size) = true := decide_eq_true (by omega)
  have c1 : decide (x.size ≤ 8192) = false := decide_eq_false (by omega)
  have HRI : Hid (∀ W : World, Calls Try.prog 35 #[.agg x.root.pc.toArray] W fun e w' => e = .returned (.bool true) ∧ Fr0 W w') := Lib.hid (fun W => by
    have := rright_calls x.root.a x.root.b x.root.s W hx.root.len hx.root.wa hx.root.wb
    rw [show rightB x.root.a x.root.b x.root.s = true from hrr] at this
    exact this)
  have HIR : Hid ((Try.prog.info? 26).map (·.size) = some x.root.pc.length) := Lib.hid (by rw [info_p, pc_length hx.root])
  have HN : Hid (Bk (w.alloc (.cells (NV.stem x).toArray 28)) w.heap.size (NV.stem x).toArray 28) := Lib.hid (Bk.new w _)
  have HRT := Lib.hid (stem_root hx HN.out)
  have HF : Hid (Fr0 w (w.alloc (.cells (NV.stem x).toArray 28))) := Lib.hid (Fr.alloc (Fr.refl _ _) _)
  have HQ3 := Lib.hid (stem_size hx HN.out)
  have HQ4 := Lib.hid (stem_cps hx HN.out)
  clear hx hrr 
  generalize (NV.stem x).toArray = X at *
  generalize x.root.pc = rp at *
  generalize x.size = xs at *
  generalize x.cps = xc at *
  go_enter Try.func28, Try.ntmps28
  go_wp2_with (first | ((with_reducible show wpList _ _ _ ({ dst := _, op := Op.load 26 _, type := _, pos := _, after := _, guard := _ } :: _) _ _); refine wpList_load_mid_g (by rfl) 26 _ rfl w.heap.size 0 rfl rp _ HRT.out Try.underlying26 rfl HIR.out ?_) | (go_at_call 35; (with_reducible refine (HRI.out _).mono ?_); rintro e w2 ⟨rfl, hf2⟩; have HF2 := Lib.hid (HF.out.then0 hf2); have HX2 := Lib.hid (hf2.keep HN.out (fun h => h)); have q3 : w2.cell? ⟨w.heap.size, 34, none⟩ = some (.int .i64 xs) := (hf2.cell _ 34 (by simp) (fun h => h)).trans HQ3.out; have q4 : w2.cell? ⟨w.heap.size, 35, none⟩ = some (.int .i64 xc) := (hf2.cell _ 35 (by simp) (fun h => h)).trans HQ4.out; clear hf2))
  all_goals go_ret
  exact ⟨by first | rfl | simp, HF2.out⟩

set_option maxHeartbeats 2000000 in
set_option maxRecDepth 100000 in
theorem sright_2 (x : NV) (w : World) (hx : x.ok) (hrr : x.root.right = true) (h0 : 0 ≤ x.size) (h1 : x.size ≤ 8192) (h2 : x.cps = 1) : Calls Try.prog 28 #[.agg (NV.stem x).toArray] w fun e w' => e = .returned (.bool true) ∧ Fr0 w w' := by
  have c0 : decide (0 ≤ x.size) = true := decide_eq_true (by omega)
  have c1 : decide (x.size ≤ 8192) = true := decide_eq_true (by omega)
  have c2 : (x.cps == 1) = true := by rw [beq_iff_eq]; omega
  have HRI : Hid (∀ W : World, Calls Try.prog 35 #[.agg x.root.pc.toArray] W fun e w' => e = .returned (.bool true) ∧ Fr0 W w') := Lib.hid (fun W => by
    have := rright_calls x.root.a x.root.b x.root.s W hx.root.len hx.root.wa hx.root.wb
    rw [show rightB x.root.a x.root.b x.root.s = true from hrr] at this
    exact this)
  have HIR : Hid ((Try.prog.info? 26).map (·.size) = some x.root.pc.length) := Lib.hid (by rw [info_p, pc_length hx.root])
  have HN : Hid (Bk (w.alloc (.cells (NV.stem x).toArray 28)) w.heap.size (NV.stem x).toArray 28) := Lib.hid (Bk.new w _)
  have HRT := Lib.hid (stem_root hx HN.out)
  have HF : Hid (Fr0 w (w.alloc (.cells (NV.stem x).toArray 28))) := Lib.hid (Fr.alloc (Fr.refl _ _) _)
  have HQ3 := Lib.hid (stem_size hx HN.out)
  have HQ4 := Lib.hid (stem_cps hx HN.out)
  clear hx hrr h2
  generalize (NV.stem x).toArray = X at *
  generalize x.root.pc = rp at *
  generalize x.size = xs at *
  generalize x.cps = xc at *
  go_enter Try.func28, Try.ntmps28
  go_wp2_with (first | ((with_reducible show wpList _ _ _ ({ dst := _, op := Op.load 26 _, type := _, pos := _, after := _, guard := _ } :: _) _ _); refine wpList_load_mid_g (by rfl) 26 _ rfl w.heap.size 0 rfl rp _ HRT.out Try.underlying26 rfl HIR.out ?_) | (go_at_call 35; (with_reducible refine (HRI.out _).mono ?_); rintro e w2 ⟨rfl, hf2⟩; have HF2 := Lib.hid (HF.out.then0 hf2); have HX2 := Lib.hid (hf2.keep HN.out (fun h => h)); have q3 : w2.cell? ⟨w.heap.size, 34, none⟩ = some (.int .i64 xs) := (hf2.cell _ 34 (by simp) (fun h => h)).trans HQ3.out; have q4 : w2.cell? ⟨w.heap.size, 35, none⟩ = some (.int .i64 xc) := (hf2.cell _ 35 (by simp) (fun h => h)).trans HQ4.out; clear hf2))
  all_goals go_ret
  exact ⟨by first | rfl | simp, HF2.out⟩

set_option maxHeartbeats 2000000 in
set_option maxRecDepth 100000 in
theorem sright_3 (x : NV) (w : World) (hx : x.ok) (hrr : x.root.right = true) (h0 : 0 ≤ x.size) (h1 : x.size ≤ 8192) (h2 : x.cps ≠ 1) (h3 : x.cps = 2) : Calls Try.prog 28 #[.agg (NV.stem x).toArray] w fun e w' => e = .returned (.bool true) ∧ Fr0 w w' := by
  have c0 : decide (0 ≤ x.size) = true := decide_eq_true (by omega)
  have c1 : decide (x.size ≤ 8192) = true := decide_eq_true (by omega)
  have c2 : (x.cps == 1) = false := by rw [beq_eq_false_iff_ne]; omega
  have c3 : (x.cps == 2) = true := by rw [beq_iff_eq]; omega
  have HRI : Hid (∀ W : World, Calls Try.prog 35 #[.agg x.root.pc.toArray] W fun e w' => e = .returned (.bool true) ∧ Fr0 W w') := Lib.hid (fun W => by
    have := rright_calls x.root.a x.root.b x.root.s W hx.root.len hx.root.wa hx.root.wb
    rw [show rightB x.root.a x.root.b x.root.s = true from hrr] at this
    exact this)
  have HIR : Hid ((Try.prog.info? 26).map (·.size) = some x.root.pc.length) := Lib.hid (by rw [info_p, pc_length hx.root])
  have HN : Hid (Bk (w.alloc (.cells (NV.stem x).toArray 28)) w.heap.size (NV.stem x).toArray 28) := Lib.hid (Bk.new w _)
  have HRT := Lib.hid (stem_root hx HN.out)
  have HF : Hid (Fr0 w (w.alloc (.cells (NV.stem x).toArray 28))) := Lib.hid (Fr.alloc (Fr.refl _ _) _)
  have HQ3 := Lib.hid (stem_size hx HN.out)
  have HQ4 := Lib.hid (stem_cps hx HN.out)
  clear hx hrr h2 h3
  generalize (NV.stem x).toArray = X at *
  generalize x.root.pc = rp at *
  generalize x.size = xs at *
  generalize x.cps = xc at *
  go_enter Try.func28, Try.ntmps28
  go_wp2_with (first | ((with_reducible show wpList _ _ _ ({ dst := _, op := Op.load 26 _, type := _, pos := _, after := _, guard := _ } :: _) _ _); refine wpList_load_mid_g (by rfl) 26 _ rfl w.heap.size 0 rfl rp _ HRT.out Try.underlying26 rfl HIR.out ?_) | (go_at_call 35; (with_reducible refine (HRI.out _).mono ?_); rintro e w2 ⟨rfl, hf2⟩; have HF2 := Lib.hid (HF.out.then0 hf2); have HX2 := Lib.hid (hf2.keep HN.out (fun h => h)); have q3 : w2.cell? ⟨w.heap.size, 34, none⟩ = some (.int .i64 xs) := (hf2.cell _ 34 (by simp) (fun h => h)).trans HQ3.out; have q4 : w2.cell? ⟨w.heap.size, 35, none⟩ = some (.int .i64 xc) := (hf2.cell _ 35 (by simp) (fun h => h)).trans HQ4.out; clear hf2))
  all_goals go_ret
  exact ⟨by first | rfl | simp, HF2.out⟩

set_option maxHeartbeats 2000000 in
set_option maxRecDepth 100000 in
theorem sright_4 (x : NV) (w : World) (hx : x.ok) (hrr : x.root.right = true) (h0 : 0 ≤ x.size) (h1 : x.size ≤ 8192) (h2 : x.cps ≠ 1) (h3 : x.cps ≠ 2) : Calls Try.prog 28 #[.agg (NV.stem x).toArray] w fun e w' => e = .returned (.bool false) ∧ Fr0 w w' := by
  have c0 : decide (0 ≤ x.size) = true := decide_eq_true (by omega)
  have c1 : decide (x.size ≤ 8192) = true := decide_eq_true (by omega)
  have c2 : (x.cps == 1) = false := by rw [beq_eq_false_iff_ne]; omega
  have c3 : (x.cps == 2) = false := by rw [beq_eq_false_iff_ne]; omega
  have HRI : Hid (∀ W : World, Calls Try.prog 35 #[.agg x.root.pc.toArray] W fun e w' => e = .returned (.bool true) ∧ Fr0 W w') := Lib.hid (fun W => by
    have := rright_calls x.root.a x.root.b x.root.s W hx.root.len hx.root.wa hx.root.wb
    rw [show rightB x.root.a x.root.b x.root.s = true from hrr] at this
    exact this)
  have HIR : Hid ((Try.prog.info? 26).map (·.size) = some x.root.pc.length) := Lib.hid (by rw [info_p, pc_length hx.root])
  have HN : Hid (Bk (w.alloc (.cells (NV.stem x).toArray 28)) w.heap.size (NV.stem x).toArray 28) := Lib.hid (Bk.new w _)
  have HRT := Lib.hid (stem_root hx HN.out)
  have HF : Hid (Fr0 w (w.alloc (.cells (NV.stem x).toArray 28))) := Lib.hid (Fr.alloc (Fr.refl _ _) _)
  have HQ3 := Lib.hid (stem_size hx HN.out)
  have HQ4 := Lib.hid (stem_cps hx HN.out)
  clear hx hrr h2 h3
  generalize (NV.stem x).toArray = X at *
  generalize x.root.pc = rp at *
  generalize x.size = xs at *
  generalize x.cps = xc at *
  go_enter Try.func28, Try.ntmps28
  go_wp2_with (first | ((with_reducible show wpList _ _ _ ({ dst := _, op := Op.load 26 _, type := _, pos := _, after := _, guard := _ } :: _) _ _); refine wpList_load_mid_g (by rfl) 26 _ rfl w.heap.size 0 rfl rp _ HRT.out Try.underlying26 rfl HIR.out ?_) | (go_at_call 35; (with_reducible refine (HRI.out _).mono ?_); rintro e w2 ⟨rfl, hf2⟩; have HF2 := Lib.hid (HF.out.then0 hf2); have HX2 := Lib.hid (hf2.keep HN.out (fun h => h)); have q3 : w2.cell? ⟨w.heap.size, 34, none⟩ = some (.int .i64 xs) := (hf2.cell _ 34 (by simp) (fun h => h)).trans HQ3.out; have q4 : w2.cell? ⟨w.heap.size, 35, none⟩ = some (.int .i64 xc) := (hf2.cell _ 35 (by simp) (fun h => h)).trans HQ4.out; clear hf2))
  all_goals go_ret
  exact ⟨by first | rfl | simp, HF2.out⟩

theorem sright_calls (x : NV) (w : World) (hx : x.ok) : Calls Try.prog 28 #[.agg (NV.stem x).toArray] w fun e w' => e = .returned (.bool (stemR x)) ∧ Fr0 w w' := by
  unfold stemR
  cases hrr : x.root.right with
  | false => exact sright_f x w hx hrr
  | true =>
    rw [Bool.true_and]
    by_cases h0 : 0 ≤ x.size
    · by_cases h1 : x.size ≤ 8192
      · by_cases h2 : x.cps = 1
        · rw [decide_eq_true (by omega)]; exact sright_2 x w hx hrr h0 h1 h2
        · by_cases h3 : x.cps = 2
          · rw [decide_eq_true (by omega)]; exact sright_3 x w hx hrr h0 h1 h2 h3
          · rw [decide_eq_false (by omega)]; exact sright_4 x w hx hrr h0 h1 h2 h3
      · rw [decide_eq_false (by omega)]; exact sright_1 x w hx hrr h0 h1
    · rw [decide_eq_false (by omega)]; exact sright_0 x w hx hrr h0
theorem cells_stem {x : NV} (h : x.ok) {W : World} {g : Nat} {t : TypeId} (hb : Bk W g x.cells.toArray t) : W.rangeAt g 3 (NV.stem x) := fun j u hj => by
  rw [Bk.cell hb, List.getElem?_toArray, NV.cells, Nat.add_comm 3 j]
  simp only [List.getElem?_cons_succ]
  exact hj

set_option maxHeartbeats 2000000 in
set_option maxRecDepth 100000 in
theorem rright_0 (x : NV) (w : World) (hx : x.ok)  (h0 : ¬ 1 ≤ x.num) : Calls Try.prog 13 #[.agg x.cells.toArray] w fun e w' => e = .returned (.bool false) ∧ Fr0 w w' := by
  have c0 : decide (1 ≤ x.num) = false := decide_eq_false (by omega)
  have HN : Hid (Bk (w.alloc (.cells x.cells.toArray 30)) w.heap.size x.cells.toArray 30) := Lib.hid (Bk.new w _)
  have HH : Hid (Has (w.alloc (.cells x.cells.toArray 30)) w.heap.size x) := Lib.hid (Has.of hx HN.out)
  have HST := Lib.hid (cells_stem hx HN.out)
  have HF : Hid (Fr0 w (w.alloc (.cells x.cells.toArray 30))) := Lib.hid (Fr.alloc (Fr.refl _ _) _)
  have q0 := HH.out.num
  have q1 := HH.out.kind
  have q2 := HH.out.links
  have Q1 := Lib.hid HH.out.kind
  have Q4 := Lib.hid HH.out.cps
  clear hx 
  generalize x.cells.toArray = X at *
  generalize NV.stem x = rs at *
  generalize x.num = xn at *
  generalize x.kind = xk at *
  generalize x.links = xl at *
  generalize x.size = xs at *
  generalize x.cps = xc at *
  go_enter Try.func13, Try.ntmps13
  go_wp2_with (first | ((with_reducible show wpList _ _ _ ({ dst := _, op := Op.load 28 _, type := _, pos := _, after := _, guard := _ } :: _) _ _); refine wpList_load_mid_g (by rfl) 28 _ rfl w.heap.size 3 rfl rs _ HST.out Try.underlying28 rfl (by trivial) ?_))
  all_goals go_ret
  exact ⟨by first | rfl | simp, HF.out⟩

set_option maxHeartbeats 2000000 in
set_option maxRecDepth 100000 in
theorem rright_1 (x : NV) (w : World) (hx : x.ok) (h0 : 1 ≤ x.num) (h1 : ¬ x.num ≤ 64) : Calls Try.prog 13 #[.agg x.cells.toArray] w fun e w' => e = .returned (.bool false) ∧ Fr0 w w' := by
  have c0 : decide (1 ≤ x.num) = true := decide_eq_true (by omega)
  have c1 : decide (x.num ≤ 64) = false := decide_eq_false (by omega)
  have HN : Hid (Bk (w.alloc (.cells x.cells.toArray 30)) w.heap.size x.cells.toArray 30) := Lib.hid (Bk.new w _)
  have HH : Hid (Has (w.alloc (.cells x.cells.toArray 30)) w.heap.size x) := Lib.hid (Has.of hx HN.out)
  have HST := Lib.hid (cells_stem hx HN.out)
  have HF : Hid (Fr0 w (w.alloc (.cells x.cells.toArray 30))) := Lib.hid (Fr.alloc (Fr.refl _ _) _)
  have q0 := HH.out.num
  have q1 := HH.out.kind
  have q2 := HH.out.links
  have Q1 := Lib.hid HH.out.kind
  have Q4 := Lib.hid HH.out.cps
  clear hx 
  generalize x.cells.toArray = X at *
  generalize NV.stem x = rs at *
  generalize x.num = xn at *
  generalize x.kind = xk at *
  generalize x.links = xl at *
  generalize x.size = xs at *
  generalize x.cps = xc at *
  go_enter Try.func13, Try.ntmps13
  go_wp2_with (first | ((with_reducible show wpList _ _ _ ({ dst := _, op := Op.load 28 _, type := _, pos := _, after := _, guard := _ } :: _) _ _); refine wpList_load_mid_g (by rfl) 28 _ rfl w.heap.size 3 rfl rs _ HST.out Try.underlying28 rfl (by trivial) ?_))
  all_goals go_ret
  exact ⟨by first | rfl | simp, HF.out⟩

set_option maxHeartbeats 2000000 in
set_option maxRecDepth 100000 in
theorem rright_2 (x : NV) (w : World) (hx : x.ok) (h0 : 1 ≤ x.num) (h1 : x.num ≤ 64) (h2 : ¬ 1 ≤ x.kind) : Calls Try.prog 13 #[.agg x.cells.toArray] w fun e w' => e = .returned (.bool false) ∧ Fr0 w w' := by
  have c0 : decide (1 ≤ x.num) = true := decide_eq_true (by omega)
  have c1 : decide (x.num ≤ 64) = true := decide_eq_true (by omega)
  have c2 : decide (1 ≤ x.kind) = false := decide_eq_false (by omega)
  have HN : Hid (Bk (w.alloc (.cells x.cells.toArray 30)) w.heap.size x.cells.toArray 30) := Lib.hid (Bk.new w _)
  have HH : Hid (Has (w.alloc (.cells x.cells.toArray 30)) w.heap.size x) := Lib.hid (Has.of hx HN.out)
  have HST := Lib.hid (cells_stem hx HN.out)
  have HF : Hid (Fr0 w (w.alloc (.cells x.cells.toArray 30))) := Lib.hid (Fr.alloc (Fr.refl _ _) _)
  have q0 := HH.out.num
  have q1 := HH.out.kind
  have q2 := HH.out.links
  have Q1 := Lib.hid HH.out.kind
  have Q4 := Lib.hid HH.out.cps
  clear hx 
  generalize x.cells.toArray = X at *
  generalize NV.stem x = rs at *
  generalize x.num = xn at *
  generalize x.kind = xk at *
  generalize x.links = xl at *
  generalize x.size = xs at *
  generalize x.cps = xc at *
  go_enter Try.func13, Try.ntmps13
  go_wp2_with (first | ((with_reducible show wpList _ _ _ ({ dst := _, op := Op.load 28 _, type := _, pos := _, after := _, guard := _ } :: _) _ _); refine wpList_load_mid_g (by rfl) 28 _ rfl w.heap.size 3 rfl rs _ HST.out Try.underlying28 rfl (by trivial) ?_))
  all_goals go_ret
  exact ⟨by first | rfl | simp, HF.out⟩

set_option maxHeartbeats 2000000 in
set_option maxRecDepth 100000 in
theorem rright_3 (x : NV) (w : World) (hx : x.ok) (h0 : 1 ≤ x.num) (h1 : x.num ≤ 64) (h2 : 1 ≤ x.kind) (h3 : ¬ x.kind ≤ 3) : Calls Try.prog 13 #[.agg x.cells.toArray] w fun e w' => e = .returned (.bool false) ∧ Fr0 w w' := by
  have c0 : decide (1 ≤ x.num) = true := decide_eq_true (by omega)
  have c1 : decide (x.num ≤ 64) = true := decide_eq_true (by omega)
  have c2 : decide (1 ≤ x.kind) = true := decide_eq_true (by omega)
  have c3 : decide (x.kind ≤ 3) = false := decide_eq_false (by omega)
  have HN : Hid (Bk (w.alloc (.cells x.cells.toArray 30)) w.heap.size x.cells.toArray 30) := Lib.hid (Bk.new w _)
  have HH : Hid (Has (w.alloc (.cells x.cells.toArray 30)) w.heap.size x) := Lib.hid (Has.of hx HN.out)
  have HST := Lib.hid (cells_stem hx HN.out)
  have HF : Hid (Fr0 w (w.alloc (.cells x.cells.toArray 30))) := Lib.hid (Fr.alloc (Fr.refl _ _) _)
  have q0 := HH.out.num
  have q1 := HH.out.kind
  have q2 := HH.out.links
  have Q1 := Lib.hid HH.out.kind
  have Q4 := Lib.hid HH.out.cps
  clear hx 
  generalize x.cells.toArray = X at *
  generalize NV.stem x = rs at *
  generalize x.num = xn at *
  generalize x.kind = xk at *
  generalize x.links = xl at *
  generalize x.size = xs at *
  generalize x.cps = xc at *
  go_enter Try.func13, Try.ntmps13
  go_wp2_with (first | ((with_reducible show wpList _ _ _ ({ dst := _, op := Op.load 28 _, type := _, pos := _, after := _, guard := _ } :: _) _ _); refine wpList_load_mid_g (by rfl) 28 _ rfl w.heap.size 3 rfl rs _ HST.out Try.underlying28 rfl (by trivial) ?_))
  all_goals go_ret
  exact ⟨by first | rfl | simp, HF.out⟩

set_option maxHeartbeats 2000000 in
set_option maxRecDepth 100000 in
theorem rright_4 (x : NV) (w : World) (hx : x.ok) (h0 : 1 ≤ x.num) (h1 : x.num ≤ 64) (h2 : 1 ≤ x.kind) (h3 : x.kind ≤ 3) (h4 : ¬ 0 ≤ x.links) : Calls Try.prog 13 #[.agg x.cells.toArray] w fun e w' => e = .returned (.bool false) ∧ Fr0 w w' := by
  have c0 : decide (1 ≤ x.num) = true := decide_eq_true (by omega)
  have c1 : decide (x.num ≤ 64) = true := decide_eq_true (by omega)
  have c2 : decide (1 ≤ x.kind) = true := decide_eq_true (by omega)
  have c3 : decide (x.kind ≤ 3) = true := decide_eq_true (by omega)
  have c4 : decide (0 ≤ x.links) = false := decide_eq_false (by omega)
  have HN : Hid (Bk (w.alloc (.cells x.cells.toArray 30)) w.heap.size x.cells.toArray 30) := Lib.hid (Bk.new w _)
  have HH : Hid (Has (w.alloc (.cells x.cells.toArray 30)) w.heap.size x) := Lib.hid (Has.of hx HN.out)
  have HST := Lib.hid (cells_stem hx HN.out)
  have HF : Hid (Fr0 w (w.alloc (.cells x.cells.toArray 30))) := Lib.hid (Fr.alloc (Fr.refl _ _) _)
  have q0 := HH.out.num
  have q1 := HH.out.kind
  have q2 := HH.out.links
  have Q1 := Lib.hid HH.out.kind
  have Q4 := Lib.hid HH.out.cps
  clear hx 
  generalize x.cells.toArray = X at *
  generalize NV.stem x = rs at *
  generalize x.num = xn at *
  generalize x.kind = xk at *
  generalize x.links = xl at *
  generalize x.size = xs at *
  generalize x.cps = xc at *
  go_enter Try.func13, Try.ntmps13
  go_wp2_with (first | ((with_reducible show wpList _ _ _ ({ dst := _, op := Op.load 28 _, type := _, pos := _, after := _, guard := _ } :: _) _ _); refine wpList_load_mid_g (by rfl) 28 _ rfl w.heap.size 3 rfl rs _ HST.out Try.underlying28 rfl (by trivial) ?_))
  all_goals go_ret
  exact ⟨by first | rfl | simp, HF.out⟩

set_option maxHeartbeats 2000000 in
set_option maxRecDepth 100000 in
theorem rright_5 (x : NV) (w : World) (hx : x.ok) (h0 : 1 ≤ x.num) (h1 : x.num ≤ 64) (h2 : 1 ≤ x.kind) (h3 : x.kind ≤ 3) (h4 : 0 ≤ x.links) (h5 : ¬ x.links ≤ 99) : Calls Try.prog 13 #[.agg x.cells.toArray] w fun e w' => e = .returned (.bool false) ∧ Fr0 w w' := by
  have c0 : decide (1 ≤ x.num) = true := decide_eq_true (by omega)
  have c1 : decide (x.num ≤ 64) = true := decide_eq_true (by omega)
  have c2 : decide (1 ≤ x.kind) = true := decide_eq_true (by omega)
  have c3 : decide (x.kind ≤ 3) = true := decide_eq_true (by omega)
  have c4 : decide (0 ≤ x.links) = true := decide_eq_true (by omega)
  have c5 : decide (x.links ≤ 99) = false := decide_eq_false (by omega)
  have HN : Hid (Bk (w.alloc (.cells x.cells.toArray 30)) w.heap.size x.cells.toArray 30) := Lib.hid (Bk.new w _)
  have HH : Hid (Has (w.alloc (.cells x.cells.toArray 30)) w.heap.size x) := Lib.hid (Has.of hx HN.out)
  have HST := Lib.hid (cells_stem hx HN.out)
  have HF : Hid (Fr0 w (w.alloc (.cells x.cells.toArray 30))) := Lib.hid (Fr.alloc (Fr.refl _ _) _)
  have q0 := HH.out.num
  have q1 := HH.out.kind
  have q2 := HH.out.links
  have Q1 := Lib.hid HH.out.kind
  have Q4 := Lib.hid HH.out.cps
  clear hx 
  generalize x.cells.toArray = X at *
  generalize NV.stem x = rs at *
  generalize x.num = xn at *
  generalize x.kind = xk at *
  generalize x.links = xl at *
  generalize x.size = xs at *
  generalize x.cps = xc at *
  go_enter Try.func13, Try.ntmps13
  go_wp2_with (first | ((with_reducible show wpList _ _ _ ({ dst := _, op := Op.load 28 _, type := _, pos := _, after := _, guard := _ } :: _) _ _); refine wpList_load_mid_g (by rfl) 28 _ rfl w.heap.size 3 rfl rs _ HST.out Try.underlying28 rfl (by trivial) ?_))
  all_goals go_ret
  exact ⟨by first | rfl | simp, HF.out⟩

set_option maxHeartbeats 2000000 in
set_option maxRecDepth 100000 in
theorem rright_6 (x : NV) (w : World) (hx : x.ok) (h0 : 1 ≤ x.num) (h1 : x.num ≤ 64) (h2 : 1 ≤ x.kind) (h3 : x.kind ≤ 3) (h4 : 0 ≤ x.links) (h5 : x.links ≤ 99) (hst : stemR x = false) : Calls Try.prog 13 #[.agg x.cells.toArray] w fun e w' => e = .returned (.bool false) ∧ Fr0 w w' := by
  have c0 : decide (1 ≤ x.num) = true := decide_eq_true (by omega)
  have c1 : decide (x.num ≤ 64) = true := decide_eq_true (by omega)
  have c2 : decide (1 ≤ x.kind) = true := decide_eq_true (by omega)
  have c3 : decide (x.kind ≤ 3) = true := decide_eq_true (by omega)
  have c4 : decide (0 ≤ x.links) = true := decide_eq_true (by omega)
  have c5 : decide (x.links ≤ 99) = true := decide_eq_true (by omega)
  have HSR : Hid (∀ W : World, Calls Try.prog 28 #[.agg (NV.stem x).toArray] W fun e w' => e = .returned (.bool false) ∧ Fr0 W w') := Lib.hid (fun W => by
    have := sright_calls x W hx
    rw [hst] at this
    exact this)
  have HIR : Hid ((Try.prog.info? 28).map (·.size) = some (NV.stem x).length) := Lib.hid (by rw [info_s, stem_length hx])
  have HN : Hid (Bk (w.alloc (.cells x.cells.toArray 30)) w.heap.size x.cells.toArray 30) := Lib.hid (Bk.new w _)
  have HH : Hid (Has (w.alloc (.cells x.cells.toArray 30)) w.heap.size x) := Lib.hid (Has.of hx HN.out)
  have HST := Lib.hid (cells_stem hx HN.out)
  have HF : Hid (Fr0 w (w.alloc (.cells x.cells.toArray 30))) := Lib.hid (Fr.alloc (Fr.refl _ _) _)
  have q0 := HH.out.num
  have q1 := HH.out.kind
  have q2 := HH.out.links
  have Q1 := Lib.hid HH.out.kind
  have Q4 := Lib.hid HH.out.cps
  clear hx hst
  generalize x.cells.toArray = X at *
  generalize NV.stem x = rs at *
  generalize x.num = xn at *
  generalize x.kind = xk at *
  generalize x.links = xl at *
  generalize x.size = xs at *
  generalize x.cps = xc at *
  go_enter Try.func13, Try.ntmps13
  go_wp2_with (first | ((with_reducible show wpList _ _ _ ({ dst := _, op := Op.load 28 _, type := _, pos := _, after := _, guard := _ } :: _) _ _); refine wpList_load_mid_g (by rfl) 28 _ rfl w.heap.size 3 rfl rs _ HST.out Try.underlying28 rfl HIR.out ?_) | (go_at_call 28; (with_reducible refine (HSR.out _).mono ?_); rintro e w2 ⟨rfl, hf2⟩; have HF2 := Lib.hid (HF.out.then0 hf2); have q5 : w2.cell? ⟨w.heap.size, 1, none⟩ = some (.int .i64 xk) := (hf2.cell _ 1 (by simp) (fun h => h)).trans Q1.out; have q6 : w2.cell? ⟨w.heap.size, 38, none⟩ = some (.int .i64 xc) := (hf2.cell _ 38 (by simp) (fun h => h)).trans Q4.out; clear hf2))
  all_goals go_ret
  exact ⟨by first | rfl | simp, HF2.out⟩

set_option maxHeartbeats 2000000 in
set_option maxRecDepth 100000 in
theorem rright_7 (x : NV) (w : World) (hx : x.ok) (h0 : 1 ≤ x.num) (h1 : x.num ≤ 64) (h2 : 1 ≤ x.kind) (h3 : x.kind ≤ 3) (h4 : 0 ≤ x.links) (h5 : x.links ≤ 99) (hst : stemR x = true) (h7 : x.kind = 1) : Calls Try.prog 13 #[.agg x.cells.toArray] w fun e w' => e = .returned (.bool true) ∧ Fr0 w w' := by
  have c0 : decide (1 ≤ x.num) = true := decide_eq_true (by omega)
  have c1 : decide (x.num ≤ 64) = true := decide_eq_true (by omega)
  have c2 : decide (1 ≤ x.kind) = true := decide_eq_true (by omega)
  have c3 : decide (x.kind ≤ 3) = true := decide_eq_true (by omega)
  have c4 : decide (0 ≤ x.links) = true := decide_eq_true (by omega)
  have c5 : decide (x.links ≤ 99) = true := decide_eq_true (by omega)
  have c6 : (x.kind == 1) = true := by rw [beq_iff_eq]; omega
  have HSR : Hid (∀ W : World, Calls Try.prog 28 #[.agg (NV.stem x).toArray] W fun e w' => e = .returned (.bool true) ∧ Fr0 W w') := Lib.hid (fun W => by
    have := sright_calls x W hx
    rw [hst] at this
    exact this)
  have HIR : Hid ((Try.prog.info? 28).map (·.size) = some (NV.stem x).length) := Lib.hid (by rw [info_s, stem_length hx])
  have HN : Hid (Bk (w.alloc (.cells x.cells.toArray 30)) w.heap.size x.cells.toArray 30) := Lib.hid (Bk.new w _)
  have HH : Hid (Has (w.alloc (.cells x.cells.toArray 30)) w.heap.size x) := Lib.hid (Has.of hx HN.out)
  have HST := Lib.hid (cells_stem hx HN.out)
  have HF : Hid (Fr0 w (w.alloc (.cells x.cells.toArray 30))) := Lib.hid (Fr.alloc (Fr.refl _ _) _)
  have q0 := HH.out.num
  have q1 := HH.out.kind
  have q2 := HH.out.links
  have Q1 := Lib.hid HH.out.kind
  have Q4 := Lib.hid HH.out.cps
  clear hx hst h7
  generalize x.cells.toArray = X at *
  generalize NV.stem x = rs at *
  generalize x.num = xn at *
  generalize x.kind = xk at *
  generalize x.links = xl at *
  generalize x.size = xs at *
  generalize x.cps = xc at *
  go_enter Try.func13, Try.ntmps13
  go_wp2_with (first | ((with_reducible show wpList _ _ _ ({ dst := _, op := Op.load 28 _, type := _, pos := _, after := _, guard := _ } :: _) _ _); refine wpList_load_mid_g (by rfl) 28 _ rfl w.heap.size 3 rfl rs _ HST.out Try.underlying28 rfl HIR.out ?_) | (go_at_call 28; (with_reducible refine (HSR.out _).mono ?_); rintro e w2 ⟨rfl, hf2⟩; have HF2 := Lib.hid (HF.out.then0 hf2); have q5 : w2.cell? ⟨w.heap.size, 1, none⟩ = some (.int .i64 xk) := (hf2.cell _ 1 (by simp) (fun h => h)).trans Q1.out; have q6 : w2.cell? ⟨w.heap.size, 38, none⟩ = some (.int .i64 xc) := (hf2.cell _ 38 (by simp) (fun h => h)).trans Q4.out; clear hf2))
  all_goals go_ret
  exact ⟨by first | rfl | simp, HF2.out⟩

set_option maxHeartbeats 2000000 in
set_option maxRecDepth 100000 in
theorem rright_8 (x : NV) (w : World) (hx : x.ok) (h0 : 1 ≤ x.num) (h1 : x.num ≤ 64) (h2 : 1 ≤ x.kind) (h3 : x.kind ≤ 3) (h4 : 0 ≤ x.links) (h5 : x.links ≤ 99) (hst : stemR x = true) (h7 : x.kind ≠ 1) (h8 : x.cps = 2) : Calls Try.prog 13 #[.agg x.cells.toArray] w fun e w' => e = .returned (.bool true) ∧ Fr0 w w' := by
  have c0 : decide (1 ≤ x.num) = true := decide_eq_true (by omega)
  have c1 : decide (x.num ≤ 64) = true := decide_eq_true (by omega)
  have c2 : decide (1 ≤ x.kind) = true := decide_eq_true (by omega)
  have c3 : decide (x.kind ≤ 3) = true := decide_eq_true (by omega)
  have c4 : decide (0 ≤ x.links) = true := decide_eq_true (by omega)
  have c5 : decide (x.links ≤ 99) = true := decide_eq_true (by omega)
  have c6 : (x.kind == 1) = false := by rw [beq_eq_false_iff_ne]; omega
  have c7 : (x.cps == 2) = true := by rw [beq_iff_eq]; omega
  have HSR : Hid (∀ W : World, Calls Try.prog 28 #[.agg (NV.stem x).toArray] W fun e w' => e = .returned (.bool true) ∧ Fr0 W w') := Lib.hid (fun W => by
    have := sright_calls x W hx
    rw [hst] at this
    exact this)
  have HIR : Hid ((Try.prog.info? 28).map (·.size) = some (NV.stem x).length) := Lib.hid (by rw [info_s, stem_length hx])
  have HN : Hid (Bk (w.alloc (.cells x.cells.toArray 30)) w.heap.size x.cells.toArray 30) := Lib.hid (Bk.new w _)
  have HH : Hid (Has (w.alloc (.cells x.cells.toArray 30)) w.heap.size x) := Lib.hid (Has.of hx HN.out)
  have HST := Lib.hid (cells_stem hx HN.out)
  have HF : Hid (Fr0 w (w.alloc (.cells x.cells.toArray 30))) := Lib.hid (Fr.alloc (Fr.refl _ _) _)
  have q0 := HH.out.num
  have q1 := HH.out.kind
  have q2 := HH.out.links
  have Q1 := Lib.hid HH.out.kind
  have Q4 := Lib.hid HH.out.cps
  clear hx hst h7 h8
  generalize x.cells.toArray = X at *
  generalize NV.stem x = rs at *
  generalize x.num = xn at *
  generalize x.kind = xk at *
  generalize x.links = xl at *
  generalize x.size = xs at *
  generalize x.cps = xc at *
  go_enter Try.func13, Try.ntmps13
  go_wp2_with (first | ((with_reducible show wpList _ _ _ ({ dst := _, op := Op.load 28 _, type := _, pos := _, after := _, guard := _ } :: _) _ _); refine wpList_load_mid_g (by rfl) 28 _ rfl w.heap.size 3 rfl rs _ HST.out Try.underlying28 rfl HIR.out ?_) | (go_at_call 28; (with_reducible refine (HSR.out _).mono ?_); rintro e w2 ⟨rfl, hf2⟩; have HF2 := Lib.hid (HF.out.then0 hf2); have q5 : w2.cell? ⟨w.heap.size, 1, none⟩ = some (.int .i64 xk) := (hf2.cell _ 1 (by simp) (fun h => h)).trans Q1.out; have q6 : w2.cell? ⟨w.heap.size, 38, none⟩ = some (.int .i64 xc) := (hf2.cell _ 38 (by simp) (fun h => h)).trans Q4.out; clear hf2))
  all_goals go_ret
  exact ⟨by first | rfl | simp, HF2.out⟩

set_option maxHeartbeats 2000000 in
set_option maxRecDepth 100000 in
theorem rright_9 (x : NV) (w : World) (hx : x.ok) (h0 : 1 ≤ x.num) (h1 : x.num ≤ 64) (h2 : 1 ≤ x.kind) (h3 : x.kind ≤ 3) (h4 : 0 ≤ x.links) (h5 : x.links ≤ 99) (hst : stemR x = true) (h7 : x.kind ≠ 1) (h8 : x.cps ≠ 2) : Calls Try.prog 13 #[.agg x.cells.toArray] w fun e w' => e = .returned (.bool false) ∧ Fr0 w w' := by
  have c0 : decide (1 ≤ x.num) = true := decide_eq_true (by omega)
  have c1 : decide (x.num ≤ 64) = true := decide_eq_true (by omega)
  have c2 : decide (1 ≤ x.kind) = true := decide_eq_true (by omega)
  have c3 : decide (x.kind ≤ 3) = true := decide_eq_true (by omega)
  have c4 : decide (0 ≤ x.links) = true := decide_eq_true (by omega)
  have c5 : decide (x.links ≤ 99) = true := decide_eq_true (by omega)
  have c6 : (x.kind == 1) = false := by rw [beq_eq_false_iff_ne]; omega
  have c7 : (x.cps == 2) = false := by rw [beq_eq_false_iff_ne]; omega
  have HSR : Hid (∀ W : World, Calls Try.prog 28 #[.agg (NV.stem x).toArray] W fun e w' => e = .returned (.bool true) ∧ Fr0 W w') := Lib.hid (fun W => by
    have := sright_calls x W hx
    rw [hst] at this
    exact this)
  have HIR : Hid ((Try.prog.info? 28).map (·.size) = some (NV.stem x).length) := Lib.hid (by rw [info_s, stem_length hx])
  have HN : Hid (Bk (w.alloc (.cells x.cells.toArray 30)) w.heap.size x.cells.toArray 30) := Lib.hid (Bk.new w _)
  have HH : Hid (Has (w.alloc (.cells x.cells.toArray 30)) w.heap.size x) := Lib.hid (Has.of hx HN.out)
  have HST := Lib.hid (cells_stem hx HN.out)
  have HF : Hid (Fr0 w (w.alloc (.cells x.cells.toArray 30))) := Lib.hid (Fr.alloc (Fr.refl _ _) _)
  have q0 := HH.out.num
  have q1 := HH.out.kind
  have q2 := HH.out.links
  have Q1 := Lib.hid HH.out.kind
  have Q4 := Lib.hid HH.out.cps
  clear hx hst h7 h8
  generalize x.cells.toArray = X at *
  generalize NV.stem x = rs at *
  generalize x.num = xn at *
  generalize x.kind = xk at *
  generalize x.links = xl at *
  generalize x.size = xs at *
  generalize x.cps = xc at *
  go_enter Try.func13, Try.ntmps13
  go_wp2_with (first | ((with_reducible show wpList _ _ _ ({ dst := _, op := Op.load 28 _, type := _, pos := _, after := _, guard := _ } :: _) _ _); refine wpList_load_mid_g (by rfl) 28 _ rfl w.heap.size 3 rfl rs _ HST.out Try.underlying28 rfl HIR.out ?_) | (go_at_call 28; (with_reducible refine (HSR.out _).mono ?_); rintro e w2 ⟨rfl, hf2⟩; have HF2 := Lib.hid (HF.out.then0 hf2); have q5 : w2.cell? ⟨w.heap.size, 1, none⟩ = some (.int .i64 xk) := (hf2.cell _ 1 (by simp) (fun h => h)).trans Q1.out; have q6 : w2.cell? ⟨w.heap.size, 38, none⟩ = some (.int .i64 xc) := (hf2.cell _ 38 (by simp) (fun h => h)).trans Q4.out; clear hf2))
  all_goals go_ret
  exact ⟨by first | rfl | simp, HF2.out⟩

theorem nR_stem (x : NV) (h0 : 1 ≤ x.num) (h1 : x.num ≤ 64) (h2 : 1 ≤ x.kind) (h3 : x.kind ≤ 3) (h4 : 0 ≤ x.links) (h5 : x.links ≤ 99) : nR x = (stemR x && decide (x.kind = 1 ∨ x.cps = 2)) := by
  unfold nR stemR
  cases x.root.right with
  | false => simp
  | true =>
    rw [Bool.and_true, Bool.true_and, Bool.eq_iff_iff, Bool.and_eq_true, decide_eq_true_eq, decide_eq_true_eq, decide_eq_true_eq]
    omega
theorem nrright_calls (x : NV) (w : World) (hx : x.ok) : Calls Try.prog 13 #[.agg x.cells.toArray] w fun e w' => e = .returned (.bool (nR x)) ∧ Fr0 w w' := by
  by_cases h0 : 1 ≤ x.num
  rotate_left
  · rw [show nR x = false by rw [nR, decide_eq_false (by omega), Bool.false_and]]; exact rright_0 x w hx h0
  by_cases h1 : x.num ≤ 64
  rotate_left
  · rw [show nR x = false by rw [nR, decide_eq_false (by omega), Bool.false_and]]; exact rright_1 x w hx h0 h1
  by_cases h2 : 1 ≤ x.kind
  rotate_left
  · rw [show nR x = false by rw [nR, decide_eq_false (by omega), Bool.false_and]]; exact rright_2 x w hx h0 h1 h2
  by_cases h3 : x.kind ≤ 3
  rotate_left
  · rw [show nR x = false by rw [nR, decide_eq_false (by omega), Bool.false_and]]; exact rright_3 x w hx h0 h1 h2 h3
  by_cases h4 : 0 ≤ x.links
  rotate_left
  · rw [show nR x = false by rw [nR, decide_eq_false (by omega), Bool.false_and]]; exact rright_4 x w hx h0 h1 h2 h3 h4
  by_cases h5 : x.links ≤ 99
  rotate_left
  · rw [show nR x = false by rw [nR, decide_eq_false (by omega), Bool.false_and]]; exact rright_5 x w hx h0 h1 h2 h3 h4 h5
  rw [nR_stem x h0 h1 h2 h3 h4 h5]
  cases hst : stemR x with
  | false => rw [Bool.false_and]; exact rright_6 x w hx h0 h1 h2 h3 h4 h5 hst
  | true =>
    rw [Bool.true_and]
    by_cases h7 : x.kind = 1
    · rw [decide_eq_true (.inl h7)]; exact rright_7 x w hx h0 h1 h2 h3 h4 h5 hst h7
    · by_cases h8 : x.cps = 2
      · rw [decide_eq_true (.inr h8)]; exact rright_8 x w hx h0 h1 h2 h3 h4 h5 hst h7 h8
      · rw [decide_eq_false (by omega)]; exact rright_9 x w hx h0 h1 h2 h3 h4 h5 hst h7 h8

end Go.Proofs.Ytfjkbabeceaelaa.InoRRight
