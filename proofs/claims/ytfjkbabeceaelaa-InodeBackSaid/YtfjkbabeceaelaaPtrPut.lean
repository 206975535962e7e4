/- A pointer laid at a place: the walks of ptr.cut and ptr.Put. -/
import Derived.Test.YtfjkbabeceaelaaPtrAsk
import Derived.Test.YtfjkbabeceaelaaWordTake
import Derived.Test.YtfjkbabeceaelaaShaStep
import Derived.Test.YtfjkbabeceaelaaPtrOf
set_option linter.unusedVariables false
set_option linter.unusedSimpArgs false
namespace Go.Proofs.Ytfjkbabeceaelaa.PtrPut
open Go Go.RowKit Go.Proofs.Ytfjkbabeceaelaa.K Go.Proofs.Ytfjkbabeceaelaa.EqKit Go.Proofs.Ytfjkbabeceaelaa.PtrKit Go.Proofs.Ytfjkbabeceaelaa.ArrKit Go.Proofs.Ytfjkbabeceaelaa.HeldKit Go.Proofs.Ytfjkbabeceaelaa.PtrAsk Go.Proofs.Ytfjkbabeceaelaa.ShaStep Go.Proofs.Ytfjkbabeceaelaa.PtrOf Go.Proofs.Ytfjkbabeceaelaa.WordPut Go.Proofs.Ytfjkbabeceaelaa.WordTake

set_option maxHeartbeats 2000000 in
set_option maxRecDepth 100000 in
theorem pcut_neg (a : Option Addr) (n c : Nat) (p : Int) (w : World) (hn : n ≤ 140737488351232) (h : p < 0) :
    Calls Try.prog 32 #[.slice a n c, .int .i64 p] w fun e w' => e = .returned (.tuple #[.slice none 0 0, .bool false]) ∧ w = w' := by
  have c0 : decide (p < 0) = true := decide_eq_true h
  go_enter Try.func32, Try.ntmps32
  go_wp2
  go_ret2
  exact ⟨rfl, rfl⟩

set_option maxHeartbeats 2000000 in
set_option maxRecDepth 100000 in
theorem pcut_far (a : Option Addr) (n c : Nat) (p : Int) (w : World) (hn : n ≤ 140737488351232) (h : 0 ≤ p) (h1 : (n : Int) < p) :
    Calls Try.prog 32 #[.slice a n c, .int .i64 p] w fun e w' => e = .returned (.tuple #[.slice none 0 0, .bool false]) ∧ w = w' := by
  have c0 : decide (p < 0) = false := decide_eq_false (by omega)
  have c1 : decide ((n : Int) < p) = true := decide_eq_true h1
  go_enter Try.func32, Try.ntmps32
  go_wp2
  go_ret2
  exact ⟨rfl, rfl⟩

set_option maxHeartbeats 2000000 in
set_option maxRecDepth 100000 in
theorem pcut_big (a : Option Addr) (n c : Nat) (p : Int) (w : World) (hn : n ≤ 140737488351232) (h : 0 ≤ p) (h1 : p ≤ n) (h2 : (n : Int) - p < 40) :
    Calls Try.prog 32 #[.slice a n c, .int .i64 p] w fun e w' => e = .returned (.tuple #[.slice none 0 0, .bool false]) ∧ w = w' := by
  have c0 : decide (p < 0) = false := decide_eq_false (by omega)
  have c1 : decide ((n : Int) < p) = false := decide_eq_false (by omega)
  have c2 : decide ((n : Int) - p < 40) = true := decide_eq_true h2
  go_enter Try.func32, Try.ntmps32
  go_wp2
  go_ret2
  exact ⟨rfl, rfl⟩

theorem pcut_no (a : Option Addr) (n c : Nat) (p : Int) (w : World) (hn : n ≤ 140737488351232) (h : NoRoom n p 40) :
    Calls Try.prog 32 #[.slice a n c, .int .i64 p] w fun e w' => e = .returned (.tuple #[.slice none 0 0, .bool false]) ∧ w = w' := by
  by_cases h1 : p < 0
  · exact pcut_neg a n c p w hn h1
  by_cases h2 : (n : Int) < p
  · exact pcut_far a n c p w hn (by omega) h2
  · exact pcut_big a n c p w hn (by omega) (by omega) (by rcases h with h | h | h <;> omega)
set_option maxHeartbeats 2000000 in
set_option maxRecDepth 100000 in
theorem pcut_ok (b o n c p : Nat) (w : World) (hc : n ≤ c) (hcm : c ≤ 9223372036854775807) (hn : n ≤ 140737488351232) (h1 : p + 40 ≤ n) :
    Calls Try.prog 32 #[.slice (some ⟨b, o, none⟩) n c, .int .i64 p] w fun e w' => e = .returned (.tuple #[.slice (some ⟨b, o + p, none⟩) 40 (c - p), .bool true]) ∧ w = w' := by
  have c0 : decide ((p : Int) < 0) = false := decide_eq_false (by omega)
  have c1 : decide ((n : Int) < p) = false := decide_eq_false (by omega)
  have c2 : decide ((n : Int) - p < 40) = false := decide_eq_false (by omega)
  have x1 : (0 : Int) ≤ p := by omega
  have x2 : (p : Int) ≤ p + 40 := by omega
  have x3 : (p : Int) + 40 ≤ c := by omega
  have hpc : p < c := by omega
  go_enter Try.func32, Try.ntmps32
  go_wp2
  go_ret2
  exact ⟨ret_cut rfl (by omega) rfl rfl, rfl⟩
/-- how a sector's number stands in 4 bytes -/
def enc (n : Int) : Nat := if n = -1 then 4294967295 else n.toNat
/-- the 40 bytes of a pointer -/
def PB (a b : Int) (s : List UInt8) : List UInt8 := le (enc a) 4 ++ (le (enc b) 4 ++ s)
theorem PB_length (a b : Int) (s : List UInt8) (hs : s.length = 32) : (PB a b s).length = 40 := by simp [PB, hs]

theorem wpList_copy_run {P : Program} (w : World) {ops : Array Oper} {rest : List Oper} {o : Oper} {a : Act} {Q : Exit → Act → World → Prop} (hgd : o.guard = none) (d s : Operand) (t t' : TypeId)
    (ho : o.op = .call { callee := .builtin .copy, args := #[d, s], argTypes := #[t, t'] }) (v u : Value) (hd : a.eval d = v) (hs : a.eval s = u) {v' : Value} {w' : World}
    (hr : (Builtin.copy_ #[t, t'] o.type #[v, u]).run P w = .ok v' w') (h : wpList P ops Q rest (a.put o.dst v') w') : wpList P ops Q (o :: rest) a w :=
  wpList_plain hgd fun _ hK => by
    unfold Oper.wp execOp
    simp only [ho, resolve, invoke, builtin, Sem.run_bind, Sem.run_pure, Result.andThen_ok, List.map_toArray, List.map_cons, List.map_nil, hd, hs, hr]
    exact hK _ _ h
theorem put_room (A0 : Option Addr) (n c : Nat) (p : Int) (Y : Array Value) (w : World) (hn : n ≤ 140737488351232) (h : NoRoom n p 40) :
    Calls Try.prog 27 #[.slice A0 n c, .int .i64 p, .agg Y] w fun e w' => e = .returned (.int .i64 1) ∧ Fr0 w w' := by
  have HR := Lib.hid h
  have HF : Hid (Fr0 w (w.alloc (.cells Y 26))) := Lib.hid (Fr.alloc (Fr.refl _ _) _)
  clear h
  go_enter Try.func27, Try.ntmps27
  go_wp2_with (go_at_call 32; (with_reducible refine (pcut_no A0 n c p _ hn HR.out).mono ?_); rintro e w1 ⟨rfl, rfl⟩)
  go_ret
  exact ⟨rfl, HF.out⟩
set_option maxHeartbeats 2000000 in
set_option maxRecDepth 100000 in
theorem put_wrong (g o n c p : Nat) (a b : Int) (s : List UInt8) (w : World) (hs : s.length = 32) (ha : (Lit.int .i64 a).wf = true) (hb : (Lit.int .i64 b).wf = true) (hc : n ≤ c) (hcm : c ≤ 9223372036854775807) (hn : n ≤ 140737488351232) (hr : p + 40 ≤ n) (k : rightB a b s = false) :
    Calls Try.prog 27 #[.slice (some ⟨g, o, none⟩) n c, .int .i64 p, .agg (PC a b s).toArray] w fun e w' => e = .returned (.int .i64 1) ∧ Fr0 w w' := by
  have HRI : Hid (∀ W : World, Calls Try.prog 31 #[.agg (PC a b s).toArray] W fun e w' => e = .returned (.bool false) ∧ Fr0 W w') := Lib.hid (fun W => by
    have := right_calls a b s W hs ha hb
    rw [k] at this
    exact this)
  have HIP : Hid ((Try.prog.info? 26).map (·.size) = some (PC a b s).toArray.size) := Lib.hid (by rw [info_p, List.size_toArray, PC_length, hs])
  generalize (PC a b s).toArray = Y at *
  have HF : Hid (Fr0 w (w.alloc (.cells Y 26))) := Lib.hid (Fr.alloc (Fr.refl _ _) _)
  have HY : Hid (Bk (w.alloc (.cells Y 26)) w.heap.size Y 26) := Lib.hid (Bk.new w _)
  clear hs ha hb k
  go_enter Try.func27, Try.ntmps27
  go_wp2_with (first | (go_at_call 32; (with_reducible refine (pcut_ok g o n c p _ hc hcm hn hr).mono ?_); rintro e w1 ⟨rfl, rfl⟩) | (refine wpList_load_row_g (by rfl) 26 _ rfl w.heap.size rfl 26 Y (0, 0) _ HY.out Try.underlying26 rfl HIP.out ?_) | (refine wpList_load_row rfl 26 _ rfl w.heap.size rfl 26 Y (0, 0) _ HY.out Try.underlying26 rfl HIP.out ?_) | (go_at_call 31; (with_reducible refine (HRI.out _).mono ?_); rintro e w2 ⟨rfl, hf2⟩; have HF2 := Lib.hid (HF.out.then0 hf2); clear hf2))
  go_ret
  exact ⟨rfl, HF2.out⟩

set_option maxHeartbeats 2000000 in
set_option maxRecDepth 100000 in
theorem put_nn (g o n c p : Nat) (s : List UInt8) (cs : Array Value) (t : TypeId) (w : World) (hs : s.length = 32) (hg : Bk w g cs t) (hcs : o + n ≤ cs.size) (hc : n ≤ c) (hcm : c ≤ 9223372036854775807) (hn : n ≤ 140737488351232) (hr : p + 40 ≤ n) (k : rightB (-1) (-1) s = true) :
    Calls Try.prog 27 #[.slice (some ⟨g, o, none⟩) n c, .int .i64 p, .agg (PC (-1) (-1) s).toArray] w fun e w' => e = .returned (.int .i64 0) ∧ Bk w' g (lay (lay (lay cs (o + p) ((le 4294967295 4).map B)) (o + p + 4) ((le 4294967295 4).map B)) (o + p + 8) (s.map B)) t ∧ Fr (· = g) w w' := by
  have HRI : Hid (∀ W : World, Calls Try.prog 31 #[.agg (PC (-1) (-1) s).toArray] W fun e w' => e = .returned (.bool true) ∧ Fr0 W w') := Lib.hid (fun W => by
    have := right_calls (-1) (-1) s W hs (by decide) (by decide)
    rw [k] at this
    exact this)
  have HIP : Hid ((Try.prog.info? 26).map (·.size) = some (PC (-1) (-1) s).toArray.size) := Lib.hid (by rw [info_p, List.size_toArray, PC_length, hs])
  have H0 : Hid ((PC (-1) (-1) s).toArray[0]? = some (.int .i64 (-1))) := Lib.hid rfl
  have H1 : Hid ((PC (-1) (-1) s).toArray[1]? = some (.int .i64 (-1))) := Lib.hid rfl
  have HSC : Hid (∀ j v, (s.map B)[j]? = some v → (PC (-1) (-1) s).toArray[2 + j]? = some v) := Lib.hid (fun j v h => by rw [List.getElem?_toArray, PC, Nat.add_comm 2 j]; exact h)
  have HSL := Lib.hid hs
  have HPW : Hid (∀ (W : World) (cs' : Array Value), Bk W g cs' t → cs'.size = cs.size → Calls Try.prog 26 #[.slice (some ⟨g, o + p, none⟩) 40 (c - p), .int .i64 0, .int .i64 4, .int .i64 4294967295] W (PutPost g cs' t (o + p) (le 4294967295 4) W 0)) := Lib.hid (fun W cs' h1 h2 => put_ok g (o + p) 40 (c - p) 0 4 4294967295 cs' t W h1 (by omega) (by omega) (by omega) (by omega) (by omega) (by omega) (by refine ⟨by omega, by omega, by omega, fun _ => ?_⟩; (first | decide | (show ((4294967295 : Nat) : Int) / 2 ^ 32 ≤ 0; omega))))
  have HPV : Hid (∀ (W : World) (cs' : Array Value), Bk W g cs' t → cs'.size = cs.size → Calls Try.prog 26 #[.slice (some ⟨g, o + p, none⟩) 40 (c - p), .int .i64 4, .int .i64 4, .int .i64 4294967295] W (PutPost g cs' t (o + p + 4) (le 4294967295 4) W 0)) := Lib.hid (fun W cs' h1 h2 => put_ok g (o + p) 40 (c - p) 4 4 4294967295 cs' t W h1 (by omega) (by omega) (by omega) (by omega) (by omega) (by omega) (by refine ⟨by omega, by omega, by omega, fun _ => ?_⟩; (first | decide | (show ((4294967295 : Nat) : Int) / 2 ^ 32 ≤ 0; omega))))
  generalize (PC (-1) (-1) s).toArray = Y at *
  have HF : Hid (Fr0 w (w.alloc (.cells Y 26))) := Lib.hid (Fr.alloc (Fr.refl _ _) _)
  have HY : Hid (Bk (w.alloc (.cells Y 26)) w.heap.size Y 26) := Lib.hid (Bk.new w _)
  have HG : Hid (Bk (w.alloc (.cells Y 26)) g cs t) := Lib.hid (Bk.alloc hg _)
  have HGS := Lib.hid hcs
  have hg0 := Lib.hid hg
  clear hs hg k hcs
  go_enter Try.func27, Try.ntmps27
  go_wp2_with (first | (go_at_call 32; (with_reducible refine (pcut_ok g o n c p _ hc hcm hn hr).mono ?_); rintro e w1 ⟨rfl, rfl⟩) | (refine wpList_load_row_g (by rfl) 26 _ rfl w.heap.size rfl 26 Y (0, 0) _ HY.out Try.underlying26 rfl HIP.out ?_) | (go_at_call 31; (with_reducible refine (HRI.out _).mono ?_); rintro e w2 ⟨rfl, hf2⟩; have HF2 := Lib.hid (HF.out.then0 hf2); have HY2 := Lib.hid (hf2.keep HY.out (fun h => h)); have HG2 := Lib.hid (hf2.keep HG.out (fun h => h)); have q0 := (Bk.cell HY2.out 0).trans H0.out; have q1 := (Bk.cell HY2.out 1).trans H1.out; clear hf2))
  have hne := Bk.lt hg0.out
  have hi0 : ∀ W, (Instr.index 68 (.agg #[.int .i64 (-1), .int .i64 (-1)]) (.int .i64 0)).run Try.prog W = .ok (.int .i64 (-1)) W := fun W => index_arr (k := 0) W Try.underlying68 (e := 3) (by kernel_rfl) (by kernel_rfl) (by omega) rfl
  have hi1 : ∀ W, (Instr.index 68 (.agg #[.int .i64 (-1), .int .i64 (-1)]) (.int .i64 1)).run Try.prog W = .ok (.int .i64 (-1)) W := fun W => index_arr (k := 1) W Try.underlying68 (e := 3) (by kernel_rfl) (by kernel_rfl) (by omega) rfl
  refine wp_loop_rounds 3 ?_
  rw [rounds_succ]
  go_wp2_with (first | (go_at_call 26; (with_reducible refine (HPW.out _ cs HG2.out rfl).mono ?_); rintro e w3 ⟨rfl, hb3, hf3⟩; have HB3 := Lib.hid hb3; have HF3 := Lib.hid ((HF2.out.weaken (fun _ _ h => h.elim)).trans hf3); have HY3 := Lib.hid (hf3.keep HY2.out (Nat.ne_of_gt hne)); clear hf3 hb3))
  rw [rounds_succ]
  go_wp2_with (first | (go_at_call 26; (with_reducible refine (HPV.out _ _ HB3.out (by simp)).mono ?_); rintro e w4 ⟨rfl, hb4, hf4⟩; have HB4 := Lib.hid hb4; have HF4 := Lib.hid (HF3.out.trans hf4); have HY4 := Lib.hid (hf4.keep HY3.out (Nat.ne_of_gt hne)); clear hf4 hb4))
  rw [rounds_succ]
  clear hi0 hi1 q0 q1
  have hc8 : c - p ≠ 8 := by omega
  have hcp : (8 : Int) ≤ ((c - p : Nat) : Int) := by omega
  go_wp2_with fail
  go_still_tail 4, (by kernel_rfl)
  change wpList _ _ _ _ _ w4.drew
  have HC : Hid (∀ ty, (Builtin.copy_ #[47, 47] ty #[.slice (some ⟨g, o + p + 8, none⟩) 32 (c - p - 8), .slice (some ⟨w.heap.size, 2, none⟩) 32 32]).run Try.prog w4.drew = .ok (goInt (s.map B).length) (w4.drew.setCells g (o + p + 8) (s.map B))) := Lib.hid fun ty => by
    have hbg : Bk w4.drew g _ t := Bk.drew HB4.out
    have hby : Bk w4.drew w.heap.size Y 26 := Bk.drew HY4.out
    have hz : (lay (lay cs (o + p) ((le 4294967295 4).map B)) (o + p + 4) ((le 4294967295 4).map B)).size = cs.size := by simp
    have hgs := HGS.out
    have hl : (s.map B).length = 32 := by rw [List.length_map, HSL.out]
    exact run_copy_cells w4.drew 47 47 ty 5 g (o + p + 8) 32 (c - p - 8) ⟨w.heap.size, 2, none⟩ 32 32 (s.map B) Try.underlying47 (by kernel_rfl) (by rw [hl]; rfl) (fun j v hj => by rw [add_form, hby.cell]; exact HSC.out j v hj) (fun j hj => by rw [hbg.cell, Array.getElem?_eq_getElem (by rw [hz]; omega)]; rfl) (fun j hj => hbg.free _) (by intro v hv; obtain ⟨x, _, rfl⟩ := List.mem_map.1 hv; rfl)
  have HB5 : Hid (Bk (w4.drew.setCells g (o + p + 8) (s.map B)) g (lay (lay (lay cs (o + p) ((le 4294967295 4).map B)) (o + p + 4) ((le 4294967295 4).map B)) (o + p + 8) (s.map B)) t) := Lib.hid (sets_bk _ _ _ _ (Bk.drew HB4.out))
  have HF5 : Hid (Fr (· = g) w (w4.drew.setCells g (o + p + 8) (s.map B))) := Lib.hid (sets_fr _ _ _ HF4.out.drew)
  generalize hw5 : w4.drew.setCells g (o + p + 8) (s.map B) = w5 at *
  have HW5 := Lib.hid hw5
  clear hw5
  go_wp2_with (refine wpList_copy_run _ rfl _ _ 47 47 rfl _ _ rfl rfl (HC.out _) ?_)
  go_ret
  exact ⟨rfl, HB5.out, HF5.out⟩

set_option maxHeartbeats 2000000 in
set_option maxRecDepth 100000 in
theorem put_sn (g o n c p : Nat) (an : Nat) (han : an ≤ 4095) (s : List UInt8) (cs : Array Value) (t : TypeId) (w : World) (hs : s.length = 32) (hg : Bk w g cs t) (hcs : o + n ≤ cs.size) (hc : n ≤ c) (hcm : c ≤ 9223372036854775807) (hn : n ≤ 140737488351232) (hr : p + 40 ≤ n) (k : rightB ((an : Int)) (-1) s = true) :
    Calls Try.prog 27 #[.slice (some ⟨g, o, none⟩) n c, .int .i64 p, .agg (PC ((an : Int)) (-1) s).toArray] w fun e w' => e = .returned (.int .i64 0) ∧ Bk w' g (lay (lay (lay cs (o + p) ((le an 4).map B)) (o + p + 4) ((le 4294967295 4).map B)) (o + p + 8) (s.map B)) t ∧ Fr (· = g) w w' := by
  have can : ((an : Int) == -1) = false := by rw [beq_eq_false_iff_ne]; omega
  have HRI : Hid (∀ W : World, Calls Try.prog 31 #[.agg (PC ((an : Int)) (-1) s).toArray] W fun e w' => e = .returned (.bool true) ∧ Fr0 W w') := Lib.hid (fun W => by
    have := right_calls ((an : Int)) (-1) s W hs (by simp [Lit.wf, IntKind.min, IntKind.max, IntKind.signed, IntKind.bits]; omega) (by decide)
    rw [k] at this
    exact this)
  have HIP : Hid ((Try.prog.info? 26).map (·.size) = some (PC ((an : Int)) (-1) s).toArray.size) := Lib.hid (by rw [info_p, List.size_toArray, PC_length, hs])
  have H0 : Hid ((PC ((an : Int)) (-1) s).toArray[0]? = some (.int .i64 ((an : Int)))) := Lib.hid rfl
  have H1 : Hid ((PC ((an : Int)) (-1) s).toArray[1]? = some (.int .i64 (-1))) := Lib.hid rfl
  have HSC : Hid (∀ j v, (s.map B)[j]? = some v → (PC ((an : Int)) (-1) s).toArray[2 + j]? = some v) := Lib.hid (fun j v h => by rw [List.getElem?_toArray, PC, Nat.add_comm 2 j]; exact h)
  have HSL := Lib.hid hs
  have HPW : Hid (∀ (W : World) (cs' : Array Value), Bk W g cs' t → cs'.size = cs.size → Calls Try.prog 26 #[.slice (some ⟨g, o + p, none⟩) 40 (c - p), .int .i64 0, .int .i64 4, .int .i64 (an : Int)] W (PutPost g cs' t (o + p) (le an 4) W 0)) := Lib.hid (fun W cs' h1 h2 => put_ok g (o + p) 40 (c - p) 0 4 an cs' t W h1 (by omega) (by omega) (by omega) (by omega) (by omega) (by omega) (by refine ⟨by omega, by omega, by omega, fun _ => ?_⟩; (first | decide | (show ((an : Nat) : Int) / 2 ^ 32 ≤ 0; omega))))
  have HPV : Hid (∀ (W : World) (cs' : Array Value), Bk W g cs' t → cs'.size = cs.size → Calls Try.prog 26 #[.slice (some ⟨g, o + p, none⟩) 40 (c - p), .int .i64 4, .int .i64 4, .int .i64 4294967295] W (PutPost g cs' t (o + p + 4) (le 4294967295 4) W 0)) := Lib.hid (fun W cs' h1 h2 => put_ok g (o + p) 40 (c - p) 4 4 4294967295 cs' t W h1 (by omega) (by omega) (by omega) (by omega) (by omega) (by omega) (by refine ⟨by omega, by omega, by omega, fun _ => ?_⟩; (first | decide | (show ((4294967295 : Nat) : Int) / 2 ^ 32 ≤ 0; omega))))
  generalize (PC ((an : Int)) (-1) s).toArray = Y at *
  have HF : Hid (Fr0 w (w.alloc (.cells Y 26))) := Lib.hid (Fr.alloc (Fr.refl _ _) _)
  have HY : Hid (Bk (w.alloc (.cells Y 26)) w.heap.size Y 26) := Lib.hid (Bk.new w _)
  have HG : Hid (Bk (w.alloc (.cells Y 26)) g cs t) := Lib.hid (Bk.alloc hg _)
  have HGS := Lib.hid hcs
  have hg0 := Lib.hid hg
  clear hs hg k hcs
  go_enter Try.func27, Try.ntmps27
  go_wp2_with (first | (go_at_call 32; (with_reducible refine (pcut_ok g o n c p _ hc hcm hn hr).mono ?_); rintro e w1 ⟨rfl, rfl⟩) | (refine wpList_load_row_g (by rfl) 26 _ rfl w.heap.size rfl 26 Y (0, 0) _ HY.out Try.underlying26 rfl HIP.out ?_) | (go_at_call 31; (with_reducible refine (HRI.out _).mono ?_); rintro e w2 ⟨rfl, hf2⟩; have HF2 := Lib.hid (HF.out.then0 hf2); have HY2 := Lib.hid (hf2.keep HY.out (fun h => h)); have HG2 := Lib.hid (hf2.keep HG.out (fun h => h)); have q0 := (Bk.cell HY2.out 0).trans H0.out; have q1 := (Bk.cell HY2.out 1).trans H1.out; clear hf2))
  have hne := Bk.lt hg0.out
  have hi0 : ∀ W, (Instr.index 68 (.agg #[.int .i64 ((an : Int)), .int .i64 (-1)]) (.int .i64 0)).run Try.prog W = .ok (.int .i64 ((an : Int))) W := fun W => index_arr (k := 0) W Try.underlying68 (e := 3) (by kernel_rfl) (by kernel_rfl) (by omega) rfl
  have hi1 : ∀ W, (Instr.index 68 (.agg #[.int .i64 ((an : Int)), .int .i64 (-1)]) (.int .i64 1)).run Try.prog W = .ok (.int .i64 (-1)) W := fun W => index_arr (k := 1) W Try.underlying68 (e := 3) (by kernel_rfl) (by kernel_rfl) (by omega) rfl
  refine wp_loop_rounds 3 ?_
  rw [rounds_succ]
  go_wp2_with (first | (go_at_call 26; (with_reducible refine (HPW.out _ cs HG2.out rfl).mono ?_); rintro e w3 ⟨rfl, hb3, hf3⟩; have HB3 := Lib.hid hb3; have HF3 := Lib.hid ((HF2.out.weaken (fun _ _ h => h.elim)).trans hf3); have HY3 := Lib.hid (hf3.keep HY2.out (Nat.ne_of_gt hne)); clear hf3 hb3))
  rw [rounds_succ]
  go_wp2_with (first | (go_at_call 26; (with_reducible refine (HPV.out _ _ HB3.out (by simp)).mono ?_); rintro e w4 ⟨rfl, hb4, hf4⟩; have HB4 := Lib.hid hb4; have HF4 := Lib.hid (HF3.out.trans hf4); have HY4 := Lib.hid (hf4.keep HY3.out (Nat.ne_of_gt hne)); clear hf4 hb4))
  rw [rounds_succ]
  clear hi0 hi1 q0 q1
  have hc8 : c - p ≠ 8 := by omega
  have hcp : (8 : Int) ≤ ((c - p : Nat) : Int) := by omega
  go_wp2_with fail
  go_still_tail 4, (by kernel_rfl)
  change wpList _ _ _ _ _ w4.drew
  have HC : Hid (∀ ty, (Builtin.copy_ #[47, 47] ty #[.slice (some ⟨g, o + p + 8, none⟩) 32 (c - p - 8), .slice (some ⟨w.heap.size, 2, none⟩) 32 32]).run Try.prog w4.drew = .ok (goInt (s.map B).length) (w4.drew.setCells g (o + p + 8) (s.map B))) := Lib.hid fun ty => by
    have hbg : Bk w4.drew g _ t := Bk.drew HB4.out
    have hby : Bk w4.drew w.heap.size Y 26 := Bk.drew HY4.out
    have hz : (lay (lay cs (o + p) ((le an 4).map B)) (o + p + 4) ((le 4294967295 4).map B)).size = cs.size := by simp
    have hgs := HGS.out
    have hl : (s.map B).length = 32 := by rw [List.length_map, HSL.out]
    exact run_copy_cells w4.drew 47 47 ty 5 g (o + p + 8) 32 (c - p - 8) ⟨w.heap.size, 2, none⟩ 32 32 (s.map B) Try.underlying47 (by kernel_rfl) (by rw [hl]; rfl) (fun j v hj => by rw [add_form, hby.cell]; exact HSC.out j v hj) (fun j hj => by rw [hbg.cell, Array.getElem?_eq_getElem (by rw [hz]; omega)]; rfl) (fun j hj => hbg.free _) (by intro v hv; obtain ⟨x, _, rfl⟩ := List.mem_map.1 hv; rfl)
  have HB5 : Hid (Bk (w4.drew.setCells g (o + p + 8) (s.map B)) g (lay (lay (lay cs (o + p) ((le an 4).map B)) (o + p + 4) ((le 4294967295 4).map B)) (o + p + 8) (s.map B)) t) := Lib.hid (sets_bk _ _ _ _ (Bk.drew HB4.out))
  have HF5 : Hid (Fr (· = g) w (w4.drew.setCells g (o + p + 8) (s.map B))) := Lib.hid (sets_fr _ _ _ HF4.out.drew)
  generalize hw5 : w4.drew.setCells g (o + p + 8) (s.map B) = w5 at *
  have HW5 := Lib.hid hw5
  clear hw5
  go_wp2_with (refine wpList_copy_run _ rfl _ _ 47 47 rfl _ _ rfl rfl (HC.out _) ?_)
  go_ret
  exact ⟨rfl, HB5.out, HF5.out⟩

set_option maxHeartbeats 2000000 in
set_option maxRecDepth 100000 in
theorem put_ss (g o n c p : Nat) (an : Nat) (han : an ≤ 4095) (bn : Nat) (hbn : bn ≤ 4095) (s : List UInt8) (cs : Array Value) (t : TypeId) (w : World) (hs : s.length = 32) (hg : Bk w g cs t) (hcs : o + n ≤ cs.size) (hc : n ≤ c) (hcm : c ≤ 9223372036854775807) (hn : n ≤ 140737488351232) (hr : p + 40 ≤ n) (k : rightB ((an : Int)) ((bn : Int)) s = true) :
    Calls Try.prog 27 #[.slice (some ⟨g, o, none⟩) n c, .int .i64 p, .agg (PC ((an : Int)) ((bn : Int)) s).toArray] w fun e w' => e = .returned (.int .i64 0) ∧ Bk w' g (lay (lay (lay cs (o + p) ((le an 4).map B)) (o + p + 4) ((le bn 4).map B)) (o + p + 8) (s.map B)) t ∧ Fr (· = g) w w' := by
  have can : ((an : Int) == -1) = false := by rw [beq_eq_false_iff_ne]; omega
  have cbn : ((bn : Int) == -1) = false := by rw [beq_eq_false_iff_ne]; omega
  have HRI : Hid (∀ W : World, Calls Try.prog 31 #[.agg (PC ((an : Int)) ((bn : Int)) s).toArray] W fun e w' => e = .returned (.bool true) ∧ Fr0 W w') := Lib.hid (fun W => by
    have := right_calls ((an : Int)) ((bn : Int)) s W hs (by simp [Lit.wf, IntKind.min, IntKind.max, IntKind.signed, IntKind.bits]; omega) (by simp [Lit.wf, IntKind.min, IntKind.max, IntKind.signed, IntKind.bits]; omega)
    rw [k] at this
    exact this)
  have HIP : Hid ((Try.prog.info? 26).map (·.size) = some (PC ((an : Int)) ((bn : Int)) s).toArray.size) := Lib.hid (by rw [info_p, List.size_toArray, PC_length, hs])
  have H0 : Hid ((PC ((an : Int)) ((bn : Int)) s).toArray[0]? = some (.int .i64 ((an : Int)))) := Lib.hid rfl
  have H1 : Hid ((PC ((an : Int)) ((bn : Int)) s).toArray[1]? = some (.int .i64 ((bn : Int)))) := Lib.hid rfl
  have HSC : Hid (∀ j v, (s.map B)[j]? = some v → (PC ((an : Int)) ((bn : Int)) s).toArray[2 + j]? = some v) := Lib.hid (fun j v h => by rw [List.getElem?_toArray, PC, Nat.add_comm 2 j]; exact h)
  have HSL := Lib.hid hs
  have HPW : Hid (∀ (W : World) (cs' : Array Value), Bk W g cs' t → cs'.size = cs.size → Calls Try.prog 26 #[.slice (some ⟨g, o + p, none⟩) 40 (c - p), .int .i64 0, .int .i64 4, .int .i64 (an : Int)] W (PutPost g cs' t (o + p) (le an 4) W 0)) := Lib.hid (fun W cs' h1 h2 => put_ok g (o + p) 40 (c - p) 0 4 an cs' t W h1 (by omega) (by omega) (by omega) (by omega) (by omega) (by omega) (by refine ⟨by omega, by omega, by omega, fun _ => ?_⟩; (first | decide | (show ((an : Nat) : Int) / 2 ^ 32 ≤ 0; omega))))
  have HPV : Hid (∀ (W : World) (cs' : Array Value), Bk W g cs' t → cs'.size = cs.size → Calls Try.prog 26 #[.slice (some ⟨g, o + p, none⟩) 40 (c - p), .int .i64 4, .int .i64 4, .int .i64 (bn : Int)] W (PutPost g cs' t (o + p + 4) (le bn 4) W 0)) := Lib.hid (fun W cs' h1 h2 => put_ok g (o + p) 40 (c - p) 4 4 bn cs' t W h1 (by omega) (by omega) (by omega) (by omega) (by omega) (by omega) (by refine ⟨by omega, by omega, by omega, fun _ => ?_⟩; (first | decide | (show ((bn : Nat) : Int) / 2 ^ 32 ≤ 0; omega))))
  generalize (PC ((an : Int)) ((bn : Int)) s).toArray = Y at *
  have HF : Hid (Fr0 w (w.alloc (.cells Y 26))) := Lib.hid (Fr.alloc (Fr.refl _ _) _)
  have HY : Hid (Bk (w.alloc (.cells Y 26)) w.heap.size Y 26) := Lib.hid (Bk.new w _)
  have HG : Hid (Bk (w.alloc (.cells Y 26)) g cs t) := Lib.hid (Bk.alloc hg _)
  have HGS := Lib.hid hcs
  have hg0 := Lib.hid hg
  clear hs hg k hcs
  go_enter Try.func27, Try.ntmps27
  go_wp2_with (first | (go_at_call 32; (with_reducible refine (pcut_ok g o n c p _ hc hcm hn hr).mono ?_); rintro e w1 ⟨rfl, rfl⟩) | (refine wpList_load_row_g (by rfl) 26 _ rfl w.heap.size rfl 26 Y (0, 0) _ HY.out Try.underlying26 rfl HIP.out ?_) | (go_at_call 31; (with_reducible refine (HRI.out _).mono ?_); rintro e w2 ⟨rfl, hf2⟩; have HF2 := Lib.hid (HF.out.then0 hf2); have HY2 := Lib.hid (hf2.keep HY.out (fun h => h)); have HG2 := Lib.hid (hf2.keep HG.out (fun h => h)); have q0 := (Bk.cell HY2.out 0).trans H0.out; have q1 := (Bk.cell HY2.out 1).trans H1.out; clear hf2))
  have hne := Bk.lt hg0.out
  have hi0 : ∀ W, (Instr.index 68 (.agg #[.int .i64 ((an : Int)), .int .i64 ((bn : Int))]) (.int .i64 0)).run Try.prog W = .ok (.int .i64 ((an : Int))) W := fun W => index_arr (k := 0) W Try.underlying68 (e := 3) (by kernel_rfl) (by kernel_rfl) (by omega) rfl
  have hi1 : ∀ W, (Instr.index 68 (.agg #[.int .i64 ((an : Int)), .int .i64 ((bn : Int))]) (.int .i64 1)).run Try.prog W = .ok (.int .i64 ((bn : Int))) W := fun W => index_arr (k := 1) W Try.underlying68 (e := 3) (by kernel_rfl) (by kernel_rfl) (by omega) rfl
  refine wp_loop_rounds 3 ?_
  rw [rounds_succ]
  go_wp2_with (first | (go_at_call 26; (with_reducible refine (HPW.out _ cs HG2.out rfl).mono ?_); rintro e w3 ⟨rfl, hb3, hf3⟩; have HB3 := Lib.hid hb3; have HF3 := Lib.hid ((HF2.out.weaken (fun _ _ h => h.elim)).trans hf3); have HY3 := Lib.hid (hf3.keep HY2.out (Nat.ne_of_gt hne)); clear hf3 hb3))
  rw [rounds_succ]
  go_wp2_with (first | (go_at_call 26; (with_reducible refine (HPV.out _ _ HB3.out (by simp)).mono ?_); rintro e w4 ⟨rfl, hb4, hf4⟩; have HB4 := Lib.hid hb4; have HF4 := Lib.hid (HF3.out.trans hf4); have HY4 := Lib.hid (hf4.keep HY3.out (Nat.ne_of_gt hne)); clear hf4 hb4))
  rw [rounds_succ]
  clear hi0 hi1 q0 q1
  have hc8 : c - p ≠ 8 := by omega
  have hcp : (8 : Int) ≤ ((c - p : Nat) : Int) := by omega
  go_wp2_with fail
  go_still_tail 4, (by kernel_rfl)
  change wpList _ _ _ _ _ w4.drew
  have HC : Hid (∀ ty, (Builtin.copy_ #[47, 47] ty #[.slice (some ⟨g, o + p + 8, none⟩) 32 (c - p - 8), .slice (some ⟨w.heap.size, 2, none⟩) 32 32]).run Try.prog w4.drew = .ok (goInt (s.map B).length) (w4.drew.setCells g (o + p + 8) (s.map B))) := Lib.hid fun ty => by
    have hbg : Bk w4.drew g _ t := Bk.drew HB4.out
    have hby : Bk w4.drew w.heap.size Y 26 := Bk.drew HY4.out
    have hz : (lay (lay cs (o + p) ((le an 4).map B)) (o + p + 4) ((le bn 4).map B)).size = cs.size := by simp
    have hgs := HGS.out
    have hl : (s.map B).length = 32 := by rw [List.length_map, HSL.out]
    exact run_copy_cells w4.drew 47 47 ty 5 g (o + p + 8) 32 (c - p - 8) ⟨w.heap.size, 2, none⟩ 32 32 (s.map B) Try.underlying47 (by kernel_rfl) (by rw [hl]; rfl) (fun j v hj => by rw [add_form, hby.cell]; exact HSC.out j v hj) (fun j hj => by rw [hbg.cell, Array.getElem?_eq_getElem (by rw [hz]; omega)]; rfl) (fun j hj => hbg.free _) (by intro v hv; obtain ⟨x, _, rfl⟩ := List.mem_map.1 hv; rfl)
  have HB5 : Hid (Bk (w4.drew.setCells g (o + p + 8) (s.map B)) g (lay (lay (lay cs (o + p) ((le an 4).map B)) (o + p + 4) ((le bn 4).map B)) (o + p + 8) (s.map B)) t) := Lib.hid (sets_bk _ _ _ _ (Bk.drew HB4.out))
  have HF5 : Hid (Fr (· = g) w (w4.drew.setCells g (o + p + 8) (s.map B))) := Lib.hid (sets_fr _ _ _ HF4.out.drew)
  generalize hw5 : w4.drew.setCells g (o + p + 8) (s.map B) = w5 at *
  have HW5 := Lib.hid hw5
  clear hw5
  go_wp2_with (refine wpList_copy_run _ rfl _ _ 47 47 rfl _ _ rfl rfl (HC.out _) ?_)
  go_ret
  exact ⟨rfl, HB5.out, HF5.out⟩

namespace WL
theorem lay_append (a b : List Value) : ∀ (cs : Array Value) (o : Nat), lay cs o (a ++ b) = lay (lay cs o a) (o + a.length) b := by
  induction a with
  | nil => intro cs o; rfl
  | cons v r ih =>
    intro cs o
    show lay (cs.setIfInBounds o v) (o + 1) (r ++ b) = lay (lay (cs.setIfInBounds o v) (o + 1) r) (o + (r.length + 1)) b
    rw [ih, show o + 1 + r.length = o + (r.length + 1) by omega]
end WL
theorem lay3 (cs : Array Value) (q a b : Nat) (s : List UInt8) : lay (lay (lay cs q ((le a 4).map B)) (q + 4) ((le b 4).map B)) (q + 8) (s.map B) = lay cs q ((le a 4 ++ (le b 4 ++ s)).map B) := by
  rw [List.map_append, List.map_append, WL.lay_append, WL.lay_append]
  simp [Nat.add_assoc]
/-- PUT: what ptr.Put does with a pointer that is right, at a place that is there. -/
theorem put_fits (g o n c p : Nat) (a b : Int) (s : List UInt8) (cs : Array Value) (t : TypeId) (w : World) (hs : s.length = 32) (ha : (Lit.int .i64 a).wf = true) (hb : (Lit.int .i64 b).wf = true) (hg : Bk w g cs t) (hcs : o + n ≤ cs.size) (hc : n ≤ c) (hcm : c ≤ 9223372036854775807) (hn : n ≤ 140737488351232) (hr : p + 40 ≤ n) (k : rightB a b s = true) :
    Calls Try.prog 27 #[.slice (some ⟨g, o, none⟩) n c, .int .i64 p, .agg (PC a b s).toArray] w fun e w' => e = .returned (.int .i64 0) ∧ Bk w' g (lay cs (o + p) ((PB a b s).map B)) t ∧ Fr (· = g) w w' := by
  have hk : (a = -1 ∧ b = -1) ∨ (0 ≤ a ∧ a < 4096 ∧ (b = -1 ∨ (0 ≤ b ∧ b < 4096))) := by
    simp only [rightB, isH, secB, Bool.or_eq_true, Bool.and_eq_true, decide_eq_true_eq] at k
    omega
  unfold PB enc
  rcases hk with ⟨rfl, rfl⟩ | ⟨h1, h2, rfl | ⟨h3, h4⟩⟩
  · have := put_nn g o n c p s cs t w hs hg hcs hc hcm hn hr k
    rw [lay3] at this
    exact this
  · obtain ⟨an, rfl⟩ := Int.eq_ofNat_of_zero_le h1
    have := put_sn g o n c p an (by omega) s cs t w hs hg hcs hc hcm hn hr k
    rw [lay3] at this
    rw [if_neg (show ¬ ((an : Int) = -1) by omega), if_pos rfl]
    exact this
  · obtain ⟨an, rfl⟩ := Int.eq_ofNat_of_zero_le h1
    obtain ⟨bn, rfl⟩ := Int.eq_ofNat_of_zero_le h3
    have := put_ss g o n c p an (by omega) bn (by omega) s cs t w hs hg hcs hc hcm hn hr k
    rw [lay3] at this
    rw [if_neg (show ¬ ((an : Int) = -1) by omega), if_neg (show ¬ ((bn : Int) = -1) by omega)]
    exact this

end Go.Proofs.Ytfjkbabeceaelaa.PtrPut
