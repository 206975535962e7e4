/- The places of a pointer's sectors: the walk of places. -/
import Derived.Test.YtpbhnpoldjdfdaaSpTake
import Derived.Test.YtpbhnpoldjdfdaaGApp
import Derived.WalkSpells
set_option linter.unusedVariables false
set_option linter.unusedSimpArgs false
namespace Go.Proofs.Ytpbhnpoldjdfdaa.SpPlaces
open Go Go.RowKit Go.Proofs.Ytpbhnpoldjdfdaa.K Go.Proofs.Ytpbhnpoldjdfdaa.EqKit Go.Proofs.Ytpbhnpoldjdfdaa.ArrKit Go.Proofs.Ytpbhnpoldjdfdaa.HeldKit Go.Proofs.Ytpbhnpoldjdfdaa.GKit Go.Proofs.Ytpbhnpoldjdfdaa.GRow Go.Proofs.Ytpbhnpoldjdfdaa.SpKit Go.Proofs.Ytpbhnpoldjdfdaa.SpAsk Go.Proofs.Ytpbhnpoldjdfdaa.SpFind Go.Proofs.Ytpbhnpoldjdfdaa.SpNew Go.Proofs.Ytpbhnpoldjdfdaa.SpBecome Go.Proofs.Ytpbhnpoldjdfdaa.SpIdx Go.Proofs.Ytpbhnpoldjdfdaa.SpTake Go.Proofs.Ytpbhnpoldjdfdaa.PtrKit

theorem infoI : (Try.prog.info? 3).map (fun i => (i.zero, i.size, i.bytes)) = some (some (.int .i64 0), 1, 8) := by kernel_rfl
abbrev OwnI (w : World) (g cap : Nat) (cur : Array Value) (l : List Int) : Prop := OwnG (fun x : Int => [Value.int .i64 x]) 1 3 w g cap cur l
theorem sec_lt {s : Sp} (h : s.ok) {i : Nat} (hi : i < 2 * s.z) : SpAsk.Sp.sec s i < 4096 := by
  have := h.top; have := h.ab
  unfold SpAsk.Sp.sec
  split <;> omega
theorem sec_inj {s : Sp} (h : s.ok) {i j : Nat} (hi : i < 2 * s.z) (hj : j < 2 * s.z) (e : SpAsk.Sp.sec s i = SpAsk.Sp.sec s j) : i = j := by
  have := h.top; have := h.ab
  unfold SpAsk.Sp.sec at e
  split at e <;> split at e <;> omega
theorem right_one {a : Nat} (h : a < 4096) (s : List UInt8) : PtrAsk.rightB (a : Int) (-1) s = true := by
  have h1 : PtrAsk.secB (a : Int) = true := decide_eq_true (by omega)
  simp [PtrAsk.rightB, h1]
theorem right_two {a b : Nat} (h : a < 4096) (hb : b < 4096) (hne : b ≠ a) (s : List UInt8) : PtrAsk.rightB (a : Int) (b : Int) s = true := by
  have h1 : PtrAsk.secB (a : Int) = true := decide_eq_true (by omega)
  have h2 : PtrAsk.secB (b : Int) = true := decide_eq_true (by omega)
  have h3 : ¬ ((b : Int) = (a : Int)) := by omega
  simp [PtrAsk.rightB, h1, h2, h3]

set_option maxHeartbeats 4000000 in
set_option maxRecDepth 100000 in
theorem places_1 (p : Nat) (s : Sp) (g o c : Nat) (i : Nat) (hi : i < 2 * s.z) (t : List UInt8) (w : World) (ht : t.length = 32) (hok : s.ok) (h : SAt w p s g o c) : Calls Try.prog 16 #[.pointer (some ⟨p, 0, none⟩), .agg (PC (SpAsk.Sp.sec s i : Int) (-1 : Int) t).toArray] w fun e w' => ∃ g1 c1 cur, e = .returned (.tuple #[.slice (some ⟨g1, 0, none⟩) 1 c1, .bool true]) ∧ w.heap.size ≤ g1 ∧ OwnI w' g1 c1 cur [(i : Int)] ∧ Fr0 w w' := by
  have hpw := Bk.lt h.blk
  obtain ⟨i0, hy0, hz0, hz1, hz2⟩ := info_parts infoI
  have HJ : Hid (Try.prog.info? 3 = some i0 ∧ i0.zero = some (.int .i64 0) ∧ i0.size = 1 ∧ i0.bytes = 8) := Lib.hid ⟨hy0, hz0, hz1, hz2⟩
  clear hy0 hz0 hz1 hz2
  have hqa := sec_lt hok hi
  
  have HFO : Hid (∀ W, Fr0 w W → Calls Try.prog 11 #[.agg (sval s g o c)] W fun e w' => e = .returned (.bool true) ∧ Fr0 W w') := Lib.hid (fun W f => formed_calls s g o c W hok (h.rd.keep f))
  have HRI : Hid (∀ W, Calls Try.prog 24 #[.agg (PC (SpAsk.Sp.sec s i : Int) (-1 : Int) t).toArray] W fun e w' => e = .returned (.bool true) ∧ Fr0 W w') := Lib.hid (fun W => by
    have := PtrAsk.right_calls (SpAsk.Sp.sec s i : Int) (-1 : Int) t W ht (by simp [Lit.wf, IntKind.min, IntKind.max, IntKind.signed, IntKind.bits]; omega) (by decide)
    rwa [right_one hqa t] at this)
  have HI : Hid ((Try.prog.info? 26).map (·.size) = some (sval s g o c).size) := Lib.hid (by kernel_rfl)
  have HIP : Hid ((Try.prog.info? 37).map (·.size) = some (PC (SpAsk.Sp.sec s i : Int) (-1 : Int) t).toArray.size) := Lib.hid (by rw [PtrAsk.info_p, List.size_toArray, PC_length, ht])
  have HPA : Hid (∀ W, Calls Try.prog 25 #[.agg (sval s g o c), .int .i64 (SpAsk.Sp.sec s i : Int)] W fun e w' => e = .returned (.tuple #[.int .i64 (i : Int), .bool true]) ∧ Fr0 W w') := Lib.hid (fun W => place_calls s.a s.b s.z i c _ W hok.ab hok.top hi)
  
  have HB := Lib.hid h.blk
  have P0 : Hid ((PC (SpAsk.Sp.sec s i : Int) (-1 : Int) t).toArray[0]? = some (.int .i64 (SpAsk.Sp.sec s i : Int))) := Lib.hid rfl
  have P1 : Hid ((PC (SpAsk.Sp.sec s i : Int) (-1 : Int) t).toArray[1]? = some (.int .i64 (-1 : Int))) := Lib.hid rfl
  generalize (PC (SpAsk.Sp.sec s i : Int) (-1 : Int) t).toArray = X at *
  generalize SpAsk.Sp.sec s i = q0 at *
  
  generalize sval s g o c = SVV at *
  clear h hok hi ht 
  have ix0 : ∀ W, (Instr.index 24 (.agg #[.int .i64 (q0 : Int), .int .i64 (-1)]) (.int .i64 0)).run Try.prog W = .ok (.int .i64 (q0 : Int)) W := fun W => index_arr (k := 0) W Try.underlying24 (e := 3) (by kernel_rfl) (by kernel_rfl) (by decide) rfl
  have ix1 : ∀ W, (Instr.index 24 (.agg #[.int .i64 (q0 : Int), .int .i64 (-1)]) (.int .i64 1)).run Try.prog W = .ok (.int .i64 (-1)) W := fun W => index_arr (k := 1) W Try.underlying24 (e := 3) (by kernel_rfl) (by kernel_rfl) (by decide) rfl
  have HX0 : Hid (Bk (w.alloc (.cells X 37)) w.heap.size X 37) := Lib.hid (Bk.new w _)
  have HF0 : Hid (Fr0 w (w.alloc (.cells X 37))) := Lib.hid (Fr.alloc (Fr.refl _ _) _)
  have HB0 : Hid (Bk (w.alloc (.cells X 37)) p SVV 26) := Lib.hid (Bk.alloc HB.out _)
  go_enter Try.func16, Try.ntmps16
  go_wp2_with (first | ((with_reducible show wpList _ _ _ ({ dst := _, op := Op.load 26 _, type := _, pos := _, after := _, guard := _ } :: _) _ _); refine wpList_load_row_g (by rfl) 26 _ rfl p rfl 26 _ (0, 0) _ HB0.out Try.underlying26 rfl HI.out ?_) | (go_at_call 11; (with_reducible refine (HFO.out _ HF0.out).mono ?_); rintro e w1 ⟨rfl, hf1⟩; have HF1 := Lib.hid (HF0.out.then0 hf1); have HB1 := Lib.hid (hf1.keep HB0.out (fun h => h)); have HX1 := Lib.hid (hf1.keep HX0.out (fun h => h)); clear hf1) | ((with_reducible show wpList _ _ _ ({ dst := _, op := Op.load 37 _, type := _, pos := _, after := _, guard := _ } :: _) _ _); refine wpList_load_row_g (by rfl) 37 _ rfl w.heap.size rfl 37 _ (0, 0) _ HX1.out Try.underlying37 rfl HIP.out ?_) | (go_at_call 24; (with_reducible refine (HRI.out _).mono ?_); rintro e w2 ⟨rfl, hf2⟩; have HF2 := Lib.hid (HF1.out.then0 hf2); have HB2 := Lib.hid (hf2.keep HB1.out (fun h => h)); have x0 := (Bk.cell (hf2.keep HX1.out (fun h => h)) 0).trans P0.out; have x1 := (Bk.cell (hf2.keep HX1.out (fun h => h)) 1).trans P1.out; clear hf2))
  refine wp_loop_rounds 3 ?_
  rw [rounds_succ]
  clear x0 x1 HX0 HX1 HB0 HB1
  go_wp2_with (first | ((with_reducible show wpList _ _ _ ({ dst := _, op := Op.load 26 _, type := _, pos := _, after := _, guard := _ } :: _) _ _); refine wpList_load_row_g (by rfl) 26 _ rfl p rfl 26 _ (0, 0) _ HB2.out Try.underlying26 rfl HI.out ?_) | (go_at_call 25; (with_reducible refine (HPA.out _).mono ?_); rintro e w3 ⟨rfl, hf3⟩; have HF3 := Lib.hid (HF2.out.then0 hf3); have HB3 := Lib.hid (hf3.keep HB2.out (fun h => h)); have HN3 : Hid (Bk (w3.alloc (.cells #[.int .i64 (i : Int)] 3)) w3.heap.size #[.int .i64 (i : Int)] 3) := Lib.hid (Bk.new w3 _); clear hf3) | (at_builtin; refine wpList_plain rfl fun K hK => ?_; obtain ⟨g1, c1, cur1, w5, hr5, hg5, ho5, hf5⟩ := GApp.run_append_one (P := Try.prog) (f := fun x : Int => [Value.int .i64 x]) (k := 1) (e := 3) (w3.alloc (.cells #[.int .i64 (i : Int)] 3)) 31 31 i0 (.int .i64 0) 8 Try.underlying31 HJ.out.1 HJ.out.2.1 HJ.out.2.2.1 HJ.out.2.2.2 rfl (by decide) none 0 [] rfl (RdG.nil _ _) (fun _ h => by cases h) w3.heap.size 1 (i : Int) rfl HN3.out (by omega) (by omega) (fun _ => rfl); refine GApp.wp_append_run (.tmp 45) (.tmp 47) 31 (by rfl) (.slice none 0 0) (.slice (some ⟨w3.heap.size, 0, none⟩) 1 1) _ (by rfl) (by rfl) hr5 ?_; refine hK _ _ ?_; have HO5 := Lib.hid ho5; have HG5 : Hid (w.heap.size ≤ g1) := Lib.hid (by have h1 := HF3.out.size; simp at hg5; omega); have HF5 := Lib.hid ((Fr.alloc HF3.out _).then0 hf5); have HB5 := Lib.hid (hf5.keep (Bk.alloc HB3.out _) (fun h => h)); clear hr5 hg5 ho5 hf5))
  rw [rounds_succ]
  go_wp2
  rw [rounds_succ]
  go_wp2
  go_ret2
  exact ⟨_, _, _, rfl, HG5.out, HO5.out, HF5.out⟩

set_option maxHeartbeats 4000000 in
set_option maxRecDepth 100000 in
theorem places_2 (p : Nat) (s : Sp) (g o c : Nat) (i j : Nat) (hi : i < 2 * s.z) (hj : j < 2 * s.z) (hij : j ≠ i) (t : List UInt8) (w : World) (ht : t.length = 32) (hok : s.ok) (h : SAt w p s g o c) : Calls Try.prog 16 #[.pointer (some ⟨p, 0, none⟩), .agg (PC (SpAsk.Sp.sec s i : Int) (SpAsk.Sp.sec s j : Int) t).toArray] w fun e w' => ∃ g1 c1 cur, e = .returned (.tuple #[.slice (some ⟨g1, 0, none⟩) 2 c1, .bool true]) ∧ w.heap.size ≤ g1 ∧ OwnI w' g1 c1 cur [(i : Int), (j : Int)] ∧ Fr0 w w' := by
  have hpw := Bk.lt h.blk
  obtain ⟨i0, hy0, hz0, hz1, hz2⟩ := info_parts infoI
  have HJ : Hid (Try.prog.info? 3 = some i0 ∧ i0.zero = some (.int .i64 0) ∧ i0.size = 1 ∧ i0.bytes = 8) := Lib.hid ⟨hy0, hz0, hz1, hz2⟩
  clear hy0 hz0 hz1 hz2
  have hqa := sec_lt hok hi
  have hqb := sec_lt hok hj
  have HFO : Hid (∀ W, Fr0 w W → Calls Try.prog 11 #[.agg (sval s g o c)] W fun e w' => e = .returned (.bool true) ∧ Fr0 W w') := Lib.hid (fun W f => formed_calls s g o c W hok (h.rd.keep f))
  have HRI : Hid (∀ W, Calls Try.prog 24 #[.agg (PC (SpAsk.Sp.sec s i : Int) (SpAsk.Sp.sec s j : Int) t).toArray] W fun e w' => e = .returned (.bool true) ∧ Fr0 W w') := Lib.hid (fun W => by
    have := PtrAsk.right_calls (SpAsk.Sp.sec s i : Int) (SpAsk.Sp.sec s j : Int) t W ht (by simp [Lit.wf, IntKind.min, IntKind.max, IntKind.signed, IntKind.bits]; omega) (by simp [Lit.wf, IntKind.min, IntKind.max, IntKind.signed, IntKind.bits]; omega)
    rwa [right_two hqa hqb (fun e => hij (sec_inj hok hj hi e)) t] at this)
  have HI : Hid ((Try.prog.info? 26).map (·.size) = some (sval s g o c).size) := Lib.hid (by kernel_rfl)
  have HIP : Hid ((Try.prog.info? 37).map (·.size) = some (PC (SpAsk.Sp.sec s i : Int) (SpAsk.Sp.sec s j : Int) t).toArray.size) := Lib.hid (by rw [PtrAsk.info_p, List.size_toArray, PC_length, ht])
  have HPA : Hid (∀ W, Calls Try.prog 25 #[.agg (sval s g o c), .int .i64 (SpAsk.Sp.sec s i : Int)] W fun e w' => e = .returned (.tuple #[.int .i64 (i : Int), .bool true]) ∧ Fr0 W w') := Lib.hid (fun W => place_calls s.a s.b s.z i c _ W hok.ab hok.top hi)
  have HPB : Hid (∀ W, Calls Try.prog 25 #[.agg (sval s g o c), .int .i64 (SpAsk.Sp.sec s j : Int)] W fun e w' => e = .returned (.tuple #[.int .i64 (j : Int), .bool true]) ∧ Fr0 W w') := Lib.hid (fun W => place_calls s.a s.b s.z j c _ W hok.ab hok.top hj)
  have HB := Lib.hid h.blk
  have P0 : Hid ((PC (SpAsk.Sp.sec s i : Int) (SpAsk.Sp.sec s j : Int) t).toArray[0]? = some (.int .i64 (SpAsk.Sp.sec s i : Int))) := Lib.hid rfl
  have P1 : Hid ((PC (SpAsk.Sp.sec s i : Int) (SpAsk.Sp.sec s j : Int) t).toArray[1]? = some (.int .i64 (SpAsk.Sp.sec s j : Int))) := Lib.hid rfl
  generalize (PC (SpAsk.Sp.sec s i : Int) (SpAsk.Sp.sec s j : Int) t).toArray = X at *
  generalize SpAsk.Sp.sec s i = q0 at *
  generalize SpAsk.Sp.sec s j = q1 at *
  generalize sval s g o c = SVV at *
  clear h hok hi ht hj hij
  have ix0 : ∀ W, (Instr.index 24 (.agg #[.int .i64 (q0 : Int), .int .i64 ((q1 : Int))]) (.int .i64 0)).run Try.prog W = .ok (.int .i64 (q0 : Int)) W := fun W => index_arr (k := 0) W Try.underlying24 (e := 3) (by kernel_rfl) (by kernel_rfl) (by decide) rfl
  have ix1 : ∀ W, (Instr.index 24 (.agg #[.int .i64 (q0 : Int), .int .i64 ((q1 : Int))]) (.int .i64 1)).run Try.prog W = .ok (.int .i64 ((q1 : Int))) W := fun W => index_arr (k := 1) W Try.underlying24 (e := 3) (by kernel_rfl) (by kernel_rfl) (by decide) rfl
  have HX0 : Hid (Bk (w.alloc (.cells X 37)) w.heap.size X 37) := Lib.hid (Bk.new w _)
  have HF0 : Hid (Fr0 w (w.alloc (.cells X 37))) := Lib.hid (Fr.alloc (Fr.refl _ _) _)
  have HB0 : Hid (Bk (w.alloc (.cells X 37)) p SVV 26) := Lib.hid (Bk.alloc HB.out _)
  go_enter Try.func16, Try.ntmps16
  go_wp2_with (first | ((with_reducible show wpList _ _ _ ({ dst := _, op := Op.load 26 _, type := _, pos := _, after := _, guard := _ } :: _) _ _); refine wpList_load_row_g (by rfl) 26 _ rfl p rfl 26 _ (0, 0) _ HB0.out Try.underlying26 rfl HI.out ?_) | (go_at_call 11; (with_reducible refine (HFO.out _ HF0.out).mono ?_); rintro e w1 ⟨rfl, hf1⟩; have HF1 := Lib.hid (HF0.out.then0 hf1); have HB1 := Lib.hid (hf1.keep HB0.out (fun h => h)); have HX1 := Lib.hid (hf1.keep HX0.out (fun h => h)); clear hf1) | ((with_reducible show wpList _ _ _ ({ dst := _, op := Op.load 37 _, type := _, pos := _, after := _, guard := _ } :: _) _ _); refine wpList_load_row_g (by rfl) 37 _ rfl w.heap.size rfl 37 _ (0, 0) _ HX1.out Try.underlying37 rfl HIP.out ?_) | (go_at_call 24; (with_reducible refine (HRI.out _).mono ?_); rintro e w2 ⟨rfl, hf2⟩; have HF2 := Lib.hid (HF1.out.then0 hf2); have HB2 := Lib.hid (hf2.keep HB1.out (fun h => h)); have x0 := (Bk.cell (hf2.keep HX1.out (fun h => h)) 0).trans P0.out; have x1 := (Bk.cell (hf2.keep HX1.out (fun h => h)) 1).trans P1.out; clear hf2))
  refine wp_loop_rounds 3 ?_
  rw [rounds_succ]
  clear x0 x1 HX0 HX1 HB0 HB1
  go_wp2_with (first | ((with_reducible show wpList _ _ _ ({ dst := _, op := Op.load 26 _, type := _, pos := _, after := _, guard := _ } :: _) _ _); refine wpList_load_row_g (by rfl) 26 _ rfl p rfl 26 _ (0, 0) _ HB2.out Try.underlying26 rfl HI.out ?_) | (go_at_call 25; (with_reducible refine (HPA.out _).mono ?_); rintro e w3 ⟨rfl, hf3⟩; have HF3 := Lib.hid (HF2.out.then0 hf3); have HB3 := Lib.hid (hf3.keep HB2.out (fun h => h)); have HN3 : Hid (Bk (w3.alloc (.cells #[.int .i64 (i : Int)] 3)) w3.heap.size #[.int .i64 (i : Int)] 3) := Lib.hid (Bk.new w3 _); clear hf3) | (at_builtin; refine wpList_plain rfl fun K hK => ?_; obtain ⟨g1, c1, cur1, w5, hr5, hg5, ho5, hf5⟩ := GApp.run_append_one (P := Try.prog) (f := fun x : Int => [Value.int .i64 x]) (k := 1) (e := 3) (w3.alloc (.cells #[.int .i64 (i : Int)] 3)) 31 31 i0 (.int .i64 0) 8 Try.underlying31 HJ.out.1 HJ.out.2.1 HJ.out.2.2.1 HJ.out.2.2.2 rfl (by decide) none 0 [] rfl (RdG.nil _ _) (fun _ h => by cases h) w3.heap.size 1 (i : Int) rfl HN3.out (by omega) (by omega) (fun _ => rfl); refine GApp.wp_append_run (.tmp 45) (.tmp 47) 31 (by rfl) (.slice none 0 0) (.slice (some ⟨w3.heap.size, 0, none⟩) 1 1) _ (by rfl) (by rfl) hr5 ?_; refine hK _ _ ?_; have HO5 := Lib.hid ho5; have HG5 : Hid (w.heap.size ≤ g1) := Lib.hid (by have h1 := HF3.out.size; simp at hg5; omega); have HF5 := Lib.hid ((Fr.alloc HF3.out _).then0 hf5); have HB5 := Lib.hid (hf5.keep (Bk.alloc HB3.out _) (fun h => h)); clear hr5 hg5 ho5 hf5))
  rw [rounds_succ]
  go_wp2_with (first | ((with_reducible show wpList _ _ _ ({ dst := _, op := Op.load 26 _, type := _, pos := _, after := _, guard := _ } :: _) _ _); refine wpList_load_row_g (by rfl) 26 _ rfl p rfl 26 _ (0, 0) _ HB5.out Try.underlying26 rfl HI.out ?_) | (go_at_call 25; (with_reducible refine (HPB.out _).mono ?_); rintro e w7 ⟨rfl, hf7⟩; have HF7 := Lib.hid (HF5.out.then0 hf7); have HO7 := Lib.hid (OwnG.keep HO5.out hf7 (fun h => h)); have HN7 : Hid (Bk (w7.alloc (.cells #[.int .i64 (j : Int)] 3)) w7.heap.size #[.int .i64 (j : Int)] 3) := Lib.hid (Bk.new w7 _); clear hf7) | (at_builtin; refine wpList_plain rfl fun K hK => ?_; obtain ⟨g2, c2, cur2, w8, hr8, hg8, ho8, hf8⟩ := GApp.run_append_own1 (P := Try.prog) (f := fun x : Int => [Value.int .i64 x]) (k := 1) (e := 3) (w7.alloc (.cells #[.int .i64 (j : Int)] 3)) 31 31 i0 (.int .i64 0) 8 w.heap.size Try.underlying31 HJ.out.1 HJ.out.2.1 HJ.out.2.2.1 HJ.out.2.2.2 rfl (by decide) g1 c1 cur1 1 [(i : Int)] rfl (OwnG.keep HO7.out (Fr.alloc (Fr.refl (fun _ => False) _) _) (fun h => h)) HG5.out (fun _ _ => rfl) w7.heap.size 1 (j : Int) rfl (fun v hv => by simp only [List.mem_cons, List.not_mem_nil, or_false] at hv; subst hv; rfl) HN7.out (by omega) (by omega); refine GApp.wp_append_run (.tmp 45) (.tmp 47) 31 (by rfl) (.slice (some ⟨g1, 0, none⟩) 1 c1) (.slice (some ⟨w7.heap.size, 0, none⟩) 1 1) _ (by rfl) (by rfl) hr8 ?_; refine hK _ _ ?_; have HO8 := Lib.hid ho8; have HG8 := Lib.hid hg8; have HF8 := Lib.hid (Fr.newG (Fr.alloc HF7.out _) hf8 HG5.out); clear hr8 hg8 ho8 hf8))
  rw [rounds_succ]
  go_wp2
  go_ret2
  exact ⟨_, _, _, rfl, HG8.out, HO8.out, HF8.out⟩

end Go.Proofs.Ytpbhnpoldjdfdaa.SpPlaces
