/- Nodes as values, and whether one is right: the walks of inode.copies and inode.Right. -/
import Derived.Test.YtfjkbabeceaelaaPtrPut
import Derived.Test.YtfjkbabeceaelaaPtrRRight
set_option linter.unusedVariables false
set_option linter.unusedSimpArgs false
namespace Go.Proofs.Ytfjkbabeceaelaa.InoKit
open Go Go.RowKit Go.Proofs.Ytfjkbabeceaelaa.K Go.Proofs.Ytfjkbabeceaelaa.EqKit Go.Proofs.Ytfjkbabeceaelaa.PtrKit Go.Proofs.Ytfjkbabeceaelaa.ArrKit Go.Proofs.Ytfjkbabeceaelaa.HeldKit Go.Proofs.Ytfjkbabeceaelaa.PtrAsk Go.Proofs.Ytfjkbabeceaelaa.ShaStep Go.Proofs.Ytfjkbabeceaelaa.ShaSum Go.Proofs.Ytfjkbabeceaelaa.PtrOf Go.Proofs.Ytfjkbabeceaelaa.WordPut Go.Proofs.Ytfjkbabeceaelaa.WordTake Go.Proofs.Ytfjkbabeceaelaa.PtrPut

/-- a pointer -/
structure V3 where
  a : Int
  b : Int
  s : List UInt8
structure V3.ok (v : V3) : Prop where
  len : v.s.length = 32
  wa : (Lit.int .i64 v.a).wf = true
  wb : (Lit.int .i64 v.b).wf = true
def hol : V3 := ⟨-1, -1, Z⟩
theorem hol_ok : hol.ok := ⟨Z_len, by decide, by decide⟩
def V3.pc (v : V3) : List Value := PC v.a v.b v.s
def V3.right (v : V3) : Bool := rightB v.a v.b v.s
def V3.by (v : V3) : List UInt8 := PB v.a v.b v.s
theorem pc_length {v : V3} (h : v.ok) : v.pc.length = 34 := by rw [V3.pc, PC_length, h.len]
/-- a node -/
structure NV where
  num : Int
  kind : Int
  links : Int
  root : V3
  size : Int
  cps : Int
structure NV.ok (x : NV) : Prop where
  root : x.root.ok
  wn : (Lit.int .i64 x.num).wf = true
  wk : (Lit.int .i64 x.kind).wf = true
  wl : (Lit.int .i64 x.links).wf = true
  ws : (Lit.int .i64 x.size).wf = true
  wc : (Lit.int .i64 x.cps).wf = true
def NV.cells (x : NV) : List Value := .int .i64 x.num :: .int .i64 x.kind :: .int .i64 x.links :: (x.root.pc ++ [.int .i64 x.size, .int .i64 x.cps])
theorem NV.cells_length {x : NV} (h : x.ok) : x.cells.length = 39 := by simp [NV.cells, pc_length h.root]
def nR (x : NV) : Bool := decide (1 ≤ x.num ∧ x.num ≤ 64 ∧ 1 ≤ x.kind ∧ x.kind ≤ 3 ∧ 0 ≤ x.links ∧ x.links ≤ 99 ∧ 0 ≤ x.size ∧ x.size ≤ 8192 ∧ (x.cps = 2 ∨ (x.cps = 1 ∧ x.kind = 1))) && x.root.right
theorem info_n : (Try.prog.info? 30).map (·.size) = some 39 := by kernel_rfl
structure Has (W : World) (g : Nat) (x : NV) : Prop where
  num : W.cell? ⟨g, 0, none⟩ = some (.int .i64 x.num)
  kind : W.cell? ⟨g, 1, none⟩ = some (.int .i64 x.kind)
  links : W.cell? ⟨g, 2, none⟩ = some (.int .i64 x.links)
  root : W.rangeAt g 3 x.root.pc
  size : W.cell? ⟨g, 37, none⟩ = some (.int .i64 x.size)
  cps : W.cell? ⟨g, 38, none⟩ = some (.int .i64 x.cps)
theorem cells_root {x : NV} (h : x.ok) (j : Nat) (u : Value) (hj : x.root.pc[j]? = some u) : x.cells.toArray[3 + j]? = some u := by
  have hl : j < x.root.pc.length := (List.getElem?_eq_some_iff.1 hj).1
  rw [List.getElem?_toArray, NV.cells, Nat.add_comm 3 j]
  simp only [List.getElem?_cons_succ]
  rw [List.getElem?_append_left hl]; exact hj
theorem cells_size {x : NV} (h : x.ok) : x.cells.toArray[37]? = some (.int .i64 x.size) := by
  rw [List.getElem?_toArray, NV.cells]
  simp only [List.getElem?_cons_succ]
  rw [List.getElem?_append_right (by rw [pc_length h.root]; omega), pc_length h.root]; rfl
theorem cells_cps {x : NV} (h : x.ok) : x.cells.toArray[38]? = some (.int .i64 x.cps) := by
  rw [List.getElem?_toArray, NV.cells]
  simp only [List.getElem?_cons_succ]
  rw [List.getElem?_append_right (by rw [pc_length h.root]; omega), pc_length h.root]; rfl
theorem Has.of {W : World} {g : Nat} {t : TypeId} {x : NV} (h : x.ok) (hb : Bk W g x.cells.toArray t) : Has W g x :=
  ⟨(Bk.cell hb 0).trans rfl, (Bk.cell hb 1).trans rfl, (Bk.cell hb 2).trans rfl, fun j u hj => by rw [Bk.cell hb]; exact cells_root h j u hj, (Bk.cell hb 37).trans (cells_size h), (Bk.cell hb 38).trans (cells_cps h)⟩
set_option maxHeartbeats 2000000 in
set_option maxRecDepth 100000 in
theorem copies_1 (k : Int) (w : World) (h : k = 1) : Calls Try.prog 23 #[.int .i64 k] w fun e w' => e = .returned (.tuple #[.int .i64 1, .int .i64 2]) ∧ w = w' := by
  have c0 : (k == 1) = true := by rw [beq_iff_eq]; exact h
  clear h
  go_enter Try.func23, Try.ntmps23
  go_wp2
  go_ret2
  exact ⟨rfl, rfl⟩
set_option maxHeartbeats 2000000 in
set_option maxRecDepth 100000 in
theorem copies_2 (k : Int) (w : World) (h : k ≠ 1) : Calls Try.prog 23 #[.int .i64 k] w fun e w' => e = .returned (.tuple #[.int .i64 2, .int .i64 2]) ∧ w = w' := by
  have c0 : (k == 1) = false := by rw [beq_eq_false_iff_ne]; exact h
  clear h
  go_enter Try.func23, Try.ntmps23
  go_wp2
  go_ret2
  exact ⟨rfl, rfl⟩
theorem wpList_load_mid_g {P : Program} {ops : Array Oper} {rest : List Oper} {op : Oper} {a : Act} {w : World} {Q : Exit → Act → World → Prop} (hw : Region.wanted op (yielded ops a.tmps) = true) (ty : TypeId) (x : Operand) (ho : op.op = .load ty x)
    (b o : Nat) (hx : a.eval x = .pointer (some ⟨b, o, none⟩)) (cs : List Value) (d : TypeDesc) (hc : w.rangeAt b o cs)
    (hu : P.underlying ty = some d) (hd : d.isRow = true) (hi : (P.info? ty).map (·.size) = some cs.length)
    (h : wpList P ops Q rest (a.put op.dst (.agg cs.toArray)) w) : wpList P ops Q (op :: rest) a w := by
  unfold wpList
  rw [if_pos hw]
  exact Or.inl (wp_load_mid ty x ho b o hx cs d hc hu hd hi h)

set_option maxHeartbeats 2000000 in
set_option maxRecDepth 100000 in
theorem right_1_0 (x : NV) (w : World) (hx : x.ok) (hk : x.kind = 1)  (h0 : x.num < 1) : Calls Try.prog 17 #[.agg x.cells.toArray] w fun e w' => e = .returned (.bool false) ∧ Fr0 w w' := by
  have c0 : decide (x.num < 1) = true := decide_eq_true (by omega)
  have HCO : Hid (∀ W : World, Calls Try.prog 23 #[.int .i64 x.kind] W fun e w' => e = .returned (.tuple #[.int .i64 1, .int .i64 2]) ∧ W = w') := Lib.hid (fun W => copies_1 x.kind W hk)
  have HRI : Hid (∀ W : World, Calls Try.prog 31 #[.agg x.root.pc.toArray] W fun e w' => e = .returned (.bool x.root.right) ∧ Fr0 W w') := Lib.hid (fun W => right_calls x.root.a x.root.b x.root.s W hx.root.len hx.root.wa hx.root.wb)
  have HIR : Hid ((Try.prog.info? 26).map (·.size) = some x.root.pc.length) := Lib.hid (by rw [info_p, pc_length hx.root])
  have HN : Hid (Bk (w.alloc (.cells x.cells.toArray 30)) w.heap.size x.cells.toArray 30) := Lib.hid (Bk.new w _)
  have HH : Hid (Has (w.alloc (.cells x.cells.toArray 30)) w.heap.size x) := Lib.hid (Has.of hx HN.out)
  have HF : Hid (Fr0 w (w.alloc (.cells x.cells.toArray 30))) := Lib.hid (Fr.alloc (Fr.refl _ _) _)
  have HRT := Lib.hid HH.out.root
  have q0 := HH.out.num
  have q1 := HH.out.kind
  have q2 := HH.out.links
  have q3 := HH.out.size
  have q4 := HH.out.cps
  clear hx hk
  generalize x.cells.toArray = X at *
  generalize x.root.right = rr at *
  generalize x.root.pc = rp at *
  generalize x.num = xn at *
  generalize x.kind = xk at *
  generalize x.links = xl at *
  generalize x.size = xs at *
  generalize x.cps = xc at *
  go_enter Try.func17, Try.ntmps17
  go_wp2_with (first | (go_at_call 23; (with_reducible refine (HCO.out _).mono ?_); rintro e w1 ⟨rfl, rfl⟩))
  all_goals go_ret
  exact ⟨by first | rfl | simp, HF.out⟩

set_option maxHeartbeats 2000000 in
set_option maxRecDepth 100000 in
theorem right_1_1 (x : NV) (w : World) (hx : x.ok) (hk : x.kind = 1) (h0 : ¬ (x.num < 1)) (h1 : 64 < x.num) : Calls Try.prog 17 #[.agg x.cells.toArray] w fun e w' => e = .returned (.bool false) ∧ Fr0 w w' := by
  have c0 : decide (x.num < 1) = false := decide_eq_false (by omega)
  have c1 : decide (64 < x.num) = true := decide_eq_true (by omega)
  have HCO : Hid (∀ W : World, Calls Try.prog 23 #[.int .i64 x.kind] W fun e w' => e = .returned (.tuple #[.int .i64 1, .int .i64 2]) ∧ W = w') := Lib.hid (fun W => copies_1 x.kind W hk)
  have HRI : Hid (∀ W : World, Calls Try.prog 31 #[.agg x.root.pc.toArray] W fun e w' => e = .returned (.bool x.root.right) ∧ Fr0 W w') := Lib.hid (fun W => right_calls x.root.a x.root.b x.root.s W hx.root.len hx.root.wa hx.root.wb)
  have HIR : Hid ((Try.prog.info? 26).map (·.size) = some x.root.pc.length) := Lib.hid (by rw [info_p, pc_length hx.root])
  have HN : Hid (Bk (w.alloc (.cells x.cells.toArray 30)) w.heap.size x.cells.toArray 30) := Lib.hid (Bk.new w _)
  have HH : Hid (Has (w.alloc (.cells x.cells.toArray 30)) w.heap.size x) := Lib.hid (Has.of hx HN.out)
  have HF : Hid (Fr0 w (w.alloc (.cells x.cells.toArray 30))) := Lib.hid (Fr.alloc (Fr.refl _ _) _)
  have HRT := Lib.hid HH.out.root
  have q0 := HH.out.num
  have q1 := HH.out.kind
  have q2 := HH.out.links
  have q3 := HH.out.size
  have q4 := HH.out.cps
  clear hx hk
  generalize x.cells.toArray = X at *
  generalize x.root.right = rr at *
  generalize x.root.pc = rp at *
  generalize x.num = xn at *
  generalize x.kind = xk at *
  generalize x.links = xl at *
  generalize x.size = xs at *
  generalize x.cps = xc at *
  go_enter Try.func17, Try.ntmps17
  go_wp2_with (first | (go_at_call 23; (with_reducible refine (HCO.out _).mono ?_); rintro e w1 ⟨rfl, rfl⟩))
  all_goals go_ret
  exact ⟨by first | rfl | simp, HF.out⟩

set_option maxHeartbeats 2000000 in
set_option maxRecDepth 100000 in
theorem right_1_2 (x : NV) (w : World) (hx : x.ok) (hk : x.kind = 1) (h0 : ¬ (x.num < 1)) (h1 : ¬ (64 < x.num)) (h2 : x.kind < 1) : Calls Try.prog 17 #[.agg x.cells.toArray] w fun e w' => e = .returned (.bool false) ∧ Fr0 w w' := by
  have c0 : decide (x.num < 1) = false := decide_eq_false (by omega)
  have c1 : decide (64 < x.num) = false := decide_eq_false (by omega)
  have c2 : decide (x.kind < 1) = true := decide_eq_true (by omega)
  have HCO : Hid (∀ W : World, Calls Try.prog 23 #[.int .i64 x.kind] W fun e w' => e = .returned (.tuple #[.int .i64 1, .int .i64 2]) ∧ W = w') := Lib.hid (fun W => copies_1 x.kind W hk)
  have HRI : Hid (∀ W : World, Calls Try.prog 31 #[.agg x.root.pc.toArray] W fun e w' => e = .returned (.bool x.root.right) ∧ Fr0 W w') := Lib.hid (fun W => right_calls x.root.a x.root.b x.root.s W hx.root.len hx.root.wa hx.root.wb)
  have HIR : Hid ((Try.prog.info? 26).map (·.size) = some x.root.pc.length) := Lib.hid (by rw [info_p, pc_length hx.root])
  have HN : Hid (Bk (w.alloc (.cells x.cells.toArray 30)) w.heap.size x.cells.toArray 30) := Lib.hid (Bk.new w _)
  have HH : Hid (Has (w.alloc (.cells x.cells.toArray 30)) w.heap.size x) := Lib.hid (Has.of hx HN.out)
  have HF : Hid (Fr0 w (w.alloc (.cells x.cells.toArray 30))) := Lib.hid (Fr.alloc (Fr.refl _ _) _)
  have HRT := Lib.hid HH.out.root
  have q0 := HH.out.num
  have q1 := HH.out.kind
  have q2 := HH.out.links
  have q3 := HH.out.size
  have q4 := HH.out.cps
  clear hx hk
  generalize x.cells.toArray = X at *
  generalize x.root.right = rr at *
  generalize x.root.pc = rp at *
  generalize x.num = xn at *
  generalize x.kind = xk at *
  generalize x.links = xl at *
  generalize x.size = xs at *
  generalize x.cps = xc at *
  go_enter Try.func17, Try.ntmps17
  go_wp2_with (first | (go_at_call 23; (with_reducible refine (HCO.out _).mono ?_); rintro e w1 ⟨rfl, rfl⟩))
  all_goals go_ret
  exact ⟨by first | rfl | simp, HF.out⟩

set_option maxHeartbeats 2000000 in
set_option maxRecDepth 100000 in
theorem right_1_3 (x : NV) (w : World) (hx : x.ok) (hk : x.kind = 1) (h0 : ¬ (x.num < 1)) (h1 : ¬ (64 < x.num)) (h2 : ¬ (x.kind < 1)) (h3 : 3 < x.kind) : Calls Try.prog 17 #[.agg x.cells.toArray] w fun e w' => e = .returned (.bool false) ∧ Fr0 w w' := by
  have c0 : decide (x.num < 1) = false := decide_eq_false (by omega)
  have c1 : decide (64 < x.num) = false := decide_eq_false (by omega)
  have c2 : decide (x.kind < 1) = false := decide_eq_false (by omega)
  have c3 : decide (3 < x.kind) = true := decide_eq_true (by omega)
  have HCO : Hid (∀ W : World, Calls Try.prog 23 #[.int .i64 x.kind] W fun e w' => e = .returned (.tuple #[.int .i64 1, .int .i64 2]) ∧ W = w') := Lib.hid (fun W => copies_1 x.kind W hk)
  have HRI : Hid (∀ W : World, Calls Try.prog 31 #[.agg x.root.pc.toArray] W fun e w' => e = .returned (.bool x.root.right) ∧ Fr0 W w') := Lib.hid (fun W => right_calls x.root.a x.root.b x.root.s W hx.root.len hx.root.wa hx.root.wb)
  have HIR : Hid ((Try.prog.info? 26).map (·.size) = some x.root.pc.length) := Lib.hid (by rw [info_p, pc_length hx.root])
  have HN : Hid (Bk (w.alloc (.cells x.cells.toArray 30)) w.heap.size x.cells.toArray 30) := Lib.hid (Bk.new w _)
  have HH : Hid (Has (w.alloc (.cells x.cells.toArray 30)) w.heap.size x) := Lib.hid (Has.of hx HN.out)
  have HF : Hid (Fr0 w (w.alloc (.cells x.cells.toArray 30))) := Lib.hid (Fr.alloc (Fr.refl _ _) _)
  have HRT := Lib.hid HH.out.root
  have q0 := HH.out.num
  have q1 := HH.out.kind
  have q2 := HH.out.links
  have q3 := HH.out.size
  have q4 := HH.out.cps
  clear hx hk
  generalize x.cells.toArray = X at *
  generalize x.root.right = rr at *
  generalize x.root.pc = rp at *
  generalize x.num = xn at *
  generalize x.kind = xk at *
  generalize x.links = xl at *
  generalize x.size = xs at *
  generalize x.cps = xc at *
  go_enter Try.func17, Try.ntmps17
  go_wp2_with (first | (go_at_call 23; (with_reducible refine (HCO.out _).mono ?_); rintro e w1 ⟨rfl, rfl⟩))
  all_goals go_ret
  exact ⟨by first | rfl | simp, HF.out⟩

set_option maxHeartbeats 2000000 in
set_option maxRecDepth 100000 in
theorem right_1_4 (x : NV) (w : World) (hx : x.ok) (hk : x.kind = 1) (h0 : ¬ (x.num < 1)) (h1 : ¬ (64 < x.num)) (h2 : ¬ (x.kind < 1)) (h3 : ¬ (3 < x.kind)) (h4 : x.links < 0) : Calls Try.prog 17 #[.agg x.cells.toArray] w fun e w' => e = .returned (.bool false) ∧ Fr0 w w' := by
  have c0 : decide (x.num < 1) = false := decide_eq_false (by omega)
  have c1 : decide (64 < x.num) = false := decide_eq_false (by omega)
  have c2 : decide (x.kind < 1) = false := decide_eq_false (by omega)
  have c3 : decide (3 < x.kind) = false := decide_eq_false (by omega)
  have c4 : decide (x.links < 0) = true := decide_eq_true (by omega)
  have HCO : Hid (∀ W : World, Calls Try.prog 23 #[.int .i64 x.kind] W fun e w' => e = .returned (.tuple #[.int .i64 1, .int .i64 2]) ∧ W = w') := Lib.hid (fun W => copies_1 x.kind W hk)
  have HRI : Hid (∀ W : World, Calls Try.prog 31 #[.agg x.root.pc.toArray] W fun e w' => e = .returned (.bool x.root.right) ∧ Fr0 W w') := Lib.hid (fun W => right_calls x.root.a x.root.b x.root.s W hx.root.len hx.root.wa hx.root.wb)
  have HIR : Hid ((Try.prog.info? 26).map (·.size) = some x.root.pc.length) := Lib.hid (by rw [info_p, pc_length hx.root])
  have HN : Hid (Bk (w.alloc (.cells x.cells.toArray 30)) w.heap.size x.cells.toArray 30) := Lib.hid (Bk.new w _)
  have HH : Hid (Has (w.alloc (.cells x.cells.toArray 30)) w.heap.size x) := Lib.hid (Has.of hx HN.out)
  have HF : Hid (Fr0 w (w.alloc (.cells x.cells.toArray 30))) := Lib.hid (Fr.alloc (Fr.refl _ _) _)
  have HRT := Lib.hid HH.out.root
  have q0 := HH.out.num
  have q1 := HH.out.kind
  have q2 := HH.out.links
  have q3 := HH.out.size
  have q4 := HH.out.cps
  clear hx hk
  generalize x.cells.toArray = X at *
  generalize x.root.right = rr at *
  generalize x.root.pc = rp at *
  generalize x.num = xn at *
  generalize x.kind = xk at *
  generalize x.links = xl at *
  generalize x.size = xs at *
  generalize x.cps = xc at *
  go_enter Try.func17, Try.ntmps17
  go_wp2_with (first | (go_at_call 23; (with_reducible refine (HCO.out _).mono ?_); rintro e w1 ⟨rfl, rfl⟩))
  all_goals go_ret
  exact ⟨by first | rfl | simp, HF.out⟩

set_option maxHeartbeats 2000000 in
set_option maxRecDepth 100000 in
theorem right_1_5 (x : NV) (w : World) (hx : x.ok) (hk : x.kind = 1) (h0 : ¬ (x.num < 1)) (h1 : ¬ (64 < x.num)) (h2 : ¬ (x.kind < 1)) (h3 : ¬ (3 < x.kind)) (h4 : ¬ (x.links < 0)) (h5 : 99 < x.links) : Calls Try.prog 17 #[.agg x.cells.toArray] w fun e w' => e = .returned (.bool false) ∧ Fr0 w w' := by
  have c0 : decide (x.num < 1) = false := decide_eq_false (by omega)
  have c1 : decide (64 < x.num) = false := decide_eq_false (by omega)
  have c2 : decide (x.kind < 1) = false := decide_eq_false (by omega)
  have c3 : decide (3 < x.kind) = false := decide_eq_false (by omega)
  have c4 : decide (x.links < 0) = false := decide_eq_false (by omega)
  have c5 : decide (99 < x.links) = true := decide_eq_true (by omega)
  have HCO : Hid (∀ W : World, Calls Try.prog 23 #[.int .i64 x.kind] W fun e w' => e = .returned (.tuple #[.int .i64 1, .int .i64 2]) ∧ W = w') := Lib.hid (fun W => copies_1 x.kind W hk)
  have HRI : Hid (∀ W : World, Calls Try.prog 31 #[.agg x.root.pc.toArray] W fun e w' => e = .returned (.bool x.root.right) ∧ Fr0 W w') := Lib.hid (fun W => right_calls x.root.a x.root.b x.root.s W hx.root.len hx.root.wa hx.root.wb)
  have HIR : Hid ((Try.prog.info? 26).map (·.size) = some x.root.pc.length) := Lib.hid (by rw [info_p, pc_length hx.root])
  have HN : Hid (Bk (w.alloc (.cells x.cells.toArray 30)) w.heap.size x.cells.toArray 30) := Lib.hid (Bk.new w _)
  have HH : Hid (Has (w.alloc (.cells x.cells.toArray 30)) w.heap.size x) := Lib.hid (Has.of hx HN.out)
  have HF : Hid (Fr0 w (w.alloc (.cells x.cells.toArray 30))) := Lib.hid (Fr.alloc (Fr.refl _ _) _)
  have HRT := Lib.hid HH.out.root
  have q0 := HH.out.num
  have q1 := HH.out.kind
  have q2 := HH.out.links
  have q3 := HH.out.size
  have q4 := HH.out.cps
  clear hx hk
  generalize x.cells.toArray = X at *
  generalize x.root.right = rr at *
  generalize x.root.pc = rp at *
  generalize x.num = xn at *
  generalize x.kind = xk at *
  generalize x.links = xl at *
  generalize x.size = xs at *
  generalize x.cps = xc at *
  go_enter Try.func17, Try.ntmps17
  go_wp2_with (first | (go_at_call 23; (with_reducible refine (HCO.out _).mono ?_); rintro e w1 ⟨rfl, rfl⟩))
  all_goals go_ret
  exact ⟨by first | rfl | simp, HF.out⟩

set_option maxHeartbeats 2000000 in
set_option maxRecDepth 100000 in
theorem right_1_6 (x : NV) (w : World) (hx : x.ok) (hk : x.kind = 1) (h0 : ¬ (x.num < 1)) (h1 : ¬ (64 < x.num)) (h2 : ¬ (x.kind < 1)) (h3 : ¬ (3 < x.kind)) (h4 : ¬ (x.links < 0)) (h5 : ¬ (99 < x.links)) (h6 : x.cps < 1) : Calls Try.prog 17 #[.agg x.cells.toArray] w fun e w' => e = .returned (.bool false) ∧ Fr0 w w' := by
  have c0 : decide (x.num < 1) = false := decide_eq_false (by omega)
  have c1 : decide (64 < x.num) = false := decide_eq_false (by omega)
  have c2 : decide (x.kind < 1) = false := decide_eq_false (by omega)
  have c3 : decide (3 < x.kind) = false := decide_eq_false (by omega)
  have c4 : decide (x.links < 0) = false := decide_eq_false (by omega)
  have c5 : decide (99 < x.links) = false := decide_eq_false (by omega)
  have c6 : decide (x.cps < 1) = true := decide_eq_true (by omega)
  have HCO : Hid (∀ W : World, Calls Try.prog 23 #[.int .i64 x.kind] W fun e w' => e = .returned (.tuple #[.int .i64 1, .int .i64 2]) ∧ W = w') := Lib.hid (fun W => copies_1 x.kind W hk)
  have HRI : Hid (∀ W : World, Calls Try.prog 31 #[.agg x.root.pc.toArray] W fun e w' => e = .returned (.bool x.root.right) ∧ Fr0 W w') := Lib.hid (fun W => right_calls x.root.a x.root.b x.root.s W hx.root.len hx.root.wa hx.root.wb)
  have HIR : Hid ((Try.prog.info? 26).map (·.size) = some x.root.pc.length) := Lib.hid (by rw [info_p, pc_length hx.root])
  have HN : Hid (Bk (w.alloc (.cells x.cells.toArray 30)) w.heap.size x.cells.toArray 30) := Lib.hid (Bk.new w _)
  have HH : Hid (Has (w.alloc (.cells x.cells.toArray 30)) w.heap.size x) := Lib.hid (Has.of hx HN.out)
  have HF : Hid (Fr0 w (w.alloc (.cells x.cells.toArray 30))) := Lib.hid (Fr.alloc (Fr.refl _ _) _)
  have HRT := Lib.hid HH.out.root
  have q0 := HH.out.num
  have q1 := HH.out.kind
  have q2 := HH.out.links
  have q3 := HH.out.size
  have q4 := HH.out.cps
  clear hx hk
  generalize x.cells.toArray = X at *
  generalize x.root.right = rr at *
  generalize x.root.pc = rp at *
  generalize x.num = xn at *
  generalize x.kind = xk at *
  generalize x.links = xl at *
  generalize x.size = xs at *
  generalize x.cps = xc at *
  go_enter Try.func17, Try.ntmps17
  go_wp2_with (first | (go_at_call 23; (with_reducible refine (HCO.out _).mono ?_); rintro e w1 ⟨rfl, rfl⟩))
  all_goals go_ret
  exact ⟨by first | rfl | simp, HF.out⟩

set_option maxHeartbeats 2000000 in
set_option maxRecDepth 100000 in
theorem right_1_7 (x : NV) (w : World) (hx : x.ok) (hk : x.kind = 1) (h0 : ¬ (x.num < 1)) (h1 : ¬ (64 < x.num)) (h2 : ¬ (x.kind < 1)) (h3 : ¬ (3 < x.kind)) (h4 : ¬ (x.links < 0)) (h5 : ¬ (99 < x.links)) (h6 : ¬ (x.cps < 1)) (h7 : 2 < x.cps) : Calls Try.prog 17 #[.agg x.cells.toArray] w fun e w' => e = .returned (.bool false) ∧ Fr0 w w' := by
  have c0 : decide (x.num < 1) = false := decide_eq_false (by omega)
  have c1 : decide (64 < x.num) = false := decide_eq_false (by omega)
  have c2 : decide (x.kind < 1) = false := decide_eq_false (by omega)
  have c3 : decide (3 < x.kind) = false := decide_eq_false (by omega)
  have c4 : decide (x.links < 0) = false := decide_eq_false (by omega)
  have c5 : decide (99 < x.links) = false := decide_eq_false (by omega)
  have c6 : decide (x.cps < 1) = false := decide_eq_false (by omega)
  have c7 : decide (2 < x.cps) = true := decide_eq_true (by omega)
  have HCO : Hid (∀ W : World, Calls Try.prog 23 #[.int .i64 x.kind] W fun e w' => e = .returned (.tuple #[.int .i64 1, .int .i64 2]) ∧ W = w') := Lib.hid (fun W => copies_1 x.kind W hk)
  have HRI : Hid (∀ W : World, Calls Try.prog 31 #[.agg x.root.pc.toArray] W fun e w' => e = .returned (.bool x.root.right) ∧ Fr0 W w') := Lib.hid (fun W => right_calls x.root.a x.root.b x.root.s W hx.root.len hx.root.wa hx.root.wb)
  have HIR : Hid ((Try.prog.info? 26).map (·.size) = some x.root.pc.length) := Lib.hid (by rw [info_p, pc_length hx.root])
  have HN : Hid (Bk (w.alloc (.cells x.cells.toArray 30)) w.heap.size x.cells.toArray 30) := Lib.hid (Bk.new w _)
  have HH : Hid (Has (w.alloc (.cells x.cells.toArray 30)) w.heap.size x) := Lib.hid (Has.of hx HN.out)
  have HF : Hid (Fr0 w (w.alloc (.cells x.cells.toArray 30))) := Lib.hid (Fr.alloc (Fr.refl _ _) _)
  have HRT := Lib.hid HH.out.root
  have q0 := HH.out.num
  have q1 := HH.out.kind
  have q2 := HH.out.links
  have q3 := HH.out.size
  have q4 := HH.out.cps
  clear hx hk
  generalize x.cells.toArray = X at *
  generalize x.root.right = rr at *
  generalize x.root.pc = rp at *
  generalize x.num = xn at *
  generalize x.kind = xk at *
  generalize x.links = xl at *
  generalize x.size = xs at *
  generalize x.cps = xc at *
  go_enter Try.func17, Try.ntmps17
  go_wp2_with (first | (go_at_call 23; (with_reducible refine (HCO.out _).mono ?_); rintro e w1 ⟨rfl, rfl⟩))
  all_goals go_ret
  exact ⟨by first | rfl | simp, HF.out⟩

set_option maxHeartbeats 2000000 in
set_option maxRecDepth 100000 in
theorem right_1_8 (x : NV) (w : World) (hx : x.ok) (hk : x.kind = 1) (h0 : ¬ (x.num < 1)) (h1 : ¬ (64 < x.num)) (h2 : ¬ (x.kind < 1)) (h3 : ¬ (3 < x.kind)) (h4 : ¬ (x.links < 0)) (h5 : ¬ (99 < x.links)) (h6 : ¬ (x.cps < 1)) (h7 : ¬ (2 < x.cps)) (h8 : ¬ 0 ≤ x.size) : Calls Try.prog 17 #[.agg x.cells.toArray] w fun e w' => e = .returned (.bool false) ∧ Fr0 w w' := by
  have c0 : decide (x.num < 1) = false := decide_eq_false (by omega)
  have c1 : decide (64 < x.num) = false := decide_eq_false (by omega)
  have c2 : decide (x.kind < 1) = false := decide_eq_false (by omega)
  have c3 : decide (3 < x.kind) = false := decide_eq_false (by omega)
  have c4 : decide (x.links < 0) = false := decide_eq_false (by omega)
  have c5 : decide (99 < x.links) = false := decide_eq_false (by omega)
  have c6 : decide (x.cps < 1) = false := decide_eq_false (by omega)
  have c7 : decide (2 < x.cps) = false := decide_eq_false (by omega)
  have c8 : decide (0 ≤ x.size) = false := decide_eq_false (by omega)
  have HCO : Hid (∀ W : World, Calls Try.prog 23 #[.int .i64 x.kind] W fun e w' => e = .returned (.tuple #[.int .i64 1, .int .i64 2]) ∧ W = w') := Lib.hid (fun W => copies_1 x.kind W hk)
  have HRI : Hid (∀ W : World, Calls Try.prog 31 #[.agg x.root.pc.toArray] W fun e w' => e = .returned (.bool x.root.right) ∧ Fr0 W w') := Lib.hid (fun W => right_calls x.root.a x.root.b x.root.s W hx.root.len hx.root.wa hx.root.wb)
  have HIR : Hid ((Try.prog.info? 26).map (·.size) = some x.root.pc.length) := Lib.hid (by rw [info_p, pc_length hx.root])
  have HN : Hid (Bk (w.alloc (.cells x.cells.toArray 30)) w.heap.size x.cells.toArray 30) := Lib.hid (Bk.new w _)
  have HH : Hid (Has (w.alloc (.cells x.cells.toArray 30)) w.heap.size x) := Lib.hid (Has.of hx HN.out)
  have HF : Hid (Fr0 w (w.alloc (.cells x.cells.toArray 30))) := Lib.hid (Fr.alloc (Fr.refl _ _) _)
  have HRT := Lib.hid HH.out.root
  have q0 := HH.out.num
  have q1 := HH.out.kind
  have q2 := HH.out.links
  have q3 := HH.out.size
  have q4 := HH.out.cps
  clear hx hk
  generalize x.cells.toArray = X at *
  generalize x.root.right = rr at *
  generalize x.root.pc = rp at *
  generalize x.num = xn at *
  generalize x.kind = xk at *
  generalize x.links = xl at *
  generalize x.size = xs at *
  generalize x.cps = xc at *
  go_enter Try.func17, Try.ntmps17
  go_wp2_with (first | (go_at_call 23; (with_reducible refine (HCO.out _).mono ?_); rintro e w1 ⟨rfl, rfl⟩))
  all_goals go_ret
  exact ⟨by first | rfl | simp, HF.out⟩

set_option maxHeartbeats 2000000 in
set_option maxRecDepth 100000 in
theorem right_1_9 (x : NV) (w : World) (hx : x.ok) (hk : x.kind = 1) (h0 : ¬ (x.num < 1)) (h1 : ¬ (64 < x.num)) (h2 : ¬ (x.kind < 1)) (h3 : ¬ (3 < x.kind)) (h4 : ¬ (x.links < 0)) (h5 : ¬ (99 < x.links)) (h6 : ¬ (x.cps < 1)) (h7 : ¬ (2 < x.cps)) (h8 : 0 ≤ x.size) (h9 : ¬ x.size ≤ 8192) : Calls Try.prog 17 #[.agg x.cells.toArray] w fun e w' => e = .returned (.bool false) ∧ Fr0 w w' := by
  have c0 : decide (x.num < 1) = false := decide_eq_false (by omega)
  have c1 : decide (64 < x.num) = false := decide_eq_false (by omega)
  have c2 : decide (x.kind < 1) = false := decide_eq_false (by omega)
  have c3 : decide (3 < x.kind) = false := decide_eq_false (by omega)
  have c4 : decide (x.links < 0) = false := decide_eq_false (by omega)
  have c5 : decide (99 < x.links) = false := decide_eq_false (by omega)
  have c6 : decide (x.cps < 1) = false := decide_eq_false (by omega)
  have c7 : decide (2 < x.cps) = false := decide_eq_false (by omega)
  have c8 : decide (0 ≤ x.size) = true := decide_eq_true (by omega)
  have c9 : decide (x.size ≤ 8192) = false := decide_eq_false (by omega)
  have HCO : Hid (∀ W : World, Calls Try.prog 23 #[.int .i64 x.kind] W fun e w' => e = .returned (.tuple #[.int .i64 1, .int .i64 2]) ∧ W = w') := Lib.hid (fun W => copies_1 x.kind W hk)
  have HRI : Hid (∀ W : World, Calls Try.prog 31 #[.agg x.root.pc.toArray] W fun e w' => e = .returned (.bool x.root.right) ∧ Fr0 W w') := Lib.hid (fun W => right_calls x.root.a x.root.b x.root.s W hx.root.len hx.root.wa hx.root.wb)
  have HIR : Hid ((Try.prog.info? 26).map (·.size) = some x.root.pc.length) := Lib.hid (by rw [info_p, pc_length hx.root])
  have HN : Hid (Bk (w.alloc (.cells x.cells.toArray 30)) w.heap.size x.cells.toArray 30) := Lib.hid (Bk.new w _)
  have HH : Hid (Has (w.alloc (.cells x.cells.toArray 30)) w.heap.size x) := Lib.hid (Has.of hx HN.out)
  have HF : Hid (Fr0 w (w.alloc (.cells x.cells.toArray 30))) := Lib.hid (Fr.alloc (Fr.refl _ _) _)
  have HRT := Lib.hid HH.out.root
  have q0 := HH.out.num
  have q1 := HH.out.kind
  have q2 := HH.out.links
  have q3 := HH.out.size
  have q4 := HH.out.cps
  clear hx hk
  generalize x.cells.toArray = X at *
  generalize x.root.right = rr at *
  generalize x.root.pc = rp at *
  generalize x.num = xn at *
  generalize x.kind = xk at *
  generalize x.links = xl at *
  generalize x.size = xs at *
  generalize x.cps = xc at *
  go_enter Try.func17, Try.ntmps17
  go_wp2_with (first | (go_at_call 23; (with_reducible refine (HCO.out _).mono ?_); rintro e w1 ⟨rfl, rfl⟩))
  all_goals go_ret
  exact ⟨by first | rfl | simp, HF.out⟩

set_option maxHeartbeats 2000000 in
set_option maxRecDepth 100000 in
theorem right_1_10 (x : NV) (w : World) (hx : x.ok) (hk : x.kind = 1) (h0 : ¬ (x.num < 1)) (h1 : ¬ (64 < x.num)) (h2 : ¬ (x.kind < 1)) (h3 : ¬ (3 < x.kind)) (h4 : ¬ (x.links < 0)) (h5 : ¬ (99 < x.links)) (h6 : ¬ (x.cps < 1)) (h7 : ¬ (2 < x.cps)) (h8 : 0 ≤ x.size) (h9 : x.size ≤ 8192) : Calls Try.prog 17 #[.agg x.cells.toArray] w fun e w' => e = .returned (.bool x.root.right) ∧ Fr0 w w' := by
  have c0 : decide (x.num < 1) = false := decide_eq_false (by omega)
  have c1 : decide (64 < x.num) = false := decide_eq_false (by omega)
  have c2 : decide (x.kind < 1) = false := decide_eq_false (by omega)
  have c3 : decide (3 < x.kind) = false := decide_eq_false (by omega)
  have c4 : decide (x.links < 0) = false := decide_eq_false (by omega)
  have c5 : decide (99 < x.links) = false := decide_eq_false (by omega)
  have c6 : decide (x.cps < 1) = false := decide_eq_false (by omega)
  have c7 : decide (2 < x.cps) = false := decide_eq_false (by omega)
  have c8 : decide (0 ≤ x.size) = true := decide_eq_true (by omega)
  have c9 : decide (x.size ≤ 8192) = true := decide_eq_true (by omega)
  have HCO : Hid (∀ W : World, Calls Try.prog 23 #[.int .i64 x.kind] W fun e w' => e = .returned (.tuple #[.int .i64 1, .int .i64 2]) ∧ W = w') := Lib.hid (fun W => copies_1 x.kind W hk)
  have HRI : Hid (∀ W : World, Calls Try.prog 31 #[.agg x.root.pc.toArray] W fun e w' => e = .returned (.bool x.root.right) ∧ Fr0 W w') := Lib.hid (fun W => right_calls x.root.a x.root.b x.root.s W hx.root.len hx.root.wa hx.root.wb)
  have HIR : Hid ((Try.prog.info? 26).map (·.size) = some x.root.pc.length) := Lib.hid (by rw [info_p, pc_length hx.root])
  have HN : Hid (Bk (w.alloc (.cells x.cells.toArray 30)) w.heap.size x.cells.toArray 30) := Lib.hid (Bk.new w _)
  have HH : Hid (Has (w.alloc (.cells x.cells.toArray 30)) w.heap.size x) := Lib.hid (Has.of hx HN.out)
  have HF : Hid (Fr0 w (w.alloc (.cells x.cells.toArray 30))) := Lib.hid (Fr.alloc (Fr.refl _ _) _)
  have HRT := Lib.hid HH.out.root
  have q0 := HH.out.num
  have q1 := HH.out.kind
  have q2 := HH.out.links
  have q3 := HH.out.size
  have q4 := HH.out.cps
  clear hx hk
  generalize x.cells.toArray = X at *
  generalize x.root.right = rr at *
  generalize x.root.pc = rp at *
  generalize x.num = xn at *
  generalize x.kind = xk at *
  generalize x.links = xl at *
  generalize x.size = xs at *
  generalize x.cps = xc at *
  go_enter Try.func17, Try.ntmps17
  go_wp2_with (first | (go_at_call 23; (with_reducible refine (HCO.out _).mono ?_); rintro e w1 ⟨rfl, rfl⟩) | (refine wpList_load_mid_g (by rfl) 26 _ rfl w.heap.size 3 rfl rp _ HRT.out Try.underlying26 rfl HIR.out ?_) | (go_at_call 31; (with_reducible refine (HRI.out _).mono ?_); rintro e w2 ⟨rfl, hf2⟩; have HF2 := Lib.hid (HF.out.then0 hf2); clear hf2))
  all_goals go_ret
  exact ⟨by first | rfl | simp, HF2.out⟩

set_option maxHeartbeats 2000000 in
set_option maxRecDepth 100000 in
theorem right_2_0 (x : NV) (w : World) (hx : x.ok) (hk : x.kind ≠ 1)  (h0 : x.num < 1) : Calls Try.prog 17 #[.agg x.cells.toArray] w fun e w' => e = .returned (.bool false) ∧ Fr0 w w' := by
  have c0 : decide (x.num < 1) = true := decide_eq_true (by omega)
  have HCO : Hid (∀ W : World, Calls Try.prog 23 #[.int .i64 x.kind] W fun e w' => e = .returned (.tuple #[.int .i64 2, .int .i64 2]) ∧ W = w') := Lib.hid (fun W => copies_2 x.kind W hk)
  have HRI : Hid (∀ W : World, Calls Try.prog 31 #[.agg x.root.pc.toArray] W fun e w' => e = .returned (.bool x.root.right) ∧ Fr0 W w') := Lib.hid (fun W => right_calls x.root.a x.root.b x.root.s W hx.root.len hx.root.wa hx.root.wb)
  have HIR : Hid ((Try.prog.info? 26).map (·.size) = some x.root.pc.length) := Lib.hid (by rw [info_p, pc_length hx.root])
  have HN : Hid (Bk (w.alloc (.cells x.cells.toArray 30)) w.heap.size x.cells.toArray 30) := Lib.hid (Bk.new w _)
  have HH : Hid (Has (w.alloc (.cells x.cells.toArray 30)) w.heap.size x) := Lib.hid (Has.of hx HN.out)
  have HF : Hid (Fr0 w (w.alloc (.cells x.cells.toArray 30))) := Lib.hid (Fr.alloc (Fr.refl _ _) _)
  have HRT := Lib.hid HH.out.root
  have q0 := HH.out.num
  have q1 := HH.out.kind
  have q2 := HH.out.links
  have q3 := HH.out.size
  have q4 := HH.out.cps
  clear hx hk
  generalize x.cells.toArray = X at *
  generalize x.root.right = rr at *
  generalize x.root.pc = rp at *
  generalize x.num = xn at *
  generalize x.kind = xk at *
  generalize x.links = xl at *
  generalize x.size = xs at *
  generalize x.cps = xc at *
  go_enter Try.func17, Try.ntmps17
  go_wp2_with (first | (go_at_call 23; (with_reducible refine (HCO.out _).mono ?_); rintro e w1 ⟨rfl, rfl⟩))
  all_goals go_ret
  exact ⟨by first | rfl | simp, HF.out⟩

set_option maxHeartbeats 2000000 in
set_option maxRecDepth 100000 in
theorem right_2_1 (x : NV) (w : World) (hx : x.ok) (hk : x.kind ≠ 1) (h0 : ¬ (x.num < 1)) (h1 : 64 < x.num) : Calls Try.prog 17 #[.agg x.cells.toArray] w fun e w' => e = .returned (.bool false) ∧ Fr0 w w' := by
  have c0 : decide (x.num < 1) = false := decide_eq_false (by omega)
  have c1 : decide (64 < x.num) = true := decide_eq_true (by omega)
  have HCO : Hid (∀ W : World, Calls Try.prog 23 #[.int .i64 x.kind] W fun e w' => e = .returned (.tuple #[.int .i64 2, .int .i64 2]) ∧ W = w') := Lib.hid (fun W => copies_2 x.kind W hk)
  have HRI : Hid (∀ W : World, Calls Try.prog 31 #[.agg x.root.pc.toArray] W fun e w' => e = .returned (.bool x.root.right) ∧ Fr0 W w') := Lib.hid (fun W => right_calls x.root.a x.root.b x.root.s W hx.root.len hx.root.wa hx.root.wb)
  have HIR : Hid ((Try.prog.info? 26).map (·.size) = some x.root.pc.length) := Lib.hid (by rw [info_p, pc_length hx.root])
  have HN : Hid (Bk (w.alloc (.cells x.cells.toArray 30)) w.heap.size x.cells.toArray 30) := Lib.hid (Bk.new w _)
  have HH : Hid (Has (w.alloc (.cells x.cells.toArray 30)) w.heap.size x) := Lib.hid (Has.of hx HN.out)
  have HF : Hid (Fr0 w (w.alloc (.cells x.cells.toArray 30))) := Lib.hid (Fr.alloc (Fr.refl _ _) _)
  have HRT := Lib.hid HH.out.root
  have q0 := HH.out.num
  have q1 := HH.out.kind
  have q2 := HH.out.links
  have q3 := HH.out.size
  have q4 := HH.out.cps
  clear hx hk
  generalize x.cells.toArray = X at *
  generalize x.root.right = rr at *
  generalize x.root.pc = rp at *
  generalize x.num = xn at *
  generalize x.kind = xk at *
  generalize x.links = xl at *
  generalize x.size = xs at *
  generalize x.cps = xc at *
  go_enter Try.func17, Try.ntmps17
  go_wp2_with (first | (go_at_call 23; (with_reducible refine (HCO.out _).mono ?_); rintro e w1 ⟨rfl, rfl⟩))
  all_goals go_ret
  exact ⟨by first | rfl | simp, HF.out⟩

set_option maxHeartbeats 2000000 in
set_option maxRecDepth 100000 in
theorem right_2_2 (x : NV) (w : World) (hx : x.ok) (hk : x.kind ≠ 1) (h0 : ¬ (x.num < 1)) (h1 : ¬ (64 < x.num)) (h2 : x.kind < 1) : Calls Try.prog 17 #[.agg x.cells.toArray] w fun e w' => e = .returned (.bool false) ∧ Fr0 w w' := by
  have c0 : decide (x.num < 1) = false := decide_eq_false (by omega)
  have c1 : decide (64 < x.num) = false := decide_eq_false (by omega)
  have c2 : decide (x.kind < 1) = true := decide_eq_true (by omega)
  have HCO : Hid (∀ W : World, Calls Try.prog 23 #[.int .i64 x.kind] W fun e w' => e = .returned (.tuple #[.int .i64 2, .int .i64 2]) ∧ W = w') := Lib.hid (fun W => copies_2 x.kind W hk)
  have HRI : Hid (∀ W : World, Calls Try.prog 31 #[.agg x.root.pc.toArray] W fun e w' => e = .returned (.bool x.root.right) ∧ Fr0 W w') := Lib.hid (fun W => right_calls x.root.a x.root.b x.root.s W hx.root.len hx.root.wa hx.root.wb)
  have HIR : Hid ((Try.prog.info? 26).map (·.size) = some x.root.pc.length) := Lib.hid (by rw [info_p, pc_length hx.root])
  have HN : Hid (Bk (w.alloc (.cells x.cells.toArray 30)) w.heap.size x.cells.toArray 30) := Lib.hid (Bk.new w _)
  have HH : Hid (Has (w.alloc (.cells x.cells.toArray 30)) w.heap.size x) := Lib.hid (Has.of hx HN.out)
  have HF : Hid (Fr0 w (w.alloc (.cells x.cells.toArray 30))) := Lib.hid (Fr.alloc (Fr.refl _ _) _)
  have HRT := Lib.hid HH.out.root
  have q0 := HH.out.num
  have q1 := HH.out.kind
  have q2 := HH.out.links
  have q3 := HH.out.size
  have q4 := HH.out.cps
  clear hx hk
  generalize x.cells.toArray = X at *
  generalize x.root.right = rr at *
  generalize x.root.pc = rp at *
  generalize x.num = xn at *
  generalize x.kind = xk at *
  generalize x.links = xl at *
  generalize x.size = xs at *
  generalize x.cps = xc at *
  go_enter Try.func17, Try.ntmps17
  go_wp2_with (first | (go_at_call 23; (with_reducible refine (HCO.out _).mono ?_); rintro e w1 ⟨rfl, rfl⟩))
  all_goals go_ret
  exact ⟨by first | rfl | simp, HF.out⟩

set_option maxHeartbeats 2000000 in
set_option maxRecDepth 100000 in
theorem right_2_3 (x : NV) (w : World) (hx : x.ok) (hk : x.kind ≠ 1) (h0 : ¬ (x.num < 1)) (h1 : ¬ (64 < x.num)) (h2 : ¬ (x.kind < 1)) (h3 : 3 < x.kind) : Calls Try.prog 17 #[.agg x.cells.toArray] w fun e w' => e = .returned (.bool false) ∧ Fr0 w w' := by
  have c0 : decide (x.num < 1) = false := decide_eq_false (by omega)
  have c1 : decide (64 < x.num) = false := decide_eq_false (by omega)
  have c2 : decide (x.kind < 1) = false := decide_eq_false (by omega)
  have c3 : decide (3 < x.kind) = true := decide_eq_true (by omega)
  have HCO : Hid (∀ W : World, Calls Try.prog 23 #[.int .i64 x.kind] W fun e w' => e = .returned (.tuple #[.int .i64 2, .int .i64 2]) ∧ W = w') := Lib.hid (fun W => copies_2 x.kind W hk)
  have HRI : Hid (∀ W : World, Calls Try.prog 31 #[.agg x.root.pc.toArray] W fun e w' => e = .returned (.bool x.root.right) ∧ Fr0 W w') := Lib.hid (fun W => right_calls x.root.a x.root.b x.root.s W hx.root.len hx.root.wa hx.root.wb)
  have HIR : Hid ((Try.prog.info? 26).map (·.size) = some x.root.pc.length) := Lib.hid (by rw [info_p, pc_length hx.root])
  have HN : Hid (Bk (w.alloc (.cells x.cells.toArray 30)) w.heap.size x.cells.toArray 30) := Lib.hid (Bk.new w _)
  have HH : Hid (Has (w.alloc (.cells x.cells.toArray 30)) w.heap.size x) := Lib.hid (Has.of hx HN.out)
  have HF : Hid (Fr0 w (w.alloc (.cells x.cells.toArray 30))) := Lib.hid (Fr.alloc (Fr.refl _ _) _)
  have HRT := Lib.hid HH.out.root
  have q0 := HH.out.num
  have q1 := HH.out.kind
  have q2 := HH.out.links
  have q3 := HH.out.size
  have q4 := HH.out.cps
  clear hx hk
  generalize x.cells.toArray = X at *
  generalize x.root.right = rr at *
  generalize x.root.pc = rp at *
  generalize x.num = xn at *
  generalize x.kind = xk at *
  generalize x.links = xl at *
  generalize x.size = xs at *
  generalize x.cps = xc at *
  go_enter Try.func17, Try.ntmps17
  go_wp2_with (first | (go_at_call 23; (with_reducible refine (HCO.out _).mono ?_); rintro e w1 ⟨rfl, rfl⟩))
  all_goals go_ret
  exact ⟨by first | rfl | simp, HF.out⟩

set_option maxHeartbeats 2000000 in
set_option maxRecDepth 100000 in
theorem right_2_4 (x : NV) (w : World) (hx : x.ok) (hk : x.kind ≠ 1) (h0 : ¬ (x.num < 1)) (h1 : ¬ (64 < x.num)) (h2 : ¬ (x.kind < 1)) (h3 : ¬ (3 < x.kind)) (h4 : x.links < 0) : Calls Try.prog 17 #[.agg x.cells.toArray] w fun e w' => e = .returned (.bool false) ∧ Fr0 w w' := by
  have c0 : decide (x.num < 1) = false := decide_eq_false (by omega)
  have c1 : decide (64 < x.num) = false := decide_eq_false (by omega)
  have c2 : decide (x.kind < 1) = false := decide_eq_false (by omega)
  have c3 : decide (3 < x.kind) = false := decide_eq_false (by omega)
  have c4 : decide (x.links < 0) = true := decide_eq_true (by omega)
  have HCO : Hid (∀ W : World, Calls Try.prog 23 #[.int .i64 x.kind] W fun e w' => e = .returned (.tuple #[.int .i64 2, .int .i64 2]) ∧ W = w') := Lib.hid (fun W => copies_2 x.kind W hk)
  have HRI : Hid (∀ W : World, Calls Try.prog 31 #[.agg x.root.pc.toArray] W fun e w' => e = .returned (.bool x.root.right) ∧ Fr0 W w') := Lib.hid (fun W => right_calls x.root.a x.root.b x.root.s W hx.root.len hx.root.wa hx.root.wb)
  have HIR : Hid ((Try.prog.info? 26).map (·.size) = some x.root.pc.length) := Lib.hid (by rw [info_p, pc_length hx.root])
  have HN : Hid (Bk (w.alloc (.cells x.cells.toArray 30)) w.heap.size x.cells.toArray 30) := Lib.hid (Bk.new w _)
  have HH : Hid (Has (w.alloc (.cells x.cells.toArray 30)) w.heap.size x) := Lib.hid (Has.of hx HN.out)
  have HF : Hid (Fr0 w (w.alloc (.cells x.cells.toArray 30))) := Lib.hid (Fr.alloc (Fr.refl _ _) _)
  have HRT := Lib.hid HH.out.root
  have q0 := HH.out.num
  have q1 := HH.out.kind
  have q2 := HH.out.links
  have q3 := HH.out.size
  have q4 := HH.out.cps
  clear hx hk
  generalize x.cells.toArray = X at *
  generalize x.root.right = rr at *
  generalize x.root.pc = rp at *
  generalize x.num = xn at *
  generalize x.kind = xk at *
  generalize x.links = xl at *
  generalize x.size = xs at *
  generalize x.cps = xc at *
  go_enter Try.func17, Try.ntmps17
  go_wp2_with (first | (go_at_call 23; (with_reducible refine (HCO.out _).mono ?_); rintro e w1 ⟨rfl, rfl⟩))
  all_goals go_ret
  exact ⟨by first | rfl | simp, HF.out⟩

set_option maxHeartbeats 2000000 in
set_option maxRecDepth 100000 in
theorem right_2_5 (x : NV) (w : World) (hx : x.ok) (hk : x.kind ≠ 1) (h0 : ¬ (x.num < 1)) (h1 : ¬ (64 < x.num)) (h2 : ¬ (x.kind < 1)) (h3 : ¬ (3 < x.kind)) (h4 : ¬ (x.links < 0)) (h5 : 99 < x.links) : Calls Try.prog 17 #[.agg x.cells.toArray] w fun e w' => e = .returned (.bool false) ∧ Fr0 w w' := by
  have c0 : decide (x.num < 1) = false := decide_eq_false (by omega)
  have c1 : decide (64 < x.num) = false := decide_eq_false (by omega)
  have c2 : decide (x.kind < 1) = false := decide_eq_false (by omega)
  have c3 : decide (3 < x.kind) = false := decide_eq_false (by omega)
  have c4 : decide (x.links < 0) = false := decide_eq_false (by omega)
  have c5 : decide (99 < x.links) = true := decide_eq_true (by omega)
  have HCO : Hid (∀ W : World, Calls Try.prog 23 #[.int .i64 x.kind] W fun e w' => e = .returned (.tuple #[.int .i64 2, .int .i64 2]) ∧ W = w') := Lib.hid (fun W => copies_2 x.kind W hk)
  have HRI : Hid (∀ W : World, Calls Try.prog 31 #[.agg x.root.pc.toArray] W fun e w' => e = .returned (.bool x.root.right) ∧ Fr0 W w') := Lib.hid (fun W => right_calls x.root.a x.root.b x.root.s W hx.root.len hx.root.wa hx.root.wb)
  have HIR : Hid ((Try.prog.info? 26).map (·.size) = some x.root.pc.length) := Lib.hid (by rw [info_p, pc_length hx.root])
  have HN : Hid (Bk (w.alloc (.cells x.cells.toArray 30)) w.heap.size x.cells.toArray 30) := Lib.hid (Bk.new w _)
  have HH : Hid (Has (w.alloc (.cells x.cells.toArray 30)) w.heap.size x) := Lib.hid (Has.of hx HN.out)
  have HF : Hid (Fr0 w (w.alloc (.cells x.cells.toArray 30))) := Lib.hid (Fr.alloc (Fr.refl _ _) _)
  have HRT := Lib.hid HH.out.root
  have q0 := HH.out.num
  have q1 := HH.out.kind
  have q2 := HH.out.links
  have q3 := HH.out.size
  have q4 := HH.out.cps
  clear hx hk
  generalize x.cells.toArray = X at *
  generalize x.root.right = rr at *
  generalize x.root.pc = rp at *
  generalize x.num = xn at *
  generalize x.kind = xk at *
  generalize x.links = xl at *
  generalize x.size = xs at *
  generalize x.cps = xc at *
  go_enter Try.func17, Try.ntmps17
  go_wp2_with (first | (go_at_call 23; (with_reducible refine (HCO.out _).mono ?_); rintro e w1 ⟨rfl, rfl⟩))
  all_goals go_ret
  exact ⟨by first | rfl | simp, HF.out⟩

set_option maxHeartbeats 2000000 in
set_option maxRecDepth 100000 in
theorem right_2_6 (x : NV) (w : World) (hx : x.ok) (hk : x.kind ≠ 1) (h0 : ¬ (x.num < 1)) (h1 : ¬ (64 < x.num)) (h2 : ¬ (x.kind < 1)) (h3 : ¬ (3 < x.kind)) (h4 : ¬ (x.links < 0)) (h5 : ¬ (99 < x.links)) (h6 : x.cps < 2) : Calls Try.prog 17 #[.agg x.cells.toArray] w fun e w' => e = .returned (.bool false) ∧ Fr0 w w' := by
  have c0 : decide (x.num < 1) = false := decide_eq_false (by omega)
  have c1 : decide (64 < x.num) = false := decide_eq_false (by omega)
  have c2 : decide (x.kind < 1) = false := decide_eq_false (by omega)
  have c3 : decide (3 < x.kind) = false := decide_eq_false (by omega)
  have c4 : decide (x.links < 0) = false := decide_eq_false (by omega)
  have c5 : decide (99 < x.links) = false := decide_eq_false (by omega)
  have c6 : decide (x.cps < 2) = true := decide_eq_true (by omega)
  have HCO : Hid (∀ W : World, Calls Try.prog 23 #[.int .i64 x.kind] W fun e w' => e = .returned (.tuple #[.int .i64 2, .int .i64 2]) ∧ W = w') := Lib.hid (fun W => copies_2 x.kind W hk)
  have HRI : Hid (∀ W : World, Calls Try.prog 31 #[.agg x.root.pc.toArray] W fun e w' => e = .returned (.bool x.root.right) ∧ Fr0 W w') := Lib.hid (fun W => right_calls x.root.a x.root.b x.root.s W hx.root.len hx.root.wa hx.root.wb)
  have HIR : Hid ((Try.prog.info? 26).map (·.size) = some x.root.pc.length) := Lib.hid (by rw [info_p, pc_length hx.root])
  have HN : Hid (Bk (w.alloc (.cells x.cells.toArray 30)) w.heap.size x.cells.toArray 30) := Lib.hid (Bk.new w _)
  have HH : Hid (Has (w.alloc (.cells x.cells.toArray 30)) w.heap.size x) := Lib.hid (Has.of hx HN.out)
  have HF : Hid (Fr0 w (w.alloc (.cells x.cells.toArray 30))) := Lib.hid (Fr.alloc (Fr.refl _ _) _)
  have HRT := Lib.hid HH.out.root
  have q0 := HH.out.num
  have q1 := HH.out.kind
  have q2 := HH.out.links
  have q3 := HH.out.size
  have q4 := HH.out.cps
  clear hx hk
  generalize x.cells.toArray = X at *
  generalize x.root.right = rr at *
  generalize x.root.pc = rp at *
  generalize x.num = xn at *
  generalize x.kind = xk at *
  generalize x.links = xl at *
  generalize x.size = xs at *
  generalize x.cps = xc at *
  go_enter Try.func17, Try.ntmps17
  go_wp2_with (first | (go_at_call 23; (with_reducible refine (HCO.out _).mono ?_); rintro e w1 ⟨rfl, rfl⟩))
  all_goals go_ret
  exact ⟨by first | rfl | simp, HF.out⟩

set_option maxHeartbeats 2000000 in
set_option maxRecDepth 100000 in
theorem right_2_7 (x : NV) (w : World) (hx : x.ok) (hk : x.kind ≠ 1) (h0 : ¬ (x.num < 1)) (h1 : ¬ (64 < x.num)) (h2 : ¬ (x.kind < 1)) (h3 : ¬ (3 < x.kind)) (h4 : ¬ (x.links < 0)) (h5 : ¬ (99 < x.links)) (h6 : ¬ (x.cps < 2)) (h7 : 2 < x.cps) : Calls Try.prog 17 #[.agg x.cells.toArray] w fun e w' => e = .returned (.bool false) ∧ Fr0 w w' := by
  have c0 : decide (x.num < 1) = false := decide_eq_false (by omega)
  have c1 : decide (64 < x.num) = false := decide_eq_false (by omega)
  have c2 : decide (x.kind < 1) = false := decide_eq_false (by omega)
  have c3 : decide (3 < x.kind) = false := decide_eq_false (by omega)
  have c4 : decide (x.links < 0) = false := decide_eq_false (by omega)
  have c5 : decide (99 < x.links) = false := decide_eq_false (by omega)
  have c6 : decide (x.cps < 2) = false := decide_eq_false (by omega)
  have c7 : decide (2 < x.cps) = true := decide_eq_true (by omega)
  have HCO : Hid (∀ W : World, Calls Try.prog 23 #[.int .i64 x.kind] W fun e w' => e = .returned (.tuple #[.int .i64 2, .int .i64 2]) ∧ W = w') := Lib.hid (fun W => copies_2 x.kind W hk)
  have HRI : Hid (∀ W : World, Calls Try.prog 31 #[.agg x.root.pc.toArray] W fun e w' => e = .returned (.bool x.root.right) ∧ Fr0 W w') := Lib.hid (fun W => right_calls x.root.a x.root.b x.root.s W hx.root.len hx.root.wa hx.root.wb)
  have HIR : Hid ((Try.prog.info? 26).map (·.size) = some x.root.pc.length) := Lib.hid (by rw [info_p, pc_length hx.root])
  have HN : Hid (Bk (w.alloc (.cells x.cells.toArray 30)) w.heap.size x.cells.toArray 30) := Lib.hid (Bk.new w _)
  have HH : Hid (Has (w.alloc (.cells x.cells.toArray 30)) w.heap.size x) := Lib.hid (Has.of hx HN.out)
  have HF : Hid (Fr0 w (w.alloc (.cells x.cells.toArray 30))) := Lib.hid (Fr.alloc (Fr.refl _ _) _)
  have HRT := Lib.hid HH.out.root
  have q0 := HH.out.num
  have q1 := HH.out.kind
  have q2 := HH.out.links
  have q3 := HH.out.size
  have q4 := HH.out.cps
  clear hx hk
  generalize x.cells.toArray = X at *
  generalize x.root.right = rr at *
  generalize x.root.pc = rp at *
  generalize x.num = xn at *
  generalize x.kind = xk at *
  generalize x.links = xl at *
  generalize x.size = xs at *
  generalize x.cps = xc at *
  go_enter Try.func17, Try.ntmps17
  go_wp2_with (first | (go_at_call 23; (with_reducible refine (HCO.out _).mono ?_); rintro e w1 ⟨rfl, rfl⟩))
  all_goals go_ret
  exact ⟨by first | rfl | simp, HF.out⟩

set_option maxHeartbeats 2000000 in
set_option maxRecDepth 100000 in
theorem right_2_8 (x : NV) (w : World) (hx : x.ok) (hk : x.kind ≠ 1) (h0 : ¬ (x.num < 1)) (h1 : ¬ (64 < x.num)) (h2 : ¬ (x.kind < 1)) (h3 : ¬ (3 < x.kind)) (h4 : ¬ (x.links < 0)) (h5 : ¬ (99 < x.links)) (h6 : ¬ (x.cps < 2)) (h7 : ¬ (2 < x.cps)) (h8 : ¬ 0 ≤ x.size) : Calls Try.prog 17 #[.agg x.cells.toArray] w fun e w' => e = .returned (.bool false) ∧ Fr0 w w' := by
  have c0 : decide (x.num < 1) = false := decide_eq_false (by omega)
  have c1 : decide (64 < x.num) = false := decide_eq_false (by omega)
  have c2 : decide (x.kind < 1) = false := decide_eq_false (by omega)
  have c3 : decide (3 < x.kind) = false := decide_eq_false (by omega)
  have c4 : decide (x.links < 0) = false := decide_eq_false (by omega)
  have c5 : decide (99 < x.links) = false := decide_eq_false (by omega)
  have c6 : decide (x.cps < 2) = false := decide_eq_false (by omega)
  have c7 : decide (2 < x.cps) = false := decide_eq_false (by omega)
  have c8 : decide (0 ≤ x.size) = false := decide_eq_false (by omega)
  have HCO : Hid (∀ W : World, Calls Try.prog 23 #[.int .i64 x.kind] W fun e w' => e = .returned (.tuple #[.int .i64 2, .int .i64 2]) ∧ W = w') := Lib.hid (fun W => copies_2 x.kind W hk)
  have HRI : Hid (∀ W : World, Calls Try.prog 31 #[.agg x.root.pc.toArray] W fun e w' => e = .returned (.bool x.root.right) ∧ Fr0 W w') := Lib.hid (fun W => right_calls x.root.a x.root.b x.root.s W hx.root.len hx.root.wa hx.root.wb)
  have HIR : Hid ((Try.prog.info? 26).map (·.size) = some x.root.pc.length) := Lib.hid (by rw [info_p, pc_length hx.root])
  have HN : Hid (Bk (w.alloc (.cells x.cells.toArray 30)) w.heap.size x.cells.toArray 30) := Lib.hid (Bk.new w _)
  have HH : Hid (Has (w.alloc (.cells x.cells.toArray 30)) w.heap.size x) := Lib.hid (Has.of hx HN.out)
  have HF : Hid (Fr0 w (w.alloc (.cells x.cells.toArray 30))) := Lib.hid (Fr.alloc (Fr.refl _ _) _)
  have HRT := Lib.hid HH.out.root
  have q0 := HH.out.num
  have q1 := HH.out.kind
  have q2 := HH.out.links
  have q3 := HH.out.size
  have q4 := HH.out.cps
  clear hx hk
  generalize x.cells.toArray = X at *
  generalize x.root.right = rr at *
  generalize x.root.pc = rp at *
  generalize x.num = xn at *
  generalize x.kind = xk at *
  generalize x.links = xl at *
  generalize x.size = xs at *
  generalize x.cps = xc at *
  go_enter Try.func17, Try.ntmps17
  go_wp2_with (first | (go_at_call 23; (with_reducible refine (HCO.out _).mono ?_); rintro e w1 ⟨rfl, rfl⟩))
  all_goals go_ret
  exact ⟨by first | rfl | simp, HF.out⟩

set_option maxHeartbeats 2000000 in
set_option maxRecDepth 100000 in
theorem right_2_9 (x : NV) (w : World) (hx : x.ok) (hk : x.kind ≠ 1) (h0 : ¬ (x.num < 1)) (h1 : ¬ (64 < x.num)) (h2 : ¬ (x.kind < 1)) (h3 : ¬ (3 < x.kind)) (h4 : ¬ (x.links < 0)) (h5 : ¬ (99 < x.links)) (h6 : ¬ (x.cps < 2)) (h7 : ¬ (2 < x.cps)) (h8 : 0 ≤ x.size) (h9 : ¬ x.size ≤ 8192) : Calls Try.prog 17 #[.agg x.cells.toArray] w fun e w' => e = .returned (.bool false) ∧ Fr0 w w' := by
  have c0 : decide (x.num < 1) = false := decide_eq_false (by omega)
  have c1 : decide (64 < x.num) = false := decide_eq_false (by omega)
  have c2 : decide (x.kind < 1) = false := decide_eq_false (by omega)
  have c3 : decide (3 < x.kind) = false := decide_eq_false (by omega)
  have c4 : decide (x.links < 0) = false := decide_eq_false (by omega)
  have c5 : decide (99 < x.links) = false := decide_eq_false (by omega)
  have c6 : decide (x.cps < 2) = false := decide_eq_false (by omega)
  have c7 : decide (2 < x.cps) = false := decide_eq_false (by omega)
  have c8 : decide (0 ≤ x.size) = true := decide_eq_true (by omega)
  have c9 : decide (x.size ≤ 8192) = false := decide_eq_false (by omega)
  have HCO : Hid (∀ W : World, Calls Try.prog 23 #[.int .i64 x.kind] W fun e w' => e = .returned (.tuple #[.int .i64 2, .int .i64 2]) ∧ W = w') := Lib.hid (fun W => copies_2 x.kind W hk)
  have HRI : Hid (∀ W : World, Calls Try.prog 31 #[.agg x.root.pc.toArray] W fun e w' => e = .returned (.bool x.root.right) ∧ Fr0 W w') := Lib.hid (fun W => right_calls x.root.a x.root.b x.root.s W hx.root.len hx.root.wa hx.root.wb)
  have HIR : Hid ((Try.prog.info? 26).map (·.size) = some x.root.pc.length) := Lib.hid (by rw [info_p, pc_length hx.root])
  have HN : Hid (Bk (w.alloc (.cells x.cells.toArray 30)) w.heap.size x.cells.toArray 30) := Lib.hid (Bk.new w _)
  have HH : Hid (Has (w.alloc (.cells x.cells.toArray 30)) w.heap.size x) := Lib.hid (Has.of hx HN.out)
  have HF : Hid (Fr0 w (w.alloc (.cells x.cells.toArray 30))) := Lib.hid (Fr.alloc (Fr.refl _ _) _)
  have HRT := Lib.hid HH.out.root
  have q0 := HH.out.num
  have q1 := HH.out.kind
  have q2 := HH.out.links
  have q3 := HH.out.size
  have q4 := HH.out.cps
  clear hx hk
  generalize x.cells.toArray = X at *
  generalize x.root.right = rr at *
  generalize x.root.pc = rp at *
  generalize x.num = xn at *
  generalize x.kind = xk at *
  generalize x.links = xl at *
  generalize x.size = xs at *
  generalize x.cps = xc at *
  go_enter Try.func17, Try.ntmps17
  go_wp2_with (first | (go_at_call 23; (with_reducible refine (HCO.out _).mono ?_); rintro e w1 ⟨rfl, rfl⟩))
  all_goals go_ret
  exact ⟨by first | rfl | simp, HF.out⟩

set_option maxHeartbeats 2000000 in
set_option maxRecDepth 100000 in
theorem right_2_10 (x : NV) (w : World) (hx : x.ok) (hk : x.kind ≠ 1) (h0 : ¬ (x.num < 1)) (h1 : ¬ (64 < x.num)) (h2 : ¬ (x.kind < 1)) (h3 : ¬ (3 < x.kind)) (h4 : ¬ (x.links < 0)) (h5 : ¬ (99 < x.links)) (h6 : ¬ (x.cps < 2)) (h7 : ¬ (2 < x.cps)) (h8 : 0 ≤ x.size) (h9 : x.size ≤ 8192) : Calls Try.prog 17 #[.agg x.cells.toArray] w fun e w' => e = .returned (.bool x.root.right) ∧ Fr0 w w' := by
  have c0 : decide (x.num < 1) = false := decide_eq_false (by omega)
  have c1 : decide (64 < x.num) = false := decide_eq_false (by omega)
  have c2 : decide (x.kind < 1) = false := decide_eq_false (by omega)
  have c3 : decide (3 < x.kind) = false := decide_eq_false (by omega)
  have c4 : decide (x.links < 0) = false := decide_eq_false (by omega)
  have c5 : decide (99 < x.links) = false := decide_eq_false (by omega)
  have c6 : decide (x.cps < 2) = false := decide_eq_false (by omega)
  have c7 : decide (2 < x.cps) = false := decide_eq_false (by omega)
  have c8 : decide (0 ≤ x.size) = true := decide_eq_true (by omega)
  have c9 : decide (x.size ≤ 8192) = true := decide_eq_true (by omega)
  have HCO : Hid (∀ W : World, Calls Try.prog 23 #[.int .i64 x.kind] W fun e w' => e = .returned (.tuple #[.int .i64 2, .int .i64 2]) ∧ W = w') := Lib.hid (fun W => copies_2 x.kind W hk)
  have HRI : Hid (∀ W : World, Calls Try.prog 31 #[.agg x.root.pc.toArray] W fun e w' => e = .returned (.bool x.root.right) ∧ Fr0 W w') := Lib.hid (fun W => right_calls x.root.a x.root.b x.root.s W hx.root.len hx.root.wa hx.root.wb)
  have HIR : Hid ((Try.prog.info? 26).map (·.size) = some x.root.pc.length) := Lib.hid (by rw [info_p, pc_length hx.root])
  have HN : Hid (Bk (w.alloc (.cells x.cells.toArray 30)) w.heap.size x.cells.toArray 30) := Lib.hid (Bk.new w _)
  have HH : Hid (Has (w.alloc (.cells x.cells.toArray 30)) w.heap.size x) := Lib.hid (Has.of hx HN.out)
  have HF : Hid (Fr0 w (w.alloc (.cells x.cells.toArray 30))) := Lib.hid (Fr.alloc (Fr.refl _ _) _)
  have HRT := Lib.hid HH.out.root
  have q0 := HH.out.num
  have q1 := HH.out.kind
  have q2 := HH.out.links
  have q3 := HH.out.size
  have q4 := HH.out.cps
  clear hx hk
  generalize x.cells.toArray = X at *
  generalize x.root.right = rr at *
  generalize x.root.pc = rp at *
  generalize x.num = xn at *
  generalize x.kind = xk at *
  generalize x.links = xl at *
  generalize x.size = xs at *
  generalize x.cps = xc at *
  go_enter Try.func17, Try.ntmps17
  go_wp2_with (first | (go_at_call 23; (with_reducible refine (HCO.out _).mono ?_); rintro e w1 ⟨rfl, rfl⟩) | (refine wpList_load_mid_g (by rfl) 26 _ rfl w.heap.size 3 rfl rp _ HRT.out Try.underlying26 rfl HIR.out ?_) | (go_at_call 31; (with_reducible refine (HRI.out _).mono ?_); rintro e w2 ⟨rfl, hf2⟩; have HF2 := Lib.hid (HF.out.then0 hf2); clear hf2))
  all_goals go_ret
  exact ⟨by first | rfl | simp, HF2.out⟩

theorem nright_calls (x : NV) (w : World) (hx : x.ok) : Calls Try.prog 17 #[.agg x.cells.toArray] w fun e w' => e = .returned (.bool (nR x)) ∧ Fr0 w w' := by
  by_cases hk : x.kind = 1
  · by_cases h0 : x.num < 1
    · rw [show nR x = false by rw [nR, decide_eq_false (by omega), Bool.false_and]]; exact right_1_0 x w hx hk h0
    by_cases h1 : 64 < x.num
    · rw [show nR x = false by rw [nR, decide_eq_false (by omega), Bool.false_and]]; exact right_1_1 x w hx hk h0 h1
    by_cases h2 : x.kind < 1
    · rw [show nR x = false by rw [nR, decide_eq_false (by omega), Bool.false_and]]; exact right_1_2 x w hx hk h0 h1 h2
    by_cases h3 : 3 < x.kind
    · rw [show nR x = false by rw [nR, decide_eq_false (by omega), Bool.false_and]]; exact right_1_3 x w hx hk h0 h1 h2 h3
    by_cases h4 : x.links < 0
    · rw [show nR x = false by rw [nR, decide_eq_false (by omega), Bool.false_and]]; exact right_1_4 x w hx hk h0 h1 h2 h3 h4
    by_cases h5 : 99 < x.links
    · rw [show nR x = false by rw [nR, decide_eq_false (by omega), Bool.false_and]]; exact right_1_5 x w hx hk h0 h1 h2 h3 h4 h5
    by_cases h6 : x.cps < 1
    · rw [show nR x = false by rw [nR, decide_eq_false (by omega), Bool.false_and]]; exact right_1_6 x w hx hk h0 h1 h2 h3 h4 h5 h6
    by_cases h7 : 2 < x.cps
    · rw [show nR x = false by rw [nR, decide_eq_false (by omega), Bool.false_and]]; exact right_1_7 x w hx hk h0 h1 h2 h3 h4 h5 h6 h7
    by_cases h8 : 0 ≤ x.size
    · by_cases h9 : x.size ≤ 8192
      · rw [show nR x = x.root.right by rw [nR, decide_eq_true (by omega), Bool.true_and]]; exact right_1_10 x w hx hk h0 h1 h2 h3 h4 h5 h6 h7 h8 h9
      · rw [show nR x = false by rw [nR, decide_eq_false (by omega), Bool.false_and]]; exact right_1_9 x w hx hk h0 h1 h2 h3 h4 h5 h6 h7 h8 h9
    · rw [show nR x = false by rw [nR, decide_eq_false (by omega), Bool.false_and]]; exact right_1_8 x w hx hk h0 h1 h2 h3 h4 h5 h6 h7 h8
  · by_cases h0 : x.num < 1
    · rw [show nR x = false by rw [nR, decide_eq_false (by omega), Bool.false_and]]; exact right_2_0 x w hx hk h0
    by_cases h1 : 64 < x.num
    · rw [show nR x = false by rw [nR, decide_eq_false (by omega), Bool.false_and]]; exact right_2_1 x w hx hk h0 h1
    by_cases h2 : x.kind < 1
    · rw [show nR x = false by rw [nR, decide_eq_false (by omega), Bool.false_and]]; exact right_2_2 x w hx hk h0 h1 h2
    by_cases h3 : 3 < x.kind
    · rw [show nR x = false by rw [nR, decide_eq_false (by omega), Bool.false_and]]; exact right_2_3 x w hx hk h0 h1 h2 h3
    by_cases h4 : x.links < 0
    · rw [show nR x = false by rw [nR, decide_eq_false (by omega), Bool.false_and]]; exact right_2_4 x w hx hk h0 h1 h2 h3 h4
    by_cases h5 : 99 < x.links
    · rw [show nR x = false by rw [nR, decide_eq_false (by omega), Bool.false_and]]; exact right_2_5 x w hx hk h0 h1 h2 h3 h4 h5
    by_cases h6 : x.cps < 2
    · rw [show nR x = false by rw [nR, decide_eq_false (by omega), Bool.false_and]]; exact right_2_6 x w hx hk h0 h1 h2 h3 h4 h5 h6
    by_cases h7 : 2 < x.cps
    · rw [show nR x = false by rw [nR, decide_eq_false (by omega), Bool.false_and]]; exact right_2_7 x w hx hk h0 h1 h2 h3 h4 h5 h6 h7
    by_cases h8 : 0 ≤ x.size
    · by_cases h9 : x.size ≤ 8192
      · rw [show nR x = x.root.right by rw [nR, decide_eq_true (by omega), Bool.true_and]]; exact right_2_10 x w hx hk h0 h1 h2 h3 h4 h5 h6 h7 h8 h9
      · rw [show nR x = false by rw [nR, decide_eq_false (by omega), Bool.false_and]]; exact right_2_9 x w hx hk h0 h1 h2 h3 h4 h5 h6 h7 h8 h9
    · rw [show nR x = false by rw [nR, decide_eq_false (by omega), Bool.false_and]]; exact right_2_8 x w hx hk h0 h1 h2 h3 h4 h5 h6 h7 h8

end Go.Proofs.Ytfjkbabeceaelaa.InoKit
