/- The theorems that the claim uses, text behind text (part 5). -/
import Derived.Test.YtmkmpfnadcmcoaaGreatDoorYaa
import Derived.Test.YtmkmpfnadcmcoaaGreatDoorYad
import Derived.Laws.AppendOwn
import Derived.Laws.Tables
set_option maxRecDepth 100000
set_option maxHeartbeats 8000000
set_option linter.unusedVariables false
set_option linter.unusedSimpArgs false
namespace Go.Proofs.YtmkmpfnadcmcoaaGreatDoor.GApp
open Go Go.RowKit K ArrKit HeldKit GKit GRow
theorem fold_lay : ∀ (l : List Value) (s off : Nat) (cs : Array Value), (l.zipIdx s).foldl (fun cs (x : Value × Nat) => cs.setIfInBounds (off + x.2) x.1) cs = lay cs (off + s) l
 | [], _, _, _ => rfl
 | v :: r, s, off, cs => by
  rw [List.zipIdx_cons, List.foldl_cons, fold_lay r (s + 1) off, lay, Nat.add_assoc]
theorem fill_lay (X : Array Value) (off : Nat) (cs : Array Value) : X.zipIdx.foldl (fun cs (x : Value × Nat) => cs.setIfInBounds (off + x.2) x.1) cs = lay cs off X.toList := by
 have := fold_lay X.toList 0 off cs
 rw [Nat.add_zero] at this
 rw [← this, ← Array.foldl_toList, Array.toList_zipIdx]
theorem lay_all (cs : Array Value) (X : Array Value) (h : cs.size = X.size) : lay cs 0 X.toList = X := by
 apply Array.ext_getElem?
 intro i
 rw [lay_get, Array.length_toList]
 by_cases hi : i < X.size
 ·rw [if_pos (by omega), Nat.sub_zero, Array.getElem?_toList]
 ·rw [if_neg (by omega), Array.getElem?_eq_none (by omega), Array.getElem?_eq_none (by omega)]
section
variable {P : Program}
theorem run_build_op {o : Oper} {a : Act} {w : World} (t : TypeId) (parts : Array (Nat × Operand)) (ho : o.op = .build t parts) (L : List (Nat × Value)) (hp : (parts.map fun (i, x) => (i, a.eval x)).toList = L) (cs : Array Value) (hf : P.built t L = some cs) : (execOp a.eval o).run P w = .ok (.value (.agg cs)) w := by
 unfold execOp
 simp only [ho, Sem.run_bind, run_build w t _ cs (by rw [hp];exact hf), Result.andThen_ok, Sem.run_pure]
theorem run_buildSlice_one (w : World) (t e : TypeId) (i : TypeInfo) (z : Value) (k : Nat) (ht : P.underlying t = some (.slice e)) (hi : P.info? e = some i) (hz : i.zero = some z) (hsize : i.size = k) (hk : 0 < k) (hk2 : k ≤ 16777216)
  (X : Array Value) (hX : X.size = k) : (Instr.buildSlice t 1 #[(0, .agg X)]).run P w = .ok (.slice (some ⟨w.heap.size, 0, none⟩) 1 1) (w.alloc (.cells X e)) := by
 have h1 : ¬ (16777216 < k) := by omega
 have h2 : ¬ k = 0 := by omega
 have hl := lay_all ((Array.range k).map fun x => z.cells[x % z.cells.size]!) X (by simp [hX])
 have hf := fill_lay X 0 ((Array.range k).map fun x => z.cells[x % z.cells.size]!)
 rw [hl] at hf
 have hfill : Instr.fill (fun i => some (i * k, k)) ((Array.range k).map fun x => z.cells[x % z.cells.size]!) [(0, Value.agg X)] = some X := by
  have hc : (Value.agg X).cells.size = k := hX
  have hc2 : (Value.agg X).cells = X := rfl
  unfold Instr.fill
  simp only [Nat.zero_mul, hc2, hX]
  rw [if_neg (by simp)]
  unfold Instr.fill
  rw [hf]
 simp [Instr.buildSlice, run_underlying ht, sizeOf, typeInfo, hi, hsize, h1, h2, zeroValue, hz, newRow, hfill]
theorem run_buildSlice_nil (w : World) (t e : TypeId) (i : TypeInfo) (ht : P.underlying t = some (.slice e)) (hi : P.info? e = some i) : (Instr.buildSlice t 0 #[]).run P w = .ok (.slice (some ⟨w.heap.size, 0, none⟩) 0 0) (w.alloc (.cells #[] e)) := by
 have h0 : (Array.range 0) = #[] := rfl
 simp [Instr.buildSlice, run_underlying ht, sizeOf, typeInfo, hi, newRow, Instr.fill, h0]
theorem wp_buildSlice_nil {o : Oper} {a : Act} {w : World} {K : Act → World → Prop} {Q : Exit → Act → World → Prop} (t : TypeId) (ho : o.op = .buildSlice t 0 #[]) (e : TypeId) (i : TypeInfo) (ht : P.underlying t = some (.slice e)) (hi : P.info? e = some i)
  (h : K (a.put o.dst (.slice (some ⟨w.heap.size, 0, none⟩) 0 0)) (w.alloc (.cells #[] e))) : o.wp P a w K Q := by
 unfold Oper.wp execOp
 have hr := run_buildSlice_nil (P := P) w t e i ht hi
 simp only [ho, Sem.run_bind, List.map_toArray, List.map_nil, hr, Result.andThen_ok]
 exact h
theorem wp_buildSlice_one {o : Oper} {a : Act} {w : World} {K : Act → World → Prop} {Q : Exit → Act → World → Prop} (t : TypeId) (x : Operand) (ho : o.op = .buildSlice t 1 #[(0, x)]) (e : TypeId) (i : TypeInfo) (z : Value) (k : Nat) (ht : P.underlying t = some (.slice e)) (hi : P.info? e = some i) (hz : i.zero = some z) (hsize : i.size = k) (hk : 0 < k) (hk2 : k ≤ 16777216)
  (X : Array Value) (hX : X.size = k) (hx : a.eval x = .agg X) (h : K (a.put o.dst (.slice (some ⟨w.heap.size, 0, none⟩) 1 1)) (w.alloc (.cells X e))) : o.wp P a w K Q := by
 unfold Oper.wp execOp
 have hr := run_buildSlice_one (P := P) w t e i z k ht hi hz hsize hk hk2 X hX
 simp only [ho, Sem.run_bind, List.map_toArray, List.map_cons, List.map_nil, hx, hr, Result.andThen_ok]
 exact h
variable {α : Type} {f : α → List Value} {k : Nat} {e : TypeId}
theorem RdG.none_len {w : World} {l : List α} (h : RdG f k w none l) : l.length = 0 := by
 rcases Nat.eq_zero_or_pos l.length with h0 | h0
 ·exact h0
 ·obtain ⟨b, o, e, -⟩ := h 0 h0
  cases e
theorem run_append_one (w : World) (t ty : TypeId) (i : TypeInfo) (z : Value) (bytes : Nat) (ht : P.underlying t = some (.slice e)) (hi : P.info? e = some i) (hz : i.zero = some z)
  (hsize : i.size = k) (hby : i.bytes = bytes) (hzs : z.cells.size = k) (hk : 0 < k) (A : Option Addr) (n : Nat) (l : List α) (hn : l.length = n) (hrd : RdG f k w A l) (hf : ∀ x ∈ l, (f x).length = k)
  (g1 c1 : Nat) (x : α) (hx : (f x).length = k) (hg1 : Bk w g1 (f x).toArray e) (h63 : n + 1 ≤ 9223372036854775807) (hbytes : (n + 1) * bytes ≤ 140737488355328) (hA : A = none → n = 0) :
  ∃ g cap cur w', (Builtin.append_ #[t, t] ty #[.slice A n n, .slice (some ⟨g1, 0, none⟩) 1 c1]).run P w = .ok (.slice (some ⟨g, 0, none⟩) (n + 1) cap) w' ∧ w.heap.size ≤ g ∧ OwnG f k e w' g cap cur (l ++ [x]) ∧ Fr0 w w' := by
 have hfl : ∀ y ∈ l ++ [x], (f y).length = k := fun y hy => by
  rcases List.mem_append.1 hy with h | h
  ·exact hf y h
  ·simp only [List.mem_cons, List.not_mem_nil, or_false] at h;subst h;exact hx
 have hnews : ∀ (j : Nat) (u : Value), (f x)[j]? = some u → w.cell? ((⟨g1, 0, none⟩ : Addr).add j) = some u := fun j u hu => by
  rw [add_form, Nat.zero_add, Bk.cell hg1, List.getElem?_toArray];exact hu
 have hlo : (flat f l).length = n * k := by rw [flat_length hf, hn]
 have key : ∀ (olds : List Value) (hO : olds = flat f l), OwnG f k e (w.drew.alloc (.cells (olds.toArray ++ (f x).toArray ++ Builtin.zeroCells z.cells (grownCap w (n + 1) n e - (n + 1))) e)) w.heap.size (grownCap w (n + 1) n e) (olds.toArray ++ (f x).toArray ++ Builtin.zeroCells z.cells (grownCap w (n + 1) n e - (n + 1))) (l ++ [x]) := by
  intro olds hO
  subst hO
  have hge := grownCap_ge w (n + 1) n e
  have hcm := grownCap_le_maxLen w (n + 1) n e (by unfold maxLen;omega)
  have hz' : (Builtin.zeroCells z.cells (grownCap w (n + 1) n e - (n + 1))).size = (grownCap w (n + 1) n e - (n + 1)) * k := by rw [size_zeroCells, hzs]
  refine ⟨heap_alloc_new w.drew _, by simp;omega, hcm, ?_, fun i hi j u hj => ?_⟩
  ·rw [Array.size_append, Array.size_append, List.size_toArray, List.size_toArray, hlo, hx, hz']
   rw [← Nat.succ_mul, ← Nat.add_mul]
   congr 1
   omega
  ·have hjk : j < k := by
    have := (List.getElem?_eq_some_iff.1 hj).1
    rwa [hfl _ (List.getElem_mem hi)] at this
   have h1 := flat_get hfl i hi j hjk
   rw [hj, flat_append] at h1
   have e1 : flat f [x] = f x := by rw [flat_cons, flat_nil, List.append_nil]
   rw [e1] at h1
   have hlt := (List.getElem?_eq_some_iff.1 h1).1
   rw [Array.getElem?_append_left (by simpa using hlt), List.append_toArray, List.getElem?_toArray]
   exact h1
 have fr : ∀ o, Fr0 w (w.drew.alloc o) := fun o => Fr.alloc (Fr.drew (Fr.refl _ _)) o
 cases A with
 | none =>
  have := hA rfl
  subst this
  have hl : l = [] := List.eq_nil_of_length_eq_zero hn
  subst hl
  have hr := run_append_nil (P := P) w t ty e i z ht hi hz ⟨g1, 0, none⟩ 1 c1 (f x) (by rw [hx, hsize, Nat.one_mul]) hnews (by omega) (by omega) (by rw [hby];omega)
  have hk2 := key [] rfl
  rw [Nat.zero_add] at hk2
  have e2 : (([] : List Value).toArray ++ (f x).toArray) = (f x).toArray := by simp
  rw [e2] at hk2
  exact ⟨w.heap.size, grownCap w 1 0 e, _, _, hr, Nat.le_refl _, hk2, fr _⟩
 | some b =>
  have hsp : ∀ (j : Nat) (u : Value), (flat f l)[j]? = some u → w.cell? (b.add j) = some u := by
   by_cases h0 : 0 < l.length
   ·obtain ⟨b', o', e', -⟩ := hrd 0 h0
    obtain rfl := Option.some.inj e'
    exact hrd.cells hf hk
   ·have : l = [] := List.eq_nil_of_length_eq_zero (by omega)
    subst this
    intro j u hu;simp [flat_nil] at hu
  have hr := run_append_grow (P := P) w t ty e i z ht hi hz b n n (flat f l) (by rw [hlo, hsize]) hsp ⟨g1, 0, none⟩ 1 c1 (f x) (by rw [hx, hsize, Nat.one_mul]) hnews (by omega) (by omega) (by rw [hby];exact growslice_fits (by omega) hbytes)
  exact ⟨w.heap.size, _, _, _, hr, Nat.le_refl _, key _ rfl, fr _⟩
theorem run_append_own1 (w : World) (t ty : TypeId) (i : TypeInfo) (z : Value) (bytes base : Nat) (ht : P.underlying t = some (.slice e)) (hi : P.info? e = some i) (hz : i.zero = some z)
  (hsize : i.size = k) (hby : i.bytes = bytes) (hzs : z.cells.size = k) (hk : 0 < k) (g0 cap0 : Nat) (cur0 : Array Value) (n : Nat) (l : List α) (hn : l.length = n) (hown : OwnG f k e w g0 cap0 cur0 l) (hb : base ≤ g0) (hf : ∀ x ∈ l, (f x).length = k)
  (g1 c1 : Nat) (x : α) (hx : (f x).length = k) (hone : ∀ v ∈ f x, v.oneCell' = true) (hg1 : Bk w g1 (f x).toArray e) (h63 : n + 1 ≤ 9223372036854775807) (hbytes : (n + 1) * bytes ≤ 140737488355328) :
  ∃ g cap cur w', (Builtin.append_ #[t, t] ty #[.slice (some ⟨g0, 0, none⟩) n cap0, .slice (some ⟨g1, 0, none⟩) 1 c1]).run P w = .ok (.slice (some ⟨g, 0, none⟩) (n + 1) cap) w' ∧ base ≤ g ∧ OwnG f k e w' g cap cur (l ++ [x]) ∧ Fr (fun i => i = g0) w w' := by
 subst hn
 have hfl : ∀ y ∈ l ++ [x], (f y).length = k := fun y hy => by
  rcases List.mem_append.1 hy with h | h
  ·exact hf y h
  ·simp only [List.mem_cons, List.not_mem_nil, or_false] at h;subst h;exact hx
 have hnews : ∀ (j : Nat) (u : Value), (f x)[j]? = some u → w.cell? ((⟨g1, 0, none⟩ : Addr).add j) = some u := fun j u hu => by
  rw [add_form, Nat.zero_add, Bk.cell hg1, List.getElem?_toArray];exact hu
 obtain ⟨v', w', hr, ho, hgr, -⟩ := run_append_own (P := P) w base t ty e i z k bytes ht hi hz hsize hby hzs hk _ l.length (flat f l) (own_row hf hown hb) ⟨g1, 0, none⟩ 1 c1 (f x) (by rw [hx, Nat.one_mul]) hnews hone (by unfold maxLen;omega) hbytes (Nat.le_of_lt (Nat.lt_of_le_of_lt hb (Bk.lt hown.blk)))
 have e1 : flat f l ++ f x = flat f (l ++ [x]) := by rw [flat_append, flat_cons, flat_nil, List.append_nil]
 rw [e1] at ho
 obtain ⟨g, cap, cur, rfl, hbg, hog⟩ := own_of hfl hk ho (by simp) (by omega)
 exact ⟨g, cap, cur, w', hr, hbg, hog, hgr.os, hgr.tape, hgr.output, hgr.size, fun i hi hs => hgr.block i hi (by simp only [Value.ownBlock];intro e;cases e;exact hs rfl)⟩
theorem wp_append_run {o : Oper} {a : Act} {w w' : World} {K : Act → World → Prop} {Q : Exit → Act → World → Prop} (s x : Operand) (t : TypeId) (ho : o.op = .call { callee := .builtin .append, args := #[s, x], argTypes := #[t, t] }) (vs vx v : Value) (hs : a.eval s = vs) (hx : a.eval x = vx)
  (hr : (Builtin.append_ #[t, t] o.type #[vs, vx]).run P w = .ok v w') (h : K (a.put o.dst v) w') : o.wp P a w K Q := by
 unfold Oper.wp execOp
 simp only [ho, resolve, invoke, builtin, Sem.run_bind, Sem.run_pure, Result.andThen_ok, List.map_toArray, List.map_cons, List.map_nil, hs, hx, hr]
 exact h
end
end Go.Proofs.YtmkmpfnadcmcoaaGreatDoor.GApp
namespace Go.Proofs.YtmkmpfnadcmcoaaGreatDoor.RmRight
open Go Go.RowKit K EqKit ArrKit HeldKit GKit GRow DiskKit RmKit MapKit
def pok (h s : Int) (p : Int × Int) : Bool := usableB p.1 h && decide (2 * h ≤ p.2) && decide (p.2 < s)
def stepB (h s : Int) (l : List (Int × Int)) (i : Nat) : Bool := pok h s (l.getD i (0, 0)) && !(((l.take i).map (·.1)).contains (l.getD i (0, 0)).1) && !(((l.take i).map (·.2)).contains (l.getD i (0, 0)).2)
def tabB (m : Rm) (s : Int) : Bool := decide (half s ≠ 0) && decide (0 ≤ m.gen) && decide (m.gen ≤ 4611686018427387904) && decide (m.ps.length ≤ 20) && (List.range m.ps.length).all (stepB (half s) s m.ps)
theorem all_no {f : Nat → Bool} {n i : Nat} (hi : i < n) (h : f i = false) : (List.range n).all f = false := by
 rw [List.all_eq_false]
 exact ⟨i, List.mem_range.2 hi, by simp [h]⟩
theorem all_yes {f : Nat → Bool} {n : Nat} (h : ∀ i, i < n → f i = true) : (List.range n).all f = true := by
 rw [List.all_eq_true]
 exact fun i hi => h i (List.mem_range.1 hi)
theorem PR_all (p : Int × Int) : (PR p).toArray.all (·.oneCell') = true := by
 rw [Array.all_eq_true']
 intro v hv
 exact PR_one p v (by simpa using hv)
theorem wp_mapUpdate_run {P : Program} {o : Oper} {a : Act} {w w' : World} {K : Act → World → Prop} {Q : Exit → Act → World → Prop} (m x v : Operand) (t : TypeId) (hop : o.op = Op.mapUpdate t m x v) (M X V : Value) (hm : a.eval m = M) (hx : a.eval x = X) (hv : a.eval v = V)
  (hr : (Instr.mapUpdate t M X V).run P w = .ok () w') (h : K (a.put o.dst undef) w') : o.wp P a w K Q := by
 unfold Oper.wp
 simp [execOp, hop, hm, hx, hv, hr, Result.andThen]
 exact h
theorem PR_0 (f t : Int) : (PR (f, t)).toArray[0]? = some (.int .i64 f) := rfl
theorem PR_1 (f t : Int) : (PR (f, t)).toArray[1]? = some (.int .i64 t) := rfl
def MZ : Array Value := #[.map none, .map none]
def PZ2 : Array Value := #[.int .i64 0, .int .i64 0]
theorem zero_m (W : World) : (zeroValue 102).run Tryz.prog W = .ok (.agg MZ) W := by kernel_rfl
theorem zero_pr (W : World) : (zeroValue 70).run Tryz.prog W = .ok (.agg PZ2) W := by kernel_rfl
theorem zero_b (W : World) : (zeroValue 4).run Tryz.prog W = .ok (.bool false) W := by kernel_rfl

theorem right_no (m : Rm) (a : Option Addr) (c : Nat) (s : Int) (w : World) (hs : (Lit.int .i64 s).wf = true) (hn : half s = 0 ∨ m.gen < 0 ∨ 4611686018427387904 < m.gen ∨ 20 < m.ps.length) : Calls Tryz.prog 38 #[.agg (rval m a c), .int .i64 s] w fun e w' => e = .returned (.bool false) ∧ Fr0 w w' := by
 have HX : Jq7 (Bk (w.alloc (.cells (rval m a c) 28)) w.heap.size (rval m a c) 28) := jq7 (Bk.new w _)
 have c0 : (w.alloc (.cells (rval m a c) 28)).cell? ⟨w.heap.size, 0, none⟩ = some (.int .i64 m.gen) := Bk.cell HX.o 0
 have c1 : (w.alloc (.cells (rval m a c) 28)).cell? ⟨w.heap.size, 1, none⟩ = some (.slice a m.ps.length c) := Bk.cell HX.o 1
 have HHF : Jq7 (∀ W, Calls Tryz.prog 40 #[.int .i64 s] W fun e w' => e = .returned (.int .i64 (half s)) ∧ w' = W) := jq7 (fun W => half_calls s W hs)
 clear HX
 generalize rval m a c = X at *
 by_cases h1 : half s = 0
 ·rw [h1] at HHF
  clear hn h1
  go_enter Tryz.func38, Tryz.ntmps38
  go_wp2_with (first | (go_at_call 40;(with_reducible refine (HHF.o _).mono ?_);rintro e w1 ⟨rfl, rfl⟩))
  go_ret
  exact ⟨rfl, Fr.alloc (Fr.refl _ _) _⟩
 have hr := half_range s
 have h1b : (half s == 0) = false := by simpa using h1
 by_cases h2 : m.gen < 0
 ·clear hn
  go_enter Tryz.func38, Tryz.ntmps38
  go_wp2_with (first | (go_at_call 40;(with_reducible refine (HHF.o _).mono ?_);rintro e w1 ⟨rfl, rfl⟩))
  go_ret
  exact ⟨rfl, Fr.alloc (Fr.refl _ _) _⟩
 by_cases h3 : 4611686018427387904 < m.gen
 ·clear hn
  go_enter Tryz.func38, Tryz.ntmps38
  go_wp2_with (first | (go_at_call 40;(with_reducible refine (HHF.o _).mono ?_);rintro e w1 ⟨rfl, rfl⟩))
  go_ret
  exact ⟨rfl, Fr.alloc (Fr.refl _ _) _⟩
 ·have h4 : 20 < m.ps.length := by omega
  clear hn
  go_enter Tryz.func38, Tryz.ntmps38
  go_wp2_with (first | (go_at_call 40;(with_reducible refine (HHF.o _).mono ?_);rintro e w1 ⟨rfl, rfl⟩))
  go_ret
  exact ⟨rfl, Fr.alloc (Fr.refl _ _) _⟩

theorem right_loop (m : Rm) (a : Option Addr) (c : Nat) (s : Int) (w : World) (hok : m.ok) (hv : RV w m a c) (hs : (Lit.int .i64 s).wf = true) (h1 : half s ≠ 0) (h2 : 0 ≤ m.gen) (h3 : m.gen ≤ 4611686018427387904) (h4 : m.ps.length ≤ 20) : Calls Tryz.prog 38 #[.agg (rval m a c), .int .i64 s] w fun e w' => e = .returned (.bool ((List.range m.ps.length).all (stepB (half s) s m.ps))) ∧ Fr0 w w' := by
 have HX : Jq7 (Bk (w.alloc (.cells (rval m a c) 28)) w.heap.size (rval m a c) 28) := jq7 (Bk.new w _)
 have c0 : (w.alloc (.cells (rval m a c) 28)).cell? ⟨w.heap.size, 0, none⟩ = some (.int .i64 m.gen) := Bk.cell HX.o 0
 have c1 : (w.alloc (.cells (rval m a c) 28)).cell? ⟨w.heap.size, 1, none⟩ = some (.slice a m.ps.length c) := Bk.cell HX.o 1
 have HHF : Jq7 (∀ W, Calls Tryz.prog 40 #[.int .i64 s] W fun e w' => e = .returned (.int .i64 (half s)) ∧ w' = W) := jq7 (fun W => half_calls s W hs)
 have hl := half_lo h1
 have HV := jq7 hv
 have HPW := jq7 hok.p
 have hzm := zero_m
 have hzp := zero_pr
 have hmm := @run_makeMap Tryz.prog
 have HF0 : Jq7 (Fr0 w (w.alloc (.cells (rval m a c) 28))) := jq7 (Fr.alloc (Fr.refl _ _) _)
 clear hv hok HX
 have p0 : (rval m a c)[0]? = some (.int .i64 m.gen) := rfl
 have p1 : (rval m a c)[1]? = some (.slice a m.ps.length c) := rfl
 have h2b : decide (m.gen < 0) = false := decide_eq_false (by omega)
 have h3b : decide (4611686018427387904 < m.gen) = false := decide_eq_false (by omega)
 have h4b : decide (20 < (m.ps.length : Int)) = false := decide_eq_false (by omega)
 generalize rval m a c = X at *
 have h1b : (half s == 0) = false := by simpa using h1
 generalize hH : half s = h at *
 clear hH
 go_enter Tryz.func38, Tryz.ntmps38
 go_wp2_with (first | (go_at_call 40;(with_reducible refine (HHF.o _).mono ?_);rintro e w1 ⟨rfl, rfl⟩))
 have hs1 : (w.alloc (.cells X 28)).heap.size = w.heap.size + 1 := by simp
 have hs2 : ((w.alloc (.cells X 28)).alloc (.cells ((MZ.setIfInBounds 0 (.map (some (w.heap.size + 1 + 1)))).setIfInBounds 1 (.map (some (w.heap.size + 1 + 1 + 1)))) 102)).heap.size = w.heap.size + 1 + 1 := by simp
 have hs3 : (((w.alloc (.cells X 28)).alloc (.cells ((MZ.setIfInBounds 0 (.map (some (w.heap.size + 1 + 1)))).setIfInBounds 1 (.map (some (w.heap.size + 1 + 1 + 1)))) 102)).alloc (.map #[] 0)).heap.size = w.heap.size + 1 + 1 + 1 := by simp
 have HXB : Jq7 (Bk ((((w.alloc (.cells X 28)).alloc (.cells ((MZ.setIfInBounds 0 (.map (some (w.heap.size + 1 + 1)))).setIfInBounds 1 (.map (some (w.heap.size + 1 + 1 + 1)))) 102)).alloc (.map #[] 0)).alloc (.map #[] 0)) w.heap.size X 28) := jq7 (Bk.alloc (Bk.alloc (Bk.alloc (Bk.new w _) _) _) _)
 have HMB : Jq7 (Bk ((((w.alloc (.cells X 28)).alloc (.cells ((MZ.setIfInBounds 0 (.map (some (w.heap.size + 1 + 1)))).setIfInBounds 1 (.map (some (w.heap.size + 1 + 1 + 1)))) 102)).alloc (.map #[] 0)).alloc (.map #[] 0)) (w.heap.size + 1) #[.map (some (w.heap.size + 1 + 1)), .map (some (w.heap.size + 1 + 1 + 1))] 102) := jq7 (Bk.alloc (Bk.alloc (by have := Bk.new (w.alloc (.cells X 28)) (.cells ((MZ.setIfInBounds 0 (.map (some (w.heap.size + 1 + 1)))).setIfInBounds 1 (.map (some (w.heap.size + 1 + 1 + 1)))) 102);rwa [hs1] at this) _) _)
 have HI0 : Jq7 (IM ((((w.alloc (.cells X 28)).alloc (.cells ((MZ.setIfInBounds 0 (.map (some (w.heap.size + 1 + 1)))).setIfInBounds 1 (.map (some (w.heap.size + 1 + 1 + 1)))) 102)).alloc (.map #[] 0)).alloc (.map #[] 0)) Tryz.prog 3 4 (w.heap.size + 1 + 1) []) := jq7 (IM.keep (by have := IM.made ((w.alloc (.cells X 28)).alloc (.cells ((MZ.setIfInBounds 0 (.map (some (w.heap.size + 1 + 1)))).setIfInBounds 1 (.map (some (w.heap.size + 1 + 1 + 1)))) 102)) Tryz.prog 3 4;rwa [hs2] at this) (Fr.alloc (Fr.refl (fun _ => False) _) _) (fun h => h))
 have HI1 : Jq7 (IM ((((w.alloc (.cells X 28)).alloc (.cells ((MZ.setIfInBounds 0 (.map (some (w.heap.size + 1 + 1)))).setIfInBounds 1 (.map (some (w.heap.size + 1 + 1 + 1)))) 102)).alloc (.map #[] 0)).alloc (.map #[] 0)) Tryz.prog 3 4 (w.heap.size + 1 + 1 + 1) []) := jq7 (by have := IM.made (((w.alloc (.cells X 28)).alloc (.cells ((MZ.setIfInBounds 0 (.map (some (w.heap.size + 1 + 1)))).setIfInBounds 1 (.map (some (w.heap.size + 1 + 1 + 1)))) 102)).alloc (.map #[] 0)) Tryz.prog 3 4;rwa [hs3] at this)
 have HF5 : Jq7 (Fr0 w ((((w.alloc (.cells X 28)).alloc (.cells ((MZ.setIfInBounds 0 (.map (some (w.heap.size + 1 + 1)))).setIfInBounds 1 (.map (some (w.heap.size + 1 + 1 + 1)))) 102)).alloc (.map #[] 0)).alloc (.map #[] 0))) := jq7 (Fr.alloc (Fr.alloc (Fr.alloc (Fr.alloc (Fr.refl _ _) _) _) _) _)
 have HW0 : Jq7 (w.heap.size < w.heap.size + 1 ∧ w.heap.size + 1 < w.heap.size + 1 + 1 ∧ w.heap.size + 1 + 1 < w.heap.size + 1 + 1 + 1) := jq7 (by omega)
 clear hs1 hs2 hs3 c0 c1 HF0
 generalize ((((w.alloc (.cells X 28)).alloc (.cells ((MZ.setIfInBounds 0 (.map (some (w.heap.size + 1 + 1)))).setIfInBounds 1 (.map (some (w.heap.size + 1 + 1 + 1)))) 102)).alloc (.map #[] 0)).alloc (.map #[] 0)) = w5 at *
 generalize w.heap.size + 1 + 1 + 1 = m1 at *
 generalize w.heap.size + 1 + 1 = m0 at *
 generalize w.heap.size + 1 = bs at *
 go_loopw [36] (fun jj W => ∃ j : Nat, j ≤ m.ps.length ∧ jj = .int .i64 j ∧ (∀ i, i < j → stepB h s m.ps i = true) ∧ IM W Tryz.prog 3 4 m0 ((m.ps.take j).map (·.1)) ∧ IM W Tryz.prog 3 4 m1 ((m.ps.take j).map (·.2)) ∧ Bk W w.heap.size X 28 ∧ Bk W bs #[.map (some m0), .map (some m1)] 102 ∧ Fr0 w W) (fun jj _ => m.ps.length - (intOf jj).toNat)
 case atStart => exact ⟨0, Nat.zero_le _, rfl, fun i hi => by omega, HI0.o, HI1.o, HXB.o, HMB.o, HF5.o⟩
 case round =>
  obtain ⟨j, hj, rfl, hst, hi0, hi1, hxb, hmb, hF⟩ := hrel
  by_cases hjl : j < m.ps.length
  ·obtain ⟨b2, o2, rfl, hat⟩ := RdP.form HV.o.rd hjl
   have hrg := hat _ (HV.o.rd.keep hF)
   have HRG := jq7 hrg.1
   have hgd : m.ps.getD j (0, 0) = m.ps[j] := by rw [List.getD_eq_getElem?_getD, List.getElem?_eq_getElem hjl];rfl
   have hsb : Jq7 (stepB h s m.ps j = (pok h s m.ps[j] && !(((m.ps.take j).map (·.1)).contains m.ps[j].1) && !(((m.ps.take j).map (·.2)).contains m.ps[j].2))) := jq7 (by unfold stepB;rw [hgd])
   have HWF := jq7 (HPW.o _ (List.getElem_mem hjl))
   have HTK : Jq7 (m.ps.take (j + 1) = m.ps.take j ++ [m.ps[j]]) := jq7 (List.take_succ_eq_append_getElem hjl)
   have HL0 : Jq7 (∀ x ∈ (m.ps.take j).map (·.1), (Lit.int .i64 x).wf = true) := jq7 (fun x hx => by obtain ⟨y, hy, rfl⟩ := List.mem_map.1 hx;exact (HPW.o y (List.mem_of_mem_take hy)).1)
   have HL1 : Jq7 (∀ x ∈ (m.ps.take j).map (·.2), (Lit.int .i64 x).wf = true) := jq7 (fun x hx => by obtain ⟨y, hy, rfl⟩ := List.mem_map.1 hx;exact (HPW.o y (List.mem_of_mem_take hy)).2)
   have HLN : Jq7 (((m.ps.take j).map (·.1)).length < 1000000 ∧ ((m.ps.take j).map (·.2)).length < 1000000) := jq7 (by simp only [List.length_map, List.length_take];omega)
   clear hat hrg hgd
   have HTA : Jq7 ((m.ps.take j).map (·.1) ++ [m.ps[j].1] = (m.ps.take (j + 1)).map (·.1) ∧ (m.ps.take j).map (·.2) ++ [m.ps[j].2] = (m.ps.take (j + 1)).map (·.2)) := jq7 (by rw [HTK.o, List.map_append, List.map_append];exact ⟨rfl, rfl⟩)
   clear HTK
   generalize m.ps[j] = p at *
   obtain ⟨pf, pt⟩ := p
   generalize (m.ps.take j).map (·.1) = l0 at *
   generalize (m.ps.take j).map (·.2) = l1 at *
   have HST := jq7 hst
   have HZR := jq7 (Bk.new wr (.cells PZ2 70))
   have hlt00 := jq7 hi0.lt
   have hlt11 := jq7 hi1.lt
   have hf6 : Fr0 wr ((wr.alloc (.cells PZ2 70)).setRow wr.heap.size (PR (pf, pt)).toArray) := ArrKit.Fr.row (Fr.alloc (Fr.refl _ _) _) _ _ (.inl (Nat.le_refl _))
   have HB6 := jq7 (ArrKit.Bk.row HZR.o (PR (pf, pt)).toArray)
   have HF6 := jq7 (hF.then0 hf6)
   have HX6 := jq7 (hf6.keep hxb (fun h => h))
   have HM6 := jq7 (hf6.keep hmb (fun h => h))
   have HJ0 := jq7 (hi0.keep hf6 (fun h => h))
   have HJ1 := jq7 (hi1.keep hf6 (fun h => h))
   have hr0 := HJ0.o.look Tryz.underlying3 Tryz.underlying4 Tryz.underlying101 (zero_b _) HL0.o pf HWF.o.1
   have hr1 := HJ1.o.look Tryz.underlying3 Tryz.underlying4 Tryz.underlying101 (zero_b _) HL1.o pt HWF.o.2
   have HUS : Jq7 (∀ W, Calls Tryz.prog 66 #[.int .i64 pf, .int .i64 h] W fun e w' => e = .returned (.bool (usableB pf h)) ∧ w' = W) := jq7 (fun W => usable_calls pf h W HWF.o.1 (by omega))
   have d0 : ((wr.alloc (.cells PZ2 70)).setRow wr.heap.size (PR (pf, pt)).toArray).cell? ⟨wr.heap.size, 0, none⟩ = some (.int .i64 pf) := Bk.cell HB6.o 0
   have d1 : ((wr.alloc (.cells PZ2 70)).setRow wr.heap.size (PR (pf, pt)).toArray).cell? ⟨wr.heap.size, 1, none⟩ = some (.int .i64 pt) := Bk.cell HB6.o 1
   have d2 : ((wr.alloc (.cells PZ2 70)).setRow wr.heap.size (PR (pf, pt)).toArray).cell? ⟨bs, 0, none⟩ = some (.map (some m0)) := Bk.cell HM6.o 0
   have d3 : ((wr.alloc (.cells PZ2 70)).setRow wr.heap.size (PR (pf, pt)).toArray).cell? ⟨bs, 1, none⟩ = some (.map (some m1)) := Bk.cell HM6.o 1
   clear hst hi0 hi1 hxb hmb hF hf6
   unfold pok at hsb
   by_cases hu : usableB pf h = true
   case neg =>
    have hu : usableB pf h = false := by simpa using hu
    rw [hu] at HUS
    have HNO : Jq7 (stepB h s m.ps j = false) := jq7 (by rw [hsb.o, hu];simp)
    clear hsb
    go_wp2_with (first | ((with_reducible show wkq (.load 70 _) _);refine wpList_load_mid rfl 70 _ rfl b2 (o2 + j * 2) rfl (PR (pf, pt)) _ HRG.o Tryz.underlying70 rfl (info_pr _) ?_) | ((with_reducible show wkq (.store 70 _ _) _);refine wpList_store_row rfl 70 _ _ rfl wr.heap.size (PR (pf, pt)).toArray rfl rfl 70 PZ2 HZR.o (info_pr2 _) rfl (PR_all _) ?_) | (go_at_call 66;(with_reducible refine (HUS.o _).mono ?_);rintro e w7 ⟨rfl, rfl⟩))
    go_ret
    exact ⟨by rw [all_no hjl HNO.o];rfl, HF6.o⟩
   rw [hu] at HUS hsb
   by_cases ht1 : pt < 2 * h
   ·have e1 : decide (pt < 2 * h) = true := decide_eq_true ht1
    have e2 : decide (2 * h ≤ pt) = false := decide_eq_false (by omega)
    have HNO : Jq7 (stepB h s m.ps j = false) := jq7 (by rw [hsb.o, e2];simp)
    clear hsb
    go_wp2_with (first | ((with_reducible show wkq (.load 70 _) _);refine wpList_load_mid rfl 70 _ rfl b2 (o2 + j * 2) rfl (PR (pf, pt)) _ HRG.o Tryz.underlying70 rfl (info_pr _) ?_) | ((with_reducible show wkq (.store 70 _ _) _);refine wpList_store_row rfl 70 _ _ rfl wr.heap.size (PR (pf, pt)).toArray rfl rfl 70 PZ2 HZR.o (info_pr2 _) rfl (PR_all _) ?_) | (go_at_call 66;(with_reducible refine (HUS.o _).mono ?_);rintro e w7 ⟨rfl, rfl⟩))
    go_ret
    exact ⟨by rw [all_no hjl HNO.o];rfl, HF6.o⟩
   have e1 : decide (pt < 2 * h) = false := decide_eq_false ht1
   have e2 : decide (2 * h ≤ pt) = true := decide_eq_true (by omega)
   rw [e2] at hsb
   by_cases ht2 : s ≤ pt
   ·have e3 : decide (s ≤ pt) = true := decide_eq_true ht2
    have e4 : decide (pt < s) = false := decide_eq_false (by omega)
    have HNO : Jq7 (stepB h s m.ps j = false) := jq7 (by rw [hsb.o, e4];simp)
    clear hsb
    go_wp2_with (first | ((with_reducible show wkq (.load 70 _) _);refine wpList_load_mid rfl 70 _ rfl b2 (o2 + j * 2) rfl (PR (pf, pt)) _ HRG.o Tryz.underlying70 rfl (info_pr _) ?_) | ((with_reducible show wkq (.store 70 _ _) _);refine wpList_store_row rfl 70 _ _ rfl wr.heap.size (PR (pf, pt)).toArray rfl rfl 70 PZ2 HZR.o (info_pr2 _) rfl (PR_all _) ?_) | (go_at_call 66;(with_reducible refine (HUS.o _).mono ?_);rintro e w7 ⟨rfl, rfl⟩))
    go_ret
    exact ⟨by rw [all_no hjl HNO.o];rfl, HF6.o⟩
   have e3 : decide (s ≤ pt) = false := decide_eq_false ht2
   have e4 : decide (pt < s) = true := decide_eq_true (by omega)
   rw [e4] at hsb
   by_cases hc0 : l0.contains pf = true
   ·rw [hc0] at hr0 hsb
    have HNO : Jq7 (stepB h s m.ps j = false) := jq7 (by rw [hsb.o];simp)
    clear hsb
    go_wp2_with (first | ((with_reducible show wkq (.load 70 _) _);refine wpList_load_mid rfl 70 _ rfl b2 (o2 + j * 2) rfl (PR (pf, pt)) _ HRG.o Tryz.underlying70 rfl (info_pr _) ?_) | ((with_reducible show wkq (.store 70 _ _) _);refine wpList_store_row rfl 70 _ _ rfl wr.heap.size (PR (pf, pt)).toArray rfl rfl 70 PZ2 HZR.o (info_pr2 _) rfl (PR_all _) ?_) | (go_at_call 66;(with_reducible refine (HUS.o _).mono ?_);rintro e w7 ⟨rfl, rfl⟩))
    go_ret
    exact ⟨by rw [all_no hjl HNO.o];rfl, HF6.o⟩
   have hc0 : l0.contains pf = false := by simpa using hc0
   rw [hc0] at hr0 hsb
   by_cases hc1 : l1.contains pt = true
   ·rw [hc1] at hr1 hsb
    have HNO : Jq7 (stepB h s m.ps j = false) := jq7 (by rw [hsb.o];simp)
    clear hsb
    go_wp2_with (first | ((with_reducible show wkq (.load 70 _) _);refine wpList_load_mid rfl 70 _ rfl b2 (o2 + j * 2) rfl (PR (pf, pt)) _ HRG.o Tryz.underlying70 rfl (info_pr _) ?_) | ((with_reducible show wkq (.store 70 _ _) _);refine wpList_store_row rfl 70 _ _ rfl wr.heap.size (PR (pf, pt)).toArray rfl rfl 70 PZ2 HZR.o (info_pr2 _) rfl (PR_all _) ?_) | (go_at_call 66;(with_reducible refine (HUS.o _).mono ?_);rintro e w7 ⟨rfl, rfl⟩))
    go_ret
    exact ⟨by rw [all_no hjl HNO.o];rfl, HF6.o⟩
   have hc1 : l1.contains pt = false := by simpa using hc1
   rw [hc1] at hr1 hsb
   have HYES : Jq7 (stepB h s m.ps j = true) := jq7 (by rw [hsb.o];rfl)
   clear hsb
   go_wp2_with (first | ((with_reducible show wkq (.load 70 _) _);refine wpList_load_mid rfl 70 _ rfl b2 (o2 + j * 2) rfl (PR (pf, pt)) _ HRG.o Tryz.underlying70 rfl (info_pr _) ?_) | ((with_reducible show wkq (.store 70 _ _) _);refine wpList_store_row rfl 70 _ _ rfl wr.heap.size (PR (pf, pt)).toArray rfl rfl 70 PZ2 HZR.o (info_pr2 _) rfl (PR_all _) ?_) | (go_at_call 66;(with_reducible refine (HUS.o _).mono ?_);rintro e w7 ⟨rfl, rfl⟩))
   have hlt0 := HJ0.o.lt
   have hg0 : m0 < wr.heap.size := by have := hlt00.o;omega
   have hg1 : m1 < wr.heap.size := by have := hlt11.o;omega
   have HSB : Jq7 (Bk ((wr.alloc (.cells PZ2 70)).setRow wr.heap.size (PR (pf, pt)).toArray).drew bs #[.map (some m0), .map (some m1)] 102 ∧ Bk ((wr.alloc (.cells PZ2 70)).setRow wr.heap.size (PR (pf, pt)).toArray).drew wr.heap.size (PR (pf, pt)).toArray 70) := jq7 ⟨HM6.o, HB6.o⟩
   have HD0 : Jq7 (IM ((wr.alloc (.cells PZ2 70)).setRow wr.heap.size (PR (pf, pt)).toArray).drew Tryz.prog 3 4 m0 l0) := jq7 HJ0.o
   have HD1 : Jq7 (IM ((wr.alloc (.cells PZ2 70)).setRow wr.heap.size (PR (pf, pt)).toArray).drew Tryz.prog 3 4 m1 l1) := jq7 HJ1.o
   have HDF : Jq7 (Fr0 w ((wr.alloc (.cells PZ2 70)).setRow wr.heap.size (PR (pf, pt)).toArray).drew) := jq7 (Fr.drew HF6.o)
   have HDX : Jq7 (Bk ((wr.alloc (.cells PZ2 70)).setRow wr.heap.size (PR (pf, pt)).toArray).drew w.heap.size X 28) := jq7 HX6.o
   have hw0 := HW0.o
   clear d0 d1 d2 d3 hr0 hr1
   generalize wr.heap.size = gp at *
   refine wp_region_noPanic ?_
   refine wp_region_held_drew (S := (fun W : World => Bk W bs #[.map (some m0), .map (some m1)] 102 ∧ Bk W gp (PR (pf, pt)).toArray 70)) (by kernel_rfl) (HSB.o) (fun hL0 => ?_)
   refine tk (i := 0) (v := .pointer (some ⟨bs, 0, none⟩)) rfl (Or.inl ⟨by kernel_rfl, fun w hSw => by go_simp⟩) hL0 ?_
   refine tk (i := 1) (v := .map (some m0)) rfl (Or.inl ⟨by kernel_rfl, fun w hSw => by have hcl := (fun W h => Bk.cell h.1 0) w hSw;go_simp⟩) hL0 ?_
   simp only [Act.put,zA,zB,zC,zD,zE,zF]
   refine tk0 (i := 2) (v := .pointer (some ⟨gp, 0, none⟩)) rfl hL0 ?_
   refine tk (i := 3) (v := .int .i64 pf) rfl (Or.inl ⟨by kernel_rfl, fun w hSw => by have hcl := (fun W h => (Bk.cell h.2 0).trans (PR_0 pf pt)) w hSw;go_simp⟩) hL0 ?_
   simp only [Act.put,zA,zB,zC,zD,zE,zF]
   refine tk (i := 4) (v := .pointer (some ⟨bs, 1, none⟩)) rfl (Or.inl ⟨by kernel_rfl, fun w hSw => by go_simp⟩) hL0 ?_
   refine tk (i := 5) (v := .map (some m1)) rfl (Or.inl ⟨by kernel_rfl, fun w hSw => by have hcl := (fun W h => Bk.cell h.1 1) w hSw;go_simp⟩) hL0 ?_
   simp only [Act.put,zA,zB,zC,zD,zE,zF]
   refine tk0 (i := 6) (v := .pointer (some ⟨gp, 1, none⟩)) rfl hL0 ?_
   refine tk (i := 7) (v := .int .i64 pt) rfl (Or.inl ⟨by kernel_rfl, fun w hSw => by have hcl := (fun W h => (Bk.cell h.2 1).trans (PR_1 pf pt)) w hSw;go_simp⟩) hL0 ?_
   simp only [Act.put,zA,zB,zC,zD,zE,zF]
   change wpAnyH _ _ _ _ _ 2 #[true, true, true, true, true, true, true, true, false, false] _ _
   refine rd1 8 rfl fun K hK => ?_
   simp only [zA, zB, zC]
   obtain ⟨wy1, hr_, hi_, hf_⟩ := HD0.o.put Tryz.underlying3 Tryz.underlying4 Tryz.underlying101 pf HWF.o.1 HLN.o.1
   refine wp_mapUpdate_run _ _ _ 101 rfl (.map (some m0)) (.int .i64 pf) (.bool true) rfl rfl rfl hr_ ?_
   refine hK.out _ _ (⟨hf_.keep hL0.1 (by omega), hf_.keep hL0.2 (by omega)⟩) (fun hL1 => ?_)
   clear hK K hL0
   have HE0 := jq7 hi_
   have HE1 := jq7 (HD1.o.keep hf_ (by omega))
   have HEF : Jq7 (Fr0 w wy1) := jq7 (Fr.newG HDF.o hf_ (by omega))
   have HEX := jq7 (hf_.keep HDX.o (by omega))
   clear hr_ hi_ hf_
   change wpAnyH _ _ _ _ _ 1 #[true, true, true, true, true, true, true, true, true, false] _ _
   refine rd1 9 rfl fun K hK => ?_
   simp only [zA, zB, zC]
   obtain ⟨wy2, hr_, hi_, hf_⟩ := HE1.o.put Tryz.underlying3 Tryz.underlying4 Tryz.underlying101 pt HWF.o.2 HLN.o.2
   refine wp_mapUpdate_run _ _ _ 101 rfl (.map (some m1)) (.int .i64 pt) (.bool true) rfl rfl rfl hr_ ?_
   refine hK.out _ _ (⟨hf_.keep hL1.1 (by omega), hf_.keep hL1.2 (by omega)⟩) (fun hL2 => ?_)
   clear hK K hL1
   have HG1 := jq7 hi_
   have HG0 := jq7 (HE0.o.keep hf_ (by omega))
   have HGF : Jq7 (Fr0 w wy2) := jq7 (Fr.newG HEF.o hf_ (by omega))
   have HGX := jq7 (hf_.keep HEX.o (by omega))
   clear hr_ hi_ hf_
   change wpAnyH _ _ _ _ _ 0 #[true, true, true, true, true, true, true, true, true, true] _ _
   refine wpAnyH_done (by kernel_rfl) ?_ _
   refine NoPanic.normal ?_
   have HEND := jq7 hL2
   clear hL2
   go_wp2
   go_roundw
   case rel => exact ⟨j + 1, by omega, by go_num, fun i hi => by
     rcases Nat.lt_or_ge i j with h | h
     ·exact HST.o i h
     ·obtain rfl : i = j := by omega
      exact HYES.o, by rw [← HTA.o.1];exact HG0.o, by rw [← HTA.o.2];exact HG1.o, HGX.o, HEND.o.1, HGF.o⟩
   case measure => simp [intOf];omega
  ·clear hi0 hi1 hmb hxb
   have hje : j = m.ps.length := by omega
   subst hje
   have HST := jq7 hst
   have HF := jq7 hF
   clear hst hF
   go_wp2
   go_ret
   exact ⟨by rw [all_yes HST.o];rfl, HF.o⟩

theorem right_calls (m : Rm) (a : Option Addr) (c : Nat) (s : Int) (w : World) (hok : m.ok) (hv : RV w m a c) (hs : (Lit.int .i64 s).wf = true) : Calls Tryz.prog 38 #[.agg (rval m a c), .int .i64 s] w fun e w' => e = .returned (.bool (tabB m s)) ∧ Fr0 w w' := by
 by_cases h : half s = 0 ∨ m.gen < 0 ∨ 4611686018427387904 < m.gen ∨ 20 < m.ps.length
 ·have e : tabB m s = false := by
   unfold tabB
   rcases h with h | h | h | h
   ·simp [h]
   ·rw [decide_eq_false (p := 0 ≤ m.gen) (by omega)];simp
   ·rw [decide_eq_false (p := m.gen ≤ 4611686018427387904) (by omega)];simp
   ·rw [decide_eq_false (p := m.ps.length ≤ 20) (by omega)];simp
  rw [e]
  exact right_no m a c s w hs h
 ·have h1 : half s ≠ 0 := fun e => h (.inl e)
  have e : tabB m s = (List.range m.ps.length).all (stepB (half s) s m.ps) := by
   unfold tabB
   rw [decide_eq_true h1, decide_eq_true (p := 0 ≤ m.gen) (by omega), decide_eq_true (p := m.gen ≤ 4611686018427387904) (by omega), decide_eq_true (p := m.ps.length ≤ 20) (by omega)]
   simp
  rw [e]
  exact right_loop m a c s w hok hv hs h1 (by omega) (by omega) (by omega)

end Go.Proofs.YtmkmpfnadcmcoaaGreatDoor.RmRight
