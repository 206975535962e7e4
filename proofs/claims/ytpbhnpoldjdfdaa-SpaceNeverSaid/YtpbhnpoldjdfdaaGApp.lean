/- One thing appended to a slice; literals of one thing. -/
import Derived.Test.YtpbhnpoldjdfdaaGRow
import Derived.Laws.AppendOwn
import Derived.Laws.Tables
set_option linter.unusedVariables false
set_option linter.unusedSimpArgs false
namespace Go.Proofs.Ytpbhnpoldjdfdaa.GApp
open Go Go.RowKit Go.Proofs.Ytpbhnpoldjdfdaa.K Go.Proofs.Ytpbhnpoldjdfdaa.ArrKit Go.Proofs.Ytpbhnpoldjdfdaa.HeldKit Go.Proofs.Ytpbhnpoldjdfdaa.GKit Go.Proofs.Ytpbhnpoldjdfdaa.GRow

theorem fold_lay : ∀ (l : List Value) (s off : Nat) (cs : Array Value), (l.zipIdx s).foldl (fun cs (x : Value × Nat) => cs.setIfInBounds (off + x.2) x.1) cs = lay cs (off + s) l
  | [], _, _, _ => rfl
  | v :: r, s, off, cs => by
    rw [List.zipIdx_cons, List.foldl_cons, fold_lay r (s + 1) off, lay, Nat.add_assoc]
theorem fill_lay (X : Array Value) (off : Nat) (cs : Array Value) : X.zipIdx.foldl (fun cs (x : Value × Nat) => cs.setIfInBounds (off + x.2) x.1) cs = lay cs off X.toList := by
  have := fold_lay X.toList 0 off cs
  rw [Nat.add_zero] at this
  rw [← this, ← Array.foldl_toList, Array.toList_zipIdx]
theorem lay_all (cs : Array Value) (X : Array Value) (h : cs.size = X.size) : lay cs 0 X.toList = X := by
  apply Array.ext_getElem?
  intro i
  rw [lay_get, Array.length_toList]
  by_cases hi : i < X.size
  · rw [if_pos (by omega), Nat.sub_zero, Array.getElem?_toList]
  · rw [if_neg (by omega), Array.getElem?_eq_none (by omega), Array.getElem?_eq_none (by omega)]
section
variable {P : Program}
theorem run_build_op {o : Oper} {a : Act} {w : World} (t : TypeId) (parts : Array (Nat × Operand)) (ho : o.op = .build t parts) (L : List (Nat × Value)) (hp : (parts.map fun (i, x) => (i, a.eval x)).toList = L) (cs : Array Value) (hf : P.built t L = some cs) : (execOp a.eval o).run P w = .ok (.value (.agg cs)) w := by
  unfold execOp
  simp only [ho, Sem.run_bind, run_build w t _ cs (by rw [hp]; exact hf), Result.andThen_ok, Sem.run_pure]
/-- []T{x}: a new block of its cells -/
theorem run_buildSlice_one (w : World) (t e : TypeId) (i : TypeInfo) (z : Value) (k : Nat) (ht : P.underlying t = some (.slice e)) (hi : P.info? e = some i) (hz : i.zero = some z) (hsize : i.size = k) (hk : 0 < k) (hk2 : k ≤ 16777216)
    (X : Array Value) (hX : X.size = k) : (Instr.buildSlice t 1 #[(0, .agg X)]).run P w = .ok (.slice (some ⟨w.heap.size, 0, none⟩) 1 1) (w.alloc (.cells X e)) := by
  have h1 : ¬ (16777216 < k) := by omega
  have h2 : ¬ k = 0 := by omega
  have hl := lay_all ((Array.range k).map fun x => z.cells[x % z.cells.size]!) X (by simp [hX])
  have hf := fill_lay X 0 ((Array.range k).map fun x => z.cells[x % z.cells.size]!)
  rw [hl] at hf
  have hfill : Instr.fill (fun i => some (i * k, k)) ((Array.range k).map fun x => z.cells[x % z.cells.size]!) [(0, Value.agg X)] = some X := by
    have hc : (Value.agg X).cells.size = k := hX
    have hc2 : (Value.agg X).cells = X := rfl
    unfold Instr.fill
    simp only [Nat.zero_mul, hc2, hX]
    rw [if_neg (by simp)]
    unfold Instr.fill
    rw [hf]
  simp [Instr.buildSlice, run_underlying ht, sizeOf, typeInfo, hi, hsize, h1, h2, zeroValue, hz, newRow, hfill]
theorem run_buildSlice_nil (w : World) (t e : TypeId) (i : TypeInfo) (ht : P.underlying t = some (.slice e)) (hi : P.info? e = some i) : (Instr.buildSlice t 0 #[]).run P w = .ok (.slice (some ⟨w.heap.size, 0, none⟩) 0 0) (w.alloc (.cells #[] e)) := by
  have h0 : (Array.range 0) = #[] := rfl
  simp [Instr.buildSlice, run_underlying ht, sizeOf, typeInfo, hi, newRow, Instr.fill, h0]
theorem wp_buildSlice_nil {o : Oper} {a : Act} {w : World} {K : Act → World → Prop} {Q : Exit → Act → World → Prop} (t : TypeId) (ho : o.op = .buildSlice t 0 #[]) (e : TypeId) (i : TypeInfo) (ht : P.underlying t = some (.slice e)) (hi : P.info? e = some i)
    (h : K (a.put o.dst (.slice (some ⟨w.heap.size, 0, none⟩) 0 0)) (w.alloc (.cells #[] e))) : o.wp P a w K Q := by
  unfold Oper.wp execOp
  have hr := run_buildSlice_nil (P := P) w t e i ht hi
  simp only [ho, Sem.run_bind, List.map_toArray, List.map_nil, hr, Result.andThen_ok]
  exact h
theorem wp_buildSlice_one {o : Oper} {a : Act} {w : World} {K : Act → World → Prop} {Q : Exit → Act → World → Prop} (t : TypeId) (x : Operand) (ho : o.op = .buildSlice t 1 #[(0, x)]) (e : TypeId) (i : TypeInfo) (z : Value) (k : Nat) (ht : P.underlying t = some (.slice e)) (hi : P.info? e = some i) (hz : i.zero = some z) (hsize : i.size = k) (hk : 0 < k) (hk2 : k ≤ 16777216)
    (X : Array Value) (hX : X.size = k) (hx : a.eval x = .agg X) (h : K (a.put o.dst (.slice (some ⟨w.heap.size, 0, none⟩) 1 1)) (w.alloc (.cells X e))) : o.wp P a w K Q := by
  unfold Oper.wp execOp
  have hr := run_buildSlice_one (P := P) w t e i z k ht hi hz hsize hk hk2 X hX
  simp only [ho, Sem.run_bind, List.map_toArray, List.map_cons, List.map_nil, hx, hr, Result.andThen_ok]
  exact h
variable {α : Type} {f : α → List Value} {k : Nat} {e : TypeId}
theorem RdG.none_len {w : World} {l : List α} (h : RdG f k w none l) : l.length = 0 := by
  rcases Nat.eq_zero_or_pos l.length with h0 | h0
  · exact h0
  · obtain ⟨b, o, e, -⟩ := h 0 h0
    cases e
/-- append(xs[:n:n], x) -/
theorem run_append_one (w : World) (t ty : TypeId) (i : TypeInfo) (z : Value) (bytes : Nat) (ht : P.underlying t = some (.slice e)) (hi : P.info? e = some i) (hz : i.zero = some z)
    (hsize : i.size = k) (hby : i.bytes = bytes) (hzs : z.cells.size = k) (hk : 0 < k) (A : Option Addr) (n : Nat) (l : List α) (hn : l.length = n) (hrd : RdG f k w A l) (hf : ∀ x ∈ l, (f x).length = k)
    (g1 c1 : Nat) (x : α) (hx : (f x).length = k) (hg1 : Bk w g1 (f x).toArray e) (h63 : n + 1 ≤ 9223372036854775807) (hbytes : (n + 1) * bytes ≤ 140737488355328) (hA : A = none → n = 0) :
    ∃ g cap cur w', (Builtin.append_ #[t, t] ty #[.slice A n n, .slice (some ⟨g1, 0, none⟩) 1 c1]).run P w = .ok (.slice (some ⟨g, 0, none⟩) (n + 1) cap) w' ∧ w.heap.size ≤ g ∧ OwnG f k e w' g cap cur (l ++ [x]) ∧ Fr0 w w' := by
  have hfl : ∀ y ∈ l ++ [x], (f y).length = k := fun y hy => by
    rcases List.mem_append.1 hy with h | h
    · exact hf y h
    · simp only [List.mem_cons, List.not_mem_nil, or_false] at h; subst h; exact hx
  have hnews : ∀ (j : Nat) (u : Value), (f x)[j]? = some u → w.cell? ((⟨g1, 0, none⟩ : Addr).add j) = some u := fun j u hu => by
    rw [add_form, Nat.zero_add, Bk.cell hg1, List.getElem?_toArray]; exact hu
  have hlo : (flat f l).length = n * k := by rw [flat_length hf, hn]
  have key : ∀ (olds : List Value) (hO : olds = flat f l), OwnG f k e (w.drew.alloc (.cells (olds.toArray ++ (f x).toArray ++ Builtin.zeroCells z.cells (grownCap w (n + 1) n e - (n + 1))) e)) w.heap.size (grownCap w (n + 1) n e) (olds.toArray ++ (f x).toArray ++ Builtin.zeroCells z.cells (grownCap w (n + 1) n e - (n + 1))) (l ++ [x]) := by
    intro olds hO
    subst hO
    have hge := grownCap_ge w (n + 1) n e
    have hcm := grownCap_le_maxLen w (n + 1) n e (by unfold maxLen; omega)
    have hz' : (Builtin.zeroCells z.cells (grownCap w (n + 1) n e - (n + 1))).size = (grownCap w (n + 1) n e - (n + 1)) * k := by rw [size_zeroCells, hzs]
    refine ⟨heap_alloc_new w.drew _, by simp; omega, hcm, ?_, fun i hi j u hj => ?_⟩
    · rw [Array.size_append, Array.size_append, List.size_toArray, List.size_toArray, hlo, hx, hz']
      rw [← Nat.succ_mul, ← Nat.add_mul]
      congr 1
      omega
    · have hjk : j < k := by
        have := (List.getElem?_eq_some_iff.1 hj).1
        rwa [hfl _ (List.getElem_mem hi)] at this
      have h1 := flat_get hfl i hi j hjk
      rw [hj, flat_append] at h1
      have e1 : flat f [x] = f x := by rw [flat_cons, flat_nil, List.append_nil]
      rw [e1] at h1
      have hlt := (List.getElem?_eq_some_iff.1 h1).1
      rw [Array.getElem?_append_left (by simpa using hlt), List.append_toArray, List.getElem?_toArray]
      exact h1
  have fr : ∀ o, Fr0 w (w.drew.alloc o) := fun o => Fr.alloc (Fr.drew (Fr.refl _ _)) o
  cases A with
  | none =>
    have := hA rfl
    subst this
    have hl : l = [] := List.eq_nil_of_length_eq_zero hn
    subst hl
    have hr := run_append_nil (P := P) w t ty e i z ht hi hz ⟨g1, 0, none⟩ 1 c1 (f x) (by rw [hx, hsize, Nat.one_mul]) hnews (by omega) (by omega) (by rw [hby]; omega)
    have hk2 := key [] rfl
    rw [Nat.zero_add] at hk2
    have e2 : (([] : List Value).toArray ++ (f x).toArray) = (f x).toArray := by simp
    rw [e2] at hk2
    exact ⟨w.heap.size, grownCap w 1 0 e, _, _, hr, Nat.le_refl _, hk2, fr _⟩
  | some b =>
    have hsp : ∀ (j : Nat) (u : Value), (flat f l)[j]? = some u → w.cell? (b.add j) = some u := by
      by_cases h0 : 0 < l.length
      · obtain ⟨b', o', e', -⟩ := hrd 0 h0
        obtain rfl := Option.some.inj e'
        exact hrd.cells hf hk
      · have : l = [] := List.eq_nil_of_length_eq_zero (by omega)
        subst this
        intro j u hu; simp [flat_nil] at hu
    have hr := run_append_grow (P := P) w t ty e i z ht hi hz b n n (flat f l) (by rw [hlo, hsize]) hsp ⟨g1, 0, none⟩ 1 c1 (f x) (by rw [hx, hsize, Nat.one_mul]) hnews (by omega) (by omega) (by rw [hby]; exact growslice_fits (by omega) hbytes)
    exact ⟨w.heap.size, _, _, _, hr, Nat.le_refl _, key _ rfl, fr _⟩
/-- append of one thing to a slice of one's own -/
theorem run_append_own1 (w : World) (t ty : TypeId) (i : TypeInfo) (z : Value) (bytes base : Nat) (ht : P.underlying t = some (.slice e)) (hi : P.info? e = some i) (hz : i.zero = some z)
    (hsize : i.size = k) (hby : i.bytes = bytes) (hzs : z.cells.size = k) (hk : 0 < k) (g0 cap0 : Nat) (cur0 : Array Value) (n : Nat) (l : List α) (hn : l.length = n) (hown : OwnG f k e w g0 cap0 cur0 l) (hb : base ≤ g0) (hf : ∀ x ∈ l, (f x).length = k)
    (g1 c1 : Nat) (x : α) (hx : (f x).length = k) (hone : ∀ v ∈ f x, v.oneCell' = true) (hg1 : Bk w g1 (f x).toArray e) (h63 : n + 1 ≤ 9223372036854775807) (hbytes : (n + 1) * bytes ≤ 140737488355328) :
    ∃ g cap cur w', (Builtin.append_ #[t, t] ty #[.slice (some ⟨g0, 0, none⟩) n cap0, .slice (some ⟨g1, 0, none⟩) 1 c1]).run P w = .ok (.slice (some ⟨g, 0, none⟩) (n + 1) cap) w' ∧ base ≤ g ∧ OwnG f k e w' g cap cur (l ++ [x]) ∧ Fr (fun i => i = g0) w w' := by
  subst hn
  have hfl : ∀ y ∈ l ++ [x], (f y).length = k := fun y hy => by
    rcases List.mem_append.1 hy with h | h
    · exact hf y h
    · simp only [List.mem_cons, List.not_mem_nil, or_false] at h; subst h; exact hx
  have hnews : ∀ (j : Nat) (u : Value), (f x)[j]? = some u → w.cell? ((⟨g1, 0, none⟩ : Addr).add j) = some u := fun j u hu => by
    rw [add_form, Nat.zero_add, Bk.cell hg1, List.getElem?_toArray]; exact hu
  obtain ⟨v', w', hr, ho, hgr, -⟩ := run_append_own (P := P) w base t ty e i z k bytes ht hi hz hsize hby hzs hk _ l.length (flat f l) (own_row hf hown hb) ⟨g1, 0, none⟩ 1 c1 (f x) (by rw [hx, Nat.one_mul]) hnews hone (by unfold maxLen; omega) hbytes (Nat.le_of_lt (Nat.lt_of_le_of_lt hb (Bk.lt hown.blk)))
  have e1 : flat f l ++ f x = flat f (l ++ [x]) := by rw [flat_append, flat_cons, flat_nil, List.append_nil]
  rw [e1] at ho
  obtain ⟨g, cap, cur, rfl, hbg, hog⟩ := own_of hfl hk ho (by simp) (by omega)
  exact ⟨g, cap, cur, w', hr, hbg, hog, hgr.os, hgr.tape, hgr.output, hgr.size, fun i hi hs => hgr.block i hi (by simp only [Value.ownBlock]; intro e; cases e; exact hs rfl)⟩
theorem wp_append_run {o : Oper} {a : Act} {w w' : World} {K : Act → World → Prop} {Q : Exit → Act → World → Prop} (s x : Operand) (t : TypeId) (ho : o.op = .call { callee := .builtin .append, args := #[s, x], argTypes := #[t, t] }) (vs vx v : Value) (hs : a.eval s = vs) (hx : a.eval x = vx)
    (hr : (Builtin.append_ #[t, t] o.type #[vs, vx]).run P w = .ok v w') (h : K (a.put o.dst v) w') : o.wp P a w K Q := by
  unfold Oper.wp execOp
  simp only [ho, resolve, invoke, builtin, Sem.run_bind, Sem.run_pure, Result.andThen_ok, List.map_toArray, List.map_cons, List.map_nil, hs, hx, hr]
  exact h
end

end Go.Proofs.Ytpbhnpoldjdfdaa.GApp
