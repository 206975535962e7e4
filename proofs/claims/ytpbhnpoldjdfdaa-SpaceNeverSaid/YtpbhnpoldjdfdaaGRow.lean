/- Slices of things of several cells: read whole, copied, appended to. -/
import Derived.Test.YtpbhnpoldjdfdaaGKit
import Derived.Laws.AppendOwn
set_option linter.unusedVariables false
set_option linter.unusedSimpArgs false
namespace Go.Proofs.Ytpbhnpoldjdfdaa.GRow
open Go Go.RowKit Go.Proofs.Ytpbhnpoldjdfdaa.K Go.Proofs.Ytpbhnpoldjdfdaa.ArrKit Go.Proofs.Ytpbhnpoldjdfdaa.HeldKit Go.Proofs.Ytpbhnpoldjdfdaa.GKit

/-! ### Lists of things of k cells, from an address on -/
def RdG {α : Type} (f : α → List Value) (k : Nat) (w : World) (A : Option Addr) (l : List α) : Prop := ∀ i (h : i < l.length), ∃ b o, A = some ⟨b, o, none⟩ ∧ w.rangeAt b (o + i * k) (f l[i])
section
variable {α : Type} {f : α → List Value} {k : Nat}
theorem RdG.later {S : Nat → Prop} {w w1 : World} {A : Option Addr} {l : List α} (h : RdG f k w A l) (fr : Fr S w w1) (hs : ∀ a, A = some a → l ≠ [] → ¬ S a.block) : RdG f k w1 A l := fun i hi => by
  obtain ⟨b, o, e, hr⟩ := h i hi
  refine ⟨b, o, e, fun j v hj => ?_⟩
  have hc := hr j v hj
  have hb := World.block_lt_of_cell? w _ hc
  rw [fr.cell b (o + i * k + j) hb (hs _ e (by intro e; subst e; simp at hi))]
  exact hc
theorem RdG.keep {w w1 : World} {A : Option Addr} {l : List α} (h : RdG f k w A l) (fr : Fr0 w w1) : RdG f k w1 A l := h.later fr (fun _ _ _ h => h)
theorem RdG.nil (w : World) (A : Option Addr) : RdG f k w A [] := fun i h => by simp at h
theorem RdG.form {w : World} {A : Option Addr} {l : List α} (h : RdG f k w A l) (hl : 0 < l.length) (hf : ∀ x, 0 < (f x).length) : ∃ b o, A = some ⟨b, o, none⟩ ∧ b < w.heap.size ∧ ∀ i (h : i < l.length), w.rangeAt b (o + i * k) (f l[i]) := by
  obtain ⟨b, o, rfl, hr⟩ := h 0 hl
  refine ⟨b, o, rfl, World.block_lt_of_cell? w _ (hr 0 _ (List.getElem?_eq_getElem (hf _))), fun i hi => ?_⟩
  obtain ⟨b', o', e, hr'⟩ := h i hi
  simp only [Option.some.injEq, Addr.mk.injEq, and_true] at e
  obtain ⟨rfl, rfl⟩ := e
  exact hr'
theorem RdG.at {w : World} {b o : Nat} {l : List α} (h : RdG f k w (some ⟨b, o, none⟩) l) {i : Nat} (hi : i < l.length) : w.rangeAt b (o + i * k) (f l[i]) := by
  obtain ⟨b', o', e, hr⟩ := h i hi
  simp only [Option.some.injEq, Addr.mk.injEq, and_true] at e
  obtain ⟨rfl, rfl⟩ := e
  exact hr
theorem RdG.of {w : World} {b o : Nat} {l : List α} (h : ∀ i (h : i < l.length), w.rangeAt b (o + i * k) (f l[i])) : RdG f k w (some ⟨b, o, none⟩) l := fun i hi => ⟨b, o, rfl, h i hi⟩
/-- what was there when w began is nothing that was made since -/
theorem RdG.past {S : Nat → Prop} {w0 w w1 : World} {A : Option Addr} {l : List α} (h0 : RdG f k w0 A l) (h : RdG f k w A l) (hf : ∀ x, 0 < (f x).length) (fr : Fr S w w1) (hs : ∀ b, b < w0.heap.size → ¬ S b) : RdG f k w1 A l := h.later fr (fun a e hl => by
  subst e
  obtain ⟨b, o, e, hb, -⟩ := h0.form (List.length_pos_iff.2 hl) hf
  obtain rfl := Option.some.inj e
  exact hs _ hb)
/-! ### .. as one list of cells -/
def flat (f : α → List Value) (l : List α) : List Value := (l.map f).flatten
theorem flat_nil : flat f [] = [] := rfl
theorem flat_cons (x : α) (l : List α) : flat f (x :: l) = f x ++ flat f l := rfl
theorem flat_append (l m : List α) : flat f (l ++ m) = flat f l ++ flat f m := by simp [flat]
theorem flat_length {l : List α} (h : ∀ x ∈ l, (f x).length = k) : (flat f l).length = l.length * k := by
  induction l with
  | nil => simp [flat_nil]
  | cons x r ih => rw [flat_cons, List.length_append, h x (List.mem_cons_self ..), ih (fun y hy => h y (List.mem_cons_of_mem _ hy)), List.length_cons, Nat.add_mul]; omega
theorem flat_get {l : List α} (h : ∀ x ∈ l, (f x).length = k) : ∀ i (hi : i < l.length) j, j < k → (flat f l)[i * k + j]? = (f l[i])[j]? := by
  induction l with
  | nil => intro i hi; simp at hi
  | cons x r ih =>
    intro i hi j hj
    have hx := h x (List.mem_cons_self ..)
    cases i with
    | zero => rw [flat_cons, Nat.zero_mul, Nat.zero_add, List.getElem?_append_left (by omega)]; rfl
    | succ i =>
      rw [flat_cons, List.getElem?_append_right (by rw [hx, Nat.add_mul]; omega), hx, show (i + 1) * k + j - k = i * k + j by rw [Nat.add_mul]; omega]
      exact ih (fun y hy => h y (List.mem_cons_of_mem _ hy)) i (by simpa using hi) j hj
theorem flat_in {l : List α} (h : ∀ x ∈ l, (f x).length = k) (hk : 0 < k) {j : Nat} {u : Value} (hj : (flat f l)[j]? = some u) : ∃ (i : Nat) (hi : i < l.length), (f l[i])[j % k]? = some u ∧ j = i * k + j % k := by
  have hl := (List.getElem?_eq_some_iff.1 hj).1
  rw [flat_length h] at hl
  have hi : j / k < l.length := (Nat.div_lt_iff_lt_mul hk).2 hl
  have e : j = j / k * k + j % k := by rw [Nat.mul_comm]; exact (Nat.div_add_mod j k).symm
  refine ⟨j / k, hi, ?_, e⟩
  rw [← flat_get h _ hi _ (Nat.mod_lt _ hk), ← e]
  exact hj
theorem RdG.cells {w : World} {b o : Nat} {l : List α} (hr : RdG f k w (some ⟨b, o, none⟩) l) (h : ∀ x ∈ l, (f x).length = k) (hk : 0 < k) : ∀ (j : Nat) (u : Value), (flat f l)[j]? = some u → w.cell? ((⟨b, o, none⟩ : Addr).add j) = some u := fun j u hj => by
  obtain ⟨i, hi, hu, e⟩ := flat_in h hk hj
  rw [add_form]
  have := hr.at hi _ _ hu
  rwa [Nat.add_assoc, ← e] at this
theorem flat_one {l : List α} (h : ∀ x ∈ l, ∀ v ∈ f x, v.oneCell' = true) : ∀ v ∈ flat f l, v.oneCell' = true := fun v hv => by
  obtain ⟨c, hc, hv⟩ := List.mem_flatten.1 hv
  obtain ⟨x, hx, rfl⟩ := List.mem_map.1 hc
  exact h x hx v hv
/-- a slice of one's own, at the head of the block g -/
structure OwnG (f : α → List Value) (k : Nat) (e : TypeId) (w : World) (g cap : Nat) (cur : Array Value) (l : List α) : Prop where
  blk : Bk w g cur e
  room : l.length ≤ cap
  max : cap ≤ 9223372036854775807
  size : cur.size = cap * k
  here : ∀ i (h : i < l.length), ∀ (j : Nat) (u : Value), (f l[i])[j]? = some u → cur[i * k + j]? = some u
variable {e : TypeId}
theorem OwnG.rd {w : World} {g cap : Nat} {cur : Array Value} {l : List α} (h : OwnG f k e w g cap cur l) : RdG f k w (some ⟨g, 0, none⟩) l := RdG.of fun i hi j u hj => by
  rw [Nat.zero_add, Bk.cell h.blk]
  exact h.here i hi j u hj
theorem OwnG.keep {S : Nat → Prop} {w w1 : World} {g cap : Nat} {cur : Array Value} {l : List α} (h : OwnG f k e w g cap cur l) (fr : Fr S w w1) (hs : ¬ S g) : OwnG f k e w1 g cap cur l := ⟨fr.keep h.blk hs, h.room, h.max, h.size, h.here⟩
/-- one thing of it laid anew -/
theorem OwnG.set {w : World} {g cap : Nat} {cur : Array Value} {l : List α} (h : OwnG f k e w g cap cur l) (hl : ∀ x ∈ l, (f x).length = k) {i : Nat} (hi : i < l.length) (x : α) (hx : (f x).length = k) (w' : World) (cur' : Array Value) (hb : Bk w' g cur' e) (hsz : cur'.size = cur.size)
    (hin : ∀ (j : Nat) (u : Value), (f x)[j]? = some u → cur'[i * k + j]? = some u) (hout : ∀ m, (m < i * k ∨ i * k + k ≤ m) → cur'[m]? = cur[m]?) : OwnG f k e w' g cap cur' (l.set i x) :=
  ⟨hb, by rw [List.length_set]; exact h.room, h.max, hsz.trans h.size, fun m hm j u hj => by
    rw [List.length_set] at hm
    rw [List.getElem_set] at hj
    by_cases e : i = m
    · subst e
      rw [if_pos rfl] at hj
      exact hin j u hj
    · rw [if_neg e] at hj
      have hjk : j < k := by
        have := (List.getElem?_eq_some_iff.1 hj).1
        rwa [hl _ (List.getElem_mem hm)] at this
      have h1 : m * k + j < i * k ∨ i * k + k ≤ m * k + j := by
        rcases Nat.lt_or_gt_of_ne e with h2 | h2
        · right
          have : (i + 1) * k ≤ m * k := Nat.mul_le_mul_right k h2
          rw [Nat.add_mul] at this; omega
        · left
          have : (m + 1) * k ≤ i * k := Nat.mul_le_mul_right k h2
          rw [Nat.add_mul] at this; omega
      rw [hout _ h1]
      exact h.here m hm j u hj⟩
theorem Fr.newG {S : Nat → Prop} {w w1 w2 : World} {g : Nat} (h : Fr S w w1) (k : Fr (fun i => i = g) w1 w2) (hg : w.heap.size ≤ g) : Fr S w w2 := h.then k (fun i hi e => by omega)

/-! ### append of all of a slice to an empty one, and of one thing to a slice -/
variable {P : Program}
theorem own_of {w : World} {base n : Nat} {v : Value} {l : List α} (hf : ∀ x ∈ l, (f x).length = k) (hk : 0 < k) (h : w.ownsRow base e k v n (flat f l)) (hn : l.length = n) (h0 : 0 < n) : ∃ g cap cur, v = .slice (some ⟨g, 0, none⟩) n cap ∧ base ≤ g ∧ OwnG f k e w g cap cur l := by
  rcases h.2 with ⟨rfl, h2⟩ | ⟨g, cap, cur, rfl, hb, hg, hnc, hcm, hcs, htake⟩
  · omega
  · refine ⟨g, cap, cur, rfl, hb, hg, by omega, hcm, hcs, fun i hi j u hj => ?_⟩
    have hjk : j < k := by
      have := (List.getElem?_eq_some_iff.1 hj).1
      rwa [hf _ (List.getElem_mem hi)] at this
    have h1 : (flat f l)[i * k + j]? = some u := by rw [flat_get hf i hi j hjk]; exact hj
    rw [← htake, List.getElem?_take] at h1
    split at h1
    · simpa using h1
    · cases h1
theorem own_row {w : World} {base g cap : Nat} {cur : Array Value} {l : List α} (hf : ∀ x ∈ l, (f x).length = k) (h : OwnG f k e w g cap cur l) (hb : base ≤ g) : w.ownsRow base e k (.slice (some ⟨g, 0, none⟩) l.length cap) l.length (flat f l) :=
  ⟨flat_length hf, .inr ⟨g, cap, cur, rfl, hb, h.blk, h.room, h.max, h.size, by
    apply List.ext_getElem?
    intro j
    rw [List.getElem?_take]
    by_cases hj : j < l.length * k
    · have hjl : j < (flat f l).length := by rw [flat_length hf]; exact hj
      have hk : 0 < k := by
        rcases Nat.eq_zero_or_pos k with rfl | h
        · simp at hj
        · exact h
      obtain ⟨i, hi, hu, e⟩ := flat_in hf hk (List.getElem?_eq_getElem hjl)
      have hc := h.here i hi _ _ hu
      rw [← e] at hc
      rw [if_pos hj, Array.getElem?_toList, hc, List.getElem?_eq_getElem hjl]
    · rw [if_neg hj, List.getElem?_eq_none (by rw [flat_length hf]; omega)]⟩⟩
/-- append([]T{}, xs...) -/
theorem run_append_all (w : World) (t ty : TypeId) (i : TypeInfo) (z : Value) (bytes : Nat) (ht : P.underlying t = some (.slice e)) (hi : P.info? e = some i) (hz : i.zero = some z)
    (hsize : i.size = k) (hby : i.bytes = bytes) (hzs : z.cells.size = k) (hk : 0 < k) (g0 : Nat) (hg0 : Bk w g0 #[] e) (A : Option Addr) (n c : Nat) (l : List α) (hn : l.length = n) (hrd : RdG f k w A l) (hf : ∀ x ∈ l, (f x).length = k) (h1 : ∀ x ∈ l, ∀ v ∈ f x, v.oneCell' = true)
    (h63 : n ≤ 9223372036854775807) (hbytes : n * bytes ≤ 140737488355328) :
    ∃ g cap cur w', (Builtin.append_ #[t, t] ty #[.slice (some ⟨g0, 0, none⟩) 0 0, .slice A n c]).run P w = .ok (.slice (some ⟨g, 0, none⟩) n cap) w' ∧ g0 ≤ g ∧ OwnG f k e w' g cap cur l ∧ Fr (fun i => i = g0) w w' := by
  by_cases h0 : n = 0
  · subst h0
    have : l = [] := List.eq_nil_of_length_eq_zero hn
    subst this
    refine ⟨g0, 0, #[], w, ?_, Nat.le_refl _, ⟨hg0, Nat.le_refl _, by omega, by simp, fun i hi => by simp at hi⟩, Fr.refl _ _⟩
    cases A <;> simp [Builtin.append_, run_underlying ht, sizeOf, typeInfo, hi, Builtin.lenOf, Builtin.firstCells, loadCells, loadCellsFrom, storeCells]
  · have h0' : 0 < l.length := by omega
    obtain ⟨b, o, rfl, -⟩ := hrd 0 h0'
    obtain ⟨v', w', hr, hown, hgr, -⟩ := run_append_own (P := P) w g0 t ty e i z k bytes ht hi hz hsize hby hzs hk (.slice (some ⟨g0, 0, none⟩) 0 0) 0 [] ⟨by simp, .inr ⟨g0, 0, #[], rfl, Nat.le_refl _, hg0, Nat.le_refl _, by unfold maxLen; omega, by simp, by simp⟩⟩
      ⟨b, o, none⟩ n c (flat f l) (by rw [flat_length hf, hn]) (hrd.cells hf hk) (flat_one h1) (by unfold maxLen; omega) (by rw [Nat.zero_add]; exact hbytes) (Nat.le_of_lt (Bk.lt hg0))
    rw [Nat.zero_add, List.nil_append] at hown
    obtain ⟨g, cap, cur, rfl, hb, ho⟩ := own_of hf hk hown hn (by omega)
    exact ⟨g, cap, cur, w', hr, hb, ho, hgr.os, hgr.tape, hgr.output, hgr.size, fun i hi hs => hgr.block i hi (by simp only [Value.ownBlock]; intro e; cases e; exact hs rfl)⟩
theorem wp_append_all {o : Oper} {a : Act} {w : World} {K : Act → World → Prop} {Q : Exit → Act → World → Prop} (s x : Operand) (t : TypeId)
    (ho : o.op = .call { callee := .builtin .append, args := #[s, x], argTypes := #[t, t] }) (i : TypeInfo) (z : Value) (bytes : Nat) (ht : P.underlying t = some (.slice e)) (hi : P.info? e = some i) (hz : i.zero = some z)
    (hsize : i.size = k) (hby : i.bytes = bytes) (hzs : z.cells.size = k) (hk : 0 < k) (g0 : Nat) (hg0 : Bk w g0 #[] e) (hs : a.eval s = .slice (some ⟨g0, 0, none⟩) 0 0) (A : Option Addr) (n c : Nat) (hx : a.eval x = .slice A n c) (l : List α) (hn : l.length = n) (hrd : RdG f k w A l) (hf : ∀ x ∈ l, (f x).length = k) (h1 : ∀ x ∈ l, ∀ v ∈ f x, v.oneCell' = true)
    (h63 : n ≤ 9223372036854775807) (hbytes : n * bytes ≤ 140737488355328)
    (h : ∀ g cap cur w', g0 ≤ g → OwnG f k e w' g cap cur l → Fr (fun i => i = g0) w w' → K (a.put o.dst (.slice (some ⟨g, 0, none⟩) n cap)) w') : o.wp P a w K Q := by
  obtain ⟨g, cap, cur, w', hr, h2, h3, h4⟩ := run_append_all (P := P) w t o.type i z bytes ht hi hz hsize hby hzs hk g0 hg0 A n c l hn hrd hf h1 h63 hbytes
  unfold Oper.wp execOp
  simp only [ho, resolve, invoke, builtin, Sem.run_bind, Sem.run_pure, Result.andThen_ok, List.map_toArray, List.map_cons, List.map_nil, hs, hx, hr]
  exact h g cap cur w' h2 h3 h4
theorem wpList_append_all {ops : Array Oper} {rest : List Oper} {o : Oper} {a : Act} {w : World} {Q : Exit → Act → World → Prop} (hgd : o.guard = none) (s x : Operand) (t : TypeId)
    (ho : o.op = .call { callee := .builtin .append, args := #[s, x], argTypes := #[t, t] }) (i : TypeInfo) (z : Value) (bytes : Nat) (ht : P.underlying t = some (.slice e)) (hi : P.info? e = some i) (hz : i.zero = some z)
    (hsize : i.size = k) (hby : i.bytes = bytes) (hzs : z.cells.size = k) (hk : 0 < k) (g0 : Nat) (hg0 : Bk w g0 #[] e) (hs : a.eval s = .slice (some ⟨g0, 0, none⟩) 0 0) (A : Option Addr) (n c : Nat) (hx : a.eval x = .slice A n c) (l : List α) (hn : l.length = n) (hrd : RdG f k w A l) (hf : ∀ x ∈ l, (f x).length = k) (h1 : ∀ x ∈ l, ∀ v ∈ f x, v.oneCell' = true)
    (h63 : n ≤ 9223372036854775807) (hbytes : n * bytes ≤ 140737488355328)
    (h : ∀ g cap cur w', g0 ≤ g → OwnG f k e w' g cap cur l → Fr (fun i => i = g0) w w' → wpList P ops Q rest (a.put o.dst (.slice (some ⟨g, 0, none⟩) n cap)) w') : wpList P ops Q (o :: rest) a w :=
  wpList_plain hgd fun _ hK => wp_append_all s x t ho i z bytes ht hi hz hsize hby hzs hk g0 hg0 hs A n c hx l hn hrd hf h1 h63 hbytes fun g cap cur w' h2 h3 h4 => hK _ _ (h g cap cur w' h2 h3 h4)
end

end Go.Proofs.Ytpbhnpoldjdfdaa.GRow
