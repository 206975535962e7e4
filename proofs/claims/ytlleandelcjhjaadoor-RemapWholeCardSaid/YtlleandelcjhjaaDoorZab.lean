/- The theorems that the claim uses, text behind text (part 2). -/
import Derived.Test.YtlleandelcjhjaaDoorZaa
import Derived.Laws.Build
import Derived.Laws.AppendOwn
import Derived.Laws.Tables
set_option linter.unusedVariables false
set_option linter.unusedSimpArgs false
namespace Go.Proofs.YtlleandelcjhjaaDoor.GKit
open Go Go.RowKit Go.Proofs.YtlleandelcjhjaaDoor.K Go.Proofs.YtlleandelcjhjaaDoor.ArrKit Go.Proofs.YtlleandelcjhjaaDoor.HeldKit
theorem wpList_load_row_g {P : Program} {ops : Array Oper} {rest : List Oper} {o : Oper} {a : Act} {w : World} {Q : Exit → Act → World → Prop} (hw : Region.wanted o (yielded ops a.tmps) = true) (ty : TypeId) (x : Operand) (ho : o.op = .load ty x)
    (g : Nat) (hx : a.eval x = .pointer (some ⟨g, 0, none⟩)) (t : TypeId) (cs : Array Value) (fr : Nat × Nat) (d : TypeDesc) (hg : w.heap[g]? = some (.cells cs t fr))
    (hu : P.underlying ty = some d) (hd : (match d with | .struct _ | .array _ _ => true | _ => false) = true) (hi : (P.info? ty).map (·.size) = some cs.size)
    (h : wpList P ops Q rest (a.put o.dst (.agg cs)) w) : wpList P ops Q (o :: rest) a w := by
  unfold wpList
  rw [if_pos hw]
  exact Or.inl (wp_load_row ty x ho g hx t cs fr d hg hu hd hi h)
theorem wpList_load_mid_g {P : Program} {ops : Array Oper} {rest : List Oper} {o : Oper} {a : Act} {w : World} {Q : Exit → Act → World → Prop} (hw : Region.wanted o (yielded ops a.tmps) = true) (ty : TypeId) (x : Operand) (ho : o.op = .load ty x)
    (b of : Nat) (hx : a.eval x = .pointer (some ⟨b, of, none⟩)) (cs : List Value) (d : TypeDesc) (hc : w.rangeAt b of cs)
    (hu : P.underlying ty = some d) (hd : d.isRow = true) (hi : (P.info? ty).map (·.size) = some cs.length)
    (h : wpList P ops Q rest (a.put o.dst (.agg cs.toArray)) w) : wpList P ops Q (o :: rest) a w := by
  unfold wpList
  rw [if_pos hw]
  exact Or.inl (wp_load_mid ty x ho b of hx cs d hc hu hd hi h)
theorem sets_bk {g : Nat} {t : TypeId} : ∀ (vs : List Value) (o : Nat) (w : World) (cs : Array Value), Bk w g cs t → Bk (w.setCells g o vs) g (lay cs o vs) t
  | [], _, _, _, h => h
  | v :: r, o, w, cs, h => sets_bk r (o + 1) _ _ (h.set o v)
theorem sets_fr {g : Nat} {w0 : World} : ∀ (vs : List Value) (o : Nat) (w : World), Fr (· = g) w0 w → Fr (· = g) w0 (w.setCells g o vs)
  | [], _, _, h => h
  | v :: r, o, w, h => sets_fr r (o + 1) _ (h.set _ _ (.inr rfl))
theorem Fr.both {S S' : Nat → Prop} {w w1 w2 : World} (h : Fr S w w1) (k : Fr S' w1 w2) : Fr (fun i => S i ∨ S' i) w w2 :=
  ⟨k.os.trans h.os, k.tape.trans h.tape, k.output.trans h.output, Nat.le_trans h.size k.size, fun i hi hn => (k.block i (Nat.lt_of_lt_of_le hi h.size) (fun e => hn (.inr e))).trans (h.block i hi (fun e => hn (.inl e)))⟩
/-- what was made since is not of w -/
theorem Fr.new {S S' : Nat → Prop} {w w1 w2 : World} (h : Fr S w w1) (k : Fr S' w1 w2) (hs : ∀ i, S' i → S i ∨ w.heap.size ≤ i) : Fr S w w2 :=
  h.then k (fun i hi e => (hs i e).elim id (fun e => by omega))
theorem Fr.set1 (w : World) (p o : Nat) (v : Value) : Fr (fun i => i = p) w (w.setCell ⟨p, o, none⟩ v) := Fr.set (Fr.refl _ _) _ _ (.inr rfl)
theorem Fr.row1 (w : World) (p : Nat) (cs : Array Value) : Fr (fun i => i = p) w (w.setRow p cs) := ArrKit.Fr.row (Fr.refl _ _) _ _ (.inr rfl)
/-- the blocks os stand -/
def Stand (os : List (Nat × Obj)) (w : World) : Prop := ∀ r ∈ os, w.heap[r.1]? = some r.2
theorem Stand.nil (w : World) : Stand [] w := fun r h => by cases h
theorem Stand.cons {w : World} {g : Nat} {o : Obj} {os : List (Nat × Obj)} (h0 : w.heap[g]? = some o) (h : Stand os w) : Stand ((g, o) :: os) w := fun r hr => by
  rcases List.mem_cons.1 hr with rfl | hr
  · exact h0
  · exact h r hr
theorem Stand.drew {w : World} {os : List (Nat × Obj)} (h : Stand os w) : Stand os w.drew := h
theorem Stand.a0 {w : World} {r : Nat × Obj} {os : List (Nat × Obj)} (h : Stand (r :: os) w) : w.heap[r.1]? = some r.2 := h _ (List.mem_cons_self ..)
theorem Stand.tl {w : World} {r : Nat × Obj} {os : List (Nat × Obj)} (h : Stand (r :: os) w) : Stand os w := fun r hr => h r (List.mem_cons_of_mem _ hr)
theorem Stand.fr {S : Nat → Prop} {w w' : World} {os : List (Nat × Obj)} (h : Stand os w) (f : Fr S w w') (hs : ∀ r ∈ os, ¬ S r.1) : Stand os w' := fun r hr => f.keep (h r hr) (hs r hr)
theorem Fr.sets1 (w : World) (p o : Nat) (vs : List Value) : Fr (fun i => i = p) w (w.setCells p o vs) := sets_fr vs o w (Fr.refl _ _)
theorem there_bk {w : World} {g : Nat} {cs : Array Value} {t : TypeId} (h : Bk w g cs t) (o n : Nat) (hs : o + n ≤ cs.size) : w.there g o n := fun j hj => ⟨by rw [h.cell, Array.getElem?_eq_getElem (by omega)]; rfl, h.free _⟩
theorem build_eq {P : Program} {ops : Array Oper} {rest : List Oper} {o : Oper} {a : Act} {w : World} {Q : Exit → Act → World → Prop} (hg : o.guard = none) (t : TypeId) (parts : Array (Nat × Operand)) (ho : o.op = .build t parts) (cs : Array Value)
    (hf : P.built t (parts.map fun (i, x) => (i, a.eval x)).toList = some cs) (h : wpList P ops Q rest (a.put o.dst (.agg cs)) w) : wpList P ops Q (o :: rest) a w :=
  wpList_build hg t parts ho (by rw [hf]; rfl) (by rw [hf]; exact h)
theorem build_ev {P : Program} {ops : Array Oper} {rest : List Oper} {o : Oper} {a : Act} {w : World} {Q : Exit → Act → World → Prop} (hg : o.guard = none) (t : TypeId) (parts : Array (Nat × Operand)) (ho : o.op = .build t parts) (L : List (Nat × Value))
    (hp : (parts.map fun (i, x) => (i, a.eval x)).toList = L) (cs : Array Value) (hf : P.built t L = some cs) (h : wpList P ops Q rest (a.put o.dst (.agg cs)) w) : wpList P ops Q (o :: rest) a w :=
  build_eq hg t parts ho cs (by rw [hp]; exact hf) h

end Go.Proofs.YtlleandelcjhjaaDoor.GKit
namespace Go.Proofs.YtlleandelcjhjaaDoor.GRow
open Go Go.RowKit Go.Proofs.YtlleandelcjhjaaDoor.K Go.Proofs.YtlleandelcjhjaaDoor.ArrKit Go.Proofs.YtlleandelcjhjaaDoor.HeldKit Go.Proofs.YtlleandelcjhjaaDoor.GKit
def RdG {α : Type} (f : α → List Value) (k : Nat) (w : World) (A : Option Addr) (l : List α) : Prop := ∀ i (h : i < l.length), ∃ b o, A = some ⟨b, o, none⟩ ∧ w.rangeAt b (o + i * k) (f l[i])
section
variable {α : Type} {f : α → List Value} {k : Nat}
theorem RdG.later {S : Nat → Prop} {w w1 : World} {A : Option Addr} {l : List α} (h : RdG f k w A l) (fr : Fr S w w1) (hs : ∀ a, A = some a → l ≠ [] → ¬ S a.block) : RdG f k w1 A l := fun i hi => by
  obtain ⟨b, o, e, hr⟩ := h i hi
  refine ⟨b, o, e, fun j v hj => ?_⟩
  have hc := hr j v hj
  have hb := World.block_lt_of_cell? w _ hc
  rw [fr.cell b (o + i * k + j) hb (hs _ e (by intro e; subst e; simp at hi))]
  exact hc
theorem RdG.keep {w w1 : World} {A : Option Addr} {l : List α} (h : RdG f k w A l) (fr : Fr0 w w1) : RdG f k w1 A l := h.later fr (fun _ _ _ h => h)
theorem RdG.nil (w : World) (A : Option Addr) : RdG f k w A [] := fun i h => by simp at h
theorem RdG.form {w : World} {A : Option Addr} {l : List α} (h : RdG f k w A l) (hl : 0 < l.length) (hf : ∀ x, 0 < (f x).length) : ∃ b o, A = some ⟨b, o, none⟩ ∧ b < w.heap.size ∧ ∀ i (h : i < l.length), w.rangeAt b (o + i * k) (f l[i]) := by
  obtain ⟨b, o, rfl, hr⟩ := h 0 hl
  refine ⟨b, o, rfl, World.block_lt_of_cell? w _ (hr 0 _ (List.getElem?_eq_getElem (hf _))), fun i hi => ?_⟩
  obtain ⟨b', o', e, hr'⟩ := h i hi
  simp only [Option.some.injEq, Addr.mk.injEq, and_true] at e
  obtain ⟨rfl, rfl⟩ := e
  exact hr'
theorem RdG.at {w : World} {b o : Nat} {l : List α} (h : RdG f k w (some ⟨b, o, none⟩) l) {i : Nat} (hi : i < l.length) : w.rangeAt b (o + i * k) (f l[i]) := by
  obtain ⟨b', o', e, hr⟩ := h i hi
  simp only [Option.some.injEq, Addr.mk.injEq, and_true] at e
  obtain ⟨rfl, rfl⟩ := e
  exact hr
theorem RdG.of {w : World} {b o : Nat} {l : List α} (h : ∀ i (h : i < l.length), w.rangeAt b (o + i * k) (f l[i])) : RdG f k w (some ⟨b, o, none⟩) l := fun i hi => ⟨b, o, rfl, h i hi⟩
/-- what was there when w began is nothing that was made since -/
theorem RdG.past {S : Nat → Prop} {w0 w w1 : World} {A : Option Addr} {l : List α} (h0 : RdG f k w0 A l) (h : RdG f k w A l) (hf : ∀ x, 0 < (f x).length) (fr : Fr S w w1) (hs : ∀ b, b < w0.heap.size → ¬ S b) : RdG f k w1 A l := h.later fr (fun a e hl => by
  subst e
  obtain ⟨b, o, e, hb, -⟩ := h0.form (List.length_pos_iff.2 hl) hf
  obtain rfl := Option.some.inj e
  exact hs _ hb)
def flat (f : α → List Value) (l : List α) : List Value := (l.map f).flatten
theorem flat_nil : flat f [] = [] := rfl
theorem flat_cons (x : α) (l : List α) : flat f (x :: l) = f x ++ flat f l := rfl
theorem flat_append (l m : List α) : flat f (l ++ m) = flat f l ++ flat f m := by simp [flat]
theorem flat_length {l : List α} (h : ∀ x ∈ l, (f x).length = k) : (flat f l).length = l.length * k := by
  induction l with
  | nil => simp [flat_nil]
  | cons x r ih => rw [flat_cons, List.length_append, h x (List.mem_cons_self ..), ih (fun y hy => h y (List.mem_cons_of_mem _ hy)), List.length_cons, Nat.add_mul]; omega
theorem flat_get {l : List α} (h : ∀ x ∈ l, (f x).length = k) : ∀ i (hi : i < l.length) j, j < k → (flat f l)[i * k + j]? = (f l[i])[j]? := by
  induction l with
  | nil => intro i hi; simp at hi
  | cons x r ih =>
    intro i hi j hj
    have hx := h x (List.mem_cons_self ..)
    cases i with
    | zero => rw [flat_cons, Nat.zero_mul, Nat.zero_add, List.getElem?_append_left (by omega)]; rfl
    | succ i =>
      rw [flat_cons, List.getElem?_append_right (by rw [hx, Nat.add_mul]; omega), hx, show (i + 1) * k + j - k = i * k + j by rw [Nat.add_mul]; omega]
      exact ih (fun y hy => h y (List.mem_cons_of_mem _ hy)) i (by simpa using hi) j hj
theorem flat_in {l : List α} (h : ∀ x ∈ l, (f x).length = k) (hk : 0 < k) {j : Nat} {u : Value} (hj : (flat f l)[j]? = some u) : ∃ (i : Nat) (hi : i < l.length), (f l[i])[j % k]? = some u ∧ j = i * k + j % k := by
  have hl := (List.getElem?_eq_some_iff.1 hj).1
  rw [flat_length h] at hl
  have hi : j / k < l.length := (Nat.div_lt_iff_lt_mul hk).2 hl
  have e : j = j / k * k + j % k := by rw [Nat.mul_comm]; exact (Nat.div_add_mod j k).symm
  refine ⟨j / k, hi, ?_, e⟩
  rw [← flat_get h _ hi _ (Nat.mod_lt _ hk), ← e]
  exact hj
theorem RdG.cells {w : World} {b o : Nat} {l : List α} (hr : RdG f k w (some ⟨b, o, none⟩) l) (h : ∀ x ∈ l, (f x).length = k) (hk : 0 < k) : ∀ (j : Nat) (u : Value), (flat f l)[j]? = some u → w.cell? ((⟨b, o, none⟩ : Addr).add j) = some u := fun j u hj => by
  obtain ⟨i, hi, hu, e⟩ := flat_in h hk hj
  rw [add_form]
  have := hr.at hi _ _ hu
  rwa [Nat.add_assoc, ← e] at this
theorem flat_one {l : List α} (h : ∀ x ∈ l, ∀ v ∈ f x, v.oneCell' = true) : ∀ v ∈ flat f l, v.oneCell' = true := fun v hv => by
  obtain ⟨c, hc, hv⟩ := List.mem_flatten.1 hv
  obtain ⟨x, hx, rfl⟩ := List.mem_map.1 hc
  exact h x hx v hv
/-- a slice of one's own, at the head of the block g -/
structure OwnG (f : α → List Value) (k : Nat) (e : TypeId) (w : World) (g cap : Nat) (cur : Array Value) (l : List α) : Prop where
  blk : Bk w g cur e
  room : l.length ≤ cap
  max : cap ≤ 9223372036854775807
  size : cur.size = cap * k
  here : ∀ i (h : i < l.length), ∀ (j : Nat) (u : Value), (f l[i])[j]? = some u → cur[i * k + j]? = some u
variable {e : TypeId}
theorem OwnG.rd {w : World} {g cap : Nat} {cur : Array Value} {l : List α} (h : OwnG f k e w g cap cur l) : RdG f k w (some ⟨g, 0, none⟩) l := RdG.of fun i hi j u hj => by
  rw [Nat.zero_add, Bk.cell h.blk]
  exact h.here i hi j u hj
theorem OwnG.keep {S : Nat → Prop} {w w1 : World} {g cap : Nat} {cur : Array Value} {l : List α} (h : OwnG f k e w g cap cur l) (fr : Fr S w w1) (hs : ¬ S g) : OwnG f k e w1 g cap cur l := ⟨fr.keep h.blk hs, h.room, h.max, h.size, h.here⟩
/-- one thing of it laid anew -/
theorem OwnG.set {w : World} {g cap : Nat} {cur : Array Value} {l : List α} (h : OwnG f k e w g cap cur l) (hl : ∀ x ∈ l, (f x).length = k) {i : Nat} (hi : i < l.length) (x : α) (hx : (f x).length = k) (w' : World) (cur' : Array Value) (hb : Bk w' g cur' e) (hsz : cur'.size = cur.size)
    (hin : ∀ (j : Nat) (u : Value), (f x)[j]? = some u → cur'[i * k + j]? = some u) (hout : ∀ m, (m < i * k ∨ i * k + k ≤ m) → cur'[m]? = cur[m]?) : OwnG f k e w' g cap cur' (l.set i x) :=
  ⟨hb, by rw [List.length_set]; exact h.room, h.max, hsz.trans h.size, fun m hm j u hj => by
    rw [List.length_set] at hm
    rw [List.getElem_set] at hj
    by_cases e : i = m
    · subst e
      rw [if_pos rfl] at hj
      exact hin j u hj
    · rw [if_neg e] at hj
      have hjk : j < k := by
        have := (List.getElem?_eq_some_iff.1 hj).1
        rwa [hl _ (List.getElem_mem hm)] at this
      have h1 : m * k + j < i * k ∨ i * k + k ≤ m * k + j := by
        rcases Nat.lt_or_gt_of_ne e with h2 | h2
        · right
          have : (i + 1) * k ≤ m * k := Nat.mul_le_mul_right k h2
          rw [Nat.add_mul] at this; omega
        · left
          have : (m + 1) * k ≤ i * k := Nat.mul_le_mul_right k h2
          rw [Nat.add_mul] at this; omega
      rw [hout _ h1]
      exact h.here m hm j u hj⟩
theorem Fr.newG {S : Nat → Prop} {w w1 w2 : World} {g : Nat} (h : Fr S w w1) (k : Fr (fun i => i = g) w1 w2) (hg : w.heap.size ≤ g) : Fr S w w2 := h.then k (fun i hi e => by omega)

variable {P : Program}
theorem own_of {w : World} {base n : Nat} {v : Value} {l : List α} (hf : ∀ x ∈ l, (f x).length = k) (hk : 0 < k) (h : w.ownsRow base e k v n (flat f l)) (hn : l.length = n) (h0 : 0 < n) : ∃ g cap cur, v = .slice (some ⟨g, 0, none⟩) n cap ∧ base ≤ g ∧ OwnG f k e w g cap cur l := by
  rcases h.2 with ⟨rfl, h2⟩ | ⟨g, cap, cur, rfl, hb, hg, hnc, hcm, hcs, htake⟩
  · omega
  · refine ⟨g, cap, cur, rfl, hb, hg, by omega, hcm, hcs, fun i hi j u hj => ?_⟩
    have hjk : j < k := by
      have := (List.getElem?_eq_some_iff.1 hj).1
      rwa [hf _ (List.getElem_mem hi)] at this
    have h1 : (flat f l)[i * k + j]? = some u := by rw [flat_get hf i hi j hjk]; exact hj
    rw [← htake, List.getElem?_take] at h1
    split at h1
    · simpa using h1
    · cases h1
theorem own_row {w : World} {base g cap : Nat} {cur : Array Value} {l : List α} (hf : ∀ x ∈ l, (f x).length = k) (h : OwnG f k e w g cap cur l) (hb : base ≤ g) : w.ownsRow base e k (.slice (some ⟨g, 0, none⟩) l.length cap) l.length (flat f l) :=
  ⟨flat_length hf, .inr ⟨g, cap, cur, rfl, hb, h.blk, h.room, h.max, h.size, by
    apply List.ext_getElem?
    intro j
    rw [List.getElem?_take]
    by_cases hj : j < l.length * k
    · have hjl : j < (flat f l).length := by rw [flat_length hf]; exact hj
      have hk : 0 < k := by
        rcases Nat.eq_zero_or_pos k with rfl | h
        · simp at hj
        · exact h
      obtain ⟨i, hi, hu, e⟩ := flat_in hf hk (List.getElem?_eq_getElem hjl)
      have hc := h.here i hi _ _ hu
      rw [← e] at hc
      rw [if_pos hj, Array.getElem?_toList, hc, List.getElem?_eq_getElem hjl]
    · rw [if_neg hj, List.getElem?_eq_none (by rw [flat_length hf]; omega)]⟩⟩
/-- append([]T{}, xs...) -/
theorem run_append_all (w : World) (t ty : TypeId) (i : TypeInfo) (z : Value) (bytes : Nat) (ht : P.underlying t = some (.slice e)) (hi : P.info? e = some i) (hz : i.zero = some z)
    (hsize : i.size = k) (hby : i.bytes = bytes) (hzs : z.cells.size = k) (hk : 0 < k) (g0 : Nat) (hg0 : Bk w g0 #[] e) (A : Option Addr) (n c : Nat) (l : List α) (hn : l.length = n) (hrd : RdG f k w A l) (hf : ∀ x ∈ l, (f x).length = k) (h1 : ∀ x ∈ l, ∀ v ∈ f x, v.oneCell' = true)
    (h63 : n ≤ 9223372036854775807) (hbytes : n * bytes ≤ 140737488355328) :
    ∃ g cap cur w', (Builtin.append_ #[t, t] ty #[.slice (some ⟨g0, 0, none⟩) 0 0, .slice A n c]).run P w = .ok (.slice (some ⟨g, 0, none⟩) n cap) w' ∧ g0 ≤ g ∧ OwnG f k e w' g cap cur l ∧ Fr (fun i => i = g0) w w' := by
  by_cases h0 : n = 0
  · subst h0
    have : l = [] := List.eq_nil_of_length_eq_zero hn
    subst this
    refine ⟨g0, 0, #[], w, ?_, Nat.le_refl _, ⟨hg0, Nat.le_refl _, by omega, by simp, fun i hi => by simp at hi⟩, Fr.refl _ _⟩
    cases A <;> simp [Builtin.append_, run_underlying ht, sizeOf, typeInfo, hi, Builtin.lenOf, Builtin.firstCells, loadCells, loadCellsFrom, storeCells]
  · have h0' : 0 < l.length := by omega
    obtain ⟨b, o, rfl, -⟩ := hrd 0 h0'
    obtain ⟨v', w', hr, hown, hgr, -⟩ := run_append_own (P := P) w g0 t ty e i z k bytes ht hi hz hsize hby hzs hk (.slice (some ⟨g0, 0, none⟩) 0 0) 0 [] ⟨by simp, .inr ⟨g0, 0, #[], rfl, Nat.le_refl _, hg0, Nat.le_refl _, by unfold maxLen; omega, by simp, by simp⟩⟩
      ⟨b, o, none⟩ n c (flat f l) (by rw [flat_length hf, hn]) (hrd.cells hf hk) (flat_one h1) (by unfold maxLen; omega) (by rw [Nat.zero_add]; exact hbytes) (Nat.le_of_lt (Bk.lt hg0))
    rw [Nat.zero_add, List.nil_append] at hown
    obtain ⟨g, cap, cur, rfl, hb, ho⟩ := own_of hf hk hown hn (by omega)
    exact ⟨g, cap, cur, w', hr, hb, ho, hgr.os, hgr.tape, hgr.output, hgr.size, fun i hi hs => hgr.block i hi (by simp only [Value.ownBlock]; intro e; cases e; exact hs rfl)⟩
theorem wp_append_all {o : Oper} {a : Act} {w : World} {K : Act → World → Prop} {Q : Exit → Act → World → Prop} (s x : Operand) (t : TypeId)
    (ho : o.op = .call { callee := .builtin .append, args := #[s, x], argTypes := #[t, t] }) (i : TypeInfo) (z : Value) (bytes : Nat) (ht : P.underlying t = some (.slice e)) (hi : P.info? e = some i) (hz : i.zero = some z)
    (hsize : i.size = k) (hby : i.bytes = bytes) (hzs : z.cells.size = k) (hk : 0 < k) (g0 : Nat) (hg0 : Bk w g0 #[] e) (hs : a.eval s = .slice (some ⟨g0, 0, none⟩) 0 0) (A : Option Addr) (n c : Nat) (hx : a.eval x = .slice A n c) (l : List α) (hn : l.length = n) (hrd : RdG f k w A l) (hf : ∀ x ∈ l, (f x).length = k) (h1 : ∀ x ∈ l, ∀ v ∈ f x, v.oneCell' = true)
    (h63 : n ≤ 9223372036854775807) (hbytes : n * bytes ≤ 140737488355328)
    (h : ∀ g cap cur w', g0 ≤ g → OwnG f k e w' g cap cur l → Fr (fun i => i = g0) w w' → K (a.put o.dst (.slice (some ⟨g, 0, none⟩) n cap)) w') : o.wp P a w K Q := by
  obtain ⟨g, cap, cur, w', hr, h2, h3, h4⟩ := run_append_all (P := P) w t o.type i z bytes ht hi hz hsize hby hzs hk g0 hg0 A n c l hn hrd hf h1 h63 hbytes
  unfold Oper.wp execOp
  simp only [ho, resolve, invoke, builtin, Sem.run_bind, Sem.run_pure, Result.andThen_ok, List.map_toArray, List.map_cons, List.map_nil, hs, hx, hr]
  exact h g cap cur w' h2 h3 h4
theorem wpList_append_all {ops : Array Oper} {rest : List Oper} {o : Oper} {a : Act} {w : World} {Q : Exit → Act → World → Prop} (hgd : o.guard = none) (s x : Operand) (t : TypeId)
    (ho : o.op = .call { callee := .builtin .append, args := #[s, x], argTypes := #[t, t] }) (i : TypeInfo) (z : Value) (bytes : Nat) (ht : P.underlying t = some (.slice e)) (hi : P.info? e = some i) (hz : i.zero = some z)
    (hsize : i.size = k) (hby : i.bytes = bytes) (hzs : z.cells.size = k) (hk : 0 < k) (g0 : Nat) (hg0 : Bk w g0 #[] e) (hs : a.eval s = .slice (some ⟨g0, 0, none⟩) 0 0) (A : Option Addr) (n c : Nat) (hx : a.eval x = .slice A n c) (l : List α) (hn : l.length = n) (hrd : RdG f k w A l) (hf : ∀ x ∈ l, (f x).length = k) (h1 : ∀ x ∈ l, ∀ v ∈ f x, v.oneCell' = true)
    (h63 : n ≤ 9223372036854775807) (hbytes : n * bytes ≤ 140737488355328)
    (h : ∀ g cap cur w', g0 ≤ g → OwnG f k e w' g cap cur l → Fr (fun i => i = g0) w w' → wpList P ops Q rest (a.put o.dst (.slice (some ⟨g, 0, none⟩) n cap)) w') : wpList P ops Q (o :: rest) a w :=
  wpList_plain hgd fun _ hK => wp_append_all s x t ho i z bytes ht hi hz hsize hby hzs hk g0 hg0 hs A n c hx l hn hrd hf h1 h63 hbytes fun g cap cur w' h2 h3 h4 => hK _ _ (h g cap cur w' h2 h3 h4)
end
end Go.Proofs.YtlleandelcjhjaaDoor.GRow
namespace Go.Proofs.YtlleandelcjhjaaDoor.GApp
open Go Go.RowKit Go.Proofs.YtlleandelcjhjaaDoor.K Go.Proofs.YtlleandelcjhjaaDoor.ArrKit Go.Proofs.YtlleandelcjhjaaDoor.HeldKit Go.Proofs.YtlleandelcjhjaaDoor.GKit Go.Proofs.YtlleandelcjhjaaDoor.GRow
theorem fold_lay : ∀ (l : List Value) (s off : Nat) (cs : Array Value), (l.zipIdx s).foldl (fun cs (x : Value × Nat) => cs.setIfInBounds (off + x.2) x.1) cs = lay cs (off + s) l
  | [], _, _, _ => rfl
  | v :: r, s, off, cs => by
    rw [List.zipIdx_cons, List.foldl_cons, fold_lay r (s + 1) off, lay, Nat.add_assoc]
theorem fill_lay (X : Array Value) (off : Nat) (cs : Array Value) : X.zipIdx.foldl (fun cs (x : Value × Nat) => cs.setIfInBounds (off + x.2) x.1) cs = lay cs off X.toList := by
  have := fold_lay X.toList 0 off cs
  rw [Nat.add_zero] at this
  rw [← this, ← Array.foldl_toList, Array.toList_zipIdx]
theorem lay_all (cs : Array Value) (X : Array Value) (h : cs.size = X.size) : lay cs 0 X.toList = X := by
  apply Array.ext_getElem?
  intro i
  rw [lay_get, Array.length_toList]
  by_cases hi : i < X.size
  · rw [if_pos (by omega), Nat.sub_zero, Array.getElem?_toList]
  · rw [if_neg (by omega), Array.getElem?_eq_none (by omega), Array.getElem?_eq_none (by omega)]
section
variable {P : Program}
theorem run_build_op {o : Oper} {a : Act} {w : World} (t : TypeId) (parts : Array (Nat × Operand)) (ho : o.op = .build t parts) (L : List (Nat × Value)) (hp : (parts.map fun (i, x) => (i, a.eval x)).toList = L) (cs : Array Value) (hf : P.built t L = some cs) : (execOp a.eval o).run P w = .ok (.value (.agg cs)) w := by
  unfold execOp
  simp only [ho, Sem.run_bind, run_build w t _ cs (by rw [hp]; exact hf), Result.andThen_ok, Sem.run_pure]
/-- []T{x}: a new block of its cells -/
theorem run_buildSlice_one (w : World) (t e : TypeId) (i : TypeInfo) (z : Value) (k : Nat) (ht : P.underlying t = some (.slice e)) (hi : P.info? e = some i) (hz : i.zero = some z) (hsize : i.size = k) (hk : 0 < k) (hk2 : k ≤ 16777216)
    (X : Array Value) (hX : X.size = k) : (Instr.buildSlice t 1 #[(0, .agg X)]).run P w = .ok (.slice (some ⟨w.heap.size, 0, none⟩) 1 1) (w.alloc (.cells X e)) := by
  have h1 : ¬ (16777216 < k) := by omega
  have h2 : ¬ k = 0 := by omega
  have hl := lay_all ((Array.range k).map fun x => z.cells[x % z.cells.size]!) X (by simp [hX])
  have hf := fill_lay X 0 ((Array.range k).map fun x => z.cells[x % z.cells.size]!)
  rw [hl] at hf
  have hfill : Instr.fill (fun i => some (i * k, k)) ((Array.range k).map fun x => z.cells[x % z.cells.size]!) [(0, Value.agg X)] = some X := by
    have hc : (Value.agg X).cells.size = k := hX
    have hc2 : (Value.agg X).cells = X := rfl
    unfold Instr.fill
    simp only [Nat.zero_mul, hc2, hX]
    rw [if_neg (by simp)]
    unfold Instr.fill
    rw [hf]
  simp [Instr.buildSlice, run_underlying ht, sizeOf, typeInfo, hi, hsize, h1, h2, zeroValue, hz, newRow, hfill]
theorem run_buildSlice_nil (w : World) (t e : TypeId) (i : TypeInfo) (ht : P.underlying t = some (.slice e)) (hi : P.info? e = some i) : (Instr.buildSlice t 0 #[]).run P w = .ok (.slice (some ⟨w.heap.size, 0, none⟩) 0 0) (w.alloc (.cells #[] e)) := by
  have h0 : (Array.range 0) = #[] := rfl
  simp [Instr.buildSlice, run_underlying ht, sizeOf, typeInfo, hi, newRow, Instr.fill, h0]
theorem wp_buildSlice_nil {o : Oper} {a : Act} {w : World} {K : Act → World → Prop} {Q : Exit → Act → World → Prop} (t : TypeId) (ho : o.op = .buildSlice t 0 #[]) (e : TypeId) (i : TypeInfo) (ht : P.underlying t = some (.slice e)) (hi : P.info? e = some i)
    (h : K (a.put o.dst (.slice (some ⟨w.heap.size, 0, none⟩) 0 0)) (w.alloc (.cells #[] e))) : o.wp P a w K Q := by
  unfold Oper.wp execOp
  have hr := run_buildSlice_nil (P := P) w t e i ht hi
  simp only [ho, Sem.run_bind, List.map_toArray, List.map_nil, hr, Result.andThen_ok]
  exact h
theorem wp_buildSlice_one {o : Oper} {a : Act} {w : World} {K : Act → World → Prop} {Q : Exit → Act → World → Prop} (t : TypeId) (x : Operand) (ho : o.op = .buildSlice t 1 #[(0, x)]) (e : TypeId) (i : TypeInfo) (z : Value) (k : Nat) (ht : P.underlying t = some (.slice e)) (hi : P.info? e = some i) (hz : i.zero = some z) (hsize : i.size = k) (hk : 0 < k) (hk2 : k ≤ 16777216)
    (X : Array Value) (hX : X.size = k) (hx : a.eval x = .agg X) (h : K (a.put o.dst (.slice (some ⟨w.heap.size, 0, none⟩) 1 1)) (w.alloc (.cells X e))) : o.wp P a w K Q := by
  unfold Oper.wp execOp
  have hr := run_buildSlice_one (P := P) w t e i z k ht hi hz hsize hk hk2 X hX
  simp only [ho, Sem.run_bind, List.map_toArray, List.map_cons, List.map_nil, hx, hr, Result.andThen_ok]
  exact h
variable {α : Type} {f : α → List Value} {k : Nat} {e : TypeId}
theorem RdG.none_len {w : World} {l : List α} (h : RdG f k w none l) : l.length = 0 := by
  rcases Nat.eq_zero_or_pos l.length with h0 | h0
  · exact h0
  · obtain ⟨b, o, e, -⟩ := h 0 h0
    cases e
/-- append(xs[:n:n], x) -/
theorem run_append_one (w : World) (t ty : TypeId) (i : TypeInfo) (z : Value) (bytes : Nat) (ht : P.underlying t = some (.slice e)) (hi : P.info? e = some i) (hz : i.zero = some z)
    (hsize : i.size = k) (hby : i.bytes = bytes) (hzs : z.cells.size = k) (hk : 0 < k) (A : Option Addr) (n : Nat) (l : List α) (hn : l.length = n) (hrd : RdG f k w A l) (hf : ∀ x ∈ l, (f x).length = k)
    (g1 c1 : Nat) (x : α) (hx : (f x).length = k) (hg1 : Bk w g1 (f x).toArray e) (h63 : n + 1 ≤ 9223372036854775807) (hbytes : (n + 1) * bytes ≤ 140737488355328) (hA : A = none → n = 0) :
    ∃ g cap cur w', (Builtin.append_ #[t, t] ty #[.slice A n n, .slice (some ⟨g1, 0, none⟩) 1 c1]).run P w = .ok (.slice (some ⟨g, 0, none⟩) (n + 1) cap) w' ∧ w.heap.size ≤ g ∧ OwnG f k e w' g cap cur (l ++ [x]) ∧ Fr0 w w' := by
  have hfl : ∀ y ∈ l ++ [x], (f y).length = k := fun y hy => by
    rcases List.mem_append.1 hy with h | h
    · exact hf y h
    · simp only [List.mem_cons, List.not_mem_nil, or_false] at h; subst h; exact hx
  have hnews : ∀ (j : Nat) (u : Value), (f x)[j]? = some u → w.cell? ((⟨g1, 0, none⟩ : Addr).add j) = some u := fun j u hu => by
    rw [add_form, Nat.zero_add, Bk.cell hg1, List.getElem?_toArray]; exact hu
  have hlo : (flat f l).length = n * k := by rw [flat_length hf, hn]
  have key : ∀ (olds : List Value) (hO : olds = flat f l), OwnG f k e (w.drew.alloc (.cells (olds.toArray ++ (f x).toArray ++ Builtin.zeroCells z.cells (grownCap w (n + 1) n e - (n + 1))) e)) w.heap.size (grownCap w (n + 1) n e) (olds.toArray ++ (f x).toArray ++ Builtin.zeroCells z.cells (grownCap w (n + 1) n e - (n + 1))) (l ++ [x]) := by
    intro olds hO
    subst hO
    have hge := grownCap_ge w (n + 1) n e
    have hcm := grownCap_le_maxLen w (n + 1) n e (by unfold maxLen; omega)
    have hz' : (Builtin.zeroCells z.cells (grownCap w (n + 1) n e - (n + 1))).size = (grownCap w (n + 1) n e - (n + 1)) * k := by rw [size_zeroCells, hzs]
    refine ⟨heap_alloc_new w.drew _, by simp; omega, hcm, ?_, fun i hi j u hj => ?_⟩
    · rw [Array.size_append, Array.size_append, List.size_toArray, List.size_toArray, hlo, hx, hz']
      rw [← Nat.succ_mul, ← Nat.add_mul]
      congr 1
      omega
    · have hjk : j < k := by
        have := (List.getElem?_eq_some_iff.1 hj).1
        rwa [hfl _ (List.getElem_mem hi)] at this
      have h1 := flat_get hfl i hi j hjk
      rw [hj, flat_append] at h1
      have e1 : flat f [x] = f x := by rw [flat_cons, flat_nil, List.append_nil]
      rw [e1] at h1
      have hlt := (List.getElem?_eq_some_iff.1 h1).1
      rw [Array.getElem?_append_left (by simpa using hlt), List.append_toArray, List.getElem?_toArray]
      exact h1
  have fr : ∀ o, Fr0 w (w.drew.alloc o) := fun o => Fr.alloc (Fr.drew (Fr.refl _ _)) o
  cases A with
  | none =>
    have := hA rfl
    subst this
    have hl : l = [] := List.eq_nil_of_length_eq_zero hn
    subst hl
    have hr := run_append_nil (P := P) w t ty e i z ht hi hz ⟨g1, 0, none⟩ 1 c1 (f x) (by rw [hx, hsize, Nat.one_mul]) hnews (by omega) (by omega) (by rw [hby]; omega)
    have hk2 := key [] rfl
    rw [Nat.zero_add] at hk2
    have e2 : (([] : List Value).toArray ++ (f x).toArray) = (f x).toArray := by simp
    rw [e2] at hk2
    exact ⟨w.heap.size, grownCap w 1 0 e, _, _, hr, Nat.le_refl _, hk2, fr _⟩
  | some b =>
    have hsp : ∀ (j : Nat) (u : Value), (flat f l)[j]? = some u → w.cell? (b.add j) = some u := by
      by_cases h0 : 0 < l.length
      · obtain ⟨b', o', e', -⟩ := hrd 0 h0
        obtain rfl := Option.some.inj e'
        exact hrd.cells hf hk
      · have : l = [] := List.eq_nil_of_length_eq_zero (by omega)
        subst this
        intro j u hu; simp [flat_nil] at hu
    have hr := run_append_grow (P := P) w t ty e i z ht hi hz b n n (flat f l) (by rw [hlo, hsize]) hsp ⟨g1, 0, none⟩ 1 c1 (f x) (by rw [hx, hsize, Nat.one_mul]) hnews (by omega) (by omega) (by rw [hby]; exact growslice_fits (by omega) hbytes)
    exact ⟨w.heap.size, _, _, _, hr, Nat.le_refl _, key _ rfl, fr _⟩
theorem wp_append_run {o : Oper} {a : Act} {w w' : World} {K : Act → World → Prop} {Q : Exit → Act → World → Prop} (s x : Operand) (t : TypeId) (ho : o.op = .call { callee := .builtin .append, args := #[s, x], argTypes := #[t, t] }) (vs vx v : Value) (hs : a.eval s = vs) (hx : a.eval x = vx)
    (hr : (Builtin.append_ #[t, t] o.type #[vs, vx]).run P w = .ok v w') (h : K (a.put o.dst v) w') : o.wp P a w K Q := by
  unfold Oper.wp execOp
  simp only [ho, resolve, invoke, builtin, Sem.run_bind, Sem.run_pure, Result.andThen_ok, List.map_toArray, List.map_cons, List.map_nil, hs, hx, hr]
  exact h
end
end Go.Proofs.YtlleandelcjhjaaDoor.GApp
