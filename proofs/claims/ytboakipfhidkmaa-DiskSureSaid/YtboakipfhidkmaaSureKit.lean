/- DiskSure: bytes appended to rows of one's own; four such rows in a variable. -/
import Derived.Test.YtboakipfhidkmaaSurePlain
import Derived.Test.YtboakipfhidkmaaGApp
import Derived.Test.YtboakipfhidkmaaDiskCopy
set_option linter.unusedVariables false
set_option linter.unusedSimpArgs false
namespace Go.Proofs.Ytboakipfhidkmaa.SureKit
open Go Go.RowKit Go.Proofs.Ytboakipfhidkmaa.K Go.Proofs.Ytboakipfhidkmaa.EqKit Go.Proofs.Ytboakipfhidkmaa.ArrKit Go.Proofs.Ytboakipfhidkmaa.HeldKit Go.Proofs.Ytboakipfhidkmaa.GKit Go.Proofs.Ytboakipfhidkmaa.GRow Go.Proofs.Ytboakipfhidkmaa.DiskKit Go.Proofs.Ytboakipfhidkmaa.DiskAsk Go.Proofs.Ytboakipfhidkmaa.DiskForm Go.Proofs.Ytboakipfhidkmaa.DiskAct Go.Proofs.Ytboakipfhidkmaa.DiskNew Go.Proofs.Ytboakipfhidkmaa.DiskCopy Go.Proofs.Ytboakipfhidkmaa.DiskLay Go.Proofs.Ytboakipfhidkmaa.DiskFlush Go.Proofs.Ytboakipfhidkmaa.DiskRRead Go.Proofs.Ytboakipfhidkmaa.SurePlain

theorem infoB : (Try.prog.info? 5).map (fun i => (i.zero, i.size, i.bytes)) = some (some (.int .u8 0), 1, 1) := by kernel_rfl
/-- a byte slice of one's own -/
def Own1 (w : World) (base : Nat) (v : Value) (l : List UInt8) : Prop :=
  (v = .slice none 0 0 ∧ l = []) ∨ ∃ g cap ys, v = .slice (some ⟨g, 0, none⟩) l.length cap ∧ base ≤ g ∧ Bk w g ((l ++ ys).map B).toArray 5 ∧ l.length + ys.length = cap ∧ cap ≤ maxLen
theorem Own1.nil (w : World) (base : Nat) : Own1 w base (.slice none 0 0) [] := .inl ⟨rfl, rfl⟩
theorem Own1.keep {S : Nat → Prop} {w w1 : World} {base : Nat} {v : Value} {l : List UInt8} (h : Own1 w base v l) (f : Fr S w w1) (hs : ∀ g, v.ownBlock = some g → ¬ S g) : Own1 w1 base v l := by
  rcases h with h | ⟨g, cap, ys, rfl, hb, hg, h1, h2⟩
  · exact .inl h
  · exact .inr ⟨g, cap, ys, rfl, hb, f.keep hg (hs g rfl), h1, h2⟩
theorem Own1.sure {w : World} {base : Nat} {v : Value} {l : List UInt8} (h : Own1 w base v l) : ∃ a cap, v = .slice a l.length cap ∧ l.length ≤ cap ∧ (∀ g, v.ownBlock = some g → base ≤ g ∧ g < w.heap.size) ∧ (∀ j (hj : j < l.length), ∃ g, a = some ⟨g, 0, none⟩ ∧ w.cell? ⟨g, j, none⟩ = some (B l[j])) := by
  rcases h with ⟨rfl, rfl⟩ | ⟨g, cap, ys, rfl, hb, hg, h1, h2⟩
  · exact ⟨none, 0, rfl, Nat.le_refl _, fun g e => by simp [Value.ownBlock] at e, fun j hj => by simp at hj⟩
  · refine ⟨_, cap, rfl, by omega, fun g' e => ?_, fun j hj => ⟨g, rfl, ?_⟩⟩
    · simp only [Value.ownBlock, Option.some.injEq] at e
      subst e
      exact ⟨hb, Bk.lt hg⟩
    · rw [Bk.cell hg, List.getElem?_toArray, List.getElem?_map, List.getElem?_append_left hj, List.getElem?_eq_getElem hj]; rfl
theorem zeros_B : ∀ n, (Builtin.zeroCells (Value.int .u8 0).cells n).toList = (List.replicate n (0 : UInt8)).map B := by
  intro n
  apply List.ext_getElem?
  intro i
  have hsz : (Builtin.zeroCells (Value.int .u8 0).cells n).size = n := by rw [size_zeroCells]; simp [Value.cells]
  by_cases hi : i < n
  · rw [List.getElem?_eq_getElem (by rw [Array.length_toList, hsz]; exact hi), List.getElem?_map, List.getElem?_eq_getElem (by simpa using hi)]
    simp [Builtin.zeroCells, Value.cells, B, Nat.mod_one]
  · rw [List.getElem?_eq_none (by rw [Array.length_toList, hsz]; omega), List.getElem?_eq_none (by simp; omega)]
theorem append_byte (w : World) (base : Nat) (ty : TypeId) (v : Value) (l : List UInt8) (hown : Own1 w base v l) (hb : base ≤ w.heap.size) (y : UInt8) (g1 c1 : Nat) (hg1 : Bk w g1 #[B y] 5) (hl : l.length < 100000) :
    ∃ v' w', (Builtin.append_ #[50, 50] ty #[v, .slice (some ⟨g1, 0, none⟩) 1 c1]).run Try.prog w = .ok v' w' ∧ Own1 w' base v' (l ++ [y]) ∧ Fr (fun i => v.ownBlock = some i) w w' ∧ (∀ g, v'.ownBlock = some g → v.ownBlock = some g ∨ w.heap.size ≤ g) := by
  obtain ⟨i0, hi, hz0, hz1, hz2⟩ := info_parts infoB
  have ht := Try.underlying50
  have hnews : ∀ (j : Nat) (u : Value), ([B y] : List Value)[j]? = some u → w.cell? ((⟨g1, 0, none⟩ : Addr).add j) = some u := fun j u hu => by
    rw [add_form, Nat.zero_add, Bk.cell hg1]
    rw [← hu, ← List.getElem?_toArray]
  have fr : ∀ S o, Fr S w (w.drew.alloc o) := fun S o => Fr.alloc (Fr.drew (Fr.refl _ _)) o
  have made : ∀ old cap, cap = grownCap w (l.length + 1) old 5 → Own1 (w.drew.alloc (.cells ((l.map B).toArray ++ ([B y] : List Value).toArray ++ Builtin.zeroCells (Value.int .u8 0).cells (cap - (l.length + 1))) 5)) base (.slice (some ⟨w.heap.size, 0, none⟩) (l.length + 1) cap) (l ++ [y]) := by
    intro old cap hc
    subst hc
    have hge := grownCap_ge w (l.length + 1) old 5
    have hcm := grownCap_le_maxLen w (l.length + 1) old 5 (by unfold maxLen; omega)
    refine .inr ⟨w.heap.size, grownCap w (l.length + 1) old 5, List.replicate (grownCap w (l.length + 1) old 5 - (l.length + 1)) 0, by simp, hb, ?_, by simp; omega, hcm⟩
    have := heap_alloc_new w.drew (.cells ((l.map B).toArray ++ ([B y] : List Value).toArray ++ Builtin.zeroCells (Value.int .u8 0).cells (grownCap w (l.length + 1) old 5 - (l.length + 1))) 5)
    have e : ((l.map B).toArray ++ ([B y] : List Value).toArray ++ Builtin.zeroCells (Value.int .u8 0).cells (grownCap w (l.length + 1) old 5 - (l.length + 1))) = (((l ++ [y]) ++ List.replicate (grownCap w (l.length + 1) old 5 - (l.length + 1)) 0).map B).toArray := by
      apply Array.toList_inj.1
      rw [Array.toList_append, Array.toList_append, zeros_B]
      simp only [List.map_append, List.map_cons, List.map_nil]
    exact this.trans (congrArg (fun c => some (Obj.cells c 5 (0, 0))) e)
  rcases hown with ⟨rfl, rfl⟩ | ⟨g, cap, ys, rfl, hbg, hg, h1, h2⟩
  · have hr := run_append_nil (P := Try.prog) w 50 ty 5 i0 _ ht hi hz0 ⟨g1, 0, none⟩ 1 c1 [B y] (by rw [hz1]; rfl) hnews (by omega) (by omega) (by rw [hz2]; omega)
    refine ⟨_, _, hr, ?_, fr _ _, fun g e => .inr ?_⟩
    · have := made 0 _ rfl
      simp only [List.map_nil, List.length_nil, Nat.zero_add, List.nil_append] at this
      rw [show (([] : List Value).toArray ++ ([B y] : List Value).toArray) = ([B y] : List Value).toArray by simp] at this
      exact this
    · simp only [Value.ownBlock, Option.some.injEq] at e
      omega
  · by_cases hroom : l.length + 1 ≤ cap
    · cases ys with
      | nil => simp at h1; omega
      | cons z ys =>
        have hr := run_append_room (P := Try.prog) w 50 ty 5 i0 ht hi g l.length cap _ hg ⟨g1, 0, none⟩ 1 c1 [B y] (by rw [hz1]; rfl) hnews (by intro u hu; simp only [List.mem_cons, List.not_mem_nil, or_false] at hu; subst hu; rfl) hroom (by rw [hz1]; simp)
        refine ⟨_, _, hr, .inr ⟨g, cap, ys, by simp, hbg, ?_, by simp at h1 ⊢; omega, h2⟩, Fr.row (Fr.refl _ _) _ _ (.inr rfl), fun g' e => .inl e⟩
        have := Bk.row hg (((List.map B (l ++ z :: ys)).toArray.toList.take (l.length * i0.size) ++ [B y] ++ (List.map B (l ++ z :: ys)).toArray.toList.drop (l.length * i0.size + [B y].length)).toArray)
        have e : ((List.map B (l ++ z :: ys)).toArray.toList.take (l.length * i0.size) ++ [B y] ++ (List.map B (l ++ z :: ys)).toArray.toList.drop (l.length * i0.size + [B y].length)) = List.map B ((l ++ [y]) ++ ys) := by
          rw [hz1, Nat.mul_one, List.map_append, List.map_append, List.map_append]
          have e1 : (List.map B l ++ List.map B (z :: ys)).take l.length = List.map B l := by
            have := List.take_left (l₁ := List.map B l) (l₂ := List.map B (z :: ys))
            rwa [List.length_map] at this
          have e2 : (List.map B l ++ List.map B (z :: ys)).drop (l.length + 1) = List.map B ys := by
            have := List.drop_left (l₁ := List.map B l ++ [B z]) (l₂ := List.map B ys)
            rw [List.length_append, List.length_map] at this
            simpa using this
          simp only [List.length_cons, List.length_nil, Nat.zero_add]
          rw [e1, e2]; rfl
        exact this.trans (congrArg (fun c => some (Obj.cells (List.toArray c) 5 (0, 0))) e)
    · have hys : ys = [] := List.eq_nil_of_length_eq_zero (by omega)
      subst hys
      rw [List.append_nil] at hg
      have holds : ∀ (j : Nat) (u : Value), (l.map B)[j]? = some u → w.cell? ((⟨g, 0, none⟩ : Addr).add j) = some u := fun j u hu => by
        rw [add_form, Nat.zero_add, Bk.cell hg, List.getElem?_toArray]; exact hu
      have hr := run_append_grow (P := Try.prog) w 50 ty 5 i0 _ ht hi hz0 ⟨g, 0, none⟩ l.length cap (l.map B) (by rw [hz1]; simp) holds ⟨g1, 0, none⟩ 1 c1 [B y] (by rw [hz1]; rfl) hnews (by omega) (by omega) (by rw [hz2]; exact growslice_fits (by omega) (by omega))
      refine ⟨_, _, hr, made cap _ rfl, fr _ _, fun g' e => .inr ?_⟩
      simp only [Value.ownBlock, Option.some.injEq] at e
      omega
/-- a disk's variable stays where a block that is no place of sectors is changed -/
theorem DIn.past2 {w w1 : World} {q p : Nat} {t : TypeId} {d : Dk} {cs : Array Value} (h : DIn w q d) (hok : d.ok) (f : Fr (fun i => i = p) w w1) (hb : Bk w p cs t) (hn : (∀ (j : Nat) (x : Value), cs[j]? = some x → ∀ v : UInt8, x ≠ B v) ∨ (∀ (j : Nat) (x : Value), cs[j]? = some x → ∃ v : UInt8, x = B v)) (hne : q ≠ p) : DIn w1 q d := by
  obtain ⟨sa, sc, ca, cc, h⟩ := h
  have hS : ∀ a, sa = some a → d.S ≠ [] → a.block ≠ p := by
    rintro a rfl hl rfl
    have h0 : 0 < d.S.length := List.length_pos_iff.2 hl
    obtain ⟨b, o, e0, -, hr⟩ := RdG.form h.v.rs h0 Sec.pos
    obtain rfl := Option.some.inj e0
    have hk := hok.s _ (List.getElem_mem h0)
    have h1 : d.S[0].data.length = 128 := hk
    rcases hn with hn | hn
    · have e := hr 0 h0 0 (B (d.S[0].data[0]'(by omega))) (by rw [Sec.data_at hk (by omega), List.getElem?_map, List.getElem?_eq_getElem (by omega)]; rfl)
      rw [Bk.cell hb] at e
      exact hn _ _ e _ rfl
    · have e := hr 0 h0 128 (.bool d.S[0].nr) (by
        unfold Sec.cells
        rw [List.getElem?_append_right (by simp [h1])]
        simp [h1])
      rw [Bk.cell hb] at e
      obtain ⟨v, hv⟩ := hn _ _ e
      cases hv
  have hC : ∀ a, ca = some a → d.C ≠ [] → a.block ≠ p := by
    rintro a rfl hl rfl
    have h0 : 0 < d.C.length := List.length_pos_iff.2 hl
    obtain ⟨b, o, e0, -, hr⟩ := RdG.form h.v.rc h0 Wri.ps
    obtain rfl := Option.some.inj e0
    have h1 := (hok.c _ (List.getElem_mem h0)).len
    rcases hn with hn | hn
    · have e := hr 0 h0 1 (B (d.C[0].data[0]'(by omega))) (by rw [Wri.data_at, List.getElem?_map, List.getElem?_eq_getElem (by omega)]; rfl)
      rw [Bk.cell hb] at e
      exact hn _ _ e _ rfl
    · have e := hr 0 h0 0 (.int .i64 d.C[0].pos) rfl
      rw [Bk.cell hb] at e
      obtain ⟨v, hv⟩ := hn _ _ e
      simp [B] at hv
  exact ⟨sa, sc, ca, cc, f.keep h.blk hne, RdG.later h.v.rs f hS, RdG.later h.v.rc f hC, h.v.sn, h.v.sm, h.v.cn, h.v.cm⟩
def nth (vs : List Value) (k : Nat) : Value := vs.getD k (.slice none 0 0)
structure Lat (w : World) (base r : Nat) (ls : Nat → List UInt8) (vs : List Value) : Prop where
  blk : Bk w r vs.toArray 51
  len : vs.length = 4
  own : ∀ k, k < 4 → Own1 w base (nth vs k) (ls k)
  apart : ∀ j k, j < 4 → k < 4 → j ≠ k → ∀ g, (nth vs j).ownBlock = some g → (nth vs k).ownBlock ≠ some g
theorem Lat.keep {S : Nat → Prop} {w w1 : World} {base r : Nat} {ls : Nat → List UInt8} {vs : List Value} (h : Lat w base r ls vs) (f : Fr S w w1) (hr : ¬ S r) (hs : ∀ g, base ≤ g → ¬ S g) : Lat w1 base r ls vs :=
  ⟨f.keep h.blk hr, h.len, fun k hk => (h.own k hk).keep f (fun g e => hs g (((h.own k hk).sure.choose_spec.choose_spec.2.2.1 g e).1)), h.apart⟩
theorem nth_at {vs : List Value} (hl : vs.length = 4) {k : Nat} (hk : k < 4) : vs.toArray[k]? = some (nth vs k) := by
  rw [List.getElem?_toArray, List.getElem?_eq_getElem (by omega), nth, List.getD_eq_getElem?_getD, List.getElem?_eq_getElem (by omega)]; rfl
theorem nth_set {vs : List Value} (hl : vs.length = 4) {j k : Nat} (hj : j < 4) (v : Value) : nth (vs.set j v) k = if j = k then v else nth vs k := by
  unfold nth
  rw [List.getD_eq_getElem?_getD, List.getD_eq_getElem?_getD, List.getElem?_set]
  by_cases e : j = k
  · rw [if_pos e, if_pos e, if_pos (by omega)]; rfl
  · rw [if_neg e, if_neg e]
theorem lat_no {w : World} {base r : Nat} {ls : Nat → List UInt8} {vs : List Value} (h : Lat w base r ls vs) : ∀ (j : Nat) (x : Value), vs.toArray[j]? = some x → ∀ v : UInt8, x ≠ B v := by
  intro j x hx v
  by_cases hj : j < 4
  · rw [nth_at h.len hj] at hx
    obtain ⟨a, cap, e, -⟩ := (h.own j hj).sure
    rw [e] at hx
    rw [← Option.some.inj hx]
    simp [B]
  · rw [List.getElem?_toArray, List.getElem?_eq_none (by have := h.len; omega)] at hx; cases hx
/-- one of the rows is another value now -/
theorem Lat.put {w w1 : World} {base r : Nat} {ls : Nat → List UInt8} {vs : List Value} (h : Lat w base r ls vs) {j : Nat} (hj : j < 4) (hb : base ≤ w.heap.size) (hrb : r < base) (v : Value) (l : List UInt8) (f : Fr (fun i => (nth vs j).ownBlock = some i) w w1) (hv : Own1 w1 base v l) (hn : ∀ g, v.ownBlock = some g → (nth vs j).ownBlock = some g ∨ w.heap.size ≤ g) :
    Lat (w1.setCell ⟨r, j, none⟩ v) base r (fun k => if j = k then l else ls k) (vs.set j v) ∧ Bk w1 r vs.toArray 51 := by
  have hown : ∀ k, k < 4 → ∀ g, (nth vs k).ownBlock = some g → base ≤ g ∧ g < w.heap.size := fun k hk g e => (h.own k hk).sure.choose_spec.choose_spec.2.2.1 g e
  have hrk : Bk w1 r vs.toArray 51 := f.keep h.blk (fun e => by have := (hown j hj r e).1; omega)
  have f2 := Fr.set1 w1 r j v
  refine ⟨⟨?_, by rw [List.length_set]; exact h.len, fun k hk => ?_, fun a b ha hb' hab g e => ?_⟩, hrk⟩
  · have := Bk.set hrk j v
    rw [List.setIfInBounds_toArray] at this
    exact this
  · rw [nth_set h.len hj]
    by_cases e : j = k
    · simp only [if_pos e]
      exact hv.keep f2 (fun g eg => by
        rcases hn g eg with h1 | h1
        · have := (hown j hj g h1).1; omega
        · omega)
    · simp only [if_neg e]
      exact ((h.own k hk).keep f (fun g eg e2 => h.apart j k hj hk e g e2 eg)).keep f2 (fun g eg => by have := (hown k hk g eg).1; omega)
  · rw [nth_set h.len hj] at e ⊢
    by_cases e1 : j = a
    · rw [if_pos e1] at e
      rw [if_neg (by omega)]
      rcases hn g e with h1 | h1
      · exact h.apart j b hj hb' (by omega) g h1
      · intro e3
        have := (hown b hb' g e3).2
        omega
    · rw [if_neg e1] at e
      by_cases e2 : j = b
      · rw [if_pos e2]
        intro e3
        rcases hn g e3 with h1 | h1
        · exact h.apart a j ha hj (by omega) g e h1
        · have := (hown a ha g e).2
          omega
      · rw [if_neg e2]
        exact h.apart a b ha hb' hab g e
theorem lat_start {w : World} {r : Nat} (base : Nat) (h : Bk w r #[.slice none 0 0, .slice none 0 0, .slice none 0 0, .slice none 0 0] 51) : Lat w base r (later []) [.slice none 0 0, .slice none 0 0, .slice none 0 0, .slice none 0 0] := by
  have hn : ∀ k, nth [.slice none 0 0, .slice none 0 0, .slice none 0 0, .slice none 0 0] k = .slice none 0 0 := by
    intro k
    rcases (show k = 0 ∨ k = 1 ∨ k = 2 ∨ k = 3 ∨ 4 ≤ k by omega) with rfl | rfl | rfl | rfl | h4
    iterate 4 rfl
    unfold nth
    rw [List.getD_eq_getElem?_getD, List.getElem?_eq_none (by simpa using h4)]; rfl
  refine ⟨h, rfl, fun k _ => ?_, fun j k _ _ _ g e => ?_⟩
  · rw [hn]; exact .inl ⟨rfl, rfl⟩
  · rw [hn] at e; simp [Value.ownBlock] at e

theorem lat_fr0 {w W W1 : World} {base r : Nat} {ls : Nat → List UInt8} {vs : List Value} (h : Lat W base r ls vs) {j : Nat} (hj : j < 4) (f : Fr (fun i => (nth vs j).ownBlock = some i) W W1) (hF : Fr0 w W) (hwb : w.heap.size ≤ base) : Fr0 w W1 :=
  hF.then f (fun i hi e => by have := ((h.own j hj).sure.choose_spec.choose_spec.2.2.1 i e).1; omega)
theorem lat_disk {W W1 : World} {base r p : Nat} {d : Dk} {ls : Nat → List UInt8} {vs : List Value} (h : Lat W base r ls vs) {j : Nat} (hj : j < 4) (f : Fr (fun i => (nth vs j).ownBlock = some i) W W1) (hd : DIn W p d) (hok : d.ok) (hp : p < base) : DIn W1 p d := by
  rcases h.own j hj with ⟨e, -⟩ | ⟨g, cap, ys, e, hb, hg, -⟩
  · rw [e] at f
    exact hd.keep (f.weaken (fun i _ e => by simp [Value.ownBlock] at e))
  · rw [e] at f
    refine DIn.past2 hd hok (f.weaken (S' := fun i => i = g) (fun i _ e => by simp [Value.ownBlock] at e; exact e.symm)) hg (.inr (fun i x hx => ?_)) (by omega)
    rw [List.getElem?_toArray, List.getElem?_map] at hx
    obtain ⟨v, -, hv⟩ := Option.map_eq_some_iff.1 hx
    exact ⟨v, hv.symm⟩
theorem lat_blk {W W1 : World} {base r q : Nat} {ls : Nat → List UInt8} {vs : List Value} {cs : Array Value} {t : TypeId} (h : Lat W base r ls vs) {j : Nat} (hj : j < 4) (f : Fr (fun i => (nth vs j).ownBlock = some i) W W1) (hq : Bk W q cs t) (hqb : q < base) : Bk W1 q cs t :=
  f.keep hq (fun e => by have := ((h.own j hj).sure.choose_spec.choose_spec.2.2.1 q e).1; omega)
theorem Lat.congr {w : World} {base r : Nat} {ls ls' : Nat → List UInt8} {vs : List Value} (h : Lat w base r ls vs) (e : ∀ k, k < 4 → ls' k = ls k) : Lat w base r ls' vs := ⟨h.blk, h.len, fun k hk => by rw [e k hk]; exact h.own k hk, h.apart⟩
theorem lat_down (ls : Nat → List UInt8) (j : Nat) : (fun i => if j = i then [] else if i < j then [] else ls i) = (fun i => if i < j + 1 then [] else ls i) := by
  funext i
  rcases (show i = j ∨ i < j ∨ j < i by omega) with e | e | e
  · rw [if_pos e.symm, if_pos (by omega)]
  · rw [if_neg (by omega), if_pos e, if_pos (by omega)]
  · rw [if_neg (by omega), if_neg (by omega), if_neg (by omega)]
theorem lat_snoc (Cs : List (Nat × UInt8)) (a : Nat) (y : UInt8) : (fun k => if a = k then later Cs a ++ [y] else later Cs k) = later (Cs ++ [(a, y)]) := by
  funext k
  rw [later_snoc]
  by_cases e : a = k
  · subst e; rfl
  · rw [if_neg e, if_neg e]
theorem run_buildSlice_byte (w : World) (y : UInt8) : (Instr.buildSlice 50 1 #[(0, .int .u8 (y.toNat : Int))]).run Try.prog w = .ok (.slice (some ⟨w.heap.size, 0, none⟩) 1 1) (w.alloc (.cells #[B y] 5)) := by
  obtain ⟨i0, hi, hz0, hz1, hz2⟩ := info_parts infoB
  have hfill : Instr.fill (fun i => some (i, 1)) #[.int .u8 0] [(0, Value.int .u8 (y.toNat : Int))] = some #[B y] := rfl
  have hr : (Array.range 1) = #[0] := rfl
  simp [Instr.buildSlice, run_underlying Try.underlying50, sizeOf, typeInfo, hi, hz1, zeroValue, hz0, newRow, hr, Value.cells, hfill]
theorem wp_buildSlice_byte {o : Oper} {a : Act} {w : World} {K : Act → World → Prop} {Q : Exit → Act → World → Prop} (x : Operand) (ho : o.op = .buildSlice 50 1 #[(0, x)]) (y : UInt8) (hx : a.eval x = .int .u8 (y.toNat : Int))
    (h : K (a.put o.dst (.slice (some ⟨w.heap.size, 0, none⟩) 1 1)) (w.alloc (.cells #[B y] 5))) : o.wp Try.prog a w K Q := by
  unfold Oper.wp execOp
  have hr := run_buildSlice_byte w y
  simp only [ho, Sem.run_bind, List.map_toArray, List.map_cons, List.map_nil, hx, hr, Result.andThen_ok]
  exact h

end Go.Proofs.Ytboakipfhidkmaa.SureKit
