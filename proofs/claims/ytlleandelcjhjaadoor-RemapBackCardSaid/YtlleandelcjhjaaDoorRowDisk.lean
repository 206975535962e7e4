/- What a row wants of an argument that is a disk, a block, a slice of bools. -/
import Derived.Test.YtlleandelcjhjaaDoorRowKit
import Derived.Test.YtlleandelcjhjaaDoorDiskFlush
import Derived.Deep.Slices
import Derived.OpenShut
set_option maxRecDepth 100000
set_option linter.unusedVariables false
set_option linter.unusedSimpArgs false
namespace Go.Proofs.YtlleandelcjhjaaDoor.RowDisk
open Go Go.RowKit Go.Proofs.YtlleandelcjhjaaDoor.K Go.Proofs.YtlleandelcjhjaaDoor.EqKit Go.Proofs.YtlleandelcjhjaaDoor.ArrKit Go.Proofs.YtlleandelcjhjaaDoor.HeldKit Go.Proofs.YtlleandelcjhjaaDoor.GKit Go.Proofs.YtlleandelcjhjaaDoor.GRow Go.Proofs.YtlleandelcjhjaaDoor.DiskKit Go.Proofs.YtlleandelcjhjaaDoor.DiskFlush Go.ChangeShapes Go.WideShapes Go.ChangeAt Go.Proofs.YtlleandelcjhjaaDoor.RowKit

section
variable {H : Type} {enc : TypeId × Value → H} {W : World} {P : Program} {base : Nat} {spare : Nat → Bool} {held : Bool}
theorem take_one {l : List Value} {i : Nat} {y : Value} (h : (l.drop i).take 1 = [y]) : l[i]? = some y := by
  have := congrArg (fun l => l[0]?) h
  simpa using this
/-- A SLICE OF THINGS OF k CELLS, OPENED. -/
theorem open_rows {α : Type} {f : α → List Value} {okp : α → Prop} {k : Nat} {t e : TypeId} (hi : Nonempty α) (ht : P.underlying t = some (.slice e)) (hk : P.cellsOf e = k) (h0 : 0 < k) (hf : ∀ x, 0 < (f x).length)
    (hp : ∀ (n : Nat) (cs : List Value) (x : DataW H × List MemPlace), DataW.trod enc P W 0 spare held n e cs = some x → ∃ a, cs = f a ∧ okp a)
    {fuel : Nat} {cs : List Value} {x : DataW H × List MemPlace} (h : DataW.trod enc P W 0 spare held fuel t cs = some x) :
    ∃ (A0 : Option Addr) (n c : Nat) (l : List α), cs = [.slice A0 n c] ∧ l.length = n ∧ RdG f k W A0 l ∧ (∀ a ∈ l, okp a) ∧ n ≤ c ∧ c ≤ 9223372036854775807 ∧ ((x.1 = .nil ∧ n = 0) ∨ ∃ el sp, x.1 = .slice el sp ∧ el.length = n) := by
  have hm : maxLen = 9223372036854775807 := rfl
  rcases Deep.open_slice ht h with ⟨rfl, rfl⟩ | ⟨a, len, cap, m, n, D, Pl, rfl, -, h3, h4, h5, rfl, h7⟩
  · exact ⟨none, 0, 0, [], rfl, rfl, RdG.nil _ _, fun a ha => by simp at ha, Nat.le_refl _, by omega, .inl ⟨rfl, rfl⟩⟩
  · have hlm : len ≤ m := by rw [h5]; split <;> omega
    have each : ∀ i, i < len → ∃ y : α, okp y ∧ ∀ j u, (f y)[j]? = some u → W.cell? (a.add (i * k + j)) = some u := fun i hi => by
      obtain ⟨cs', c1, c2⟩ := h7 i (by omega)
      obtain ⟨y, rfl, hok⟩ := hp _ _ _ c2
      rw [hk] at c1
      obtain ⟨-, hlen, hc⟩ := World.cells?_some c1
      refine ⟨y, hok, fun j u hj => ?_⟩
      have hjl : j < k := by
        have := (List.getElem?_eq_some_iff.1 hj).1
        omega
      have := hc j hjl
      rw [Deep.add_add, hj] at this
      exact this
    have : Inhabited α := ⟨Classical.choice hi⟩
    obtain ⟨g, hg⟩ := Deep.choose_lt each
    obtain ⟨b, o, sp⟩ := a
    refine ⟨some ⟨b, o, sp⟩, len, cap, (List.range len).map g, rfl, by simp, ?_, ?_, h3, by omega, .inr ⟨_, _, rfl, by simp⟩⟩
    · intro i hi
      rw [List.length_map, List.length_range] at hi
      have hfi := (hg i hi).2
      have hsp : sp = none := by
        cases sp with
        | none => rfl
        | some s' =>
          have h0 := (hg 0 (by omega)).2 0 _ (List.getElem?_eq_getElem (hf _))
          rw [Nat.zero_mul] at h0
          simp only [Addr.add, if_true, World.cell?] at h0
          split at h0 <;> simp at h0
      subst hsp
      refine ⟨b, o, rfl, fun j u hj => ?_⟩
      rw [List.getElem_map, List.getElem_range] at hj
      have := hfi j u hj
      rw [add_form] at this
      rw [Nat.add_assoc]
      exact this
    · intro y hy
      obtain ⟨i, hi, rfl⟩ := List.mem_map.1 hy
      exact (hg i (List.mem_range.1 hi)).1
theorem u8s_of : ∀ (l : List Value), (∀ (i : Nat) (x : Value), l[i]? = some x → ∃ n, x = .int .u8 n ∧ (Lit.int .u8 n).wf = true) → ∃ b : List UInt8, l = b.map B
  | [], _ => ⟨[], rfl⟩
  | x :: r, h => by
    obtain ⟨n, rfl, hn⟩ := h 0 x rfl
    obtain ⟨b, rfl⟩ := u8s_of r (fun i y hy => h (i + 1) y hy)
    have hz : 0 ≤ n ∧ n ≤ 255 := by simpa [Lit.wf, IntKind.min, IntKind.max, IntKind.signed, IntKind.bits] using hn
    refine ⟨UInt8.ofNat n.toNat :: b, ?_⟩
    rw [List.map_cons, B_ofNat, Nat.mod_eq_of_lt (by omega)]
    congr 2
    omega
theorem cells_b : Tryd.prog.cellsOf 27 = 128 := by kernel_rfl
theorem cells_u : Tryd.prog.cellsOf 5 = 1 := by kernel_rfl
theorem cells_i : Tryd.prog.cellsOf 3 = 1 := by kernel_rfl
theorem cells_bo : Tryd.prog.cellsOf 4 = 1 := by kernel_rfl
theorem cells_ss : Tryd.prog.cellsOf 36 = 1 := by kernel_rfl
theorem cells_ws : Tryd.prog.cellsOf 37 = 1 := by kernel_rfl
theorem cells_d : Tryd.prog.cellsOf 39 = 4 := by kernel_rfl
theorem block_cells {n : Nat} {cs : List Value} {x : DataW H × List MemPlace} (h : DataW.trod enc Tryd.prog W base spare held n 27 cs = some x) : ∃ b : List UInt8, cs = b.map B ∧ b.length = 128 := by
  obtain ⟨xs, m, -, -, hl, hxl, hg⟩ := DataW.trod_array Tryd.underlying27 h
  rw [cells_b] at hl
  obtain ⟨b, hb⟩ := u8s_of cs (fun i y hy => by
    have hi : i < 128 := by
      have := (List.getElem?_eq_some_iff.1 hy).1
      omega
    have hk := hg i hi
    rw [List.getElem?_eq_getElem (by omega), cells_u, Nat.mul_one] at hk
    obtain ⟨n, e, -, wf⟩ := DataW.trod_int Tryd.underlying5 hk
    have := take_one e
    rw [hy] at this
    exact ⟨n, Option.some.inj this, wf⟩)
  exact ⟨b, hb, by rw [hb, List.length_map] at hl; exact hl⟩
theorem sec_cells {n : Nat} {cs : List Value} {x : DataW H × List MemPlace} (h : DataW.trod enc Tryd.prog W base spare held n 59 cs = some x) : ∃ s : Sec, cs = s.cells ∧ s.ok := by
  obtain ⟨xs, m, -, -, hl, hxl, hf⟩ := DataW.trod_struct Tryd.underlying59 h
  rw [cells_s] at hl
  have hxl' : xs.length = 3 := hxl
  have f0 := hf 0 _ rfl
  have f1 := hf 1 _ rfl
  have f2 := hf 2 _ rfl
  rw [List.getElem?_eq_getElem (by omega)] at f0 f1 f2
  obtain ⟨b, e0, hb⟩ := block_cells f0
  obtain ⟨nr, e1, -⟩ := DataW.trod_bool Tryd.underlying4 f1
  obtain ⟨nw, e2, -⟩ := DataW.trod_bool Tryd.underlying4 f2
  have e0' : (cs.drop 0).take (Tryd.prog.cellsOf 27) = b.map B := e0
  have e1'' : (cs.drop 128).take (Tryd.prog.cellsOf 4) = [.bool nr] := e1
  have e2'' : (cs.drop 129).take (Tryd.prog.cellsOf 4) = [.bool nw] := e2
  rw [cells_b, List.drop_zero] at e0'
  rw [cells_bo] at e1'' e2''
  have e1' : cs[128]? = some (.bool nr) := take_one (i := 128) e1''
  have e2' : cs[129]? = some (.bool nw) := take_one (i := 129) e2''
  refine ⟨⟨b, nr, nw⟩, ?_, hb⟩
  apply List.ext_getElem?
  intro i
  rcases (show i < 128 ∨ i = 128 ∨ i = 129 ∨ 130 ≤ i by omega) with hi | rfl | rfl | hi
  · rw [Sec.data_at (show (Sec.mk b nr nw).ok from hb) hi]
    show cs[i]? = (b.map B)[i]?
    rw [← e0', List.getElem?_take, if_pos hi]
  · rw [e1', Sec.nr_at (show (Sec.mk b nr nw).ok from hb)]
  · rw [e2', Sec.nw_at (show (Sec.mk b nr nw).ok from hb)]
  · rw [List.getElem?_eq_none (by omega), List.getElem?_eq_none (by rw [Sec.len (show (Sec.mk b nr nw).ok from hb)]; omega)]
theorem wri_cells {n : Nat} {cs : List Value} {x : DataW H × List MemPlace} (h : DataW.trod enc Tryd.prog W base spare held n 79 cs = some x) : ∃ y : Wri, cs = y.cells ∧ y.ok := by
  obtain ⟨xs, m, -, -, hl, hxl, hf⟩ := DataW.trod_struct Tryd.underlying79 h
  rw [cells_w] at hl
  have hxl' : xs.length = 2 := hxl
  have f0 := hf 0 _ rfl
  have f1 := hf 1 _ rfl
  rw [List.getElem?_eq_getElem (by omega)] at f0 f1
  obtain ⟨a, e0, -, wf⟩ := DataW.trod_int Tryd.underlying3 f0
  obtain ⟨b, e1, hb⟩ := block_cells f1
  have e0'' : (cs.drop 0).take (Tryd.prog.cellsOf 3) = [.int .i64 a] := e0
  rw [cells_i] at e0''
  have e0' : cs[0]? = some (.int .i64 a) := take_one (i := 0) e0''
  have e1' : (cs.drop 1).take (Tryd.prog.cellsOf 27) = b.map B := e1
  rw [cells_b] at e1'
  refine ⟨⟨a, b⟩, ?_, hb, wf⟩
  apply List.ext_getElem?
  intro i
  rcases (show i = 0 ∨ (1 ≤ i ∧ i < 129) ∨ 129 ≤ i by omega) with rfl | hi | hi
  · rw [e0']; rfl
  · obtain ⟨j, rfl⟩ : ∃ j, i = j + 1 := ⟨i - 1, by omega⟩
    rw [Wri.data_at]
    show cs[j + 1]? = (b.map B)[j]?
    rw [← e1', List.getElem?_take, if_pos (by omega), List.getElem?_drop, Nat.add_comm]
  · rw [List.getElem?_eq_none (by omega), List.getElem?_eq_none (by rw [Wri.leng (show (Wri.mk a b).ok from ⟨hb, wf⟩)]; omega)]
/-- A DISK BY VALUE, OPENED. -/
theorem open_disk {ts : List TypeId} {ds : List (DataW H)} {j : Nat} {b0 : Nat} {v : Value} {d : DataW H} {p : List MemPlace}
    (hsz : (DataW.weightsEach Tryd.prog ts ds).all (· ≤ reachBytes) = true) (hj : ts[j]? = some 39) (hd : ds[j]? = some d)
    (hv : Value.okWide Tryd.prog W .any b0 39 v) (h : DataW.Trod enc Tryd.prog W 0 (fun _ => true) true 39 v d p) :
    ∃ (k : Dk) (sa : Option Addr) (sc : Nat) (ca : Option Addr) (cc : Nat), v = .agg (dval k sa sc ca cc) ∧ k.ok ∧ DV W k sa sc ca cc ∧ k.S.length * 130 ≤ 140737488351232 ∧ k.C.length * 136 ≤ 140737488351232 := by
  obtain ⟨cs, rfl, hcz, -⟩ := agg_of Tryd.underlying39 rfl (show Tryd.prog.cellTypes Tryd.prog.depth 39 = some [36, 37, 3, 4] by kernel_rfl) hv
  obtain ⟨fuel, hf⟩ := h
  obtain ⟨xs, m, -, hx, hl, hxl, hg⟩ := DataW.trod_struct Tryd.underlying39 hf
  rw [cells_d] at hl hcz
  have hxl' : xs.length = 4 := hxl
  have f0 := hg 0 _ rfl
  have f1 := hg 1 _ rfl
  have f2 := hg 2 _ rfl
  have f3 := hg 3 _ rfl
  rw [List.getElem?_eq_getElem (by omega)] at f0 f1 f2 f3
  obtain ⟨sa, n0, sc, l0, e0, hl0, hr0, hok0, hc0, hm0, hw0⟩ := open_rows (f := Sec.cells) (okp := Sec.ok) ⟨Zs⟩ Tryd.underlying36 cells_s (by decide) Sec.pos (fun _ _ _ h => sec_cells h) f0
  obtain ⟨ca, n1, cc, l1, e1, hl1, hr1, hok1, hc1, hm1, hw1⟩ := open_rows (f := Wri.cells) (okp := Wri.ok) ⟨⟨0, Z128⟩⟩ Tryd.underlying37 cells_w (by decide) Wri.ps (fun _ _ _ h => wri_cells h) f1
  obtain ⟨fu, e2, -, wf⟩ := DataW.trod_int Tryd.underlying3 f2
  obtain ⟨dn, e3, -⟩ := DataW.trod_bool Tryd.underlying4 f3
  subst hl0 hl1
  have hdd : d = (.agg (xs.map (·.1))) := (congrArg Prod.fst hx)
  have g0 : (cs.toList.drop 0).take (Tryd.prog.cellsOf 36) = _ := e0
  have g1 : (cs.toList.drop 1).take (Tryd.prog.cellsOf 37) = _ := e1
  have g2 : (cs.toList.drop 2).take (Tryd.prog.cellsOf 3) = _ := e2
  have g3 : (cs.toList.drop 3).take (Tryd.prog.cellsOf 4) = _ := e3
  rw [cells_ss] at g0
  rw [cells_ws] at g1
  rw [cells_i] at g2
  rw [cells_bo] at g3
  have c0 := take_one (i := 0) g0
  have c1 := take_one (i := 1) g1
  have c2 := take_one (i := 2) g2
  have c3 := take_one (i := 3) g3
  refine ⟨⟨l0, l1, fu, dn⟩, sa, sc, ca, cc, ?_, ⟨hok0, hok1, wf⟩, ⟨hr0, hr1, hc0, hm0, hc1, hm1⟩, ?_, ?_⟩
  · congr 1
    apply Array.ext_getElem?
    intro i
    rw [← Array.getElem?_toList]
    rcases (show i = 0 ∨ i = 1 ∨ i = 2 ∨ i = 3 ∨ 4 ≤ i by omega) with rfl | rfl | rfl | rfl | hi
    · rw [c0]; rfl
    · rw [c1]; rfl
    · rw [c2]; rfl
    · rw [c3]; rfl
    · rw [List.getElem?_eq_none (by rw [Array.length_toList]; omega), Array.getElem?_eq_none (by simpa [dval] using hi)]
  · rcases hw0 with ⟨-, h0⟩ | ⟨el, sp, e, h0⟩
    · show l0.length * 130 ≤ _; rw [h0]; omega
    · have hmem := DataW.weights_mem_each (P := Tryd.prog) hj hd ((el.length + sp.length) * Tryd.prog.bytesOf 59) (by
        rw [hdd]
        simp only [DataW.weights, Tryd.underlying39]
        exact DataW.weights_mem_each (j := 0) (t := 36) (d := .slice el sp) rfl (by rw [List.getElem?_map, List.getElem?_eq_getElem (by omega), Option.map_some, e]) _ (by simp [DataW.weights, Tryd.underlying36]))
      have := List.all_eq_true.1 hsz _ hmem
      rw [show Tryd.prog.bytesOf 59 = 130 by kernel_rfl] at this
      have hz : (140737488351232 : Nat) = reachBytes := by decide
      simp at this
      show l0.length * 130 ≤ _
      omega
  · rcases hw1 with ⟨-, h0⟩ | ⟨el, sp, e, h0⟩
    · show l1.length * 136 ≤ _; rw [h0]; omega
    · have hmem := DataW.weights_mem_each (P := Tryd.prog) hj hd ((el.length + sp.length) * Tryd.prog.bytesOf 79) (by
        rw [hdd]
        simp only [DataW.weights, Tryd.underlying39]
        exact DataW.weights_mem_each (j := 1) (t := 37) (d := .slice el sp) rfl (by rw [List.getElem?_map, List.getElem?_eq_getElem (by omega), Option.map_some, e]) _ (by simp [DataW.weights, Tryd.underlying37]))
      have := List.all_eq_true.1 hsz _ hmem
      rw [show Tryd.prog.bytesOf 79 = 136 by kernel_rfl] at this
      have hz : (140737488351232 : Nat) = reachBytes := by decide
      simp at this
      show l1.length * 136 ≤ _
      omega
/-- A BLOCK BY VALUE, OPENED. -/
theorem open_block {b0 : Nat} {v : Value} {d : DataW H} {p : List MemPlace} (hv : Value.okWide Tryd.prog W .any b0 27 v) (h : DataW.Trod enc Tryd.prog W 0 (fun _ => true) true 27 v d p) :
    ∃ b : List UInt8, v = .agg (b.map B).toArray ∧ b.length = 128 := by
  obtain ⟨cs, rfl, hcz, -⟩ := agg_of Tryd.underlying27 rfl (show Tryd.prog.cellTypes Tryd.prog.depth 27 = some (List.replicate 128 5) by kernel_rfl) hv
  obtain ⟨fuel, hf⟩ := h
  obtain ⟨b, hb, hl⟩ := block_cells hf
  refine ⟨b, ?_, hl⟩
  have hcl : (Value.agg cs).cells.toList = cs.toList := rfl
  rw [hcl] at hb
  rw [← hb]
/-- A SLICE OF BOOLS, OPENED. -/
theorem open_bools {b0 : Nat} {v : Value} {d : DataW H} {p : List MemPlace} (hv : Value.okWide Tryd.prog W .any b0 54 v) (h : DataW.Trod enc Tryd.prog W 0 (fun _ => true) true 54 v d p) :
    ∃ (ka : Option Addr) (kc : Nat) (keep : List Bool), v = .slice ka keep.length kc ∧ RdB W ka keep ∧ keep.length ≤ kc ∧ kc ≤ 9223372036854775807 := by
  obtain ⟨fuel, hf⟩ := h
  have hvc : ∃ a n c, v = .slice a n c := by
    unfold Value.okWide at hv
    rw [Tryd.underlying54] at hv
    unfold Cell.okWide at hv
    rw [Tryd.underlying54] at hv
    unfold Cell.ok at hv
    rw [Tryd.underlying54] at hv
    cases v <;> first | exact ⟨_, _, _, rfl⟩ | exact hv.elim
  obtain ⟨a, n, c, rfl⟩ := hvc
  obtain ⟨ka, kn, kc, l, e, hl, hr, -, hc, hm, -⟩ := open_rows (f := fun b : Bool => [Value.bool b]) (okp := fun _ => True) ⟨false⟩ Tryd.underlying54 cells_bo (by decide) (fun _ => by simp) (fun n cs x h => by
    obtain ⟨b, e, -⟩ := DataW.trod_bool Tryd.underlying4 h
    exact ⟨b, e, trivial⟩) hf
  simp only [Value.cells, List.cons.injEq, Value.slice.injEq, and_true] at e
  obtain ⟨rfl, rfl, rfl⟩ := e
  subst hl
  exact ⟨a, c, l, rfl, hr, hc, hm⟩
end

end Go.Proofs.YtlleandelcjhjaaDoor.RowDisk
