/- The theorems that the claim uses, text behind text (part 39). -/
import Derived.Test.YtmkmpfnadcmcoaaGreatDoorYaa
import Derived.Test.YtmkmpfnadcmcoaaGreatDoorYad
import Derived.Test.YtmkmpfnadcmcoaaGreatDoorYai
import Derived.Test.YtmkmpfnadcmcoaaGreatDoorYaj
import Derived.Test.YtmkmpfnadcmcoaaGreatDoorYal
import Derived.Test.YtmkmpfnadcmcoaaGreatDoorRows
import Derived.ReadAgain
import Derived.ChangeStays
import Derived.ChangeOld
import Derived.Below
import Derived.ProofKit
import Derived.OpenShut
import Derived.SizedLaws
import Derived.ChangeSlices
import Derived.Deep.Slices
import Derived.LaidMore
import Derived.Stop.Joined
set_option linter.unusedVariables false
set_option linter.unusedSimpArgs false
set_option maxRecDepth 100000
set_option maxHeartbeats 8000000
namespace Go.Proofs.YtmkmpfnadcmcoaaGreatDoor.RowKit
open Go Go.ChangeShapes Go.WideShapes Go.ChangeAt Go.RowKit HeldKit
theorem own : ownKnob Tryz.prog.godebug = none := by kernel_rfl
theorem kids : Kids Tryz.prog (· < Tryz.prog.types.size) := kids_rows (by kernel_rfl) (by kernel_rfl)
theorem full : ∀ t e, t < Tryz.prog.types.size → Tryz.prog.underlying t = some (.slice e) → 0 < Tryz.prog.cellsOf e := slices_full_of Tryz.prog (by kernel_rfl)

section
variable {H : Type} {enc : TypeId × Value → H} {W W' : World}
theorem arg_stays (hb : Below W.heap.size W W') {sp : Nat → Bool} {t : TypeId} {v : Value} {d : DataW H} {ps : List MemPlace} (ht : t < Tryz.prog.types.size)
  (h : DataW.Trod enc Tryz.prog W 0 (fun _ => true) true t v d ps) (hlt : ∀ p ∈ ps, p.block < W.heap.size) (hs : ∀ p ∈ ps, sp p.block = true) : DataW.Trod enc Tryz.prog W' 0 sp true t v d ps := by
 obtain ⟨n, hn⟩ := h
 refine ⟨n, DataW.trod_stays kids (fun ht h => full _ _ ht h) (fun h => by cases h) ht hn (fun p hp => ?_) hs⟩
 have hl := hlt p hp
 cases p with
 | cell b off => exact hb.cell (p := ⟨b, off, none⟩) hl
 | map b => exact hb.block b hl
theorem args_stay0 (hb : Below W.heap.size W W') {sp : Nat → Bool} : ∀ {ts : List TypeId} {vs : List Value} {ds : List (DataW H)} {ps : List MemPlace}, (∀ t ∈ ts, t < Tryz.prog.types.size) →
  DataW.TrodAll enc Tryz.prog W 0 (fun _ => true) true ts vs ds ps → (∀ p ∈ ps, p.block < W.heap.size) → (∀ p ∈ ps, sp p.block = true) → DataW.TrodAll enc Tryz.prog W' 0 sp true ts vs ds ps
 | [], [], [], _, _, h, _, _ => h
 | _ :: _, _ :: _, _ :: _, _, hT, ⟨p, q, h1, h2, e⟩, hl, hs =>
  ⟨p, q, arg_stays hb (hT _ (List.mem_cons.2 (Or.inl rfl))) h1 (fun x hx => hl x (by rw [e];exact List.mem_append_left _ hx)) (fun x hx => hs x (by rw [e];exact List.mem_append_left _ hx)),
   args_stay0 hb (fun t ht => hT t (List.mem_cons.2 (Or.inr ht))) h2 (fun x hx => hl x (by rw [e];exact List.mem_append_right _ hx)) (fun x hx => hs x (by rw [e];exact List.mem_append_right _ hx)), e⟩
theorem args_stay (hb : Below W.heap.size W W') {sp : Nat → Bool} {ts : List TypeId} {vs : List Value} {ds : List (DataW H)} {ps : List MemPlace} (hT : ∀ t ∈ ts, t < Tryz.prog.types.size)
  (h : DataW.TrodAll enc Tryz.prog W 0 (fun _ => true) true ts vs ds ps) (hs : ∀ p ∈ ps, sp p.block = true) : DataW.TrodAll enc Tryz.prog W' 0 sp true ts vs ds ps :=
 args_stay0 hb hT h h.lt hs
end
section
variable {P : Program} {w : World} {r : Reach} {base : Nat}
theorem agg_of {t : TypeId} {v : Value} {d : TypeDesc} {ts : List TypeId} (hu : P.underlying t = some d) (hd : (match d with | .struct _ | .array _ _ => true | _ => false) = true) (hts : P.cellTypes P.depth t = some ts)
  (h : Value.okWide P w r base t v) : ∃ cs : Array Value, v = .agg cs ∧ cs.size = P.cellsOf t ∧ ∀ i x, cs[i]? = some x → ∃ u, ts[i % ts.length]? = some u ∧ Cell.okWide P w r base u x := by
 unfold Value.okWide at h
 rw [hu] at h
 have h' : ∃ cs, v = .agg cs ∧ cs.size = P.cellsOf t ∧ Row.okWide P w r base t cs := by
  cases d <;> first | exact h | cases hd
 obtain ⟨cs, hv, hz, ts', h1, -, h2⟩ := h'
 rw [hts] at h1
 obtain rfl := Option.some.inj h1
 exact ⟨cs, hv, hz, h2⟩
theorem cell_int {u : TypeId} {k : IntKind} {x : Value} (hu : P.underlying u = some (.int k)) (h : Cell.okWide P w r base u x) : ∃ n, x = .int k n ∧ (Lit.int k n).wf = true := by
 unfold Cell.okWide at h
 rw [hu] at h
 unfold Cell.ok at h
 rw [hu] at h
 cases x <;> first | (obtain ⟨rfl, h⟩ := h;exact ⟨_, rfl, by simpa [Lit.wf, IntKind.has] using h⟩) | exact h.elim
end
end Go.Proofs.YtmkmpfnadcmcoaaGreatDoor.RowKit
namespace Go.Proofs.YtmkmpfnadcmcoaaGreatDoor.RowBytes
open Go Go.ChangeShapes Go.WideShapes Go.ChangeAt Go.RowKit RowKit K HeldKit
section
variable {H : Type} {enc : TypeId × Value → H} {P : Program} {W : World}
theorem bytes_of : ∀ (zs : List Int), (∀ n ∈ zs, (Lit.int .u8 n).wf = true) → ∃ l : List UInt8, zs = l.map fun v => (v.toNat : Int)
 | [], _ => ⟨[], rfl⟩
 | z :: r, h => by
  obtain ⟨l, hl⟩ := bytes_of r (fun n hn => h n (List.mem_cons_of_mem _ hn))
  have hz := h z (List.mem_cons_self ..)
  have hz' : 0 ≤ z ∧ z ≤ 255 := by simpa [Lit.wf, IntKind.min, IntKind.max, IntKind.signed, IntKind.bits] using hz
  refine ⟨UInt8.ofNat z.toNat :: l, ?_⟩
  rw [List.map_cons, ← hl]
  congr 1
  simp only [UInt8.toNat_ofNat']
  omega
end
theorem calls_below {P : Program} {f : FuncId} {args : Array Value} {w : World} {r : Ending} (h : Calls P f args w fun e w' => e = r ∧ Fr0 w w') : Calls P f args w fun e w' => e = r ∧ Below w.heap.size w w' :=
 h.mono fun _ _ ⟨a, b⟩ => ⟨a, b.below⟩
end Go.Proofs.YtmkmpfnadcmcoaaGreatDoor.RowBytes
namespace Go.Proofs.YtmkmpfnadcmcoaaGreatDoor.RowDisk
open Go Go.RowKit K EqKit ArrKit HeldKit GKit GRow DiskKit DiskFlush Go.ChangeShapes Go.WideShapes Go.ChangeAt RowKit
section
variable {H : Type} {enc : TypeId × Value → H} {W : World} {P : Program} {base : Nat} {spare : Nat → Bool} {held : Bool}
theorem take_one {l : List Value} {i : Nat} {y : Value} (h : (l.drop i).take 1 = [y]) : l[i]? = some y := by
 have := congrArg (fun l => l[0]?) h
 simpa using this
theorem open_rows {α : Type} {f : α → List Value} {okp : α → Prop} {k : Nat} {t e : TypeId} (hi : Nonempty α) (ht : P.underlying t = some (.slice e)) (hk : P.cellsOf e = k) (h0 : 0 < k) (hf : ∀ x, 0 < (f x).length)
  (hp : ∀ (n : Nat) (cs : List Value) (x : DataW H × List MemPlace), DataW.trod enc P W 0 spare held n e cs = some x → ∃ a, cs = f a ∧ okp a)
  {fuel : Nat} {cs : List Value} {x : DataW H × List MemPlace} (h : DataW.trod enc P W 0 spare held fuel t cs = some x) :
  ∃ (A0 : Option Addr) (n c : Nat) (l : List α), cs = [.slice A0 n c] ∧ l.length = n ∧ RdG f k W A0 l ∧ (∀ a ∈ l, okp a) ∧ n ≤ c ∧ c ≤ 9223372036854775807 ∧ ((x.1 = .nil ∧ n = 0) ∨ ∃ el sp, x.1 = .slice el sp ∧ el.length = n) := by
 have hm : maxLen = 9223372036854775807 := rfl
 rcases Deep.open_slice ht h with ⟨rfl, rfl⟩ | ⟨a, len, cap, m, n, D, Pl, rfl, -, h3, h4, h5, rfl, h7⟩
 ·exact ⟨none, 0, 0, [], rfl, rfl, RdG.nil _ _, fun a ha => by simp at ha, Nat.le_refl _, by omega, .inl ⟨rfl, rfl⟩⟩
 ·have hlm : len ≤ m := by rw [h5];split <;> omega
  have each : ∀ i, i < len → ∃ y : α, okp y ∧ ∀ j u, (f y)[j]? = some u → W.cell? (a.add (i * k + j)) = some u := fun i hi => by
   obtain ⟨cs', c1, c2⟩ := h7 i (by omega)
   obtain ⟨y, rfl, hok⟩ := hp _ _ _ c2
   rw [hk] at c1
   obtain ⟨-, hlen, hc⟩ := World.cells?_some c1
   refine ⟨y, hok, fun j u hj => ?_⟩
   have hjl : j < k := by
    have := (List.getElem?_eq_some_iff.1 hj).1
    omega
   have := hc j hjl
   rw [Deep.add_add, hj] at this
   exact this
  have : Inhabited α := ⟨Classical.choice hi⟩
  obtain ⟨g, hg⟩ := Deep.choose_lt each
  obtain ⟨b, o, sp⟩ := a
  refine ⟨some ⟨b, o, sp⟩, len, cap, (List.range len).map g, rfl, by simp, ?_, ?_, h3, by omega, .inr ⟨_, _, rfl, by simp⟩⟩
  ·intro i hi
   rw [List.length_map, List.length_range] at hi
   have hfi := (hg i hi).2
   have hsp : sp = none := by
    cases sp with
    | none => rfl
    | some s' =>
     have h0 := (hg 0 (by omega)).2 0 _ (List.getElem?_eq_getElem (hf _))
     rw [Nat.zero_mul] at h0
     simp only [Addr.add, if_true, World.cell?] at h0
     split at h0 <;> simp at h0
   subst hsp
   refine ⟨b, o, rfl, fun j u hj => ?_⟩
   rw [List.getElem_map, List.getElem_range] at hj
   have := hfi j u hj
   rw [add_form] at this
   rw [Nat.add_assoc]
   exact this
  ·intro y hy
   obtain ⟨i, hi, rfl⟩ := List.mem_map.1 hy
   exact (hg i (List.mem_range.1 hi)).1
theorem u8s_of : ∀ (l : List Value), (∀ (i : Nat) (x : Value), l[i]? = some x → ∃ n, x = .int .u8 n ∧ (Lit.int .u8 n).wf = true) → ∃ b : List UInt8, l = b.map B
 | [], _ => ⟨[], rfl⟩
 | x :: r, h => by
  obtain ⟨n, rfl, hn⟩ := h 0 x rfl
  obtain ⟨b, rfl⟩ := u8s_of r (fun i y hy => h (i + 1) y hy)
  have hz : 0 ≤ n ∧ n ≤ 255 := by simpa [Lit.wf, IntKind.min, IntKind.max, IntKind.signed, IntKind.bits] using hn
  refine ⟨UInt8.ofNat n.toNat :: b, ?_⟩
  rw [List.map_cons, B_ofNat, Nat.mod_eq_of_lt (by omega)]
  congr 2
  omega
theorem cells_b : Tryz.prog.cellsOf 36 = 128 := by kernel_rfl
theorem cells_u : Tryz.prog.cellsOf 5 = 1 := by kernel_rfl
theorem cells_i : Tryz.prog.cellsOf 3 = 1 := by kernel_rfl
theorem cells_bo : Tryz.prog.cellsOf 4 = 1 := by kernel_rfl
theorem cells_ss : Tryz.prog.cellsOf 22 = 1 := by kernel_rfl
theorem cells_ws : Tryz.prog.cellsOf 23 = 1 := by kernel_rfl
theorem cells_d : Tryz.prog.cellsOf 25 = 4 := by kernel_rfl
theorem block_cells {n : Nat} {cs : List Value} {x : DataW H × List MemPlace} (h : DataW.trod enc Tryz.prog W base spare held n 36 cs = some x) : ∃ b : List UInt8, cs = b.map B ∧ b.length = 128 := by
 obtain ⟨xs, m, -, -, hl, hxl, hg⟩ := DataW.trod_array Tryz.underlying36 h
 rw [cells_b] at hl
 obtain ⟨b, hb⟩ := u8s_of cs (fun i y hy => by
  have hi : i < 128 := by
   have := (List.getElem?_eq_some_iff.1 hy).1
   omega
  have hk := hg i hi
  rw [List.getElem?_eq_getElem (by omega), cells_u, Nat.mul_one] at hk
  obtain ⟨n, e, -, wf⟩ := DataW.trod_int Tryz.underlying5 hk
  have := take_one e
  rw [hy] at this
  exact ⟨n, Option.some.inj this, wf⟩)
 exact ⟨b, hb, by rw [hb, List.length_map] at hl;exact hl⟩
theorem sec_cells {n : Nat} {cs : List Value} {x : DataW H × List MemPlace} (h : DataW.trod enc Tryz.prog W base spare held n 66 cs = some x) : ∃ s : Sec, cs = s.cells ∧ s.ok := by
 obtain ⟨xs, m, -, -, hl, hxl, hf⟩ := DataW.trod_struct Tryz.underlying66 h
 rw [cells_s] at hl
 have hxl' : xs.length = 3 := hxl
 have f0 := hf 0 _ rfl
 have f1 := hf 1 _ rfl
 have f2 := hf 2 _ rfl
 rw [List.getElem?_eq_getElem (by omega)] at f0 f1 f2
 obtain ⟨b, e0, hb⟩ := block_cells f0
 obtain ⟨nr, e1, -⟩ := DataW.trod_bool Tryz.underlying4 f1
 obtain ⟨nw, e2, -⟩ := DataW.trod_bool Tryz.underlying4 f2
 have e0' : (cs.drop 0).take (Tryz.prog.cellsOf 36) = b.map B := e0
 have e1'' : (cs.drop 128).take (Tryz.prog.cellsOf 4) = [.bool nr] := e1
 have e2'' : (cs.drop 129).take (Tryz.prog.cellsOf 4) = [.bool nw] := e2
 rw [cells_b, List.drop_zero] at e0'
 rw [cells_bo] at e1'' e2''
 have e1' : cs[128]? = some (.bool nr) := take_one (i := 128) e1''
 have e2' : cs[129]? = some (.bool nw) := take_one (i := 129) e2''
 refine ⟨⟨b, nr, nw⟩, ?_, hb⟩
 apply List.ext_getElem?
 intro i
 rcases (show i < 128 ∨ i = 128 ∨ i = 129 ∨ 130 ≤ i by omega) with hi | rfl | rfl | hi
 ·rw [Sec.data_at (show (Sec.mk b nr nw).ok from hb) hi]
  show cs[i]? = (b.map B)[i]?
  rw [← e0', List.getElem?_take, if_pos hi]
 ·rw [e1', Sec.nr_at (show (Sec.mk b nr nw).ok from hb)]
 ·rw [e2', Sec.nw_at (show (Sec.mk b nr nw).ok from hb)]
 ·rw [List.getElem?_eq_none (by omega), List.getElem?_eq_none (by rw [Sec.len (show (Sec.mk b nr nw).ok from hb)];omega)]
theorem wri_cells {n : Nat} {cs : List Value} {x : DataW H × List MemPlace} (h : DataW.trod enc Tryz.prog W base spare held n 68 cs = some x) : ∃ y : Wri, cs = y.cells ∧ y.ok := by
 obtain ⟨xs, m, -, -, hl, hxl, hf⟩ := DataW.trod_struct Tryz.underlying68 h
 rw [cells_w] at hl
 have hxl' : xs.length = 2 := hxl
 have f0 := hf 0 _ rfl
 have f1 := hf 1 _ rfl
 rw [List.getElem?_eq_getElem (by omega)] at f0 f1
 obtain ⟨a, e0, -, wf⟩ := DataW.trod_int Tryz.underlying3 f0
 obtain ⟨b, e1, hb⟩ := block_cells f1
 have e0'' : (cs.drop 0).take (Tryz.prog.cellsOf 3) = [.int .i64 a] := e0
 rw [cells_i] at e0''
 have e0' : cs[0]? = some (.int .i64 a) := take_one (i := 0) e0''
 have e1' : (cs.drop 1).take (Tryz.prog.cellsOf 36) = b.map B := e1
 rw [cells_b] at e1'
 refine ⟨⟨a, b⟩, ?_, hb, wf⟩
 apply List.ext_getElem?
 intro i
 rcases (show i = 0 ∨ (1 ≤ i ∧ i < 129) ∨ 129 ≤ i by omega) with rfl | hi | hi
 ·rw [e0'];rfl
 ·obtain ⟨j, rfl⟩ : ∃ j, i = j + 1 := ⟨i - 1, by omega⟩
  rw [Wri.data_at]
  show cs[j + 1]? = (b.map B)[j]?
  rw [← e1', List.getElem?_take, if_pos (by omega), List.getElem?_drop, Nat.add_comm]
 ·rw [List.getElem?_eq_none (by omega), List.getElem?_eq_none (by rw [Wri.leng (show (Wri.mk a b).ok from ⟨hb, wf⟩)];omega)]
theorem open_disk {ts : List TypeId} {ds : List (DataW H)} {j : Nat} {b0 : Nat} {v : Value} {d : DataW H} {p : List MemPlace}
  (hsz : (DataW.weightsEach Tryz.prog ts ds).all (· ≤ reachBytes) = true) (hj : ts[j]? = some 25) (hd : ds[j]? = some d)
  (hv : Value.okWide Tryz.prog W .any b0 25 v) (h : DataW.Trod enc Tryz.prog W 0 (fun _ => true) true 25 v d p) :
  ∃ (k : Dk) (sa : Option Addr) (sc : Nat) (ca : Option Addr) (cc : Nat), v = .agg (dval k sa sc ca cc) ∧ k.ok ∧ DV W k sa sc ca cc ∧ k.S.length * 130 ≤ 140737488351232 ∧ k.C.length * 136 ≤ 140737488351232 := by
 obtain ⟨cs, rfl, hcz, -⟩ := agg_of Tryz.underlying25 rfl (show Tryz.prog.cellTypes Tryz.prog.depth 25 = some [22, 23, 3, 4] by kernel_rfl) hv
 obtain ⟨fuel, hf⟩ := h
 obtain ⟨xs, m, -, hx, hl, hxl, hg⟩ := DataW.trod_struct Tryz.underlying25 hf
 rw [cells_d] at hl hcz
 have hxl' : xs.length = 4 := hxl
 have f0 := hg 0 _ rfl
 have f1 := hg 1 _ rfl
 have f2 := hg 2 _ rfl
 have f3 := hg 3 _ rfl
 rw [List.getElem?_eq_getElem (by omega)] at f0 f1 f2 f3
 obtain ⟨sa, n0, sc, l0, e0, hl0, hr0, hok0, hc0, hm0, hw0⟩ := open_rows (f := Sec.cells) (okp := Sec.ok) ⟨Zs⟩ Tryz.underlying22 cells_s (by decide) Sec.pos (fun _ _ _ h => sec_cells h) f0
 obtain ⟨ca, n1, cc, l1, e1, hl1, hr1, hok1, hc1, hm1, hw1⟩ := open_rows (f := Wri.cells) (okp := Wri.ok) ⟨⟨0, Z128⟩⟩ Tryz.underlying23 cells_w (by decide) Wri.ps (fun _ _ _ h => wri_cells h) f1
 obtain ⟨fu, e2, -, wf⟩ := DataW.trod_int Tryz.underlying3 f2
 obtain ⟨dn, e3, -⟩ := DataW.trod_bool Tryz.underlying4 f3
 subst hl0 hl1
 have hdd : d = (.agg (xs.map (·.1))) := (congrArg Prod.fst hx)
 have g0 : (cs.toList.drop 0).take (Tryz.prog.cellsOf 22) = _ := e0
 have g1 : (cs.toList.drop 1).take (Tryz.prog.cellsOf 23) = _ := e1
 have g2 : (cs.toList.drop 2).take (Tryz.prog.cellsOf 3) = _ := e2
 have g3 : (cs.toList.drop 3).take (Tryz.prog.cellsOf 4) = _ := e3
 rw [cells_ss] at g0
 rw [cells_ws] at g1
 rw [cells_i] at g2
 rw [cells_bo] at g3
 have c0 := take_one (i := 0) g0
 have c1 := take_one (i := 1) g1
 have c2 := take_one (i := 2) g2
 have c3 := take_one (i := 3) g3
 refine ⟨⟨l0, l1, fu, dn⟩, sa, sc, ca, cc, ?_, ⟨hok0, hok1, wf⟩, ⟨hr0, hr1, hc0, hm0, hc1, hm1⟩, ?_, ?_⟩
 ·congr 1
  apply Array.ext_getElem?
  intro i
  rw [← Array.getElem?_toList]
  rcases (show i = 0 ∨ i = 1 ∨ i = 2 ∨ i = 3 ∨ 4 ≤ i by omega) with rfl | rfl | rfl | rfl | hi
  ·rw [c0];rfl
  ·rw [c1];rfl
  ·rw [c2];rfl
  ·rw [c3];rfl
  ·rw [List.getElem?_eq_none (by rw [Array.length_toList];omega), Array.getElem?_eq_none (by simpa [dval] using hi)]
 ·rcases hw0 with ⟨-, h0⟩ | ⟨el, sp, e, h0⟩
  ·show l0.length * 130 ≤ _;rw [h0];omega
  ·have hmem := DataW.weights_mem_each (P := Tryz.prog) hj hd ((el.length + sp.length) * Tryz.prog.bytesOf 66) (by
    rw [hdd]
    simp only [DataW.weights, Tryz.underlying25]
    exact DataW.weights_mem_each (j := 0) (t := 22) (d := .slice el sp) rfl (by rw [List.getElem?_map, List.getElem?_eq_getElem (by omega), Option.map_some, e]) _ (by simp [DataW.weights, Tryz.underlying22]))
   have := List.all_eq_true.1 hsz _ hmem
   rw [show Tryz.prog.bytesOf 66 = 130 by kernel_rfl] at this
   have hz : (140737488351232 : Nat) = reachBytes := by decide
   simp at this
   show l0.length * 130 ≤ _
   omega
 ·rcases hw1 with ⟨-, h0⟩ | ⟨el, sp, e, h0⟩
  ·show l1.length * 136 ≤ _;rw [h0];omega
  ·have hmem := DataW.weights_mem_each (P := Tryz.prog) hj hd ((el.length + sp.length) * Tryz.prog.bytesOf 68) (by
    rw [hdd]
    simp only [DataW.weights, Tryz.underlying25]
    exact DataW.weights_mem_each (j := 1) (t := 23) (d := .slice el sp) rfl (by rw [List.getElem?_map, List.getElem?_eq_getElem (by omega), Option.map_some, e]) _ (by simp [DataW.weights, Tryz.underlying23]))
   have := List.all_eq_true.1 hsz _ hmem
   rw [show Tryz.prog.bytesOf 68 = 136 by kernel_rfl] at this
   have hz : (140737488351232 : Nat) = reachBytes := by decide
   simp at this
   show l1.length * 136 ≤ _
   omega
end
end Go.Proofs.YtmkmpfnadcmcoaaGreatDoor.RowDisk
namespace Go.Proofs.YtmkmpfnadcmcoaaGreatDoor.RowRm
open Go Go.RowKit K EqKit ArrKit HeldKit GKit GRow DiskKit RmKit DiskFlush RowDisk Go.ChangeShapes Go.WideShapes Go.ChangeAt RowKit
section
variable {H : Type} {enc : TypeId × Value → H} {W : World} {base : Nat} {spare : Nat → Bool} {held : Bool}
theorem cells_prs : Tryz.prog.cellsOf 26 = 1 := by kernel_rfl
theorem cells_pr : Tryz.prog.cellsOf 70 = 2 := by kernel_rfl
theorem cells_rm : Tryz.prog.cellsOf 28 = 2 := by kernel_rfl
theorem pair_cells {n : Nat} {cs : List Value} {x : DataW H × List MemPlace} (h : DataW.trod enc Tryz.prog W base spare held n 70 cs = some x) : ∃ s : Int × Int, cs = PR s ∧ ((Lit.int .i64 s.1).wf = true ∧ (Lit.int .i64 s.2).wf = true) := by
 obtain ⟨xs, m, -, -, hl, hxl, hf⟩ := DataW.trod_struct Tryz.underlying70 h
 rw [cells_pr] at hl
 have hxl' : xs.length = 2 := hxl
 have f0 := hf 0 _ rfl
 have f1 := hf 1 _ rfl
 rw [List.getElem?_eq_getElem (by omega)] at f0 f1
 obtain ⟨a, e0, -, wf0⟩ := DataW.trod_int Tryz.underlying3 f0
 obtain ⟨b, e1, -, wf1⟩ := DataW.trod_int Tryz.underlying3 f1
 have e0'' : (cs.drop 0).take (Tryz.prog.cellsOf 3) = [.int .i64 a] := e0
 have e1'' : (cs.drop 1).take (Tryz.prog.cellsOf 3) = [.int .i64 b] := e1
 rw [cells_i] at e0'' e1''
 have e0' : cs[0]? = some (.int .i64 a) := take_one (i := 0) e0''
 have e1' : cs[1]? = some (.int .i64 b) := take_one (i := 1) e1''
 refine ⟨(a, b), ?_, wf0, wf1⟩
 apply List.ext_getElem?
 intro i
 rcases (show i = 0 ∨ i = 1 ∨ 2 ≤ i by omega) with rfl | rfl | hi
 ·rw [e0'];rfl
 ·rw [e1'];rfl
 ·rw [List.getElem?_eq_none (by omega), List.getElem?_eq_none (by rw [PR_len];omega)]
theorem open_rm {ts : List TypeId} {ds : List (DataW H)} {j : Nat} {b0 : Nat} {v : Value} {d : DataW H} {p : List MemPlace}
  (hsz : (DataW.weightsEach Tryz.prog ts ds).all (· ≤ reachBytes) = true) (hj : ts[j]? = some 28) (hd : ds[j]? = some d)
  (hv : Value.okWide Tryz.prog W .any b0 28 v) (h : DataW.Trod enc Tryz.prog W 0 (fun _ => true) true 28 v d p) :
  ∃ (m : Rm) (a : Option Addr) (c : Nat), v = .agg (rval m a c) ∧ m.ok ∧ RV W m a c ∧ m.ps.length * 16 ≤ 140737488351232 := by
 obtain ⟨cs, rfl, hcz, -⟩ := agg_of Tryz.underlying28 rfl (show Tryz.prog.cellTypes Tryz.prog.depth 28 = some [3, 26] by kernel_rfl) hv
 obtain ⟨fuel, hf⟩ := h
 obtain ⟨xs, m, -, hx, hl, hxl, hg⟩ := DataW.trod_struct Tryz.underlying28 hf
 rw [cells_rm] at hl hcz
 have hxl' : xs.length = 2 := hxl
 have f0 := hg 0 _ rfl
 have f1 := hg 1 _ rfl
 rw [List.getElem?_eq_getElem (by omega)] at f0 f1
 obtain ⟨gn, e0, -, wf⟩ := DataW.trod_int Tryz.underlying3 f0
 obtain ⟨a, n1, c, l1, e1, hl1, hr1, hok1, hc1, hm1, hw1⟩ := open_rows (f := PR) (okp := fun s => (Lit.int .i64 s.1).wf = true ∧ (Lit.int .i64 s.2).wf = true) ⟨((0 : Int), (0 : Int))⟩ Tryz.underlying26 cells_pr (by decide) (fun x => by rw [PR_len];omega) (fun _ _ _ h => pair_cells h) f1
 subst hl1
 have hdd : d = (.agg (xs.map (·.1))) := (congrArg Prod.fst hx)
 have g0 : (cs.toList.drop 0).take (Tryz.prog.cellsOf 3) = _ := e0
 have g1 : (cs.toList.drop 1).take (Tryz.prog.cellsOf 26) = _ := e1
 rw [cells_i] at g0
 rw [cells_prs] at g1
 have c0 := take_one (i := 0) g0
 have c1 := take_one (i := 1) g1
 refine ⟨⟨gn, l1⟩, a, c, ?_, ⟨wf, hok1⟩, ⟨hr1, hc1, hm1⟩, ?_⟩
 ·congr 1
  apply Array.ext_getElem?
  intro i
  rw [← Array.getElem?_toList]
  rcases (show i = 0 ∨ i = 1 ∨ 2 ≤ i by omega) with rfl | rfl | hi
  ·rw [c0];rfl
  ·rw [c1];rfl
  ·rw [List.getElem?_eq_none (by rw [Array.length_toList];omega), Array.getElem?_eq_none (show (rval _ a c).size ≤ i from hi)]
 ·rcases hw1 with ⟨-, h0⟩ | ⟨el, sp, e, h0⟩
  ·show l1.length * 16 ≤ _;rw [h0];omega
  ·have hmem := DataW.weights_mem_each (P := Tryz.prog) hj hd ((el.length + sp.length) * Tryz.prog.bytesOf 70) (by
    rw [hdd]
    simp only [DataW.weights, Tryz.underlying28]
    exact DataW.weights_mem_each (j := 1) (t := 26) (d := .slice el sp) rfl (by rw [List.getElem?_map, List.getElem?_eq_getElem (by omega), Option.map_some, e]) _ (by simp [DataW.weights, Tryz.underlying26]))
   have := List.all_eq_true.1 hsz _ hmem
   rw [show Tryz.prog.bytesOf 70 = 16 by kernel_rfl] at this
   have hz : (140737488351232 : Nat) = reachBytes := by decide
   simp at this
   show l1.length * 16 ≤ _
   omega
end
end Go.Proofs.YtmkmpfnadcmcoaaGreatDoor.RowRm
namespace Go.Proofs.YtmkmpfnadcmcoaaGreatDoor.RowArr
open Go Go.RowKit K RowKit RowBytes HeldKit
theorem ints_list {k : IntKind} : ∀ (l : List Value), (∀ x ∈ l, ∃ n, x = .int k n ∧ (Lit.int k n).wf = true) → ∃ zs : List Int, l = zs.map (Value.int k ·) ∧ ∀ z ∈ zs, (Lit.int k z).wf = true
 | [], _ => ⟨[], rfl, fun z hz => by cases hz⟩
 | x :: r, h => by
  obtain ⟨n, rfl, hn⟩ := h x (List.mem_cons_self ..)
  obtain ⟨zs, rfl, hz⟩ := ints_list r (fun y hy => h y (List.mem_cons_of_mem _ hy))
  exact ⟨n :: zs, rfl, fun z hz' => by
   rcases List.mem_cons.1 hz' with rfl | h'
   ·exact hn
   ·exact hz z h'⟩
end Go.Proofs.YtmkmpfnadcmcoaaGreatDoor.RowArr
namespace Go.Proofs.YtmkmpfnadcmcoaaGreatDoor.RowPtrVal
open Go Go.RowKit K RowKit RowBytes RowArr PtrKit HeldKit
theorem ptr_list (l : List Value) (hl : l.length = 34) (h : ∀ (i : Nat) (x : Value), l[i]? = some x → (i < 2 → ∃ n, x = .int .i64 n ∧ (Lit.int .i64 n).wf = true) ∧ (2 ≤ i → ∃ n, x = .int .u8 n ∧ (Lit.int .u8 n).wf = true)) :
  ∃ (a b : Int) (s : List UInt8), l = PC a b s ∧ s.length = 32 ∧ (Lit.int .i64 a).wf = true ∧ (Lit.int .i64 b).wf = true := by
 match l, hl with
 | x :: y :: r, hl =>
  obtain ⟨a, rfl, ha⟩ := (h 0 x rfl).1 (by omega)
  obtain ⟨b, rfl, hb⟩ := (h 1 y rfl).1 (by omega)
  obtain ⟨zs, rfl, hz⟩ := ints_list (k := .u8) r (fun v hv => by
   obtain ⟨i, hi, rfl⟩ := List.getElem_of_mem hv
   exact (h (i + 2) r[i] (by simp [List.getElem?_eq_getElem hi])).2 (by omega))
  obtain ⟨s, rfl⟩ := bytes_of zs hz
  refine ⟨a, b, s, ?_, ?_, ha, hb⟩
  ·rw [PC, List.map_map];rfl
  ·simpa using hl
theorem ptr_of {cs : Array Value} (hl : cs.size = 34) (h : ∀ (i : Nat) (x : Value), cs[i]? = some x → (i < 2 → ∃ n, x = .int .i64 n ∧ (Lit.int .i64 n).wf = true) ∧ (2 ≤ i → ∃ n, x = .int .u8 n ∧ (Lit.int .u8 n).wf = true)) :
  ∃ (a b : Int) (s : List UInt8), cs = (PC a b s).toArray ∧ s.length = 32 ∧ (Lit.int .i64 a).wf = true ∧ (Lit.int .i64 b).wf = true := by
 obtain ⟨a, b, s, hcs, r⟩ := ptr_list cs.toList (by simpa using hl) (fun i x hx => h i x (by simpa using hx))
 exact ⟨a, b, s, by rw [← hcs], r⟩

end Go.Proofs.YtmkmpfnadcmcoaaGreatDoor.RowPtrVal
namespace Go.Proofs.YtmkmpfnadcmcoaaGreatDoor.ShaLaid
open Go Go.RowKit K ShaRot ArrKit ShaSpread ShaStep ShaRef HeldKit
def laid2 : List (String × DataW Unit) := [("lazaret/sha.begins", Rows.laid_lazaret_sha_begins), ("lazaret/sha.cubes", Rows.laid_lazaret_sha_cubes)]
theorem gBegins : Tryz.prog.globalNamed "lazaret/sha.begins" = some 0 := by kernel_rfl
theorem gCubes : Tryz.prog.globalNamed "lazaret/sha.cubes" = some 1 := by kernel_rfl
theorem tBegins : (Tryz.prog.globals[0]?).map (·.type) = some 112 := by kernel_rfl
theorem tCubes : (Tryz.prog.globals[1]?).map (·.type) = some 130 := by kernel_rfl
theorem door_met (os : Os) (args : Array Value) : laidMetH Tryz.prog laid2 ((World.doorLaid Tryz.prog 400 os).forCall (fun _ _ => 0) ⟨#[], args, []⟩).memory :=
 laidMetH_of_parts3 (fuel := 8) (laidMet_of_run' 8 (by kernel_rfl) (by kernel_rfl)) (by kernel_rfl) (by kernel_rfl)
theorem int_of_trod {H : Type} {enc : TypeId × Value → H} {P : Program} {w : World} {base : Nat} {sp : Nat → Bool} {held : Bool} {fuel : Nat} {t : TypeId} {k : IntKind} {c : Value} {y : DataW H × List MemPlace}
  (ht : P.underlying t = some (.int k)) (h : DataW.trod enc P w base sp held fuel t [c] = some y) : ∃ n, c = .int k n ∧ y = (.lit (.int k n), []) := by
 cases fuel with
 | zero => simp [DataW.trod] at h
 | succ fuel =>
  cases c <;> simp [DataW.trod, ht] at h
  rename_i k' n
  obtain ⟨⟨rfl, _⟩, rfl⟩ := h
  exact ⟨n, rfl, rfl⟩
theorem laid_row {H : Type} {enc : TypeId × Value → H} {P : Program} {w : World} {base : Nat} {sp : Nat → Bool} {held : Bool} {fuel n : Nat} {t e : TypeId} {k : IntKind} {cs : List Value} {zs : List Int} {d : DataW H} {p : List MemPlace}
  (ht : P.underlying t = some (.array n e)) (he : P.underlying e = some (.int k)) (hce : P.cellsOf e = 1) (hct : P.cellsOf t = n)
  (h : DataW.trod enc P w base sp held fuel t cs = some (d, p)) (hd : d = .agg (zs.map fun z => .lit (.int k z))) : cs = zs.map (.int k ·) := by
 obtain ⟨xs, m, -, hx, hlen, hxn, hel⟩ := DataW.trod_array ht h
 simp only [Prod.mk.injEq] at hx
 obtain ⟨hx1, -⟩ := hx
 rw [hd] at hx1
 simp only [DataW.agg.injEq] at hx1
 have hzn : zs.length = n := by have := congrArg List.length hx1;simpa [hxn] using this
 rw [hct] at hlen
 apply List.ext_getElem?
 intro i
 by_cases hi : i < n
 ·have h1 := hel i hi
  rw [hce, Nat.mul_one, List.drop_eq_getElem_cons (by omega), List.take_succ_cons, List.take_zero, List.getElem?_eq_getElem (by omega)] at h1
  obtain ⟨v, e1, e2⟩ := int_of_trod he h1
  have h3 : (zs.map fun z => (DataW.lit (.int k z) : DataW H))[i]? = (xs.map (·.1))[i]? := by rw [hx1]
  rw [List.getElem?_map, List.getElem?_map, List.getElem?_eq_getElem (by omega), List.getElem?_eq_getElem (by omega), e2] at h3
  simp only [Option.map_some, Option.some.injEq, DataW.lit.injEq, Lit.int.injEq, true_and] at h3
  rw [List.getElem?_eq_getElem (by omega), e1, List.getElem?_map, List.getElem?_eq_getElem (by omega), Option.map_some, h3]
 ·rw [List.getElem?_eq_none (by omega), List.getElem?_eq_none (by simp;omega)]
theorem begins_d : (Rows.laid_lazaret_sha_begins : DataW Unit) = .agg ((begins.list.map fun z : Nat => (z : Int)).map fun z => .lit (.int .u32 z)) := by kernel_rfl
theorem cubes_d : (Rows.laid_lazaret_sha_cubes : DataW Unit) = .agg ((cubes.map fun z : Nat => (z : Int)).map fun z => .lit (.int .u32 z)) := by kernel_rfl
theorem bk_of_var {P : Program} {W : World} {nm : String} {g : Nat} {cs : Array Value} {ps : List MemPlace} (hg : P.globalNamed nm = some g) (hv : W.var? P nm = some cs) (h0 : MemPlace.cell g 0 ∈ ps)
  (hf : ∀ b off, MemPlace.cell b off ∈ ps → (∃ c t, W.heap[b]? = some (.cells c t (0, 0))) ∧ ∀ u v, W.cell? ⟨b, off, none⟩ = some (.iface u v) → Value.okWide P W .any 0 u v) : ∃ t, Bk W g cs t := by
 obtain ⟨⟨c, t, hc⟩, -⟩ := hf g 0 h0
 unfold World.var? at hv
 rw [hg] at hv
 simp only [Option.bind_some, hc, Option.some.injEq] at hv
 subst hv
 exact ⟨t, hc⟩
theorem of_laid {W : World} (h : laidMetH Tryz.prog laid2 W) : (∃ t, Bk W 1 KC t) ∧ ∃ t, Bk W 0 HB8 t := by
 rw [MakeChecks.laidMetH_plain _ _ _ (by kernel_rfl)] at h
 obtain ⟨ps, ⟨g0, t0, cs0, f0, p0, q0, hg0, ht0, hv0, hd0, ⟨g1, t1, cs1, f1, p1, q1, hg1, ht1, hv1, hd1, hnil, he1⟩, he0⟩, hnd, hfree⟩ := h
 obtain rfl := Option.some.inj (gBegins.symm.trans hg0)
 obtain rfl := Option.some.inj (gCubes.symm.trans hg1)
 obtain rfl := Option.some.inj (tBegins.symm.trans ht0)
 obtain rfl := Option.some.inj (tCubes.symm.trans ht1)
 have c1 := laid_row Tryz.underlying112 Tryz.underlying111 (by kernel_rfl) (by kernel_rfl) hd0 begins_d
 have c0 := laid_row Tryz.underlying130 Tryz.underlying111 (by kernel_rfl) (by kernel_rfl) hd1 cubes_d
 have k1 : cs0 = HB8 := by
  apply Array.ext'
  rw [c1]
  simp [HB8, U]
 have k0 : cs1 = KC := by
  apply Array.ext'
  rw [c0]
  simp [KC, U]
 subst k0 k1
 refine ⟨bk_of_var gCubes hv1 ?_ hfree, bk_of_var gBegins hv0 ?_ hfree⟩
 ·rw [he0, he1]
  simp [MemPlace.row, KC, cubes]
 ·rw [he0]
  simp [MemPlace.row, HB8, S8.list]

end Go.Proofs.YtmkmpfnadcmcoaaGreatDoor.ShaLaid
