/- The theorems that the claim uses, text behind text (part 27). -/
import Derived.Test.YtmkmpfnadcmcoaaDoorXaa
import Derived.Test.YtmkmpfnadcmcoaaDoorXac
import Derived.Test.YtmkmpfnadcmcoaaDoorXaf
import Derived.Test.YtmkmpfnadcmcoaaDoorXag
import Derived.Test.YtmkmpfnadcmcoaaDoorXaz
import Derived.Test.YtmkmpfnadcmcoaaDoorRows
import Derived.ReadAgain
import Derived.ChangeStays
import Derived.ChangeOld
import Derived.Below
import Derived.ProofKit
import Derived.OpenShut
import Derived.SizedLaws
import Derived.ChangeSlices
import Derived.Deep.Slices
import Derived.LaidMore
import Derived.Stop.Joined
set_option linter.unusedVariables false
set_option linter.unusedSimpArgs false
set_option maxRecDepth 100000
namespace Go.Proofs.YtmkmpfnadcmcoaaDoor.RowKit
open Go Go.ChangeShapes Go.WideShapes Go.ChangeAt Go.RowKit
theorem own : ownKnob Tryd.prog.godebug = none := by kernel_rfl
theorem kids : Kids Tryd.prog (· < Tryd.prog.types.size) := kids_rows (by kernel_rfl) (by kernel_rfl)
theorem full : ∀ t e, t < Tryd.prog.types.size → Tryd.prog.underlying t = some (.slice e) → 0 < Tryd.prog.cellsOf e := slices_full_of Tryd.prog (by kernel_rfl)

section
variable {H : Type} {enc : TypeId × Value → H} {W W' : World}
theorem arg_stays (hb : Below W.heap.size W W') {sp : Nat → Bool} {t : TypeId} {v : Value} {d : DataW H} {ps : List MemPlace} (ht : t < Tryd.prog.types.size)
    (h : DataW.Trod enc Tryd.prog W 0 (fun _ => true) true t v d ps) (hlt : ∀ p ∈ ps, p.block < W.heap.size) (hs : ∀ p ∈ ps, sp p.block = true) : DataW.Trod enc Tryd.prog W' 0 sp true t v d ps := by
  obtain ⟨n, hn⟩ := h
  refine ⟨n, DataW.trod_stays kids (fun ht h => full _ _ ht h) (fun h => by cases h) ht hn (fun p hp => ?_) hs⟩
  have hl := hlt p hp
  cases p with
  | cell b off => exact hb.cell (p := ⟨b, off, none⟩) hl
  | map b => exact hb.block b hl
theorem args_stay0 (hb : Below W.heap.size W W') {sp : Nat → Bool} : ∀ {ts : List TypeId} {vs : List Value} {ds : List (DataW H)} {ps : List MemPlace}, (∀ t ∈ ts, t < Tryd.prog.types.size) →
    DataW.TrodAll enc Tryd.prog W 0 (fun _ => true) true ts vs ds ps → (∀ p ∈ ps, p.block < W.heap.size) → (∀ p ∈ ps, sp p.block = true) → DataW.TrodAll enc Tryd.prog W' 0 sp true ts vs ds ps
  | [], [], [], _, _, h, _, _ => h
  | _ :: _, _ :: _, _ :: _, _, hT, ⟨p, q, h1, h2, e⟩, hl, hs =>
    ⟨p, q, arg_stays hb (hT _ (List.mem_cons.2 (Or.inl rfl))) h1 (fun x hx => hl x (by rw [e]; exact List.mem_append_left _ hx)) (fun x hx => hs x (by rw [e]; exact List.mem_append_left _ hx)),
      args_stay0 hb (fun t ht => hT t (List.mem_cons.2 (Or.inr ht))) h2 (fun x hx => hl x (by rw [e]; exact List.mem_append_right _ hx)) (fun x hx => hs x (by rw [e]; exact List.mem_append_right _ hx)), e⟩
/-- ALL ARGUMENTS READ AS THEY DID, whatever was made since. -/
theorem args_stay (hb : Below W.heap.size W W') {sp : Nat → Bool} {ts : List TypeId} {vs : List Value} {ds : List (DataW H)} {ps : List MemPlace} (hT : ∀ t ∈ ts, t < Tryd.prog.types.size)
    (h : DataW.TrodAll enc Tryd.prog W 0 (fun _ => true) true ts vs ds ps) (hs : ∀ p ∈ ps, sp p.block = true) : DataW.TrodAll enc Tryd.prog W' 0 sp true ts vs ds ps :=
  args_stay0 hb hT h h.lt hs
end
section
variable {P : Program} {w : World} {r : Reach} {base : Nat}
/-- A struct's, or an array's, cells, each formed. -/
theorem agg_of {t : TypeId} {v : Value} {d : TypeDesc} {ts : List TypeId} (hu : P.underlying t = some d) (hd : (match d with | .struct _ | .array _ _ => true | _ => false) = true) (hts : P.cellTypes P.depth t = some ts)
    (h : Value.okWide P w r base t v) : ∃ cs : Array Value, v = .agg cs ∧ cs.size = P.cellsOf t ∧ ∀ i x, cs[i]? = some x → ∃ u, ts[i % ts.length]? = some u ∧ Cell.okWide P w r base u x := by
  unfold Value.okWide at h
  rw [hu] at h
  have h' : ∃ cs, v = .agg cs ∧ cs.size = P.cellsOf t ∧ Row.okWide P w r base t cs := by
    cases d <;> first | exact h | cases hd
  obtain ⟨cs, hv, hz, ts', h1, -, h2⟩ := h'
  rw [hts] at h1
  obtain rfl := Option.some.inj h1
  exact ⟨cs, hv, hz, h2⟩
theorem cell_int {u : TypeId} {k : IntKind} {x : Value} (hu : P.underlying u = some (.int k)) (h : Cell.okWide P w r base u x) : ∃ n, x = .int k n ∧ (Lit.int k n).wf = true := by
  unfold Cell.okWide at h
  rw [hu] at h
  unfold Cell.ok at h
  rw [hu] at h
  cases x <;> first | (obtain ⟨rfl, h⟩ := h; exact ⟨_, rfl, by simpa [Lit.wf, IntKind.has] using h⟩) | exact h.elim
end
end Go.Proofs.YtmkmpfnadcmcoaaDoor.RowKit
namespace Go.Proofs.YtmkmpfnadcmcoaaDoor.RowBytes
open Go Go.ChangeShapes Go.WideShapes Go.ChangeAt Go.RowKit Go.Proofs.YtmkmpfnadcmcoaaDoor.RowKit Go.Proofs.YtmkmpfnadcmcoaaDoor.K
section
variable {H : Type} {enc : TypeId × Value → H} {P : Program} {W : World}
theorem bytes_of : ∀ (zs : List Int), (∀ n ∈ zs, (Lit.int .u8 n).wf = true) → ∃ l : List UInt8, zs = l.map fun v => (v.toNat : Int)
  | [], _ => ⟨[], rfl⟩
  | z :: r, h => by
    obtain ⟨l, hl⟩ := bytes_of r (fun n hn => h n (List.mem_cons_of_mem _ hn))
    have hz := h z (List.mem_cons_self ..)
    have hz' : 0 ≤ z ∧ z ≤ 255 := by simpa [Lit.wf, IntKind.min, IntKind.max, IntKind.signed, IntKind.bits] using hz
    refine ⟨UInt8.ofNat z.toNat :: l, ?_⟩
    rw [List.map_cons, ← hl]
    congr 1
    simp only [UInt8.toNat_ofNat']
    omega
end
theorem calls_below {P : Program} {f : FuncId} {args : Array Value} {w : World} {r : Ending} (h : Calls P f args w fun e w' => e = r ∧ Fr0 w w') : Calls P f args w fun e w' => e = r ∧ Below w.heap.size w w' :=
  h.mono fun _ _ ⟨a, b⟩ => ⟨a, b.below⟩
end Go.Proofs.YtmkmpfnadcmcoaaDoor.RowBytes
namespace Go.Proofs.YtmkmpfnadcmcoaaDoor.RowDisk
open Go Go.RowKit Go.Proofs.YtmkmpfnadcmcoaaDoor.K Go.Proofs.YtmkmpfnadcmcoaaDoor.EqKit Go.Proofs.YtmkmpfnadcmcoaaDoor.ArrKit Go.Proofs.YtmkmpfnadcmcoaaDoor.HeldKit Go.Proofs.YtmkmpfnadcmcoaaDoor.GKit Go.Proofs.YtmkmpfnadcmcoaaDoor.GRow Go.Proofs.YtmkmpfnadcmcoaaDoor.DiskKit Go.Proofs.YtmkmpfnadcmcoaaDoor.DiskFlush Go.ChangeShapes Go.WideShapes Go.ChangeAt Go.Proofs.YtmkmpfnadcmcoaaDoor.RowKit
section
variable {H : Type} {enc : TypeId × Value → H} {W : World} {P : Program} {base : Nat} {spare : Nat → Bool} {held : Bool}
theorem take_one {l : List Value} {i : Nat} {y : Value} (h : (l.drop i).take 1 = [y]) : l[i]? = some y := by
  have := congrArg (fun l => l[0]?) h
  simpa using this
theorem u8s_of : ∀ (l : List Value), (∀ (i : Nat) (x : Value), l[i]? = some x → ∃ n, x = .int .u8 n ∧ (Lit.int .u8 n).wf = true) → ∃ b : List UInt8, l = b.map B
  | [], _ => ⟨[], rfl⟩
  | x :: r, h => by
    obtain ⟨n, rfl, hn⟩ := h 0 x rfl
    obtain ⟨b, rfl⟩ := u8s_of r (fun i y hy => h (i + 1) y hy)
    have hz : 0 ≤ n ∧ n ≤ 255 := by simpa [Lit.wf, IntKind.min, IntKind.max, IntKind.signed, IntKind.bits] using hn
    refine ⟨UInt8.ofNat n.toNat :: b, ?_⟩
    rw [List.map_cons, B_ofNat, Nat.mod_eq_of_lt (by omega)]
    congr 2
    omega
theorem cells_b : Tryd.prog.cellsOf 22 = 128 := by kernel_rfl
theorem cells_u : Tryd.prog.cellsOf 5 = 1 := by kernel_rfl
theorem cells_i : Tryd.prog.cellsOf 3 = 1 := by kernel_rfl
theorem block_cells {n : Nat} {cs : List Value} {x : DataW H × List MemPlace} (h : DataW.trod enc Tryd.prog W base spare held n 22 cs = some x) : ∃ b : List UInt8, cs = b.map B ∧ b.length = 128 := by
  obtain ⟨xs, m, -, -, hl, hxl, hg⟩ := DataW.trod_array Tryd.underlying22 h
  rw [cells_b] at hl
  obtain ⟨b, hb⟩ := u8s_of cs (fun i y hy => by
    have hi : i < 128 := by
      have := (List.getElem?_eq_some_iff.1 hy).1
      omega
    have hk := hg i hi
    rw [List.getElem?_eq_getElem (by omega), cells_u, Nat.mul_one] at hk
    obtain ⟨n, e, -, wf⟩ := DataW.trod_int Tryd.underlying5 hk
    have := take_one e
    rw [hy] at this
    exact ⟨n, Option.some.inj this, wf⟩)
  exact ⟨b, hb, by rw [hb, List.length_map] at hl; exact hl⟩
/-- A BLOCK BY VALUE, OPENED. -/
theorem open_block {b0 : Nat} {v : Value} {d : DataW H} {p : List MemPlace} (hv : Value.okWide Tryd.prog W .any b0 22 v) (h : DataW.Trod enc Tryd.prog W 0 (fun _ => true) true 22 v d p) :
    ∃ b : List UInt8, v = .agg (b.map B).toArray ∧ b.length = 128 := by
  obtain ⟨cs, rfl, hcz, -⟩ := agg_of Tryd.underlying22 rfl (show Tryd.prog.cellTypes Tryd.prog.depth 22 = some (List.replicate 128 5) by kernel_rfl) hv
  obtain ⟨fuel, hf⟩ := h
  obtain ⟨b, hb, hl⟩ := block_cells hf
  refine ⟨b, ?_, hl⟩
  have hcl : (Value.agg cs).cells.toList = cs.toList := rfl
  rw [hcl] at hb
  rw [← hb]
end
end Go.Proofs.YtmkmpfnadcmcoaaDoor.RowDisk
namespace Go.Proofs.YtmkmpfnadcmcoaaDoor.RowArr
open Go Go.RowKit Go.Proofs.YtmkmpfnadcmcoaaDoor.K Go.Proofs.YtmkmpfnadcmcoaaDoor.RowKit Go.Proofs.YtmkmpfnadcmcoaaDoor.RowBytes
theorem ints_list {k : IntKind} : ∀ (l : List Value), (∀ x ∈ l, ∃ n, x = .int k n ∧ (Lit.int k n).wf = true) → ∃ zs : List Int, l = zs.map (Value.int k ·) ∧ ∀ z ∈ zs, (Lit.int k z).wf = true
  | [], _ => ⟨[], rfl, fun z hz => by cases hz⟩
  | x :: r, h => by
    obtain ⟨n, rfl, hn⟩ := h x (List.mem_cons_self ..)
    obtain ⟨zs, rfl, hz⟩ := ints_list r (fun y hy => h y (List.mem_cons_of_mem _ hy))
    exact ⟨n :: zs, rfl, fun z hz' => by
      rcases List.mem_cons.1 hz' with rfl | h'
      · exact hn
      · exact hz z h'⟩
theorem ints_of {k : IntKind} {cs : Array Value} (h : ∀ (i : Nat) (x : Value), cs[i]? = some x → ∃ n, x = .int k n ∧ (Lit.int k n).wf = true) : ∃ zs : List Int, cs = (zs.map (Value.int k ·)).toArray ∧ ∀ z ∈ zs, (Lit.int k z).wf = true := by
  obtain ⟨zs, hz, hw⟩ := ints_list (k := k) cs.toList (fun x hx => by
    obtain ⟨i, hi, rfl⟩ := List.getElem_of_mem hx
    exact h i _ (by rw [← Array.getElem?_toList, List.getElem?_eq_getElem hi]))
  exact ⟨zs, by rw [← hz], hw⟩
end Go.Proofs.YtmkmpfnadcmcoaaDoor.RowArr
namespace Go.Proofs.YtmkmpfnadcmcoaaDoor.RowLostArr
open Go Go.RowKit Go.Proofs.YtmkmpfnadcmcoaaDoor.K Go.Proofs.YtmkmpfnadcmcoaaDoor.RowKit Go.Proofs.YtmkmpfnadcmcoaaDoor.RowBytes Go.Proofs.YtmkmpfnadcmcoaaDoor.RowArr Go.Proofs.YtmkmpfnadcmcoaaDoor.ShaStep Go.Proofs.YtmkmpfnadcmcoaaDoor.RmTab
theorem lost_ints (bl : List UInt8) (tw : Bool) (zs : List Int) (hw : ∀ z ∈ zs, (Lit.int .u8 z).wf = true) (h2 : zs.length = 2) (W : World) (hbl : bl.length = 128) (hsh : Sh W) :
    Calls Tryd.prog 4 #[.agg (bl.map B).toArray, .bool tw, .agg (zs.map (Value.int .u8 ·)).toArray] W fun e w' => e = .returned (.bool true) ∧ Below W.heap.size W w' := by
  obtain ⟨ys, rfl⟩ := bytes_of zs hw
  rw [List.length_map] at h2
  have h := calls_below (DitLostLaw.lost_all bl tw ys W hbl h2 hsh)
  have e2 : ys.map B = (ys.map fun v => (v.toNat : Int)).map (Value.int .u8 ·) := by rw [List.map_map]; rfl
  rw [e2] at h
  exact h

end Go.Proofs.YtmkmpfnadcmcoaaDoor.RowLostArr
namespace Go.Proofs.YtmkmpfnadcmcoaaDoor.ShaLaid
open Go Go.RowKit Go.Proofs.YtmkmpfnadcmcoaaDoor.K Go.Proofs.YtmkmpfnadcmcoaaDoor.ShaRot Go.Proofs.YtmkmpfnadcmcoaaDoor.ArrKit Go.Proofs.YtmkmpfnadcmcoaaDoor.ShaSpread Go.Proofs.YtmkmpfnadcmcoaaDoor.ShaStep Go.Proofs.YtmkmpfnadcmcoaaDoor.ShaRef
def laid2 : List (String × DataW Unit) := [("lazaret/sha.begins", Rows.laid_lazaret_sha_begins), ("lazaret/sha.cubes", Rows.laid_lazaret_sha_cubes)]
theorem gBegins : Tryd.prog.globalNamed "lazaret/sha.begins" = some 0 := by kernel_rfl
theorem gCubes : Tryd.prog.globalNamed "lazaret/sha.cubes" = some 1 := by kernel_rfl
theorem tBegins : (Tryd.prog.globals[0]?).map (·.type) = some 75 := by kernel_rfl
theorem tCubes : (Tryd.prog.globals[1]?).map (·.type) = some 103 := by kernel_rfl
/-- The door's own heap meets the condition. -/
theorem door_met (os : Os) (args : Array Value) : laidMetH Tryd.prog laid2 ((World.doorLaid Tryd.prog 400 os).forCall (fun _ _ => 0) ⟨#[], args, []⟩).memory :=
  laidMetH_of_parts3 (fuel := 8) (laidMet_of_run' 8 (by kernel_rfl) (by kernel_rfl)) (by kernel_rfl) (by kernel_rfl)
theorem int_of_trod {H : Type} {enc : TypeId × Value → H} {P : Program} {w : World} {base : Nat} {sp : Nat → Bool} {held : Bool} {fuel : Nat} {t : TypeId} {k : IntKind} {c : Value} {y : DataW H × List MemPlace}
    (ht : P.underlying t = some (.int k)) (h : DataW.trod enc P w base sp held fuel t [c] = some y) : ∃ n, c = .int k n ∧ y = (.lit (.int k n), []) := by
  cases fuel with
  | zero => simp [DataW.trod] at h
  | succ fuel =>
    cases c <;> simp [DataW.trod, ht] at h
    rename_i k' n
    obtain ⟨⟨rfl, _⟩, rfl⟩ := h
    exact ⟨n, rfl, rfl⟩
theorem laid_row {H : Type} {enc : TypeId × Value → H} {P : Program} {w : World} {base : Nat} {sp : Nat → Bool} {held : Bool} {fuel n : Nat} {t e : TypeId} {k : IntKind} {cs : List Value} {zs : List Int} {d : DataW H} {p : List MemPlace}
    (ht : P.underlying t = some (.array n e)) (he : P.underlying e = some (.int k)) (hce : P.cellsOf e = 1) (hct : P.cellsOf t = n)
    (h : DataW.trod enc P w base sp held fuel t cs = some (d, p)) (hd : d = .agg (zs.map fun z => .lit (.int k z))) : cs = zs.map (.int k ·) := by
  obtain ⟨xs, m, -, hx, hlen, hxn, hel⟩ := DataW.trod_array ht h
  simp only [Prod.mk.injEq] at hx
  obtain ⟨hx1, -⟩ := hx
  rw [hd] at hx1
  simp only [DataW.agg.injEq] at hx1
  have hzn : zs.length = n := by have := congrArg List.length hx1; simpa [hxn] using this
  rw [hct] at hlen
  apply List.ext_getElem?
  intro i
  by_cases hi : i < n
  · have h1 := hel i hi
    rw [hce, Nat.mul_one, List.drop_eq_getElem_cons (by omega), List.take_succ_cons, List.take_zero, List.getElem?_eq_getElem (by omega)] at h1
    obtain ⟨v, e1, e2⟩ := int_of_trod he h1
    have h3 : (zs.map fun z => (DataW.lit (.int k z) : DataW H))[i]? = (xs.map (·.1))[i]? := by rw [hx1]
    rw [List.getElem?_map, List.getElem?_map, List.getElem?_eq_getElem (by omega), List.getElem?_eq_getElem (by omega), e2] at h3
    simp only [Option.map_some, Option.some.injEq, DataW.lit.injEq, Lit.int.injEq, true_and] at h3
    rw [List.getElem?_eq_getElem (by omega), e1, List.getElem?_map, List.getElem?_eq_getElem (by omega), Option.map_some, h3]
  · rw [List.getElem?_eq_none (by omega), List.getElem?_eq_none (by simp; omega)]
theorem begins_d : (Rows.laid_lazaret_sha_begins : DataW Unit) = .agg ((begins.list.map fun z : Nat => (z : Int)).map fun z => .lit (.int .u32 z)) := by kernel_rfl
theorem cubes_d : (Rows.laid_lazaret_sha_cubes : DataW Unit) = .agg ((cubes.map fun z : Nat => (z : Int)).map fun z => .lit (.int .u32 z)) := by kernel_rfl
theorem bk_of_var {P : Program} {W : World} {nm : String} {g : Nat} {cs : Array Value} {ps : List MemPlace} (hg : P.globalNamed nm = some g) (hv : W.var? P nm = some cs) (h0 : MemPlace.cell g 0 ∈ ps)
    (hf : ∀ b off, MemPlace.cell b off ∈ ps → (∃ c t, W.heap[b]? = some (.cells c t (0, 0))) ∧ ∀ u v, W.cell? ⟨b, off, none⟩ = some (.iface u v) → Value.okWide P W .any 0 u v) : ∃ t, Bk W g cs t := by
  obtain ⟨⟨c, t, hc⟩, -⟩ := hf g 0 h0
  unfold World.var? at hv
  rw [hg] at hv
  simp only [Option.bind_some, hc, Option.some.injEq] at hv
  subst hv
  exact ⟨t, hc⟩
/-- WHAT THE CONDITION GIVES THE WALKS. -/
theorem of_laid {W : World} (h : laidMetH Tryd.prog laid2 W) : (∃ t, Bk W 1 KC t) ∧ ∃ t, Bk W 0 HB8 t := by
  rw [MakeChecks.laidMetH_plain _ _ _ (by kernel_rfl)] at h
  obtain ⟨ps, ⟨g0, t0, cs0, f0, p0, q0, hg0, ht0, hv0, hd0, ⟨g1, t1, cs1, f1, p1, q1, hg1, ht1, hv1, hd1, hnil, he1⟩, he0⟩, hnd, hfree⟩ := h
  obtain rfl := Option.some.inj (gBegins.symm.trans hg0)
  obtain rfl := Option.some.inj (gCubes.symm.trans hg1)
  obtain rfl := Option.some.inj (tBegins.symm.trans ht0)
  obtain rfl := Option.some.inj (tCubes.symm.trans ht1)
  have c1 := laid_row Tryd.underlying75 Tryd.underlying74 (by kernel_rfl) (by kernel_rfl) hd0 begins_d
  have c0 := laid_row Tryd.underlying103 Tryd.underlying74 (by kernel_rfl) (by kernel_rfl) hd1 cubes_d
  have k1 : cs0 = HB8 := by
    apply Array.ext'
    rw [c1]
    simp [HB8, U]
  have k0 : cs1 = KC := by
    apply Array.ext'
    rw [c0]
    simp [KC, U]
  subst k0 k1
  refine ⟨bk_of_var gCubes hv1 ?_ hfree, bk_of_var gBegins hv0 ?_ hfree⟩
  · rw [he0, he1]
    simp [MemPlace.row, KC, cubes]
  · rw [he0]
    simp [MemPlace.row, HB8, S8.list]

end Go.Proofs.YtmkmpfnadcmcoaaDoor.ShaLaid
