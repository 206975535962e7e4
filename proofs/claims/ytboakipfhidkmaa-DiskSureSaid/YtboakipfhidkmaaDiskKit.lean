/- Disks as values and in memory: words and plain theorems. -/
import Derived.Test.YtboakipfhidkmaaKit
import Derived.Test.YtboakipfhidkmaaArrKit
import Derived.Test.YtboakipfhidkmaaEqKit
import Derived.Test.YtboakipfhidkmaaHeldKit
import Derived.Test.YtboakipfhidkmaaGKit
import Derived.Test.YtboakipfhidkmaaGRow
import Derived.Test.YtboakipfhidkmaaProg
set_option linter.unusedVariables false
set_option linter.unusedSimpArgs false
namespace Go.Proofs.Ytboakipfhidkmaa.DiskKit
open Go Go.RowKit Go.Proofs.Ytboakipfhidkmaa.K Go.Proofs.Ytboakipfhidkmaa.EqKit Go.Proofs.Ytboakipfhidkmaa.ArrKit Go.Proofs.Ytboakipfhidkmaa.HeldKit Go.Proofs.Ytboakipfhidkmaa.GKit Go.Proofs.Ytboakipfhidkmaa.GRow

/-! ### Sectors, writes, disks -/
structure Sec where
  data : List UInt8
  nr : Bool
  nw : Bool
structure Wri where
  pos : Int
  data : List UInt8
structure Dk where
  S : List Sec
  C : List Wri
  fuse : Int
  down : Bool
def Sec.cells (s : Sec) : List Value := s.data.map B ++ [.bool s.nr, .bool s.nw]
def Wri.cells (x : Wri) : List Value := .int .i64 x.pos :: x.data.map B
def Sec.ok (s : Sec) : Prop := s.data.length = 128
structure Wri.ok (x : Wri) : Prop where
  len : x.data.length = 128
  wf : (Lit.int .i64 x.pos).wf = true
structure Dk.ok (d : Dk) : Prop where
  s : ∀ x ∈ d.S, x.ok
  c : ∀ x ∈ d.C, x.ok
  f : (Lit.int .i64 d.fuse).wf = true
def RdS : World → Option Addr → List Sec → Prop := RdG Sec.cells 130
def RdC : World → Option Addr → List Wri → Prop := RdG Wri.cells 129
theorem Sec.pos (s : Sec) : 0 < s.cells.length := by simp [Sec.cells]
theorem Wri.ps (x : Wri) : 0 < x.cells.length := by simp [Wri.cells]
theorem Sec.len {s : Sec} (h : s.ok) : s.cells.length = 130 := by simp [Sec.cells, show s.data.length = 128 from h]
theorem Wri.leng {x : Wri} (h : x.ok) : x.cells.length = 129 := by simp [Wri.cells, h.len]
theorem Sec.one (s : Sec) : ∀ v ∈ s.cells, v.oneCell' = true := by
  intro v hv
  simp only [Sec.cells, List.mem_append, List.mem_map, List.mem_cons, List.not_mem_nil, or_false] at hv
  rcases hv with ⟨x, -, rfl⟩ | rfl | rfl <;> rfl
theorem Wri.one (x : Wri) : ∀ v ∈ x.cells, v.oneCell' = true := by
  intro v hv
  simp only [Wri.cells, List.mem_cons, List.mem_map] at hv
  rcases hv with rfl | ⟨x, -, rfl⟩ <;> rfl
theorem Sec.nr_at {s : Sec} (h : s.ok) : s.cells[128]? = some (.bool s.nr) := by
  rw [Sec.cells, List.getElem?_append_right (by simp [show s.data.length = 128 from h]), List.length_map, show s.data.length = 128 from h]; rfl
theorem Sec.nw_at {s : Sec} (h : s.ok) : s.cells[129]? = some (.bool s.nw) := by
  rw [Sec.cells, List.getElem?_append_right (by simp [show s.data.length = 128 from h]), List.length_map, show s.data.length = 128 from h]; rfl
theorem Sec.data_at {s : Sec} (h : s.ok) {j : Nat} (hj : j < 128) : s.cells[j]? = (s.data.map B)[j]? := by
  rw [Sec.cells, List.getElem?_append_left (by simp [show s.data.length = 128 from h]; omega)]
theorem Wri.pos_at (x : Wri) : x.cells[0]? = some (.int .i64 x.pos) := rfl
theorem Wri.data_at (x : Wri) (j : Nat) : x.cells[j + 1]? = (x.data.map B)[j]? := by rw [Wri.cells, List.getElem?_cons_succ]
/-- a disk's cells -/
abbrev DC (sv cv : Value) (f : Int) (dn : Bool) : Array Value := #[sv, cv, .int .i64 f, .bool dn]
/-- the slices of a disk say what it holds -/
structure DV (w : World) (d : Dk) (sa : Option Addr) (sc : Nat) (ca : Option Addr) (cc : Nat) : Prop where
  rs : RdS w sa d.S
  rc : RdC w ca d.C
  sn : d.S.length ≤ sc
  sm : sc ≤ 9223372036854775807
  cn : d.C.length ≤ cc
  cm : cc ≤ 9223372036854775807
def dval (d : Dk) (sa : Option Addr) (sc : Nat) (ca : Option Addr) (cc : Nat) : Array Value := DC (.slice sa d.S.length sc) (.slice ca d.C.length cc) d.fuse d.down
/-- a disk in a variable -/
structure DAt (w : World) (p : Nat) (d : Dk) (sa : Option Addr) (sc : Nat) (ca : Option Addr) (cc : Nat) : Prop where
  blk : Bk w p (dval d sa sc ca cc) 25
  v : DV w d sa sc ca cc
/-- there is a disk in the variable -/
def DIn (w : World) (p : Nat) (d : Dk) : Prop := ∃ sa sc ca cc, DAt w p d sa sc ca cc
theorem DV.keep {w w1 : World} {d : Dk} {sa : Option Addr} {sc : Nat} {ca : Option Addr} {cc : Nat} (h : DV w d sa sc ca cc) (f : Fr0 w w1) : DV w1 d sa sc ca cc := ⟨RdG.keep h.rs f, RdG.keep h.rc f, h.sn, h.sm, h.cn, h.cm⟩
theorem DAt.keep {w w1 : World} {p : Nat} {d : Dk} {sa : Option Addr} {sc : Nat} {ca : Option Addr} {cc : Nat} (h : DAt w p d sa sc ca cc) (f : Fr0 w w1) : DAt w1 p d sa sc ca cc := ⟨f.keep h.blk (fun h => h), h.v.keep f⟩
theorem DIn.keep {w w1 : World} {p : Nat} {d : Dk} (h : DIn w p d) (f : Fr0 w w1) : DIn w1 p d := by
  obtain ⟨sa, sc, ca, cc, h⟩ := h
  exact ⟨sa, sc, ca, cc, h.keep f⟩
/-- a disk's variable is no place of sectors, nor of writes -/
theorem RdS.apart {w : World} {a : Addr} {l : List Sec} {p : Nat} {cs : Array Value} (h : RdS w (some a) l) (hl : l ≠ []) (hok : ∀ x ∈ l, x.ok) (hb : Bk w p cs 25) (hn : ∀ (j : Nat) (x : Value), cs[j]? = some x → ∀ v : UInt8, x ≠ B v) : a.block ≠ p := by
  rintro rfl
  have h0 : 0 < l.length := List.length_pos_iff.2 hl
  obtain ⟨b, o, e0, -, hr⟩ := RdG.form h h0 Sec.pos
  obtain rfl := Option.some.inj e0
  have hk := hok _ (List.getElem_mem h0)
  have h1 : l[0].data.length = 128 := hk
  have e := hr 0 h0 0 (B (l[0].data[0]'(by omega))) (by rw [Sec.data_at hk (by omega), List.getElem?_map, List.getElem?_eq_getElem (by omega)]; rfl)
  rw [Bk.cell hb] at e
  exact hn _ _ e _ rfl
theorem RdC.apart {w : World} {a : Addr} {l : List Wri} {p : Nat} {cs : Array Value} (h : RdC w (some a) l) (hl : l ≠ []) (hok : ∀ x ∈ l, x.ok) (hb : Bk w p cs 25) (hn : ∀ (j : Nat) (x : Value), cs[j]? = some x → ∀ v : UInt8, x ≠ B v) : a.block ≠ p := by
  rintro rfl
  have h0 : 0 < l.length := List.length_pos_iff.2 hl
  obtain ⟨b, o, e0, -, hr⟩ := RdG.form h h0 Wri.ps
  obtain rfl := Option.some.inj e0
  have h1 := (hok _ (List.getElem_mem h0)).len
  have e := hr 0 h0 1 (B (l[0].data[0]'(by omega))) (by rw [Wri.data_at, List.getElem?_map, List.getElem?_eq_getElem (by omega)]; rfl)
  rw [Bk.cell hb] at e
  exact hn _ _ e _ rfl
theorem dc_no (sv cv : Value) (f : Int) (dn : Bool) (hs : ∀ v, sv ≠ B v) (hc : ∀ v, cv ≠ B v) : ∀ (j : Nat) (x : Value), (DC sv cv f dn)[j]? = some x → ∀ v : UInt8, x ≠ B v := by
  intro j x hj v
  rcases (show j = 0 ∨ j = 1 ∨ j = 2 ∨ j = 3 ∨ 4 ≤ j by omega) with rfl | rfl | rfl | rfl | h4
  · rw [← Option.some.inj hj]; exact hs v
  · rw [← Option.some.inj hj]; exact hc v
  · rw [← Option.some.inj hj]; simp [B]
  · rw [← Option.some.inj hj]; simp [B]
  · rw [Array.getElem?_eq_none (by simpa using h4)] at hj; cases hj
theorem dval_no (d : Dk) (sa : Option Addr) (sc : Nat) (ca : Option Addr) (cc : Nat) : ∀ (j : Nat) (x : Value), (dval d sa sc ca cc)[j]? = some x → ∀ v : UInt8, x ≠ B v := dc_no _ _ _ _ (by simp [B]) (by simp [B])
/-- what holds of a disk's slices holds when a disk's variable alone is changed -/
theorem DV.past {w w1 : World} {d : Dk} {sa : Option Addr} {sc : Nat} {ca : Option Addr} {cc : Nat} (h : DV w d sa sc ca cc) (hok : d.ok) {p : Nat} {cs : Array Value} (f : Fr (fun i => i = p) w w1) (hb : Bk w p cs 25) (hn : ∀ (j : Nat) (x : Value), cs[j]? = some x → ∀ v : UInt8, x ≠ B v) : DV w1 d sa sc ca cc :=
  ⟨RdG.later h.rs f (fun a e hl => by subst e; exact RdS.apart h.rs hl hok.s hb hn), RdG.later h.rc f (fun a e hl => by subst e; exact RdC.apart h.rc hl hok.c hb hn), h.sn, h.sm, h.cn, h.cm⟩
theorem DAt.past {w w1 : World} {q : Nat} {d : Dk} {sa : Option Addr} {sc : Nat} {ca : Option Addr} {cc : Nat} (h : DAt w q d sa sc ca cc) (hok : d.ok) {p : Nat} {cs : Array Value} (f : Fr (fun i => i = p) w w1) (hb : Bk w p cs 25) (hn : ∀ (j : Nat) (x : Value), cs[j]? = some x → ∀ v : UInt8, x ≠ B v) (hne : q ≠ p) : DAt w1 q d sa sc ca cc :=
  ⟨f.keep h.blk hne, h.v.past hok f hb hn⟩
theorem DIn.past {w w1 : World} {p q : Nat} {d d' : Dk} (h : DIn w q d) (hok : d.ok) (h' : DIn w p d') (f : Fr (fun i => i = p) w w1) (hne : q ≠ p) : DIn w1 q d := by
  obtain ⟨sa, sc, ca, cc, h⟩ := h
  obtain ⟨sa', sc', ca', cc', h'⟩ := h'
  exact ⟨sa, sc, ca, cc, h.past hok f h'.blk (dval_no _ _ _ _ _) hne⟩
theorem info_d : (Try.prog.info? 25).map (·.size) = some 4 := by kernel_rfl
theorem info_s : (Try.prog.info? 67).map (·.size) = some 130 := by kernel_rfl
theorem info_w : (Try.prog.info? 65).map (·.size) = some 129 := by kernel_rfl
theorem info_b : (Try.prog.info? 29).map (·.size) = some 128 := by kernel_rfl
theorem cells_s : Try.prog.cellsOf 67 = 130 := by kernel_rfl
theorem cells_w : Try.prog.cellsOf 65 = 129 := by kernel_rfl
theorem dval_size (d : Dk) (sa : Option Addr) (sc : Nat) (ca : Option Addr) (cc : Nat) : (dval d sa sc ca cc).size = 4 := rfl
theorem dval_one (d : Dk) (sa : Option Addr) (sc : Nat) (ca : Option Addr) (cc : Nat) : (dval d sa sc ca cc).all (·.oneCell') = true := by simp [dval, Value.oneCell']
theorem el_size (b o i k j : Nat) : o + i * k + j = o + i * k + j := rfl

/-! ### What is asked of disks -/
def thereB (n : Nat) (at_ : Int) : Bool := decide (0 ≤ at_ ∧ at_ < n)
def allThere (n : Nat) (l : List Wri) : Bool := l.all fun x => thereB n x.pos
def formedB (d : Dk) : Bool := allThere d.S.length d.C && decide (1 ≤ d.S.length ∧ d.S.length ≤ 4096)
def rightB (d : Dk) (at_ : Int) : Bool := thereB d.S.length at_ && formedB d
theorem thereB_true {n : Nat} {a : Int} : thereB n a = true ↔ 0 ≤ a ∧ a < n := by simp [thereB]
theorem thereB_false {n : Nat} {a : Int} : thereB n a = false ↔ ¬ (0 ≤ a ∧ a < n) := by simp [thereB]
/-- a block of zeros -/
def Z128 : List UInt8 := List.replicate 128 0
def Zs : Sec := ⟨Z128, false, false⟩
theorem Zs_ok : Zs.ok := by simp [Sec.ok, Zs, Z128]
/-- the last write at a sector -/
def lastAt (l : List Wri) (at_ : Int) : Option (List UInt8) := l.foldl (fun r x => if x.pos = at_ then some x.data else r) none
def secAt (d : Dk) (at_ : Int) : Sec := d.S.getD at_.toNat Zs
/-- what reads -/
def readX (d : Dk) (at_ : Int) : List UInt8 × Int :=
  if rightB d at_ = false then (Z128, 1) else if d.down then (Z128, 3) else
  match lastAt d.C at_ with
  | some b => (b, 0)
  | none => if (secAt d at_).nr then (Z128, 2) else ((secAt d at_).data, 0)
/-- an act -/
def actE (d : Dk) : Int := if d.down = true ∨ d.fuse = 0 then 3 else 0
def actD (d : Dk) : Dk := if d.down = true then d else if d.fuse = 0 then { d with down := true } else if 0 < d.fuse then { d with fuse := d.fuse - 1 } else d
/-- a write -/
def writeE (d : Dk) (at_ : Int) : Int := if rightB d at_ = false then 1 else if actE d = 3 then 3 else if (secAt d at_).nw then 2 else 0
def writeD (d : Dk) (at_ : Int) (b : List UInt8) : Dk := if rightB d at_ = false then d else if actE d = 3 then actD d else if (secAt d at_).nw then actD d else { actD d with C := d.C ++ [⟨at_, b⟩] }
/-- the kept writes last -/
def laid (S : List Sec) (C : List Wri) (keep : Nat → Bool) : Nat → List Sec
  | 0 => S
  | k + 1 => let l := laid S C keep k
    match C[k]? with
    | some x => if keep k then l.set x.pos.toNat { l.getD x.pos.toNat Zs with data := x.data, nr := false } else l
    | none => l
def layD (d : Dk) (keep : Nat → Bool) : Dk := { d with S := laid d.S d.C keep d.C.length, C := [] }
def flushE (d : Dk) : Int := if rightB d 0 = false then 1 else actE d
def flushD (d : Dk) : Dk := if rightB d 0 = false then d else if actE d = 3 then actD d else layD (actD d) (fun _ => true)
def crashE (d : Dk) : Int := if rightB d 0 = false then 1 else 0
def crashD (d : Dk) (keep : List Bool) : Dk := if rightB d 0 = false then d else { layD d (fun i => keep.getD i false) with fuse := -1, down := false }
def armE (d : Dk) (n : Int) : Int := if rightB d 0 = false ∨ n < -1 then 1 else 0
def armD (d : Dk) (n : Int) : Dk := if rightB d 0 = false ∨ n < -1 then d else { d with fuse := n }
theorem right0 (d : Dk) : rightB d 0 = formedB d := by
  unfold rightB formedB thereB
  by_cases h : 1 ≤ d.S.length
  · rw [decide_eq_true (by omega : (0 : Int) ≤ 0 ∧ (0 : Int) < d.S.length), Bool.true_and]
  · rw [decide_eq_false (by omega : ¬ ((0 : Int) ≤ 0 ∧ (0 : Int) < d.S.length)), Bool.false_and, decide_eq_false (by omega : ¬ (1 ≤ d.S.length ∧ d.S.length ≤ 4096)), Bool.and_false]

end Go.Proofs.Ytboakipfhidkmaa.DiskKit
