/- The theorems that the claim uses, text behind text (part 3). -/
import Derived.Test.YtlleandelcjhjaaDoorZaa
import Derived.Test.YtlleandelcjhjaaDoorZab
import Derived.Test.YtlleandelcjhjaaDoorProg
set_option linter.unusedVariables false
set_option linter.unusedSimpArgs false
namespace Go.Proofs.YtlleandelcjhjaaDoor.DiskKit
open Go Go.RowKit Go.Proofs.YtlleandelcjhjaaDoor.K Go.Proofs.YtlleandelcjhjaaDoor.EqKit Go.Proofs.YtlleandelcjhjaaDoor.ArrKit Go.Proofs.YtlleandelcjhjaaDoor.HeldKit Go.Proofs.YtlleandelcjhjaaDoor.GKit Go.Proofs.YtlleandelcjhjaaDoor.GRow
structure Sec where
  data : List UInt8
  nr : Bool
  nw : Bool
structure Wri where
  pos : Int
  data : List UInt8
structure Dk where
  S : List Sec
  C : List Wri
  fuse : Int
  down : Bool
def Sec.cells (s : Sec) : List Value := s.data.map B ++ [.bool s.nr, .bool s.nw]
def Wri.cells (x : Wri) : List Value := .int .i64 x.pos :: x.data.map B
def Sec.ok (s : Sec) : Prop := s.data.length = 128
structure Wri.ok (x : Wri) : Prop where
  len : x.data.length = 128
  wf : (Lit.int .i64 x.pos).wf = true
structure Dk.ok (d : Dk) : Prop where
  s : ∀ x ∈ d.S, x.ok
  c : ∀ x ∈ d.C, x.ok
  f : (Lit.int .i64 d.fuse).wf = true
def RdS : World → Option Addr → List Sec → Prop := RdG Sec.cells 130
def RdC : World → Option Addr → List Wri → Prop := RdG Wri.cells 129
theorem Sec.pos (s : Sec) : 0 < s.cells.length := by simp [Sec.cells]
theorem Wri.ps (x : Wri) : 0 < x.cells.length := by simp [Wri.cells]
theorem Sec.len {s : Sec} (h : s.ok) : s.cells.length = 130 := by simp [Sec.cells, show s.data.length = 128 from h]
theorem Wri.leng {x : Wri} (h : x.ok) : x.cells.length = 129 := by simp [Wri.cells, h.len]
theorem Sec.one (s : Sec) : ∀ v ∈ s.cells, v.oneCell' = true := by
  intro v hv
  simp only [Sec.cells, List.mem_append, List.mem_map, List.mem_cons, List.not_mem_nil, or_false] at hv
  rcases hv with ⟨x, -, rfl⟩ | rfl | rfl <;> rfl
theorem Wri.one (x : Wri) : ∀ v ∈ x.cells, v.oneCell' = true := by
  intro v hv
  simp only [Wri.cells, List.mem_cons, List.mem_map] at hv
  rcases hv with rfl | ⟨x, -, rfl⟩ <;> rfl
theorem Sec.nr_at {s : Sec} (h : s.ok) : s.cells[128]? = some (.bool s.nr) := by
  rw [Sec.cells, List.getElem?_append_right (by simp [show s.data.length = 128 from h]), List.length_map, show s.data.length = 128 from h]; rfl
theorem Sec.nw_at {s : Sec} (h : s.ok) : s.cells[129]? = some (.bool s.nw) := by
  rw [Sec.cells, List.getElem?_append_right (by simp [show s.data.length = 128 from h]), List.length_map, show s.data.length = 128 from h]; rfl
theorem Sec.data_at {s : Sec} (h : s.ok) {j : Nat} (hj : j < 128) : s.cells[j]? = (s.data.map B)[j]? := by
  rw [Sec.cells, List.getElem?_append_left (by simp [show s.data.length = 128 from h]; omega)]
theorem Wri.data_at (x : Wri) (j : Nat) : x.cells[j + 1]? = (x.data.map B)[j]? := by rw [Wri.cells, List.getElem?_cons_succ]
/-- a disk's cells -/
abbrev DC (sv cv : Value) (f : Int) (dn : Bool) : Array Value := #[sv, cv, .int .i64 f, .bool dn]
/-- the slices of a disk say what it holds -/
structure DV (w : World) (d : Dk) (sa : Option Addr) (sc : Nat) (ca : Option Addr) (cc : Nat) : Prop where
  rs : RdS w sa d.S
  rc : RdC w ca d.C
  sn : d.S.length ≤ sc
  sm : sc ≤ 9223372036854775807
  cn : d.C.length ≤ cc
  cm : cc ≤ 9223372036854775807
def dval (d : Dk) (sa : Option Addr) (sc : Nat) (ca : Option Addr) (cc : Nat) : Array Value := DC (.slice sa d.S.length sc) (.slice ca d.C.length cc) d.fuse d.down
/-- a disk in a variable -/
structure DAt (w : World) (p : Nat) (d : Dk) (sa : Option Addr) (sc : Nat) (ca : Option Addr) (cc : Nat) : Prop where
  blk : Bk w p (dval d sa sc ca cc) 39
  v : DV w d sa sc ca cc
/-- there is a disk in the variable -/
def DIn (w : World) (p : Nat) (d : Dk) : Prop := ∃ sa sc ca cc, DAt w p d sa sc ca cc
theorem DV.keep {w w1 : World} {d : Dk} {sa : Option Addr} {sc : Nat} {ca : Option Addr} {cc : Nat} (h : DV w d sa sc ca cc) (f : Fr0 w w1) : DV w1 d sa sc ca cc := ⟨RdG.keep h.rs f, RdG.keep h.rc f, h.sn, h.sm, h.cn, h.cm⟩
theorem DAt.keep {w w1 : World} {p : Nat} {d : Dk} {sa : Option Addr} {sc : Nat} {ca : Option Addr} {cc : Nat} (h : DAt w p d sa sc ca cc) (f : Fr0 w w1) : DAt w1 p d sa sc ca cc := ⟨f.keep h.blk (fun h => h), h.v.keep f⟩
theorem DIn.keep {w w1 : World} {p : Nat} {d : Dk} (h : DIn w p d) (f : Fr0 w w1) : DIn w1 p d := by
  obtain ⟨sa, sc, ca, cc, h⟩ := h
  exact ⟨sa, sc, ca, cc, h.keep f⟩
/-- a disk's variable is no place of sectors, nor of writes -/
theorem RdS.apart {w : World} {a : Addr} {l : List Sec} {p : Nat} {cs : Array Value} (h : RdS w (some a) l) (hl : l ≠ []) (hok : ∀ x ∈ l, x.ok) (hb : Bk w p cs 39) (hn : ∀ (j : Nat) (x : Value), cs[j]? = some x → ∀ v : UInt8, x ≠ B v) : a.block ≠ p := by
  rintro rfl
  have h0 : 0 < l.length := List.length_pos_iff.2 hl
  obtain ⟨b, o, e0, -, hr⟩ := RdG.form h h0 Sec.pos
  obtain rfl := Option.some.inj e0
  have hk := hok _ (List.getElem_mem h0)
  have h1 : l[0].data.length = 128 := hk
  have e := hr 0 h0 0 (B (l[0].data[0]'(by omega))) (by rw [Sec.data_at hk (by omega), List.getElem?_map, List.getElem?_eq_getElem (by omega)]; rfl)
  rw [Bk.cell hb] at e
  exact hn _ _ e _ rfl
theorem RdC.apart {w : World} {a : Addr} {l : List Wri} {p : Nat} {cs : Array Value} (h : RdC w (some a) l) (hl : l ≠ []) (hok : ∀ x ∈ l, x.ok) (hb : Bk w p cs 39) (hn : ∀ (j : Nat) (x : Value), cs[j]? = some x → ∀ v : UInt8, x ≠ B v) : a.block ≠ p := by
  rintro rfl
  have h0 : 0 < l.length := List.length_pos_iff.2 hl
  obtain ⟨b, o, e0, -, hr⟩ := RdG.form h h0 Wri.ps
  obtain rfl := Option.some.inj e0
  have h1 := (hok _ (List.getElem_mem h0)).len
  have e := hr 0 h0 1 (B (l[0].data[0]'(by omega))) (by rw [Wri.data_at, List.getElem?_map, List.getElem?_eq_getElem (by omega)]; rfl)
  rw [Bk.cell hb] at e
  exact hn _ _ e _ rfl
theorem dc_no (sv cv : Value) (f : Int) (dn : Bool) (hs : ∀ v, sv ≠ B v) (hc : ∀ v, cv ≠ B v) : ∀ (j : Nat) (x : Value), (DC sv cv f dn)[j]? = some x → ∀ v : UInt8, x ≠ B v := by
  intro j x hj v
  rcases (show j = 0 ∨ j = 1 ∨ j = 2 ∨ j = 3 ∨ 4 ≤ j by omega) with rfl | rfl | rfl | rfl | h4
  · rw [← Option.some.inj hj]; exact hs v
  · rw [← Option.some.inj hj]; exact hc v
  · rw [← Option.some.inj hj]; simp [B]
  · rw [← Option.some.inj hj]; simp [B]
  · rw [Array.getElem?_eq_none (by simpa using h4)] at hj; cases hj
theorem dval_no (d : Dk) (sa : Option Addr) (sc : Nat) (ca : Option Addr) (cc : Nat) : ∀ (j : Nat) (x : Value), (dval d sa sc ca cc)[j]? = some x → ∀ v : UInt8, x ≠ B v := dc_no _ _ _ _ (by simp [B]) (by simp [B])
/-- what holds of a disk's slices holds when a disk's variable alone is changed -/
theorem DV.past {w w1 : World} {d : Dk} {sa : Option Addr} {sc : Nat} {ca : Option Addr} {cc : Nat} (h : DV w d sa sc ca cc) (hok : d.ok) {p : Nat} {cs : Array Value} (f : Fr (fun i => i = p) w w1) (hb : Bk w p cs 39) (hn : ∀ (j : Nat) (x : Value), cs[j]? = some x → ∀ v : UInt8, x ≠ B v) : DV w1 d sa sc ca cc :=
  ⟨RdG.later h.rs f (fun a e hl => by subst e; exact RdS.apart h.rs hl hok.s hb hn), RdG.later h.rc f (fun a e hl => by subst e; exact RdC.apart h.rc hl hok.c hb hn), h.sn, h.sm, h.cn, h.cm⟩
theorem DAt.past {w w1 : World} {q : Nat} {d : Dk} {sa : Option Addr} {sc : Nat} {ca : Option Addr} {cc : Nat} (h : DAt w q d sa sc ca cc) (hok : d.ok) {p : Nat} {cs : Array Value} (f : Fr (fun i => i = p) w w1) (hb : Bk w p cs 39) (hn : ∀ (j : Nat) (x : Value), cs[j]? = some x → ∀ v : UInt8, x ≠ B v) (hne : q ≠ p) : DAt w1 q d sa sc ca cc :=
  ⟨f.keep h.blk hne, h.v.past hok f hb hn⟩
theorem DIn.past {w w1 : World} {p q : Nat} {d d' : Dk} (h : DIn w q d) (hok : d.ok) (h' : DIn w p d') (f : Fr (fun i => i = p) w w1) (hne : q ≠ p) : DIn w1 q d := by
  obtain ⟨sa, sc, ca, cc, h⟩ := h
  obtain ⟨sa', sc', ca', cc', h'⟩ := h'
  exact ⟨sa, sc, ca, cc, h.past hok f h'.blk (dval_no _ _ _ _ _) hne⟩
theorem info_d : (Tryd.prog.info? 39).map (·.size) = some 4 := by kernel_rfl
theorem info_s : (Tryd.prog.info? 59).map (·.size) = some 130 := by kernel_rfl
theorem info_w : (Tryd.prog.info? 79).map (·.size) = some 129 := by kernel_rfl
theorem info_b : (Tryd.prog.info? 27).map (·.size) = some 128 := by kernel_rfl
theorem cells_s : Tryd.prog.cellsOf 59 = 130 := by kernel_rfl
theorem cells_w : Tryd.prog.cellsOf 79 = 129 := by kernel_rfl
theorem dval_one (d : Dk) (sa : Option Addr) (sc : Nat) (ca : Option Addr) (cc : Nat) : (dval d sa sc ca cc).all (·.oneCell') = true := by simp [dval, Value.oneCell']
def thereB (n : Nat) (at_ : Int) : Bool := decide (0 ≤ at_ ∧ at_ < n)
def allThere (n : Nat) (l : List Wri) : Bool := l.all fun x => thereB n x.pos
def formedB (d : Dk) : Bool := allThere d.S.length d.C && decide (1 ≤ d.S.length ∧ d.S.length ≤ 4096)
def rightB (d : Dk) (at_ : Int) : Bool := thereB d.S.length at_ && formedB d
theorem thereB_true {n : Nat} {a : Int} : thereB n a = true ↔ 0 ≤ a ∧ a < n := by simp [thereB]
theorem thereB_false {n : Nat} {a : Int} : thereB n a = false ↔ ¬ (0 ≤ a ∧ a < n) := by simp [thereB]
/-- a block of zeros -/
def Z128 : List UInt8 := List.replicate 128 0
def Zs : Sec := ⟨Z128, false, false⟩
theorem Zs_ok : Zs.ok := by simp [Sec.ok, Zs, Z128]
/-- the last write at a sector -/
def lastAt (l : List Wri) (at_ : Int) : Option (List UInt8) := l.foldl (fun r x => if x.pos = at_ then some x.data else r) none
def secAt (d : Dk) (at_ : Int) : Sec := d.S.getD at_.toNat Zs
/-- what reads -/
def readX (d : Dk) (at_ : Int) : List UInt8 × Int :=
  if rightB d at_ = false then (Z128, 1) else if d.down then (Z128, 3) else
  match lastAt d.C at_ with
  | some b => (b, 0)
  | none => if (secAt d at_).nr then (Z128, 2) else ((secAt d at_).data, 0)
/-- an act -/
def actE (d : Dk) : Int := if d.down = true ∨ d.fuse = 0 then 3 else 0
def actD (d : Dk) : Dk := if d.down = true then d else if d.fuse = 0 then { d with down := true } else if 0 < d.fuse then { d with fuse := d.fuse - 1 } else d
/-- a write -/
def writeE (d : Dk) (at_ : Int) : Int := if rightB d at_ = false then 1 else if actE d = 3 then 3 else if (secAt d at_).nw then 2 else 0
def writeD (d : Dk) (at_ : Int) (b : List UInt8) : Dk := if rightB d at_ = false then d else if actE d = 3 then actD d else if (secAt d at_).nw then actD d else { actD d with C := d.C ++ [⟨at_, b⟩] }
/-- the kept writes last -/
def laid (S : List Sec) (C : List Wri) (keep : Nat → Bool) : Nat → List Sec
  | 0 => S
  | k + 1 => let l := laid S C keep k
    match C[k]? with
    | some x => if keep k then l.set x.pos.toNat { l.getD x.pos.toNat Zs with data := x.data, nr := false } else l
    | none => l
def layD (d : Dk) (keep : Nat → Bool) : Dk := { d with S := laid d.S d.C keep d.C.length, C := [] }
def flushE (d : Dk) : Int := if rightB d 0 = false then 1 else actE d
def flushD (d : Dk) : Dk := if rightB d 0 = false then d else if actE d = 3 then actD d else layD (actD d) (fun _ => true)
def crashE (d : Dk) : Int := if rightB d 0 = false then 1 else 0
def crashD (d : Dk) (keep : List Bool) : Dk := if rightB d 0 = false then d else { layD d (fun i => keep.getD i false) with fuse := -1, down := false }
def armE (d : Dk) (n : Int) : Int := if rightB d 0 = false ∨ n < -1 then 1 else 0
def armD (d : Dk) (n : Int) : Dk := if rightB d 0 = false ∨ n < -1 then d else { d with fuse := n }
theorem right0 (d : Dk) : rightB d 0 = formedB d := by
  unfold rightB formedB thereB
  by_cases h : 1 ≤ d.S.length
  · rw [decide_eq_true (by omega : (0 : Int) ≤ 0 ∧ (0 : Int) < d.S.length), Bool.true_and]
  · rw [decide_eq_false (by omega : ¬ ((0 : Int) ≤ 0 ∧ (0 : Int) < d.S.length)), Bool.false_and, decide_eq_false (by omega : ¬ (1 ≤ d.S.length ∧ d.S.length ≤ 4096)), Bool.and_false]

end Go.Proofs.YtlleandelcjhjaaDoor.DiskKit
namespace Go.Proofs.YtlleandelcjhjaaDoor.DiskAsk
open Go Go.RowKit Go.Proofs.YtlleandelcjhjaaDoor.K Go.Proofs.YtlleandelcjhjaaDoor.EqKit Go.Proofs.YtlleandelcjhjaaDoor.ArrKit Go.Proofs.YtlleandelcjhjaaDoor.HeldKit Go.Proofs.YtlleandelcjhjaaDoor.GKit Go.Proofs.YtlleandelcjhjaaDoor.GRow Go.Proofs.YtlleandelcjhjaaDoor.DiskKit
theorem all_take {n : Nat} {l : List Wri} {k : Nat} (h : k < l.length) : allThere n (l.take (k + 1)) = (allThere n (l.take k) && thereB n l[k].pos) := by
  rw [List.take_succ_eq_append_getElem h, allThere, List.all_append]; simp [allThere]
theorem all_false {n : Nat} {l : List Wri} {k : Nat} (h : k < l.length) (h2 : thereB n l[k].pos = false) : allThere n l = false := by
  rw [allThere, List.all_eq_false]
  exact ⟨l[k], List.getElem_mem h, by simp [h2]⟩
theorem formed_no {d : Dk} (h : ¬ (1 ≤ d.S.length ∧ d.S.length ≤ 4096)) : formedB d = false := by
  rw [formedB, decide_eq_false h, Bool.and_false]
end Go.Proofs.YtlleandelcjhjaaDoor.DiskAsk
namespace Go.Proofs.YtlleandelcjhjaaDoor.DiskForm
open Go Go.RowKit Go.Proofs.YtlleandelcjhjaaDoor.K Go.Proofs.YtlleandelcjhjaaDoor.EqKit Go.Proofs.YtlleandelcjhjaaDoor.ArrKit Go.Proofs.YtlleandelcjhjaaDoor.HeldKit Go.Proofs.YtlleandelcjhjaaDoor.GKit Go.Proofs.YtlleandelcjhjaaDoor.GRow Go.Proofs.YtlleandelcjhjaaDoor.DiskKit Go.Proofs.YtlleandelcjhjaaDoor.DiskAsk
set_option maxHeartbeats 2000000 in
set_option maxRecDepth 100000 in
theorem clo_neg (x : Wri) (n g : Nat) (w : World) (hx : x.ok) (hg : w.cell? ⟨g, 0, none⟩ = some (.int .i64 n)) (h : x.pos < 0) : Calls Tryd.prog 88 #[.agg x.cells.toArray, .pointer (some ⟨g, 0, none⟩)] w fun e w' => e = .returned (.bool true) ∧ Fr0 w w' := by
  have hgw := World.block_lt_of_cell? w _ hg
  have hF : Fr0 w (w.alloc (.cells x.cells.toArray 79)) := Fr.alloc (Fr.refl _ _) _
  have q0 : (w.alloc (.cells x.cells.toArray 79)).cell? ⟨w.heap.size, 0, none⟩ = some (.int .i64 x.pos) := (Bk.cell (Bk.new w _) 0).trans (by simp [Wri.cells])
  have q1 : (w.alloc (.cells x.cells.toArray 79)).cell? ⟨g, 0, none⟩ = some (.int .i64 n) := (hF.cell g 0 hgw (fun h => h)).trans hg
  have HF := Lib.hid hF
  clear hF hg
  have c0 : decide (x.pos < 0) = true := decide_eq_true h
  generalize x.cells.toArray = X at *
  go_enter Tryd.func88, Tryd.ntmps88
  go_wp2
  go_ret
  exact ⟨rfl, HF.out⟩

set_option maxHeartbeats 2000000 in
set_option maxRecDepth 100000 in
theorem clo_in (x : Wri) (n g : Nat) (w : World) (hx : x.ok) (hg : w.cell? ⟨g, 0, none⟩ = some (.int .i64 n)) (h : 0 ≤ x.pos ∧ x.pos < n) : Calls Tryd.prog 88 #[.agg x.cells.toArray, .pointer (some ⟨g, 0, none⟩)] w fun e w' => e = .returned (.bool false) ∧ Fr0 w w' := by
  have hgw := World.block_lt_of_cell? w _ hg
  have hF : Fr0 w (w.alloc (.cells x.cells.toArray 79)) := Fr.alloc (Fr.refl _ _) _
  have q0 : (w.alloc (.cells x.cells.toArray 79)).cell? ⟨w.heap.size, 0, none⟩ = some (.int .i64 x.pos) := (Bk.cell (Bk.new w _) 0).trans (by simp [Wri.cells])
  have q1 : (w.alloc (.cells x.cells.toArray 79)).cell? ⟨g, 0, none⟩ = some (.int .i64 n) := (hF.cell g 0 hgw (fun h => h)).trans hg
  have HF := Lib.hid hF
  clear hF hg
  have c0 : decide (x.pos < 0) = false := decide_eq_false (by omega)
  have c1 : decide ((n : Int) ≤ x.pos) = false := decide_eq_false (by omega)
  generalize x.cells.toArray = X at *
  go_enter Tryd.func88, Tryd.ntmps88
  go_wp2
  go_ret
  exact ⟨rfl, HF.out⟩

set_option maxHeartbeats 2000000 in
set_option maxRecDepth 100000 in
theorem clo_out (x : Wri) (n g : Nat) (w : World) (hx : x.ok) (hg : w.cell? ⟨g, 0, none⟩ = some (.int .i64 n)) (h : 0 ≤ x.pos ∧ n ≤ x.pos) : Calls Tryd.prog 88 #[.agg x.cells.toArray, .pointer (some ⟨g, 0, none⟩)] w fun e w' => e = .returned (.bool true) ∧ Fr0 w w' := by
  have hgw := World.block_lt_of_cell? w _ hg
  have hF : Fr0 w (w.alloc (.cells x.cells.toArray 79)) := Fr.alloc (Fr.refl _ _) _
  have q0 : (w.alloc (.cells x.cells.toArray 79)).cell? ⟨w.heap.size, 0, none⟩ = some (.int .i64 x.pos) := (Bk.cell (Bk.new w _) 0).trans (by simp [Wri.cells])
  have q1 : (w.alloc (.cells x.cells.toArray 79)).cell? ⟨g, 0, none⟩ = some (.int .i64 n) := (hF.cell g 0 hgw (fun h => h)).trans hg
  have HF := Lib.hid hF
  clear hF hg
  have c0 : decide (x.pos < 0) = false := decide_eq_false (by omega)
  have c1 : decide ((n : Int) ≤ x.pos) = true := decide_eq_true (by omega)
  generalize x.cells.toArray = X at *
  go_enter Tryd.func88, Tryd.ntmps88
  go_wp2
  go_ret
  exact ⟨rfl, HF.out⟩

theorem clo_calls (x : Wri) (n g : Nat) (w : World) (hx : x.ok) (hg : w.cell? ⟨g, 0, none⟩ = some (.int .i64 n)) : Calls Tryd.prog 88 #[.agg x.cells.toArray, .pointer (some ⟨g, 0, none⟩)] w fun e w' => e = .returned (.bool (!thereB n x.pos)) ∧ Fr0 w w' := by
  by_cases h0 : x.pos < 0
  · rw [thereB_false.2 (by omega)]; exact clo_neg x n g w hx hg h0
  · by_cases h1 : x.pos < n
    · rw [thereB_true.2 ⟨by omega, h1⟩]; exact clo_in x n g w hx hg ⟨by omega, h1⟩
    · rw [thereB_false.2 (by omega)]; exact clo_out x n g w hx hg ⟨by omega, by omega⟩
/-- the index of the first write that isn't there, or -1 -/
def NoIx (n : Nat) (l : List Wri) (r : Int) : Prop := if allThere n l = true then r = -1 else 0 ≤ r
set_option maxHeartbeats 2000000 in
set_option maxRecDepth 100000 in
theorem ixf_calls (n g : Nat) (l : List Wri) (ca : Option Addr) (cc : Nat) (w : World) (hrc : RdC w ca l) (hok : ∀ x ∈ l, x.ok) (hcn : l.length ≤ cc) (hcm : cc ≤ 9223372036854775807) (hg : w.cell? ⟨g, 0, none⟩ = some (.int .i64 n)) :
    Calls Tryd.prog 93 #[.slice ca l.length cc, .func (.func 88) #[] #[.pointer (some ⟨g, 0, none⟩)]] w fun e w' => (∃ r : Int, e = .returned (.int .i64 r) ∧ NoIx n l r) ∧ Fr0 w w' := by
  have hgw := World.block_lt_of_cell? w _ hg
  have HRC := Lib.hid hrc
  have HOK := Lib.hid hok
  have HG := Lib.hid hg
  clear hrc hok hg
  go_enter Tryd.func93, Tryd.ntmps93
  go_wp2
  go_loopw [8] (fun i wr => ∃ k : Nat, k ≤ l.length ∧ i = .int .i64 k ∧ allThere n (l.take k) = true ∧ Fr0 w wr) (fun i _ => l.length - (intOf i).toNat)
  case atStart => exact ⟨0, Nat.zero_le _, rfl, by simp [allThere], Fr.refl _ _⟩
  case round =>
    obtain ⟨k, hk, rfl, hall, hF⟩ := hrel
    have HALL := Lib.hid hall
    have HFR := Lib.hid hF
    clear hall hF
    by_cases hlt : k < l.length
    · obtain ⟨b, o, rfl, hrg⟩ := (RdG.keep HRC.out HFR.out) k hlt
      have HRG := Lib.hid hrg
      have HX := Lib.hid (HOK.out _ (List.getElem_mem hlt))
      have HIX : Hid ((Tryd.prog.info? 79).map (·.size) = some l[k].cells.length) := Lib.hid (by rw [Wri.leng HX.out, info_w])
      have HCL := Lib.hid (clo_calls l[k] n g wr HX.out ((HFR.out.cell g 0 hgw (fun h => h)).trans HG.out))
      clear hrg
      cases ht : thereB n l[k].pos with
      | true =>
        have HT := Lib.hid ht
        rw [ht] at HCL
        clear ht
        go_wp2_with (first | ((with_reducible show wpList _ _ _ ({ dst := _, op := Op.load 79 _, type := _, pos := _, after := _, guard := _ } :: _) _ _); refine wpList_load_mid rfl 79 _ rfl b (o + k * 129) rfl l[k].cells _ HRG.out Tryd.underlying79 rfl HIX.out ?_) | (go_at_call 88; (with_reducible refine HCL.out.mono ?_); rintro e w2 ⟨rfl, hf2⟩; have HF2 := Lib.hid (HFR.out.then0 hf2); clear hf2))
        go_roundw
        case rel => exact ⟨k + 1, by omega, by go_num, by rw [all_take hlt, HALL.out, HT.out]; rfl, HF2.out⟩
        case measure => simp [intOf]; omega
      | false =>
        have HT := Lib.hid ht
        rw [ht] at HCL
        clear ht
        go_wp2_with (first | ((with_reducible show wpList _ _ _ ({ dst := _, op := Op.load 79 _, type := _, pos := _, after := _, guard := _ } :: _) _ _); refine wpList_load_mid rfl 79 _ rfl b (o + k * 129) rfl l[k].cells _ HRG.out Tryd.underlying79 rfl HIX.out ?_) | (go_at_call 88; (with_reducible refine HCL.out.mono ?_); rintro e w2 ⟨rfl, hf2⟩; have HF2 := Lib.hid (HFR.out.then0 hf2); clear hf2))
        go_ret
        refine ⟨⟨k, rfl, ?_⟩, HF2.out⟩
        rw [NoIx, all_false hlt HT.out, if_neg (by simp)]
        omega
    · obtain rfl : k = l.length := by omega
      clear hlt
      go_wp2
      go_ret
      refine ⟨⟨-1, rfl, ?_⟩, HFR.out⟩
      have := HALL.out
      rw [List.take_length] at this
      rw [NoIx, if_pos this]
set_option maxHeartbeats 2000000 in
set_option maxRecDepth 100000 in
theorem cf_calls (n g : Nat) (l : List Wri) (ca : Option Addr) (cc : Nat) (w : World) (hrc : RdC w ca l) (hok : ∀ x ∈ l, x.ok) (hcn : l.length ≤ cc) (hcm : cc ≤ 9223372036854775807) (hg : w.cell? ⟨g, 0, none⟩ = some (.int .i64 n)) :
    Calls Tryd.prog 87 #[.slice ca l.length cc, .func (.func 88) #[] #[.pointer (some ⟨g, 0, none⟩)]] w fun e w' => e = .returned (.bool (!allThere n l)) ∧ Fr0 w w' := by
  have HC := Lib.hid (ixf_calls n g l ca cc w hrc hok hcn hcm hg)
  clear hrc hok hg
  go_enter Tryd.func87, Tryd.ntmps87
  go_wp2_with (go_at_call 93; (with_reducible refine HC.out.mono ?_); rintro e w2 ⟨⟨r, rfl, hr⟩, hf2⟩; have HF2 := Lib.hid hf2; have HR := Lib.hid hr; clear hf2 hr)
  go_ret
  refine ⟨?_, HF2.out⟩
  have := HR.out
  unfold NoIx at this
  cases h : allThere n l with
  | true =>
    rw [h, if_pos rfl] at this
    subst this; rfl
  | false =>
    rw [h, if_neg (by simp)] at this
    exact congrArg (fun b => Ending.returned (.bool b)) (decide_eq_true this)

set_option maxHeartbeats 2000000 in
set_option maxRecDepth 100000 in
theorem formed_small (d : Dk) (sa : Option Addr) (sc : Nat) (ca : Option Addr) (cc : Nat) (w : World) (hok : d.ok) (hv : DV w d sa sc ca cc) (h : d.S.length = 0) : Calls Tryd.prog 80 #[.agg (dval d sa sc ca cc)] w fun e w' => e = .returned (.bool false) ∧ Fr0 w w' := by
  have c0 : decide (0 < d.S.length) = false := decide_eq_false (by omega)
  have hm := hv.sm
  have hsn := hv.sn
  have hs1 : (w.alloc (.cells (dval d sa sc ca cc) 39)).heap.size = w.heap.size + 1 := by simp
  have HF : Hid (Fr0 w ((w.alloc (.cells (dval d sa sc ca cc) 39)).alloc (.cells #[.int .i64 d.S.length] 3))) := Lib.hid (Fr.alloc (Fr.alloc (Fr.refl _ _) _) _)
  have HC := Lib.hid (cf_calls d.S.length (w.heap.size + 1) d.C ca cc ((w.alloc (.cells (dval d sa sc ca cc) 39)).alloc (.cells #[.int .i64 d.S.length] 3)) (RdG.keep hv.rc HF.out) hok.c hv.cn hv.cm (by have := Bk.new (w.alloc (.cells (dval d sa sc ca cc) 39)) (.cells #[.int .i64 d.S.length] 3); rw [hs1] at this; exact (Bk.cell this 0)))
  have hmf : ∀ (fn : Fn) (first cap : Array Value) (W : World), (Instr.makeFunc fn first cap).run Tryd.prog W = .ok (.func fn first cap) W := fun _ _ _ _ => rfl
  clear hv hok hs1 h
  obtain ⟨SS, CC, ff, dd⟩ := d
  dsimp only [dval] at *
  go_enter Tryd.func80, Tryd.ntmps80
  go_wp2_with (go_at_call 87; (with_reducible refine HC.out.mono ?_); rintro e w2 ⟨rfl, hf2⟩; have HF2 := Lib.hid (HF.out.then0 hf2); clear hf2)
  go_ret
  exact ⟨rfl, HF.out⟩

set_option maxHeartbeats 2000000 in
set_option maxRecDepth 100000 in
theorem formed_large (d : Dk) (sa : Option Addr) (sc : Nat) (ca : Option Addr) (cc : Nat) (w : World) (hok : d.ok) (hv : DV w d sa sc ca cc) (h : 4096 < d.S.length) : Calls Tryd.prog 80 #[.agg (dval d sa sc ca cc)] w fun e w' => e = .returned (.bool false) ∧ Fr0 w w' := by
  have c0 : decide (0 < d.S.length) = true := decide_eq_true (by omega)
  have c1 : decide ((d.S.length : Int) ≤ 4096) = false := decide_eq_false (by omega)
  have hm := hv.sm
  have hsn := hv.sn
  have hs1 : (w.alloc (.cells (dval d sa sc ca cc) 39)).heap.size = w.heap.size + 1 := by simp
  have HF : Hid (Fr0 w ((w.alloc (.cells (dval d sa sc ca cc) 39)).alloc (.cells #[.int .i64 d.S.length] 3))) := Lib.hid (Fr.alloc (Fr.alloc (Fr.refl _ _) _) _)
  have HC := Lib.hid (cf_calls d.S.length (w.heap.size + 1) d.C ca cc ((w.alloc (.cells (dval d sa sc ca cc) 39)).alloc (.cells #[.int .i64 d.S.length] 3)) (RdG.keep hv.rc HF.out) hok.c hv.cn hv.cm (by have := Bk.new (w.alloc (.cells (dval d sa sc ca cc) 39)) (.cells #[.int .i64 d.S.length] 3); rw [hs1] at this; exact (Bk.cell this 0)))
  have hmf : ∀ (fn : Fn) (first cap : Array Value) (W : World), (Instr.makeFunc fn first cap).run Tryd.prog W = .ok (.func fn first cap) W := fun _ _ _ _ => rfl
  clear hv hok hs1 h
  obtain ⟨SS, CC, ff, dd⟩ := d
  dsimp only [dval] at *
  go_enter Tryd.func80, Tryd.ntmps80
  go_wp2_with (go_at_call 87; (with_reducible refine HC.out.mono ?_); rintro e w2 ⟨rfl, hf2⟩; have HF2 := Lib.hid (HF.out.then0 hf2); clear hf2)
  go_ret
  exact ⟨rfl, HF.out⟩

set_option maxHeartbeats 2000000 in
set_option maxRecDepth 100000 in
theorem formed_mid (d : Dk) (sa : Option Addr) (sc : Nat) (ca : Option Addr) (cc : Nat) (w : World) (hok : d.ok) (hv : DV w d sa sc ca cc) (h : 1 ≤ d.S.length ∧ d.S.length ≤ 4096) : Calls Tryd.prog 80 #[.agg (dval d sa sc ca cc)] w fun e w' => e = .returned (.bool (allThere d.S.length d.C)) ∧ Fr0 w w' := by
  have c0 : decide (0 < d.S.length) = true := decide_eq_true (by omega)
  have c1 : decide ((d.S.length : Int) ≤ 4096) = true := decide_eq_true (by omega)
  have hm := hv.sm
  have hsn := hv.sn
  have hs1 : (w.alloc (.cells (dval d sa sc ca cc) 39)).heap.size = w.heap.size + 1 := by simp
  have HF : Hid (Fr0 w ((w.alloc (.cells (dval d sa sc ca cc) 39)).alloc (.cells #[.int .i64 d.S.length] 3))) := Lib.hid (Fr.alloc (Fr.alloc (Fr.refl _ _) _) _)
  have HC := Lib.hid (cf_calls d.S.length (w.heap.size + 1) d.C ca cc ((w.alloc (.cells (dval d sa sc ca cc) 39)).alloc (.cells #[.int .i64 d.S.length] 3)) (RdG.keep hv.rc HF.out) hok.c hv.cn hv.cm (by have := Bk.new (w.alloc (.cells (dval d sa sc ca cc) 39)) (.cells #[.int .i64 d.S.length] 3); rw [hs1] at this; exact (Bk.cell this 0)))
  have hmf : ∀ (fn : Fn) (first cap : Array Value) (W : World), (Instr.makeFunc fn first cap).run Tryd.prog W = .ok (.func fn first cap) W := fun _ _ _ _ => rfl
  clear hv hok hs1 h
  obtain ⟨SS, CC, ff, dd⟩ := d
  dsimp only [dval] at *
  go_enter Tryd.func80, Tryd.ntmps80
  go_wp2_with (go_at_call 87; (with_reducible refine HC.out.mono ?_); rintro e w2 ⟨rfl, hf2⟩; have HF2 := Lib.hid (HF.out.then0 hf2); clear hf2)
  go_ret
  exact ⟨rfl, HF2.out⟩

theorem formed_calls (d : Dk) (sa : Option Addr) (sc : Nat) (ca : Option Addr) (cc : Nat) (w : World) (hok : d.ok) (hv : DV w d sa sc ca cc) : Calls Tryd.prog 80 #[.agg (dval d sa sc ca cc)] w fun e w' => e = .returned (.bool (formedB d)) ∧ Fr0 w w' := by
  by_cases h0 : d.S.length = 0
  · rw [formed_no (by omega)]; exact formed_small d sa sc ca cc w hok hv h0
  · by_cases h1 : d.S.length ≤ 4096
    · have := formed_mid d sa sc ca cc w hok hv ⟨by omega, h1⟩
      rw [show formedB d = allThere d.S.length d.C by rw [formedB, decide_eq_true (by omega : 1 ≤ d.S.length ∧ d.S.length ≤ 4096), Bool.and_true]]
      exact this
    · rw [formed_no (by omega)]; exact formed_large d sa sc ca cc w hok hv (by omega)

set_option maxHeartbeats 2000000 in
set_option maxRecDepth 100000 in
theorem right_neg (p : Nat) (a : Int) (d : Dk) (sa : Option Addr) (sc : Nat) (ca : Option Addr) (cc : Nat) (w : World) (hok : d.ok) (hv : DAt w p d sa sc ca cc) (h : a < 0) : Calls Tryd.prog 58 #[.pointer (some ⟨p, 0, none⟩), .int .i64 a] w fun e w' => e = .returned (.bool false) ∧ Fr0 w w' := by
  have c0 : decide (0 ≤ a) = false := decide_eq_false (by omega)
  have hm := hv.v.sm
  have hsn := hv.v.sn
  have HC := Lib.hid (formed_calls d sa sc ca cc w hok hv.v)
  have HB := Lib.hid hv.blk
  clear hv hok h
  obtain ⟨SS, CC, ff, dd⟩ := d
  dsimp only [dval] at *
  have q0 : w.cell? ⟨p, 0, none⟩ = some (.slice sa SS.length sc) := Bk.cell HB.out 0
  generalize formedB _ = FB at *
  go_enter Tryd.func58, Tryd.ntmps58
  go_wp2_with (first | ((with_reducible show wpList _ _ _ ({ dst := _, op := Op.load 39 _, type := _, pos := _, after := _, guard := _ } :: _) _ _); refine wpList_load_row_g (by rfl) 39 _ rfl p rfl 39 _ (0, 0) _ HB.out Tryd.underlying39 rfl info_d ?_) | (go_at_call 80; (with_reducible refine HC.out.mono ?_); rintro e w2 ⟨rfl, hf2⟩; have HF2 := Lib.hid hf2; clear hf2))
  go_ret
  exact ⟨rfl, Fr.refl _ _⟩

set_option maxHeartbeats 2000000 in
set_option maxRecDepth 100000 in
theorem right_out (p : Nat) (a : Int) (d : Dk) (sa : Option Addr) (sc : Nat) (ca : Option Addr) (cc : Nat) (w : World) (hok : d.ok) (hv : DAt w p d sa sc ca cc) (h : 0 ≤ a ∧ (d.S.length : Int) ≤ a) : Calls Tryd.prog 58 #[.pointer (some ⟨p, 0, none⟩), .int .i64 a] w fun e w' => e = .returned (.bool false) ∧ Fr0 w w' := by
  have c0 : decide (0 ≤ a) = true := decide_eq_true h.1
  have c1 : decide (a < (d.S.length : Int)) = false := decide_eq_false (by omega)
  have hm := hv.v.sm
  have hsn := hv.v.sn
  have HC := Lib.hid (formed_calls d sa sc ca cc w hok hv.v)
  have HB := Lib.hid hv.blk
  clear hv hok h
  obtain ⟨SS, CC, ff, dd⟩ := d
  dsimp only [dval] at *
  have q0 : w.cell? ⟨p, 0, none⟩ = some (.slice sa SS.length sc) := Bk.cell HB.out 0
  generalize formedB _ = FB at *
  go_enter Tryd.func58, Tryd.ntmps58
  go_wp2_with (first | ((with_reducible show wpList _ _ _ ({ dst := _, op := Op.load 39 _, type := _, pos := _, after := _, guard := _ } :: _) _ _); refine wpList_load_row_g (by rfl) 39 _ rfl p rfl 39 _ (0, 0) _ HB.out Tryd.underlying39 rfl info_d ?_) | (go_at_call 80; (with_reducible refine HC.out.mono ?_); rintro e w2 ⟨rfl, hf2⟩; have HF2 := Lib.hid hf2; clear hf2))
  go_ret
  exact ⟨rfl, Fr.refl _ _⟩

set_option maxHeartbeats 2000000 in
set_option maxRecDepth 100000 in
theorem right_in (p : Nat) (a : Int) (d : Dk) (sa : Option Addr) (sc : Nat) (ca : Option Addr) (cc : Nat) (w : World) (hok : d.ok) (hv : DAt w p d sa sc ca cc) (h : 0 ≤ a ∧ a < d.S.length) : Calls Tryd.prog 58 #[.pointer (some ⟨p, 0, none⟩), .int .i64 a] w fun e w' => e = .returned (.bool (formedB d)) ∧ Fr0 w w' := by
  have c0 : decide (0 ≤ a) = true := decide_eq_true h.1
  have c1 : decide (a < (d.S.length : Int)) = true := decide_eq_true h.2
  have hm := hv.v.sm
  have hsn := hv.v.sn
  have HC := Lib.hid (formed_calls d sa sc ca cc w hok hv.v)
  have HB := Lib.hid hv.blk
  clear hv hok h
  obtain ⟨SS, CC, ff, dd⟩ := d
  dsimp only [dval] at *
  have q0 : w.cell? ⟨p, 0, none⟩ = some (.slice sa SS.length sc) := Bk.cell HB.out 0
  generalize formedB _ = FB at *
  go_enter Tryd.func58, Tryd.ntmps58
  go_wp2_with (first | ((with_reducible show wpList _ _ _ ({ dst := _, op := Op.load 39 _, type := _, pos := _, after := _, guard := _ } :: _) _ _); refine wpList_load_row_g (by rfl) 39 _ rfl p rfl 39 _ (0, 0) _ HB.out Tryd.underlying39 rfl info_d ?_) | (go_at_call 80; (with_reducible refine HC.out.mono ?_); rintro e w2 ⟨rfl, hf2⟩; have HF2 := Lib.hid hf2; clear hf2))
  go_ret
  exact ⟨rfl, HF2.out⟩

/-- RIGHT: what disk.right answers. -/
theorem right_calls (p : Nat) (a : Int) (d : Dk) (sa : Option Addr) (sc : Nat) (ca : Option Addr) (cc : Nat) (w : World) (hok : d.ok) (hv : DAt w p d sa sc ca cc) : Calls Tryd.prog 58 #[.pointer (some ⟨p, 0, none⟩), .int .i64 a] w fun e w' => e = .returned (.bool (rightB d a)) ∧ Fr0 w w' := by
  unfold rightB
  by_cases h0 : 0 ≤ a
  · by_cases h1 : a < d.S.length
    · rw [thereB_true.2 ⟨h0, h1⟩, Bool.true_and]; exact right_in p a d sa sc ca cc w hok hv ⟨h0, h1⟩
    · rw [thereB_false.2 (by omega), Bool.false_and]; exact right_out p a d sa sc ca cc w hok hv ⟨h0, by omega⟩
  · rw [thereB_false.2 (by omega), Bool.false_and]; exact right_neg p a d sa sc ca cc w hok hv (by omega)

end Go.Proofs.YtlleandelcjhjaaDoor.DiskForm
namespace Go.Proofs.YtlleandelcjhjaaDoor.DiskAct
open Go Go.RowKit Go.Proofs.YtlleandelcjhjaaDoor.K Go.Proofs.YtlleandelcjhjaaDoor.EqKit Go.Proofs.YtlleandelcjhjaaDoor.ArrKit Go.Proofs.YtlleandelcjhjaaDoor.HeldKit Go.Proofs.YtlleandelcjhjaaDoor.GKit Go.Proofs.YtlleandelcjhjaaDoor.GRow Go.Proofs.YtlleandelcjhjaaDoor.DiskKit Go.Proofs.YtlleandelcjhjaaDoor.DiskAsk Go.Proofs.YtlleandelcjhjaaDoor.DiskForm
theorem DAt.setF {w : World} {p : Nat} {d : Dk} {sa : Option Addr} {sc : Nat} {ca : Option Addr} {cc : Nat} (h : DAt w p d sa sc ca cc) (hok : d.ok) (f : Int) : DAt (w.setCell ⟨p, 2, none⟩ (.int .i64 f)) p { d with fuse := f } sa sc ca cc :=
  ⟨Bk.set h.blk 2 _, by
    have := h.v.past hok (Fr.set (Fr.refl (fun i => i = p) w) ⟨p, 2, none⟩ (.int .i64 f) (.inr rfl)) h.blk (dval_no _ _ _ _ _)
    exact ⟨this.rs, this.rc, this.sn, this.sm, this.cn, this.cm⟩⟩
theorem DAt.setDn {w : World} {p : Nat} {d : Dk} {sa : Option Addr} {sc : Nat} {ca : Option Addr} {cc : Nat} (h : DAt w p d sa sc ca cc) (hok : d.ok) (b : Bool) : DAt (w.setCell ⟨p, 3, none⟩ (.bool b)) p { d with down := b } sa sc ca cc :=
  ⟨Bk.set h.blk 3 _, by
    have := h.v.past hok (Fr.set (Fr.refl (fun i => i = p) w) ⟨p, 3, none⟩ (.bool b) (.inr rfl)) h.blk (dval_no _ _ _ _ _)
    exact ⟨this.rs, this.rc, this.sn, this.sm, this.cn, this.cm⟩⟩
/-- the disk in the variable p is d now, with the slices that it had; nothing else is changed -/
structure Aft (w w' : World) (p : Nat) (d : Dk) (sa : Option Addr) (sc : Nat) (ca : Option Addr) (cc : Nat) : Prop where
  at_ : DAt w' p d sa sc ca cc
  fr : Fr (fun i => i = p) w w'
/-- the disk in the variable p is d now; nothing else is changed -/
structure Now (w w' : World) (p : Nat) (d : Dk) : Prop where
  at_ : DIn w' p d
  fr : Fr (fun i => i = p) w w'
theorem Aft.now {w w' : World} {p : Nat} {d : Dk} {sa : Option Addr} {sc : Nat} {ca : Option Addr} {cc : Nat} (h : Aft w w' p d sa sc ca cc) : Now w w' p d := ⟨⟨sa, sc, ca, cc, h.at_⟩, h.fr⟩
theorem actD_ok {d : Dk} (h : d.ok) : (actD d).ok := by
  unfold actD
  have hf := h.f
  simp [Lit.wf, IntKind.min, IntKind.max, IntKind.signed, IntKind.bits] at hf
  repeat' split
  · exact h
  · exact ⟨h.s, h.c, h.f⟩
  · refine ⟨h.s, h.c, ?_⟩
    simp [Lit.wf, IntKind.min, IntKind.max, IntKind.signed, IntKind.bits]
    omega
  · exact h
theorem actD_S (d : Dk) : (actD d).S = d.S := by unfold actD; split; rfl; split; rfl; split <;> rfl
theorem actD_C (d : Dk) : (actD d).C = d.C := by unfold actD; split; rfl; split; rfl; split <;> rfl

set_option maxHeartbeats 2000000 in
set_option maxRecDepth 100000 in
theorem spend_down (p : Nat) (d : Dk) (sa : Option Addr) (sc : Nat) (ca : Option Addr) (cc : Nat) (w : World) (hok : d.ok) (hv : DAt w p d sa sc ca cc) (hd : d.down = true) : Calls Tryd.prog 73 #[.pointer (some ⟨p, 0, none⟩)] w fun e w' => e = .returned (.int .i64 3) ∧ Aft w w' p d sa sc ca cc := by
  have q2 : w.cell? ⟨p, 2, none⟩ = some (.int .i64 d.fuse) := Bk.cell hv.blk 2
  have q3 : w.cell? ⟨p, 3, none⟩ = some (.bool d.down) := Bk.cell hv.blk 3
  have f2 := Bk.free hv.blk 2
  have f3 := Bk.free hv.blk 3
  have HV := Lib.hid hv
  have HOK := Lib.hid hok
  have HDD := Lib.hid hd
  rw [hd] at q3
  clear hv hok hd
  go_enter Tryd.func73, Tryd.ntmps73
  go_wp2
  go_ret
  exact ⟨rfl, HV.out, Fr.refl _ _⟩

set_option maxHeartbeats 2000000 in
set_option maxRecDepth 100000 in
theorem spend_zero (p : Nat) (d : Dk) (sa : Option Addr) (sc : Nat) (ca : Option Addr) (cc : Nat) (w : World) (hok : d.ok) (hv : DAt w p d sa sc ca cc) (hd : d.down = false) (hf : (d.fuse == 0) = true) : Calls Tryd.prog 73 #[.pointer (some ⟨p, 0, none⟩)] w fun e w' => e = .returned (.int .i64 3) ∧ Aft w w' p { d with down := true } sa sc ca cc := by
  have q2 : w.cell? ⟨p, 2, none⟩ = some (.int .i64 d.fuse) := Bk.cell hv.blk 2
  have q3 : w.cell? ⟨p, 3, none⟩ = some (.bool d.down) := Bk.cell hv.blk 3
  have f2 := Bk.free hv.blk 2
  have f3 := Bk.free hv.blk 3
  have HV := Lib.hid hv
  have HOK := Lib.hid hok
  have HDD := Lib.hid hd
  rw [hd] at q3
  clear hv hok hd
  go_enter Tryd.func73, Tryd.ntmps73
  go_wp2
  go_ret
  exact ⟨rfl, DAt.setDn HV.out HOK.out true, Fr.set (Fr.refl _ _) _ _ (.inr rfl)⟩

set_option maxHeartbeats 2000000 in
set_option maxRecDepth 100000 in
theorem spend_pos (p : Nat) (d : Dk) (sa : Option Addr) (sc : Nat) (ca : Option Addr) (cc : Nat) (w : World) (hok : d.ok) (hv : DAt w p d sa sc ca cc) (hd : d.down = false) (hf : 0 < d.fuse) : Calls Tryd.prog 73 #[.pointer (some ⟨p, 0, none⟩)] w fun e w' => e = .returned (.int .i64 0) ∧ Aft w w' p { d with fuse := d.fuse - 1 } sa sc ca cc := by
  have c0 : (d.fuse == 0) = false := by simp; omega
  have hw := hok.f
  simp [Lit.wf, IntKind.min, IntKind.max, IntKind.signed, IntKind.bits] at hw
  obtain ⟨hw1, hw2⟩ := hw
  have q2 : w.cell? ⟨p, 2, none⟩ = some (.int .i64 d.fuse) := Bk.cell hv.blk 2
  have q3 : w.cell? ⟨p, 3, none⟩ = some (.bool d.down) := Bk.cell hv.blk 3
  have f2 := Bk.free hv.blk 2
  have f3 := Bk.free hv.blk 3
  have HV := Lib.hid hv
  have HOK := Lib.hid hok
  have HDD := Lib.hid hd
  rw [hd] at q3
  clear hv hok hd
  go_enter Tryd.func73, Tryd.ntmps73
  go_wp2
  go_ret
  exact ⟨rfl, DAt.setF HV.out HOK.out (d.fuse - 1), Fr.set (Fr.refl _ _) _ _ (.inr rfl)⟩

set_option maxHeartbeats 2000000 in
set_option maxRecDepth 100000 in
theorem spend_neg (p : Nat) (d : Dk) (sa : Option Addr) (sc : Nat) (ca : Option Addr) (cc : Nat) (w : World) (hok : d.ok) (hv : DAt w p d sa sc ca cc) (hd : d.down = false) (hf : d.fuse < 0) : Calls Tryd.prog 73 #[.pointer (some ⟨p, 0, none⟩)] w fun e w' => e = .returned (.int .i64 0) ∧ Aft w w' p d sa sc ca cc := by
  have c0 : (d.fuse == 0) = false := by simp; omega
  have c1 : decide (0 < d.fuse) = false := decide_eq_false (by omega)
  have q2 : w.cell? ⟨p, 2, none⟩ = some (.int .i64 d.fuse) := Bk.cell hv.blk 2
  have q3 : w.cell? ⟨p, 3, none⟩ = some (.bool d.down) := Bk.cell hv.blk 3
  have f2 := Bk.free hv.blk 2
  have f3 := Bk.free hv.blk 3
  have HV := Lib.hid hv
  have HOK := Lib.hid hok
  have HDD := Lib.hid hd
  rw [hd] at q3
  clear hv hok hd
  go_enter Tryd.func73, Tryd.ntmps73
  go_wp2
  go_ret
  exact ⟨rfl, HV.out, Fr.refl _ _⟩

theorem spend_calls (p : Nat) (d : Dk) (sa : Option Addr) (sc : Nat) (ca : Option Addr) (cc : Nat) (w : World) (hok : d.ok) (hv : DAt w p d sa sc ca cc) : Calls Tryd.prog 73 #[.pointer (some ⟨p, 0, none⟩)] w fun e w' => e = .returned (.int .i64 (actE d)) ∧ Aft w w' p (actD d) sa sc ca cc := by
  unfold actE actD
  cases hd : d.down with
  | true =>
    rw [if_pos (.inl rfl), if_pos rfl]
    exact spend_down p d sa sc ca cc w hok hv hd
  | false =>
    rw [if_neg (by simp : ¬ (false = true)) (t := d)]
    by_cases h0 : d.fuse = 0
    · rw [if_pos (.inr h0), if_pos h0]
      exact spend_zero p d sa sc ca cc w hok hv hd (by simp [h0])
    · rw [if_neg (by simp [h0]), if_neg h0]
      by_cases h1 : 0 < d.fuse
      · rw [if_pos h1]; have h2 := spend_pos p d sa sc ca cc w hok hv hd h1; rw [hd] at h2; exact h2
      · rw [if_neg h1]; exact spend_neg p d sa sc ca cc w hok hv hd (by omega)

theorem Aft.then0 {w w1 w2 : World} {p : Nat} {d : Dk} {sa : Option Addr} {sc : Nat} {ca : Option Addr} {cc : Nat} (f : Fr0 w w1) (h : Aft w1 w2 p d sa sc ca cc) : Aft w w2 p d sa sc ca cc := ⟨h.at_, (f.weaken (S' := fun i => i = p) (fun _ _ h => h.elim)).trans h.fr⟩
theorem Aft.same {w w1 : World} {p : Nat} {d : Dk} {sa : Option Addr} {sc : Nat} {ca : Option Addr} {cc : Nat} (h : DAt w p d sa sc ca cc) (f : Fr0 w w1) : Aft w w1 p d sa sc ca cc := ⟨h.keep f, f.weaken (fun _ _ h => h.elim)⟩

set_option maxHeartbeats 2000000 in
set_option maxRecDepth 100000 in
theorem arm_wrong (p : Nat) (n : Int) (d : Dk) (sa : Option Addr) (sc : Nat) (ca : Option Addr) (cc : Nat) (w : World) (hok : d.ok) (hv : DAt w p d sa sc ca cc) (hr : formedB d = false)  : Calls Tryd.prog 30 #[.pointer (some ⟨p, 0, none⟩), .int .i64 n] w fun e w' => e = .returned (.int .i64 1) ∧ Aft w w' p d sa sc ca cc := by
  have HRI := Lib.hid (right_calls p 0 d sa sc ca cc w hok hv)
  rw [right0] at HRI
  rw [hr] at HRI
  have HV := Lib.hid hv
  have HOK := Lib.hid hok
  clear hv hok hr
  go_enter Tryd.func30, Tryd.ntmps30
  go_wp2_with (first | (go_at_call 58; (with_reducible refine (HRI.out).mono ?_); rintro e w2 ⟨rfl, hf2⟩; have HV2 := Lib.hid (HV.out.keep hf2); have f2 := Bk.free HV2.out.blk 2; have f3 := Bk.free HV2.out.blk 3; have q2 : w2.cell? ⟨p, 2, none⟩ = some (.int .i64 d.fuse) := Bk.cell HV2.out.blk 2; have q3 : w2.cell? ⟨p, 3, none⟩ = some (.bool d.down) := Bk.cell HV2.out.blk 3; have HF2 := Lib.hid hf2; clear hf2))
  go_ret
  exact ⟨rfl, Aft.same HV.out HF2.out⟩

set_option maxHeartbeats 2000000 in
set_option maxRecDepth 100000 in
theorem arm_low (p : Nat) (n : Int) (d : Dk) (sa : Option Addr) (sc : Nat) (ca : Option Addr) (cc : Nat) (w : World) (hok : d.ok) (hv : DAt w p d sa sc ca cc) (hr : formedB d = true) (hn : n < -1) : Calls Tryd.prog 30 #[.pointer (some ⟨p, 0, none⟩), .int .i64 n] w fun e w' => e = .returned (.int .i64 1) ∧ Aft w w' p d sa sc ca cc := by
  have c0 : decide (n < -1) = true := decide_eq_true hn
  have HRI := Lib.hid (right_calls p 0 d sa sc ca cc w hok hv)
  rw [right0] at HRI
  rw [hr] at HRI
  have HV := Lib.hid hv
  have HOK := Lib.hid hok
  clear hv hok hr
  go_enter Tryd.func30, Tryd.ntmps30
  go_wp2_with (first | (go_at_call 58; (with_reducible refine (HRI.out).mono ?_); rintro e w2 ⟨rfl, hf2⟩; have HV2 := Lib.hid (HV.out.keep hf2); have f2 := Bk.free HV2.out.blk 2; have f3 := Bk.free HV2.out.blk 3; have q2 : w2.cell? ⟨p, 2, none⟩ = some (.int .i64 d.fuse) := Bk.cell HV2.out.blk 2; have q3 : w2.cell? ⟨p, 3, none⟩ = some (.bool d.down) := Bk.cell HV2.out.blk 3; have HF2 := Lib.hid hf2; clear hf2))
  go_ret
  exact ⟨rfl, Aft.same HV.out HF2.out⟩

set_option maxHeartbeats 2000000 in
set_option maxRecDepth 100000 in
theorem arm_yes (p : Nat) (n : Int) (d : Dk) (sa : Option Addr) (sc : Nat) (ca : Option Addr) (cc : Nat) (w : World) (hok : d.ok) (hv : DAt w p d sa sc ca cc) (hr : formedB d = true) (hn : -1 ≤ n) : Calls Tryd.prog 30 #[.pointer (some ⟨p, 0, none⟩), .int .i64 n] w fun e w' => e = .returned (.int .i64 0) ∧ Aft w w' p { d with fuse := n } sa sc ca cc := by
  have c0 : decide (n < -1) = false := decide_eq_false (by omega)
  have HRI := Lib.hid (right_calls p 0 d sa sc ca cc w hok hv)
  rw [right0] at HRI
  rw [hr] at HRI
  have HV := Lib.hid hv
  have HOK := Lib.hid hok
  clear hv hok hr
  go_enter Tryd.func30, Tryd.ntmps30
  go_wp2_with (first | (go_at_call 58; (with_reducible refine (HRI.out).mono ?_); rintro e w2 ⟨rfl, hf2⟩; have HV2 := Lib.hid (HV.out.keep hf2); have f2 := Bk.free HV2.out.blk 2; have f3 := Bk.free HV2.out.blk 3; have q2 : w2.cell? ⟨p, 2, none⟩ = some (.int .i64 d.fuse) := Bk.cell HV2.out.blk 2; have q3 : w2.cell? ⟨p, 3, none⟩ = some (.bool d.down) := Bk.cell HV2.out.blk 3; have HF2 := Lib.hid hf2; clear hf2))
  go_ret
  exact ⟨rfl, Aft.then0 HF2.out ⟨DAt.setF HV2.out HOK.out n, Fr.set (Fr.refl _ _) _ _ (.inr rfl)⟩⟩

theorem arm_calls (p : Nat) (n : Int) (d : Dk) (sa : Option Addr) (sc : Nat) (ca : Option Addr) (cc : Nat) (w : World) (hok : d.ok) (hv : DAt w p d sa sc ca cc) : Calls Tryd.prog 30 #[.pointer (some ⟨p, 0, none⟩), .int .i64 n] w fun e w' => e = .returned (.int .i64 (armE d n)) ∧ Aft w w' p (armD d n) sa sc ca cc := by
  unfold armE armD
  rw [right0]
  cases hr : formedB d with
  | false => rw [if_pos (.inl rfl), if_pos (.inl rfl)]; exact arm_wrong p n d sa sc ca cc w hok hv hr
  | true =>
    by_cases hn : n < -1
    · rw [if_pos (.inr hn), if_pos (.inr hn)]; exact arm_low p n d sa sc ca cc w hok hv hr hn
    · rw [if_neg (by simp; omega), if_neg (by simp; omega)]; exact arm_yes p n d sa sc ca cc w hok hv hr (by omega)

end Go.Proofs.YtlleandelcjhjaaDoor.DiskAct
