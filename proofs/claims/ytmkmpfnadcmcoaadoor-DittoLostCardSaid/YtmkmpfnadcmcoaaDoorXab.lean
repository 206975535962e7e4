/- The theorems that the claim uses, text behind text (part 2). -/
import Derived.Test.YtmkmpfnadcmcoaaDoorXaa
import Derived.Test.YtmkmpfnadcmcoaaDoorProg
import Derived.Laws.MakeOwn
set_option maxRecDepth 100000
set_option linter.unusedVariables false
set_option linter.unusedSimpArgs false
namespace Go.Proofs.YtmkmpfnadcmcoaaDoor.DiskKit
open Go Go.RowKit Go.Proofs.YtmkmpfnadcmcoaaDoor.K Go.Proofs.YtmkmpfnadcmcoaaDoor.EqKit Go.Proofs.YtmkmpfnadcmcoaaDoor.ArrKit Go.Proofs.YtmkmpfnadcmcoaaDoor.HeldKit Go.Proofs.YtmkmpfnadcmcoaaDoor.GKit Go.Proofs.YtmkmpfnadcmcoaaDoor.GRow
structure Sec where
  data : List UInt8
  nr : Bool
  nw : Bool
structure Wri where
  pos : Int
  data : List UInt8
structure Dk where
  S : List Sec
  C : List Wri
  fuse : Int
  down : Bool
def Sec.cells (s : Sec) : List Value := s.data.map B ++ [.bool s.nr, .bool s.nw]
def Wri.cells (x : Wri) : List Value := .int .i64 x.pos :: x.data.map B
def Sec.ok (s : Sec) : Prop := s.data.length = 128
structure Wri.ok (x : Wri) : Prop where
  len : x.data.length = 128
  wf : (Lit.int .i64 x.pos).wf = true
structure Dk.ok (d : Dk) : Prop where
  s : ∀ x ∈ d.S, x.ok
  c : ∀ x ∈ d.C, x.ok
  f : (Lit.int .i64 d.fuse).wf = true
def RdS : World → Option Addr → List Sec → Prop := RdG Sec.cells 130
def RdC : World → Option Addr → List Wri → Prop := RdG Wri.cells 129
theorem Sec.pos (s : Sec) : 0 < s.cells.length := by simp [Sec.cells]
theorem Wri.ps (x : Wri) : 0 < x.cells.length := by simp [Wri.cells]
theorem Sec.len {s : Sec} (h : s.ok) : s.cells.length = 130 := by simp [Sec.cells, show s.data.length = 128 from h]
theorem Wri.leng {x : Wri} (h : x.ok) : x.cells.length = 129 := by simp [Wri.cells, h.len]
theorem Sec.one (s : Sec) : ∀ v ∈ s.cells, v.oneCell' = true := by
  intro v hv
  simp only [Sec.cells, List.mem_append, List.mem_map, List.mem_cons, List.not_mem_nil, or_false] at hv
  rcases hv with ⟨x, -, rfl⟩ | rfl | rfl <;> rfl
theorem Wri.one (x : Wri) : ∀ v ∈ x.cells, v.oneCell' = true := by
  intro v hv
  simp only [Wri.cells, List.mem_cons, List.mem_map] at hv
  rcases hv with rfl | ⟨x, -, rfl⟩ <;> rfl
theorem Sec.nr_at {s : Sec} (h : s.ok) : s.cells[128]? = some (.bool s.nr) := by
  rw [Sec.cells, List.getElem?_append_right (by simp [show s.data.length = 128 from h]), List.length_map, show s.data.length = 128 from h]; rfl
theorem Sec.nw_at {s : Sec} (h : s.ok) : s.cells[129]? = some (.bool s.nw) := by
  rw [Sec.cells, List.getElem?_append_right (by simp [show s.data.length = 128 from h]), List.length_map, show s.data.length = 128 from h]; rfl
theorem Sec.data_at {s : Sec} (h : s.ok) {j : Nat} (hj : j < 128) : s.cells[j]? = (s.data.map B)[j]? := by
  rw [Sec.cells, List.getElem?_append_left (by simp [show s.data.length = 128 from h]; omega)]
theorem Wri.data_at (x : Wri) (j : Nat) : x.cells[j + 1]? = (x.data.map B)[j]? := by rw [Wri.cells, List.getElem?_cons_succ]
/-- a disk's cells -/
abbrev DC (sv cv : Value) (f : Int) (dn : Bool) : Array Value := #[sv, cv, .int .i64 f, .bool dn]
/-- the slices of a disk say what it holds -/
structure DV (w : World) (d : Dk) (sa : Option Addr) (sc : Nat) (ca : Option Addr) (cc : Nat) : Prop where
  rs : RdS w sa d.S
  rc : RdC w ca d.C
  sn : d.S.length ≤ sc
  sm : sc ≤ 9223372036854775807
  cn : d.C.length ≤ cc
  cm : cc ≤ 9223372036854775807
def dval (d : Dk) (sa : Option Addr) (sc : Nat) (ca : Option Addr) (cc : Nat) : Array Value := DC (.slice sa d.S.length sc) (.slice ca d.C.length cc) d.fuse d.down
/-- a disk in a variable -/
structure DAt (w : World) (p : Nat) (d : Dk) (sa : Option Addr) (sc : Nat) (ca : Option Addr) (cc : Nat) : Prop where
  blk : Bk w p (dval d sa sc ca cc) 29
  v : DV w d sa sc ca cc
/-- there is a disk in the variable -/
def DIn (w : World) (p : Nat) (d : Dk) : Prop := ∃ sa sc ca cc, DAt w p d sa sc ca cc
theorem DV.keep {w w1 : World} {d : Dk} {sa : Option Addr} {sc : Nat} {ca : Option Addr} {cc : Nat} (h : DV w d sa sc ca cc) (f : Fr0 w w1) : DV w1 d sa sc ca cc := ⟨RdG.keep h.rs f, RdG.keep h.rc f, h.sn, h.sm, h.cn, h.cm⟩
theorem DAt.keep {w w1 : World} {p : Nat} {d : Dk} {sa : Option Addr} {sc : Nat} {ca : Option Addr} {cc : Nat} (h : DAt w p d sa sc ca cc) (f : Fr0 w w1) : DAt w1 p d sa sc ca cc := ⟨f.keep h.blk (fun h => h), h.v.keep f⟩
theorem DIn.keep {w w1 : World} {p : Nat} {d : Dk} (h : DIn w p d) (f : Fr0 w w1) : DIn w1 p d := by
  obtain ⟨sa, sc, ca, cc, h⟩ := h
  exact ⟨sa, sc, ca, cc, h.keep f⟩
/-- a disk's variable is no place of sectors, nor of writes -/
theorem RdS.apart {w : World} {a : Addr} {l : List Sec} {p : Nat} {cs : Array Value} (h : RdS w (some a) l) (hl : l ≠ []) (hok : ∀ x ∈ l, x.ok) (hb : Bk w p cs 29) (hn : ∀ (j : Nat) (x : Value), cs[j]? = some x → ∀ v : UInt8, x ≠ B v) : a.block ≠ p := by
  rintro rfl
  have h0 : 0 < l.length := List.length_pos_iff.2 hl
  obtain ⟨b, o, e0, -, hr⟩ := RdG.form h h0 Sec.pos
  obtain rfl := Option.some.inj e0
  have hk := hok _ (List.getElem_mem h0)
  have h1 : l[0].data.length = 128 := hk
  have e := hr 0 h0 0 (B (l[0].data[0]'(by omega))) (by rw [Sec.data_at hk (by omega), List.getElem?_map, List.getElem?_eq_getElem (by omega)]; rfl)
  rw [Bk.cell hb] at e
  exact hn _ _ e _ rfl
theorem RdC.apart {w : World} {a : Addr} {l : List Wri} {p : Nat} {cs : Array Value} (h : RdC w (some a) l) (hl : l ≠ []) (hok : ∀ x ∈ l, x.ok) (hb : Bk w p cs 29) (hn : ∀ (j : Nat) (x : Value), cs[j]? = some x → ∀ v : UInt8, x ≠ B v) : a.block ≠ p := by
  rintro rfl
  have h0 : 0 < l.length := List.length_pos_iff.2 hl
  obtain ⟨b, o, e0, -, hr⟩ := RdG.form h h0 Wri.ps
  obtain rfl := Option.some.inj e0
  have h1 := (hok _ (List.getElem_mem h0)).len
  have e := hr 0 h0 1 (B (l[0].data[0]'(by omega))) (by rw [Wri.data_at, List.getElem?_map, List.getElem?_eq_getElem (by omega)]; rfl)
  rw [Bk.cell hb] at e
  exact hn _ _ e _ rfl
theorem dc_no (sv cv : Value) (f : Int) (dn : Bool) (hs : ∀ v, sv ≠ B v) (hc : ∀ v, cv ≠ B v) : ∀ (j : Nat) (x : Value), (DC sv cv f dn)[j]? = some x → ∀ v : UInt8, x ≠ B v := by
  intro j x hj v
  rcases (show j = 0 ∨ j = 1 ∨ j = 2 ∨ j = 3 ∨ 4 ≤ j by omega) with rfl | rfl | rfl | rfl | h4
  · rw [← Option.some.inj hj]; exact hs v
  · rw [← Option.some.inj hj]; exact hc v
  · rw [← Option.some.inj hj]; simp [B]
  · rw [← Option.some.inj hj]; simp [B]
  · rw [Array.getElem?_eq_none (by simpa using h4)] at hj; cases hj
theorem dval_no (d : Dk) (sa : Option Addr) (sc : Nat) (ca : Option Addr) (cc : Nat) : ∀ (j : Nat) (x : Value), (dval d sa sc ca cc)[j]? = some x → ∀ v : UInt8, x ≠ B v := dc_no _ _ _ _ (by simp [B]) (by simp [B])
/-- what holds of a disk's slices holds when a disk's variable alone is changed -/
theorem DV.past {w w1 : World} {d : Dk} {sa : Option Addr} {sc : Nat} {ca : Option Addr} {cc : Nat} (h : DV w d sa sc ca cc) (hok : d.ok) {p : Nat} {cs : Array Value} (f : Fr (fun i => i = p) w w1) (hb : Bk w p cs 29) (hn : ∀ (j : Nat) (x : Value), cs[j]? = some x → ∀ v : UInt8, x ≠ B v) : DV w1 d sa sc ca cc :=
  ⟨RdG.later h.rs f (fun a e hl => by subst e; exact RdS.apart h.rs hl hok.s hb hn), RdG.later h.rc f (fun a e hl => by subst e; exact RdC.apart h.rc hl hok.c hb hn), h.sn, h.sm, h.cn, h.cm⟩
theorem DAt.past {w w1 : World} {q : Nat} {d : Dk} {sa : Option Addr} {sc : Nat} {ca : Option Addr} {cc : Nat} (h : DAt w q d sa sc ca cc) (hok : d.ok) {p : Nat} {cs : Array Value} (f : Fr (fun i => i = p) w w1) (hb : Bk w p cs 29) (hn : ∀ (j : Nat) (x : Value), cs[j]? = some x → ∀ v : UInt8, x ≠ B v) (hne : q ≠ p) : DAt w1 q d sa sc ca cc :=
  ⟨f.keep h.blk hne, h.v.past hok f hb hn⟩
theorem DIn.past {w w1 : World} {p q : Nat} {d d' : Dk} (h : DIn w q d) (hok : d.ok) (h' : DIn w p d') (f : Fr (fun i => i = p) w w1) (hne : q ≠ p) : DIn w1 q d := by
  obtain ⟨sa, sc, ca, cc, h⟩ := h
  obtain ⟨sa', sc', ca', cc', h'⟩ := h'
  exact ⟨sa, sc, ca, cc, h.past hok f h'.blk (dval_no _ _ _ _ _) hne⟩
theorem info_d : (Tryd.prog.info? 29).map (·.size) = some 4 := by kernel_rfl
theorem info_s : (Tryd.prog.info? 46).map (·.size) = some 130 := by kernel_rfl
theorem info_w : (Tryd.prog.info? 101).map (·.size) = some 129 := by kernel_rfl
theorem info_b : (Tryd.prog.info? 22).map (·.size) = some 128 := by kernel_rfl
theorem cells_s : Tryd.prog.cellsOf 46 = 130 := by kernel_rfl
theorem dval_one (d : Dk) (sa : Option Addr) (sc : Nat) (ca : Option Addr) (cc : Nat) : (dval d sa sc ca cc).all (·.oneCell') = true := by simp [dval, Value.oneCell']
def thereB (n : Nat) (at_ : Int) : Bool := decide (0 ≤ at_ ∧ at_ < n)
def allThere (n : Nat) (l : List Wri) : Bool := l.all fun x => thereB n x.pos
def formedB (d : Dk) : Bool := allThere d.S.length d.C && decide (1 ≤ d.S.length ∧ d.S.length ≤ 4096)
def rightB (d : Dk) (at_ : Int) : Bool := thereB d.S.length at_ && formedB d
theorem thereB_true {n : Nat} {a : Int} : thereB n a = true ↔ 0 ≤ a ∧ a < n := by simp [thereB]
theorem thereB_false {n : Nat} {a : Int} : thereB n a = false ↔ ¬ (0 ≤ a ∧ a < n) := by simp [thereB]
/-- a block of zeros -/
def Z128 : List UInt8 := List.replicate 128 0
def Zs : Sec := ⟨Z128, false, false⟩
theorem Zs_ok : Zs.ok := by simp [Sec.ok, Zs, Z128]
/-- the last write at a sector -/
def lastAt (l : List Wri) (at_ : Int) : Option (List UInt8) := l.foldl (fun r x => if x.pos = at_ then some x.data else r) none
def secAt (d : Dk) (at_ : Int) : Sec := d.S.getD at_.toNat Zs
/-- what reads -/
def readX (d : Dk) (at_ : Int) : List UInt8 × Int :=
  if rightB d at_ = false then (Z128, 1) else if d.down then (Z128, 3) else
  match lastAt d.C at_ with
  | some b => (b, 0)
  | none => if (secAt d at_).nr then (Z128, 2) else ((secAt d at_).data, 0)
/-- an act -/
def actE (d : Dk) : Int := if d.down = true ∨ d.fuse = 0 then 3 else 0
def actD (d : Dk) : Dk := if d.down = true then d else if d.fuse = 0 then { d with down := true } else if 0 < d.fuse then { d with fuse := d.fuse - 1 } else d
/-- a write -/
def writeE (d : Dk) (at_ : Int) : Int := if rightB d at_ = false then 1 else if actE d = 3 then 3 else if (secAt d at_).nw then 2 else 0
def writeD (d : Dk) (at_ : Int) (b : List UInt8) : Dk := if rightB d at_ = false then d else if actE d = 3 then actD d else if (secAt d at_).nw then actD d else { actD d with C := d.C ++ [⟨at_, b⟩] }
/-- the kept writes last -/
def laid (S : List Sec) (C : List Wri) (keep : Nat → Bool) : Nat → List Sec
  | 0 => S
  | k + 1 => let l := laid S C keep k
    match C[k]? with
    | some x => if keep k then l.set x.pos.toNat { l.getD x.pos.toNat Zs with data := x.data, nr := false } else l
    | none => l
def layD (d : Dk) (keep : Nat → Bool) : Dk := { d with S := laid d.S d.C keep d.C.length, C := [] }
def flushE (d : Dk) : Int := if rightB d 0 = false then 1 else actE d
def flushD (d : Dk) : Dk := if rightB d 0 = false then d else if actE d = 3 then actD d else layD (actD d) (fun _ => true)
theorem right0 (d : Dk) : rightB d 0 = formedB d := by
  unfold rightB formedB thereB
  by_cases h : 1 ≤ d.S.length
  · rw [decide_eq_true (by omega : (0 : Int) ≤ 0 ∧ (0 : Int) < d.S.length), Bool.true_and]
  · rw [decide_eq_false (by omega : ¬ ((0 : Int) ≤ 0 ∧ (0 : Int) < d.S.length)), Bool.false_and, decide_eq_false (by omega : ¬ (1 ≤ d.S.length ∧ d.S.length ≤ 4096)), Bool.and_false]

end Go.Proofs.YtmkmpfnadcmcoaaDoor.DiskKit
namespace Go.Proofs.YtmkmpfnadcmcoaaDoor.DiskAsk
open Go Go.RowKit Go.Proofs.YtmkmpfnadcmcoaaDoor.K Go.Proofs.YtmkmpfnadcmcoaaDoor.EqKit Go.Proofs.YtmkmpfnadcmcoaaDoor.ArrKit Go.Proofs.YtmkmpfnadcmcoaaDoor.HeldKit Go.Proofs.YtmkmpfnadcmcoaaDoor.GKit Go.Proofs.YtmkmpfnadcmcoaaDoor.GRow Go.Proofs.YtmkmpfnadcmcoaaDoor.DiskKit
theorem all_take {n : Nat} {l : List Wri} {k : Nat} (h : k < l.length) : allThere n (l.take (k + 1)) = (allThere n (l.take k) && thereB n l[k].pos) := by
  rw [List.take_succ_eq_append_getElem h, allThere, List.all_append]; simp [allThere]
theorem all_false {n : Nat} {l : List Wri} {k : Nat} (h : k < l.length) (h2 : thereB n l[k].pos = false) : allThere n l = false := by
  rw [allThere, List.all_eq_false]
  exact ⟨l[k], List.getElem_mem h, by simp [h2]⟩
theorem formed_no {d : Dk} (h : ¬ (1 ≤ d.S.length ∧ d.S.length ≤ 4096)) : formedB d = false := by
  rw [formedB, decide_eq_false h, Bool.and_false]
end Go.Proofs.YtmkmpfnadcmcoaaDoor.DiskAsk
namespace Go.Proofs.YtmkmpfnadcmcoaaDoor.DiskForm
open Go Go.RowKit Go.Proofs.YtmkmpfnadcmcoaaDoor.K Go.Proofs.YtmkmpfnadcmcoaaDoor.EqKit Go.Proofs.YtmkmpfnadcmcoaaDoor.ArrKit Go.Proofs.YtmkmpfnadcmcoaaDoor.HeldKit Go.Proofs.YtmkmpfnadcmcoaaDoor.GKit Go.Proofs.YtmkmpfnadcmcoaaDoor.GRow Go.Proofs.YtmkmpfnadcmcoaaDoor.DiskKit Go.Proofs.YtmkmpfnadcmcoaaDoor.DiskAsk
set_option maxHeartbeats 2000000 in
set_option maxRecDepth 100000 in
theorem clo_neg (x : Wri) (n g : Nat) (w : World) (hx : x.ok) (hg : w.cell? ⟨g, 0, none⟩ = some (.int .i64 n)) (h : x.pos < 0) : Calls Tryd.prog 60 #[.agg x.cells.toArray, .pointer (some ⟨g, 0, none⟩)] w fun e w' => e = .returned (.bool true) ∧ Fr0 w w' := by
  have hgw := World.block_lt_of_cell? w _ hg
  have hF : Fr0 w (w.alloc (.cells x.cells.toArray 101)) := Fr.alloc (Fr.refl _ _) _
  have q0 : (w.alloc (.cells x.cells.toArray 101)).cell? ⟨w.heap.size, 0, none⟩ = some (.int .i64 x.pos) := (Bk.cell (Bk.new w _) 0).trans (by simp [Wri.cells])
  have q1 : (w.alloc (.cells x.cells.toArray 101)).cell? ⟨g, 0, none⟩ = some (.int .i64 n) := (hF.cell g 0 hgw (fun h => h)).trans hg
  have HF := Lib.hid hF
  clear hF hg
  have c0 : decide (x.pos < 0) = true := decide_eq_true h
  generalize x.cells.toArray = X at *
  go_enter Tryd.func60, Tryd.ntmps60
  go_wp2
  go_ret
  exact ⟨rfl, HF.out⟩

set_option maxHeartbeats 2000000 in
set_option maxRecDepth 100000 in
theorem clo_in (x : Wri) (n g : Nat) (w : World) (hx : x.ok) (hg : w.cell? ⟨g, 0, none⟩ = some (.int .i64 n)) (h : 0 ≤ x.pos ∧ x.pos < n) : Calls Tryd.prog 60 #[.agg x.cells.toArray, .pointer (some ⟨g, 0, none⟩)] w fun e w' => e = .returned (.bool false) ∧ Fr0 w w' := by
  have hgw := World.block_lt_of_cell? w _ hg
  have hF : Fr0 w (w.alloc (.cells x.cells.toArray 101)) := Fr.alloc (Fr.refl _ _) _
  have q0 : (w.alloc (.cells x.cells.toArray 101)).cell? ⟨w.heap.size, 0, none⟩ = some (.int .i64 x.pos) := (Bk.cell (Bk.new w _) 0).trans (by simp [Wri.cells])
  have q1 : (w.alloc (.cells x.cells.toArray 101)).cell? ⟨g, 0, none⟩ = some (.int .i64 n) := (hF.cell g 0 hgw (fun h => h)).trans hg
  have HF := Lib.hid hF
  clear hF hg
  have c0 : decide (x.pos < 0) = false := decide_eq_false (by omega)
  have c1 : decide ((n : Int) ≤ x.pos) = false := decide_eq_false (by omega)
  generalize x.cells.toArray = X at *
  go_enter Tryd.func60, Tryd.ntmps60
  go_wp2
  go_ret
  exact ⟨rfl, HF.out⟩

set_option maxHeartbeats 2000000 in
set_option maxRecDepth 100000 in
theorem clo_out (x : Wri) (n g : Nat) (w : World) (hx : x.ok) (hg : w.cell? ⟨g, 0, none⟩ = some (.int .i64 n)) (h : 0 ≤ x.pos ∧ n ≤ x.pos) : Calls Tryd.prog 60 #[.agg x.cells.toArray, .pointer (some ⟨g, 0, none⟩)] w fun e w' => e = .returned (.bool true) ∧ Fr0 w w' := by
  have hgw := World.block_lt_of_cell? w _ hg
  have hF : Fr0 w (w.alloc (.cells x.cells.toArray 101)) := Fr.alloc (Fr.refl _ _) _
  have q0 : (w.alloc (.cells x.cells.toArray 101)).cell? ⟨w.heap.size, 0, none⟩ = some (.int .i64 x.pos) := (Bk.cell (Bk.new w _) 0).trans (by simp [Wri.cells])
  have q1 : (w.alloc (.cells x.cells.toArray 101)).cell? ⟨g, 0, none⟩ = some (.int .i64 n) := (hF.cell g 0 hgw (fun h => h)).trans hg
  have HF := Lib.hid hF
  clear hF hg
  have c0 : decide (x.pos < 0) = false := decide_eq_false (by omega)
  have c1 : decide ((n : Int) ≤ x.pos) = true := decide_eq_true (by omega)
  generalize x.cells.toArray = X at *
  go_enter Tryd.func60, Tryd.ntmps60
  go_wp2
  go_ret
  exact ⟨rfl, HF.out⟩

theorem clo_calls (x : Wri) (n g : Nat) (w : World) (hx : x.ok) (hg : w.cell? ⟨g, 0, none⟩ = some (.int .i64 n)) : Calls Tryd.prog 60 #[.agg x.cells.toArray, .pointer (some ⟨g, 0, none⟩)] w fun e w' => e = .returned (.bool (!thereB n x.pos)) ∧ Fr0 w w' := by
  by_cases h0 : x.pos < 0
  · rw [thereB_false.2 (by omega)]; exact clo_neg x n g w hx hg h0
  · by_cases h1 : x.pos < n
    · rw [thereB_true.2 ⟨by omega, h1⟩]; exact clo_in x n g w hx hg ⟨by omega, h1⟩
    · rw [thereB_false.2 (by omega)]; exact clo_out x n g w hx hg ⟨by omega, by omega⟩
/-- the index of the first write that isn't there, or -1 -/
def NoIx (n : Nat) (l : List Wri) (r : Int) : Prop := if allThere n l = true then r = -1 else 0 ≤ r
set_option maxHeartbeats 2000000 in
set_option maxRecDepth 100000 in
theorem ixf_calls (n g : Nat) (l : List Wri) (ca : Option Addr) (cc : Nat) (w : World) (hrc : RdC w ca l) (hok : ∀ x ∈ l, x.ok) (hcn : l.length ≤ cc) (hcm : cc ≤ 9223372036854775807) (hg : w.cell? ⟨g, 0, none⟩ = some (.int .i64 n)) :
    Calls Tryd.prog 70 #[.slice ca l.length cc, .func (.func 60) #[] #[.pointer (some ⟨g, 0, none⟩)]] w fun e w' => (∃ r : Int, e = .returned (.int .i64 r) ∧ NoIx n l r) ∧ Fr0 w w' := by
  have hgw := World.block_lt_of_cell? w _ hg
  have HRC := Lib.hid hrc
  have HOK := Lib.hid hok
  have HG := Lib.hid hg
  clear hrc hok hg
  go_enter Tryd.func70, Tryd.ntmps70
  go_wp2
  go_loopw [8] (fun i wr => ∃ k : Nat, k ≤ l.length ∧ i = .int .i64 k ∧ allThere n (l.take k) = true ∧ Fr0 w wr) (fun i _ => l.length - (intOf i).toNat)
  case atStart => exact ⟨0, Nat.zero_le _, rfl, by simp [allThere], Fr.refl _ _⟩
  case round =>
    obtain ⟨k, hk, rfl, hall, hF⟩ := hrel
    have HALL := Lib.hid hall
    have HFR := Lib.hid hF
    clear hall hF
    by_cases hlt : k < l.length
    · obtain ⟨b, o, rfl, hrg⟩ := (RdG.keep HRC.out HFR.out) k hlt
      have HRG := Lib.hid hrg
      have HX := Lib.hid (HOK.out _ (List.getElem_mem hlt))
      have HIX : Hid ((Tryd.prog.info? 101).map (·.size) = some l[k].cells.length) := Lib.hid (by rw [Wri.leng HX.out, info_w])
      have HCL := Lib.hid (clo_calls l[k] n g wr HX.out ((HFR.out.cell g 0 hgw (fun h => h)).trans HG.out))
      clear hrg
      cases ht : thereB n l[k].pos with
      | true =>
        have HT := Lib.hid ht
        rw [ht] at HCL
        clear ht
        go_wp2_with (first | ((with_reducible show wpList _ _ _ ({ dst := _, op := Op.load 101 _, type := _, pos := _, after := _, guard := _ } :: _) _ _); refine wpList_load_mid rfl 101 _ rfl b (o + k * 129) rfl l[k].cells _ HRG.out Tryd.underlying101 rfl HIX.out ?_) | (go_at_call 60; (with_reducible refine HCL.out.mono ?_); rintro e w2 ⟨rfl, hf2⟩; have HF2 := Lib.hid (HFR.out.then0 hf2); clear hf2))
        go_roundw
        case rel => exact ⟨k + 1, by omega, by go_num, by rw [all_take hlt, HALL.out, HT.out]; rfl, HF2.out⟩
        case measure => simp [intOf]; omega
      | false =>
        have HT := Lib.hid ht
        rw [ht] at HCL
        clear ht
        go_wp2_with (first | ((with_reducible show wpList _ _ _ ({ dst := _, op := Op.load 101 _, type := _, pos := _, after := _, guard := _ } :: _) _ _); refine wpList_load_mid rfl 101 _ rfl b (o + k * 129) rfl l[k].cells _ HRG.out Tryd.underlying101 rfl HIX.out ?_) | (go_at_call 60; (with_reducible refine HCL.out.mono ?_); rintro e w2 ⟨rfl, hf2⟩; have HF2 := Lib.hid (HFR.out.then0 hf2); clear hf2))
        go_ret
        refine ⟨⟨k, rfl, ?_⟩, HF2.out⟩
        rw [NoIx, all_false hlt HT.out, if_neg (by simp)]
        omega
    · obtain rfl : k = l.length := by omega
      clear hlt
      go_wp2
      go_ret
      refine ⟨⟨-1, rfl, ?_⟩, HFR.out⟩
      have := HALL.out
      rw [List.take_length] at this
      rw [NoIx, if_pos this]
set_option maxHeartbeats 2000000 in
set_option maxRecDepth 100000 in
theorem cf_calls (n g : Nat) (l : List Wri) (ca : Option Addr) (cc : Nat) (w : World) (hrc : RdC w ca l) (hok : ∀ x ∈ l, x.ok) (hcn : l.length ≤ cc) (hcm : cc ≤ 9223372036854775807) (hg : w.cell? ⟨g, 0, none⟩ = some (.int .i64 n)) :
    Calls Tryd.prog 59 #[.slice ca l.length cc, .func (.func 60) #[] #[.pointer (some ⟨g, 0, none⟩)]] w fun e w' => e = .returned (.bool (!allThere n l)) ∧ Fr0 w w' := by
  have HC := Lib.hid (ixf_calls n g l ca cc w hrc hok hcn hcm hg)
  clear hrc hok hg
  go_enter Tryd.func59, Tryd.ntmps59
  go_wp2_with (go_at_call 70; (with_reducible refine HC.out.mono ?_); rintro e w2 ⟨⟨r, rfl, hr⟩, hf2⟩; have HF2 := Lib.hid hf2; have HR := Lib.hid hr; clear hf2 hr)
  go_ret
  refine ⟨?_, HF2.out⟩
  have := HR.out
  unfold NoIx at this
  cases h : allThere n l with
  | true =>
    rw [h, if_pos rfl] at this
    subst this; rfl
  | false =>
    rw [h, if_neg (by simp)] at this
    exact congrArg (fun b => Ending.returned (.bool b)) (decide_eq_true this)

set_option maxHeartbeats 2000000 in
set_option maxRecDepth 100000 in
theorem formed_small (d : Dk) (sa : Option Addr) (sc : Nat) (ca : Option Addr) (cc : Nat) (w : World) (hok : d.ok) (hv : DV w d sa sc ca cc) (h : d.S.length = 0) : Calls Tryd.prog 40 #[.agg (dval d sa sc ca cc)] w fun e w' => e = .returned (.bool false) ∧ Fr0 w w' := by
  have c0 : decide (0 < d.S.length) = false := decide_eq_false (by omega)
  have hm := hv.sm
  have hsn := hv.sn
  have hs1 : (w.alloc (.cells (dval d sa sc ca cc) 29)).heap.size = w.heap.size + 1 := by simp
  have HF : Hid (Fr0 w ((w.alloc (.cells (dval d sa sc ca cc) 29)).alloc (.cells #[.int .i64 d.S.length] 3))) := Lib.hid (Fr.alloc (Fr.alloc (Fr.refl _ _) _) _)
  have HC := Lib.hid (cf_calls d.S.length (w.heap.size + 1) d.C ca cc ((w.alloc (.cells (dval d sa sc ca cc) 29)).alloc (.cells #[.int .i64 d.S.length] 3)) (RdG.keep hv.rc HF.out) hok.c hv.cn hv.cm (by have := Bk.new (w.alloc (.cells (dval d sa sc ca cc) 29)) (.cells #[.int .i64 d.S.length] 3); rw [hs1] at this; exact (Bk.cell this 0)))
  have hmf : ∀ (fn : Fn) (first cap : Array Value) (W : World), (Instr.makeFunc fn first cap).run Tryd.prog W = .ok (.func fn first cap) W := fun _ _ _ _ => rfl
  clear hv hok hs1 h
  obtain ⟨SS, CC, ff, dd⟩ := d
  dsimp only [dval] at *
  go_enter Tryd.func40, Tryd.ntmps40
  go_wp2_with (go_at_call 59; (with_reducible refine HC.out.mono ?_); rintro e w2 ⟨rfl, hf2⟩; have HF2 := Lib.hid (HF.out.then0 hf2); clear hf2)
  go_ret
  exact ⟨rfl, HF.out⟩

set_option maxHeartbeats 2000000 in
set_option maxRecDepth 100000 in
theorem formed_large (d : Dk) (sa : Option Addr) (sc : Nat) (ca : Option Addr) (cc : Nat) (w : World) (hok : d.ok) (hv : DV w d sa sc ca cc) (h : 4096 < d.S.length) : Calls Tryd.prog 40 #[.agg (dval d sa sc ca cc)] w fun e w' => e = .returned (.bool false) ∧ Fr0 w w' := by
  have c0 : decide (0 < d.S.length) = true := decide_eq_true (by omega)
  have c1 : decide ((d.S.length : Int) ≤ 4096) = false := decide_eq_false (by omega)
  have hm := hv.sm
  have hsn := hv.sn
  have hs1 : (w.alloc (.cells (dval d sa sc ca cc) 29)).heap.size = w.heap.size + 1 := by simp
  have HF : Hid (Fr0 w ((w.alloc (.cells (dval d sa sc ca cc) 29)).alloc (.cells #[.int .i64 d.S.length] 3))) := Lib.hid (Fr.alloc (Fr.alloc (Fr.refl _ _) _) _)
  have HC := Lib.hid (cf_calls d.S.length (w.heap.size + 1) d.C ca cc ((w.alloc (.cells (dval d sa sc ca cc) 29)).alloc (.cells #[.int .i64 d.S.length] 3)) (RdG.keep hv.rc HF.out) hok.c hv.cn hv.cm (by have := Bk.new (w.alloc (.cells (dval d sa sc ca cc) 29)) (.cells #[.int .i64 d.S.length] 3); rw [hs1] at this; exact (Bk.cell this 0)))
  have hmf : ∀ (fn : Fn) (first cap : Array Value) (W : World), (Instr.makeFunc fn first cap).run Tryd.prog W = .ok (.func fn first cap) W := fun _ _ _ _ => rfl
  clear hv hok hs1 h
  obtain ⟨SS, CC, ff, dd⟩ := d
  dsimp only [dval] at *
  go_enter Tryd.func40, Tryd.ntmps40
  go_wp2_with (go_at_call 59; (with_reducible refine HC.out.mono ?_); rintro e w2 ⟨rfl, hf2⟩; have HF2 := Lib.hid (HF.out.then0 hf2); clear hf2)
  go_ret
  exact ⟨rfl, HF.out⟩

set_option maxHeartbeats 2000000 in
set_option maxRecDepth 100000 in
theorem formed_mid (d : Dk) (sa : Option Addr) (sc : Nat) (ca : Option Addr) (cc : Nat) (w : World) (hok : d.ok) (hv : DV w d sa sc ca cc) (h : 1 ≤ d.S.length ∧ d.S.length ≤ 4096) : Calls Tryd.prog 40 #[.agg (dval d sa sc ca cc)] w fun e w' => e = .returned (.bool (allThere d.S.length d.C)) ∧ Fr0 w w' := by
  have c0 : decide (0 < d.S.length) = true := decide_eq_true (by omega)
  have c1 : decide ((d.S.length : Int) ≤ 4096) = true := decide_eq_true (by omega)
  have hm := hv.sm
  have hsn := hv.sn
  have hs1 : (w.alloc (.cells (dval d sa sc ca cc) 29)).heap.size = w.heap.size + 1 := by simp
  have HF : Hid (Fr0 w ((w.alloc (.cells (dval d sa sc ca cc) 29)).alloc (.cells #[.int .i64 d.S.length] 3))) := Lib.hid (Fr.alloc (Fr.alloc (Fr.refl _ _) _) _)
  have HC := Lib.hid (cf_calls d.S.length (w.heap.size + 1) d.C ca cc ((w.alloc (.cells (dval d sa sc ca cc) 29)).alloc (.cells #[.int .i64 d.S.length] 3)) (RdG.keep hv.rc HF.out) hok.c hv.cn hv.cm (by have := Bk.new (w.alloc (.cells (dval d sa sc ca cc) 29)) (.cells #[.int .i64 d.S.length] 3); rw [hs1] at this; exact (Bk.cell this 0)))
  have hmf : ∀ (fn : Fn) (first cap : Array Value) (W : World), (Instr.makeFunc fn first cap).run Tryd.prog W = .ok (.func fn first cap) W := fun _ _ _ _ => rfl
  clear hv hok hs1 h
  obtain ⟨SS, CC, ff, dd⟩ := d
  dsimp only [dval] at *
  go_enter Tryd.func40, Tryd.ntmps40
  go_wp2_with (go_at_call 59; (with_reducible refine HC.out.mono ?_); rintro e w2 ⟨rfl, hf2⟩; have HF2 := Lib.hid (HF.out.then0 hf2); clear hf2)
  go_ret
  exact ⟨rfl, HF2.out⟩

theorem formed_calls (d : Dk) (sa : Option Addr) (sc : Nat) (ca : Option Addr) (cc : Nat) (w : World) (hok : d.ok) (hv : DV w d sa sc ca cc) : Calls Tryd.prog 40 #[.agg (dval d sa sc ca cc)] w fun e w' => e = .returned (.bool (formedB d)) ∧ Fr0 w w' := by
  by_cases h0 : d.S.length = 0
  · rw [formed_no (by omega)]; exact formed_small d sa sc ca cc w hok hv h0
  · by_cases h1 : d.S.length ≤ 4096
    · have := formed_mid d sa sc ca cc w hok hv ⟨by omega, h1⟩
      rw [show formedB d = allThere d.S.length d.C by rw [formedB, decide_eq_true (by omega : 1 ≤ d.S.length ∧ d.S.length ≤ 4096), Bool.and_true]]
      exact this
    · rw [formed_no (by omega)]; exact formed_large d sa sc ca cc w hok hv (by omega)

set_option maxHeartbeats 2000000 in
set_option maxRecDepth 100000 in
theorem right_neg (p : Nat) (a : Int) (d : Dk) (sa : Option Addr) (sc : Nat) (ca : Option Addr) (cc : Nat) (w : World) (hok : d.ok) (hv : DAt w p d sa sc ca cc) (h : a < 0) : Calls Tryd.prog 20 #[.pointer (some ⟨p, 0, none⟩), .int .i64 a] w fun e w' => e = .returned (.bool false) ∧ Fr0 w w' := by
  have c0 : decide (0 ≤ a) = false := decide_eq_false (by omega)
  have hm := hv.v.sm
  have hsn := hv.v.sn
  have HC := Lib.hid (formed_calls d sa sc ca cc w hok hv.v)
  have HB := Lib.hid hv.blk
  clear hv hok h
  obtain ⟨SS, CC, ff, dd⟩ := d
  dsimp only [dval] at *
  have q0 : w.cell? ⟨p, 0, none⟩ = some (.slice sa SS.length sc) := Bk.cell HB.out 0
  generalize formedB _ = FB at *
  go_enter Tryd.func20, Tryd.ntmps20
  go_wp2_with (first | ((with_reducible show wpList _ _ _ ({ dst := _, op := Op.load 29 _, type := _, pos := _, after := _, guard := _ } :: _) _ _); refine wpList_load_row_g (by rfl) 29 _ rfl p rfl 29 _ (0, 0) _ HB.out Tryd.underlying29 rfl info_d ?_) | (go_at_call 40; (with_reducible refine HC.out.mono ?_); rintro e w2 ⟨rfl, hf2⟩; have HF2 := Lib.hid hf2; clear hf2))
  go_ret
  exact ⟨rfl, Fr.refl _ _⟩

set_option maxHeartbeats 2000000 in
set_option maxRecDepth 100000 in
theorem right_out (p : Nat) (a : Int) (d : Dk) (sa : Option Addr) (sc : Nat) (ca : Option Addr) (cc : Nat) (w : World) (hok : d.ok) (hv : DAt w p d sa sc ca cc) (h : 0 ≤ a ∧ (d.S.length : Int) ≤ a) : Calls Tryd.prog 20 #[.pointer (some ⟨p, 0, none⟩), .int .i64 a] w fun e w' => e = .returned (.bool false) ∧ Fr0 w w' := by
  have c0 : decide (0 ≤ a) = true := decide_eq_true h.1
  have c1 : decide (a < (d.S.length : Int)) = false := decide_eq_false (by omega)
  have hm := hv.v.sm
  have hsn := hv.v.sn
  have HC := Lib.hid (formed_calls d sa sc ca cc w hok hv.v)
  have HB := Lib.hid hv.blk
  clear hv hok h
  obtain ⟨SS, CC, ff, dd⟩ := d
  dsimp only [dval] at *
  have q0 : w.cell? ⟨p, 0, none⟩ = some (.slice sa SS.length sc) := Bk.cell HB.out 0
  generalize formedB _ = FB at *
  go_enter Tryd.func20, Tryd.ntmps20
  go_wp2_with (first | ((with_reducible show wpList _ _ _ ({ dst := _, op := Op.load 29 _, type := _, pos := _, after := _, guard := _ } :: _) _ _); refine wpList_load_row_g (by rfl) 29 _ rfl p rfl 29 _ (0, 0) _ HB.out Tryd.underlying29 rfl info_d ?_) | (go_at_call 40; (with_reducible refine HC.out.mono ?_); rintro e w2 ⟨rfl, hf2⟩; have HF2 := Lib.hid hf2; clear hf2))
  go_ret
  exact ⟨rfl, Fr.refl _ _⟩

set_option maxHeartbeats 2000000 in
set_option maxRecDepth 100000 in
theorem right_in (p : Nat) (a : Int) (d : Dk) (sa : Option Addr) (sc : Nat) (ca : Option Addr) (cc : Nat) (w : World) (hok : d.ok) (hv : DAt w p d sa sc ca cc) (h : 0 ≤ a ∧ a < d.S.length) : Calls Tryd.prog 20 #[.pointer (some ⟨p, 0, none⟩), .int .i64 a] w fun e w' => e = .returned (.bool (formedB d)) ∧ Fr0 w w' := by
  have c0 : decide (0 ≤ a) = true := decide_eq_true h.1
  have c1 : decide (a < (d.S.length : Int)) = true := decide_eq_true h.2
  have hm := hv.v.sm
  have hsn := hv.v.sn
  have HC := Lib.hid (formed_calls d sa sc ca cc w hok hv.v)
  have HB := Lib.hid hv.blk
  clear hv hok h
  obtain ⟨SS, CC, ff, dd⟩ := d
  dsimp only [dval] at *
  have q0 : w.cell? ⟨p, 0, none⟩ = some (.slice sa SS.length sc) := Bk.cell HB.out 0
  generalize formedB _ = FB at *
  go_enter Tryd.func20, Tryd.ntmps20
  go_wp2_with (first | ((with_reducible show wpList _ _ _ ({ dst := _, op := Op.load 29 _, type := _, pos := _, after := _, guard := _ } :: _) _ _); refine wpList_load_row_g (by rfl) 29 _ rfl p rfl 29 _ (0, 0) _ HB.out Tryd.underlying29 rfl info_d ?_) | (go_at_call 40; (with_reducible refine HC.out.mono ?_); rintro e w2 ⟨rfl, hf2⟩; have HF2 := Lib.hid hf2; clear hf2))
  go_ret
  exact ⟨rfl, HF2.out⟩

/-- RIGHT: what disk.right answers. -/
theorem right_calls (p : Nat) (a : Int) (d : Dk) (sa : Option Addr) (sc : Nat) (ca : Option Addr) (cc : Nat) (w : World) (hok : d.ok) (hv : DAt w p d sa sc ca cc) : Calls Tryd.prog 20 #[.pointer (some ⟨p, 0, none⟩), .int .i64 a] w fun e w' => e = .returned (.bool (rightB d a)) ∧ Fr0 w w' := by
  unfold rightB
  by_cases h0 : 0 ≤ a
  · by_cases h1 : a < d.S.length
    · rw [thereB_true.2 ⟨h0, h1⟩, Bool.true_and]; exact right_in p a d sa sc ca cc w hok hv ⟨h0, h1⟩
    · rw [thereB_false.2 (by omega), Bool.false_and]; exact right_out p a d sa sc ca cc w hok hv ⟨h0, by omega⟩
  · rw [thereB_false.2 (by omega), Bool.false_and]; exact right_neg p a d sa sc ca cc w hok hv (by omega)

end Go.Proofs.YtmkmpfnadcmcoaaDoor.DiskForm
namespace Go.Proofs.YtmkmpfnadcmcoaaDoor.DiskAct
open Go Go.RowKit Go.Proofs.YtmkmpfnadcmcoaaDoor.K Go.Proofs.YtmkmpfnadcmcoaaDoor.EqKit Go.Proofs.YtmkmpfnadcmcoaaDoor.ArrKit Go.Proofs.YtmkmpfnadcmcoaaDoor.HeldKit Go.Proofs.YtmkmpfnadcmcoaaDoor.GKit Go.Proofs.YtmkmpfnadcmcoaaDoor.GRow Go.Proofs.YtmkmpfnadcmcoaaDoor.DiskKit Go.Proofs.YtmkmpfnadcmcoaaDoor.DiskAsk Go.Proofs.YtmkmpfnadcmcoaaDoor.DiskForm
theorem DAt.setF {w : World} {p : Nat} {d : Dk} {sa : Option Addr} {sc : Nat} {ca : Option Addr} {cc : Nat} (h : DAt w p d sa sc ca cc) (hok : d.ok) (f : Int) : DAt (w.setCell ⟨p, 2, none⟩ (.int .i64 f)) p { d with fuse := f } sa sc ca cc :=
  ⟨Bk.set h.blk 2 _, by
    have := h.v.past hok (Fr.set (Fr.refl (fun i => i = p) w) ⟨p, 2, none⟩ (.int .i64 f) (.inr rfl)) h.blk (dval_no _ _ _ _ _)
    exact ⟨this.rs, this.rc, this.sn, this.sm, this.cn, this.cm⟩⟩
theorem DAt.setDn {w : World} {p : Nat} {d : Dk} {sa : Option Addr} {sc : Nat} {ca : Option Addr} {cc : Nat} (h : DAt w p d sa sc ca cc) (hok : d.ok) (b : Bool) : DAt (w.setCell ⟨p, 3, none⟩ (.bool b)) p { d with down := b } sa sc ca cc :=
  ⟨Bk.set h.blk 3 _, by
    have := h.v.past hok (Fr.set (Fr.refl (fun i => i = p) w) ⟨p, 3, none⟩ (.bool b) (.inr rfl)) h.blk (dval_no _ _ _ _ _)
    exact ⟨this.rs, this.rc, this.sn, this.sm, this.cn, this.cm⟩⟩
/-- the disk in the variable p is d now, with the slices that it had; nothing else is changed -/
structure Aft (w w' : World) (p : Nat) (d : Dk) (sa : Option Addr) (sc : Nat) (ca : Option Addr) (cc : Nat) : Prop where
  at_ : DAt w' p d sa sc ca cc
  fr : Fr (fun i => i = p) w w'
/-- the disk in the variable p is d now; nothing else is changed -/
structure Now (w w' : World) (p : Nat) (d : Dk) : Prop where
  at_ : DIn w' p d
  fr : Fr (fun i => i = p) w w'
theorem Aft.now {w w' : World} {p : Nat} {d : Dk} {sa : Option Addr} {sc : Nat} {ca : Option Addr} {cc : Nat} (h : Aft w w' p d sa sc ca cc) : Now w w' p d := ⟨⟨sa, sc, ca, cc, h.at_⟩, h.fr⟩
theorem actD_ok {d : Dk} (h : d.ok) : (actD d).ok := by
  unfold actD
  have hf := h.f
  simp [Lit.wf, IntKind.min, IntKind.max, IntKind.signed, IntKind.bits] at hf
  repeat' split
  · exact h
  · exact ⟨h.s, h.c, h.f⟩
  · refine ⟨h.s, h.c, ?_⟩
    simp [Lit.wf, IntKind.min, IntKind.max, IntKind.signed, IntKind.bits]
    omega
  · exact h
theorem actD_S (d : Dk) : (actD d).S = d.S := by unfold actD; split; rfl; split; rfl; split <;> rfl
theorem actD_C (d : Dk) : (actD d).C = d.C := by unfold actD; split; rfl; split; rfl; split <;> rfl

set_option maxHeartbeats 2000000 in
set_option maxRecDepth 100000 in
theorem spend_down (p : Nat) (d : Dk) (sa : Option Addr) (sc : Nat) (ca : Option Addr) (cc : Nat) (w : World) (hok : d.ok) (hv : DAt w p d sa sc ca cc) (hd : d.down = true) : Calls Tryd.prog 21 #[.pointer (some ⟨p, 0, none⟩)] w fun e w' => e = .returned (.int .i64 3) ∧ Aft w w' p d sa sc ca cc := by
  have q2 : w.cell? ⟨p, 2, none⟩ = some (.int .i64 d.fuse) := Bk.cell hv.blk 2
  have q3 : w.cell? ⟨p, 3, none⟩ = some (.bool d.down) := Bk.cell hv.blk 3
  have f2 := Bk.free hv.blk 2
  have f3 := Bk.free hv.blk 3
  have HV := Lib.hid hv
  have HOK := Lib.hid hok
  have HDD := Lib.hid hd
  rw [hd] at q3
  clear hv hok hd
  go_enter Tryd.func21, Tryd.ntmps21
  go_wp2
  go_ret
  exact ⟨rfl, HV.out, Fr.refl _ _⟩

set_option maxHeartbeats 2000000 in
set_option maxRecDepth 100000 in
theorem spend_zero (p : Nat) (d : Dk) (sa : Option Addr) (sc : Nat) (ca : Option Addr) (cc : Nat) (w : World) (hok : d.ok) (hv : DAt w p d sa sc ca cc) (hd : d.down = false) (hf : (d.fuse == 0) = true) : Calls Tryd.prog 21 #[.pointer (some ⟨p, 0, none⟩)] w fun e w' => e = .returned (.int .i64 3) ∧ Aft w w' p { d with down := true } sa sc ca cc := by
  have q2 : w.cell? ⟨p, 2, none⟩ = some (.int .i64 d.fuse) := Bk.cell hv.blk 2
  have q3 : w.cell? ⟨p, 3, none⟩ = some (.bool d.down) := Bk.cell hv.blk 3
  have f2 := Bk.free hv.blk 2
  have f3 := Bk.free hv.blk 3
  have HV := Lib.hid hv
  have HOK := Lib.hid hok
  have HDD := Lib.hid hd
  rw [hd] at q3
  clear hv hok hd
  go_enter Tryd.func21, Tryd.ntmps21
  go_wp2
  go_ret
  exact ⟨rfl, DAt.setDn HV.out HOK.out true, Fr.set (Fr.refl _ _) _ _ (.inr rfl)⟩

set_option maxHeartbeats 2000000 in
set_option maxRecDepth 100000 in
theorem spend_pos (p : Nat) (d : Dk) (sa : Option Addr) (sc : Nat) (ca : Option Addr) (cc : Nat) (w : World) (hok : d.ok) (hv : DAt w p d sa sc ca cc) (hd : d.down = false) (hf : 0 < d.fuse) : Calls Tryd.prog 21 #[.pointer (some ⟨p, 0, none⟩)] w fun e w' => e = .returned (.int .i64 0) ∧ Aft w w' p { d with fuse := d.fuse - 1 } sa sc ca cc := by
  have c0 : (d.fuse == 0) = false := by simp; omega
  have hw := hok.f
  simp [Lit.wf, IntKind.min, IntKind.max, IntKind.signed, IntKind.bits] at hw
  obtain ⟨hw1, hw2⟩ := hw
  have q2 : w.cell? ⟨p, 2, none⟩ = some (.int .i64 d.fuse) := Bk.cell hv.blk 2
  have q3 : w.cell? ⟨p, 3, none⟩ = some (.bool d.down) := Bk.cell hv.blk 3
  have f2 := Bk.free hv.blk 2
  have f3 := Bk.free hv.blk 3
  have HV := Lib.hid hv
  have HOK := Lib.hid hok
  have HDD := Lib.hid hd
  rw [hd] at q3
  clear hv hok hd
  go_enter Tryd.func21, Tryd.ntmps21
  go_wp2
  go_ret
  exact ⟨rfl, DAt.setF HV.out HOK.out (d.fuse - 1), Fr.set (Fr.refl _ _) _ _ (.inr rfl)⟩

set_option maxHeartbeats 2000000 in
set_option maxRecDepth 100000 in
theorem spend_neg (p : Nat) (d : Dk) (sa : Option Addr) (sc : Nat) (ca : Option Addr) (cc : Nat) (w : World) (hok : d.ok) (hv : DAt w p d sa sc ca cc) (hd : d.down = false) (hf : d.fuse < 0) : Calls Tryd.prog 21 #[.pointer (some ⟨p, 0, none⟩)] w fun e w' => e = .returned (.int .i64 0) ∧ Aft w w' p d sa sc ca cc := by
  have c0 : (d.fuse == 0) = false := by simp; omega
  have c1 : decide (0 < d.fuse) = false := decide_eq_false (by omega)
  have q2 : w.cell? ⟨p, 2, none⟩ = some (.int .i64 d.fuse) := Bk.cell hv.blk 2
  have q3 : w.cell? ⟨p, 3, none⟩ = some (.bool d.down) := Bk.cell hv.blk 3
  have f2 := Bk.free hv.blk 2
  have f3 := Bk.free hv.blk 3
  have HV := Lib.hid hv
  have HOK := Lib.hid hok
  have HDD := Lib.hid hd
  rw [hd] at q3
  clear hv hok hd
  go_enter Tryd.func21, Tryd.ntmps21
  go_wp2
  go_ret
  exact ⟨rfl, HV.out, Fr.refl _ _⟩

theorem spend_calls (p : Nat) (d : Dk) (sa : Option Addr) (sc : Nat) (ca : Option Addr) (cc : Nat) (w : World) (hok : d.ok) (hv : DAt w p d sa sc ca cc) : Calls Tryd.prog 21 #[.pointer (some ⟨p, 0, none⟩)] w fun e w' => e = .returned (.int .i64 (actE d)) ∧ Aft w w' p (actD d) sa sc ca cc := by
  unfold actE actD
  cases hd : d.down with
  | true =>
    rw [if_pos (.inl rfl), if_pos rfl]
    exact spend_down p d sa sc ca cc w hok hv hd
  | false =>
    rw [if_neg (by simp : ¬ (false = true)) (t := d)]
    by_cases h0 : d.fuse = 0
    · rw [if_pos (.inr h0), if_pos h0]
      exact spend_zero p d sa sc ca cc w hok hv hd (by simp [h0])
    · rw [if_neg (by simp [h0]), if_neg h0]
      by_cases h1 : 0 < d.fuse
      · rw [if_pos h1]; have h2 := spend_pos p d sa sc ca cc w hok hv hd h1; rw [hd] at h2; exact h2
      · rw [if_neg h1]; exact spend_neg p d sa sc ca cc w hok hv hd (by omega)

theorem Aft.then0 {w w1 w2 : World} {p : Nat} {d : Dk} {sa : Option Addr} {sc : Nat} {ca : Option Addr} {cc : Nat} (f : Fr0 w w1) (h : Aft w1 w2 p d sa sc ca cc) : Aft w w2 p d sa sc ca cc := ⟨h.at_, (f.weaken (S' := fun i => i = p) (fun _ _ h => h.elim)).trans h.fr⟩
theorem Aft.same {w w1 : World} {p : Nat} {d : Dk} {sa : Option Addr} {sc : Nat} {ca : Option Addr} {cc : Nat} (h : DAt w p d sa sc ca cc) (f : Fr0 w w1) : Aft w w1 p d sa sc ca cc := ⟨h.keep f, f.weaken (fun _ _ h => h.elim)⟩

end Go.Proofs.YtmkmpfnadcmcoaaDoor.DiskAct
namespace Go.Proofs.YtmkmpfnadcmcoaaDoor.DiskNew
open Go Go.RowKit Go.Proofs.YtmkmpfnadcmcoaaDoor.K Go.Proofs.YtmkmpfnadcmcoaaDoor.EqKit Go.Proofs.YtmkmpfnadcmcoaaDoor.ArrKit Go.Proofs.YtmkmpfnadcmcoaaDoor.HeldKit Go.Proofs.YtmkmpfnadcmcoaaDoor.GKit Go.Proofs.YtmkmpfnadcmcoaaDoor.GRow Go.Proofs.YtmkmpfnadcmcoaaDoor.DiskKit Go.Proofs.YtmkmpfnadcmcoaaDoor.DiskAsk Go.Proofs.YtmkmpfnadcmcoaaDoor.DiskForm Go.Proofs.YtmkmpfnadcmcoaaDoor.DiskAct
def newD (n : Int) : Dk := if 1 ≤ n ∧ n ≤ 4096 then ⟨List.replicate n.toNat Zs, [], -1, false⟩ else ⟨[], [], 0, false⟩
def newE (n : Int) : Int := if 1 ≤ n ∧ n ≤ 4096 then 0 else 1
theorem newD_ok (n : Int) : (newD n).ok := by
  unfold newD
  split
  · exact ⟨fun x hx => by rw [(List.mem_replicate.1 hx).2]; exact Zs_ok, fun x hx => by simp at hx, (show (Lit.int .i64 (-1)).wf = true by decide)⟩
  · exact ⟨fun x hx => by simp at hx, fun x hx => by simp at hx, (by decide)⟩
/-- a disk handed back -/
def Gives (w w' : World) (d : Dk) (e : Ending) (x : Int) : Prop := ∃ sa sc ca cc, e = .returned (.tuple #[.agg (dval d sa sc ca cc), .int .i64 x]) ∧ DV w' d sa sc ca cc ∧ Fr0 w w'
theorem DC_one (a b : Option Addr) (n m c k : Nat) (f : Int) (dn : Bool) : (DC (.slice a n c) (.slice b m k) f dn).all (·.oneCell') = true := by simp [Value.oneCell']
def DZ : Array Value := DC (.slice none 0 0) (.slice none 0 0) 0 false
def ZSC : Array Value := Zs.cells.toArray
theorem infoS : (Tryd.prog.info? 46).map (fun i => (i.zero, i.size, i.bytes)) = some (some (.agg ZSC), 130, 130) := by kernel_rfl
theorem made_get (n i : Nat) (h : i < n) : (madeCells ZSC n)[i]? = Zs.cells[i % 130]? := by
  have hz : ZSC.size = 130 := by rw [ZSC, List.size_toArray, Sec.len Zs_ok]
  have hm : i % 130 < ZSC.size := by rw [hz]; omega
  have hm2 : i % 130 < Zs.cells.length := by rw [Sec.len Zs_ok]; omega
  rw [madeCells, Array.getElem?_map, Array.getElem?_range, if_pos h, Option.map_some, hz, getElem!_pos ZSC _ hm]
  simp [ZSC]
theorem made_rd (w : World) (g n : Nat) {cs : Array Value} (hcs : madeCells ZSC (n * 130) = cs) (h : Bk w g cs 46) : RdS w (some ⟨g, 0, none⟩) (List.replicate n Zs) := RdG.of fun i hi j u hj => by
  subst hcs
  rw [List.length_replicate] at hi
  rw [List.getElem_replicate] at hj
  have hj' : j < 130 := by
    have := (List.getElem?_eq_some_iff.1 hj).1
    rwa [Sec.len Zs_ok] at this
  rw [Bk.cell h, made_get _ _ (by omega), show (0 + i * 130 + j) % 130 = j by omega]
  exact hj

set_option maxHeartbeats 2000000 in
set_option maxRecDepth 100000 in
theorem new_low (n : Int) (w : World) (h : n < 1) : Calls Tryd.prog 14 #[.int .i64 n] w fun e w' => Gives w w' (newD n) e (newE n) := by
  have hz : ∀ W, (zeroValue 29).run Tryd.prog W = .ok (.agg DZ) W := by intro W; kernel_rfl
  have c0 : decide (n < 1) = true := decide_eq_true h
  have HB : Hid (Bk (w.alloc (.cells DZ 29)) w.heap.size DZ 29) := Lib.hid (Bk.new w _)
  go_enter Tryd.func14, Tryd.ntmps14
  go_wp2_with (first | (((with_reducible show wpList _ _ _ ({ dst := _, op := Op.build 29 #[], type := _, pos := _, after := _, guard := _ } :: _) _ _)); refine build_eq rfl 29 _ rfl DZ (by kernel_rfl) ?_) | ((with_reducible show wpList _ _ _ ({ dst := _, op := Op.store 29 _ _, type := _, pos := _, after := _, guard := _ } :: _) _ _); refine wpList_store_row rfl 29 _ _ rfl w.heap.size DZ rfl rfl 29 DZ HB.out info_d rfl (DC_one _ _ _ _ _ _ _ _) ?_))
  refine fin_ct w.heap.size 29 DZ (.int .i64 1) (by rfl) (by rfl) (by rfl) (by rfl) Tryd.underlying29 (by rfl) info_d (ArrKit.Bk.row HB.out DZ) ?_
  rw [newD, newE, if_neg (by omega), if_neg (by omega)]
  exact ⟨none, 0, none, 0, rfl, ⟨RdG.nil _ _, RdG.nil _ _, by decide, by decide, by decide, by decide⟩, ArrKit.Fr.row (Fr.alloc (Fr.refl _ _) _) _ _ (.inl (Nat.le_refl _))⟩

set_option maxHeartbeats 2000000 in
set_option maxRecDepth 100000 in
theorem new_high (n : Int) (w : World) (h : 4096 < n) : Calls Tryd.prog 14 #[.int .i64 n] w fun e w' => Gives w w' (newD n) e (newE n) := by
  have hz : ∀ W, (zeroValue 29).run Tryd.prog W = .ok (.agg DZ) W := by intro W; kernel_rfl
  have c0 : decide (n < 1) = false := decide_eq_false (by omega)
  have c1 : decide (4096 < n) = true := decide_eq_true (by omega)
  have HB : Hid (Bk (w.alloc (.cells DZ 29)) w.heap.size DZ 29) := Lib.hid (Bk.new w _)
  go_enter Tryd.func14, Tryd.ntmps14
  go_wp2_with (first | (((with_reducible show wpList _ _ _ ({ dst := _, op := Op.build 29 #[], type := _, pos := _, after := _, guard := _ } :: _) _ _)); refine build_eq rfl 29 _ rfl DZ (by kernel_rfl) ?_) | ((with_reducible show wpList _ _ _ ({ dst := _, op := Op.store 29 _ _, type := _, pos := _, after := _, guard := _ } :: _) _ _); refine wpList_store_row rfl 29 _ _ rfl w.heap.size DZ rfl rfl 29 DZ HB.out info_d rfl (DC_one _ _ _ _ _ _ _ _) ?_))
  refine fin_ct w.heap.size 29 DZ (.int .i64 1) (by rfl) (by rfl) (by rfl) (by rfl) Tryd.underlying29 (by rfl) info_d (ArrKit.Bk.row HB.out DZ) ?_
  rw [newD, newE, if_neg (by omega), if_neg (by omega)]
  exact ⟨none, 0, none, 0, rfl, ⟨RdG.nil _ _, RdG.nil _ _, by decide, by decide, by decide, by decide⟩, ArrKit.Fr.row (Fr.alloc (Fr.refl _ _) _) _ _ (.inl (Nat.le_refl _))⟩

set_option maxHeartbeats 2000000 in
set_option maxRecDepth 100000 in
theorem new_good (n : Int) (w : World) (h : 1 ≤ n ∧ n ≤ 4096) : Calls Tryd.prog 14 #[.int .i64 n] w fun e w' => Gives w w' (newD n) e (newE n) := by
  have hz : ∀ W, (zeroValue 29).run Tryd.prog W = .ok (.agg DZ) W := by intro W; kernel_rfl
  obtain ⟨m, rfl⟩ : ∃ m : Nat, n = m := ⟨n.toNat, by omega⟩
  have c0 : decide ((m : Int) < 1) = false := decide_eq_false (by omega)
  have c1 : decide ((4096 : Int) < (m : Int)) = false := decide_eq_false (by omega)
  obtain ⟨i0, hi, hz0, hz1, hz2⟩ := info_parts infoS
  have hmk : ∀ W : World, (Instr.makeSlice 26 (.int .i64 (m : Int)) (.int .i64 (m : Int))).run Tryd.prog W = .ok (.slice (some ⟨W.heap.size, 0, none⟩) m m) (W.alloc (.cells (madeCells ZSC (m * 130)) 46)) := fun W => by
    have := run_make (P := Tryd.prog) W 26 46 i0 (.agg ZSC) Tryd.underlying26 hi hz0 .i64 .i64 m m (by omega) (by omega) (by rw [hz2]; omega) (by omega)
    rw [hz1, Int.toNat_natCast] at this
    exact this
  have hs1 : (w.alloc (.cells DZ 29)).heap.size = w.heap.size + 1 := by simp
  have hbd : Tryd.prog.built 29 [(0, .slice (some ⟨w.heap.size + 1, 0, none⟩) m m), (2, .int .i64 (-1))] = some (DC (.slice (some ⟨w.heap.size + 1, 0, none⟩) m m) (.slice none 0 0) (-1) false) := by kernel_rfl
  generalize hMC : madeCells ZSC (m * 130) = MC at *
  have HMC := Lib.hid hMC
  have HB : Hid (Bk ((w.alloc (.cells DZ 29)).alloc (.cells MC 46)) w.heap.size DZ 29) := Lib.hid (Bk.alloc (Bk.new w _) _)
  have HM : Hid (Bk ((w.alloc (.cells DZ 29)).alloc (.cells MC 46)) (w.heap.size + 1) MC 46) := Lib.hid (by have := Bk.new (w.alloc (.cells DZ 29)) (.cells MC 46); rwa [hs1] at this)
  have HF : Hid (Fr0 w ((w.alloc (.cells DZ 29)).alloc (.cells MC 46))) := Lib.hid (Fr.alloc (Fr.alloc (Fr.refl _ _) _) _)
  clear hMC hi hz0 hz1 hz2 hs1
  have HH := Lib.hid h
  clear h
  go_enter Tryd.func14, Tryd.ntmps14
  go_wp2_with (first | ((with_reducible show wpList _ _ _ ({ dst := _, op := Op.build 29 _, type := _, pos := _, after := _, guard := _ } :: _) _ _); refine build_ev rfl 29 _ rfl [(0, .slice (some ⟨w.heap.size + 1, 0, none⟩) m m), (2, .int .i64 (-1))] (by simp [Act.eval, Act.put]) (DC (.slice (some ⟨w.heap.size + 1, 0, none⟩) m m) (.slice none 0 0) (-1) false) hbd ?_) | ((with_reducible show wpList _ _ _ ({ dst := _, op := Op.store 29 _ _, type := _, pos := _, after := _, guard := _ } :: _) _ _); refine wpList_store_row rfl 29 _ _ rfl w.heap.size (DC (.slice (some ⟨w.heap.size + 1, 0, none⟩) m m) (.slice none 0 0) (-1) false) rfl rfl 29 DZ HB.out info_d rfl (DC_one _ _ _ _ _ _ _ _) ?_))
  have HN : Hid (Fr (fun i => i = w.heap.size) ((w.alloc (.cells DZ 29)).alloc (.cells MC 46)) (((w.alloc (.cells DZ 29)).alloc (.cells MC 46)).setRow w.heap.size (DC (.slice (some ⟨w.heap.size + 1, 0, none⟩) m m) (.slice none 0 0) (-1) false))) := Lib.hid (ArrKit.Fr.row (Fr.refl _ _) _ _ (.inr rfl))
  refine fin_ct w.heap.size 29 (DC (.slice (some ⟨w.heap.size + 1, 0, none⟩) m m) (.slice none 0 0) (-1) false) (.int .i64 0) (by rfl) (by rfl) (by rfl) (by rfl) Tryd.underlying29 (by rfl) info_d (ArrKit.Bk.row HB.out _) ?_
  have hM := HN.out.keep HM.out (by omega)
  have hh := HH.out
  rw [newD, newE, if_pos hh, if_pos hh, Int.toNat_natCast]
  refine ⟨some ⟨w.heap.size + 1, 0, none⟩, m, none, 0, by simp [dval], ⟨made_rd _ _ _ HMC.out hM, RdG.nil _ _, by simp, by omega, Nat.le_refl _, by omega⟩, ArrKit.Fr.row HF.out _ _ (.inl (Nat.le_refl _))⟩

theorem new_calls (n : Int) (w : World) : Calls Tryd.prog 14 #[.int .i64 n] w fun e w' => Gives w w' (newD n) e (newE n) := by
  by_cases h0 : n < 1
  · exact new_low n w h0
  · by_cases h1 : 4096 < n
    · exact new_high n w h1
    · exact new_good n w (by omega)

end Go.Proofs.YtmkmpfnadcmcoaaDoor.DiskNew
