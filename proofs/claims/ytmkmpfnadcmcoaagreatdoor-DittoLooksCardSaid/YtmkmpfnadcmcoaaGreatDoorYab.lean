/- The theorems that the claim uses, text behind text (part 2). -/
import Derived.Test.YtmkmpfnadcmcoaaGreatDoorYaa
import Derived.Test.YtmkmpfnadcmcoaaGreatDoorProg
set_option maxRecDepth 100000
set_option maxHeartbeats 8000000
set_option linter.unusedVariables false
set_option linter.unusedSimpArgs false
namespace Go.Proofs.YtmkmpfnadcmcoaaGreatDoor.DiskKit
open Go Go.RowKit K EqKit ArrKit HeldKit GKit GRow
structure Sec where
 data : List UInt8
 nr : Bool
 nw : Bool
structure Wri where
 pos : Int
 data : List UInt8
structure Dk where
 S : List Sec
 C : List Wri
 fuse : Int
 down : Bool
def Sec.cells (s : Sec) : List Value := s.data.map B ++ [.bool s.nr, .bool s.nw]
def Wri.cells (x : Wri) : List Value := .int .i64 x.pos :: x.data.map B
def Sec.ok (s : Sec) : Prop := s.data.length = 128
structure Wri.ok (x : Wri) : Prop where
 len : x.data.length = 128
 wf : (Lit.int .i64 x.pos).wf = true
structure Dk.ok (d : Dk) : Prop where
 s : ∀ x ∈ d.S, x.ok
 c : ∀ x ∈ d.C, x.ok
 f : (Lit.int .i64 d.fuse).wf = true
def RdS : World → Option Addr → List Sec → Prop := RdG Sec.cells 130
def RdC : World → Option Addr → List Wri → Prop := RdG Wri.cells 129
theorem Sec.pos (s : Sec) : 0 < s.cells.length := by simp [Sec.cells]
theorem Wri.ps (x : Wri) : 0 < x.cells.length := by simp [Wri.cells]
theorem Sec.len {s : Sec} (h : s.ok) : s.cells.length = 130 := by simp [Sec.cells, show s.data.length = 128 from h]
theorem Wri.leng {x : Wri} (h : x.ok) : x.cells.length = 129 := by simp [Wri.cells, h.len]
theorem Sec.one (s : Sec) : ∀ v ∈ s.cells, v.oneCell' = true := by
 intro v hv
 simp only [Sec.cells, List.mem_append, List.mem_map, List.mem_cons, List.not_mem_nil, or_false] at hv
 rcases hv with ⟨x, -, rfl⟩ | rfl | rfl <;> rfl
theorem Wri.one (x : Wri) : ∀ v ∈ x.cells, v.oneCell' = true := by
 intro v hv
 simp only [Wri.cells, List.mem_cons, List.mem_map] at hv
 rcases hv with rfl | ⟨x, -, rfl⟩ <;> rfl
theorem Sec.nr_at {s : Sec} (h : s.ok) : s.cells[128]? = some (.bool s.nr) := by
 rw [Sec.cells, List.getElem?_append_right (by simp [show s.data.length = 128 from h]), List.length_map, show s.data.length = 128 from h];rfl
theorem Sec.nw_at {s : Sec} (h : s.ok) : s.cells[129]? = some (.bool s.nw) := by
 rw [Sec.cells, List.getElem?_append_right (by simp [show s.data.length = 128 from h]), List.length_map, show s.data.length = 128 from h];rfl
theorem Sec.data_at {s : Sec} (h : s.ok) {j : Nat} (hj : j < 128) : s.cells[j]? = (s.data.map B)[j]? := by
 rw [Sec.cells, List.getElem?_append_left (by simp [show s.data.length = 128 from h];omega)]
theorem Wri.pos_at (x : Wri) : x.cells[0]? = some (.int .i64 x.pos) := rfl
theorem Wri.data_at (x : Wri) (j : Nat) : x.cells[j + 1]? = (x.data.map B)[j]? := by rw [Wri.cells, List.getElem?_cons_succ]
abbrev DC (sv cv : Value) (f : Int) (dn : Bool) : Array Value := #[sv, cv, .int .i64 f, .bool dn]
structure DV (w : World) (d : Dk) (sa : Option Addr) (sc : Nat) (ca : Option Addr) (cc : Nat) : Prop where
 rs : RdS w sa d.S
 rc : RdC w ca d.C
 sn : d.S.length ≤ sc
 sm : sc ≤ 9223372036854775807
 cn : d.C.length ≤ cc
 cm : cc ≤ 9223372036854775807
def dval (d : Dk) (sa : Option Addr) (sc : Nat) (ca : Option Addr) (cc : Nat) : Array Value := DC (.slice sa d.S.length sc) (.slice ca d.C.length cc) d.fuse d.down
structure DAt (w : World) (p : Nat) (d : Dk) (sa : Option Addr) (sc : Nat) (ca : Option Addr) (cc : Nat) : Prop where
 blk : Bk w p (dval d sa sc ca cc) 25
 v : DV w d sa sc ca cc
def DIn (w : World) (p : Nat) (d : Dk) : Prop := ∃ sa sc ca cc, DAt w p d sa sc ca cc
theorem DV.keep {w w1 : World} {d : Dk} {sa : Option Addr} {sc : Nat} {ca : Option Addr} {cc : Nat} (h : DV w d sa sc ca cc) (f : Fr0 w w1) : DV w1 d sa sc ca cc := ⟨RdG.keep h.rs f, RdG.keep h.rc f, h.sn, h.sm, h.cn, h.cm⟩
theorem DAt.keep {w w1 : World} {p : Nat} {d : Dk} {sa : Option Addr} {sc : Nat} {ca : Option Addr} {cc : Nat} (h : DAt w p d sa sc ca cc) (f : Fr0 w w1) : DAt w1 p d sa sc ca cc := ⟨f.keep h.blk (fun h => h), h.v.keep f⟩
theorem DIn.keep {w w1 : World} {p : Nat} {d : Dk} (h : DIn w p d) (f : Fr0 w w1) : DIn w1 p d := by
 obtain ⟨sa, sc, ca, cc, h⟩ := h
 exact ⟨sa, sc, ca, cc, h.keep f⟩
theorem RdS.apart {w : World} {a : Addr} {l : List Sec} {p : Nat} {cs : Array Value} (h : RdS w (some a) l) (hl : l ≠ []) (hok : ∀ x ∈ l, x.ok) (hb : Bk w p cs 25) (hn : ∀ (j : Nat) (x : Value), cs[j]? = some x → ∀ v : UInt8, x ≠ B v) : a.block ≠ p := by
 rintro rfl
 have h0 : 0 < l.length := List.length_pos_iff.2 hl
 obtain ⟨b, o, e0, -, hr⟩ := RdG.form h h0 Sec.pos
 obtain rfl := Option.some.inj e0
 have hk := hok _ (List.getElem_mem h0)
 have h1 : l[0].data.length = 128 := hk
 have e := hr 0 h0 0 (B (l[0].data[0]'(by omega))) (by rw [Sec.data_at hk (by omega), List.getElem?_map, List.getElem?_eq_getElem (by omega)];rfl)
 rw [Bk.cell hb] at e
 exact hn _ _ e _ rfl
theorem RdC.apart {w : World} {a : Addr} {l : List Wri} {p : Nat} {cs : Array Value} (h : RdC w (some a) l) (hl : l ≠ []) (hok : ∀ x ∈ l, x.ok) (hb : Bk w p cs 25) (hn : ∀ (j : Nat) (x : Value), cs[j]? = some x → ∀ v : UInt8, x ≠ B v) : a.block ≠ p := by
 rintro rfl
 have h0 : 0 < l.length := List.length_pos_iff.2 hl
 obtain ⟨b, o, e0, -, hr⟩ := RdG.form h h0 Wri.ps
 obtain rfl := Option.some.inj e0
 have h1 := (hok _ (List.getElem_mem h0)).len
 have e := hr 0 h0 1 (B (l[0].data[0]'(by omega))) (by rw [Wri.data_at, List.getElem?_map, List.getElem?_eq_getElem (by omega)];rfl)
 rw [Bk.cell hb] at e
 exact hn _ _ e _ rfl
theorem dc_no (sv cv : Value) (f : Int) (dn : Bool) (hs : ∀ v, sv ≠ B v) (hc : ∀ v, cv ≠ B v) : ∀ (j : Nat) (x : Value), (DC sv cv f dn)[j]? = some x → ∀ v : UInt8, x ≠ B v := by
 intro j x hj v
 rcases (show j = 0 ∨ j = 1 ∨ j = 2 ∨ j = 3 ∨ 4 ≤ j by omega) with rfl | rfl | rfl | rfl | h4
 ·rw [← Option.some.inj hj];exact hs v
 ·rw [← Option.some.inj hj];exact hc v
 ·rw [← Option.some.inj hj];simp [B]
 ·rw [← Option.some.inj hj];simp [B]
 ·rw [Array.getElem?_eq_none (by simpa using h4)] at hj;cases hj
theorem dval_no (d : Dk) (sa : Option Addr) (sc : Nat) (ca : Option Addr) (cc : Nat) : ∀ (j : Nat) (x : Value), (dval d sa sc ca cc)[j]? = some x → ∀ v : UInt8, x ≠ B v := dc_no _ _ _ _ (by simp [B]) (by simp [B])
theorem DV.past {w w1 : World} {d : Dk} {sa : Option Addr} {sc : Nat} {ca : Option Addr} {cc : Nat} (h : DV w d sa sc ca cc) (hok : d.ok) {p : Nat} {cs : Array Value} (f : Fr (fun i => i = p) w w1) (hb : Bk w p cs 25) (hn : ∀ (j : Nat) (x : Value), cs[j]? = some x → ∀ v : UInt8, x ≠ B v) : DV w1 d sa sc ca cc :=
 ⟨RdG.later h.rs f (fun a e hl => by subst e;exact RdS.apart h.rs hl hok.s hb hn), RdG.later h.rc f (fun a e hl => by subst e;exact RdC.apart h.rc hl hok.c hb hn), h.sn, h.sm, h.cn, h.cm⟩
theorem DAt.past {w w1 : World} {q : Nat} {d : Dk} {sa : Option Addr} {sc : Nat} {ca : Option Addr} {cc : Nat} (h : DAt w q d sa sc ca cc) (hok : d.ok) {p : Nat} {cs : Array Value} (f : Fr (fun i => i = p) w w1) (hb : Bk w p cs 25) (hn : ∀ (j : Nat) (x : Value), cs[j]? = some x → ∀ v : UInt8, x ≠ B v) (hne : q ≠ p) : DAt w1 q d sa sc ca cc :=
 ⟨f.keep h.blk hne, h.v.past hok f hb hn⟩
theorem DIn.past {w w1 : World} {p q : Nat} {d d' : Dk} (h : DIn w q d) (hok : d.ok) (h' : DIn w p d') (f : Fr (fun i => i = p) w w1) (hne : q ≠ p) : DIn w1 q d := by
 obtain ⟨sa, sc, ca, cc, h⟩ := h
 obtain ⟨sa', sc', ca', cc', h'⟩ := h'
 exact ⟨sa, sc, ca, cc, h.past hok f h'.blk (dval_no _ _ _ _ _) hne⟩
theorem info_d : (Tryz.prog.info? 25).map (·.size) = some 4 := by kernel_rfl
theorem info_s : (Tryz.prog.info? 66).map (·.size) = some 130 := by kernel_rfl
theorem info_w : (Tryz.prog.info? 68).map (·.size) = some 129 := by kernel_rfl
theorem info_b : (Tryz.prog.info? 36).map (·.size) = some 128 := by kernel_rfl
theorem cells_s : Tryz.prog.cellsOf 66 = 130 := by kernel_rfl
theorem cells_w : Tryz.prog.cellsOf 68 = 129 := by kernel_rfl
theorem dval_one (d : Dk) (sa : Option Addr) (sc : Nat) (ca : Option Addr) (cc : Nat) : (dval d sa sc ca cc).all (·.oneCell') = true := by simp [dval, Value.oneCell']
def thereB (n : Nat) (at_ : Int) : Bool := decide (0 ≤ at_ ∧ at_ < n)
def allThere (n : Nat) (l : List Wri) : Bool := l.all fun x => thereB n x.pos
def formedB (d : Dk) : Bool := allThere d.S.length d.C && decide (1 ≤ d.S.length ∧ d.S.length ≤ 4096)
def rightB (d : Dk) (at_ : Int) : Bool := thereB d.S.length at_ && formedB d
theorem thereB_true {n : Nat} {a : Int} : thereB n a = true ↔ 0 ≤ a ∧ a < n := by simp [thereB]
theorem thereB_false {n : Nat} {a : Int} : thereB n a = false ↔ ¬ (0 ≤ a ∧ a < n) := by simp [thereB]
def Z128 : List UInt8 := List.replicate 128 0
def Zs : Sec := ⟨Z128, false, false⟩
theorem Zs_ok : Zs.ok := by simp [Sec.ok, Zs, Z128]
def lastAt (l : List Wri) (at_ : Int) : Option (List UInt8) := l.foldl (fun r x => if x.pos = at_ then some x.data else r) none
def secAt (d : Dk) (at_ : Int) : Sec := d.S.getD at_.toNat Zs
def readX (d : Dk) (at_ : Int) : List UInt8 × Int :=
 if rightB d at_ = false then (Z128, 1) else if d.down then (Z128, 3) else
 match lastAt d.C at_ with
 | some b => (b, 0)
 | none => if (secAt d at_).nr then (Z128, 2) else ((secAt d at_).data, 0)
def actE (d : Dk) : Int := if d.down = true ∨ d.fuse = 0 then 3 else 0
def actD (d : Dk) : Dk := if d.down = true then d else if d.fuse = 0 then { d with down := true } else if 0 < d.fuse then { d with fuse := d.fuse - 1 } else d
def writeE (d : Dk) (at_ : Int) : Int := if rightB d at_ = false then 1 else if actE d = 3 then 3 else if (secAt d at_).nw then 2 else 0
def writeD (d : Dk) (at_ : Int) (b : List UInt8) : Dk := if rightB d at_ = false then d else if actE d = 3 then actD d else if (secAt d at_).nw then actD d else { actD d with C := d.C ++ [⟨at_, b⟩] }
def laid (S : List Sec) (C : List Wri) (keep : Nat → Bool) : Nat → List Sec
 | 0 => S
 | k + 1 => let l := laid S C keep k
  match C[k]? with
  | some x => if keep k then l.set x.pos.toNat { l.getD x.pos.toNat Zs with data := x.data, nr := false } else l
  | none => l
def layD (d : Dk) (keep : Nat → Bool) : Dk := { d with S := laid d.S d.C keep d.C.length, C := [] }
def flushE (d : Dk) : Int := if rightB d 0 = false then 1 else actE d
def flushD (d : Dk) : Dk := if rightB d 0 = false then d else if actE d = 3 then actD d else layD (actD d) (fun _ => true)
theorem right0 (d : Dk) : rightB d 0 = formedB d := by
 unfold rightB formedB thereB
 by_cases h : 1 ≤ d.S.length
 ·rw [decide_eq_true (by omega : (0 : Int) ≤ 0 ∧ (0 : Int) < d.S.length), Bool.true_and]
 ·rw [decide_eq_false (by omega : ¬ ((0 : Int) ≤ 0 ∧ (0 : Int) < d.S.length)), Bool.false_and, decide_eq_false (by omega : ¬ (1 ≤ d.S.length ∧ d.S.length ≤ 4096)), Bool.and_false]

end Go.Proofs.YtmkmpfnadcmcoaaGreatDoor.DiskKit
namespace Go.Proofs.YtmkmpfnadcmcoaaGreatDoor.DiskAsk
open Go Go.RowKit K EqKit ArrKit HeldKit GKit GRow DiskKit
theorem there_calls (n sc : Nat) (sa : Option Addr) (cv : Value) (f : Int) (dn : Bool) (a : Int) (w : World) : Calls Tryz.prog 69 #[.agg (DC (.slice sa n sc) cv f dn), .int .i64 a] w fun e w' => e = .returned (.bool (thereB n a)) ∧ Fr0 w w' := by
 by_cases h0 : 0 ≤ a
 ·by_cases h1 : a < n
  ·rw [thereB_true.2 ⟨h0, h1⟩]
   go_enter Tryz.func69, Tryz.ntmps69
   go_wp2
   go_ret
   exact ⟨rfl, Fr.alloc (Fr.refl _ _) _⟩
  ·rw [thereB_false.2 (by omega)]
   have h2 : (n : Int) ≤ a := by omega
   clear h1
   have c0 : decide (a < (n : Int)) = false := decide_eq_false (by omega)
   go_enter Tryz.func69, Tryz.ntmps69
   go_wp2
   go_ret
   exact ⟨rfl, Fr.alloc (Fr.refl _ _) _⟩
 ·rw [thereB_false.2 (by omega)]
  have h2 : a < 0 := by omega
  clear h0
  have c0 : decide (0 ≤ a) = false := decide_eq_false (by omega)
  go_enter Tryz.func69, Tryz.ntmps69
  go_wp2
  go_ret
  exact ⟨rfl, Fr.alloc (Fr.refl _ _) _⟩
theorem all_take {n : Nat} {l : List Wri} {k : Nat} (h : k < l.length) : allThere n (l.take (k + 1)) = (allThere n (l.take k) && thereB n l[k].pos) := by
 rw [List.take_succ_eq_append_getElem h, allThere, List.all_append];simp [allThere]
theorem all_false {n : Nat} {l : List Wri} {k : Nat} (h : k < l.length) (h2 : thereB n l[k].pos = false) : allThere n l = false := by
 rw [allThere, List.all_eq_false]
 exact ⟨l[k], List.getElem_mem h, by simp [h2]⟩
theorem formed_yes {d : Dk} (ha : allThere d.S.length d.C = true) (h1 : 1 ≤ d.S.length) (h2 : d.S.length ≤ 4096) : formedB d = true := by
 rw [formedB, ha, Bool.true_and];exact decide_eq_true ⟨h1, h2⟩
theorem formed_no {d : Dk} (h : ¬ (1 ≤ d.S.length ∧ d.S.length ≤ 4096)) : formedB d = false := by
 rw [formedB, decide_eq_false h, Bool.and_false]
theorem formed_un {d : Dk} (ha : allThere d.S.length d.C = false) : formedB d = false := by
 rw [formedB, ha, Bool.false_and]
theorem rformed_calls (d : Dk) (sa : Option Addr) (sc : Nat) (ca : Option Addr) (cc : Nat) (w : World) (hv : DV w d sa sc ca cc) : Calls Tryz.prog 45 #[.agg (dval d sa sc ca cc)] w fun e w' => e = .returned (.bool (formedB d)) ∧ Fr0 w w' := by
 have hm := hv.sm
 have hsn := hv.sn
 have hcm := hv.cm
 have hcn := hv.cn
 have HB : Jq7 (Bk (w.alloc (.cells (dval d sa sc ca cc) 25)) w.heap.size (dval d sa sc ca cc) 25) := jq7 (Bk.new w _)
 have HF : Jq7 (Fr0 w (w.alloc (.cells (dval d sa sc ca cc) 25))) := jq7 (Fr.alloc (Fr.refl _ _) _)
 have HRC := jq7 hv.rc
 obtain ⟨RV, hRV⟩ : ∃ RV : Value, RV = .bool (formedB d) := ⟨_, rfl⟩
 rw [← hRV]
 have HRV := jq7 hRV
 clear hv hRV
 obtain ⟨SS, CC, ff, dd⟩ := d
 dsimp only [dval] at *
 go_enter Tryz.func45, Tryz.ntmps45
 go_wp2
 generalize hw0 : w.alloc _ = w0 at *
 have h0 : w0.cell? ⟨w.heap.size, 0, none⟩ = some (.slice sa SS.length sc) := Bk.cell HB.o 0
 have h1 : w0.cell? ⟨w.heap.size, 1, none⟩ = some (.slice ca CC.length cc) := Bk.cell HB.o 1
 clear hw0
 go_loopw [3] (fun i wr => ∃ k : Nat, k ≤ CC.length ∧ i = .int .i64 k ∧ allThere SS.length (CC.take k) = true ∧ Bk wr w.heap.size (DC (.slice sa SS.length sc) (.slice ca CC.length cc) ff dd) 25 ∧ Fr0 w wr) (fun i _ => CC.length - (intOf i).toNat)
 case atStart => exact ⟨0, Nat.zero_le _, rfl, by simp [allThere], HB.o, HF.o⟩
 case round =>
  obtain ⟨k, hk, rfl, hall, hB, hF⟩ := hrel
  have HALL := jq7 hall
  have HBR := jq7 hB
  have HFR := jq7 hF
  clear hall h0 h1
  have q0 := Bk.cell HBR.o 0
  have q1 := Bk.cell HBR.o 1
  simp only [List.getElem?_toArray, List.getElem?_cons_zero, List.getElem?_cons_succ] at q0 q1
  clear hB hF
  by_cases hlt : k < CC.length
  ·obtain ⟨b, o, rfl, hrg⟩ := (HRC.o.keep HFR.o) k hlt
   have hpos : wr.cell? ⟨b, o + k * 129, none⟩ = some (.int .i64 CC[k].pos) := hrg 0 _ (Wri.pos_at _)
   have HTH := jq7 (fun W => there_calls SS.length sc sa (.slice (some ⟨b, o, none⟩) CC.length cc) ff dd CC[k].pos W)
   have hbl := World.block_lt_of_cell? wr _ hpos
   have hix : ((k : Int)).toNat = k := by omega
   have H0 : Jq7 (Held wr [(w.heap.size, .cells (DC (.slice sa SS.length sc) (.slice (some ⟨b, o, none⟩) CC.length cc) ff dd) 25 (0, 0))] wr) := jq7 (Held.cons HBR.o (Held.nil (Fr.refl _ _)))
   cases ht : thereB SS.length CC[k].pos with
   | true =>
    have HT := jq7 ht
    rw [ht] at HTH
    clear ht hrg
    go_wp2
    refine wp_region_noPanic ?_
    refine wp_region_held_drew (S := (Held wr [(w.heap.size, .cells (DC (.slice sa SS.length sc) (.slice (some ⟨b, o, none⟩) CC.length cc) ff dd) 25 (0, 0))])) (by kernel_rfl) (Held.drew H0.o) (fun hL0 => ?_)
    refine tk (i := 0) (v := .agg (DC (.slice sa SS.length sc) (.slice (some ⟨b, o, none⟩) CC.length cc) ff dd)) rfl (yields_row (by kernel_rfl) 25 _ rfl (w.heap.size) rfl 25 (DC (.slice sa SS.length sc) (.slice (some ⟨b, o, none⟩) CC.length cc) ff dd) (0, 0) _ (fun W h => Held.a0 h) Tryz.underlying25 rfl info_d) hL0 ?_
    refine tk0 (i := 1) (v := .pointer (some ⟨w.heap.size, 1, none⟩)) rfl hL0 ?_
    simp only [Act.put,zA,zB,zC,zD,zE,zF]
    refine tk (i := 2) (v := .slice (some ⟨b, o, none⟩) CC.length cc) rfl (Or.inl ⟨by kernel_rfl, fun w hSw => by have hcl := (fun W h => Bk.cell (Held.a0 h) 1) w hSw;go_simp⟩) hL0 ?_
    refine tk0 (i := 3) (v := .int .i64 (k : Int)) rfl hL0 ?_
    simp only [Act.put,zA,zB,zC,zD,zE,zF]
    refine tk (i := 4) (v := .pointer (some ⟨b, o + k * 129, none⟩)) rfl (Or.inl ⟨by kernel_rfl, fun w hSw => by go_simp⟩) hL0 ?_
    refine tk0 (i := 5) (v := .pointer (some ⟨b, o + k * 129, none⟩)) rfl hL0 ?_
    simp only [Act.put,zA,zB,zC,zD,zE,zF]
    refine tk (i := 6) (v := .int .i64 CC[k].pos) rfl (Or.inl ⟨by kernel_rfl, fun w hSw => by have hcl := (fun W h => ((Held.f h).cell b _ hbl (fun h => h)).trans hpos) w hSw;go_simp⟩) hL0 ?_
    simp only [Act.put,zA,zB,zC,zD,zE,zF]
    change wpAnyH _ _ _ _ _ 2 #[true, true, true, true, true, true, true, false, false] _ _
    refine rd1 7 rfl fun K hK => ?_
    simp only [zA, zB, zC]
    go_wp2_with fail
    refine (HTH.o _).mono ?_
    rintro e wx0 ⟨rfl, hfx0⟩
    dsimp only
    refine hK.out _ _ (Held.keep hfx0 hL0) (fun hL1 => ?_)
    clear hK K hL0
    refine tk (i := 8) (v := .bool false) rfl (Or.inl ⟨by kernel_rfl, fun w hSw => by go_simp <;> (first | exact beq_iff_eq.1 (by assumption) | exact beq_eq_false_iff_ne.1 (by assumption) | omega)⟩) hL1 ?_
    simp only [Act.put,zA,zB,zC,zD,zE,zF]
    change wpAnyH _ _ _ _ _ 0 #[true, true, true, true, true, true, true, true, true] _ _
    refine wpAnyH_done (by kernel_rfl) ?_ _
    refine NoPanic.normal ?_
    have HFIN := jq7 (Held.f hL1)
    have HEND := jq7 hL1
    clear hL1
    go_wp2
    go_roundw
    case rel => exact ⟨k + 1, by omega, by go_num, by rw [all_take hlt, HALL.o, HT.o];rfl, Held.a0 HEND.o, HFR.o.then0 HFIN.o⟩
    case measure => simp [intOf];omega
   | false =>
    have HT := jq7 ht
    rw [ht] at HTH
    clear ht hrg
    go_wp2
    refine wp_region_noPanic ?_
    refine wp_region_held_drew (S := (Held wr [(w.heap.size, .cells (DC (.slice sa SS.length sc) (.slice (some ⟨b, o, none⟩) CC.length cc) ff dd) 25 (0, 0))])) (by kernel_rfl) (Held.drew H0.o) (fun hL0 => ?_)
    refine tk (i := 0) (v := .agg (DC (.slice sa SS.length sc) (.slice (some ⟨b, o, none⟩) CC.length cc) ff dd)) rfl (yields_row (by kernel_rfl) 25 _ rfl (w.heap.size) rfl 25 (DC (.slice sa SS.length sc) (.slice (some ⟨b, o, none⟩) CC.length cc) ff dd) (0, 0) _ (fun W h => Held.a0 h) Tryz.underlying25 rfl info_d) hL0 ?_
    refine tk0 (i := 1) (v := .pointer (some ⟨w.heap.size, 1, none⟩)) rfl hL0 ?_
    simp only [Act.put,zA,zB,zC,zD,zE,zF]
    refine tk (i := 2) (v := .slice (some ⟨b, o, none⟩) CC.length cc) rfl (Or.inl ⟨by kernel_rfl, fun w hSw => by have hcl := (fun W h => Bk.cell (Held.a0 h) 1) w hSw;go_simp⟩) hL0 ?_
    refine tk0 (i := 3) (v := .int .i64 (k : Int)) rfl hL0 ?_
    simp only [Act.put,zA,zB,zC,zD,zE,zF]
    refine tk (i := 4) (v := .pointer (some ⟨b, o + k * 129, none⟩)) rfl (Or.inl ⟨by kernel_rfl, fun w hSw => by go_simp⟩) hL0 ?_
    refine tk0 (i := 5) (v := .pointer (some ⟨b, o + k * 129, none⟩)) rfl hL0 ?_
    simp only [Act.put,zA,zB,zC,zD,zE,zF]
    refine tk (i := 6) (v := .int .i64 CC[k].pos) rfl (Or.inl ⟨by kernel_rfl, fun w hSw => by have hcl := (fun W h => ((Held.f h).cell b _ hbl (fun h => h)).trans hpos) w hSw;go_simp⟩) hL0 ?_
    simp only [Act.put,zA,zB,zC,zD,zE,zF]
    change wpAnyH _ _ _ _ _ 2 #[true, true, true, true, true, true, true, false, false] _ _
    refine rd1 7 rfl fun K hK => ?_
    simp only [zA, zB, zC]
    go_wp2_with fail
    refine (HTH.o _).mono ?_
    rintro e wx0 ⟨rfl, hfx0⟩
    dsimp only
    refine hK.out _ _ (Held.keep hfx0 hL0) (fun hL1 => ?_)
    clear hK K hL0
    refine tk (i := 8) (v := .bool true) rfl (Or.inl ⟨by kernel_rfl, fun w hSw => by go_simp <;> (first | exact beq_iff_eq.1 (by assumption) | exact beq_eq_false_iff_ne.1 (by assumption) | omega)⟩) hL1 ?_
    simp only [Act.put,zA,zB,zC,zD,zE,zF]
    change wpAnyH _ _ _ _ _ 0 #[true, true, true, true, true, true, true, true, true] _ _
    refine wpAnyH_done (by kernel_rfl) ?_ _
    refine NoPanic.normal ?_
    have HFIN := jq7 (Held.f hL1)
    have HEND := jq7 hL1
    clear hL1
    go_wp2
    go_ret
    refine ⟨?_, HFR.o.then0 HFIN.o⟩
    rw [HRV.o, formed_un (all_false hlt HT.o)];rfl
  ·obtain rfl : k = CC.length := by omega
   clear hlt
   have ha := HALL.o
   rw [List.take_length] at ha
   have HA := jq7 ha
   clear ha
   by_cases h1 : 1 ≤ SS.length
   ·by_cases h2 : SS.length ≤ 4096
    ·have c1 : decide ((SS.length : Int) ≤ 4096) = true := decide_eq_true (by omega)
     go_wp2
     go_ret
     refine ⟨?_, HFR.o⟩
     rw [HRV.o, formed_yes HA.o h1 h2];rfl
    ·have c1 : decide ((SS.length : Int) ≤ 4096) = false := decide_eq_false (by omega)
     go_wp2
     go_ret
     refine ⟨?_, HFR.o⟩
     rw [HRV.o, formed_no (fun h => h2 h.2)];rfl
   ·have c1 : decide ((1 : Int) ≤ (SS.length : Int)) = false := decide_eq_false (by omega)
    go_wp2
    go_ret
    refine ⟨?_, HFR.o⟩
    rw [HRV.o, formed_no (fun h => h1 h.1)];rfl

end Go.Proofs.YtmkmpfnadcmcoaaGreatDoor.DiskAsk
namespace Go.Proofs.YtmkmpfnadcmcoaaGreatDoor.DiskForm
open Go Go.RowKit K EqKit ArrKit HeldKit GKit GRow DiskKit DiskAsk
theorem clo_neg (x : Wri) (n g : Nat) (w : World) (hx : x.ok) (hg : w.cell? ⟨g, 0, none⟩ = some (.int .i64 n)) (h : x.pos < 0) : Calls Tryz.prog 65 #[.agg x.cells.toArray, .pointer (some ⟨g, 0, none⟩)] w fun e w' => e = .returned (.bool true) ∧ Fr0 w w' := by
 have hgw := World.block_lt_of_cell? w _ hg
 have hF : Fr0 w (w.alloc (.cells x.cells.toArray 68)) := Fr.alloc (Fr.refl _ _) _
 have q0 : (w.alloc (.cells x.cells.toArray 68)).cell? ⟨w.heap.size, 0, none⟩ = some (.int .i64 x.pos) := (Bk.cell (Bk.new w _) 0).trans (by simp [Wri.cells])
 have q1 : (w.alloc (.cells x.cells.toArray 68)).cell? ⟨g, 0, none⟩ = some (.int .i64 n) := (hF.cell g 0 hgw (fun h => h)).trans hg
 have HF := jq7 hF
 clear hF hg
 have c0 : decide (x.pos < 0) = true := decide_eq_true h
 generalize x.cells.toArray = X at *
 go_enter Tryz.func65, Tryz.ntmps65
 go_wp2
 go_ret
 exact ⟨rfl, HF.o⟩

theorem clo_in (x : Wri) (n g : Nat) (w : World) (hx : x.ok) (hg : w.cell? ⟨g, 0, none⟩ = some (.int .i64 n)) (h : 0 ≤ x.pos ∧ x.pos < n) : Calls Tryz.prog 65 #[.agg x.cells.toArray, .pointer (some ⟨g, 0, none⟩)] w fun e w' => e = .returned (.bool false) ∧ Fr0 w w' := by
 have hgw := World.block_lt_of_cell? w _ hg
 have hF : Fr0 w (w.alloc (.cells x.cells.toArray 68)) := Fr.alloc (Fr.refl _ _) _
 have q0 : (w.alloc (.cells x.cells.toArray 68)).cell? ⟨w.heap.size, 0, none⟩ = some (.int .i64 x.pos) := (Bk.cell (Bk.new w _) 0).trans (by simp [Wri.cells])
 have q1 : (w.alloc (.cells x.cells.toArray 68)).cell? ⟨g, 0, none⟩ = some (.int .i64 n) := (hF.cell g 0 hgw (fun h => h)).trans hg
 have HF := jq7 hF
 clear hF hg
 have c0 : decide (x.pos < 0) = false := decide_eq_false (by omega)
 have c1 : decide ((n : Int) ≤ x.pos) = false := decide_eq_false (by omega)
 generalize x.cells.toArray = X at *
 go_enter Tryz.func65, Tryz.ntmps65
 go_wp2
 go_ret
 exact ⟨rfl, HF.o⟩

theorem clo_out (x : Wri) (n g : Nat) (w : World) (hx : x.ok) (hg : w.cell? ⟨g, 0, none⟩ = some (.int .i64 n)) (h : 0 ≤ x.pos ∧ n ≤ x.pos) : Calls Tryz.prog 65 #[.agg x.cells.toArray, .pointer (some ⟨g, 0, none⟩)] w fun e w' => e = .returned (.bool true) ∧ Fr0 w w' := by
 have hgw := World.block_lt_of_cell? w _ hg
 have hF : Fr0 w (w.alloc (.cells x.cells.toArray 68)) := Fr.alloc (Fr.refl _ _) _
 have q0 : (w.alloc (.cells x.cells.toArray 68)).cell? ⟨w.heap.size, 0, none⟩ = some (.int .i64 x.pos) := (Bk.cell (Bk.new w _) 0).trans (by simp [Wri.cells])
 have q1 : (w.alloc (.cells x.cells.toArray 68)).cell? ⟨g, 0, none⟩ = some (.int .i64 n) := (hF.cell g 0 hgw (fun h => h)).trans hg
 have HF := jq7 hF
 clear hF hg
 have c0 : decide (x.pos < 0) = false := decide_eq_false (by omega)
 have c1 : decide ((n : Int) ≤ x.pos) = true := decide_eq_true (by omega)
 generalize x.cells.toArray = X at *
 go_enter Tryz.func65, Tryz.ntmps65
 go_wp2
 go_ret
 exact ⟨rfl, HF.o⟩

theorem clo_calls (x : Wri) (n g : Nat) (w : World) (hx : x.ok) (hg : w.cell? ⟨g, 0, none⟩ = some (.int .i64 n)) : Calls Tryz.prog 65 #[.agg x.cells.toArray, .pointer (some ⟨g, 0, none⟩)] w fun e w' => e = .returned (.bool (!thereB n x.pos)) ∧ Fr0 w w' := by
 by_cases h0 : x.pos < 0
 ·rw [thereB_false.2 (by omega)];exact clo_neg x n g w hx hg h0
 ·by_cases h1 : x.pos < n
  ·rw [thereB_true.2 ⟨by omega, h1⟩];exact clo_in x n g w hx hg ⟨by omega, h1⟩
  ·rw [thereB_false.2 (by omega)];exact clo_out x n g w hx hg ⟨by omega, by omega⟩
def NoIx (n : Nat) (l : List Wri) (r : Int) : Prop := if allThere n l = true then r = -1 else 0 ≤ r
theorem ixf_calls (n g : Nat) (l : List Wri) (ca : Option Addr) (cc : Nat) (w : World) (hrc : RdC w ca l) (hok : ∀ x ∈ l, x.ok) (hcn : l.length ≤ cc) (hcm : cc ≤ 9223372036854775807) (hg : w.cell? ⟨g, 0, none⟩ = some (.int .i64 n)) :
  Calls Tryz.prog 89 #[.slice ca l.length cc, .func (.func 65) #[] #[.pointer (some ⟨g, 0, none⟩)]] w fun e w' => (∃ r : Int, e = .returned (.int .i64 r) ∧ NoIx n l r) ∧ Fr0 w w' := by
 have hgw := World.block_lt_of_cell? w _ hg
 have HRC := jq7 hrc
 have HOK := jq7 hok
 have HG := jq7 hg
 clear hrc hok hg
 go_enter Tryz.func89, Tryz.ntmps89
 go_wp2
 go_loopw [8] (fun i wr => ∃ k : Nat, k ≤ l.length ∧ i = .int .i64 k ∧ allThere n (l.take k) = true ∧ Fr0 w wr) (fun i _ => l.length - (intOf i).toNat)
 case atStart => exact ⟨0, Nat.zero_le _, rfl, by simp [allThere], Fr.refl _ _⟩
 case round =>
  obtain ⟨k, hk, rfl, hall, hF⟩ := hrel
  have HALL := jq7 hall
  have HFR := jq7 hF
  clear hall hF
  by_cases hlt : k < l.length
  ·obtain ⟨b, o, rfl, hrg⟩ := (RdG.keep HRC.o HFR.o) k hlt
   have HRG := jq7 hrg
   have HX := jq7 (HOK.o _ (List.getElem_mem hlt))
   have HIX : Jq7 ((Tryz.prog.info? 68).map (·.size) = some l[k].cells.length) := jq7 (by rw [Wri.leng HX.o, info_w])
   have HCL := jq7 (clo_calls l[k] n g wr HX.o ((HFR.o.cell g 0 hgw (fun h => h)).trans HG.o))
   clear hrg
   cases ht : thereB n l[k].pos with
   | true =>
    have HT := jq7 ht
    rw [ht] at HCL
    clear ht
    go_wp2_with (first | ((with_reducible show wkq (.load 68 _) _);refine wpList_load_mid rfl 68 _ rfl b (o + k * 129) rfl l[k].cells _ HRG.o Tryz.underlying68 rfl HIX.o ?_) | (go_at_call 65;(with_reducible refine HCL.o.mono ?_);rintro e w2 ⟨rfl, hf2⟩;have HF2 := fq0 HFR hf2;clear hf2))
    go_roundw
    case rel => exact ⟨k + 1, by omega, by go_num, by rw [all_take hlt, HALL.o, HT.o];rfl, HF2.o⟩
    case measure => simp [intOf];omega
   | false =>
    have HT := jq7 ht
    rw [ht] at HCL
    clear ht
    go_wp2_with (first | ((with_reducible show wkq (.load 68 _) _);refine wpList_load_mid rfl 68 _ rfl b (o + k * 129) rfl l[k].cells _ HRG.o Tryz.underlying68 rfl HIX.o ?_) | (go_at_call 65;(with_reducible refine HCL.o.mono ?_);rintro e w2 ⟨rfl, hf2⟩;have HF2 := fq0 HFR hf2;clear hf2))
    go_ret
    refine ⟨⟨k, rfl, ?_⟩, HF2.o⟩
    rw [NoIx, all_false hlt HT.o, if_neg (by simp)]
    omega
  ·obtain rfl : k = l.length := by omega
   clear hlt
   go_wp2
   go_ret
   refine ⟨⟨-1, rfl, ?_⟩, HFR.o⟩
   have := HALL.o
   rw [List.take_length] at this
   rw [NoIx, if_pos this]
theorem cf_calls (n g : Nat) (l : List Wri) (ca : Option Addr) (cc : Nat) (w : World) (hrc : RdC w ca l) (hok : ∀ x ∈ l, x.ok) (hcn : l.length ≤ cc) (hcm : cc ≤ 9223372036854775807) (hg : w.cell? ⟨g, 0, none⟩ = some (.int .i64 n)) :
  Calls Tryz.prog 64 #[.slice ca l.length cc, .func (.func 65) #[] #[.pointer (some ⟨g, 0, none⟩)]] w fun e w' => e = .returned (.bool (!allThere n l)) ∧ Fr0 w w' := by
 have HC := jq7 (ixf_calls n g l ca cc w hrc hok hcn hcm hg)
 clear hrc hok hg
 go_enter Tryz.func64, Tryz.ntmps64
 go_wp2_with (go_at_call 89;(with_reducible refine HC.o.mono ?_);rintro e w2 ⟨⟨r, rfl, hr⟩, hf2⟩;have HF2 := jq7 hf2;have HR := jq7 hr;clear hf2 hr)
 go_ret
 refine ⟨?_, HF2.o⟩
 have := HR.o
 unfold NoIx at this
 cases h : allThere n l with
 | true =>
  rw [h, if_pos rfl] at this
  subst this;rfl
 | false =>
  rw [h, if_neg (by simp)] at this
  exact congrArg (fun b => Ending.returned (.bool b)) (decide_eq_true this)

theorem formed_small (d : Dk) (sa : Option Addr) (sc : Nat) (ca : Option Addr) (cc : Nat) (w : World) (hok : d.ok) (hv : DV w d sa sc ca cc) (h : d.S.length = 0) : Calls Tryz.prog 37 #[.agg (dval d sa sc ca cc)] w fun e w' => e = .returned (.bool false) ∧ Fr0 w w' := by
 have c0 : decide (0 < d.S.length) = false := decide_eq_false (by omega)
 have hm := hv.sm
 have hsn := hv.sn
 have hs1 : (w.alloc (.cells (dval d sa sc ca cc) 25)).heap.size = w.heap.size + 1 := by simp
 have HF : Jq7 (Fr0 w ((w.alloc (.cells (dval d sa sc ca cc) 25)).alloc (.cells #[.int .i64 d.S.length] 3))) := jq7 (Fr.alloc (Fr.alloc (Fr.refl _ _) _) _)
 have HC := jq7 (cf_calls d.S.length (w.heap.size + 1) d.C ca cc ((w.alloc (.cells (dval d sa sc ca cc) 25)).alloc (.cells #[.int .i64 d.S.length] 3)) (RdG.keep hv.rc HF.o) hok.c hv.cn hv.cm (by have := Bk.new (w.alloc (.cells (dval d sa sc ca cc) 25)) (.cells #[.int .i64 d.S.length] 3);rw [hs1] at this;exact (Bk.cell this 0)))
 have hmf : ∀ (fn : Fn) (first cap : Array Value) (W : World), (Instr.makeFunc fn first cap).run Tryz.prog W = .ok (.func fn first cap) W := fun _ _ _ _ => rfl
 clear hv hok hs1 h
 obtain ⟨SS, CC, ff, dd⟩ := d
 dsimp only [dval] at *
 go_enter Tryz.func37, Tryz.ntmps37
 go_wp2_with (go_at_call 64;(with_reducible refine HC.o.mono ?_);rintro e w2 ⟨rfl, hf2⟩;have HF2 := fq0 HF hf2;clear hf2)
 go_ret
 exact ⟨rfl, HF.o⟩

theorem formed_large (d : Dk) (sa : Option Addr) (sc : Nat) (ca : Option Addr) (cc : Nat) (w : World) (hok : d.ok) (hv : DV w d sa sc ca cc) (h : 4096 < d.S.length) : Calls Tryz.prog 37 #[.agg (dval d sa sc ca cc)] w fun e w' => e = .returned (.bool false) ∧ Fr0 w w' := by
 have c0 : decide (0 < d.S.length) = true := decide_eq_true (by omega)
 have c1 : decide ((d.S.length : Int) ≤ 4096) = false := decide_eq_false (by omega)
 have hm := hv.sm
 have hsn := hv.sn
 have hs1 : (w.alloc (.cells (dval d sa sc ca cc) 25)).heap.size = w.heap.size + 1 := by simp
 have HF : Jq7 (Fr0 w ((w.alloc (.cells (dval d sa sc ca cc) 25)).alloc (.cells #[.int .i64 d.S.length] 3))) := jq7 (Fr.alloc (Fr.alloc (Fr.refl _ _) _) _)
 have HC := jq7 (cf_calls d.S.length (w.heap.size + 1) d.C ca cc ((w.alloc (.cells (dval d sa sc ca cc) 25)).alloc (.cells #[.int .i64 d.S.length] 3)) (RdG.keep hv.rc HF.o) hok.c hv.cn hv.cm (by have := Bk.new (w.alloc (.cells (dval d sa sc ca cc) 25)) (.cells #[.int .i64 d.S.length] 3);rw [hs1] at this;exact (Bk.cell this 0)))
 have hmf : ∀ (fn : Fn) (first cap : Array Value) (W : World), (Instr.makeFunc fn first cap).run Tryz.prog W = .ok (.func fn first cap) W := fun _ _ _ _ => rfl
 clear hv hok hs1 h
 obtain ⟨SS, CC, ff, dd⟩ := d
 dsimp only [dval] at *
 go_enter Tryz.func37, Tryz.ntmps37
 go_wp2_with (go_at_call 64;(with_reducible refine HC.o.mono ?_);rintro e w2 ⟨rfl, hf2⟩;have HF2 := fq0 HF hf2;clear hf2)
 go_ret
 exact ⟨rfl, HF.o⟩

theorem formed_mid (d : Dk) (sa : Option Addr) (sc : Nat) (ca : Option Addr) (cc : Nat) (w : World) (hok : d.ok) (hv : DV w d sa sc ca cc) (h : 1 ≤ d.S.length ∧ d.S.length ≤ 4096) : Calls Tryz.prog 37 #[.agg (dval d sa sc ca cc)] w fun e w' => e = .returned (.bool (allThere d.S.length d.C)) ∧ Fr0 w w' := by
 have c0 : decide (0 < d.S.length) = true := decide_eq_true (by omega)
 have c1 : decide ((d.S.length : Int) ≤ 4096) = true := decide_eq_true (by omega)
 have hm := hv.sm
 have hsn := hv.sn
 have hs1 : (w.alloc (.cells (dval d sa sc ca cc) 25)).heap.size = w.heap.size + 1 := by simp
 have HF : Jq7 (Fr0 w ((w.alloc (.cells (dval d sa sc ca cc) 25)).alloc (.cells #[.int .i64 d.S.length] 3))) := jq7 (Fr.alloc (Fr.alloc (Fr.refl _ _) _) _)
 have HC := jq7 (cf_calls d.S.length (w.heap.size + 1) d.C ca cc ((w.alloc (.cells (dval d sa sc ca cc) 25)).alloc (.cells #[.int .i64 d.S.length] 3)) (RdG.keep hv.rc HF.o) hok.c hv.cn hv.cm (by have := Bk.new (w.alloc (.cells (dval d sa sc ca cc) 25)) (.cells #[.int .i64 d.S.length] 3);rw [hs1] at this;exact (Bk.cell this 0)))
 have hmf : ∀ (fn : Fn) (first cap : Array Value) (W : World), (Instr.makeFunc fn first cap).run Tryz.prog W = .ok (.func fn first cap) W := fun _ _ _ _ => rfl
 clear hv hok hs1 h
 obtain ⟨SS, CC, ff, dd⟩ := d
 dsimp only [dval] at *
 go_enter Tryz.func37, Tryz.ntmps37
 go_wp2_with (go_at_call 64;(with_reducible refine HC.o.mono ?_);rintro e w2 ⟨rfl, hf2⟩;have HF2 := fq0 HF hf2;clear hf2)
 go_ret
 exact ⟨rfl, HF2.o⟩

theorem formed_calls (d : Dk) (sa : Option Addr) (sc : Nat) (ca : Option Addr) (cc : Nat) (w : World) (hok : d.ok) (hv : DV w d sa sc ca cc) : Calls Tryz.prog 37 #[.agg (dval d sa sc ca cc)] w fun e w' => e = .returned (.bool (formedB d)) ∧ Fr0 w w' := by
 by_cases h0 : d.S.length = 0
 ·rw [formed_no (by omega)];exact formed_small d sa sc ca cc w hok hv h0
 ·by_cases h1 : d.S.length ≤ 4096
  ·have := formed_mid d sa sc ca cc w hok hv ⟨by omega, h1⟩
   rw [show formedB d = allThere d.S.length d.C by rw [formedB, decide_eq_true (by omega : 1 ≤ d.S.length ∧ d.S.length ≤ 4096), Bool.and_true]]
   exact this
  ·rw [formed_no (by omega)];exact formed_large d sa sc ca cc w hok hv (by omega)

theorem right_neg (p : Nat) (a : Int) (d : Dk) (sa : Option Addr) (sc : Nat) (ca : Option Addr) (cc : Nat) (w : World) (hok : d.ok) (hv : DAt w p d sa sc ca cc) (h : a < 0) : Calls Tryz.prog 32 #[.pointer (some ⟨p, 0, none⟩), .int .i64 a] w fun e w' => e = .returned (.bool false) ∧ Fr0 w w' := by
 have c0 : decide (0 ≤ a) = false := decide_eq_false (by omega)
 have hm := hv.v.sm
 have hsn := hv.v.sn
 have HC := jq7 (formed_calls d sa sc ca cc w hok hv.v)
 have HB := jq7 hv.blk
 clear hv hok h
 obtain ⟨SS, CC, ff, dd⟩ := d
 dsimp only [dval] at *
 have q0 : w.cell? ⟨p, 0, none⟩ = some (.slice sa SS.length sc) := Bk.cell HB.o 0
 generalize formedB _ = FB at *
 go_enter Tryz.func32, Tryz.ntmps32
 go_wp2_with (first | ((with_reducible show wkq (.load 25 _) _);refine lr 25 p _ HB.o info_d ?_) | (go_at_call 37;(with_reducible refine HC.o.mono ?_);rintro e w2 ⟨rfl, hf2⟩;have HF2 := jq7 hf2;clear hf2))
 go_ret
 exact ⟨rfl, Fr.refl _ _⟩

theorem right_out (p : Nat) (a : Int) (d : Dk) (sa : Option Addr) (sc : Nat) (ca : Option Addr) (cc : Nat) (w : World) (hok : d.ok) (hv : DAt w p d sa sc ca cc) (h : 0 ≤ a ∧ (d.S.length : Int) ≤ a) : Calls Tryz.prog 32 #[.pointer (some ⟨p, 0, none⟩), .int .i64 a] w fun e w' => e = .returned (.bool false) ∧ Fr0 w w' := by
 have c0 : decide (0 ≤ a) = true := decide_eq_true h.1
 have c1 : decide (a < (d.S.length : Int)) = false := decide_eq_false (by omega)
 have hm := hv.v.sm
 have hsn := hv.v.sn
 have HC := jq7 (formed_calls d sa sc ca cc w hok hv.v)
 have HB := jq7 hv.blk
 clear hv hok h
 obtain ⟨SS, CC, ff, dd⟩ := d
 dsimp only [dval] at *
 have q0 : w.cell? ⟨p, 0, none⟩ = some (.slice sa SS.length sc) := Bk.cell HB.o 0
 generalize formedB _ = FB at *
 go_enter Tryz.func32, Tryz.ntmps32
 go_wp2_with (first | ((with_reducible show wkq (.load 25 _) _);refine lr 25 p _ HB.o info_d ?_) | (go_at_call 37;(with_reducible refine HC.o.mono ?_);rintro e w2 ⟨rfl, hf2⟩;have HF2 := jq7 hf2;clear hf2))
 go_ret
 exact ⟨rfl, Fr.refl _ _⟩

theorem right_in (p : Nat) (a : Int) (d : Dk) (sa : Option Addr) (sc : Nat) (ca : Option Addr) (cc : Nat) (w : World) (hok : d.ok) (hv : DAt w p d sa sc ca cc) (h : 0 ≤ a ∧ a < d.S.length) : Calls Tryz.prog 32 #[.pointer (some ⟨p, 0, none⟩), .int .i64 a] w fun e w' => e = .returned (.bool (formedB d)) ∧ Fr0 w w' := by
 have c0 : decide (0 ≤ a) = true := decide_eq_true h.1
 have c1 : decide (a < (d.S.length : Int)) = true := decide_eq_true h.2
 have hm := hv.v.sm
 have hsn := hv.v.sn
 have HC := jq7 (formed_calls d sa sc ca cc w hok hv.v)
 have HB := jq7 hv.blk
 clear hv hok h
 obtain ⟨SS, CC, ff, dd⟩ := d
 dsimp only [dval] at *
 have q0 : w.cell? ⟨p, 0, none⟩ = some (.slice sa SS.length sc) := Bk.cell HB.o 0
 generalize formedB _ = FB at *
 go_enter Tryz.func32, Tryz.ntmps32
 go_wp2_with (first | ((with_reducible show wkq (.load 25 _) _);refine lr 25 p _ HB.o info_d ?_) | (go_at_call 37;(with_reducible refine HC.o.mono ?_);rintro e w2 ⟨rfl, hf2⟩;have HF2 := jq7 hf2;clear hf2))
 go_ret
 exact ⟨rfl, HF2.o⟩

theorem right_calls (p : Nat) (a : Int) (d : Dk) (sa : Option Addr) (sc : Nat) (ca : Option Addr) (cc : Nat) (w : World) (hok : d.ok) (hv : DAt w p d sa sc ca cc) : Calls Tryz.prog 32 #[.pointer (some ⟨p, 0, none⟩), .int .i64 a] w fun e w' => e = .returned (.bool (rightB d a)) ∧ Fr0 w w' := by
 unfold rightB
 by_cases h0 : 0 ≤ a
 ·by_cases h1 : a < d.S.length
  ·rw [thereB_true.2 ⟨h0, h1⟩, Bool.true_and];exact right_in p a d sa sc ca cc w hok hv ⟨h0, h1⟩
  ·rw [thereB_false.2 (by omega), Bool.false_and];exact right_out p a d sa sc ca cc w hok hv ⟨h0, by omega⟩
 ·rw [thereB_false.2 (by omega), Bool.false_and];exact right_neg p a d sa sc ca cc w hok hv (by omega)

end Go.Proofs.YtmkmpfnadcmcoaaGreatDoor.DiskForm
