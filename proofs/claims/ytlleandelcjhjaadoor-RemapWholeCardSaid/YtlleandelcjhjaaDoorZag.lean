/- The theorems that the claim uses, text behind text (part 7). -/
import Derived.Test.YtlleandelcjhjaaDoorZaa
import Derived.Test.YtlleandelcjhjaaDoorZaf
import Derived.Test.YtlleandelcjhjaaDoorProg
import Derived.Outline
import Derived.Laws.ShiftsVar
import Derived.LoopTactic
import Derived.Laws.BitsLemmas
set_option linter.unusedVariables false
set_option linter.unusedSimpArgs false
namespace Go.Proofs.YtlleandelcjhjaaDoor.DiskRLay
open Go Go.RowKit Go.Proofs.YtlleandelcjhjaaDoor.K Go.Proofs.YtlleandelcjhjaaDoor.EqKit Go.Proofs.YtlleandelcjhjaaDoor.ArrKit Go.Proofs.YtlleandelcjhjaaDoor.HeldKit Go.Proofs.YtlleandelcjhjaaDoor.GKit Go.Proofs.YtlleandelcjhjaaDoor.GRow Go.Proofs.YtlleandelcjhjaaDoor.DiskKit Go.Proofs.YtlleandelcjhjaaDoor.DiskAsk Go.Proofs.YtlleandelcjhjaaDoor.DiskForm Go.Proofs.YtlleandelcjhjaaDoor.DiskAct Go.Proofs.YtlleandelcjhjaaDoor.DiskNew Go.Proofs.YtlleandelcjhjaaDoor.DiskCopy Go.Proofs.YtlleandelcjhjaaDoor.DiskLay Go.Proofs.YtlleandelcjhjaaDoor.DiskFlush
theorem rangeAt_fr {S : Nat → Prop} {w w' : World} {b o : Nat} {cs : List Value} (h : w.rangeAt b o cs) (f : Fr S w w') (hs : ¬ S b) : w'.rangeAt b o cs := fun j u hj => by
  have hc := h j u hj
  rw [f.cell b (o + j) (World.block_lt_of_cell? w _ hc) hs]
  exact hc

end Go.Proofs.YtlleandelcjhjaaDoor.DiskRLay
namespace Go.Proofs.YtlleandelcjhjaaDoor.DiskRRead
open Go Go.RowKit Go.Proofs.YtlleandelcjhjaaDoor.K Go.Proofs.YtlleandelcjhjaaDoor.EqKit Go.Proofs.YtlleandelcjhjaaDoor.ArrKit Go.Proofs.YtlleandelcjhjaaDoor.HeldKit Go.Proofs.YtlleandelcjhjaaDoor.GKit Go.Proofs.YtlleandelcjhjaaDoor.GRow Go.Proofs.YtlleandelcjhjaaDoor.DiskKit Go.Proofs.YtlleandelcjhjaaDoor.DiskAsk Go.Proofs.YtlleandelcjhjaaDoor.DiskForm Go.Proofs.YtlleandelcjhjaaDoor.DiskAct Go.Proofs.YtlleandelcjhjaaDoor.DiskNew Go.Proofs.YtlleandelcjhjaaDoor.DiskCopy
def ZB : Array Value := (Z128.map B).toArray
theorem ZB_one : ZB.all (·.oneCell') = true := by simp [ZB, Z128, B, Value.oneCell']
theorem info_zb : (Tryd.prog.info? 27).map (·.size) = some ZB.size := by rw [info_b]; simp [ZB, Z128]
theorem built_zb : Tryd.prog.built 27 [] = some ZB := by kernel_rfl
theorem last_app (l : List Wri) (x : Wri) (a : Int) : lastAt (l ++ [x]) a = if x.pos = a then some x.data else lastAt l a := by simp [lastAt, List.foldl_append]
theorem last_take {l : List Wri} {m : Nat} (h : m < l.length) (a : Int) : lastAt (l.take (m + 1)) a = if l[m].pos = a then some l[m].data else lastAt (l.take m) a := by
  rw [List.take_succ_eq_append_getElem h, last_app]
/-- what a backward look goes by -/
def Back (l : List Wri) (a : Int) (i : Value) : Prop := (∃ m : Nat, m < l.length ∧ i = .int .i64 m ∧ lastAt l a = lastAt (l.take (m + 1)) a) ∨ (i = .int .i64 (-1) ∧ lastAt l a = none)
theorem Back.start (l : List Wri) (a : Int) : Back l a (.int .i64 ((l.length : Int) - 1)) := by
  cases h : l.length with
  | zero =>
    have : l = [] := List.eq_nil_of_length_eq_zero h
    subst this
    exact .inr ⟨rfl, rfl⟩
  | succ n => exact .inl ⟨n, by omega, by rw [show ((n + 1 : Nat) : Int) - 1 = (n : Int) by omega], by rw [← h, List.take_length]⟩
theorem Back.next {l : List Wri} {a : Int} {m : Nat} (hm : m < l.length) (h : lastAt l a = lastAt (l.take (m + 1)) a) (hne : l[m].pos ≠ a) : Back l a (.int .i64 ((m : Int) - 1)) := by
  rw [last_take hm, if_neg hne] at h
  cases m with
  | zero => exact .inr ⟨rfl, by rw [h]; rfl⟩
  | succ n => exact .inl ⟨n, by omega, by rw [show ((n + 1 : Nat) : Int) - 1 = (n : Int) by omega], h⟩
def readV (x : List UInt8 × Int) : Value := .tuple #[.agg (x.1.map B).toArray, .int .i64 x.2]
theorem readX_wrong {d : Dk} {a : Int} (h : rightB d a = false) : readX d a = (Z128, 1) := by rw [readX, if_pos h]
theorem readX_down {d : Dk} {a : Int} (h : rightB d a = true) (hd : d.down = true) : readX d a = (Z128, 3) := by rw [readX, if_neg (by simp [h]), if_pos hd]
theorem readX_some {d : Dk} {a : Int} {b : List UInt8} (h : rightB d a = true) (hd : d.down = false) (hl : lastAt d.C a = some b) : readX d a = (b, 0) := by rw [readX, if_neg (by simp [h]), if_neg (by simp [hd]), hl]
theorem readX_nr {d : Dk} {a : Int} (h : rightB d a = true) (hd : d.down = false) (hl : lastAt d.C a = none) (hn : (secAt d a).nr = true) : readX d a = (Z128, 2) := by rw [readX, if_neg (by simp [h]), if_neg (by simp [hd]), hl]; simp [hn]
theorem readX_data {d : Dk} {a : Int} (h : rightB d a = true) (hd : d.down = false) (hl : lastAt d.C a = none) (hn : (secAt d a).nr = false) : readX d a = ((secAt d a).data, 0) := by rw [readX, if_neg (by simp [h]), if_neg (by simp [hd]), hl]; simp [hn]

end Go.Proofs.YtlleandelcjhjaaDoor.DiskRRead
namespace Go.Proofs.YtlleandelcjhjaaDoor.WordPut
open Go Go.RowKit Go.Proofs.YtlleandelcjhjaaDoor.K
theorem ret_cut {a a' : Option Addr} {n n' c c' : Nat} {b b' : Bool} (h1 : a = a') (h2 : n = n') (h3 : c = c') (h4 : b = b') : Ending.returned (.tuple #[.slice a n c, .bool b]) = .returned (.tuple #[.slice a' n' c', .bool b']) := by rw [h1, h2, h3, h4]

/-- no such place -/
def NoRoom (n : Nat) (p s : Int) : Prop := p < 0 ∨ (n : Int) < p ∨ (n : Int) - p < s

set_option maxHeartbeats 2000000 in
set_option maxRecDepth 100000 in
theorem cut_neg (a : Option Addr) (n c : Nat) (p s : Int) (w : World) (hn : n ≤ 140737488351232) (h : p < 0) :
    Calls Tryd.prog 62 #[.slice a n c, .int .i64 p, .int .i64 s] w fun e w' => e = .returned (.tuple #[.slice none 0 0, .bool false]) ∧ w = w' := by
  have c0 : decide (p < 0) = true := decide_eq_true h
  go_enter Tryd.func62, Tryd.ntmps62
  go_wp2
  go_ret2
  exact ⟨rfl, rfl⟩

set_option maxHeartbeats 2000000 in
set_option maxRecDepth 100000 in
theorem cut_far (a : Option Addr) (n c : Nat) (p s : Int) (w : World) (hn : n ≤ 140737488351232) (h : 0 ≤ p) (h1 : (n : Int) < p) :
    Calls Tryd.prog 62 #[.slice a n c, .int .i64 p, .int .i64 s] w fun e w' => e = .returned (.tuple #[.slice none 0 0, .bool false]) ∧ w = w' := by
  have c0 : decide (p < 0) = false := decide_eq_false (by omega)
  have c1 : decide ((n : Int) < p) = true := decide_eq_true h1
  go_enter Tryd.func62, Tryd.ntmps62
  go_wp2
  go_ret2
  exact ⟨rfl, rfl⟩

set_option maxHeartbeats 2000000 in
set_option maxRecDepth 100000 in
theorem cut_big (a : Option Addr) (n c : Nat) (p s : Int) (w : World) (hn : n ≤ 140737488351232) (h : 0 ≤ p) (h1 : p ≤ n) (h2 : (n : Int) - p < s) :
    Calls Tryd.prog 62 #[.slice a n c, .int .i64 p, .int .i64 s] w fun e w' => e = .returned (.tuple #[.slice none 0 0, .bool false]) ∧ w = w' := by
  have c0 : decide (p < 0) = false := decide_eq_false (by omega)
  have c1 : decide ((n : Int) < p) = false := decide_eq_false (by omega)
  have c2 : decide ((n : Int) - p < s) = true := decide_eq_true h2
  go_enter Tryd.func62, Tryd.ntmps62
  go_wp2
  go_ret2
  exact ⟨rfl, rfl⟩

theorem cut_no (a : Option Addr) (n c : Nat) (p s : Int) (w : World) (hn : n ≤ 140737488351232) (h : NoRoom n p s) :
    Calls Tryd.prog 62 #[.slice a n c, .int .i64 p, .int .i64 s] w fun e w' => e = .returned (.tuple #[.slice none 0 0, .bool false]) ∧ w = w' := by
  by_cases h1 : p < 0
  · exact cut_neg a n c p s w hn h1
  by_cases h2 : (n : Int) < p
  · exact cut_far a n c p s w hn (by omega) h2
  · exact cut_big a n c p s w hn (by omega) (by omega) (by rcases h with h | h | h <;> omega)
set_option maxHeartbeats 2000000 in
set_option maxRecDepth 100000 in
theorem cut_ok (b o n c p s : Nat) (w : World) (hc : n ≤ c) (hcm : c ≤ 9223372036854775807) (hn : n ≤ 140737488351232) (h1 : p + s ≤ n) (h2 : 1 ≤ s) :
    Calls Tryd.prog 62 #[.slice (some ⟨b, o, none⟩) n c, .int .i64 p, .int .i64 s] w fun e w' => e = .returned (.tuple #[.slice (some ⟨b, o + p, none⟩) s (c - p), .bool true]) ∧ w = w' := by
  have c0 : decide ((p : Int) < 0) = false := decide_eq_false (by omega)
  have c1 : decide ((n : Int) < p) = false := decide_eq_false (by omega)
  have c2 : decide ((n : Int) - p < s) = false := decide_eq_false (by omega)
  have x1 : (0 : Int) ≤ p := by omega
  have x2 : (p : Int) ≤ p + s := by omega
  have x3 : (p : Int) + s ≤ c := by omega
  have hpc : p < c := by omega
  go_enter Tryd.func62, Tryd.ntmps62
  go_wp2
  go_ret2
  exact ⟨ret_cut rfl (by omega) rfl rfl, rfl⟩

/-- x in so many bytes, the lowest first -/
def le (x : Nat) : Nat → List UInt8
  | 0 => []
  | k + 1 => UInt8.ofNat x :: le (x / 256) k
@[simp] theorem le_length (k : Nat) : ∀ x, (le x k).length = k := by
  induction k with
  | zero => intro x; rfl
  | succ k ih => intro x; simp [le, ih]
theorem le_get (k : Nat) : ∀ (x i : Nat) (h : i < (le x k).length), (le x k)[i] = UInt8.ofNat (x / 256 ^ i) := by
  induction k with
  | zero => intro x i h; simp [le] at h
  | succ k ih =>
    intro x i h
    cases i with
    | zero => simp [le]
    | succ i =>
      simp only [le, List.getElem_cons_succ]
      rw [ih, Nat.div_div_eq_div_mul, Nat.pow_succ, Nat.mul_comm]
/-- may x stand in so many bytes? -/
def Fits (x w : Int) : Prop := 1 ≤ w ∧ w ≤ 8 ∧ 0 ≤ x ∧ (w < 8 → x / 2 ^ (8 * w).toNat ≤ 0)

set_option maxHeartbeats 2000000 in
set_option maxRecDepth 100000 in
theorem put_low (a : Option Addr) (n c : Nat) (p wd x : Int) (w : World) (hx : x ≤ 9223372036854775807) (h : wd < 1) :
    Calls Tryd.prog 35 #[.slice a n c, .int .i64 p, .int .i64 wd, .int .i64 x] w fun e w' => e = .returned (.int .i64 1) ∧ w = w' := by
  have c0 : decide (wd < 1) = true := decide_eq_true (by omega)
  go_enter Tryd.func35, Tryd.ntmps35
  go_wp2
  go_ret
  exact ⟨rfl, rfl⟩

set_option maxHeartbeats 2000000 in
set_option maxRecDepth 100000 in
theorem put_high (a : Option Addr) (n c : Nat) (p wd x : Int) (w : World) (hx : x ≤ 9223372036854775807) (h : 8 < wd) :
    Calls Tryd.prog 35 #[.slice a n c, .int .i64 p, .int .i64 wd, .int .i64 x] w fun e w' => e = .returned (.int .i64 1) ∧ w = w' := by
  have c0 : decide (wd < 1) = false := decide_eq_false (by omega)
  have c1 : decide (8 < wd) = true := decide_eq_true (by omega)
  go_enter Tryd.func35, Tryd.ntmps35
  go_wp2
  go_ret
  exact ⟨rfl, rfl⟩

set_option maxHeartbeats 2000000 in
set_option maxRecDepth 100000 in
theorem put_neg (a : Option Addr) (n c : Nat) (p wd x : Int) (w : World) (hx : x ≤ 9223372036854775807) (h1 : 1 ≤ wd) (h2 : wd ≤ 8) (h : x < 0) :
    Calls Tryd.prog 35 #[.slice a n c, .int .i64 p, .int .i64 wd, .int .i64 x] w fun e w' => e = .returned (.int .i64 1) ∧ w = w' := by
  have c0 : decide (wd < 1) = false := decide_eq_false (by omega)
  have c1 : decide (8 < wd) = false := decide_eq_false (by omega)
  have c2 : decide (x < 0) = true := decide_eq_true (by omega)
  go_enter Tryd.func35, Tryd.ntmps35
  go_wp2
  go_ret
  exact ⟨rfl, rfl⟩

set_option maxHeartbeats 2000000 in
set_option maxRecDepth 100000 in
theorem put_big (a : Option Addr) (n c : Nat) (p wd x : Int) (w : World) (hx : x ≤ 9223372036854775807) (h1 : 1 ≤ wd) (h2 : wd < 8) (h3 : 0 ≤ x) (h : 0 < x / 2 ^ (8 * wd).toNat) :
    Calls Tryd.prog 35 #[.slice a n c, .int .i64 p, .int .i64 wd, .int .i64 x] w fun e w' => e = .returned (.int .i64 1) ∧ w = w' := by
  have c0 : decide (wd < 1) = false := decide_eq_false (by omega)
  have c1 : decide (8 < wd) = false := decide_eq_false (by omega)
  have c2 : decide (x < 0) = false := decide_eq_false (by omega)
  have c3 : decide (wd < 8) = true := decide_eq_true (by omega)
  have c4 : decide (0 < x / 2 ^ (8 * wd).toNat) = true := decide_eq_true h
  go_enter Tryd.func35, Tryd.ntmps35
  go_wp2
  go_ret
  exact ⟨rfl, rfl⟩

set_option maxHeartbeats 2000000 in
set_option maxRecDepth 100000 in
theorem put_room8 (a : Option Addr) (n c : Nat) (p x : Int) (w : World) (hn : n ≤ 140737488351232) (hx : x ≤ 9223372036854775807) (h3 : 0 ≤ x)  (hr : NoRoom n p 8) :
    Calls Tryd.prog 35 #[.slice a n c, .int .i64 p, .int .i64 8, .int .i64 x] w fun e w' => e = .returned (.int .i64 1) ∧ w = w' := by
  have c0 : decide ((8 : Int) < 1) = false := by decide
  have c1 : decide (x < 0) = false := decide_eq_false (by omega)
  have HR := Lib.hid hr
  clear hr
  go_enter Tryd.func35, Tryd.ntmps35
  go_wp2_with (go_at_call 62; (with_reducible refine (cut_no a n c p 8 _ hn HR.out).mono ?_); rintro e w1 ⟨rfl, rfl⟩)
  go_ret
  exact ⟨rfl, rfl⟩

set_option maxHeartbeats 2000000 in
set_option maxRecDepth 100000 in
theorem put_rooms (a : Option Addr) (n c : Nat) (p wd x : Int) (w : World) (hn : n ≤ 140737488351232) (hx : x ≤ 9223372036854775807) (h3 : 0 ≤ x) (h1 : 1 ≤ wd) (h2 : wd < 8) (hf : x / 2 ^ (8 * wd).toNat ≤ 0) (hr : NoRoom n p wd) :
    Calls Tryd.prog 35 #[.slice a n c, .int .i64 p, .int .i64 wd, .int .i64 x] w fun e w' => e = .returned (.int .i64 1) ∧ w = w' := by
  have c0 : decide (wd < 1) = false := decide_eq_false (by omega)
  have c1 : decide (8 < wd) = false := decide_eq_false (by omega)
  have c2 : decide (x < 0) = false := decide_eq_false (by omega)
  have c3 : decide (wd < 8) = true := decide_eq_true (by omega)
  have c4 : decide (0 < x / 2 ^ (8 * wd).toNat) = false := decide_eq_false (by omega)
  have HR := Lib.hid hr
  clear hr
  go_enter Tryd.func35, Tryd.ntmps35
  go_wp2_with (go_at_call 62; (with_reducible refine (cut_no a n c p wd _ hn HR.out).mono ?_); rintro e w1 ⟨rfl, rfl⟩)
  go_ret
  exact ⟨rfl, rfl⟩

theorem put_no (a : Option Addr) (n c : Nat) (p wd x : Int) (w : World) (hn : n ≤ 140737488351232) (hx : x ≤ 9223372036854775807) (h : ¬ Fits x wd ∨ NoRoom n p wd) :
    Calls Tryd.prog 35 #[.slice a n c, .int .i64 p, .int .i64 wd, .int .i64 x] w fun e w' => e = .returned (.int .i64 1) ∧ w = w' := by
  by_cases h1 : wd < 1
  · exact put_low a n c p wd x w hx h1
  by_cases h2 : 8 < wd
  · exact put_high a n c p wd x w hx h2
  by_cases h3 : x < 0
  · exact put_neg a n c p wd x w hx (by omega) (by omega) h3
  by_cases h4 : wd < 8
  · by_cases h5 : 0 < x / 2 ^ (8 * wd).toNat
    · exact put_big a n c p wd x w hx (by omega) h4 (by omega) h5
    · exact put_rooms a n c p wd x w hn hx (by omega) (by omega) h4 (by omega) (h.resolve_left fun h => h ⟨by omega, by omega, by omega, fun _ => by omega⟩)
  · obtain rfl : wd = 8 := by omega
    exact put_room8 a n c p x w hn hx (by omega) (h.resolve_left fun h => h ⟨by omega, by omega, by omega, fun h => by omega⟩)

/-- what a Put leaves: block g with the bytes laid in -/
def PutPost (g : Nat) (cs : Array Value) (t : TypeId) (o : Nat) (l : List UInt8) (w : World) (r : Int) (e : Ending) (w' : World) : Prop :=
  e = .returned (.int .i64 r) ∧ Bk w' g (lay cs o (l.map B)) t ∧ Fr (· = g) w w'
set_option maxHeartbeats 2000000 in
set_option maxRecDepth 100000 in
theorem put_ok8 (g o n c p wd x : Nat) (cs : Array Value) (t : TypeId) (w : World) (hb : Bk w g cs t) (hc : n ≤ c) (hcm : c ≤ 9223372036854775807) (hn : n ≤ 140737488351232) (hcs : o + n ≤ cs.size) (hx : x ≤ 9223372036854775807) (hr : p + wd ≤ n) (h1 : wd = 8) :
    Calls Tryd.prog 35 #[.slice (some ⟨g, o, none⟩) n c, .int .i64 p, .int .i64 wd, .int .i64 x] w (PutPost g cs t (o + p) (le x wd) w 0) := by
  have c0 : decide ((wd : Int) < 1) = false := decide_eq_false (by omega)
  have c1 : decide (8 < (wd : Int)) = false := decide_eq_false (by omega)
  have c2 : decide ((x : Int) < 0) = false := decide_eq_false (by omega)
  have c3 : decide ((wd : Int) < 8) = false := decide_eq_false (by omega)
  have h1a : 1 ≤ wd := by omega
  have h1b : wd ≤ 8 := by omega
  clear h1
  have HB := Lib.hid hb
  clear hb
  go_enter Tryd.func35, Tryd.ntmps35
  go_wp2_with (go_at_call 62; (with_reducible refine (cut_ok g o n c p wd _ hc hcm hn hr (by omega)).mono ?_); rintro e w1 ⟨rfl, rfl⟩)
  go_loopw [3, 44] (fun v u wr => ∃ k : Nat, k ≤ wd ∧ u = .int .i64 k ∧ v = .int .i64 ((x / 256 ^ k : Nat) : Int) ∧ Bk wr g (lay cs (o + p) (((le x wd).map B).take k)) t ∧ Fr (· = g) w wr) (fun _ u _ => wd - (intOf u).toNat)
  case atStart => exact ⟨0, by omega, rfl, by simp, HB.out, Fr.refl _ _⟩
  case round =>
    obtain ⟨k, hk, rfl, rfl, hbk, hfr⟩ := hrel
    have hlt0 : o + p + k < cs.size ∨ k = wd := by omega
    have HBK := Lib.hid hbk
    have HFR := Lib.hid hfr
    have hxk : x / 256 ^ k ≤ x := Nat.div_le_self _ _
    have HX : Hid (x / 256 ^ k / 256 = x / 256 ^ (k + 1)) := Lib.hid (by rw [Nat.div_div_eq_div_mul, Nat.pow_succ])
    have HB2 : Hid (k < wd → ∀ (h : k < (le x wd).length), B ((le x wd)[k]) = .int .u8 ((x / 256 ^ k % 256 : Nat) : Int)) := Lib.hid (fun _ h => by rw [le_get, B_ofNat])
    clear hbk hfr
    generalize x / 256 ^ k = y at *
    by_cases hlt : k < wd
    · obtain ⟨v0, hv0⟩ : ∃ v0, wr.cell? ⟨g, o + p + k, none⟩ = some v0 := ⟨_, (HBK.out.cell _).trans (Array.getElem?_eq_getElem (by simp; omega))⟩
      have hfz := HBK.out.free (o + p + k)
      clear hlt0
      go_wp2
      have hv : ((le x wd).map B)[k]'(by simp; omega) = .int .u8 ((y : Int) % 256) := by
        rw [List.getElem_map, HB2.out hlt (by simp; omega)]; rfl
      refine ⟨⟨k + 1, by omega, by go_num, congrArg (Value.int .i64) (by rw [← HX.out]; omega), ?_, HFR.out.set _ _ (.inr rfl)⟩, by simp [intOf]; omega⟩
      rw [lay_take (by simp; omega), hv]
      exact HBK.out.set _ _
    · obtain rfl : k = wd := by omega
      go_wp2
      go_ret
      refine ⟨rfl, ?_, HFR.out⟩
      have := HBK.out
      rwa [List.take_of_length_le (by simp)] at this

set_option maxHeartbeats 2000000 in
set_option maxRecDepth 100000 in
theorem put_oks (g o n c p wd x : Nat) (cs : Array Value) (t : TypeId) (w : World) (hb : Bk w g cs t) (hc : n ≤ c) (hcm : c ≤ 9223372036854775807) (hn : n ≤ 140737488351232) (hcs : o + n ≤ cs.size) (hx : x ≤ 9223372036854775807) (hr : p + wd ≤ n) (h1 : 1 ≤ wd) (h2 : wd < 8) (hf : (x : Int) / 2 ^ (8 * wd) ≤ 0) :
    Calls Tryd.prog 35 #[.slice (some ⟨g, o, none⟩) n c, .int .i64 p, .int .i64 wd, .int .i64 x] w (PutPost g cs t (o + p) (le x wd) w 0) := by
  have c0 : decide ((wd : Int) < 1) = false := decide_eq_false (by omega)
  have c1 : decide (8 < (wd : Int)) = false := decide_eq_false (by omega)
  have c2 : decide ((x : Int) < 0) = false := decide_eq_false (by omega)
  have c3 : decide ((wd : Int) < 8) = true := decide_eq_true (by omega)
  have c4 : decide (0 < (x : Int) / 2 ^ (8 * wd)) = false := decide_eq_false (by omega)
  have HB := Lib.hid hb
  clear hb
  go_enter Tryd.func35, Tryd.ntmps35
  go_wp2_with (go_at_call 62; (with_reducible refine (cut_ok g o n c p wd _ hc hcm hn hr (by omega)).mono ?_); rintro e w1 ⟨rfl, rfl⟩)
  go_loopw [3, 44] (fun v u wr => ∃ k : Nat, k ≤ wd ∧ u = .int .i64 k ∧ v = .int .i64 ((x / 256 ^ k : Nat) : Int) ∧ Bk wr g (lay cs (o + p) (((le x wd).map B).take k)) t ∧ Fr (· = g) w wr) (fun _ u _ => wd - (intOf u).toNat)
  case atStart => exact ⟨0, by omega, rfl, by simp, HB.out, Fr.refl _ _⟩
  case round =>
    obtain ⟨k, hk, rfl, rfl, hbk, hfr⟩ := hrel
    have hlt0 : o + p + k < cs.size ∨ k = wd := by omega
    have HBK := Lib.hid hbk
    have HFR := Lib.hid hfr
    have hxk : x / 256 ^ k ≤ x := Nat.div_le_self _ _
    have HX : Hid (x / 256 ^ k / 256 = x / 256 ^ (k + 1)) := Lib.hid (by rw [Nat.div_div_eq_div_mul, Nat.pow_succ])
    have HB2 : Hid (k < wd → ∀ (h : k < (le x wd).length), B ((le x wd)[k]) = .int .u8 ((x / 256 ^ k % 256 : Nat) : Int)) := Lib.hid (fun _ h => by rw [le_get, B_ofNat])
    clear hbk hfr
    generalize x / 256 ^ k = y at *
    by_cases hlt : k < wd
    · obtain ⟨v0, hv0⟩ : ∃ v0, wr.cell? ⟨g, o + p + k, none⟩ = some v0 := ⟨_, (HBK.out.cell _).trans (Array.getElem?_eq_getElem (by simp; omega))⟩
      have hfz := HBK.out.free (o + p + k)
      clear hlt0
      go_wp2
      have hv : ((le x wd).map B)[k]'(by simp; omega) = .int .u8 ((y : Int) % 256) := by
        rw [List.getElem_map, HB2.out hlt (by simp; omega)]; rfl
      refine ⟨⟨k + 1, by omega, by go_num, congrArg (Value.int .i64) (by rw [← HX.out]; omega), ?_, HFR.out.set _ _ (.inr rfl)⟩, by simp [intOf]; omega⟩
      rw [lay_take (by simp; omega), hv]
      exact HBK.out.set _ _
    · obtain rfl : k = wd := by omega
      go_wp2
      go_ret
      refine ⟨rfl, ?_, HFR.out⟩
      have := HBK.out
      rwa [List.take_of_length_le (by simp)] at this

/-- PUT: a number that fits is laid at a place that is there. -/
theorem put_ok (g o n c p wd x : Nat) (cs : Array Value) (t : TypeId) (w : World) (hb : Bk w g cs t) (hc : n ≤ c) (hcm : c ≤ 9223372036854775807) (hn : n ≤ 140737488351232) (hcs : o + n ≤ cs.size) (hx : x ≤ 9223372036854775807) (hr : p + wd ≤ n) (hf : Fits x wd) :
    Calls Tryd.prog 35 #[.slice (some ⟨g, o, none⟩) n c, .int .i64 p, .int .i64 wd, .int .i64 x] w (PutPost g cs t (o + p) (le x wd) w 0) := by
  obtain ⟨h1, h2, h3, h4⟩ := hf
  by_cases h8 : wd = 8
  · exact put_ok8 g o n c p wd x cs t w hb hc hcm hn hcs hx hr h8
  · have h5 := h4 (by omega)
    rw [show (8 * (wd : Int)).toNat = 8 * wd by omega] at h5
    exact put_oks g o n c p wd x cs t w hb hc hcm hn hcs hx hr (by omega) (by omega) h5

end Go.Proofs.YtlleandelcjhjaaDoor.WordPut
namespace Go.Proofs.YtlleandelcjhjaaDoor.WordTake
open Go Go.RowKit Go.Proofs.YtlleandelcjhjaaDoor.K Go.Proofs.YtlleandelcjhjaaDoor.WordPut
/-- the number of bytes, the lowest first -/
def num : List UInt8 → Nat
  | [] => 0
  | v :: r => v.toNat + 256 * num r
theorem num_snoc (l : List UInt8) (v : UInt8) : num (l ++ [v]) = num l + v.toNat * 256 ^ l.length := by
  induction l with
  | nil => simp [num]
  | cons u r ih => simp only [List.cons_append, num, ih, List.length_cons, Nat.pow_succ, Nat.mul_add]; rw [Nat.add_assoc, Nat.mul_left_comm, Nat.mul_comm 256 (256 ^ r.length)]
theorem num_lt (l : List UInt8) : num l < 256 ^ l.length := by
  induction l with
  | nil => simp [num]
  | cons u r ih => simp only [num, List.length_cons, Nat.pow_succ]; have := u.toNat_lt; omega
theorem num_take (l : List UInt8) (k : Nat) (h : k < l.length) : num (l.take (k + 1)) = num (l.take k) + l[k].toNat * 256 ^ k := by
  rw [List.take_succ_eq_append_getElem h, num_snoc, List.length_take, Nat.min_eq_left (by omega)]

set_option maxHeartbeats 2000000 in
set_option maxRecDepth 100000 in
theorem take_ok0 (b o n c p wd : Nat) (m : List UInt8) (w : World) (hlen : m.length = wd) (hrd2 : Rd w (some ⟨b, o + p, none⟩) m) (hc : n ≤ c) (hcm : c ≤ 9223372036854775807) (hn : n ≤ 140737488351232) (hr : p + wd ≤ n) (h1 : 1 ≤ wd) (h2 : wd ≤ 8) (hsm : num m < 2 ^ 63) :
    Calls Tryd.prog 55 #[.slice (some ⟨b, o, none⟩) n c, .int .i64 p, .int .i64 wd] w fun e w' => e = .returned (.tuple #[.int .i64 (num m : Int), .int .i64 0]) ∧ w = w' := by
  have c0 : decide ((wd : Int) < 1) = false := decide_eq_false (by omega)
  have c1 : decide (8 < (wd : Int)) = false := decide_eq_false (by omega)
  have h64 : num m < 18446744073709551616 := by
    have := num_lt m
    rw [hlen] at this
    have h8 : (256 : Nat) ^ wd ≤ 256 ^ 8 := Nat.pow_le_pow_right (by decide) h2
    have : (256 : Nat) ^ 8 = 18446744073709551616 := by decide
    omega
  have HM := Lib.hid hlen
  have HR := Lib.hid hrd2
  clear hlen hrd2
  go_enter Tryd.func55, Tryd.ntmps55
  go_wp2_with (go_at_call 62; (with_reducible refine (cut_ok b o n c p wd _ hc hcm hn hr (by omega)).mono ?_); rintro e w1 ⟨rfl, rfl⟩)
  go_loop [10, 30] (fun v u => ∃ k : Nat, k ≤ wd ∧ u = .int .i64 k ∧ v = .int .u64 ((num (m.take k) : Nat) : Int)) (fun _ u => wd - (intOf u).toNat)
  case atStart => exact ⟨0, by omega, rfl, by simp [num]⟩
  case round =>
    obtain ⟨k, hk, rfl, rfl⟩ := hrel
    by_cases hlt : k < wd
    · obtain ⟨a, ea, hca⟩ := HR.out k (by rw [HM.out]; exact hlt)
      obtain rfl := Option.some.inj ea
      rw [add_form] at hca
      have hnt := num_take m k (by rw [HM.out]; exact hlt)
      have hnl : num (m.take k) < 256 ^ k := by have := num_lt (m.take k); rwa [List.length_take, Nat.min_eq_left (by rw [HM.out]; omega)] at this
      have HN := Lib.hid hnt
      have HL := Lib.hid hnl
      clear hnt hnl
      generalize m[k]'(by rw [HM.out]; exact hlt) = bv at *
      have hb0 : (0 : Int) ≤ (bv.toNat : Int) := by omega
      have hb1 : (bv.toNat : Int) < 256 := by have := bv.toNat_lt; omega
      simp only [B] at hca
      clear ea
      go_wp2
      refine ⟨⟨k + 1, by omega, by go_num, congrArg (Value.int .u64) ?_⟩, by simp [intOf]; omega⟩
      rw [or_high _ _ _ HL.out bv.toNat_lt (by omega), HN.out]
    · obtain rfl : k = wd := by omega
      have hm : m.take k = m := List.take_of_length_le (by rw [HM.out]; omega)
      rw [hm]
      clear hm
      generalize hz : num m = z at *
      have HZ := Lib.hid hz
      clear hz
      have c9 : decide (0 < (z : Int) / 9223372036854775808) = false := decide_eq_false (by omega)
      go_wp2
      go_ret2
      exact ⟨by first | rfl | (rw [HZ.out]; rfl), rfl⟩
theorem take_ok (b o n c p wd : Nat) (l : List UInt8) (w : World) (hl : l.length = n) (hrd : Rd w (some ⟨b, o, none⟩) l) (hc : n ≤ c) (hcm : c ≤ 9223372036854775807) (hn : n ≤ 140737488351232) (hr : p + wd ≤ n) (h1 : 1 ≤ wd) (h2 : wd ≤ 8) (hsm : num ((l.drop p).take wd) < 2 ^ 63) :
    Calls Tryd.prog 55 #[.slice (some ⟨b, o, none⟩) n c, .int .i64 p, .int .i64 wd] w fun e w' => e = .returned (.tuple #[.int .i64 (num ((l.drop p).take wd) : Int), .int .i64 0]) ∧ w = w' :=
  take_ok0 b o n c p wd _ w (by simp; omega) (hrd.sub p wd) hc hcm hn hr h1 h2 hsm

set_option maxHeartbeats 2000000 in
set_option maxRecDepth 100000 in
theorem take_form0 (b o n c p wd : Nat) (m : List UInt8) (w : World) (hlen : m.length = wd) (hrd2 : Rd w (some ⟨b, o + p, none⟩) m) (hc : n ≤ c) (hcm : c ≤ 9223372036854775807) (hn : n ≤ 140737488351232) (hr : p + wd ≤ n) (h1 : 1 ≤ wd) (h2 : wd ≤ 8) (hsm : 2 ^ 63 ≤ num m) :
    Calls Tryd.prog 55 #[.slice (some ⟨b, o, none⟩) n c, .int .i64 p, .int .i64 wd] w fun e w' => e = .returned (.tuple #[.int .i64 0, .int .i64 15]) ∧ w = w' := by
  have c0 : decide ((wd : Int) < 1) = false := decide_eq_false (by omega)
  have c1 : decide (8 < (wd : Int)) = false := decide_eq_false (by omega)
  have h64 : num m < 18446744073709551616 := by
    have := num_lt m
    rw [hlen] at this
    have h8 : (256 : Nat) ^ wd ≤ 256 ^ 8 := Nat.pow_le_pow_right (by decide) h2
    have : (256 : Nat) ^ 8 = 18446744073709551616 := by decide
    omega
  have HM := Lib.hid hlen
  have HR := Lib.hid hrd2
  clear hlen hrd2
  go_enter Tryd.func55, Tryd.ntmps55
  go_wp2_with (go_at_call 62; (with_reducible refine (cut_ok b o n c p wd _ hc hcm hn hr (by omega)).mono ?_); rintro e w1 ⟨rfl, rfl⟩)
  go_loop [10, 30] (fun v u => ∃ k : Nat, k ≤ wd ∧ u = .int .i64 k ∧ v = .int .u64 ((num (m.take k) : Nat) : Int)) (fun _ u => wd - (intOf u).toNat)
  case atStart => exact ⟨0, by omega, rfl, by simp [num]⟩
  case round =>
    obtain ⟨k, hk, rfl, rfl⟩ := hrel
    by_cases hlt : k < wd
    · obtain ⟨a, ea, hca⟩ := HR.out k (by rw [HM.out]; exact hlt)
      obtain rfl := Option.some.inj ea
      rw [add_form] at hca
      have hnt := num_take m k (by rw [HM.out]; exact hlt)
      have hnl : num (m.take k) < 256 ^ k := by have := num_lt (m.take k); rwa [List.length_take, Nat.min_eq_left (by rw [HM.out]; omega)] at this
      have HN := Lib.hid hnt
      have HL := Lib.hid hnl
      clear hnt hnl
      generalize m[k]'(by rw [HM.out]; exact hlt) = bv at *
      have hb0 : (0 : Int) ≤ (bv.toNat : Int) := by omega
      have hb1 : (bv.toNat : Int) < 256 := by have := bv.toNat_lt; omega
      simp only [B] at hca
      clear ea
      go_wp2
      refine ⟨⟨k + 1, by omega, by go_num, congrArg (Value.int .u64) ?_⟩, by simp [intOf]; omega⟩
      rw [or_high _ _ _ HL.out bv.toNat_lt (by omega), HN.out]
    · obtain rfl : k = wd := by omega
      have hm : m.take k = m := List.take_of_length_le (by rw [HM.out]; omega)
      rw [hm]
      clear hm
      generalize hz : num m = z at *
      have HZ := Lib.hid hz
      clear hz
      have c9 : decide (0 < (z : Int) / 9223372036854775808) = true := decide_eq_true (by omega)
      go_wp2
      go_ret2
      exact ⟨by first | rfl | (rw [HZ.out]; rfl), rfl⟩
theorem take_form (b o n c p wd : Nat) (l : List UInt8) (w : World) (hl : l.length = n) (hrd : Rd w (some ⟨b, o, none⟩) l) (hc : n ≤ c) (hcm : c ≤ 9223372036854775807) (hn : n ≤ 140737488351232) (hr : p + wd ≤ n) (h1 : 1 ≤ wd) (h2 : wd ≤ 8) (hsm : 2 ^ 63 ≤ num ((l.drop p).take wd)) :
    Calls Tryd.prog 55 #[.slice (some ⟨b, o, none⟩) n c, .int .i64 p, .int .i64 wd] w fun e w' => e = .returned (.tuple #[.int .i64 0, .int .i64 15]) ∧ w = w' :=
  take_form0 b o n c p wd _ w (by simp; omega) (hrd.sub p wd) hc hcm hn hr h1 h2 hsm

end Go.Proofs.YtlleandelcjhjaaDoor.WordTake
namespace Go.Proofs.YtlleandelcjhjaaDoor.RefWord
open Go Go.RowKit Go.Proofs.YtlleandelcjhjaaDoor.K Go.Proofs.YtlleandelcjhjaaDoor.WordPut Go.Proofs.YtlleandelcjhjaaDoor.WordTake
theorem ret_b {a b : Bool} (h : a = b) : Ending.returned (.bool a) = .returned (.bool b) := by rw [h]

set_option maxHeartbeats 2000000 in
set_option maxRecDepth 100000 in
theorem right_neg (a : Option Addr) (n c : Nat) (p s : Int) (w : World) (hn : n ≤ 140737488351232) (h : p < 0) :
    Calls Tryd.prog 65 #[.slice a n c, .int .i64 p, .int .i64 s] w fun e w' => e = .returned (.bool false) ∧ w = w' := by
  have c0 : decide (0 ≤ p) = false := decide_eq_false (by omega)
  go_enter Tryd.func65, Tryd.ntmps65
  go_wp2
  go_ret
  exact ⟨by first | rfl | exact ret_b (by simp; omega), rfl⟩

set_option maxHeartbeats 2000000 in
set_option maxRecDepth 100000 in
theorem right_far (a : Option Addr) (n c : Nat) (p s : Int) (w : World) (hn : n ≤ 140737488351232) (h : 0 ≤ p) (h1 : (n : Int) < p) :
    Calls Tryd.prog 65 #[.slice a n c, .int .i64 p, .int .i64 s] w fun e w' => e = .returned (.bool false) ∧ w = w' := by
  have c0 : decide (0 ≤ p) = true := decide_eq_true (by omega)
  have c1 : decide (p ≤ (n : Int)) = false := decide_eq_false (by omega)
  go_enter Tryd.func65, Tryd.ntmps65
  go_wp2
  go_ret
  exact ⟨by first | rfl | exact ret_b (by simp; omega), rfl⟩

set_option maxHeartbeats 2000000 in
set_option maxRecDepth 100000 in
theorem right_big (a : Option Addr) (n c : Nat) (p s : Int) (w : World) (hn : n ≤ 140737488351232) (h : 0 ≤ p) (h1 : p ≤ n) (h2 : (n : Int) - p < s) :
    Calls Tryd.prog 65 #[.slice a n c, .int .i64 p, .int .i64 s] w fun e w' => e = .returned (.bool false) ∧ w = w' := by
  have c0 : decide (0 ≤ p) = true := decide_eq_true (by omega)
  have c1 : decide (p ≤ (n : Int)) = true := decide_eq_true (by omega)
  have c2 : decide (s ≤ (n : Int) - p) = false := decide_eq_false (by omega)
  go_enter Tryd.func65, Tryd.ntmps65
  go_wp2
  go_ret
  exact ⟨by first | rfl | exact ret_b (by simp; omega), rfl⟩

set_option maxHeartbeats 2000000 in
set_option maxRecDepth 100000 in
theorem right_yes (a : Option Addr) (n c : Nat) (p s : Int) (w : World) (hn : n ≤ 140737488351232) (h : 0 ≤ p) (h1 : p ≤ n) (h2 : s ≤ (n : Int) - p) :
    Calls Tryd.prog 65 #[.slice a n c, .int .i64 p, .int .i64 s] w fun e w' => e = .returned (.bool true) ∧ w = w' := by
  have c0 : decide (0 ≤ p) = true := decide_eq_true (by omega)
  have c1 : decide (p ≤ (n : Int)) = true := decide_eq_true (by omega)
  have c2 : decide (s ≤ (n : Int) - p) = true := decide_eq_true (by omega)
  go_enter Tryd.func65, Tryd.ntmps65
  go_wp2
  go_ret
  exact ⟨by first | rfl | exact ret_b (by simp; omega), rfl⟩

theorem right_no (a : Option Addr) (n c : Nat) (p s : Int) (w : World) (hn : n ≤ 140737488351232) (h : NoRoom n p s) :
    Calls Tryd.prog 65 #[.slice a n c, .int .i64 p, .int .i64 s] w fun e w' => e = .returned (.bool false) ∧ w = w' := by
  by_cases h1 : p < 0
  · exact right_neg a n c p s w hn h1
  by_cases h2 : (n : Int) < p
  · exact right_far a n c p s w hn (by omega) h2
  · exact right_big a n c p s w hn (by omega) (by omega) (by rcases h with h | h | h <;> omega)
theorem right_ok (a : Option Addr) (n c : Nat) (p s : Int) (w : World) (hn : n ≤ 140737488351232) (h : ¬ NoRoom n p s) :
    Calls Tryd.prog 65 #[.slice a n c, .int .i64 p, .int .i64 s] w fun e w' => e = .returned (.bool true) ∧ w = w' := by
  unfold NoRoom at h
  exact right_yes a n c p s w hn (by omega) (by omega) (by omega)

set_option maxHeartbeats 2000000 in
set_option maxRecDepth 100000 in
theorem fits_neg (x wd : Int) (w : World) (hx : x ≤ 9223372036854775807) (h : x < 0) :
    Calls Tryd.prog 66 #[.int .i64 x, .int .i64 wd] w fun e w' => e = .returned (.bool false) ∧ w = w' := by
  have c0 : decide (0 ≤ x) = false := decide_eq_false (by omega)
  go_enter Tryd.func66, Tryd.ntmps66
  go_wp2
  go_ret
  exact ⟨by first | rfl | exact ret_b (by simp; omega), rfl⟩

set_option maxHeartbeats 2000000 in
set_option maxRecDepth 100000 in
theorem fits_wide (x wd : Int) (w : World) (hx : x ≤ 9223372036854775807) (h : 0 ≤ x) (h1 : 8 ≤ wd) :
    Calls Tryd.prog 66 #[.int .i64 x, .int .i64 wd] w fun e w' => e = .returned (.bool true) ∧ w = w' := by
  have c0 : decide (0 ≤ x) = true := decide_eq_true (by omega)
  have c1 : decide (8 ≤ wd) = true := decide_eq_true (by omega)
  go_enter Tryd.func66, Tryd.ntmps66
  go_wp2
  go_ret
  exact ⟨by first | rfl | exact ret_b (by simp; omega), rfl⟩

set_option maxHeartbeats 2000000 in
set_option maxRecDepth 100000 in
theorem fits_in (x wd : Int) (w : World) (hx : x ≤ 9223372036854775807) (h : 0 ≤ x) (h0 : 1 ≤ wd) (h1 : wd < 8) (h2 : x / 2 ^ (8 * wd).toNat ≤ 0) :
    Calls Tryd.prog 66 #[.int .i64 x, .int .i64 wd] w fun e w' => e = .returned (.bool true) ∧ w = w' := by
  have c0 : decide (0 ≤ x) = true := decide_eq_true (by omega)
  have c1 : decide (8 ≤ wd) = false := decide_eq_false (by omega)
  have c2 : (x / 2 ^ (8 * wd).toNat == 0) = true := beq_iff_eq.mpr (Int.le_antisymm h2 (Int.ediv_nonneg h (Int.le_of_lt (Int.pow_pos (by decide)))))
  go_enter Tryd.func66, Tryd.ntmps66
  go_wp2
  go_ret
  exact ⟨by first | rfl | exact ret_b (by simp; omega), rfl⟩

set_option maxHeartbeats 2000000 in
set_option maxRecDepth 100000 in
theorem fits_big (x wd : Int) (w : World) (hx : x ≤ 9223372036854775807) (h : 0 ≤ x) (h0 : 1 ≤ wd) (h1 : wd < 8) (h2 : 0 < x / 2 ^ (8 * wd).toNat) :
    Calls Tryd.prog 66 #[.int .i64 x, .int .i64 wd] w fun e w' => e = .returned (.bool false) ∧ w = w' := by
  have c0 : decide (0 ≤ x) = true := decide_eq_true (by omega)
  have c1 : decide (8 ≤ wd) = false := decide_eq_false (by omega)
  have c2 : (x / 2 ^ (8 * wd).toNat == 0) = false := beq_eq_false_iff_ne.mpr (by omega)
  go_enter Tryd.func66, Tryd.ntmps66
  go_wp2
  go_ret
  exact ⟨by first | rfl | exact ret_b (by simp; omega), rfl⟩

theorem fits_ok (x wd : Int) (w : World) (hx : x ≤ 9223372036854775807) (h : Fits x wd) : Calls Tryd.prog 66 #[.int .i64 x, .int .i64 wd] w fun e w' => e = .returned (.bool true) ∧ w = w' := by
  obtain ⟨h1, h2, h3, h4⟩ := h
  by_cases h8 : wd < 8
  · exact fits_in x wd w hx h3 h1 h8 (h4 h8)
  · exact fits_wide x wd w hx h3 (by omega)
theorem fits_no (x wd : Int) (w : World) (hx : x ≤ 9223372036854775807) (h1 : 1 ≤ wd) (h2 : wd ≤ 8) (h : ¬ Fits x wd) : Calls Tryd.prog 66 #[.int .i64 x, .int .i64 wd] w fun e w' => e = .returned (.bool false) ∧ w = w' := by
  by_cases h3 : x < 0
  · exact fits_neg x wd w hx h3
  by_cases h8 : wd < 8
  · exact fits_big x wd w hx (by omega) h1 h8 (by
      rcases Int.lt_or_le 0 (x / 2 ^ (8 * wd).toNat) with h4 | h4
      · exact h4
      · exact absurd ⟨h1, h2, by omega, fun _ => h4⟩ h)
  · exact absurd ⟨h1, h2, by omega, fun h => by omega⟩ h

set_option maxHeartbeats 2000000 in
set_option maxRecDepth 100000 in
theorem put_low (a : Option Addr) (n c : Nat) (p wd x : Int) (w : World) (hn : n ≤ 140737488351232) (hx : x ≤ 9223372036854775807) (h : wd < 1) :
    Calls Tryd.prog 37 #[.slice a n c, .int .i64 p, .int .i64 wd, .int .i64 x] w fun e w' => e = .returned (.int .i64 1) ∧ w = w' := by
  have c0 : decide (wd < 1) = true := decide_eq_true (by omega)
  go_enter Tryd.func37, Tryd.ntmps37
  go_wp2_with (fail)
  go_ret
  exact ⟨rfl, rfl⟩

set_option maxHeartbeats 2000000 in
set_option maxRecDepth 100000 in
theorem put_high (a : Option Addr) (n c : Nat) (p wd x : Int) (w : World) (hn : n ≤ 140737488351232) (hx : x ≤ 9223372036854775807) (h : 8 < wd) :
    Calls Tryd.prog 37 #[.slice a n c, .int .i64 p, .int .i64 wd, .int .i64 x] w fun e w' => e = .returned (.int .i64 1) ∧ w = w' := by
  have c0 : decide (wd < 1) = false := decide_eq_false (by omega)
  have c1 : decide (8 < wd) = true := decide_eq_true (by omega)
  go_enter Tryd.func37, Tryd.ntmps37
  go_wp2_with (fail)
  go_ret
  exact ⟨rfl, rfl⟩

set_option maxHeartbeats 2000000 in
set_option maxRecDepth 100000 in
theorem put_room (a : Option Addr) (n c : Nat) (p wd x : Int) (w : World) (hn : n ≤ 140737488351232) (hx : x ≤ 9223372036854775807) (h1 : 1 ≤ wd) (h2 : wd ≤ 8) (hr : NoRoom n p wd) :
    Calls Tryd.prog 37 #[.slice a n c, .int .i64 p, .int .i64 wd, .int .i64 x] w fun e w' => e = .returned (.int .i64 1) ∧ w = w' := by
  have c0 : decide (wd < 1) = false := decide_eq_false (by omega)
  have c1 : decide (8 < wd) = false := decide_eq_false (by omega)
  have HR := Lib.hid hr
  clear hr
  go_enter Tryd.func37, Tryd.ntmps37
  go_wp2_with (go_at_call 65; (with_reducible refine (right_no a n c p wd _ hn HR.out).mono ?_); rintro e w1 ⟨rfl, rfl⟩)
  go_ret
  exact ⟨rfl, rfl⟩

set_option maxHeartbeats 2000000 in
set_option maxRecDepth 100000 in
theorem put_fit (a : Option Addr) (n c : Nat) (p wd x : Int) (w : World) (hn : n ≤ 140737488351232) (hx : x ≤ 9223372036854775807) (h1 : 1 ≤ wd) (h2 : wd ≤ 8) (hr : ¬ NoRoom n p wd) (hf : ¬ Fits x wd) :
    Calls Tryd.prog 37 #[.slice a n c, .int .i64 p, .int .i64 wd, .int .i64 x] w fun e w' => e = .returned (.int .i64 1) ∧ w = w' := by
  have c0 : decide (wd < 1) = false := decide_eq_false (by omega)
  have c1 : decide (8 < wd) = false := decide_eq_false (by omega)
  have HR := Lib.hid hr
  clear hr
  have HF := Lib.hid hf
  clear hf
  go_enter Tryd.func37, Tryd.ntmps37
  go_wp2_with (first | (go_at_call 65; (with_reducible refine (right_ok a n c p wd _ hn HR.out).mono ?_); rintro e w1 ⟨rfl, rfl⟩) | (go_at_call 66; (with_reducible refine (fits_no x wd _ hx h1 h2 HF.out).mono ?_); rintro e w2 ⟨rfl, rfl⟩))
  go_ret
  exact ⟨rfl, rfl⟩

theorem put_no (a : Option Addr) (n c : Nat) (p wd x : Int) (w : World) (hn : n ≤ 140737488351232) (hx : x ≤ 9223372036854775807) (h : ¬ Fits x wd ∨ NoRoom n p wd) :
    Calls Tryd.prog 37 #[.slice a n c, .int .i64 p, .int .i64 wd, .int .i64 x] w fun e w' => e = .returned (.int .i64 1) ∧ w = w' := by
  by_cases h1 : wd < 1
  · exact put_low a n c p wd x w hn hx h1
  by_cases h2 : 8 < wd
  · exact put_high a n c p wd x w hn hx h2
  by_cases hr : NoRoom n p wd
  · exact put_room a n c p wd x w hn hx (by omega) (by omega) hr
  · exact put_fit a n c p wd x w hn hx (by omega) (by omega) hr (h.resolve_right hr)
set_option maxHeartbeats 2000000 in
set_option maxRecDepth 100000 in
theorem put_ok (g o n c p wd x : Nat) (cs : Array Value) (t : TypeId) (w : World) (hb : Bk w g cs t) (hc : n ≤ c) (hcm : c ≤ 9223372036854775807) (hn : n ≤ 140737488351232) (hcs : o + n ≤ cs.size) (hx : x ≤ 9223372036854775807) (hr : p + wd ≤ n) (hf : Fits x wd) :
    Calls Tryd.prog 37 #[.slice (some ⟨g, o, none⟩) n c, .int .i64 p, .int .i64 wd, .int .i64 x] w (PutPost g cs t (o + p) (le x wd) w 0) := by
  have h1 := hf.1
  have h2 := hf.2.1
  have c0 : decide ((wd : Int) < 1) = false := decide_eq_false (by omega)
  have c1 : decide (8 < (wd : Int)) = false := decide_eq_false (by omega)
  have HB := Lib.hid hb
  have HR : Hid (¬ NoRoom n p wd) := Lib.hid (by unfold NoRoom; omega)
  have HF := Lib.hid hf
  have HX : Hid ((x : Int) ≤ 9223372036854775807) := Lib.hid (by omega)
  clear hb hf
  go_enter Tryd.func37, Tryd.ntmps37
  go_wp2_with (first | (go_at_call 65; (with_reducible refine (right_ok (some ⟨g, o, none⟩) n c p wd _ hn HR.out).mono ?_); rintro e w1 ⟨rfl, rfl⟩) | (go_at_call 66; (with_reducible refine (fits_ok x wd _ HX.out HF.out).mono ?_); rintro e w2 ⟨rfl, rfl⟩))
  go_loopw [9] (fun u wr => ∃ k : Nat, k ≤ wd ∧ u = .int .i64 k ∧ Bk wr g (lay cs (o + p) (((le x wd).map B).take k)) t ∧ Fr (· = g) w wr) (fun u _ => wd - (intOf u).toNat)
  case atStart => exact ⟨0, by omega, rfl, HB.out, Fr.refl _ _⟩
  case round =>
    obtain ⟨k, hk, rfl, hbk, hfr⟩ := hrel
    have hlt0 : o + p + k < cs.size ∨ k = wd := by omega
    have HBK := Lib.hid hbk
    have HFR := Lib.hid hfr
    have HB2 : Hid (k < wd → ∀ (h : k < (le x wd).length), B ((le x wd)[k]) = .int .u8 ((x / 2 ^ (8 * k) % 256 : Nat) : Int)) := Lib.hid (fun _ h => by rw [le_get, B_ofNat, Nat.pow_mul])
    clear hbk hfr
    by_cases hlt : k < wd
    · obtain ⟨v0, hv0⟩ : ∃ v0, wr.cell? ⟨g, o + (p + k), none⟩ = some v0 := ⟨_, (HBK.out.cell _).trans (Array.getElem?_eq_getElem (by simp; omega))⟩
      have hfz := HBK.out.free (o + (p + k))
      clear hlt0
      go_wp2
      have hv : ((le x wd).map B)[k]'(by simp; omega) = .int .u8 ((x : Int) / 2 ^ (8 * k) % 256) := by
        rw [List.getElem_map, HB2.out hlt (by simp; omega)]; simp
      refine ⟨⟨k + 1, by omega, by go_num, ?_, HFR.out.set _ _ (.inr rfl)⟩, by simp [intOf]; omega⟩
      rw [lay_take (by simp; omega), hv, Nat.add_assoc]
      exact HBK.out.set _ _
    · obtain rfl : k = wd := by omega
      go_wp2
      go_ret
      refine ⟨rfl, ?_, HFR.out⟩
      have := HBK.out
      rwa [List.take_of_length_le (by simp)] at this

theorem num_drop (l : List UInt8) (k : Nat) (h : k < l.length) : num (l.drop k) = l[k].toNat + 256 * num (l.drop (k + 1)) := by
  rw [List.drop_eq_getElem_cons h]; rfl

set_option maxHeartbeats 2000000 in
set_option maxRecDepth 100000 in
theorem take_ok0 (b o n c p wd : Nat) (m : List UInt8) (w : World) (hlen : m.length = wd) (hrd2 : Rd w (some ⟨b, o + p, none⟩) m) (hc : n ≤ c) (hcm : c ≤ 9223372036854775807) (hn : n ≤ 140737488351232) (hr : p + wd ≤ n) (h1 : 1 ≤ wd) (h2 : wd ≤ 8) (hsm : num m < 2 ^ 63) :
    Calls Tryd.prog 56 #[.slice (some ⟨b, o, none⟩) n c, .int .i64 p, .int .i64 wd] w fun e w' => e = .returned (.tuple #[.int .i64 (num m : Int), .int .i64 0]) ∧ w = w' := by
  have c0 : decide ((wd : Int) < 1) = false := decide_eq_false (by omega)
  have c1 : decide (8 < (wd : Int)) = false := decide_eq_false (by omega)
  have HM := Lib.hid hlen
  have HR := Lib.hid hrd2
  have HQ : Hid (¬ NoRoom n p wd) := Lib.hid (by unfold NoRoom; omega)
  clear hlen hrd2
  go_enter Tryd.func56, Tryd.ntmps56
  go_wp2_with (go_at_call 65; (with_reducible refine (right_ok (some ⟨b, o, none⟩) n c p wd _ hn HQ.out).mono ?_); rintro e w1 ⟨rfl, rfl⟩)
  go_loop [8, 9] (fun v u => ∃ k : Nat, k ≤ wd ∧ u = .int .i64 ((k : Int) - 1) ∧ v = .int .u64 ((num (m.drop k) : Nat) : Int)) (fun _ u => (intOf u + 1).toNat)
  case atStart => exact ⟨wd, by omega, rfl, by simp [num, ← HM.out]⟩
  case round =>
    obtain ⟨k, hk, rfl, rfl⟩ := hrel
    cases k with
    | succ j =>
      have e : (((j + 1 : Nat) : Int) - 1) = (j : Int) := by omega
      rw [e]
      obtain ⟨a, ea, hca⟩ := HR.out j (by rw [HM.out]; omega)
      obtain rfl := Option.some.inj ea
      rw [add_form] at hca
      have hnd := num_drop m j (by rw [HM.out]; omega)
      have hnl : num (m.drop (j + 1)) < 72057594037927936 := by
        have h3 := num_lt (m.drop (j + 1))
        have h4 : (256 : Nat) ^ (m.drop (j + 1)).length ≤ 256 ^ 7 := Nat.pow_le_pow_right (by decide) (by rw [List.length_drop, HM.out]; omega)
        have : (256 : Nat) ^ 7 = 72057594037927936 := by decide
        omega
      generalize m[j]'(by rw [HM.out]; omega) = bv at *
      have hb0 : (0 : Int) ≤ (bv.toNat : Int) := by omega
      have hb1 : (bv.toNat : Int) < 256 := by have := bv.toNat_lt; omega
      simp only [B] at hca
      have hca2 : w.cell? ⟨b, o + (p + j), none⟩ = some (.int .u8 (bv.toNat : Int)) := by rw [← Nat.add_assoc]; exact hca
      have HN := Lib.hid hnd
      clear hnd ea e hca
      generalize hz : num (m.drop (j + 1)) = z at *
      have HZ := Lib.hid hz
      clear hz
      go_wp2
      refine ⟨⟨j, by omega, rfl, congrArg (Value.int .u64) ?_⟩, by simp [intOf]⟩
      rw [HN.out]; omega
    | zero =>
      have hz0 : decide ((0 : Int) ≤ ((0 : Nat) : Int) - 1) = false := by decide
      rw [show (m.drop 0) = m from rfl]
      generalize hz : num m = z at *
      have HZ := Lib.hid hz
      clear hz
      have c9 : decide (9223372036854775807 < (z : Int)) = false := decide_eq_false (by omega)
      go_wp2
      go_ret2
      exact ⟨by first | rfl | (rw [HZ.out]; rfl), rfl⟩
theorem take_ok (b o n c p wd : Nat) (l : List UInt8) (w : World) (hl : l.length = n) (hrd : Rd w (some ⟨b, o, none⟩) l) (hc : n ≤ c) (hcm : c ≤ 9223372036854775807) (hn : n ≤ 140737488351232) (hr : p + wd ≤ n) (h1 : 1 ≤ wd) (h2 : wd ≤ 8) (hsm : num ((l.drop p).take wd) < 2 ^ 63) :
    Calls Tryd.prog 56 #[.slice (some ⟨b, o, none⟩) n c, .int .i64 p, .int .i64 wd] w fun e w' => e = .returned (.tuple #[.int .i64 (num ((l.drop p).take wd) : Int), .int .i64 0]) ∧ w = w' :=
  take_ok0 b o n c p wd _ w (by simp; omega) (hrd.sub p wd) hc hcm hn hr h1 h2 hsm

set_option maxHeartbeats 2000000 in
set_option maxRecDepth 100000 in
theorem take_form0 (b o n c p wd : Nat) (m : List UInt8) (w : World) (hlen : m.length = wd) (hrd2 : Rd w (some ⟨b, o + p, none⟩) m) (hc : n ≤ c) (hcm : c ≤ 9223372036854775807) (hn : n ≤ 140737488351232) (hr : p + wd ≤ n) (h1 : 1 ≤ wd) (h2 : wd ≤ 8) (hsm : 2 ^ 63 ≤ num m) :
    Calls Tryd.prog 56 #[.slice (some ⟨b, o, none⟩) n c, .int .i64 p, .int .i64 wd] w fun e w' => e = .returned (.tuple #[.int .i64 0, .int .i64 15]) ∧ w = w' := by
  have c0 : decide ((wd : Int) < 1) = false := decide_eq_false (by omega)
  have c1 : decide (8 < (wd : Int)) = false := decide_eq_false (by omega)
  have HM := Lib.hid hlen
  have HR := Lib.hid hrd2
  have HQ : Hid (¬ NoRoom n p wd) := Lib.hid (by unfold NoRoom; omega)
  clear hlen hrd2
  go_enter Tryd.func56, Tryd.ntmps56
  go_wp2_with (go_at_call 65; (with_reducible refine (right_ok (some ⟨b, o, none⟩) n c p wd _ hn HQ.out).mono ?_); rintro e w1 ⟨rfl, rfl⟩)
  go_loop [8, 9] (fun v u => ∃ k : Nat, k ≤ wd ∧ u = .int .i64 ((k : Int) - 1) ∧ v = .int .u64 ((num (m.drop k) : Nat) : Int)) (fun _ u => (intOf u + 1).toNat)
  case atStart => exact ⟨wd, by omega, rfl, by simp [num, ← HM.out]⟩
  case round =>
    obtain ⟨k, hk, rfl, rfl⟩ := hrel
    cases k with
    | succ j =>
      have e : (((j + 1 : Nat) : Int) - 1) = (j : Int) := by omega
      rw [e]
      obtain ⟨a, ea, hca⟩ := HR.out j (by rw [HM.out]; omega)
      obtain rfl := Option.some.inj ea
      rw [add_form] at hca
      have hnd := num_drop m j (by rw [HM.out]; omega)
      have hnl : num (m.drop (j + 1)) < 72057594037927936 := by
        have h3 := num_lt (m.drop (j + 1))
        have h4 : (256 : Nat) ^ (m.drop (j + 1)).length ≤ 256 ^ 7 := Nat.pow_le_pow_right (by decide) (by rw [List.length_drop, HM.out]; omega)
        have : (256 : Nat) ^ 7 = 72057594037927936 := by decide
        omega
      generalize m[j]'(by rw [HM.out]; omega) = bv at *
      have hb0 : (0 : Int) ≤ (bv.toNat : Int) := by omega
      have hb1 : (bv.toNat : Int) < 256 := by have := bv.toNat_lt; omega
      simp only [B] at hca
      have hca2 : w.cell? ⟨b, o + (p + j), none⟩ = some (.int .u8 (bv.toNat : Int)) := by rw [← Nat.add_assoc]; exact hca
      have HN := Lib.hid hnd
      clear hnd ea e hca
      generalize hz : num (m.drop (j + 1)) = z at *
      have HZ := Lib.hid hz
      clear hz
      go_wp2
      refine ⟨⟨j, by omega, rfl, congrArg (Value.int .u64) ?_⟩, by simp [intOf]⟩
      rw [HN.out]; omega
    | zero =>
      have hz0 : decide ((0 : Int) ≤ ((0 : Nat) : Int) - 1) = false := by decide
      rw [show (m.drop 0) = m from rfl]
      generalize hz : num m = z at *
      have HZ := Lib.hid hz
      clear hz
      have c9 : decide (9223372036854775807 < (z : Int)) = true := decide_eq_true (by omega)
      go_wp2
      go_ret2
      exact ⟨by first | rfl | (rw [HZ.out]; rfl), rfl⟩
theorem take_form (b o n c p wd : Nat) (l : List UInt8) (w : World) (hl : l.length = n) (hrd : Rd w (some ⟨b, o, none⟩) l) (hc : n ≤ c) (hcm : c ≤ 9223372036854775807) (hn : n ≤ 140737488351232) (hr : p + wd ≤ n) (h1 : 1 ≤ wd) (h2 : wd ≤ 8) (hsm : 2 ^ 63 ≤ num ((l.drop p).take wd)) :
    Calls Tryd.prog 56 #[.slice (some ⟨b, o, none⟩) n c, .int .i64 p, .int .i64 wd] w fun e w' => e = .returned (.tuple #[.int .i64 0, .int .i64 15]) ∧ w = w' :=
  take_form0 b o n c p wd _ w (by simp; omega) (hrd.sub p wd) hc hcm hn hr h1 h2 hsm

end Go.Proofs.YtlleandelcjhjaaDoor.RefWord
