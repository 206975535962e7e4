/- The law WordPuts: the walk. -/
import Derived.Test.YtkajbhkhecoccaaWordLaws
import Derived.Deep.RegionHeld3
set_option linter.unusedVariables false
set_option linter.unusedSimpArgs false
namespace Go.Proofs.Ytkajbhkhecoccaa.WordLawPuts
open Go Go.RowKit Go.Proofs.Ytkajbhkhecoccaa.K Go.Proofs.Ytkajbhkhecoccaa.WordPut Go.Proofs.Ytkajbhkhecoccaa.WordTake Go.Proofs.Ytkajbhkhecoccaa.RefCopy Go.Proofs.Ytkajbhkhecoccaa.WordLaws

/-- m laid into l from p on -/
def splice (l : List UInt8) (p : Nat) (m : List UInt8) : List UInt8 := l.take p ++ m ++ l.drop (p + m.length)
theorem splice_length {l m : List UInt8} {p : Nat} (h : p + m.length ≤ l.length) : (splice l p m).length = l.length := by simp [splice]; omega
theorem splice_get {l m : List UInt8} {p : Nat} (h : p + m.length ≤ l.length) (i : Nat) : (splice l p m)[i]? = if p ≤ i ∧ i < p + m.length then m[i - p]? else l[i]? := by
  simp only [splice, List.append_assoc]
  rw [List.getElem?_append, List.length_take, Nat.min_eq_left (by omega)]
  by_cases h1 : i < p
  · rw [if_pos h1, if_neg (by omega), List.getElem?_take, if_pos h1]
  · rw [if_neg h1, List.getElem?_append]
    by_cases h2 : i - p < m.length
    · rw [if_pos h2, if_pos (by omega)]
    · rw [if_neg h2, if_neg (by omega), List.getElem?_drop]
      congr 1; omega
theorem own_lay {w w' : World} {g n cap : Nat} {cur : Array Value} {l m : List UInt8} {p : Nat} (h : Own w g n cap cur l) (hb : Bk w' g (K.lay cur p (m.map B)) 5) (hp : p + m.length ≤ n) : Own w' g n cap (K.lay cur p (m.map B)) (splice l p m) where
  blk := hb
  len := (splice_length (by rw [h.len]; exact hp)).trans h.len
  room := h.room
  size := by rw [lay_size]; exact h.size
  cap := h.cap
  here := fun i hi => by
    have hl := h.len
    have hs := splice_get (l := l) (m := m) (p := p) (by omega) i
    rw [List.getElem?_eq_getElem hi] at hs
    rw [lay_get, List.length_map]
    have hsz := h.size
    have hr := h.room
    rw [splice_length (by omega)] at hi
    by_cases h1 : p ≤ i ∧ i < p + m.length
    · rw [if_pos h1] at hs
      rw [if_pos ⟨h1.1, h1.2, by omega⟩, List.getElem?_map, ← hs]; rfl
    · rw [if_neg h1] at hs
      rw [if_neg (by omega), h.here i hi]
      rw [List.getElem?_eq_getElem hi] at hs
      rw [Option.some.inj hs]
theorem own_put (g n cap p wd x : Nat) (cur : Array Value) (l : List UInt8) (w : World) (h : Own w g n cap cur l) (hn : n ≤ 140737488351232) (hx : x ≤ 9223372036854775807) (hr : p + wd ≤ n) (hf : Fits x wd) :
    Calls Try.prog 14 #[.slice (some ⟨g, 0, none⟩) n cap, .int .i64 p, .int .i64 wd, .int .i64 x] w fun e w' => e = .returned (.int .i64 0) ∧ Own w' g n cap (K.lay cur p ((le x wd).map B)) (splice l p (le x wd)) ∧ Fr (· = g) w w' := by
  have := WordPut.put_ok g 0 n cap p wd x cur 5 w h.blk h.room h.cap hn (by rw [Nat.zero_add, h.size]; exact h.room) hx hr hf
  rw [Nat.zero_add] at this
  exact this.mono fun e w' ⟨h1, h2, h3⟩ => ⟨h1, own_lay h h2 (by simpa using hr), h3⟩
theorem own_rput (g n cap p wd x : Nat) (cur : Array Value) (l : List UInt8) (w : World) (h : Own w g n cap cur l) (hn : n ≤ 140737488351232) (hx : x ≤ 9223372036854775807) (hr : p + wd ≤ n) (hf : Fits x wd) :
    Calls Try.prog 15 #[.slice (some ⟨g, 0, none⟩) n cap, .int .i64 p, .int .i64 wd, .int .i64 x] w fun e w' => e = .returned (.int .i64 0) ∧ Own w' g n cap (K.lay cur p ((le x wd).map B)) (splice l p (le x wd)) ∧ Fr (· = g) w w' := by
  have := RefWord.put_ok g 0 n cap p wd x cur 5 w h.blk h.room h.cap hn (by rw [Nat.zero_add, h.size]; exact h.room) hx hr hf
  rw [Nat.zero_add] at this
  exact this.mono fun e w' ⟨h1, h2, h3⟩ => ⟨h1, own_lay h h2 (by simpa using hr), h3⟩

set_option maxHeartbeats 2000000 in
set_option maxRecDepth 100000 in
theorem puts_no (a : Option Addr) (n c : Nat) (p wd x : Int) (l : List UInt8) (w : World) (hl : l.length = n) (hrd : Rd w a l) (hc : n ≤ c) (hcm : c ≤ 9223372036854775807) (hn : n ≤ 140737488351232) (hx : x ≤ 9223372036854775807) (hno : ¬ Fits x wd ∨ NoRoom n p wd) :
    Calls Try.prog 3 #[.slice a n c, .agg #[.int .i64 p, .int .i64 wd, .int .i64 x]] w fun e w' => e = .returned (.bool true) ∧ Fr0 w w' := by
  have HL := Lib.hid hl
  have HN := Lib.hid hno
  have HR0 : Hid (Rd (w.alloc (.cells #[.int .i64 p, .int .i64 wd, .int .i64 x] 23)) a l) := Lib.hid (hrd.later (Fr.alloc (Fr.refl (fun _ => False) w) _) (fun _ _ h => h))
  have e4 : decide (l = l) = true := by simp
  clear hl hrd hno
  go_enter Try.func3, Try.ntmps3
  go_wp2_with (first
    | (go_at_call 12; (with_reducible refine (alive_calls _).mono ?_); rintro e w1 ⟨rfl, hf1⟩; have HF1 := Lib.hid hf1; have k0 : w1.cell? ⟨w.heap.size, 0, none⟩ = some (.int .i64 p) := (hf1.cell _ 0 (by simp) (fun h => h)).trans (by simp); have k1 : w1.cell? ⟨w.heap.size, 1, none⟩ = some (.int .i64 wd) := (hf1.cell _ 1 (by simp) (fun h => h)).trans (by simp); have k2 : w1.cell? ⟨w.heap.size, 2, none⟩ = some (.int .i64 x) := (hf1.cell _ 2 (by simp) (fun h => h)).trans (by simp); have z1 : w.heap.size < w1.heap.size := hf1.lt (by simp); have R1 : Hid (Rd w1 a l) := Lib.hid (HR0.out.later hf1 (fun _ _ h => h)); clear hf1))
  go_wp2_with fail
  refine (copy_calls a n c l _ HL.out R1.out hn).mono ?_
  rintro e w2 ⟨g, cap, cur, rfl, hge, hown, hf2⟩
  have HF2 := Lib.hid hf2
  have HO := Lib.hid hown
  have k0' : w2.cell? ⟨w.heap.size, 0, none⟩ = some (.int .i64 p) := (hf2.cell _ 0 z1 (fun h => h)).trans k0
  have k1' : w2.cell? ⟨w.heap.size, 1, none⟩ = some (.int .i64 wd) := (hf2.cell _ 1 z1 (fun h => h)).trans k1
  have k2' : w2.cell? ⟨w.heap.size, 2, none⟩ = some (.int .i64 x) := (hf2.cell _ 2 z1 (fun h => h)).trans k2
  have z2 : w.heap.size < w2.heap.size := hf2.lt z1
  have R2 : Hid (Rd w2 a l) := Lib.hid (R1.out.later hf2 (fun _ _ h => h))
  clear k0 k1 k2 hf2 hown
  go_wp2_with fail
  refine (copy_calls a n c l _ HL.out R2.out hn).mono ?_
  rintro e w3 ⟨g', cap', cur', rfl, hge', hown', hf3⟩
  have HF3 := Lib.hid hf3
  have HO2 : Hid (Own w3 g n cap cur l) := Lib.hid ⟨hf3.keep HO.out.blk (fun h => h), HO.out.len, HO.out.room, HO.out.size, HO.out.cap, HO.out.here⟩
  have HO' := Lib.hid hown'
  have k0 : w3.cell? ⟨w.heap.size, 0, none⟩ = some (.int .i64 p) := (hf3.cell _ 0 z2 (fun h => h)).trans k0'
  have k1 : w3.cell? ⟨w.heap.size, 1, none⟩ = some (.int .i64 wd) := (hf3.cell _ 1 z2 (fun h => h)).trans k1'
  have k2 : w3.cell? ⟨w.heap.size, 2, none⟩ = some (.int .i64 x) := (hf3.cell _ 2 z2 (fun h => h)).trans k2'
  have z3 : w.heap.size < w3.heap.size := hf3.lt z2
  have R3 : Hid (Rd w3 a l) := Lib.hid (R2.out.later hf3 (fun _ _ h => h))
  clear k0' k1' k2' hf3 hown'
  go_wp2_with fail
  go_region_held3 (fun w' => w'.cell? ⟨w.heap.size, 0, none⟩ = some (.int .i64 p) ∧ w'.cell? ⟨w.heap.size, 1, none⟩ = some (.int .i64 wd) ∧ w'.cell? ⟨w.heap.size, 2, none⟩ = some (.int .i64 x)) (go_keep)
    (first
    | (go_at_call 14; refine (WordPut.put_no _ n cap p wd x _ hn hx HN.out).mono ?_; rintro e wx ⟨rfl, rfl⟩)
    | (go_at_call 15; refine (RefWord.put_no _ n cap' p wd x _ hn hx HN.out).mono ?_; rintro e wy ⟨rfl, rfl⟩))
  go_wp2_with (go_at_call 16; first
    | (with_reducible refine (same_calls _ _ n n cap cap' l l _ HL.out (HO2.out.drew).rd HL.out (HO'.out.drew).rd).mono ?_; rintro e w7 ⟨rfl, rfl⟩)
    | (with_reducible refine (same_calls _ _ n n cap c l l _ HL.out (HO2.out.drew).rd HL.out (R3.out.later (Fr.drew (Fr.refl (fun _ => False) _)) (fun _ _ h => h))).mono ?_; rintro e w7 ⟨rfl, rfl⟩))
  go_ret
  exact ⟨by first | rfl | (simp; done), (((Fr.alloc (Fr.refl _ w) _).then0 HF1.out).then0 HF2.out).then0 HF3.out |>.drew⟩

set_option maxHeartbeats 2000000 in
set_option maxRecDepth 100000 in
theorem puts_ok (a : Option Addr) (n c p wd x : Nat) (l : List UInt8) (w : World) (hl : l.length = n) (hrd : Rd w a l) (hc : n ≤ c) (hcm : c ≤ 9223372036854775807) (hn : n ≤ 140737488351232) (hx : x ≤ 9223372036854775807) (hr : p + wd ≤ n) (hf : Fits x wd) :
    Calls Try.prog 3 #[.slice a n c, .agg #[.int .i64 p, .int .i64 wd, .int .i64 x]] w fun e w' => e = .returned (.bool true) ∧ Fr0 w w' := by
  have HL := Lib.hid hl
  have HF := Lib.hid hf
  have HR0 : Hid (Rd (w.alloc (.cells #[.int .i64 p, .int .i64 wd, .int .i64 x] 23)) a l) := Lib.hid (hrd.later (Fr.alloc (Fr.refl (fun _ => False) w) _) (fun _ _ h => h))
  have e4 : decide (splice l p (le x wd) = splice l p (le x wd)) = true := by simp
  have HS : Hid ((splice l p (le x wd)).length = n) := Lib.hid ((splice_length (by simp; omega)).trans hl)
  clear hl hrd hf
  go_enter Try.func3, Try.ntmps3
  go_wp2_with (first
    | (go_at_call 12; (with_reducible refine (alive_calls _).mono ?_); rintro e w1 ⟨rfl, hf1⟩; have HF1 := Lib.hid hf1; have k0 : w1.cell? ⟨w.heap.size, 0, none⟩ = some (.int .i64 p) := (hf1.cell _ 0 (by simp) (fun h => h)).trans (by simp); have k1 : w1.cell? ⟨w.heap.size, 1, none⟩ = some (.int .i64 wd) := (hf1.cell _ 1 (by simp) (fun h => h)).trans (by simp); have k2 : w1.cell? ⟨w.heap.size, 2, none⟩ = some (.int .i64 x) := (hf1.cell _ 2 (by simp) (fun h => h)).trans (by simp); have z1 : w.heap.size < w1.heap.size := hf1.lt (by simp); have R1 : Hid (Rd w1 a l) := Lib.hid (HR0.out.later hf1 (fun _ _ h => h)); clear hf1))
  go_wp2_with fail
  refine (copy_calls a n c l _ HL.out R1.out hn).mono ?_
  rintro e w2 ⟨g, cap, cur, rfl, hge, hown, hf2⟩
  have HF2 := Lib.hid hf2
  have HO := Lib.hid hown
  have k0' : w2.cell? ⟨w.heap.size, 0, none⟩ = some (.int .i64 p) := (hf2.cell _ 0 z1 (fun h => h)).trans k0
  have k1' : w2.cell? ⟨w.heap.size, 1, none⟩ = some (.int .i64 wd) := (hf2.cell _ 1 z1 (fun h => h)).trans k1
  have k2' : w2.cell? ⟨w.heap.size, 2, none⟩ = some (.int .i64 x) := (hf2.cell _ 2 z1 (fun h => h)).trans k2
  have z2 : w.heap.size < w2.heap.size := hf2.lt z1
  have R2 : Hid (Rd w2 a l) := Lib.hid (R1.out.later hf2 (fun _ _ h => h))
  clear k0 k1 k2 hf2 hown
  go_wp2_with fail
  refine (copy_calls a n c l _ HL.out R2.out hn).mono ?_
  rintro e w3 ⟨g', cap', cur', rfl, hge', hown', hf3⟩
  have HF3 := Lib.hid hf3
  have HO2 : Hid (Own w3 g n cap cur l) := Lib.hid ⟨hf3.keep HO.out.blk (fun h => h), HO.out.len, HO.out.room, HO.out.size, HO.out.cap, HO.out.here⟩
  have HO' := Lib.hid hown'
  have k0 : w3.cell? ⟨w.heap.size, 0, none⟩ = some (.int .i64 p) := (hf3.cell _ 0 z2 (fun h => h)).trans k0'
  have k1 : w3.cell? ⟨w.heap.size, 1, none⟩ = some (.int .i64 wd) := (hf3.cell _ 1 z2 (fun h => h)).trans k1'
  have k2 : w3.cell? ⟨w.heap.size, 2, none⟩ = some (.int .i64 x) := (hf3.cell _ 2 z2 (fun h => h)).trans k2'
  have z3 : w.heap.size < w3.heap.size := hf3.lt z2
  have R3 : Hid (Rd w3 a l) := Lib.hid (R2.out.later hf3 (fun _ _ h => h))
  clear k0' k1' k2' hf3 hown'
  go_wp2_with fail
  have n1 : ¬ w.heap.size = g := by omega
  have n2 : ¬ w.heap.size = g' := by omega
  have HNE : Hid (¬ g' = g) := Lib.hid (by have := Bk.lt HO.out.blk; omega)
  have d0 : w3.drew.cell? ⟨w.heap.size, 0, none⟩ = some (.int .i64 p) := k0
  have d1 : w3.drew.cell? ⟨w.heap.size, 1, none⟩ = some (.int .i64 wd) := k1
  have d2 : w3.drew.cell? ⟨w.heap.size, 2, none⟩ = some (.int .i64 x) := k2
  have D1 := Lib.hid (HO2.out.drew)
  have D2 := Lib.hid (HO'.out.drew)
  have DF : Hid (Fr0 w w3.drew) := Lib.hid ((((Fr.alloc (Fr.refl _ w) _).then0 HF1.out).then0 HF2.out).then0 HF3.out).drew
  have zd : w.heap.size < w3.drew.heap.size := z3
  have HG : Hid (w.heap.size ≤ g ∧ w.heap.size ≤ g') := Lib.hid (by omega)
  go_region_held3 (fun w' => w'.cell? ⟨w.heap.size, 0, none⟩ = some (.int .i64 p) ∧ w'.cell? ⟨w.heap.size, 1, none⟩ = some (.int .i64 wd) ∧ w'.cell? ⟨w.heap.size, 2, none⟩ = some (.int .i64 x)) (first | go_keep | exact ⟨ex0, ex1, ex2⟩ | exact ⟨ey0, ey1, ey2⟩)
    (first
    | (go_at_call 14; refine (own_put g n cap p wd x cur l _ (by first | exact Y1.out | exact D1.out) hn hx hr HF.out).mono ?_; rintro e wx ⟨rfl, hOx, hfx⟩; have X1 := Lib.hid hOx; have X2 := Lib.hid ((by first | exact Y2.out | exact D2.out : Own _ g' n cap' _ _).keep hfx HNE.out); have XF := Lib.hid ((by first | exact YF.out | exact DF.out : Fr0 w _).then hfx (fun i hi h => by have := HG.out; omega)); have ex0 : wx.cell? ⟨w.heap.size, 0, none⟩ = some (.int .i64 p) := (hfx.cell _ 0 (by first | exact zy | exact zd) n1).trans (by first | exact ey0 | exact d0); have ex1 : wx.cell? ⟨w.heap.size, 1, none⟩ = some (.int .i64 wd) := (hfx.cell _ 1 (by first | exact zy | exact zd) n1).trans (by first | exact ey1 | exact d1); have ex2 : wx.cell? ⟨w.heap.size, 2, none⟩ = some (.int .i64 x) := (hfx.cell _ 2 (by first | exact zy | exact zd) n1).trans (by first | exact ey2 | exact d2); have zx : w.heap.size < wx.heap.size := hfx.lt (by first | exact zy | exact zd); clear hOx hfx)
    | (go_at_call 15; refine (own_rput g' n cap' p wd x cur' l _ (by first | exact X2.out | exact D2.out) hn hx hr HF.out).mono ?_; rintro e wy ⟨rfl, hOy, hfy⟩; have Y2 := Lib.hid hOy; have Y1 := Lib.hid ((by first | exact X1.out | exact D1.out : Own _ g n cap _ _).keep hfy (fun h => HNE.out h.symm)); have YF := Lib.hid ((by first | exact XF.out | exact DF.out : Fr0 w _).then hfy (fun i hi h => by have := HG.out; omega)); have ey0 : wy.cell? ⟨w.heap.size, 0, none⟩ = some (.int .i64 p) := (hfy.cell _ 0 (by first | exact zx | exact zd) n2).trans (by first | exact ex0 | exact d0); have ey1 : wy.cell? ⟨w.heap.size, 1, none⟩ = some (.int .i64 wd) := (hfy.cell _ 1 (by first | exact zx | exact zd) n2).trans (by first | exact ex1 | exact d1); have ey2 : wy.cell? ⟨w.heap.size, 2, none⟩ = some (.int .i64 x) := (hfy.cell _ 2 (by first | exact zx | exact zd) n2).trans (by first | exact ex2 | exact d2); have zy : w.heap.size < wy.heap.size := hfy.lt (by first | exact zx | exact zd); clear hOy hfy))
  go_wp2_with (go_at_call 16; (with_reducible refine (same_calls _ _ n n cap cap' (splice l p (le x wd)) (splice l p (le x wd)) _ HS.out Y1.out.rd HS.out Y2.out.rd).mono ?_); rintro e w7 ⟨rfl, rfl⟩)
  go_ret
  exact ⟨by first | rfl | (simp; done), YF.out⟩
theorem puts_all (a : Option Addr) (n c : Nat) (p wd x : Int) (l : List UInt8) (w : World) (hl : l.length = n) (hrd : Rd w a l) (hc : n ≤ c) (hcm : c ≤ 9223372036854775807) (hn : n ≤ 140737488351232) (hx : x ≤ 9223372036854775807) :
    Calls Try.prog 3 #[.slice a n c, .agg #[.int .i64 p, .int .i64 wd, .int .i64 x]] w fun e w' => e = .returned (.bool true) ∧ Fr0 w w' := by
  by_cases h : ¬ Fits x wd ∨ NoRoom n p wd
  · exact puts_no a n c p wd x l w hl hrd hc hcm hn hx h
  · obtain ⟨h1, h2⟩ : Fits x wd ∧ ¬ NoRoom n p wd := by
      constructor
      · exact Classical.byContradiction fun h' => h (.inl h')
      · exact fun h' => h (.inr h')
    have hf := h1
    obtain ⟨f1, f2, f3, -⟩ := h1
    unfold NoRoom at h2
    obtain ⟨p, rfl⟩ := Int.eq_ofNat_of_zero_le (show 0 ≤ p by omega)
    obtain ⟨wd, rfl⟩ := Int.eq_ofNat_of_zero_le (show 0 ≤ wd by omega)
    obtain ⟨x, rfl⟩ := Int.eq_ofNat_of_zero_le f3
    exact puts_ok a n c p wd x l w hl hrd hc hcm hn (by omega) (by omega) hf

end Go.Proofs.Ytkajbhkhecoccaa.WordLawPuts
