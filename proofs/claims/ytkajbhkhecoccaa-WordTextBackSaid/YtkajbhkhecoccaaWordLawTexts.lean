/- The law WordTexts: the walk. -/
import Derived.Test.YtkajbhkhecoccaaRefText
import Derived.Test.YtkajbhkhecoccaaWordLawPuts
import Derived.Test.YtkajbhkhecoccaaWordLawBack
import Derived.Deep.RegionHeld3
set_option linter.unusedVariables false
set_option linter.unusedSimpArgs false
namespace Go.Proofs.Ytkajbhkhecoccaa.WordLawTexts
open Go Go.RowKit Go.Proofs.Ytkajbhkhecoccaa.K Go.Proofs.Ytkajbhkhecoccaa.WordPut Go.Proofs.Ytkajbhkhecoccaa.WordTake Go.Proofs.Ytkajbhkhecoccaa.RefCopy Go.Proofs.Ytkajbhkhecoccaa.WordLaws Go.Proofs.Ytkajbhkhecoccaa.WordLawPuts Go.Proofs.Ytkajbhkhecoccaa.WordText Go.Proofs.Ytkajbhkhecoccaa.WordTextPut Go.Proofs.Ytkajbhkhecoccaa.RefText

/-- what a taker of texts answers -/
abbrev Tk (W : World) (tx : ByteArray) (er : Int) : Ending → World → Prop := fun e w' => e = .returned (.tuple #[.string tx, .int .i64 er]) ∧ W = w'
abbrev Pk (W : World) (g n cap : Nat) (r : Int) (l' : List UInt8) : Ending → World → Prop := fun e w' => e = .returned (.int .i64 r) ∧ (∃ cur', Own w' g n cap cur' l') ∧ Fr (· = g) W w'
set_option maxHeartbeats 2000000 in
set_option maxRecDepth 100000 in
theorem texts_walk (a : Option Addr) (n c : Nat) (p rm : Int) (s tx : ByteArray) (er r : Int) (l l' : List UInt8) (w : World) (hl : l.length = n) (hl' : l'.length = n) (hrd : Rd w a l) (hc : n ≤ c) (hcm : c ≤ 9223372036854775807) (hn : n ≤ 140737488351232)
    (hT1 : ∀ g cap cur W, Own W g n cap cur l → Calls Try.prog 34 #[.slice (some ⟨g, 0, none⟩) n cap, .int .i64 p, .int .i64 rm] W (Tk W tx er))
    (hT2 : ∀ W, Rd W a l → Calls Try.prog 35 #[.slice a n c, .int .i64 p, .int .i64 rm] W (Tk W tx er))
    (hP1 : ∀ g cap cur W, Own W g n cap cur l → Calls Try.prog 36 #[.slice (some ⟨g, 0, none⟩) n cap, .int .i64 p, .int .i64 rm, .string s] W (Pk W g n cap r l'))
    (hP2 : ∀ g cap cur W, Own W g n cap cur l → Calls Try.prog 37 #[.slice (some ⟨g, 0, none⟩) n cap, .int .i64 p, .int .i64 rm, .string s] W (Pk W g n cap r l')) :
    Calls Try.prog 9 #[.slice a n c, .agg #[.int .i64 p, .int .i64 rm], .string s] w fun e w' => e = .returned (.bool true) ∧ Fr0 w w' := by
  have HL := Lib.hid hl
  have HS := Lib.hid hl'
  have HT1 := Lib.hid hT1
  have HT2 := Lib.hid hT2
  have HP1 := Lib.hid hP1
  have HP2 := Lib.hid hP2
  have HR0 : Hid (Rd (w.alloc (.cells #[.int .i64 p, .int .i64 rm] 50)) a l) := Lib.hid (hrd.later (Fr.alloc (Fr.refl (fun _ => False) w) _) (fun _ _ h => h))
  have e4 : decide (l' = l') = true := by simp
  clear hl hl' hrd hT1 hT2 hP1 hP2
  go_enter Try.func9, Try.ntmps9
  go_wp2_with ((go_at_call 12; (with_reducible refine (alive_calls _).mono ?_); rintro e w1 ⟨rfl, hf1⟩; have HF1 := Lib.hid hf1; have k0 : w1.cell? ⟨w.heap.size, 0, none⟩ = some (.int .i64 p) := (hf1.cell _ 0 (by simp) (fun h => h)).trans (by simp); have k1 : w1.cell? ⟨w.heap.size, 1, none⟩ = some (.int .i64 rm) := (hf1.cell _ 1 (by simp) (fun h => h)).trans (by simp); have z1 : w.heap.size < w1.heap.size := hf1.lt (by simp); have R1 : Hid (Rd w1 a l) := Lib.hid (HR0.out.later hf1 (fun _ _ h => h)); clear hf1))
  go_wp2_with fail
  refine (copy_calls a n c l _ HL.out R1.out hn).mono ?_
  rintro e w2 ⟨g, cap, cur, rfl, hge, hown, hf2⟩
  have HF2 := Lib.hid hf2
  have HO := Lib.hid hown
  have k0' : w2.cell? ⟨w.heap.size, 0, none⟩ = some (.int .i64 p) := (hf2.cell _ 0 z1 (fun h => h)).trans k0
  have k1' : w2.cell? ⟨w.heap.size, 1, none⟩ = some (.int .i64 rm) := (hf2.cell _ 1 z1 (fun h => h)).trans k1
  have z2 : w.heap.size < w2.heap.size := hf2.lt z1
  have R2 : Hid (Rd w2 a l) := Lib.hid (R1.out.later hf2 (fun _ _ h => h))
  clear k0 k1 hf2 hown
  go_wp2_with fail
  refine (copy_calls a n c l _ HL.out R2.out hn).mono ?_
  rintro e w3 ⟨g', cap', cur', rfl, hge', hown', hf3⟩
  have HF3 := Lib.hid hf3
  have HO2 : Hid (Own w3 g n cap cur l) := Lib.hid ⟨hf3.keep HO.out.blk (fun h => h), HO.out.len, HO.out.room, HO.out.size, HO.out.cap, HO.out.here⟩
  have HO' := Lib.hid hown'
  have k0 : w3.cell? ⟨w.heap.size, 0, none⟩ = some (.int .i64 p) := (hf3.cell _ 0 z2 (fun h => h)).trans k0'
  have k1 : w3.cell? ⟨w.heap.size, 1, none⟩ = some (.int .i64 rm) := (hf3.cell _ 1 z2 (fun h => h)).trans k1'
  have z3 : w.heap.size < w3.heap.size := hf3.lt z2
  have R3 : Hid (Rd w3 a l) := Lib.hid (R2.out.later hf3 (fun _ _ h => h))
  clear k0' k1' hf3 hown'
  have n1 : ¬ w.heap.size = g := by omega
  have n2 : ¬ w.heap.size = g' := by omega
  have HNE : Hid (¬ g' = g) := Lib.hid (by have := Bk.lt HO.out.blk; omega)
  go_wp2_with fail
  refine (HT1.out g cap cur _ HO2.out).mono ?_
  rintro e w4 ⟨rfl, rfl⟩
  go_wp2_with fail
  refine (HT2.out _ R3.out).mono ?_
  rintro e w4 ⟨rfl, rfl⟩
  go_wp2_with fail
  have d0 : w3.drew.cell? ⟨w.heap.size, 0, none⟩ = some (.int .i64 p) := k0
  have d1 : w3.drew.cell? ⟨w.heap.size, 1, none⟩ = some (.int .i64 rm) := k1
  have D1 := Lib.hid (HO2.out.drew)
  have D2 := Lib.hid (HO'.out.drew)
  have DF : Hid (Fr0 w w3.drew) := Lib.hid ((((Fr.alloc (Fr.refl _ w) _).then0 HF1.out).then0 HF2.out).then0 HF3.out).drew
  have zd : w.heap.size < w3.drew.heap.size := z3
  have HG : Hid (w.heap.size ≤ g ∧ w.heap.size ≤ g') := Lib.hid (by omega)
  go_region_held3 (fun w' => w'.cell? ⟨w.heap.size, 0, none⟩ = some (.int .i64 p) ∧ w'.cell? ⟨w.heap.size, 1, none⟩ = some (.int .i64 rm)) (first | go_keep | exact ⟨ex0, ex1⟩ | exact ⟨ey0, ey1⟩)
    (first
    | (go_at_call 36; refine (HP1.out g cap cur _ (by first | exact Y1.out | exact D1.out)).mono ?_; rintro e wx ⟨rfl, ⟨curx, hOx⟩, hfx⟩; have X1 := Lib.hid hOx; have X2 := Lib.hid ((by first | exact Y2.out | exact D2.out : Own _ g' n cap' _ _).keep hfx HNE.out); have XF := Lib.hid ((by first | exact YF.out | exact DF.out : Fr0 w _).then hfx (fun i hi h => by have := HG.out; omega)); have ex0 : wx.cell? ⟨w.heap.size, 0, none⟩ = some (.int .i64 p) := (hfx.cell _ 0 (by first | exact zy | exact zd) n1).trans (by first | exact ey0 | exact d0); have ex1 : wx.cell? ⟨w.heap.size, 1, none⟩ = some (.int .i64 rm) := (hfx.cell _ 1 (by first | exact zy | exact zd) n1).trans (by first | exact ey1 | exact d1); have zx : w.heap.size < wx.heap.size := hfx.lt (by first | exact zy | exact zd); clear hOx hfx)
    | (go_at_call 37; refine (HP2.out g' cap' cur' _ (by first | exact X2.out | exact D2.out)).mono ?_; rintro e wy ⟨rfl, ⟨cury, hOy⟩, hfy⟩; have Y2 := Lib.hid hOy; have Y1 := Lib.hid ((by first | exact X1.out | exact D1.out : Own _ g n cap _ _).keep hfy (fun h => HNE.out h.symm)); have YF := Lib.hid ((by first | exact XF.out | exact DF.out : Fr0 w _).then hfy (fun i hi h => by have := HG.out; omega)); have ey0 : wy.cell? ⟨w.heap.size, 0, none⟩ = some (.int .i64 p) := (hfy.cell _ 0 (by first | exact zx | exact zd) n2).trans (by first | exact ex0 | exact d0); have ey1 : wy.cell? ⟨w.heap.size, 1, none⟩ = some (.int .i64 rm) := (hfy.cell _ 1 (by first | exact zx | exact zd) n2).trans (by first | exact ex1 | exact d1); have zy : w.heap.size < wy.heap.size := hfy.lt (by first | exact zx | exact zd); clear hOy hfy))
  go_wp2_with (go_at_call 16; (with_reducible refine (same_calls _ _ n n cap cap' l' l' _ HS.out Y1.out.rd HS.out Y2.out.rd).mono ?_); rintro e w7 ⟨rfl, rfl⟩)
  go_ret
  exact ⟨by first | rfl | (simp; done), YF.out⟩


theorem own_pt (g n cap p rm : Nat) (s : ByteArray) (cur : Array Value) (l : List UInt8) (w : World) (h : Own w g n cap cur l) (hn : n ≤ 140737488351232) (hr : p + rm ≤ n) (h1 : 1 ≤ rm) (h2 : rm ≤ 256) (hs : s.size < rm) :
    Calls Try.prog 36 #[.slice (some ⟨g, 0, none⟩) n cap, .int .i64 p, .int .i64 rm, .string s] w (Pk w g n cap 0 (splice l p (txt s rm))) := by
  have := pt_ok g 0 n cap p rm s cur 5 w h.blk h.room h.cap hn (by rw [Nat.zero_add, h.size]; exact h.room) hr h1 h2 hs
  rw [Nat.zero_add] at this
  exact this.mono fun e w' ⟨h1, h2, h3⟩ => ⟨h1, ⟨_, own_lay h h2 (by rw [txt_length hs]; exact hr)⟩, h3⟩
theorem own_rpt (g n cap p rm : Nat) (s : ByteArray) (cur : Array Value) (l : List UInt8) (w : World) (h : Own w g n cap cur l) (hn : n ≤ 140737488351232) (hr : p + rm ≤ n) (h1 : 1 ≤ rm) (h2 : rm ≤ 256) (hs : s.size < rm) :
    Calls Try.prog 37 #[.slice (some ⟨g, 0, none⟩) n cap, .int .i64 p, .int .i64 rm, .string s] w (Pk w g n cap 0 (splice l p (txt s rm))) := by
  have := rpt_ok g 0 n cap p rm s.size s cur 5 w h.blk h.room h.cap hn (by rw [Nat.zero_add, h.size]; exact h.room) hr h1 h2 rfl hs
  rw [Nat.zero_add] at this
  exact this.mono fun e w' ⟨h1, h2, h3⟩ => ⟨h1, ⟨_, own_lay h h2 (by rw [txt_length hs]; exact hr)⟩, h3⟩
theorem texts_put (a : Option Addr) (n c : Nat) (p rm : Int) (s tx : ByteArray) (er : Int) (l : List UInt8) (w : World) (hl : l.length = n) (hrd : Rd w a l) (hc : n ≤ c) (hcm : c ≤ 9223372036854775807) (hn : n ≤ 140737488351232) (hs : s.size ≤ 9223372036854775807)
    (hT1 : ∀ g cap cur W, Own W g n cap cur l → Calls Try.prog 34 #[.slice (some ⟨g, 0, none⟩) n cap, .int .i64 p, .int .i64 rm] W (Tk W tx er))
    (hT2 : ∀ W, Rd W a l → Calls Try.prog 35 #[.slice a n c, .int .i64 p, .int .i64 rm] W (Tk W tx er)) :
    Calls Try.prog 9 #[.slice a n c, .agg #[.int .i64 p, .int .i64 rm], .string s] w fun e w' => e = .returned (.bool true) ∧ Fr0 w w' := by
  by_cases h : rm < 1 ∨ 256 < rm ∨ rm ≤ s.size ∨ NoRoom n p rm
  · exact texts_walk a n c p rm s tx er 1 l l w hl hl hrd hc hcm hn hT1 hT2
      (fun g cap cur W hO => (pt_no _ n cap p rm s W hn hs h).mono fun e w' ⟨h1, h2⟩ => ⟨h1, ⟨cur, h2 ▸ hO⟩, h2 ▸ Fr.refl _ _⟩)
      (fun g cap cur W hO => (rpt_no _ n cap p rm s W hn hs h).mono fun e w' ⟨h1, h2⟩ => ⟨h1, ⟨cur, h2 ▸ hO⟩, h2 ▸ Fr.refl _ _⟩)
  · have h2 : ¬ NoRoom n p rm := fun h' => h (.inr (.inr (.inr h')))
    have h3 : ¬ rm < 1 := fun h' => h (.inl h')
    have h4 : ¬ 256 < rm := fun h' => h (.inr (.inl h'))
    have h5 : ¬ rm ≤ s.size := fun h' => h (.inr (.inr (.inl h')))
    unfold NoRoom at h2
    obtain ⟨p, rfl⟩ := Int.eq_ofNat_of_zero_le (show 0 ≤ p by omega)
    obtain ⟨rm, rfl⟩ := Int.eq_ofNat_of_zero_le (show 0 ≤ rm by omega)
    have h6 : s.size < rm := by omega
    exact texts_walk a n c p rm s tx er 0 l (splice l p (txt s rm)) w hl ((splice_length (by rw [txt_length h6]; omega)).trans hl) hrd hc hcm hn hT1 hT2
      (fun g cap cur W hO => own_pt g n cap p rm s cur l W hO hn (by omega) (by omega) (by omega) h6)
      (fun g cap cur W hO => own_rpt g n cap p rm s cur l W hO hn (by omega) (by omega) (by omega) h6)
theorem text_is (m : List UInt8) : ∃ tx er, ∀ e, TextIs m e → e = .returned (.tuple #[.string tx, .int .i64 er]) := by
  unfold TextIs
  by_cases h : m.length ≤ (m.getD 0 0).toNat ∨ allZ (m.drop (1 + (m.getD 0 0).toNat)) = false
  · exact ⟨_, _, fun e he => by rw [if_pos h] at he; exact he⟩
  · exact ⟨_, _, fun e he => by rw [if_neg h] at he; exact he⟩
theorem texts_all (a : Option Addr) (n c : Nat) (p rm : Int) (s : ByteArray) (l : List UInt8) (w : World) (hl : l.length = n) (hrd : Rd w a l) (hc : n ≤ c) (hcm : c ≤ 9223372036854775807) (hn : n ≤ 140737488351232) (hs : s.size ≤ 9223372036854775807) :
    Calls Try.prog 9 #[.slice a n c, .agg #[.int .i64 p, .int .i64 rm], .string s] w fun e w' => e = .returned (.bool true) ∧ Fr0 w w' := by
  by_cases h : rm < 1 ∨ 256 < rm ∨ NoRoom n p rm
  · exact texts_put a n c p rm s ⟨#[]⟩ 1 l w hl hrd hc hcm hn hs (fun g cap cur W hO => tt_no _ n cap p rm W hn h) (fun W hR => rtt_no _ n c p rm W hn h)
  · have h2 : ¬ NoRoom n p rm := fun h' => h (.inr (.inr h'))
    have h3 : ¬ rm < 1 := fun h' => h (.inl h')
    have h4 : ¬ 256 < rm := fun h' => h (.inr (.inl h'))
    unfold NoRoom at h2
    obtain ⟨p, rfl⟩ := Int.eq_ofNat_of_zero_le (show 0 ≤ p by omega)
    obtain ⟨rm, rfl⟩ := Int.eq_ofNat_of_zero_le (show 0 ≤ rm by omega)
    obtain ⟨tx, er, hT⟩ := text_is ((l.drop p).take rm)
    obtain ⟨b, o, rfl, -, -⟩ := hrd.form (by omega)
    have hm : ((l.drop p).take rm).length = rm := by simp; omega
    exact texts_put _ n c p rm s tx er l w hl hrd hc hcm hn hs
      (fun g cap cur W hO => (tt_ok g 0 n cap p rm _ W hm (hO.rd.sub p rm) hO.room hO.cap hn (by omega) (by omega) (by omega)).mono fun e w' ⟨h1, h2⟩ => ⟨hT e h1, h2⟩)
      (fun W hR => (rtt_ok b o n c p rm _ W hm (hR.sub p rm) hc hcm hn (by omega) (by omega) (by omega)).mono fun e w' ⟨h1, h2⟩ => ⟨hT e h1, h2⟩)

theorem allZ_rep (k : Nat) : allZ (List.replicate k 0) = true := by
  induction k with
  | zero => rfl
  | succ k ih => simp [allZ] at ih ⊢
theorem text_back {s : ByteArray} {rm : Nat} (hs : s.size < rm) (hr : rm ≤ 256) {e : Ending} (h : TextIs (txt s rm) e) : e = .returned (.tuple #[.string s, .int .i64 0]) := by
  have hl := Lib.size_eq s
  have h0 : ((txt s rm).getD 0 0).toNat = s.size := by
    simp [txt]; omega
  have hd : (txt s rm).drop (1 + s.size) = List.replicate (rm - 1 - s.size) 0 := by
    have : (txt s rm) = (UInt8.ofNat s.size :: s.data.toList) ++ List.replicate (rm - 1 - s.size) 0 := rfl
    rw [this, List.drop_append_of_le_length (by simp; omega), List.drop_eq_nil_of_le (by simp; omega), List.nil_append]
  have ht : ((txt s rm).drop 1).take s.size = s.data.toList := by
    simp only [txt, List.cons_append, List.drop_succ_cons, List.drop_zero]
    rw [List.take_append_of_le_length (by omega), List.take_of_length_le (by omega)]
  unfold TextIs at h
  rw [h0, hd, ht, if_neg (by rw [txt_length hs, allZ_rep]; intro h; rcases h with h | h; omega; cases h)] at h
  exact h

end Go.Proofs.Ytkajbhkhecoccaa.WordLawTexts
