/- Texts in fixed room: the walk of word.PutText. -/
import Derived.Test.YtkajbhkhecoccaaWordText
import Derived.Lib.SliceRun
import Derived.Laws.IdiomCopy
set_option linter.unusedVariables false
set_option linter.unusedSimpArgs false
namespace Go.Proofs.Ytkajbhkhecoccaa.WordTextPut
open Go Go.RowKit Go.Proofs.Ytkajbhkhecoccaa.K Go.Proofs.Ytkajbhkhecoccaa.WordPut Go.Proofs.Ytkajbhkhecoccaa.WordTake Go.Proofs.Ytkajbhkhecoccaa.RefCopy Go.Proofs.Ytkajbhkhecoccaa.WordText


theorem sets_bk {g : Nat} {t : TypeId} : ∀ (vs : List Value) (o : Nat) (w : World) (cs : Array Value), Bk w g cs t → Bk (w.setCells g o vs) g (lay cs o vs) t
  | [], _, _, _, h => h
  | v :: r, o, w, cs, h => sets_bk r (o + 1) _ _ (h.set o v)
theorem sets_fr {g : Nat} {w0 : World} : ∀ (vs : List Value) (o : Nat) (w : World), Fr (· = g) w0 w → Fr (· = g) w0 (w.setCells g o vs)
  | [], _, _, h => h
  | v :: r, o, w, h => sets_fr r (o + 1) _ (h.set _ _ (.inr rfl))
theorem lay_append (a b : List Value) : ∀ (cs : Array Value) (o : Nat), lay cs o (a ++ b) = lay (lay cs o a) (o + a.length) b := by
  induction a with
  | nil => intro cs o; rfl
  | cons v r ih =>
    intro cs o
    show lay (cs.setIfInBounds o v) (o + 1) (r ++ b) = lay (lay (cs.setIfInBounds o v) (o + 1) r) (o + (r.length + 1)) b
    rw [ih, show o + 1 + r.length = o + (r.length + 1) by omega]

theorem copy_str {P : Program} (dT sT ty elem : TypeId) (g o dLen dCap : Nat) (s : ByteArray) (cs : Array Value) (t : TypeId) (w : World)
    (hu : P.underlying dT = some (.slice elem)) (hs : (P.info? elem).map (·.size) = some 1) (hb : Bk w g cs t) (hle : s.size ≤ dLen) (hfit : o + s.size ≤ cs.size) :
    (Builtin.copy_ #[dT, sT] ty #[.slice (some ⟨g, o, none⟩) dLen dCap, .string s]).run P w = .ok (goInt s.size) (w.setCells g o (s.data.toList.map B)) := by
  have hlen : (s.data.toList.map B).length = s.size := by rw [List.length_map, ← Lib.size_eq]
  have hst := run_storeCells_cells (P := P) g o (s.data.toList.map B) 0 w (fun j hj => by rw [hb.cell, Array.getElem?_eq_getElem (by omega)]; rfl) (fun j hj => hb.free _) (by intro v hv; obtain ⟨x, _, rfl⟩ := List.mem_map.1 hv; rfl)
  simp only [Nat.add_zero] at hst
  have hmin : Nat.min s.size dLen = s.size := Nat.min_eq_left hle
  have htk : List.take s.size (List.map (fun b : UInt8 => Value.int IntKind.u8 (b.toNat : Int)) s.data.toList) = s.data.toList.map B := by
    rw [List.take_of_length_le (by rw [List.length_map, ← Lib.size_eq]; exact Nat.le_refl _)]
    rfl
  cases hq : P.info? elem with
  | none => simp [hq] at hs
  | some i =>
    simp [Builtin.copy_, run_underlying hu, Builtin.lenOf, Builtin.firstCells, sizeOf, typeInfo, hq, hmin]
    rw [htk, hst]
    simp [Result.andThen]
theorem copy_none {P : Program} (dT sT ty elem : TypeId) (d : Option Addr) (dLen dCap : Nat) (s : ByteArray) (w : World)
    (hu : P.underlying dT = some (.slice elem)) (hs : (P.info? elem).map (·.size) = some 1) (h0 : s.size = 0) :
    (Builtin.copy_ #[dT, sT] ty #[.slice d dLen dCap, .string s]).run P w = .ok (goInt 0) w := by
  cases hq : P.info? elem with
  | none => simp [hq] at hs
  | some i =>
    cases d <;> simp [Builtin.copy_, run_underlying hu, Builtin.lenOf, Builtin.firstCells, sizeOf, typeInfo, hq, h0, storeCells]
theorem clear_none {P : Program} (t ty elem : TypeId) (a : Option Addr) (n c : Nat) (w : World) (hn : n = 0) (hu : P.underlying t = some (.slice elem)) :
    (Builtin.clear_ #[t] ty #[.slice a n c]).run P w = .ok (.tuple #[]) w := by
  subst hn
  cases a <;> simp [Builtin.clear_, run_underlying hu]
theorem clear_blk {P : Program} (t ty elem : TypeId) (g o n c : Nat) (cs : Array Value) (tt : TypeId) (w : World) (hn : 0 < n) (hb : Bk w g cs tt) (hfit : o + n ≤ cs.size)
    (hu : P.underlying t = some (.slice elem)) (hv : ∀ w, (zeroValue elem).run P w = .ok (.int .u8 0) w) :
    (Builtin.clear_ #[t] ty #[.slice (some ⟨g, o, none⟩) n c]).run P w = .ok (.tuple #[]) (w.setCells g o (List.replicate n (.int .u8 0))) :=
  Lib.run_clear_slice w t elem ty (.int .u8 0) hu hv rfl rfl g o n c hn (fun j hj => by rw [hb.cell, Array.getElem?_eq_getElem (by omega)]; rfl) (fun j hj => hb.free _)
theorem zero_u8 (w : World) : (zeroValue 5).run Try.prog w = .ok (.int .u8 0) w := by kernel_rfl
theorem size_u8 : (Try.prog.info? 5).map (·.size) = some 1 := by kernel_rfl

/-- a text in so much room -/
def txt (s : ByteArray) (rm : Nat) : List UInt8 := UInt8.ofNat s.size :: s.data.toList ++ List.replicate (rm - 1 - s.size) 0
theorem txt_length {s : ByteArray} {rm : Nat} (h : s.size < rm) : (txt s rm).length = rm := by
  have := Lib.size_eq s
  simp [txt]; omega

set_option maxHeartbeats 2000000 in
set_option maxRecDepth 100000 in
theorem pt_low (a : Option Addr) (n c : Nat) (p rm : Int) (s : ByteArray) (w : World) (hn : n ≤ 140737488351232) (hs : s.size ≤ 9223372036854775807) (h : rm < 1) :
    Calls Try.prog 36 #[.slice a n c, .int .i64 p, .int .i64 rm, .string s] w fun e w' => e = .returned (.int .i64 1) ∧ w = w' := by
  have c0 : decide (rm < 1) = true := decide_eq_true (by omega)
  go_enter Try.func36, Try.ntmps36
  go_wp2_with (fail)
  go_ret
  exact ⟨rfl, rfl⟩

set_option maxHeartbeats 2000000 in
set_option maxRecDepth 100000 in
theorem pt_high (a : Option Addr) (n c : Nat) (p rm : Int) (s : ByteArray) (w : World) (hn : n ≤ 140737488351232) (hs : s.size ≤ 9223372036854775807) (h : 256 < rm) :
    Calls Try.prog 36 #[.slice a n c, .int .i64 p, .int .i64 rm, .string s] w fun e w' => e = .returned (.int .i64 1) ∧ w = w' := by
  have c0 : decide (rm < 1) = false := decide_eq_false (by omega)
  have c1 : decide (256 < rm) = true := decide_eq_true (by omega)
  go_enter Try.func36, Try.ntmps36
  go_wp2_with (fail)
  go_ret
  exact ⟨rfl, rfl⟩

set_option maxHeartbeats 2000000 in
set_option maxRecDepth 100000 in
theorem pt_big (a : Option Addr) (n c : Nat) (p rm : Int) (s : ByteArray) (w : World) (hn : n ≤ 140737488351232) (hs : s.size ≤ 9223372036854775807) (h1 : 1 ≤ rm) (h2 : rm ≤ 256) (h : rm ≤ s.size) :
    Calls Try.prog 36 #[.slice a n c, .int .i64 p, .int .i64 rm, .string s] w fun e w' => e = .returned (.int .i64 1) ∧ w = w' := by
  have c0 : decide (rm < 1) = false := decide_eq_false (by omega)
  have c1 : decide (256 < rm) = false := decide_eq_false (by omega)
  have c2 : decide (rm ≤ s.size) = true := decide_eq_true (by omega)
  go_enter Try.func36, Try.ntmps36
  go_wp2_with (fail)
  go_ret
  exact ⟨rfl, rfl⟩

set_option maxHeartbeats 2000000 in
set_option maxRecDepth 100000 in
theorem pt_room (a : Option Addr) (n c : Nat) (p rm : Int) (s : ByteArray) (w : World) (hn : n ≤ 140737488351232) (hs : s.size ≤ 9223372036854775807) (h1 : 1 ≤ rm) (h2 : rm ≤ 256) (h : (s.size : Int) < rm) (hr : NoRoom n p rm) :
    Calls Try.prog 36 #[.slice a n c, .int .i64 p, .int .i64 rm, .string s] w fun e w' => e = .returned (.int .i64 1) ∧ w = w' := by
  have c0 : decide (rm < 1) = false := decide_eq_false (by omega)
  have c1 : decide (256 < rm) = false := decide_eq_false (by omega)
  have c2 : decide (rm ≤ s.size) = false := decide_eq_false (by omega)
  have HR := Lib.hid hr
  clear hr
  go_enter Try.func36, Try.ntmps36
  go_wp2_with (go_at_call 38; (with_reducible refine (cut_no a n c p rm _ hn HR.out).mono ?_); rintro e w1 ⟨rfl, rfl⟩)
  go_ret
  exact ⟨rfl, rfl⟩

theorem pt_no (a : Option Addr) (n c : Nat) (p rm : Int) (s : ByteArray) (w : World) (hn : n ≤ 140737488351232) (hs : s.size ≤ 9223372036854775807) (h : rm < 1 ∨ 256 < rm ∨ rm ≤ s.size ∨ NoRoom n p rm) :
    Calls Try.prog 36 #[.slice a n c, .int .i64 p, .int .i64 rm, .string s] w fun e w' => e = .returned (.int .i64 1) ∧ w = w' := by
  by_cases h1 : rm < 1
  · exact pt_low a n c p rm s w hn hs h1
  by_cases h2 : 256 < rm
  · exact pt_high a n c p rm s w hn hs h2
  by_cases h3 : rm ≤ s.size
  · exact pt_big a n c p rm s w hn hs (by omega) (by omega) h3
  · exact pt_room a n c p rm s w hn hs (by omega) (by omega) (by omega) (by rcases h with h | h | h | h; omega; omega; omega; exact h)

set_option maxHeartbeats 2000000 in
set_option maxRecDepth 100000 in
theorem pt_a (g o n c p rm k : Nat) (s : ByteArray) (cs : Array Value) (t : TypeId) (w : World) (hb : Bk w g cs t) (hc : n ≤ c) (hcm : c ≤ 9223372036854775807) (hn : n ≤ 140737488351232) (hcs : o + n ≤ cs.size) (hr : p + rm ≤ n) (h1 : 1 ≤ rm) (h2 : rm ≤ 256) (hk : s.size = k) (hk0 : 0 < k) (hk1 : 1 + k < rm) :
    Calls Try.prog 36 #[.slice (some ⟨g, o, none⟩) n c, .int .i64 p, .int .i64 rm, .string s] w (PutPost g cs t (o + p) (txt s rm) w 0) := by
  have c0 : decide ((rm : Int) < 1) = false := decide_eq_false (by omega)
  have c1 : decide (256 < (rm : Int)) = false := decide_eq_false (by omega)
  have c2 : decide (rm ≤ k) = false := decide_eq_false (by omega)
  obtain ⟨v0, hv0⟩ : ∃ v0, w.cell? ⟨g, o + p, none⟩ = some v0 := ⟨_, (hb.cell _).trans (Array.getElem?_eq_getElem (by omega))⟩
  have hf0 := hb.free (o + p)
  have hb1 : Bk (w.setCell ⟨g, o + p, none⟩ (.int .u8 (k : Int))) g (lay cs (o + p) [.int .u8 (k : Int)]) t := hb.set (o + p) _
  have hfr1 : Fr (· = g) w (w.setCell ⟨g, o + p, none⟩ (.int .u8 (k : Int))) := (Fr.refl _ _).set _ _ (.inr rfl)
  have hB : B (UInt8.ofNat k) = .int .u8 (k : Int) := by rw [B_ofNat, Nat.mod_eq_of_lt (by omega)]
  generalize hw1 : w.setCell ⟨g, o + p, none⟩ (.int .u8 (k : Int)) = w1 at hb1 hfr1
  have HC : Hid (∀ ty, (Builtin.copy_ #[22, 9] ty #[.slice (some ⟨g, o + p + 1, none⟩) (rm - 1) (c - p - 1), .string s]).run Try.prog w1 = .ok (goInt k) (w1.setCells g (o + p + 1) (s.data.toList.map B))) := Lib.hid fun ty => by
    rw [← hk]; exact copy_str 22 9 ty 5 g (o + p + 1) _ _ s _ t w1 Try.underlying22 size_u8 hb1 (by omega) (by simp; omega)
  have hb2 := sets_bk (s.data.toList.map B) (o + p + 1) w1 _ hb1
  have hfr2 := sets_fr (s.data.toList.map B) (o + p + 1) w1 hfr1

  have HZ : Hid (∀ ty, (Builtin.clear_ #[22] ty #[.slice (some ⟨g, o + p + (1 + k), none⟩) (rm - (1 + k)) (c - p - (1 + k))]).run Try.prog (w1.setCells g (o + p + 1) (s.data.toList.map B)) = .ok (.tuple #[]) ((w1.setCells g (o + p + 1) (s.data.toList.map B)).setCells g (o + p + (1 + k)) (List.replicate (rm - (1 + k)) (.int .u8 0)))) := Lib.hid fun ty =>
    clear_blk 22 ty 5 g _ _ _ _ t _ (by omega) hb2 (by simp; omega) Try.underlying22 zero_u8

  have HF := Lib.hid (show PutPost g cs t (o + p) (txt s rm) w 0 (.returned (.int .i64 0)) _ from ⟨rfl, by
      have e : (txt s rm).map B = ([.int .u8 (k : Int)] ++ s.data.toList.map B) ++ List.replicate (rm - (1 + k)) (.int .u8 0) := by
        simp [txt, hk, hB]; exact ⟨by omega, .inr rfl⟩
      rw [e, lay_append, lay_append]
      have hl := Lib.size_eq s
      have := sets_bk (List.replicate (rm - (1 + k)) (.int .u8 0)) (o + p + (1 + k)) _ _ hb2
      rw [show o + p + (([.int .u8 (k : Int)] : List Value) ++ s.data.toList.map B).length = o + p + (1 + k) by simp; omega]
      exact this, sets_fr _ _ _ hfr2⟩)
  clear hb hb1 hfr1 hB hcs
  have x1 : (1 : Int) + k ≤ rm := by omega
  have x2 : (1 : Int) + k ≤ ((c - p : Nat) : Int) := by omega
  have x4 : 1 + k < c - p := by omega
  have x5 : 1 < c - p := by omega
  have x6 : ((k : Int)) % 256 = k := by omega
  go_enter Try.func36, Try.ntmps36
  go_wp2_with (first | (go_at_call 38; (with_reducible refine (cut_ok g o n c p rm _ hc hcm hn hr (by omega)).mono ?_); rintro e w1 ⟨rfl, rfl⟩) | (simp only [hw1, HC.out]) | (simp only [HZ.out]))
  go_ret
  exact HF.out

set_option maxHeartbeats 2000000 in
set_option maxRecDepth 100000 in
theorem pt_b1 (g o n c p rm k : Nat) (s : ByteArray) (cs : Array Value) (t : TypeId) (w : World) (hb : Bk w g cs t) (hc : n ≤ c) (hcm : c ≤ 9223372036854775807) (hn : n ≤ 140737488351232) (hcs : o + n ≤ cs.size) (hr : p + rm ≤ n) (h1 : 1 ≤ rm) (h2 : rm ≤ 256) (hk : s.size = k) (hk0 : 0 < k) (hk1 : 1 + k = rm) (hx : 1 + k < c - p) :
    Calls Try.prog 36 #[.slice (some ⟨g, o, none⟩) n c, .int .i64 p, .int .i64 rm, .string s] w (PutPost g cs t (o + p) (txt s rm) w 0) := by
  have c0 : decide ((rm : Int) < 1) = false := decide_eq_false (by omega)
  have c1 : decide (256 < (rm : Int)) = false := decide_eq_false (by omega)
  have c2 : decide (rm ≤ k) = false := decide_eq_false (by omega)
  obtain ⟨v0, hv0⟩ : ∃ v0, w.cell? ⟨g, o + p, none⟩ = some v0 := ⟨_, (hb.cell _).trans (Array.getElem?_eq_getElem (by omega))⟩
  have hf0 := hb.free (o + p)
  have hb1 : Bk (w.setCell ⟨g, o + p, none⟩ (.int .u8 (k : Int))) g (lay cs (o + p) [.int .u8 (k : Int)]) t := hb.set (o + p) _
  have hfr1 : Fr (· = g) w (w.setCell ⟨g, o + p, none⟩ (.int .u8 (k : Int))) := (Fr.refl _ _).set _ _ (.inr rfl)
  have hB : B (UInt8.ofNat k) = .int .u8 (k : Int) := by rw [B_ofNat, Nat.mod_eq_of_lt (by omega)]
  generalize hw1 : w.setCell ⟨g, o + p, none⟩ (.int .u8 (k : Int)) = w1 at hb1 hfr1
  have HC : Hid (∀ ty, (Builtin.copy_ #[22, 9] ty #[.slice (some ⟨g, o + p + 1, none⟩) (rm - 1) (c - p - 1), .string s]).run Try.prog w1 = .ok (goInt k) (w1.setCells g (o + p + 1) (s.data.toList.map B))) := Lib.hid fun ty => by
    rw [← hk]; exact copy_str 22 9 ty 5 g (o + p + 1) _ _ s _ t w1 Try.underlying22 size_u8 hb1 (by omega) (by simp; omega)
  have hb2 := sets_bk (s.data.toList.map B) (o + p + 1) w1 _ hb1
  have hfr2 := sets_fr (s.data.toList.map B) (o + p + 1) w1 hfr1

  have HZ : Hid (∀ ty a c, (Builtin.clear_ #[22] ty #[.slice a 0 c]).run Try.prog (w1.setCells g (o + p + 1) (s.data.toList.map B)) = .ok (.tuple #[]) (w1.setCells g (o + p + 1) (s.data.toList.map B))) := Lib.hid fun ty a c => clear_none 22 ty 5 a 0 c _ rfl Try.underlying22

  have HF := Lib.hid (show PutPost g cs t (o + p) (txt s rm) w 0 (.returned (.int .i64 0)) _ from ⟨rfl, by
      have e : (txt s rm).map B = [.int .u8 (k : Int)] ++ s.data.toList.map B := by
        simp [txt, hk, hB]; omega
      rw [e, lay_append]
      exact hb2, hfr2⟩)
  clear hb hb1 hfr1 hB hcs
  have x1 : (1 : Int) + k ≤ rm := by omega
  have x2 : (1 : Int) + k ≤ ((c - p : Nat) : Int) := by omega
  have x6 : ((k : Int)) % 256 = k := by omega
  have hka : 1 + k ≤ rm := by omega
  have hkb : rm ≤ 1 + k := by omega
  clear hk1
  have x4 : 1 + k < c - p := by omega
  have x5 : 1 < c - p := by omega
  go_enter Try.func36, Try.ntmps36
  go_wp2_with (first | (go_at_call 38; (with_reducible refine (cut_ok g o n c p rm _ hc hcm hn hr (by omega)).mono ?_); rintro e w1 ⟨rfl, rfl⟩) | (simp only [hw1, HC.out]) | (simp only [HZ.out]))
  go_ret
  exact HF.out

set_option maxHeartbeats 2000000 in
set_option maxRecDepth 100000 in
theorem pt_b2 (g o n c p rm k : Nat) (s : ByteArray) (cs : Array Value) (t : TypeId) (w : World) (hb : Bk w g cs t) (hc : n ≤ c) (hcm : c ≤ 9223372036854775807) (hn : n ≤ 140737488351232) (hcs : o + n ≤ cs.size) (hr : p + rm ≤ n) (h1 : 1 ≤ rm) (h2 : rm ≤ 256) (hk : s.size = k) (hk0 : 0 < k) (hk1 : 1 + k = rm) (hx : c - p ≤ 1 + k) :
    Calls Try.prog 36 #[.slice (some ⟨g, o, none⟩) n c, .int .i64 p, .int .i64 rm, .string s] w (PutPost g cs t (o + p) (txt s rm) w 0) := by
  have c0 : decide ((rm : Int) < 1) = false := decide_eq_false (by omega)
  have c1 : decide (256 < (rm : Int)) = false := decide_eq_false (by omega)
  have c2 : decide (rm ≤ k) = false := decide_eq_false (by omega)
  obtain ⟨v0, hv0⟩ : ∃ v0, w.cell? ⟨g, o + p, none⟩ = some v0 := ⟨_, (hb.cell _).trans (Array.getElem?_eq_getElem (by omega))⟩
  have hf0 := hb.free (o + p)
  have hb1 : Bk (w.setCell ⟨g, o + p, none⟩ (.int .u8 (k : Int))) g (lay cs (o + p) [.int .u8 (k : Int)]) t := hb.set (o + p) _
  have hfr1 : Fr (· = g) w (w.setCell ⟨g, o + p, none⟩ (.int .u8 (k : Int))) := (Fr.refl _ _).set _ _ (.inr rfl)
  have hB : B (UInt8.ofNat k) = .int .u8 (k : Int) := by rw [B_ofNat, Nat.mod_eq_of_lt (by omega)]
  generalize hw1 : w.setCell ⟨g, o + p, none⟩ (.int .u8 (k : Int)) = w1 at hb1 hfr1
  have HC : Hid (∀ ty, (Builtin.copy_ #[22, 9] ty #[.slice (some ⟨g, o + p + 1, none⟩) (rm - 1) (c - p - 1), .string s]).run Try.prog w1 = .ok (goInt k) (w1.setCells g (o + p + 1) (s.data.toList.map B))) := Lib.hid fun ty => by
    rw [← hk]; exact copy_str 22 9 ty 5 g (o + p + 1) _ _ s _ t w1 Try.underlying22 size_u8 hb1 (by omega) (by simp; omega)
  have hb2 := sets_bk (s.data.toList.map B) (o + p + 1) w1 _ hb1
  have hfr2 := sets_fr (s.data.toList.map B) (o + p + 1) w1 hfr1

  have HZ : Hid (∀ ty a c, (Builtin.clear_ #[22] ty #[.slice a 0 c]).run Try.prog (w1.setCells g (o + p + 1) (s.data.toList.map B)) = .ok (.tuple #[]) (w1.setCells g (o + p + 1) (s.data.toList.map B))) := Lib.hid fun ty a c => clear_none 22 ty 5 a 0 c _ rfl Try.underlying22

  have HF := Lib.hid (show PutPost g cs t (o + p) (txt s rm) w 0 (.returned (.int .i64 0)) _ from ⟨rfl, by
      have e : (txt s rm).map B = [.int .u8 (k : Int)] ++ s.data.toList.map B := by
        simp [txt, hk, hB]; omega
      rw [e, lay_append]
      exact hb2, hfr2⟩)
  clear hb hb1 hfr1 hB hcs
  have x1 : (1 : Int) + k ≤ rm := by omega
  have x2 : (1 : Int) + k ≤ ((c - p : Nat) : Int) := by omega
  have x6 : ((k : Int)) % 256 = k := by omega
  have hka : 1 + k ≤ rm := by omega
  have hkb : rm ≤ 1 + k := by omega
  clear hk1
  have x4 : 1 + k ≤ c - p := by omega
  have x4b : c - p ≤ 1 + k := by omega
  have x5 : 1 < c - p := by omega
  go_enter Try.func36, Try.ntmps36
  go_wp2_with (first | (go_at_call 38; (with_reducible refine (cut_ok g o n c p rm _ hc hcm hn hr (by omega)).mono ?_); rintro e w1 ⟨rfl, rfl⟩) | (simp only [hw1, HC.out]) | (simp only [HZ.out]))
  go_ret
  exact HF.out

set_option maxHeartbeats 2000000 in
set_option maxRecDepth 100000 in
theorem pt_c (g o n c p rm k : Nat) (s : ByteArray) (cs : Array Value) (t : TypeId) (w : World) (hb : Bk w g cs t) (hc : n ≤ c) (hcm : c ≤ 9223372036854775807) (hn : n ≤ 140737488351232) (hcs : o + n ≤ cs.size) (hr : p + rm ≤ n) (h1 : 1 ≤ rm) (h2 : rm ≤ 256) (hk : s.size = k) (hk0 : k = 0) (hk1 : 1 + k < rm) :
    Calls Try.prog 36 #[.slice (some ⟨g, o, none⟩) n c, .int .i64 p, .int .i64 rm, .string s] w (PutPost g cs t (o + p) (txt s rm) w 0) := by
  have c0 : decide ((rm : Int) < 1) = false := decide_eq_false (by omega)
  have c1 : decide (256 < (rm : Int)) = false := decide_eq_false (by omega)
  have c2 : decide (rm ≤ k) = false := decide_eq_false (by omega)
  obtain ⟨v0, hv0⟩ : ∃ v0, w.cell? ⟨g, o + p, none⟩ = some v0 := ⟨_, (hb.cell _).trans (Array.getElem?_eq_getElem (by omega))⟩
  have hf0 := hb.free (o + p)
  have hb1 : Bk (w.setCell ⟨g, o + p, none⟩ (.int .u8 (k : Int))) g (lay cs (o + p) [.int .u8 (k : Int)]) t := hb.set (o + p) _
  have hfr1 : Fr (· = g) w (w.setCell ⟨g, o + p, none⟩ (.int .u8 (k : Int))) := (Fr.refl _ _).set _ _ (.inr rfl)
  have hB : B (UInt8.ofNat k) = .int .u8 (k : Int) := by rw [B_ofNat, Nat.mod_eq_of_lt (by omega)]
  generalize hw1 : w.setCell ⟨g, o + p, none⟩ (.int .u8 (k : Int)) = w1 at hb1 hfr1
  have HC : Hid (∀ ty a n c, (Builtin.copy_ #[22, 9] ty #[.slice a n c, .string s]).run Try.prog w1 = .ok (goInt k) w1) := Lib.hid fun ty a n c => by
    have := copy_none (P := Try.prog) 22 9 ty 5 a n c s w1 Try.underlying22 size_u8 (by omega)
    rw [this, show k = 0 by omega]; rfl

  have HZ : Hid (∀ ty, (Builtin.clear_ #[22] ty #[.slice (some ⟨g, o + p + (1 + k), none⟩) (rm - (1 + k)) (c - p - (1 + k))]).run Try.prog (w1) = .ok (.tuple #[]) ((w1).setCells g (o + p + (1 + k)) (List.replicate (rm - (1 + k)) (.int .u8 0)))) := Lib.hid fun ty =>
    clear_blk 22 ty 5 g _ _ _ _ t _ (by omega) hb1 (by simp; omega) Try.underlying22 zero_u8

  have HF := Lib.hid (show PutPost g cs t (o + p) (txt s rm) w 0 (.returned (.int .i64 0)) _ from ⟨rfl, by
      have hl := Lib.size_eq s
      have e0 : s.data.toList = [] := List.length_eq_zero_iff.1 (by omega)
      have e : (txt s rm).map B = [.int .u8 (k : Int)] ++ List.replicate (rm - (1 + k)) (.int .u8 0) := by
        simp [txt, hk, hB, e0]; exact ⟨by omega, .inr rfl⟩
      rw [e, lay_append]
      have := sets_bk (List.replicate (rm - (1 + k)) (.int .u8 0)) (o + p + (1 + k)) _ _ hb1
      rw [show o + p + ([.int .u8 (k : Int)] : List Value).length = o + p + (1 + k) by simp; omega]
      exact this, sets_fr _ _ _ hfr1⟩)
  clear hb hb1 hfr1 hB hcs
  have x1 : (1 : Int) + k ≤ rm := by omega
  have x2 : (1 : Int) + k ≤ ((c - p : Nat) : Int) := by omega
  have x6 : ((k : Int)) % 256 = k := by omega
  have hkl : k ≤ 0 := by omega
  clear hk0
  have x4 : 1 + k < c - p := by omega
  have x5 : 1 < c - p := by omega
  go_enter Try.func36, Try.ntmps36
  go_wp2_with (first | (go_at_call 38; (with_reducible refine (cut_ok g o n c p rm _ hc hcm hn hr (by omega)).mono ?_); rintro e w1 ⟨rfl, rfl⟩) | (simp only [hw1, HC.out]) | (simp only [HZ.out]))
  go_ret
  exact HF.out

set_option maxHeartbeats 2000000 in
set_option maxRecDepth 100000 in
theorem pt_d1 (g o n c p rm k : Nat) (s : ByteArray) (cs : Array Value) (t : TypeId) (w : World) (hb : Bk w g cs t) (hc : n ≤ c) (hcm : c ≤ 9223372036854775807) (hn : n ≤ 140737488351232) (hcs : o + n ≤ cs.size) (hr : p + rm ≤ n) (h1 : 1 ≤ rm) (h2 : rm ≤ 256) (hk : s.size = k) (hk0 : k = 0) (hk1 : 1 + k = rm) (hx : 1 < c - p) :
    Calls Try.prog 36 #[.slice (some ⟨g, o, none⟩) n c, .int .i64 p, .int .i64 rm, .string s] w (PutPost g cs t (o + p) (txt s rm) w 0) := by
  have c0 : decide ((rm : Int) < 1) = false := decide_eq_false (by omega)
  have c1 : decide (256 < (rm : Int)) = false := decide_eq_false (by omega)
  have c2 : decide (rm ≤ k) = false := decide_eq_false (by omega)
  obtain ⟨v0, hv0⟩ : ∃ v0, w.cell? ⟨g, o + p, none⟩ = some v0 := ⟨_, (hb.cell _).trans (Array.getElem?_eq_getElem (by omega))⟩
  have hf0 := hb.free (o + p)
  have hb1 : Bk (w.setCell ⟨g, o + p, none⟩ (.int .u8 (k : Int))) g (lay cs (o + p) [.int .u8 (k : Int)]) t := hb.set (o + p) _
  have hfr1 : Fr (· = g) w (w.setCell ⟨g, o + p, none⟩ (.int .u8 (k : Int))) := (Fr.refl _ _).set _ _ (.inr rfl)
  have hB : B (UInt8.ofNat k) = .int .u8 (k : Int) := by rw [B_ofNat, Nat.mod_eq_of_lt (by omega)]
  generalize hw1 : w.setCell ⟨g, o + p, none⟩ (.int .u8 (k : Int)) = w1 at hb1 hfr1
  have HC : Hid (∀ ty a n c, (Builtin.copy_ #[22, 9] ty #[.slice a n c, .string s]).run Try.prog w1 = .ok (goInt k) w1) := Lib.hid fun ty a n c => by
    have := copy_none (P := Try.prog) 22 9 ty 5 a n c s w1 Try.underlying22 size_u8 (by omega)
    rw [this, show k = 0 by omega]; rfl

  have HZ : Hid (∀ ty a c, (Builtin.clear_ #[22] ty #[.slice a 0 c]).run Try.prog (w1) = .ok (.tuple #[]) (w1)) := Lib.hid fun ty a c => clear_none 22 ty 5 a 0 c _ rfl Try.underlying22

  have HF := Lib.hid (show PutPost g cs t (o + p) (txt s rm) w 0 (.returned (.int .i64 0)) _ from ⟨rfl, by
      have hl := Lib.size_eq s
      have e0 : s.data.toList = [] := List.length_eq_zero_iff.1 (by omega)
      have e : (txt s rm).map B = [.int .u8 (k : Int)] := by
        simp [txt, hk, hB, e0]; omega
      rw [e]
      exact hb1, hfr1⟩)
  clear hb hb1 hfr1 hB hcs
  have x1 : (1 : Int) + k ≤ rm := by omega
  have x2 : (1 : Int) + k ≤ ((c - p : Nat) : Int) := by omega
  have x6 : ((k : Int)) % 256 = k := by omega
  have hkl : k ≤ 0 := by omega
  clear hk0
  have hka : 1 + k ≤ rm := by omega
  have hkb : rm ≤ 1 + k := by omega
  clear hk1
  have x4 : 1 + k < c - p := by omega
  have x5 : 1 < c - p := by omega
  go_enter Try.func36, Try.ntmps36
  go_wp2_with (first | (go_at_call 38; (with_reducible refine (cut_ok g o n c p rm _ hc hcm hn hr (by omega)).mono ?_); rintro e w1 ⟨rfl, rfl⟩) | (simp only [hw1, HC.out]) | (simp only [HZ.out]))
  go_ret
  exact HF.out

set_option maxHeartbeats 2000000 in
set_option maxRecDepth 100000 in
theorem pt_d2 (g o n c p rm k : Nat) (s : ByteArray) (cs : Array Value) (t : TypeId) (w : World) (hb : Bk w g cs t) (hc : n ≤ c) (hcm : c ≤ 9223372036854775807) (hn : n ≤ 140737488351232) (hcs : o + n ≤ cs.size) (hr : p + rm ≤ n) (h1 : 1 ≤ rm) (h2 : rm ≤ 256) (hk : s.size = k) (hk0 : k = 0) (hk1 : 1 + k = rm) (hx : c - p ≤ 1) :
    Calls Try.prog 36 #[.slice (some ⟨g, o, none⟩) n c, .int .i64 p, .int .i64 rm, .string s] w (PutPost g cs t (o + p) (txt s rm) w 0) := by
  have c0 : decide ((rm : Int) < 1) = false := decide_eq_false (by omega)
  have c1 : decide (256 < (rm : Int)) = false := decide_eq_false (by omega)
  have c2 : decide (rm ≤ k) = false := decide_eq_false (by omega)
  obtain ⟨v0, hv0⟩ : ∃ v0, w.cell? ⟨g, o + p, none⟩ = some v0 := ⟨_, (hb.cell _).trans (Array.getElem?_eq_getElem (by omega))⟩
  have hf0 := hb.free (o + p)
  have hb1 : Bk (w.setCell ⟨g, o + p, none⟩ (.int .u8 (k : Int))) g (lay cs (o + p) [.int .u8 (k : Int)]) t := hb.set (o + p) _
  have hfr1 : Fr (· = g) w (w.setCell ⟨g, o + p, none⟩ (.int .u8 (k : Int))) := (Fr.refl _ _).set _ _ (.inr rfl)
  have hB : B (UInt8.ofNat k) = .int .u8 (k : Int) := by rw [B_ofNat, Nat.mod_eq_of_lt (by omega)]
  generalize hw1 : w.setCell ⟨g, o + p, none⟩ (.int .u8 (k : Int)) = w1 at hb1 hfr1
  have HC : Hid (∀ ty a n c, (Builtin.copy_ #[22, 9] ty #[.slice a n c, .string s]).run Try.prog w1 = .ok (goInt k) w1) := Lib.hid fun ty a n c => by
    have := copy_none (P := Try.prog) 22 9 ty 5 a n c s w1 Try.underlying22 size_u8 (by omega)
    rw [this, show k = 0 by omega]; rfl

  have HZ : Hid (∀ ty a c, (Builtin.clear_ #[22] ty #[.slice a 0 c]).run Try.prog (w1) = .ok (.tuple #[]) (w1)) := Lib.hid fun ty a c => clear_none 22 ty 5 a 0 c _ rfl Try.underlying22

  have HF := Lib.hid (show PutPost g cs t (o + p) (txt s rm) w 0 (.returned (.int .i64 0)) _ from ⟨rfl, by
      have hl := Lib.size_eq s
      have e0 : s.data.toList = [] := List.length_eq_zero_iff.1 (by omega)
      have e : (txt s rm).map B = [.int .u8 (k : Int)] := by
        simp [txt, hk, hB, e0]; omega
      rw [e]
      exact hb1, hfr1⟩)
  clear hb hb1 hfr1 hB hcs
  have x1 : (1 : Int) + k ≤ rm := by omega
  have x2 : (1 : Int) + k ≤ ((c - p : Nat) : Int) := by omega
  have x6 : ((k : Int)) % 256 = k := by omega
  have hkl : k ≤ 0 := by omega
  clear hk0
  have hka : 1 + k ≤ rm := by omega
  have hkb : rm ≤ 1 + k := by omega
  clear hk1
  have x5 : 1 ≤ c - p := by omega
  have x5b : c - p ≤ 1 := by omega
  go_enter Try.func36, Try.ntmps36
  go_wp2_with (first | (go_at_call 38; (with_reducible refine (cut_ok g o n c p rm _ hc hcm hn hr (by omega)).mono ?_); rintro e w1 ⟨rfl, rfl⟩) | (simp only [hw1, HC.out]) | (simp only [HZ.out]))
  go_ret
  exact HF.out

theorem pt_ok (g o n c p rm : Nat) (s : ByteArray) (cs : Array Value) (t : TypeId) (w : World) (hb : Bk w g cs t) (hc : n ≤ c) (hcm : c ≤ 9223372036854775807) (hn : n ≤ 140737488351232) (hcs : o + n ≤ cs.size) (hr : p + rm ≤ n) (h1 : 1 ≤ rm) (h2 : rm ≤ 256) (hk : s.size < rm) :
    Calls Try.prog 36 #[.slice (some ⟨g, o, none⟩) n c, .int .i64 p, .int .i64 rm, .string s] w (PutPost g cs t (o + p) (txt s rm) w 0) := by
  by_cases hk0 : s.size = 0
  · by_cases hk1 : 1 + s.size = rm
    · by_cases hx : 1 < c - p
      · exact pt_d1 g o n c p rm s.size s cs t w hb hc hcm hn hcs hr h1 h2 rfl hk0 hk1 hx
      · exact pt_d2 g o n c p rm s.size s cs t w hb hc hcm hn hcs hr h1 h2 rfl hk0 hk1 (by omega)
    · exact pt_c g o n c p rm s.size s cs t w hb hc hcm hn hcs hr h1 h2 rfl hk0 (by omega)
  · by_cases hk1 : 1 + s.size = rm
    · by_cases hx : 1 + s.size < c - p
      · exact pt_b1 g o n c p rm s.size s cs t w hb hc hcm hn hcs hr h1 h2 rfl (by omega) hk1 hx
      · exact pt_b2 g o n c p rm s.size s cs t w hb hc hcm hn hcs hr h1 h2 rfl (by omega) hk1 (by omega)
    · exact pt_a g o n c p rm s.size s cs t w hb hc hcm hn hcs hr h1 h2 rfl (by omega) (by omega)

/-! ### TakeText, told once -/
/-- the text that stands in such bytes: its answer -/
def TextIs (m : List UInt8) (e : Ending) : Prop :=
  e = .returned (if m.length ≤ (m.getD 0 0).toNat ∨ allZ (m.drop (1 + (m.getD 0 0).toNat)) = false then .tuple #[.string ⟨#[]⟩, .int .i64 15] else .tuple #[.string ⟨((m.drop 1).take (m.getD 0 0).toNat).toArray⟩, .int .i64 0])
theorem tt_ok (b o n c p rm : Nat) (m : List UInt8) (w : World) (hlen : m.length = rm) (hrd : Rd w (some ⟨b, o + p, none⟩) m) (hc : n ≤ c) (hcm : c ≤ 9223372036854775807) (hn : n ≤ 140737488351232) (hr : p + rm ≤ n) (h1 : 1 ≤ rm) (h2 : rm ≤ 256) :
    Calls Try.prog 34 #[.slice (some ⟨b, o, none⟩) n c, .int .i64 p, .int .i64 rm] w fun e w' => TextIs m e ∧ w = w' := by
  unfold TextIs
  by_cases hl : rm ≤ (m.getD 0 0).toNat
  · rw [if_pos (.inl (by omega))]
    exact tt_long b o n c p rm _ m w hlen hrd hc hcm hn hr h1 h2 rfl hl
  cases hz : allZ (m.drop (1 + (m.getD 0 0).toNat)) with
  | false =>
    rw [if_pos (.inr rfl)]
    exact tt_dirty b o n c p rm _ m w hlen hrd hc hcm hn hr h1 h2 rfl (by omega) hz
  | true =>
    rw [if_neg (by intro h; rcases h with h | h; omega; cases h)]
    by_cases hx : 1 + (m.getD 0 0).toNat < c - p
    · exact tt_finea b o n c p rm _ m w hlen hrd hc hcm hn hr h1 h2 rfl (by omega) hz hx
    by_cases hk0 : 0 < (m.getD 0 0).toNat
    · exact tt_fineb b o n c p rm _ m w hlen hrd hc hcm hn hr h1 h2 rfl (by omega) (by omega) (by omega) hk0
    · exact tt_finec b o n c p rm _ m w hlen hrd hc hcm hn hr h1 h2 rfl (by omega) (by omega) (by omega) (by omega)

end Go.Proofs.Ytkajbhkhecoccaa.WordTextPut
