/- Pointers laid into, and taken from, bytes of one's own: what ptr.Put, ptr.Take and the reference's do. -/
import Derived.Test.YtjkaenhopkigdaaDoorPtrRPut
import Derived.Test.YtjkaenhopkigdaaDoorPtrRTake
import Derived.Test.YtjkaenhopkigdaaDoorRefCopy
import Derived.Test.YtjkaenhopkigdaaDoorPtrMake
set_option linter.unusedVariables false
set_option linter.unusedSimpArgs false
namespace Go.Proofs.YtjkaenhopkigdaaDoor.PtrOwn
open Go Go.RowKit Go.Proofs.YtjkaenhopkigdaaDoor.K Go.Proofs.YtjkaenhopkigdaaDoor.EqKit Go.Proofs.YtjkaenhopkigdaaDoor.PtrKit Go.Proofs.YtjkaenhopkigdaaDoor.ArrKit Go.Proofs.YtjkaenhopkigdaaDoor.HeldKit Go.Proofs.YtjkaenhopkigdaaDoor.PtrAsk Go.Proofs.YtjkaenhopkigdaaDoor.ShaStep Go.Proofs.YtjkaenhopkigdaaDoor.ShaRef Go.Proofs.YtjkaenhopkigdaaDoor.ShaSum Go.Proofs.YtjkaenhopkigdaaDoor.PtrOf Go.Proofs.YtjkaenhopkigdaaDoor.RefCopy Go.Proofs.YtjkaenhopkigdaaDoor.WordPut Go.Proofs.YtjkaenhopkigdaaDoor.WordTake Go.Proofs.YtjkaenhopkigdaaDoor.PtrPut Go.Proofs.YtjkaenhopkigdaaDoor.PtrRPut Go.Proofs.YtjkaenhopkigdaaDoor.PtrTake Go.Proofs.YtjkaenhopkigdaaDoor.PtrRTake Go.Proofs.YtjkaenhopkigdaaDoor.PtrAlive Go.Proofs.YtjkaenhopkigdaaDoor.PtrMake

/-- m laid into l from p on -/
def splice (l : List UInt8) (p : Nat) (m : List UInt8) : List UInt8 := l.take p ++ m ++ l.drop (p + m.length)
theorem splice_length {l m : List UInt8} {p : Nat} (h : p + m.length ≤ l.length) : (splice l p m).length = l.length := by simp [splice]; omega
theorem splice_get {l m : List UInt8} {p : Nat} (h : p + m.length ≤ l.length) (i : Nat) : (splice l p m)[i]? = if p ≤ i ∧ i < p + m.length then m[i - p]? else l[i]? := by
  simp only [splice, List.append_assoc]
  rw [List.getElem?_append, List.length_take, Nat.min_eq_left (by omega)]
  by_cases h1 : i < p
  · rw [if_pos h1, if_neg (by omega), List.getElem?_take, if_pos h1]
  · rw [if_neg h1, List.getElem?_append]
    by_cases h2 : i - p < m.length
    · rw [if_pos h2, if_pos (by omega)]
    · rw [if_neg h2, if_neg (by omega), List.getElem?_drop]
      congr 1; omega
theorem own_lay {w w' : World} {g n cap : Nat} {cur : Array Value} {l m : List UInt8} {p : Nat} (h : Own w g n cap cur l) (hb : Bk w' g (K.lay cur p (m.map B)) 5) (hp : p + m.length ≤ n) : Own w' g n cap (K.lay cur p (m.map B)) (splice l p m) where
  blk := hb
  len := (splice_length (by rw [h.len]; exact hp)).trans h.len
  room := h.room
  size := by rw [lay_size]; exact h.size
  cap := h.cap
  here := fun i hi => by
    have hl := h.len
    have hs := splice_get (l := l) (m := m) (p := p) (by omega) i
    rw [List.getElem?_eq_getElem hi] at hs
    rw [lay_get, List.length_map]
    have hsz := h.size
    have hr := h.room
    rw [splice_length (by omega)] at hi
    by_cases h1 : p ≤ i ∧ i < p + m.length
    · rw [if_pos h1] at hs
      rw [if_pos ⟨h1.1, h1.2, by omega⟩, List.getElem?_map, ← hs]; rfl
    · rw [if_neg h1] at hs
      rw [if_neg (by omega), h.here i hi]
      rw [List.getElem?_eq_getElem hi] at hs
      rw [Option.some.inj hs]
instance (n : Nat) (p s : Int) : Decidable (NoRoom n p s) := by unfold NoRoom; infer_instance
/-- is it laid? -/
def okPut (n : Nat) (p a b : Int) (s : List UInt8) : Bool := rightB a b s && !decide (NoRoom n p 40)
def putL (l : List UInt8) (n : Nat) (p a b : Int) (s : List UInt8) : List UInt8 := if okPut n p a b s then splice l p.toNat (PB a b s) else l
def putE (n : Nat) (p a b : Int) (s : List UInt8) : Int := if okPut n p a b s then 0 else 1
/-- what is taken -/
def tkX (m : List UInt8) : Array Value := if tkR m then (PC (tkA m) (tkB m) (tkS m)).toArray else ZERO
def tkE (m : List UInt8) : Int := if tkR m then 0 else 15
theorem tkV_eq (m : List UInt8) : tkV m = .tuple #[.agg (tkX m), .int .i64 (tkE m)] := by
  unfold tkV tkX tkE
  cases tkR m <;> rfl
def takeX (l : List UInt8) (n : Nat) (p : Int) : Array Value := if NoRoom n p 40 then ZERO else tkX ((l.drop p.toNat).take 40)
def takeE (l : List UInt8) (n : Nat) (p : Int) : Int := if NoRoom n p 40 then 1 else tkE ((l.drop p.toNat).take 40)
theorem putL_length {l : List UInt8} {n : Nat} {p a b : Int} {s : List UInt8} (hl : l.length = n) (hs : s.length = 32) : (putL l n p a b s).length = n := by
  unfold putL
  cases h : okPut n p a b s with
  | false => simpa using hl
  | true =>
    have h2 : ¬ NoRoom n p 40 := by intro hr; simp [okPut, hr] at h
    unfold NoRoom at h2
    rw [if_pos rfl, splice_length (by rw [PB_length _ _ _ hs]; omega), hl]

theorem own_put (g n cap : Nat) (p a b : Int) (s : List UInt8) (cur : Array Value) (l : List UInt8) (w : World) (h : Own w g n cap cur l) (hn : n ≤ 140737488351232) (hs : s.length = 32) (ha : (Lit.int .i64 a).wf = true) (hb : (Lit.int .i64 b).wf = true) :
    Calls Tryd.prog 23 #[.slice (some ⟨g, 0, none⟩) n cap, .int .i64 p, .agg (PC a b s).toArray] w fun e w' => e = .returned (.int .i64 (putE n p a b s)) ∧ (∃ cur', Own w' g n cap cur' (putL l n p a b s)) ∧ Fr (· = g) w w' := by
  unfold putE putL
  cases hk : rightB a b s with
  | false =>
    have e : okPut n p a b s = false := by simp [okPut, hk]
    simp only [e, Bool.false_eq_true, if_false]
    have keep : ∀ e' w', (e' = Ending.returned (.int .i64 1) ∧ Fr0 w w') → (e' = Ending.returned (.int .i64 1) ∧ (∃ cur', Own w' g n cap cur' l) ∧ Fr (· = g) w w') := fun e' w' ⟨h1, h2⟩ => ⟨h1, ⟨cur, h.keep h2 (fun h => h)⟩, h2.weaken (fun _ _ h => h.elim)⟩
    by_cases hr : NoRoom n p 40
    · exact (put_room _ n cap p _ w hn hr).mono keep
    · have hr' := hr
      unfold NoRoom at hr'
      obtain ⟨p, rfl⟩ := Int.eq_ofNat_of_zero_le (show 0 ≤ p by omega)
      exact (put_wrong g 0 n cap p a b s w hs ha hb h.room h.cap hn (by omega) hk).mono keep
  | true =>
    by_cases hr : NoRoom n p 40
    · have e : okPut n p a b s = false := by simp [okPut, hr]
      simp only [e, Bool.false_eq_true, if_false]
      have keep : ∀ e' w', (e' = Ending.returned (.int .i64 1) ∧ Fr0 w w') → (e' = Ending.returned (.int .i64 1) ∧ (∃ cur', Own w' g n cap cur' l) ∧ Fr (· = g) w w') := fun e' w' ⟨h1, h2⟩ => ⟨h1, ⟨cur, h.keep h2 (fun h => h)⟩, h2.weaken (fun _ _ h => h.elim)⟩
      exact (put_room _ n cap p _ w hn hr).mono keep
    · have e : okPut n p a b s = true := by simp [okPut, hr, hk]
      simp only [e, if_true]
      have hr' := hr
      unfold NoRoom at hr'
      obtain ⟨p, rfl⟩ := Int.eq_ofNat_of_zero_le (show 0 ≤ p by omega)
      have := put_fits g 0 n cap p a b s cur 5 w hs ha hb h.blk (by rw [Nat.zero_add, h.size]; exact h.room) h.room h.cap hn (by omega) hk
      rw [Nat.zero_add] at this
      exact this.mono fun e w' ⟨h1, h2, h3⟩ => ⟨h1, ⟨_, own_lay h h2 (by rw [PB_length _ _ _ hs]; omega)⟩, h3⟩

theorem own_rput (g n cap : Nat) (p a b : Int) (s : List UInt8) (cur : Array Value) (l : List UInt8) (w : World) (h : Own w g n cap cur l) (hn : n ≤ 140737488351232) (hs : s.length = 32) (ha : (Lit.int .i64 a).wf = true) (hb : (Lit.int .i64 b).wf = true) :
    Calls Tryd.prog 24 #[.slice (some ⟨g, 0, none⟩) n cap, .int .i64 p, .agg (PC a b s).toArray] w fun e w' => e = .returned (.int .i64 (putE n p a b s)) ∧ (∃ cur', Own w' g n cap cur' (putL l n p a b s)) ∧ Fr (· = g) w w' := by
  unfold putE putL
  cases hk : rightB a b s with
  | false =>
    have e : okPut n p a b s = false := by simp [okPut, hk]
    simp only [e, Bool.false_eq_true, if_false]
    have keep : ∀ e' w', (e' = Ending.returned (.int .i64 1) ∧ Fr0 w w') → (e' = Ending.returned (.int .i64 1) ∧ (∃ cur', Own w' g n cap cur' l) ∧ Fr (· = g) w w') := fun e' w' ⟨h1, h2⟩ => ⟨h1, ⟨cur, h.keep h2 (fun h => h)⟩, h2.weaken (fun _ _ h => h.elim)⟩
    by_cases hr : NoRoom n p 40
    · exact (rput_no _ n cap p a b s w hn hs ha hb (.inl hk)).mono keep
    · have hr' := hr
      unfold NoRoom at hr'
      obtain ⟨p, rfl⟩ := Int.eq_ofNat_of_zero_le (show 0 ≤ p by omega)
      exact (rput_no _ n cap p a b s w hn hs ha hb (.inl hk)).mono keep
  | true =>
    by_cases hr : NoRoom n p 40
    · have e : okPut n p a b s = false := by simp [okPut, hr]
      simp only [e, Bool.false_eq_true, if_false]
      have keep : ∀ e' w', (e' = Ending.returned (.int .i64 1) ∧ Fr0 w w') → (e' = Ending.returned (.int .i64 1) ∧ (∃ cur', Own w' g n cap cur' l) ∧ Fr (· = g) w w') := fun e' w' ⟨h1, h2⟩ => ⟨h1, ⟨cur, h.keep h2 (fun h => h)⟩, h2.weaken (fun _ _ h => h.elim)⟩
      exact (rput_no _ n cap p a b s w hn hs ha hb (.inr hr)).mono keep
    · have e : okPut n p a b s = true := by simp [okPut, hr, hk]
      simp only [e, if_true]
      have hr' := hr
      unfold NoRoom at hr'
      obtain ⟨p, rfl⟩ := Int.eq_ofNat_of_zero_le (show 0 ≤ p by omega)
      have := rput_fits g 0 n cap p a b s cur 5 w hs h.blk (by rw [Nat.zero_add, h.size]; exact h.room) h.room h.cap hn (by omega) hk
      rw [Nat.zero_add] at this
      exact this.mono fun e w' ⟨h1, h2, h3⟩ => ⟨h1, ⟨_, own_lay h h2 (by rw [PB_length _ _ _ hs]; omega)⟩, h3⟩

theorem own_take (g n cap : Nat) (p : Int) (cur : Array Value) (l : List UInt8) (w : World) (h : Own w g n cap cur l) (hn : n ≤ 140737488351232) :
    Calls Tryd.prog 21 #[.slice (some ⟨g, 0, none⟩) n cap, .int .i64 p] w fun e w' => e = .returned (.tuple #[.agg (takeX l n p), .int .i64 (takeE l n p)]) ∧ Fr0 w w' := by
  unfold takeX takeE
  by_cases hr : NoRoom n p 40
  · simp only [hr, if_true]
    exact take_room _ n cap p w hn hr
  · simp only [hr, if_false]
    unfold NoRoom at hr
    obtain ⟨p, rfl⟩ := Int.eq_ofNat_of_zero_le (show 0 ≤ p by omega)
    have hl := h.len
    have := take_some g 0 n cap p ((l.drop p).take 40) w (by simp; omega) (h.rd.sub p 40) h.room h.cap hn (by omega)
    rw [tkV_eq] at this
    exact this

theorem own_rtake (g n cap : Nat) (p : Int) (cur : Array Value) (l : List UInt8) (w : World) (h : Own w g n cap cur l) (hn : n ≤ 140737488351232) :
    Calls Tryd.prog 22 #[.slice (some ⟨g, 0, none⟩) n cap, .int .i64 p] w fun e w' => e = .returned (.tuple #[.agg (takeX l n p), .int .i64 (takeE l n p)]) ∧ Fr0 w w' := by
  unfold takeX takeE
  by_cases hr : NoRoom n p 40
  · simp only [hr, if_true]
    exact rtake_room _ n cap p w hn hr
  · simp only [hr, if_false]
    unfold NoRoom at hr
    obtain ⟨p, rfl⟩ := Int.eq_ofNat_of_zero_le (show 0 ≤ p by omega)
    have hl := h.len
    have := rtake_some g 0 n cap p ((l.drop p).take 40) w (by simp; omega) (h.rd.sub p 40) h.room h.cap hn (by omega)
    rw [tkV_eq] at this
    exact this

theorem dec_wf (x : Nat) (h : x < 4294967296) : (Lit.int .i64 (dec x)).wf = true := by
  unfold dec
  split
  · decide
  · simp [Lit.wf, IntKind.min, IntKind.max, IntKind.signed, IntKind.bits]; omega
theorem num4 (q : List UInt8) (h : q.length ≤ 4) : num q < 4294967296 := by
  have h1 := num_lt q
  have h2 : (256 : Nat) ^ q.length ≤ 256 ^ 4 := Nat.pow_le_pow_right (by decide) h
  have : (256 : Nat) ^ 4 = 4294967296 := by decide
  omega
theorem takeX_form (l : List UInt8) (n : Nat) (p : Int) (hl : l.length = n) : ∃ (a b : Int) (s : List UInt8), takeX l n p = (PC a b s).toArray ∧ s.length = 32 ∧ (Lit.int .i64 a).wf = true ∧ (Lit.int .i64 b).wf = true := by
  unfold takeX
  by_cases hr : NoRoom n p 40
  · exact ⟨0, 0, Z, by rw [if_pos hr, zero_pc], Z_len, by decide, by decide⟩
  · rw [if_neg hr]
    unfold tkX
    cases tkR ((l.drop p.toNat).take 40) with
    | false => exact ⟨0, 0, Z, by rw [if_neg (by decide), zero_pc], Z_len, by decide, by decide⟩
    | true =>
      unfold NoRoom at hr
      have hm : ((l.drop p.toNat).take 40).length = 40 := by simp; omega
      exact ⟨tkA _, tkB _, tkS _, by rw [if_pos rfl], tkS_length _ hm, dec_wf _ (num4 _ (by rw [List.length_take]; omega)), dec_wf _ (num4 _ (by rw [List.length_take]; omega))⟩
theorem takeX_size (l : List UInt8) (n : Nat) (p : Int) (hl : l.length = n) : (takeX l n p).size = 34 := by
  obtain ⟨a, b, s, h, hs, -, -⟩ := takeX_form l n p hl
  rw [h, List.size_toArray, PC_length, hs]
theorem takeX_one (l : List UInt8) (n : Nat) (p : Int) (hl : l.length = n) : (takeX l n p).all (·.oneCell') = true := by
  obtain ⟨a, b, s, h, hs, -, -⟩ := takeX_form l n p hl
  rw [h]
  simp [PC, B, Value.oneCell']
theorem takeX_eq (l : List UInt8) (n : Nat) (p : Int) (hl : l.length = n) (W : World) : (Op.equalIn 10000 26 (.agg (takeX l n p)) (.agg (takeX l n p))).run Tryd.prog W = .ok true W := by
  obtain ⟨a, b, s, h, hs, ha, hb⟩ := takeX_form l n p hl
  rw [h]
  exact eq_self a b s hs ha hb W

end Go.Proofs.YtjkaenhopkigdaaDoor.PtrOwn
