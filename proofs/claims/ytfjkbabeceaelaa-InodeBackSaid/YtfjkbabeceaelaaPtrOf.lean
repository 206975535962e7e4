/- Rows and parts of rows in memory: words for walks. -/
import Derived.Test.YtfjkbabeceaelaaPtrAsk
import Derived.Test.YtfjkbabeceaelaaPtrRRight
import Derived.Test.YtfjkbabeceaelaaShaStep
import Derived.Test.YtfjkbabeceaelaaShaRef
import Derived.Test.YtfjkbabeceaelaaShaSum
set_option linter.unusedVariables false
set_option linter.unusedSimpArgs false
namespace Go.Proofs.Ytfjkbabeceaelaa.PtrOf
open Go Go.RowKit Go.Proofs.Ytfjkbabeceaelaa.K Go.Proofs.Ytfjkbabeceaelaa.EqKit Go.Proofs.Ytfjkbabeceaelaa.PtrKit Go.Proofs.Ytfjkbabeceaelaa.ArrKit Go.Proofs.Ytfjkbabeceaelaa.HeldKit Go.Proofs.Ytfjkbabeceaelaa.PtrAsk

theorem wpList_load_row_g {P : Program} {ops : Array Oper} {rest : List Oper} {o : Oper} {a : Act} {w : World} {Q : Exit → Act → World → Prop} (hw : Region.wanted o (yielded ops a.tmps) = true) (ty : TypeId) (x : Operand) (ho : o.op = .load ty x)
    (g : Nat) (hx : a.eval x = .pointer (some ⟨g, 0, none⟩)) (t : TypeId) (cs : Array Value) (fr : Nat × Nat) (d : TypeDesc) (hg : w.heap[g]? = some (.cells cs t fr))
    (hu : P.underlying ty = some d) (hd : (match d with | .struct _ | .array _ _ => true | _ => false) = true) (hi : (P.info? ty).map (·.size) = some cs.size)
    (h : wpList P ops Q rest (a.put o.dst (.agg cs)) w) : wpList P ops Q (o :: rest) a w := by
  unfold wpList
  rw [if_pos hw]
  exact Or.inl (wp_load_row ty x ho g hx t cs fr d hg hu hd hi h)
theorem sets_bk {g : Nat} {t : TypeId} : ∀ (vs : List Value) (o : Nat) (w : World) (cs : Array Value), Bk w g cs t → Bk (w.setCells g o vs) g (lay cs o vs) t
  | [], _, _, _, h => h
  | v :: r, o, w, cs, h => sets_bk r (o + 1) _ _ (h.set o v)
theorem sets_fr {g : Nat} {w0 : World} : ∀ (vs : List Value) (o : Nat) (w : World), Fr (· = g) w0 w → Fr (· = g) w0 (w.setCells g o vs)
  | [], _, _, h => h
  | v :: r, o, w, h => sets_fr r (o + 1) _ (h.set _ _ (.inr rfl))
def okB (a c : Int) : Bool := secB a && (decide (c = -1) || (secB c && !decide (c = a)))
def YL (a c : Int) : Array Value := #[.int .i64 a, .int .i64 c, .int .u8 0, .int .u8 0, .int .u8 0, .int .u8 0, .int .u8 0, .int .u8 0, .int .u8 0, .int .u8 0, .int .u8 0, .int .u8 0, .int .u8 0, .int .u8 0, .int .u8 0, .int .u8 0, .int .u8 0, .int .u8 0, .int .u8 0, .int .u8 0, .int .u8 0, .int .u8 0, .int .u8 0, .int .u8 0, .int .u8 0, .int .u8 0, .int .u8 0, .int .u8 0, .int .u8 0, .int .u8 0, .int .u8 0, .int .u8 0, .int .u8 0, .int .u8 0]
theorem YL_eq (a c : Int) : YL a c = (PC a c Z).toArray := rfl
theorem YL_one (a c : Int) : (YL a c).all (·.oneCell') = true := by simp [YL, Value.oneCell']
theorem ZERO_one : ZERO.all (·.oneCell') = true := by kernel_rfl
theorem lay_YL (a c : Int) (s : List UInt8) (hs : s.length = 32) : lay (YL a c) 2 (s.map B).toArray.toList = (PC a c s).toArray := by
  apply Array.ext_getElem?
  intro i
  rw [lay_get]
  simp only [List.length_map, hs]
  have h34 : (YL a c).size = 34 := rfl
  by_cases h : 2 ≤ i ∧ i < 2 + 32 ∧ i < (YL a c).size
  · rw [if_pos h]
    obtain ⟨j, rfl⟩ : ∃ j, i = j + 2 := ⟨i - 2, by omega⟩
    simp [PC]
  · rw [if_neg h]
    match i, h with
    | 0, _ => rfl
    | 1, _ => rfl
    | j + 2, h => rw [Array.getElem?_eq_none (by omega), Array.getElem?_eq_none (by simp [PC, hs]; omega)]
theorem there_YL {w : World} {g : Nat} {t : TypeId} {a c : Int} {n : Nat} (h : Bk w g (YL a c) t) (hn : n = 32) : w.there g 2 n := fun j hj => ⟨by
  have h34 : (YL a c).size = 34 := rfl
  rw [Bk.cell h, Array.getElem?_eq_getElem (by omega)]
  rfl, Bk.free h _⟩
theorem set_YL {w : World} {g : Nat} {t : TypeId} {a c : Int} {s : List UInt8} (h : Bk w g (YL a c) t) (hs : s.length = 32) : Bk (w.setCells g 2 (s.map B).toArray.toList) g (PC a c s).toArray t := by
  have := sets_bk (s.map B).toArray.toList 2 _ _ h
  rw [lay_YL a c s hs] at this
  exact this

end Go.Proofs.Ytfjkbabeceaelaa.PtrOf
