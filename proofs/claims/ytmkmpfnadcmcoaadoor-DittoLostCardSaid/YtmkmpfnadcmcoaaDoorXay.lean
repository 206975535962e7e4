/- The theorems that the claim uses, text behind text (part 25). -/
import Derived.Test.YtmkmpfnadcmcoaaDoorXaa
import Derived.Test.YtmkmpfnadcmcoaaDoorXaj
import Derived.Test.YtmkmpfnadcmcoaaDoorXat
import Derived.Test.YtmkmpfnadcmcoaaDoorXav
import Derived.Test.YtmkmpfnadcmcoaaDoorXaw
import Derived.Test.YtmkmpfnadcmcoaaDoorXax
set_option maxRecDepth 100000
set_option linter.unusedVariables false
set_option linter.unusedSimpArgs false
namespace Go.Proofs.YtmkmpfnadcmcoaaDoor.DitAgainP
open Go Go.RowKit Go.Proofs.YtmkmpfnadcmcoaaDoor.K Go.Proofs.YtmkmpfnadcmcoaaDoor.EqKit Go.Proofs.YtmkmpfnadcmcoaaDoor.ArrKit Go.Proofs.YtmkmpfnadcmcoaaDoor.HeldKit Go.Proofs.YtmkmpfnadcmcoaaDoor.GKit Go.Proofs.YtmkmpfnadcmcoaaDoor.GRow Go.Proofs.YtmkmpfnadcmcoaaDoor.DiskKit Go.Proofs.YtmkmpfnadcmcoaaDoor.RmKit Go.Proofs.YtmkmpfnadcmcoaaDoor.MapKit Go.Proofs.YtmkmpfnadcmcoaaDoor.ShaStep Go.Proofs.YtmkmpfnadcmcoaaDoor.ShaRef Go.Proofs.YtmkmpfnadcmcoaaDoor.ShaPad Go.Proofs.YtmkmpfnadcmcoaaDoor.ShaSum Go.Proofs.YtmkmpfnadcmcoaaDoor.ShaRSum Go.Proofs.YtmkmpfnadcmcoaaDoor.RmRight Go.Proofs.YtmkmpfnadcmcoaaDoor.RmTab Go.Proofs.YtmkmpfnadcmcoaaDoor.RmPut Go.Proofs.YtmkmpfnadcmcoaaDoor.RmAsk Go.Proofs.YtmkmpfnadcmcoaaDoor.RmSame Go.Proofs.YtmkmpfnadcmcoaaDoor.DiskRRead Go.Proofs.YtmkmpfnadcmcoaaDoor.RmRead Go.Proofs.YtmkmpfnadcmcoaaDoor.RmReads Go.Proofs.YtmkmpfnadcmcoaaDoor.DiskAct Go.Proofs.YtmkmpfnadcmcoaaDoor.RmSpare Go.Proofs.YtmkmpfnadcmcoaaDoor.RmKeep Go.Proofs.YtmkmpfnadcmcoaaDoor.RmFirst Go.Proofs.YtmkmpfnadcmcoaaDoor.RmFormat Go.Proofs.YtmkmpfnadcmcoaaDoor.DiskNew Go.Proofs.YtmkmpfnadcmcoaaDoor.DiskHit Go.Proofs.YtmkmpfnadcmcoaaDoor.DiskLay Go.Proofs.YtmkmpfnadcmcoaaDoor.RmAliveP Go.Proofs.YtmkmpfnadcmcoaaDoor.RmWrX Go.Proofs.YtmkmpfnadcmcoaaDoor.DitKit Go.Proofs.YtmkmpfnadcmcoaaDoor.DitAliveP Go.Proofs.YtmkmpfnadcmcoaaDoor.DitLook
def G4 (T bl : List UInt8) : Dk := writeD (F3 T) 3 bl
def G5 (T bl : List UInt8) : Dk := writeD (G4 T bl) 25 bl
def G6 (T bl : List UInt8) : Dk := flushD (G5 T bl)
/-- sector q is another one -/
def G7 (T bl : List UInt8) (q : Int) (z : Sec) : Dk := { G6 T bl with S := (G6 T bl).S.set q.toNat z }
/-- .. and is written anew -/
def G8 (T bl : List UInt8) (q : Int) (z : Sec) : Dk := writeD (G7 T bl q z) q bl
section
variable (T bl x s : List UInt8) (a b : Bool)
theorem g_c03 : (F3 T).C.length = 0 := by kernel_rfl
theorem g_p1 : wrX (F3 T) MA 3 bl = (0, G4 T bl, MA) := by kernel_rfl
theorem g_p2 : wrX (G4 T bl) MA 25 bl = (0, G5 T bl, MA) := by kernel_rfl
theorem g_f5 : flushE (G5 T bl) = 0 := by kernel_rfl
theorem g_s3 : secAt (G6 T bl) 3 = ⟨bl, false, false⟩ := by kernel_rfl
theorem g_r3 : rightB (G6 T bl) 3 = true := by kernel_rfl
theorem g_hole : PtrAsk.isH 3 25 s = false := by kernel_rfl
theorem g_len : (G6 T bl).S.length = 60 := by kernel_rfl
theorem g_home3 : homeB (G7 T bl 3 ⟨x, a, b⟩) MA 3 25 s = true := by kernel_rfl
theorem g_up3 : (G7 T bl 3 ⟨x, a, b⟩).down = false := by kernel_rfl
theorem g_rd3 : rdX (G7 T bl 3 ⟨x, false, b⟩) MA 3 = (x, 0) := by kernel_rfl
theorem g_rn3 : rdX (G7 T bl 3 ⟨x, true, b⟩) MA 3 = (Z128, 2) := by kernel_rfl
theorem g_ro3 : rdX (G7 T bl 3 ⟨x, a, b⟩) MA 25 = (bl, 0) := by kernel_rfl
theorem g_wr3 : wrX (G7 T bl 3 ⟨x, a, false⟩) MA 3 bl = (0, G8 T bl 3 ⟨x, a, false⟩, MA) := by kernel_rfl
theorem h_home3 : homeB (G8 T bl 3 ⟨x, a, false⟩) MA 3 25 s = true := by kernel_rfl
theorem h_up3 : (G8 T bl 3 ⟨x, a, false⟩).down = false := by kernel_rfl
theorem h_rd3 : rdX (G8 T bl 3 ⟨x, a, false⟩) MA 3 = (bl, 0) := by kernel_rfl
theorem h_ro3 : rdX (G8 T bl 3 ⟨x, a, false⟩) MA 25 = (bl, 0) := by kernel_rfl
theorem g_fl3 : flushE (G7 T bl 3 ⟨x, a, b⟩) = 0 := by kernel_rfl
theorem h_fl3 : flushE (G8 T bl 3 ⟨x, a, false⟩) = 0 := by kernel_rfl
theorem i_rd3 : rdX (flushD (G7 T bl 3 ⟨x, false, b⟩)) MA 3 = (x, 0) := by kernel_rfl
theorem i_ro3 : rdX (flushD (G7 T bl 3 ⟨x, a, b⟩)) MA 25 = (bl, 0) := by kernel_rfl
theorem j_rd3 : rdX (flushD (G8 T bl 3 ⟨x, a, false⟩)) MA 3 = (bl, 0) := by kernel_rfl
theorem j_ro3 : rdX (flushD (G8 T bl 3 ⟨x, a, false⟩)) MA 25 = (bl, 0) := by kernel_rfl
theorem g_c3 : (G7 T bl 3 ⟨x, a, b⟩).C.length = 0 := by kernel_rfl
theorem h_c3 : (G8 T bl 3 ⟨x, a, false⟩).C.length = 1 := by kernel_rfl
theorem g_home25 : homeB (G7 T bl 25 ⟨x, a, b⟩) MA 3 25 s = true := by kernel_rfl
theorem g_up25 : (G7 T bl 25 ⟨x, a, b⟩).down = false := by kernel_rfl
theorem g_rd25 : rdX (G7 T bl 25 ⟨x, false, b⟩) MA 25 = (x, 0) := by kernel_rfl
theorem g_rn25 : rdX (G7 T bl 25 ⟨x, true, b⟩) MA 25 = (Z128, 2) := by kernel_rfl
theorem g_ro25 : rdX (G7 T bl 25 ⟨x, a, b⟩) MA 3 = (bl, 0) := by kernel_rfl
theorem g_wr25 : wrX (G7 T bl 25 ⟨x, a, false⟩) MA 25 bl = (0, G8 T bl 25 ⟨x, a, false⟩, MA) := by kernel_rfl
theorem g_fl25 : flushE (G7 T bl 25 ⟨x, a, b⟩) = 0 := by kernel_rfl
theorem h_fl25 : flushE (G8 T bl 25 ⟨x, a, false⟩) = 0 := by kernel_rfl
theorem i_rd25 : rdX (flushD (G7 T bl 25 ⟨x, false, b⟩)) MA 25 = (x, 0) := by kernel_rfl
theorem i_ro25 : rdX (flushD (G7 T bl 25 ⟨x, a, b⟩)) MA 3 = (bl, 0) := by kernel_rfl
theorem j_rd25 : rdX (flushD (G8 T bl 25 ⟨x, a, false⟩)) MA 25 = (bl, 0) := by kernel_rfl
theorem j_ro25 : rdX (flushD (G8 T bl 25 ⟨x, a, false⟩)) MA 3 = (bl, 0) := by kernel_rfl
theorem g_c25 : (G7 T bl 25 ⟨x, a, b⟩).C.length = 0 := by kernel_rfl
end
/-- a copy that is good, one that is not -/
theorem rdG_yes {d : Dk} {m : Rm} {a b q : Int} {s y : List UInt8} (h2 : PtrAsk.isH a b s = false) (h4 : rdX d m q = (y, 0)) (h7 : sumOf y = s) : rdG d m a b s q = (y, true) := by
  unfold rdG PtrFitB.fitB
  rw [h4, h2, if_neg (by decide), decide_eq_true h7]; rfl
theorem rdG_no {d : Dk} {m : Rm} {a b q e : Int} {s x : List UInt8} (h2 : PtrAsk.isH a b s = false) (h4 : rdX d m q = (x, e)) (h7 : e ≠ 0 ∨ sumOf x ≠ s) : rdG d m a b s q = (x, false) := by
  unfold rdG PtrFitB.fitB
  rw [h4, h2, if_neg (by decide)]
  rcases h7 with h | h
  · rw [decide_eq_false h, Bool.false_and]
  · rw [decide_eq_false h, Bool.and_false]
section
variable {d d' : Dk} {m : Rm} {a b : Int} {s x y : List UInt8} (h1 : homeB d m a b s = true) (h2 : PtrAsk.isH a b s = false) (h3 : d.down = false)
include h1 h2 h3
theorem get_yes (h4 : rdG d m a b s a = (y, true)) : getX d m a b s = ((y, 0, 0), d, m) := by
  unfold getX
  rw [if_neg (by rw [h1]; decide), if_neg (by rw [h2]; decide), if_neg (by rw [h3]; decide), h4, if_pos rfl]
theorem get_heal (h4 : rdG d m a b s a = (x, false)) (h5 : rdG d m a b s b = (y, true)) (h8 : wrX d m a y = (0, d', m)) (hb : b ≠ -1) : getX d m a b s = ((y, 1, 0), d', m) := by
  have gh : healX d m a y = (1, 0, d', m) := by unfold healX; rw [h8]; rfl
  unfold getX
  rw [if_neg (by rw [h1]; decide), if_neg (by rw [h2]; decide), if_neg (by rw [h3]; decide), h4, h5, if_neg (show ¬ false = true by decide), if_neg hb, if_neg (show ¬ true = false by decide), gh, if_neg (show ¬ (0 : Int) ≠ 0 by decide)]
theorem get_lost (h4 : rdG d m a b s a = (x, false)) (h5 : b = -1 ∨ rdG d m a b s b = (y, false)) : getX d m a b s = ((Z128, 0, 2), d, m) := by
  unfold getX
  rw [if_neg (by rw [h1]; decide), if_neg (by rw [h2]; decide), if_neg (by rw [h3]; decide), h4, if_neg (show ¬ false = true by decide)]
  rcases h5 with h | h
  · rw [if_pos h]
  · rw [h, if_pos (show false = false from rfl), ite_self]
theorem look_yes (hb : b ≠ -1) (h4 : rdG d m a b s a = (y, true)) (h5 : rdG d m a b s b = (x, true)) : lookX d m a b s = (((2, 0, 0), 0), d, m) := by
  unfold lookX
  rw [if_neg (by rw [h1]; decide), if_neg (by rw [h2]; decide), if_neg (by rw [h3]; decide), if_neg hb, h4, h5, if_pos rfl, if_pos rfl]
theorem look_b (hb : b ≠ -1) (h4 : rdG d m a b s a = (y, true)) (h5 : rdG d m a b s b = (x, false)) (h8 : wrX d m b y = (0, d', m)) : lookX d m a b s = (((2, 1, 1), 0), d', m) := by
  have gh : healX d m b y = (1, 0, d', m) := by unfold healX; rw [h8]; rfl
  unfold lookX
  rw [if_neg (by rw [h1]; decide), if_neg (by rw [h2]; decide), if_neg (by rw [h3]; decide), if_neg hb, h4, h5, if_pos rfl, if_neg (show ¬ false = true by decide), gh, if_neg (show ¬ (0 : Int) ≠ 0 by decide)]
theorem look_lost (hb : b ≠ -1) (h4 : rdG d m a b s a = (y, false)) (h5 : rdG d m a b s b = (x, false)) : lookX d m a b s = (((2, 2, 0), 2), d, m) := by
  unfold lookX
  rw [if_neg (by rw [h1]; decide), if_neg (by rw [h2]; decide), if_neg (by rw [h3]; decide), if_neg hb, h4, h5, if_neg (show ¬ false = true by decide), if_pos (show false = false from rfl)]
theorem look_one (hb : b = -1) (h4 : rdG d m a b s a = (y, true)) : lookX d m a b s = (((1, 0, 0), 0), d, m) := by
  unfold lookX
  rw [if_neg (by rw [h1]; decide), if_neg (by rw [h2]; decide), if_neg (by rw [h3]; decide), if_pos hb, h4, if_pos rfl]
theorem look_one_lost (hb : b = -1) (h4 : rdG d m a b s a = (y, false)) : lookX d m a b s = (((1, 1, 0), 2), d, m) := by
  unfold lookX
  rw [if_neg (by rw [h1]; decide), if_neg (by rw [h2]; decide), if_neg (by rw [h3]; decide), if_pos hb, h4, if_neg (show ¬ false = true by decide)]
end
/-- what a hit makes of a sector of bl -/
def HitZ (bl : List UInt8) (z : Sec) : Prop := (∃ x : List UInt8, x.length = 128 ∧ z = ⟨x, false, false⟩) ∨ z = ⟨bl, true, false⟩ ∨ z = ⟨bl, false, true⟩
/-- what the play shows: what is got, looked at, and read behind a flush -/
def Play (T bl : List UInt8) (q : Int) (z : Sec) : Prop := ∃ (n k : Int) (D8 D9 : Dk), getX (G7 T bl q z) MA 3 25 (sumOf bl) = ((bl, n, 0), D8, MA) ∧ lookX D8 MA 3 25 (sumOf bl) = (((2, k, k), 0), D9, MA) ∧ flushE D9 = 0 ∧ rdX (flushD D9) MA 3 = (bl, 0) ∧ rdX (flushD D9) MA 25 = (bl, 0) ∧ D8.C.length ≤ 900
theorem again (T bl : List UInt8) (q : Int) (hq : q = 3 ∨ q = 25) (z : Sec) (hz : HitZ bl z) (hs : z.data ≠ bl → sumOf z.data ≠ sumOf bl) : Play T bl q z := by
  have hh := g_hole (sumOf bl)
  have h25 : (25 : Int) ≠ -1 := by decide
  rcases hq with rfl | rfl
  · rcases hz with ⟨x, -, rfl⟩ | rfl | rfl
    · by_cases hx : x = bl
      · subst hx
        have ga := rdG_yes hh (g_rd3 T x x false) rfl
        have gb := rdG_yes hh (g_ro3 T x x false false) rfl
        exact ⟨0, 0, _, _, get_yes (g_home3 ..) hh (g_up3 ..) ga, look_yes (g_home3 ..) hh (g_up3 ..) h25 ga gb, g_fl3 .., i_rd3 .., i_ro3 .., by rw [g_c3]; decide⟩
      · have ga := rdG_no hh (g_rd3 T bl x false) (.inr (hs hx))
        have gb := rdG_yes hh (g_ro3 T bl x false false) rfl
        have ha := rdG_yes hh (h_rd3 T bl x false) rfl
        have hb := rdG_yes hh (h_ro3 T bl x false) rfl
        exact ⟨1, 0, _, _, get_heal (g_home3 ..) hh (g_up3 ..) ga gb (g_wr3 ..) h25, look_yes (h_home3 ..) hh (h_up3 ..) h25 ha hb, h_fl3 .., j_rd3 .., j_ro3 .., by rw [h_c3]; decide⟩
    · have ga := rdG_no hh (g_rn3 T bl bl false) (.inl (by decide))
      have gb := rdG_yes hh (g_ro3 T bl bl true false) rfl
      have ha := rdG_yes hh (h_rd3 T bl bl true) rfl
      have hb := rdG_yes hh (h_ro3 T bl bl true) rfl
      exact ⟨1, 0, _, _, get_heal (g_home3 ..) hh (g_up3 ..) ga gb (g_wr3 ..) h25, look_yes (h_home3 ..) hh (h_up3 ..) h25 ha hb, h_fl3 .., j_rd3 .., j_ro3 .., by rw [h_c3]; decide⟩
    · have ga := rdG_yes hh (g_rd3 T bl bl true) rfl
      have gb := rdG_yes hh (g_ro3 T bl bl false true) rfl
      exact ⟨0, 0, _, _, get_yes (g_home3 ..) hh (g_up3 ..) ga, look_yes (g_home3 ..) hh (g_up3 ..) h25 ga gb, g_fl3 .., i_rd3 .., i_ro3 .., by rw [g_c3]; decide⟩
  · rcases hz with ⟨x, -, rfl⟩ | rfl | rfl
    · have ga := rdG_yes hh (g_ro25 T bl x false false) rfl
      by_cases hx : x = bl
      · subst hx
        have gb := rdG_yes hh (g_rd25 T x x false) rfl
        exact ⟨0, 0, _, _, get_yes (g_home25 ..) hh (g_up25 ..) ga, look_yes (g_home25 ..) hh (g_up25 ..) h25 ga gb, g_fl25 .., i_ro25 .., i_rd25 .., by rw [g_c25]; decide⟩
      · have gb := rdG_no hh (g_rd25 T bl x false) (.inr (hs hx))
        exact ⟨0, 1, _, _, get_yes (g_home25 ..) hh (g_up25 ..) ga, look_b (g_home25 ..) hh (g_up25 ..) h25 ga gb (g_wr25 ..), h_fl25 .., j_ro25 .., j_rd25 .., by rw [g_c25]; decide⟩
    · have ga := rdG_yes hh (g_ro25 T bl bl true false) rfl
      have gb := rdG_no hh (g_rn25 T bl bl false) (.inl (by decide))
      exact ⟨0, 1, _, _, get_yes (g_home25 ..) hh (g_up25 ..) ga, look_b (g_home25 ..) hh (g_up25 ..) h25 ga gb (g_wr25 ..), h_fl25 .., j_ro25 .., j_rd25 .., by rw [g_c25]; decide⟩
    · have ga := rdG_yes hh (g_ro25 T bl bl false true) rfl
      have gb := rdG_yes hh (g_rd25 T bl bl true) rfl
      exact ⟨0, 0, _, _, get_yes (g_home25 ..) hh (g_up25 ..) ga, look_yes (g_home25 ..) hh (g_up25 ..) h25 ga gb, g_fl25 .., i_ro25 .., i_rd25 .., by rw [g_c25]; decide⟩

end Go.Proofs.YtmkmpfnadcmcoaaDoor.DitAgainP
namespace Go.Proofs.YtmkmpfnadcmcoaaDoor.DitLostP
open Go Go.RowKit Go.Proofs.YtmkmpfnadcmcoaaDoor.K Go.Proofs.YtmkmpfnadcmcoaaDoor.EqKit Go.Proofs.YtmkmpfnadcmcoaaDoor.ArrKit Go.Proofs.YtmkmpfnadcmcoaaDoor.HeldKit Go.Proofs.YtmkmpfnadcmcoaaDoor.GKit Go.Proofs.YtmkmpfnadcmcoaaDoor.GRow Go.Proofs.YtmkmpfnadcmcoaaDoor.DiskKit Go.Proofs.YtmkmpfnadcmcoaaDoor.RmKit Go.Proofs.YtmkmpfnadcmcoaaDoor.MapKit Go.Proofs.YtmkmpfnadcmcoaaDoor.ShaStep Go.Proofs.YtmkmpfnadcmcoaaDoor.ShaRef Go.Proofs.YtmkmpfnadcmcoaaDoor.ShaPad Go.Proofs.YtmkmpfnadcmcoaaDoor.ShaSum Go.Proofs.YtmkmpfnadcmcoaaDoor.ShaRSum Go.Proofs.YtmkmpfnadcmcoaaDoor.RmRight Go.Proofs.YtmkmpfnadcmcoaaDoor.RmTab Go.Proofs.YtmkmpfnadcmcoaaDoor.RmPut Go.Proofs.YtmkmpfnadcmcoaaDoor.RmAsk Go.Proofs.YtmkmpfnadcmcoaaDoor.RmSame Go.Proofs.YtmkmpfnadcmcoaaDoor.DiskRRead Go.Proofs.YtmkmpfnadcmcoaaDoor.RmRead Go.Proofs.YtmkmpfnadcmcoaaDoor.RmReads Go.Proofs.YtmkmpfnadcmcoaaDoor.DiskAct Go.Proofs.YtmkmpfnadcmcoaaDoor.RmSpare Go.Proofs.YtmkmpfnadcmcoaaDoor.RmKeep Go.Proofs.YtmkmpfnadcmcoaaDoor.RmFirst Go.Proofs.YtmkmpfnadcmcoaaDoor.RmFormat Go.Proofs.YtmkmpfnadcmcoaaDoor.DiskNew Go.Proofs.YtmkmpfnadcmcoaaDoor.DiskHit Go.Proofs.YtmkmpfnadcmcoaaDoor.DiskLay Go.Proofs.YtmkmpfnadcmcoaaDoor.RmAliveP Go.Proofs.YtmkmpfnadcmcoaaDoor.RmWrX Go.Proofs.YtmkmpfnadcmcoaaDoor.RmPair Go.Proofs.YtmkmpfnadcmcoaaDoor.DitKit Go.Proofs.YtmkmpfnadcmcoaaDoor.DitAliveP Go.Proofs.YtmkmpfnadcmcoaaDoor.DitLook Go.Proofs.YtmkmpfnadcmcoaaDoor.DitAgainP
/-- where a sector stands -/
theorem PS.sec {w : World} {p r : Nat} {d : Dk} {m : Rm} (h : PS w p r d m) (k : Nat) (hk : k < d.S.length) : ∃ sb so sc, w.cell? ⟨p, 0, none⟩ = some (.slice (some ⟨sb, so, none⟩) d.S.length sc) ∧ d.S.length ≤ sc ∧ w.rangeAt sb (so + k * 130) (d.S[k].data.map B) := by
  obtain ⟨⟨sa, sc, ca, cc, h1⟩, -⟩ := h
  obtain ⟨b, o, rfl, -, hat⟩ := RdG.form h1.v.rs (Nat.lt_of_le_of_lt (Nat.zero_le k) hk) Sec.pos
  refine ⟨b, o, sc, Bk.cell h1.blk 0, h1.v.sn, fun j v hj => hat k hk j v ?_⟩
  rw [Sec.cells, List.getElem?_append_left (by have := (List.getElem?_eq_some_iff.1 hj).1; exact this)]
  exact hj
/-- a disk with a block in sector 3 alone -/
def K6 (T bl : List UInt8) : Dk := flushD (G4 T bl)
def setS (d : Dk) (q : Nat) (z : Sec) : Dk := { d with S := d.S.set q z }
def two (d : Dk) (x y : List UInt8) : Dk := setS (setS d 3 ⟨x, false, false⟩) 25 ⟨y, false, false⟩
theorem two_S (d : Dk) (x y : List UInt8) (h : d.S.length = 60) : (two d x y).S.length = 60 ∧ (∀ h, (two d x y).S[3]'h = ⟨x, false, false⟩) ∧ (∀ h, (two d x y).S[25]'h = ⟨y, false, false⟩) := by
  have e : (two d x y).S = (d.S.set 3 ⟨x, false, false⟩).set 25 ⟨y, false, false⟩ := rfl
  refine ⟨by rw [e, List.length_set, List.length_set, h], fun h3 => ?_, fun h3 => ?_⟩
  · have : (two d x y).S[3]? = some ⟨x, false, false⟩ := by
      rw [e, List.getElem?_set_ne (by decide), List.getElem?_set_self (by omega)]
    rw [List.getElem?_eq_getElem h3] at this
    exact Option.some.inj this
  · have : (two d x y).S[25]? = some ⟨y, false, false⟩ := by
      rw [e, List.getElem?_set_self (by rw [List.length_set]; omega)]
    rw [List.getElem?_eq_getElem h3] at this
    exact Option.some.inj this
theorem setS_ok {d : Dk} (h : d.ok) (q : Nat) (x : List UInt8) (hx : x.length = 128) : (setS d q ⟨x, false, false⟩).ok := ⟨fun s hs => by
  rcases List.mem_or_eq_of_mem_set hs with h2 | rfl
  · exact h.s s h2
  · exact hx, h.c, h.f⟩
section
variable (T bl x y s : List UInt8)
theorem k_f4 : flushE (G4 T bl) = 0 := by kernel_rfl
theorem k_s3 : secAt (K6 T bl) 3 = ⟨bl, false, false⟩ := by kernel_rfl
theorem k_s25 : ∀ z, secAt (setS (K6 T bl) 3 z) 25 = ⟨Z128, false, false⟩ := by intro z; kernel_rfl
theorem l_s25 : ∀ z, secAt (setS (G6 T bl) 3 z) 25 = ⟨bl, false, false⟩ := by intro z; kernel_rfl
theorem k_r3 : rightB (K6 T bl) 3 = true := by kernel_rfl
theorem k_r25 : ∀ z, rightB (setS (K6 T bl) 3 z) 25 = true := by intro z; kernel_rfl
theorem l_r25 : ∀ z, rightB (setS (G6 T bl) 3 z) 25 = true := by intro z; kernel_rfl
theorem k_len : (K6 T bl).S.length = 60 := by kernel_rfl
theorem k_hole : PtrAsk.isH 3 (-1) s = false := by kernel_rfl
theorem k_home0 : homeB (F3 T) MA 3 (-1) s = true := by kernel_rfl
theorem k_home : homeB (two (K6 T bl) x y) MA 3 (-1) s = true := by kernel_rfl
theorem k_up : (two (K6 T bl) x y).down = false := by kernel_rfl
theorem k_rd : rdX (two (K6 T bl) x y) MA 3 = (x, 0) := by kernel_rfl
theorem k_c : (two (K6 T bl) x y).C.length = 0 := by kernel_rfl
theorem l_home : homeB (two (G6 T bl) x y) MA 3 25 s = true := by kernel_rfl
theorem l_up : (two (G6 T bl) x y).down = false := by kernel_rfl
theorem l_rd3 : rdX (two (G6 T bl) x y) MA 3 = (x, 0) := by kernel_rfl
theorem l_rd25 : rdX (two (G6 T bl) x y) MA 25 = (y, 0) := by kernel_rfl
theorem l_c : (two (G6 T bl) x y).C.length = 0 := by kernel_rfl
def L8 (T bl x y : List UInt8) (q : Int) : Dk := writeD (two (G6 T bl) x y) q bl
theorem l_wr3 : wrX (two (G6 T bl) x y) MA 3 bl = (0, L8 T bl x y 3, MA) := by kernel_rfl
theorem l_wr25 : wrX (two (G6 T bl) x y) MA 25 bl = (0, L8 T bl x y 25, MA) := by kernel_rfl
theorem m_home : homeB (L8 T bl x y 3) MA 3 25 s = true := by kernel_rfl
theorem m_up : (L8 T bl x y 3).down = false := by kernel_rfl
theorem m_rd3 : rdX (L8 T bl x y 3) MA 3 = (bl, 0) := by kernel_rfl
theorem m_rd25 : rdX (L8 T bl x y 3) MA 25 = (y, 0) := by kernel_rfl
theorem m_c : (L8 T bl x y 3).C.length = 1 := by kernel_rfl
end
theorem xor_zero {u v : UInt8} (h : u ^^^ v = u) : v = 0 := by
  have h2 : u ^^^ (u ^^^ v) = u ^^^ u := by rw [h]
  simpa [← UInt8.xor_assoc] using h2
theorem set_same {bl : List UInt8} {i : Nat} (hi : i < bl.length) (v : UInt8) : bl.set i (bl.getD i 0 ^^^ v) = bl ↔ v = 0 := by
  have hg : bl.getD i 0 = bl[i] := by rw [List.getD_eq_getElem?_getD, List.getElem?_eq_getElem hi]; rfl
  constructor
  · intro h
    have h2 : (bl.set i (bl.getD i 0 ^^^ v))[i]? = bl[i]? := by rw [h]
    rw [List.getElem?_set_self hi, List.getElem?_eq_getElem hi, hg] at h2
    exact xor_zero (Option.some.inj h2)
  · intro h
    subst h
    rw [hg]
    simp
/-- what the play shows of a block that is lost, or not -/
def Lost (d : Dk) (c : Int) (bl : List UInt8) (bad : Bool) : Prop := ∃ (gb : List UInt8) (n ge rx ry rz he : Int) (D8 D9 : Dk), getX d MA 3 c (sumOf bl) = ((gb, n, ge), D8, MA) ∧ lookX D8 MA 3 c (sumOf bl) = (((rx, ry, rz), he), D9, MA) ∧ D8.C.length ≤ 900 ∧ (bad = true → ge = 2 ∧ he = 2 ∧ gb = Z128) ∧ (bad = false → ge = 0 ∧ he = 0 ∧ gb = bl)
theorem lost_one (T bl x y : List UInt8) (hx : x ≠ bl → sumOf x ≠ sumOf bl) (bad : Bool) (hb : bad = true ↔ x ≠ bl) : Lost (two (K6 T bl) x y) (-1) bl bad := by
  have hh := k_hole (sumOf bl)
  by_cases e : x = bl
  · have eb : bad = false := by cases bad; rfl; exact absurd e (hb.1 rfl)
    subst e
    have ga := rdG_yes hh (k_rd T x x y) rfl
    exact ⟨x, 0, 0, _, _, _, 0, _, _, get_yes (k_home ..) hh (k_up ..) ga, look_one (k_home ..) hh (k_up ..) rfl ga, by rw [k_c]; decide, fun h => by rw [eb] at h; (cases h), fun _ => ⟨rfl, rfl, rfl⟩⟩
  · have eb : bad = true := hb.2 e
    have ga := rdG_no hh (k_rd T bl x y) (.inr (hx e))
    exact ⟨Z128, 0, 2, _, _, _, 2, _, _, get_lost (y := []) (k_home ..) hh (k_up ..) ga (.inl rfl), look_one_lost (k_home ..) hh (k_up ..) rfl ga, by rw [k_c]; decide, fun _ => ⟨rfl, rfl, rfl⟩, fun h => by rw [eb] at h; (cases h)⟩
theorem lost_two (T bl x y : List UInt8) (hx : x ≠ bl → sumOf x ≠ sumOf bl) (hy : y ≠ bl → sumOf y ≠ sumOf bl) (bad : Bool) (hb : bad = true ↔ x ≠ bl ∧ y ≠ bl) : Lost (two (G6 T bl) x y) 25 bl bad := by
  have hh := g_hole (sumOf bl)
  have h25 : (25 : Int) ≠ -1 := by decide
  by_cases e : x = bl
  · have eb : bad = false := by cases bad; rfl; exact absurd e (hb.1 rfl).1
    subst e
    have ga := rdG_yes hh (l_rd3 T x x y) rfl
    by_cases e2 : y = x
    · subst e2
      have gb := rdG_yes hh (l_rd25 T y y y) rfl
      exact ⟨y, 0, 0, _, _, _, 0, _, _, get_yes (l_home ..) hh (l_up ..) ga, look_yes (l_home ..) hh (l_up ..) h25 ga gb, by rw [l_c]; decide, fun h => by rw [eb] at h; (cases h), fun _ => ⟨rfl, rfl, rfl⟩⟩
    · have gb := rdG_no hh (l_rd25 T x x y) (.inr (hy e2))
      exact ⟨x, 0, 0, _, _, _, 0, _, _, get_yes (l_home ..) hh (l_up ..) ga, look_b (l_home ..) hh (l_up ..) h25 ga gb (l_wr25 ..), by rw [l_c]; decide, fun h => by rw [eb] at h; (cases h), fun _ => ⟨rfl, rfl, rfl⟩⟩
  · have ga := rdG_no hh (l_rd3 T bl x y) (.inr (hx e))
    by_cases e2 : y = bl
    · have eb : bad = false := by cases bad; rfl; exact absurd e2 (hb.1 rfl).2
      subst e2
      have gb := rdG_yes hh (l_rd25 T y x y) rfl
      have ha := rdG_yes hh (m_rd3 T y x y) rfl
      have hb2 := rdG_yes hh (m_rd25 T y x y) rfl
      exact ⟨y, 1, 0, _, _, _, 0, _, _, get_heal (l_home ..) hh (l_up ..) ga gb (l_wr3 ..) h25, look_yes (m_home ..) hh (m_up ..) h25 ha hb2, by rw [m_c]; decide, fun h => by rw [eb] at h; (cases h), fun _ => ⟨rfl, rfl, rfl⟩⟩
    · have eb : bad = true := hb.2 ⟨e, e2⟩
      have gb := rdG_no hh (l_rd25 T bl x y) (.inr (hy e2))
      exact ⟨Z128, 0, 2, _, _, _, 2, _, _, get_lost (l_home ..) hh (l_up ..) ga (.inr gb), look_lost (l_home ..) hh (l_up ..) h25 ga gb, by rw [l_c]; decide, fun _ => ⟨rfl, rfl, rfl⟩, fun h => by rw [eb] at h; (cases h)⟩

end Go.Proofs.YtmkmpfnadcmcoaaDoor.DitLostP
namespace Go.Proofs.YtmkmpfnadcmcoaaDoor.DitFresh
open Go Go.RowKit Go.Proofs.YtmkmpfnadcmcoaaDoor.K Go.Proofs.YtmkmpfnadcmcoaaDoor.EqKit Go.Proofs.YtmkmpfnadcmcoaaDoor.ArrKit Go.Proofs.YtmkmpfnadcmcoaaDoor.HeldKit Go.Proofs.YtmkmpfnadcmcoaaDoor.GKit Go.Proofs.YtmkmpfnadcmcoaaDoor.GRow Go.Proofs.YtmkmpfnadcmcoaaDoor.DiskKit Go.Proofs.YtmkmpfnadcmcoaaDoor.RmKit Go.Proofs.YtmkmpfnadcmcoaaDoor.MapKit Go.Proofs.YtmkmpfnadcmcoaaDoor.ShaStep Go.Proofs.YtmkmpfnadcmcoaaDoor.ShaRef Go.Proofs.YtmkmpfnadcmcoaaDoor.ShaPad Go.Proofs.YtmkmpfnadcmcoaaDoor.ShaSum Go.Proofs.YtmkmpfnadcmcoaaDoor.ShaRSum Go.Proofs.YtmkmpfnadcmcoaaDoor.RmRight Go.Proofs.YtmkmpfnadcmcoaaDoor.RmTab Go.Proofs.YtmkmpfnadcmcoaaDoor.RmPut Go.Proofs.YtmkmpfnadcmcoaaDoor.RmAsk Go.Proofs.YtmkmpfnadcmcoaaDoor.RmSame Go.Proofs.YtmkmpfnadcmcoaaDoor.DiskRRead Go.Proofs.YtmkmpfnadcmcoaaDoor.RmRead Go.Proofs.YtmkmpfnadcmcoaaDoor.RmReads Go.Proofs.YtmkmpfnadcmcoaaDoor.DiskAct Go.Proofs.YtmkmpfnadcmcoaaDoor.RmSpare Go.Proofs.YtmkmpfnadcmcoaaDoor.RmKeep Go.Proofs.YtmkmpfnadcmcoaaDoor.RmFirst Go.Proofs.YtmkmpfnadcmcoaaDoor.RmFormat Go.Proofs.YtmkmpfnadcmcoaaDoor.DiskNew Go.Proofs.YtmkmpfnadcmcoaaDoor.DiskHit Go.Proofs.YtmkmpfnadcmcoaaDoor.DiskLay Go.Proofs.YtmkmpfnadcmcoaaDoor.RmAliveP Go.Proofs.YtmkmpfnadcmcoaaDoor.RmWrX Go.Proofs.YtmkmpfnadcmcoaaDoor.RmPair Go.Proofs.YtmkmpfnadcmcoaaDoor.DitKit Go.Proofs.YtmkmpfnadcmcoaaDoor.DitAliveP
theorem results_cct {P : Program} {fn : Func} {p q u : Tmp} {ty ty' : TypeId} (h : fn.results = #[.cell p ty, .cell q ty', .tmp u]) (tmps : Array Value) (w : World) (g g' : Nat) (t t' : TypeId) (cs cs' : Array Value) (d d' : TypeDesc)
    (hp : tmps.getD p undef = .pointer (some ⟨g, 0, none⟩)) (hq : tmps.getD q undef = .pointer (some ⟨g', 0, none⟩)) (hg : w.heap[g]? = some (.cells cs t (0, 0))) (hg' : w.heap[g']? = some (.cells cs' t' (0, 0)))
    (hu : P.underlying ty = some d) (hd : (match d with | .struct _ | .array _ _ => true | _ => false) = true) (hi : (P.info? ty).map (·.size) = some cs.size)
    (hu' : P.underlying ty' = some d') (hd' : (match d' with | .struct _ | .array _ _ => true | _ => false) = true) (hi' : (P.info? ty').map (·.size) = some cs'.size) :
    (results fn tmps).run P w = .ok (.tuple #[.agg cs, .agg cs', tmps.getD u undef]) w := by
  have hp' : tmps[p]?.getD undef = .pointer (some ⟨g, 0, none⟩) := by simpa using hp
  have hq' : tmps[q]?.getD undef = .pointer (some ⟨g', 0, none⟩) := by simpa using hq
  simp [results, h, hp', hq', asAddr, run_loadVar_row w g t ty cs (0, 0) d hg hu hd hi, run_loadVar_row w g' t' ty' cs' (0, 0) d' hg' hu' hd' hi']
theorem fin_cct {P : Program} {fn : Func} {R : Ending → World → Prop} {a : Act} {w : World} {p q u : Tmp} {ty ty' : TypeId} (g g' : Nat) (t t' : TypeId) (cs cs' : Array Value) (x : Value) {d d' : TypeDesc}
    (h : fn.results = #[.cell p ty, .cell q ty', .tmp u]) (hp : a.tmps.getD p undef = .pointer (some ⟨g, 0, none⟩)) (hq : a.tmps.getD q undef = .pointer (some ⟨g', 0, none⟩)) (hx : a.tmps.getD u undef = x) (hds : a.defers = [])
    (hu : P.underlying ty = some d) (hd : (match d with | .struct _ | .array _ _ => true | _ => false) = true) (hi : (P.info? ty).map (·.size) = some cs.size)
    (hu' : P.underlying ty' = some d') (hd' : (match d' with | .struct _ | .array _ _ => true | _ => false) = true) (hi' : (P.info? ty').map (·.size) = some cs'.size)
    (hg : w.heap[g]? = some (.cells cs t (0, 0))) (hg' : w.heap[g']? = some (.cells cs' t' (0, 0))) (hR : R (.returned (.tuple #[.agg cs, .agg cs', x])) w) : bodyPost P fn R .ret a w := by
  subst hx
  exact bodyPost_ret (results_cct h _ _ g g' t t' cs cs' d d' hp hq hg hg' hu hd hi hu' hd' hi') hds hR
theorem f_ok (T : List UInt8) (hT : T.length = 128) : F0.ok ∧ (F3 T).ok ∧ (F4 T).ok ∧ (F5 T).ok ∧ (F6 T).ok ∧ (F7 T).ok ∧ (F8 T).ok := by
  have h0 : F0.ok := newD_ok 60
  have h1 : (F1 T).ok := writeD_ok (q := 0) h0 hT (by decide)
  have h2 : (F2 T).ok := writeD_ok (q := 20) h1 hT (by decide)
  have h3 : (F3 T).ok := flushD_ok h2
  have h4 : (F4 T).ok := writeD_ok (q := 3) h3 B7_len (by decide)
  have h5 : (F5 T).ok := writeD_ok (q := 25) h4 B7_len (by decide)
  have h6 : (F6 T).ok := flushD_ok h5
  have h7 : (F7 T).ok := hitD_ok h6 3 1 0 1
  exact ⟨h0, h3, h4, h5, h6, h7, writeD_ok (q := 3) h7 B7_len (by decide)⟩
set_option maxHeartbeats 2000000 in
set_option maxRecDepth 100000 in
theorem fresh_calls (w : World) (hsh : Sh w) : Calls Tryd.prog 6 #[] w fun e w' => ∃ sa sc ca cc, e = .returned (.tuple #[.agg (dval (F3 (tabL MA)) sa sc ca cc), .agg RZ, .bool true]) ∧ DV w' (F3 (tabL MA)) sa sc ca cc ∧ Fr0 w w' := by
  have HSH := Lib.hid hsh
  clear hsh
  have hzd : ∀ W, (zeroValue 29).run Tryd.prog W = .ok (.agg DZ) W := by intro W; kernel_rfl
  have hzr := zero_r
  have hT := tabL_len MA (by decide)
  obtain ⟨o0, o3, -⟩ := f_ok (tabL MA) hT
  have HNE : Hid (∀ W, Calls Tryd.prog 14 #[.int .i64 60] W fun e w' => ∃ sa sc ca cc, e = .returned (.tuple #[.agg (dval F0 sa sc ca cc), .int .i64 0]) ∧ DV w' F0 sa sc ca cc ∧ Fr0 W w') := Lib.hid (fun W => DiskNew.new_calls 60 W)
  have HFO : Hid (∀ p sa sc ca cc W, Fr0 w W → DAt W p F0 sa sc ca cc → Calls Tryd.prog 15 #[.pointer (some ⟨p, 0, none⟩)] W fun e w' => e = .returned (.tuple #[.agg RZ, .int .i64 0]) ∧ DIn w' p (F3 (tabL MA)) ∧ Fr (fun i => i = p) W w') := Lib.hid (fun p sa sc ca cc W f h => RmFormat.format_calls p F0 sa sc ca cc 20 W o0 h (HSH.out.keep0 f) (by rw [f_c0]; omega) f_h (by decide) (by decide) (by rw [f_s0]; decide) f_w0 (f_w1 _) (f_f2 _) o3)
  have HID : Hid (∀ d a b c e, (Tryd.prog.info? 29).map (·.size) = some (dval d a b c e).size) := Lib.hid (fun _ _ _ _ _ => info_d)
  have HDO : Hid (∀ d a b c e, (dval d a b c e).all (·.oneCell') = true) := Lib.hid (fun _ _ _ _ _ => dval_one _ _ _ _ _)
  have HIR : Hid ((Tryd.prog.info? 32).map (·.size) = some RZ.size) := Lib.hid (info_r _ _)
  have HX2 : Hid (Bk ((w.alloc (.cells DZ 29)).alloc (.cells RZ 32)) w.heap.size DZ 29) := Lib.hid (Bk.alloc (Bk.new w _) _)
  have HY2 : Hid (Bk ((w.alloc (.cells DZ 29)).alloc (.cells RZ 32)) (w.heap.size + 1) RZ 32) := Lib.hid (by have := Bk.new (w.alloc (.cells DZ 29)) (.cells RZ 32); rwa [show (w.alloc (.cells DZ 29)).heap.size = w.heap.size + 1 by simp] at this)
  have HF2 : Hid (Fr0 w ((w.alloc (.cells DZ 29)).alloc (.cells RZ 32))) := Lib.hid (Fr.alloc (Fr.alloc (Fr.refl _ _) _) _)
  have HOK3 := Lib.hid o3
  clear o0 o3 hT
  generalize F3 (tabL MA) = dB at *
  go_enter Tryd.func6, Tryd.ntmps6
  go_wp2_with (first | (go_at_call 14; (with_reducible refine (HNE.out _).mono ?_); rintro e w3 ⟨sa, sc, ca, cc, rfl, hv3, hf3⟩; have HZ3 := Lib.hid (Bk.new w3 (.cells DZ 29)); have hfr : Fr0 w3 ((w3.alloc (.cells DZ 29)).setRow w3.heap.size (dval F0 sa sc ca cc)) := ArrKit.Fr.row (Fr.alloc (Fr.refl _ _) _) _ _ (.inl (Nat.le_refl _)); have hfx := hf3.then0 hfr; have HX4 := Lib.hid (Fr.keep hfx HX2.out (fun h => h)); have HY4 := Lib.hid (Fr.keep hfx HY2.out (fun h => h)); have HF4 := Lib.hid (HF2.out.then0 hfx); have HA4 : Hid (DAt ((w3.alloc (.cells DZ 29)).setRow w3.heap.size (dval F0 sa sc ca cc)) w3.heap.size F0 sa sc ca cc) := Lib.hid ⟨ArrKit.Bk.row HZ3.out _, hv3.keep hfr⟩; have HG3 : Hid ((w.heap.size + 1) < w3.heap.size) := Lib.hid (Bk.lt (Fr.keep hf3 HY2.out (fun h => h))); clear hv3 hf3 hfr hfx) | ((with_reducible show wpList _ _ _ ({ dst := _, op := Op.store 29 _ _, type := _, pos := _, after := _, guard := _ } :: _) _ _); refine wpList_store_row rfl 29 _ _ rfl w3.heap.size (dval F0 sa sc ca cc) rfl rfl 29 DZ HZ3.out (HID.out _ _ _ _ _) rfl (HDO.out _ _ _ _ _) ?_) | (go_at_call 15; (with_reducible refine (HFO.out _ _ _ _ _ _ HF4.out HA4.out).mono ?_); rintro e w5 ⟨rfl, ⟨s5, n5, c5, m5, hv5⟩, hf5⟩; have hg3 := HG3.out; have HZ5 := Lib.hid (Bk.new w5 (.cells RZ 32)); have hfr : Fr0 w5 ((w5.alloc (.cells RZ 32)).setRow w5.heap.size RZ) := ArrKit.Fr.row (Fr.alloc (Fr.refl _ _) _) _ _ (.inl (Nat.le_refl _)); have HX6 := Lib.hid (Fr.keep hfr (Fr.keep hf5 HX4.out (by omega)) (fun h => h)); have HY6 := Lib.hid (Fr.keep hfr (Fr.keep hf5 HY4.out (by omega)) (fun h => h)); have HF6 : Hid (Fr0 w ((w5.alloc (.cells RZ 32)).setRow w5.heap.size RZ)) := Lib.hid ((HF4.out.then hf5 (fun i hi e => by omega)).then0 hfr); have HA6 := Lib.hid (hv5.keep hfr); have HM6 : Hid (Bk ((w5.alloc (.cells RZ 32)).setRow w5.heap.size RZ) w5.heap.size RZ 32) := Lib.hid (ArrKit.Bk.row HZ5.out _); have HG5 : Hid (w3.heap.size < w5.heap.size) := Lib.hid (Bk.lt hv5.blk); clear hv5 hf5 hfr) | ((with_reducible show wpList _ _ _ ({ dst := _, op := Op.store 32 _ _, type := _, pos := _, after := _, guard := _ } :: _) _ _); refine wpList_store_row rfl 32 _ _ rfl w5.heap.size RZ rfl rfl 32 RZ HZ5.out HIR.out rfl (RC_all _ _ _ _) ?_))
  refine wp_region_noPanic ?_
  refine wp_region_held_drew (S := (fun W : World => Bk W w3.heap.size (dval dB s5 n5 c5 m5) 29 ∧ Bk W w5.heap.size RZ 32 ∧ Fr0 w W)) (by kernel_rfl) (⟨Fr.keep (Fr.drew (Fr.refl (fun _ => False) _)) HA6.out.blk (fun h => h), Fr.keep (Fr.drew (Fr.refl (fun _ => False) _)) HM6.out (fun h => h), Fr.drew HF6.out⟩) (fun hHeld0 => ?_)
  have HX7 : Hid (Bk ((w5.alloc (.cells RZ 32)).setRow w5.heap.size RZ).drew w.heap.size DZ 29) := Lib.hid (Fr.keep (Fr.drew (Fr.refl (fun _ => False) _)) HX6.out (fun h => h))
  have HY7 : Hid (Bk ((w5.alloc (.cells RZ 32)).setRow w5.heap.size RZ).drew (w.heap.size + 1) RZ 32) := Lib.hid (Fr.keep (Fr.drew (Fr.refl (fun _ => False) _)) HY6.out (fun h => h))
  have HD7 : Hid (DV ((w5.alloc (.cells RZ 32)).setRow w5.heap.size RZ).drew dB s5 n5 c5 m5) := Lib.hid (DV.keep HA6.out.v (Fr.drew (Fr.refl (fun _ => False) _)))
  generalize ((w5.alloc (.cells RZ 32)).setRow w5.heap.size RZ).drew = wd at *
  refine tk (i := 0) (v := .agg (dval dB s5 n5 c5 m5)) rfl (yields_row (by kernel_rfl) 29 _ rfl (w3.heap.size) rfl 29 (dval dB s5 n5 c5 m5) (0, 0) _ (fun W h => h.1) Tryd.underlying29 rfl (HID.out _ _ _ _ _)) hHeld0 ?_
  simp only [Act.put, zA, zB, zC, zD, zE, zF]
  refine tk (i := 1) (v := .agg RZ) rfl (yields_row (by kernel_rfl) 32 _ rfl (w5.heap.size) rfl 32 RZ (0, 0) _ (fun W h => h.2.1) Tryd.underlying32 rfl HIR.out) hHeld0 ?_
  simp only [Act.put, zA, zB, zC, zD, zE, zF]
  refine tk0 (i := 2) (v := .int .i64 0) rfl hHeld0 ?_
  simp only [Act.put, zA, zB, zC, zD, zE, zF]
  refine tk (i := 3) (v := .bool true) rfl (Or.inl ⟨by kernel_rfl, fun w hSw => by go_simp <;> (first | exact beq_iff_eq.1 (by assumption) | exact beq_eq_false_iff_ne.1 (by assumption) | omega)⟩) hHeld0 ?_
  simp only [Act.put, zA, zB, zC, zD, zE, zF]
  refine tk0 (i := 4) (v := .bool true) rfl hHeld0 ?_
  simp only [Act.put, zA, zB, zC, zD, zE, zF]
  refine tk0 (i := 5) (v := .int .i64 0) rfl hHeld0 ?_
  simp only [Act.put, zA, zB, zC, zD, zE, zF]
  refine tk (i := 6) (v := .bool true) rfl (Or.inl ⟨by kernel_rfl, fun w hSw => by go_simp <;> (first | exact beq_iff_eq.1 (by assumption) | exact beq_eq_false_iff_ne.1 (by assumption) | omega)⟩) hHeld0 ?_
  simp only [Act.put, zA, zB, zC, zD, zE, zF]
  refine tk0 (i := 7) (v := .bool true) rfl hHeld0 ?_
  simp only [Act.put, zA, zB, zC, zD, zE, zF]
  change wpAnyH _ _ _ _ _ 3 #[true, true, true, true, true, true, true, true, false, false, false] _ _
  refine wpAnyH_ready (rs := [8]) (by kernel_rfl) (by simp) ?_
  refine AllReadyH.cons rfl (fun K hK => ?_) AllReadyH.nil
  simp only [zA, zB, zC]
  refine (if_pos (by kernel_rfl)).mpr ?_
  have hg3 := HG3.out
  have hg5 := HG5.out
  refine wp_store_row 29 _ _ rfl w.heap.size (dval dB s5 n5 c5 m5) rfl rfl 29 DZ HX7.out (HID.out _ _ _ _ _) rfl (HDO.out _ _ _ _ _) ?_
  have HX8 : Hid (Bk (wd.setRow w.heap.size (dval dB s5 n5 c5 m5)) w.heap.size (dval dB s5 n5 c5 m5) 29) := Lib.hid (ArrKit.Bk.row HX7.out _)
  have HY8 : Hid (Bk (wd.setRow w.heap.size (dval dB s5 n5 c5 m5)) (w.heap.size + 1) RZ 32) := Lib.hid (ArrKit.Bk.rowOther HY7.out _ (by omega))
  have HD8 : Hid (DV (wd.setRow w.heap.size (dval dB s5 n5 c5 m5)) dB s5 n5 c5 m5) := Lib.hid (DV.past HD7.out HOK3.out (Fr.row1 _ _ _) HX7.out DiskTwins.DZ_no)
  refine hK.out _ _ (⟨ArrKit.Bk.rowOther (hHeld0).1 _ (by omega), ArrKit.Bk.rowOther (hHeld0).2.1 _ (by omega), ArrKit.Fr.row (hHeld0).2.2 _ _ (.inl (by omega))⟩) (fun hHeld1 => ?_)
  clear hK K hHeld0
  generalize (wd.setRow w.heap.size (dval dB s5 n5 c5 m5)) = wA at *
  change wpAnyH _ _ _ _ _ 2 #[true, true, true, true, true, true, true, true, true, false, false] _ _
  refine wpAnyH_ready (rs := [9]) (by kernel_rfl) (by simp) ?_
  refine AllReadyH.cons rfl (fun K hK => ?_) AllReadyH.nil
  simp only [zA, zB, zC]
  refine (if_pos (by kernel_rfl)).mpr ?_
  refine wp_store_row 32 _ _ rfl (w.heap.size + 1) RZ rfl rfl 32 RZ HY8.out HIR.out rfl (RC_all _ _ _ _) ?_
  have HX9 : Hid (Bk (wA.setRow (w.heap.size + 1) RZ) w.heap.size (dval dB s5 n5 c5 m5) 29) := Lib.hid (ArrKit.Bk.rowOther HX8.out _ (by omega))
  have HY9 : Hid (Bk (wA.setRow (w.heap.size + 1) RZ) (w.heap.size + 1) RZ 32) := Lib.hid (ArrKit.Bk.row HY8.out _)
  have HD9 : Hid (DV (wA.setRow (w.heap.size + 1) RZ) dB s5 n5 c5 m5) := Lib.hid (DV_past HD8.out HOK3.out (Fr.row1 _ _ _) HY8.out (rc_no 0 none 0 0))
  refine hK.out _ _ (⟨ArrKit.Bk.rowOther (hHeld1).1 _ (by omega), ArrKit.Bk.rowOther (hHeld1).2.1 _ (by omega), ArrKit.Fr.row (hHeld1).2.2 _ _ (.inl (by omega))⟩) (fun hHeld2 => ?_)
  clear hK K hHeld1
  generalize (wA.setRow (w.heap.size + 1) RZ) = wB at *
  refine tk0 (i := 10) (v := .bool true) rfl hHeld2 ?_
  simp only [Act.put, zA, zB, zC, zD, zE, zF]
  change wpAnyH _ _ _ _ _ 0 #[true, true, true, true, true, true, true, true, true, true, true] _ _
  refine wpAnyH_done (by kernel_rfl) ?_ _
  refine NoPanic.normal ?_
  have HEND := Lib.hid hHeld2
  clear hHeld2
  go_wp2
  refine fin_cct w.heap.size (w.heap.size + 1) 29 32 (dval dB s5 n5 c5 m5) RZ (.bool true) (by rfl) (by rfl) (by rfl) (by rfl) (by rfl) Tryd.underlying29 (by rfl) (HID.out _ _ _ _ _) Tryd.underlying32 (by rfl) HIR.out HX9.out HY9.out ?_
  exact ⟨_, _, _, _, rfl, HD9.out, HEND.out.2.2⟩

end Go.Proofs.YtmkmpfnadcmcoaaDoor.DitFresh
namespace Go.Proofs.YtmkmpfnadcmcoaaDoor.DitAlive
open Go Go.RowKit Go.Proofs.YtmkmpfnadcmcoaaDoor.K Go.Proofs.YtmkmpfnadcmcoaaDoor.EqKit Go.Proofs.YtmkmpfnadcmcoaaDoor.ArrKit Go.Proofs.YtmkmpfnadcmcoaaDoor.HeldKit Go.Proofs.YtmkmpfnadcmcoaaDoor.GKit Go.Proofs.YtmkmpfnadcmcoaaDoor.GRow Go.Proofs.YtmkmpfnadcmcoaaDoor.DiskKit Go.Proofs.YtmkmpfnadcmcoaaDoor.RmKit Go.Proofs.YtmkmpfnadcmcoaaDoor.MapKit Go.Proofs.YtmkmpfnadcmcoaaDoor.ShaStep Go.Proofs.YtmkmpfnadcmcoaaDoor.ShaRef Go.Proofs.YtmkmpfnadcmcoaaDoor.ShaPad Go.Proofs.YtmkmpfnadcmcoaaDoor.ShaSum Go.Proofs.YtmkmpfnadcmcoaaDoor.ShaRSum Go.Proofs.YtmkmpfnadcmcoaaDoor.RmRight Go.Proofs.YtmkmpfnadcmcoaaDoor.RmTab Go.Proofs.YtmkmpfnadcmcoaaDoor.RmPut Go.Proofs.YtmkmpfnadcmcoaaDoor.RmAsk Go.Proofs.YtmkmpfnadcmcoaaDoor.RmSame Go.Proofs.YtmkmpfnadcmcoaaDoor.DiskRRead Go.Proofs.YtmkmpfnadcmcoaaDoor.RmRead Go.Proofs.YtmkmpfnadcmcoaaDoor.RmReads Go.Proofs.YtmkmpfnadcmcoaaDoor.DiskAct Go.Proofs.YtmkmpfnadcmcoaaDoor.RmSpare Go.Proofs.YtmkmpfnadcmcoaaDoor.RmKeep Go.Proofs.YtmkmpfnadcmcoaaDoor.RmFirst Go.Proofs.YtmkmpfnadcmcoaaDoor.RmFormat Go.Proofs.YtmkmpfnadcmcoaaDoor.DiskNew Go.Proofs.YtmkmpfnadcmcoaaDoor.DiskHit Go.Proofs.YtmkmpfnadcmcoaaDoor.DiskLay Go.Proofs.YtmkmpfnadcmcoaaDoor.RmAliveP Go.Proofs.YtmkmpfnadcmcoaaDoor.RmWrX Go.Proofs.YtmkmpfnadcmcoaaDoor.RmPair Go.Proofs.YtmkmpfnadcmcoaaDoor.PtrKit Go.Proofs.YtmkmpfnadcmcoaaDoor.DitKit Go.Proofs.YtmkmpfnadcmcoaaDoor.DitHome Go.Proofs.YtmkmpfnadcmcoaaDoor.DitGet Go.Proofs.YtmkmpfnadcmcoaaDoor.DitPut Go.Proofs.YtmkmpfnadcmcoaaDoor.DitAliveP Go.Proofs.YtmkmpfnadcmcoaaDoor.DitFresh
theorem f_hit1 (T : List UInt8) : ({ F6 T with S := (F6 T).S.set (3 : Int).toNat (hitS (secAt (F6 T) 3) 1 0 1) } : Dk) = F7 T := by kernel_rfl
theorem built_b7 : Tryd.prog.built 22 [(0, .int .u8 7)] = some (B7.map B).toArray := by kernel_rfl
theorem PS.now {w w1 : World} {p r : Nat} {d d' : Dk} {m : Rm} (h : PS w p r d m) (hn : Now w w1 p d') (hrp : r ≠ p) : PS w1 p r d' m := by
  obtain ⟨⟨sa, sc, ca, cc, h1⟩, a, c, h2, h3⟩ := h
  exact ⟨hn.at_, a, c, hn.fr.keep h2 hrp, RV.past h3 hn.fr h1.blk⟩
set_option maxHeartbeats 2000000 in
set_option maxRecDepth 100000 in
theorem alive_calls (w : World) (hsh : Sh w) : Calls Tryd.prog 5 #[] w fun e w' => e = .returned (.bool true) ∧ Fr0 w w' := by
  have HSH := Lib.hid hsh
  have hT := tabL_len MA (by decide)
  obtain ⟨o0, o3, o4, o5, o6, o7, o8⟩ := f_ok (tabL MA) hT
  have hMA : MA.ok := ⟨by decide, fun x hx => by cases hx⟩
  have HFR : Hid (∀ W, Sh W → Calls Tryd.prog 6 #[] W fun e w' => ∃ sa sc ca cc, e = .returned (.tuple #[.agg (dval (F3 (tabL MA)) sa sc ca cc), .agg RZ, .bool true]) ∧ DV w' (F3 (tabL MA)) sa sc ca cc ∧ Fr0 W w') := Lib.hid (fun W h => fresh_calls W h)
  have HPU : Hid (∀ p r W, r ≠ p → Sh W → PS W p r (F3 (tabL MA)) MA → Calls Tryd.prog 7 #[.pointer (some ⟨p, 0, none⟩), .pointer (some ⟨r, 0, none⟩), .agg (B7.map B).toArray, .int .i64 3, .int .i64 25] W fun e w' => e = .returned (.tuple #[.agg (PC 3 25 (sumOf B7)).toArray, .int .i64 0]) ∧ PS w' p r (F5 (tabL MA)) MA ∧ Fr (fun i => i = p ∨ i = r) W w') := Lib.hid (fun p r W hrp hs h => put_calls p r (F3 (tabL MA)) (F4 (tabL MA)) (F5 (tabL MA)) MA B7 3 25 W o3 hMA rfl h hrp hs B7_len (by decide) (by decide) (by rw [f_c3]; decide) (by kernel_rfl) (f_home _ _) (by decide) (f_p1 _) (.inr ⟨by decide, f_p2 _⟩))
  have HFL : Hid (∀ p r W, r ≠ p → PS W p r (F5 (tabL MA)) MA → Calls Tryd.prog 8 #[.pointer (some ⟨p, 0, none⟩)] W fun e w' => e = .returned (.int .i64 0) ∧ PS w' p r (F6 (tabL MA)) MA ∧ Fr (fun i => i = p) W w') := Lib.hid (fun p r W hrp h => by
    obtain ⟨⟨sa, sc, ca, cc, h1⟩, -⟩ := id h
    have := DiskFlush.flush_calls p (F5 (tabL MA)) sa sc ca cc W o5 h1
    rw [f_f5] at this
    exact this.mono (fun e w' hh => ⟨hh.1, PS.now h hh.2 hrp, hh.2.fr⟩))
  have HHI : Hid (∀ p r W, r ≠ p → PS W p r (F6 (tabL MA)) MA → Calls Tryd.prog 9 #[.pointer (some ⟨p, 0, none⟩), .int .i64 3, .int .i64 1, .int .i64 0, .int .u8 1] W fun e w' => e = .returned (.int .i64 0) ∧ PS w' p r (F7 (tabL MA)) MA ∧ Fr (fun i => i = p) W w') := Lib.hid (fun p r W hrp h => by
    obtain ⟨⟨sa, sc, ca, cc, h1⟩, -⟩ := id h
    have := DiskHit.hit_k1 p 3 1 0 1 (F6 (tabL MA)) sa sc ca cc W o6 h1 (by kernel_rfl) rfl (by decide) (by decide)
    rw [f_hit1] at this
    exact this.mono (fun e w' hh => ⟨hh.1, PS.now h hh.2 hrp, hh.2.fr⟩))
  have HGE : Hid (∀ p r W, r ≠ p → Sh W → PS W p r (F7 (tabL MA)) MA → Calls Tryd.prog 11 #[.pointer (some ⟨p, 0, none⟩), .pointer (some ⟨r, 0, none⟩), .agg (PC 3 25 (sumOf B7)).toArray] W fun e w' => e = .returned (.tuple #[.agg (B7.map B).toArray, .int .i64 1, .int .i64 0]) ∧ PS w' p r (F8 (tabL MA)) MA ∧ Fr (fun i => i = p ∨ i = r) W w') := Lib.hid (fun p r W hrp hs h => by
    have := get_calls p r (F7 (tabL MA)) MA 3 25 (sumOf B7) W o7 hMA h hrp hs (sumOf_length _) (by decide) (by decide) (by rw [f_c7]; decide)
    rw [f_get] at this
    exact this)
  have HRV : Hid (∀ W, RV W MA none 0) := Lib.hid (fun W => rv_nil W 0)
  have hsl := sumOf_length B7
  have HIP := Lib.hid (info_ptr 3 25 hsl)
  have HSP : Hid (PtrAsk.ZERO.size = (PC 3 25 (sumOf B7)).toArray.size) := Lib.hid (by
    have h : (PC 3 25 (sumOf B7)).toArray.size = 34 := by rw [List.size_toArray, PC_length, hsl]
    rw [h]; rfl)
  have HOP : Hid ((PC 3 25 (sumOf B7)).toArray.all (·.oneCell') = true) := Lib.hid (by
    rw [List.all_toArray]
    generalize sumOf B7 = s
    simp [PC, Value.oneCell', B_def])
  have HIB := Lib.hid (info_l B7_len)
  have HSB := Lib.hid (size_l B7_len)
  have HOB := Lib.hid (one_l B7)
  have HB7 : Hid ((B7.map B).toArray[0]? = some (.int .u8 7)) := Lib.hid (by kernel_rfl)
  have HBB := Lib.hid built_b7
  have HID : Hid (∀ d a b c e, (Tryd.prog.info? 29).map (·.size) = some (dval d a b c e).size) := Lib.hid (fun _ _ _ _ _ => info_d)
  have HDO : Hid (∀ d a b c e, (dval d a b c e).all (·.oneCell') = true) := Lib.hid (fun _ _ _ _ _ => dval_one _ _ _ _ _)
  have HIR : Hid ((Tryd.prog.info? 32).map (·.size) = some RZ.size) := Lib.hid (info_r _ _)
  have hzd : ∀ W, (zeroValue 29).run Tryd.prog W = .ok (.agg DZ) W := by intro W; kernel_rfl
  have hzp : ∀ W, (zeroValue 37).run Tryd.prog W = .ok (.agg PtrAsk.ZERO) W := by intro W; kernel_rfl
  have hzr := zero_r
  have hzb := zero_bl
  clear hsh hT o0 o3 o4 o5 o6 o7 o8 hMA hsl
  generalize (PC 3 25 (sumOf B7)).toArray = PX at *
  generalize (B7.map B).toArray = X7 at *
  generalize F3 (tabL MA) = dA at *
  generalize F5 (tabL MA) = dB at *
  generalize F6 (tabL MA) = dC at *
  generalize F7 (tabL MA) = dD at *
  generalize F8 (tabL MA) = dE at *
  go_enter Tryd.func5, Tryd.ntmps5
  go_wp2_with (first | (go_at_call 6; (with_reducible refine (HFR.out _ HSH.out).mono ?_); rintro e w1 ⟨sa, sc, ca, cc, rfl, hv1, hf1⟩; have hs1 : (w1.alloc (.cells DZ 29)).heap.size = w1.heap.size + 1 := (by simp); have HA2 : Hid (Bk ((w1.alloc (.cells DZ 29)).alloc (.cells RZ 32)) w1.heap.size DZ 29) := Lib.hid (Bk.alloc (Bk.new w1 _) _); have HB2 : Hid (Bk ((w1.alloc (.cells DZ 29)).alloc (.cells RZ 32)) (w1.heap.size + 1) RZ 32) := Lib.hid (by have h := Bk.new (w1.alloc (.cells DZ 29)) (.cells RZ 32); rwa [hs1] at h); have HB3 : Hid (Bk (((w1.alloc (.cells DZ 29)).alloc (.cells RZ 32)).setRow w1.heap.size (dval dA sa sc ca cc)) (w1.heap.size + 1) RZ 32) := Lib.hid (ArrKit.Bk.rowOther HB2.out _ (by omega)); have hfr : Fr0 w1 ((((w1.alloc (.cells DZ 29)).alloc (.cells RZ 32)).setRow w1.heap.size (dval dA sa sc ca cc)).setRow (w1.heap.size + 1) RZ) := ArrKit.Fr.row (ArrKit.Fr.row (Fr.alloc (Fr.alloc (Fr.refl _ _) _) _) _ _ (.inl (Nat.le_refl _))) _ _ (.inl (Nat.le_succ _)); have HP4 : Hid (PS ((((w1.alloc (.cells DZ 29)).alloc (.cells RZ 32)).setRow w1.heap.size (dval dA sa sc ca cc)).setRow (w1.heap.size + 1) RZ) w1.heap.size (w1.heap.size + 1) dA MA) := Lib.hid (PS.of (a := none) (c := 0) ⟨ArrKit.Bk.rowOther (ArrKit.Bk.row HA2.out _) _ (by omega), hv1.keep hfr⟩ (ArrKit.Bk.row HB3.out _) (HRV.out _)); have HF4 : Hid (Fr0 w ((((w1.alloc (.cells DZ 29)).alloc (.cells RZ 32)).setRow w1.heap.size (dval dA sa sc ca cc)).setRow (w1.heap.size + 1) RZ)) := Lib.hid (hf1.then0 hfr); have HG0 : Hid (w.heap.size ≤ w1.heap.size ∧ (w1.heap.size + 1) ≠ w1.heap.size) := Lib.hid ⟨hf1.size, by omega⟩; clear hv1 hf1 hfr hs1) | ((with_reducible show wpList _ _ _ ({ dst := _, op := Op.store 29 _ _, type := _, pos := _, after := _, guard := _ } :: _) _ _); refine wpList_store_row rfl 29 _ _ rfl w1.heap.size (dval dA sa sc ca cc) rfl rfl 29 DZ HA2.out (HID.out _ _ _ _ _) rfl (HDO.out _ _ _ _ _) ?_) | ((with_reducible show wpList _ _ _ ({ dst := _, op := Op.store 32 _ _, type := _, pos := _, after := _, guard := _ } :: _) _ _); refine wpList_store_row rfl 32 _ _ rfl (w1.heap.size + 1) RZ rfl rfl 32 RZ HB3.out HIR.out rfl (RC_all _ _ _ _) ?_) | ((with_reducible show wpList _ _ _ ({ dst := _, op := Op.build 22 _, type := _, pos := _, after := _, guard := _ } :: _) _ _); refine build_ev rfl 22 _ rfl [(0, .int .u8 7)] (by simp [Act.eval, Act.put]) X7 HBB.out ?_) | (go_at_call 7; (with_reducible refine (HPU.out _ _ _ HG0.out.2 (HSH.out.keep0 HF4.out) HP4.out).mono ?_); rintro e w5 ⟨rfl, hp, hf⟩; have HZ5 := Lib.hid (Bk.new w5 (.cells PtrAsk.ZERO 37)); have hfr : Fr0 w5 ((w5.alloc (.cells PtrAsk.ZERO 37)).setRow w5.heap.size PX) := ArrKit.Fr.row (Fr.alloc (Fr.refl _ _) _) _ _ (.inl (Nat.le_refl _)); have HP6 := Lib.hid (hp.keep0 hfr); have HF6 : Hid (Fr0 w ((w5.alloc (.cells PtrAsk.ZERO 37)).setRow w5.heap.size PX)) := Lib.hid ((HF4.out.then hf (fun i hi e => by have h := HG0.out; omega)).then0 hfr); have HQ6 : Hid (Bk ((w5.alloc (.cells PtrAsk.ZERO 37)).setRow w5.heap.size PX) w5.heap.size PX 37) := Lib.hid (ArrKit.Bk.row HZ5.out _); have HG5 : Hid ((w1.heap.size + 1) < w5.heap.size) := Lib.hid (by obtain ⟨-, qa, qc, hq, -⟩ := hp; exact Bk.lt hq); clear hp hf hfr) | ((with_reducible show wpList _ _ _ ({ dst := _, op := Op.store 37 _ _, type := _, pos := _, after := _, guard := _ } :: _) _ _); refine wpList_store_row rfl 37 _ _ rfl w5.heap.size PX rfl rfl 37 PtrAsk.ZERO HZ5.out HIP.out HSP.out HOP.out ?_) | (go_at_call 8; (with_reducible refine (HFL.out _ _ _ HG0.out.2 HP6.out).mono ?_); rintro e w7 ⟨rfl, hp, hf⟩; have hg5 := HG5.out; have HP7 := Lib.hid hp; have HF7 : Hid (Fr0 w w7) := Lib.hid (HF6.out.then hf (fun i hi e => by have h := HG0.out; omega)); have HQ7 := Lib.hid (Fr.keep hf HQ6.out (by omega)); clear hp hf) | (go_at_call 9; (with_reducible refine (HHI.out _ _ _ HG0.out.2 HP7.out).mono ?_); rintro e w8 ⟨rfl, hp, hf⟩; have HP8 := Lib.hid hp; have HF8 : Hid (Fr0 w w8) := Lib.hid (HF7.out.then hf (fun i hi e => by have h := HG0.out; omega)); have HQ8 := Lib.hid (Fr.keep hf HQ7.out (by omega)); clear hp hf) | ((with_reducible show wpList _ _ _ ({ dst := _, op := Op.load 37 _, type := _, pos := _, after := _, guard := _ } :: _) _ _); refine wpList_load_row_g (by rfl) 37 _ rfl w5.heap.size rfl 37 PX (0, 0) _ HQ8.out Tryd.underlying37 rfl HIP.out ?_) | (go_at_call 11; (with_reducible refine (HGE.out _ _ _ HG0.out.2 (HSH.out.keep0 HF8.out) HP8.out).mono ?_); rintro e w9 ⟨rfl, hp, hf⟩; have HF9 : Hid (Fr0 w w9) := Lib.hid (HF8.out.then hf (fun i hi e => by have h := HG0.out; omega)); have HZ9 := Lib.hid (Bk.new w9 (.cells ZB 22)); have HFB : Hid (Fr0 w ((w9.alloc (.cells ZB 22)).setRow w9.heap.size X7)) := Lib.hid (HF9.out.then0 (ArrKit.Fr.row (Fr.alloc (Fr.refl _ _) _) _ _ (.inl (Nat.le_refl _)))); have e9 : (((w9.alloc (.cells ZB 22)).setRow w9.heap.size X7)).cell? ⟨w9.heap.size, 0, none⟩ = some (.int .u8 7) := (Bk.cell (ArrKit.Bk.row HZ9.out X7) 0).trans HB7.out; clear hp hf) | ((with_reducible show wpList _ _ _ ({ dst := _, op := Op.store 22 _ _, type := _, pos := _, after := _, guard := _ } :: _) _ _); refine wpList_store_row rfl 22 _ _ rfl w9.heap.size X7 rfl rfl 22 ZB HZ9.out HIB.out HSB.out HOB.out ?_))
  go_ret
  exact ⟨rfl, HFB.out⟩

end Go.Proofs.YtmkmpfnadcmcoaaDoor.DitAlive
namespace Go.Proofs.YtmkmpfnadcmcoaaDoor.EqlKit
open Go Go.RowKit Go.Proofs.YtmkmpfnadcmcoaaDoor.K Go.Proofs.YtmkmpfnadcmcoaaDoor.EqKit Go.Proofs.YtmkmpfnadcmcoaaDoor.ArrKit Go.Proofs.YtmkmpfnadcmcoaaDoor.HeldKit Go.Proofs.YtmkmpfnadcmcoaaDoor.GKit Go.Proofs.YtmkmpfnadcmcoaaDoor.GRow Go.Proofs.YtmkmpfnadcmcoaaDoor.DiskKit Go.Proofs.YtmkmpfnadcmcoaaDoor.DiskNew
theorem wpList_eql_g {P : Program} {ops : Array Oper} {rest : List Oper} {o : Oper} {a : Act} {w : World} {Q : Exit → Act → World → Prop} (hw : Region.wanted o (yielded ops a.tmps) = true) {t u : TypeId} {x y : Operand} (ho : o.op = .binOp .eql t x y u)
    {X Y : Array Value} {b : Bool} (hx : a.eval x = .agg X) (hy : a.eval y = .agg Y) (hm : P.eqGuardType P.depth t = false) (heq : ∀ W, (Op.equalIn 10000 t (.agg X) (.agg Y)).run P W = .ok b W)
    (h : wpList P ops Q rest (a.put o.dst (.bool b)) w) : wpList P ops Q (o :: rest) a w := by
  unfold wpList
  rw [if_pos hw]
  refine Or.inl ?_
  unfold Oper.wp
  rw [run_eql_op ho hx hy hm heq w]
  exact h

end Go.Proofs.YtmkmpfnadcmcoaaDoor.EqlKit
