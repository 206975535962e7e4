/- The law InodeNews, walked. -/
import Derived.Test.YtfjkbabeceaelaaInoAlive
set_option linter.unusedVariables false
set_option linter.unusedSimpArgs false
namespace Go.Proofs.Ytfjkbabeceaelaa.InoNewLaw
open Go Go.RowKit Go.Proofs.Ytfjkbabeceaelaa.K Go.Proofs.Ytfjkbabeceaelaa.EqKit Go.Proofs.Ytfjkbabeceaelaa.PtrKit Go.Proofs.Ytfjkbabeceaelaa.ArrKit Go.Proofs.Ytfjkbabeceaelaa.HeldKit Go.Proofs.Ytfjkbabeceaelaa.PtrAsk Go.Proofs.Ytfjkbabeceaelaa.PtrRRight Go.Proofs.Ytfjkbabeceaelaa.ShaStep Go.Proofs.Ytfjkbabeceaelaa.ShaSum Go.Proofs.Ytfjkbabeceaelaa.PtrOf Go.Proofs.Ytfjkbabeceaelaa.PtrROf Go.Proofs.Ytfjkbabeceaelaa.WordPut Go.Proofs.Ytfjkbabeceaelaa.WordTake Go.Proofs.Ytfjkbabeceaelaa.InoKit Go.Proofs.Ytfjkbabeceaelaa.InoRRight Go.Proofs.Ytfjkbabeceaelaa.InoNew Go.Proofs.Ytfjkbabeceaelaa.InoPut Go.Proofs.Ytfjkbabeceaelaa.InoTake Go.Proofs.Ytfjkbabeceaelaa.InoEq Go.Proofs.Ytfjkbabeceaelaa.InoAlive

set_option maxHeartbeats 2000000 in
set_option maxRecDepth 100000 in
theorem news_all (num kind : Int) (w : World) (h1 : (Lit.int .i64 num).wf = true) (h2 : (Lit.int .i64 kind).wf = true) : Calls Try.prog 4 #[.int .i64 num, .int .i64 kind] w fun e w' => e = .returned (.bool true) ∧ Fr0 w w' := by
  have HNEW : Hid (∀ W : World, Calls Try.prog 10 #[.int .i64 num, .int .i64 kind] W fun e w' => e = .returned (.tuple #[.agg (newX num kind), .int .i64 (newE num kind)]) ∧ Fr0 W w') := Lib.hid (fun W => new_calls num kind W h1 h2)
  have HRNEW : Hid (∀ W : World, Calls Try.prog 11 #[.int .i64 num, .int .i64 kind] W fun e w' => e = .returned (.tuple #[.agg (newX num kind), .int .i64 (newE num kind)]) ∧ Fr0 W w') := Lib.hid (fun W => rnew_calls num kind W h1 h2)
  have hx : ∃ v : NV, v.ok ∧ newX num kind = v.cells.toArray := by
    unfold newX
    split
    · exact ⟨_, newN_ok h1 h2, rfl⟩
    · exact ⟨noN, noN_ok, noN_cells.symm⟩
  obtain ⟨v, hv, hX⟩ := hx
  rw [hX] at HNEW HRNEW
  have HIN : Hid ((Try.prog.info? 30).map (·.size) = some v.cells.toArray.size) := Lib.hid (by rw [info_n, List.size_toArray, NV.cells_length hv])
  have HZN : Hid (ZN.size = v.cells.toArray.size) := Lib.hid (ZN_size.trans (by rw [List.size_toArray, NV.cells_length hv]))
  have HON : Hid (v.cells.toArray.all (·.oneCell') = true) := Lib.hid cells_one
  have heq : ∀ W, (Op.equalIn 10000 30 (.agg v.cells.toArray) (.agg v.cells.toArray)).run Try.prog W = .ok true W := fun W => eq_node hv W
  generalize v.cells.toArray = X at *
  generalize newE num kind = E at *
  clear hX hv v
  have hE : (E == E) = true := beq_self_eq_true E
  have hzn : ∀ W, (zeroValue 30).run Try.prog W = .ok (.agg ZN) W := by intro W; kernel_rfl
  have HF_w0 : Hid (Fr0 w w) := Lib.hid (Fr.refl _ _)
  go_enter Try.func4, Try.ntmps4
  go_wp2_with (first | (go_at_call 7; (with_reducible refine (alive_calls _).mono ?_); rintro e w1 ⟨rfl, hf⟩; have HF_w1 := Lib.hid (HF_w0.out.then0 hf); clear hf) | (go_at_call 10; (with_reducible refine (HNEW.out _).mono ?_); rintro e w2 ⟨rfl, hf⟩; have HF_w2 := Lib.hid (HF_w1.out.then0 hf); have HZ_w2 : Hid (Bk (w2.alloc (.cells ZN 30)) w2.heap.size ZN 30) := Lib.hid (Bk.new _ _); clear hf) | (refine wpList_store_row rfl 30 _ _ rfl w2.heap.size X rfl rfl 30 ZN HZ_w2.out HIN.out HZN.out HON.out ?_; change wpList _ _ _ _ _ ((w2.alloc (.cells ZN 30)).setRow w2.heap.size X); have hfx : Fr0 w2 ((w2.alloc (.cells ZN 30)).setRow w2.heap.size X) := ArrKit.Fr.row (Fr.alloc (Fr.refl _ _) _) _ _ (.inl (Nat.le_refl _)); have HA_w3 : Hid (Bk ((w2.alloc (.cells ZN 30)).setRow w2.heap.size X) w2.heap.size X 30) := Lib.hid (ArrKit.Bk.row HZ_w2.out _); have HF_w3 := Lib.hid (HF_w2.out.then0 hfx); clear hfx; generalize ((w2.alloc (.cells ZN 30)).setRow w2.heap.size X) = w3 at *; generalize w2.heap.size = J1 at *) | (go_at_call 11; (with_reducible refine (HRNEW.out _).mono ?_); rintro e w4 ⟨rfl, hf⟩; have HF_w4 := Lib.hid (HF_w3.out.then0 hf); have HA_w4 := Lib.hid (hf.keep HA_w3.out (fun h => h)); have HZ_w4 : Hid (Bk (w4.alloc (.cells ZN 30)) w4.heap.size ZN 30) := Lib.hid (Bk.new _ _); clear hf) | (refine wpList_store_row rfl 30 _ _ rfl w4.heap.size X rfl rfl 30 ZN HZ_w4.out HIN.out HZN.out HON.out ?_; change wpList _ _ _ _ _ ((w4.alloc (.cells ZN 30)).setRow w4.heap.size X); have hfx : Fr0 w4 ((w4.alloc (.cells ZN 30)).setRow w4.heap.size X) := ArrKit.Fr.row (Fr.alloc (Fr.refl _ _) _) _ _ (.inl (Nat.le_refl _)); have HB_w5 : Hid (Bk ((w4.alloc (.cells ZN 30)).setRow w4.heap.size X) w4.heap.size X 30) := Lib.hid (ArrKit.Bk.row HZ_w4.out _); have HF_w5 := Lib.hid (HF_w4.out.then0 hfx); have HA_w5 := Lib.hid (hfx.keep HA_w4.out (fun h => h)); clear hfx; generalize ((w4.alloc (.cells ZN 30)).setRow w4.heap.size X) = w5 at *; generalize w4.heap.size = J2 at *) | ((with_reducible show wpList _ _ _ ({ dst := _, op := Op.load 30 _, type := _, pos := _, after := _, guard := _ } :: _) _ _); refine wpList_load_row_g (by rfl) 30 _ rfl J2 rfl 30 X (0, 0) _ HB_w5.out Try.underlying30 rfl HIN.out ?_) | ((with_reducible show wpList _ _ _ ({ dst := _, op := Op.load 30 _, type := _, pos := _, after := _, guard := _ } :: _) _ _); refine wpList_load_row_g (by rfl) 30 _ rfl J1 rfl 30 X (0, 0) _ HA_w5.out Try.underlying30 rfl HIN.out ?_))
  go_ret
  exact ⟨rfl, HF_w5.out⟩

end Go.Proofs.Ytfjkbabeceaelaa.InoNewLaw
