/- The walk of the statements' awake: true. -/
import Derived.Test.YtommlolhpaeioaaDoorWireQ
namespace Go.Proofs.YtommlolhpaeioaaDoor
open Go.RowKit
set_option linter.unusedVariables false
set_option linter.unusedSimpArgs false
attribute [local go_sem] ba_get ba_cut ba_add
def msg6 : Pl.Msg := ⟨6, [], Pl.zeroS, 0, 0⟩
theorem chk6 : Pl.wchk msg6 = 0 := by decide +kernel
theorem put6 : Pl.wput msg6 = (Pl.rowB [[54], []], 0) := by
  rw [Pl.wput_ok chk6]
  have h : Lib.itoa msg6.k = [54] := by decide +kernel
  rw [h]; rfl
theorem fit6 : MgFit msg6 := ⟨by decide, fit_zero⟩
theorem mok6 : Pl.MOk msg6 := ⟨rfl, by decide, i64_mk (by decide) (by decide), i64_mk (by decide) (by decide), i64_mk (by decide) (by decide)⟩
theorem wpList_build_m6 {L : List Value} (hL : mgL msg6 cx0 = L) {ops : Array Oper} {rest : List Oper} {op : Oper} {a : Act} {w : World} {Q : Exit → Act → World → Prop} (hgd : op.guard = none) (ho : op.op = .build 31 #[(0, .const (.int .i64 6))])
    (h : wpList Tryd.prog ops Q rest (a.put op.dst (.agg L.toArray)) w) : wpList Tryd.prog ops Q (op :: rest) a w :=
  wpList_plain hgd fun _ hK => by
    have hb : (Instr.build 31 #[(0, .int .i64 6)]).run Tryd.prog w = .ok (.agg (mgL msg6 cx0).toArray) w := run_build w 31 _ _ (by kernel_rfl)
    unfold Oper.wp execOp
    simp only [ho, List.map_toArray, List.map_cons, List.map_nil, Act.eval, Sem.run_bind, hb, Result.andThen_ok, Sem.run_pure]
    rw [hL]
    exact hK _ _ h
set_option maxRecDepth 100000 in
set_option maxHeartbeats 4000000 in
theorem awake44_any (w : World) (hv : VTab w) : Calls Tryd.prog 13 #[] w (RetB (fun v _ => v = .bool true) w) := by
  obtain ⟨L6, hL6⟩ : ∃ L, mgL msg6 cx0 = L := ⟨_, rfl⟩
  go_enter Tryd.func13, Tryd.ntmps13
  go_wp2_with (with_reducible refine wpList_build_m6 hL6 rfl rfl ?_)
  rw [← hL6]
  (with_reducible refine (wput_any msg6 cx0 _ (ok_zero _) fit6 mok6 hv).mono ?_)
  rintro e w1 ⟨v, rfl, rfl, hb1⟩
  rw [put6, hL6]
  have hrow := fun W A (h : Rd W 1 A 2 (strs [[54], []])) => row_any A 2 2 [[54], []] W h (by omega) (by simp [sumLen])
  obtain ⟨R, hR⟩ : ∃ R, Pl.rowB [[54], []] = R := ⟨_, rfl⟩
  rw [hR] at hrow ⊢
  have HH := Lib.hid hrow
  unfold bytesV
  clear hrow
  go_wp2_with fail
  (with_reducible refine (HH.out _ _ (Rd.new _ [.string ⟨#[54]⟩, .string ⟨#[]⟩] _)).mono ?_)
  rintro e w2 ⟨v, rfl, rfl, hb2⟩
  go_wp2_with fail
  go_ret
  exact ⟨_, rfl, rfl, (hb1.alloc hb1.size _).trans (hb2.mono (by have := hb1.size; simp; omega))⟩
end Go.Proofs.YtommlolhpaeioaaDoor
