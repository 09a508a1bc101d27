/- ExeReads holds: the program of any bytes, or the error, is the document's, and it has just these bytes. No condition. -/
import Derived.Test.YtplhmhclcfclhaaOfW4
namespace Go.Proofs.Ytplhmhclcfclhaa
open Go.ChangeShapes Go.WideShapes Go.ChangeAt Go.RowKit
set_option linter.unusedVariables false
attribute [local go_sem] ba_get ba_cut ba_add

theorem ofX_ok (b : List UInt8) (hb : b.length ≤ 140737488355328) : ExeOk (Pl.ofX b) := by
  unfold Pl.ofX
  split
  · exact bodyE_ok b hb
  · exact ⟨by decide, by decide, by decide, by decide, by decide⟩

set_option maxRecDepth 100000 in
set_option maxHeartbeats 1000000 in
theorem exeReads_walk (b : List UInt8) (w : World) (hb : b.length ≤ 140737488355328) :
    Calls Try.prog 11 #[.string ⟨b.toArray⟩] w (RetB (fun v _ => v = .bool true) w) := by
  by_cases hg : 2500 < b.length
  · go_enter Try.func11, Try.ntmps11
    go_wp2_with fail
    (with_reducible refine (awake_any _).mono ?_)
    rintro e w1 ⟨v, rfl, rfl, hb1⟩
    go_wp2_with fail
    go_ret
    exact ⟨_, rfl, rfl, hb1⟩
  · have hok := ofX_ok b hb
    have hlt := Pl.ofX_text_lt b
    obtain ⟨k, hk⟩ : ∃ k, Pl.ofE b = k := ⟨_, rfl⟩
    have h1 := fun w => of_any b w hb
    have h2 := fun w => rof_any b w (by omega)
    have hfile : k = 0 → Pl.chk (Pl.ofX b) = 0 ∧ Pl.fileB (Pl.ofX b) = b := by
      intro h0; subst h0
      unfold Pl.ofX; rw [hk, if_pos rfl]
      exact ⟨(Pl.ofE_ok hk).2.2.2, Pl.file_body hk⟩
    obtain ⟨X, hX⟩ : ∃ X, Pl.ofX b = X := ⟨_, rfl⟩
    unfold OfOut at h1 h2
    rw [hX] at hok hlt hfile
    simp only [hX, hk] at h1 h2
    have HS := Lib.hid (fun A A' c c' w (ha) (hb) => same_eq A A' c c' X w hok ha hb)
    have HB := Lib.hid (fun A c w (ha) => bytes_any A c X w hok ha hlt)
    have HF := Lib.hid (And.intro hok (And.intro hlt hfile))
    clear hok hlt hfile hX hk
    obtain ⟨t, d, room, entry⟩ := X
    unfold exeV at h1 h2
    simp only at h1 h2
    obtain ⟨n, hn⟩ : ∃ n, t.length = n := ⟨_, rfl⟩
    rw [hn] at h1 h2
    have H1 := Lib.hid (And.intro h1 (And.intro h2 hn)); clear h1 h2 hn
    go_enter Try.func11, Try.ntmps11
    go_wp2_with fail
    (with_reducible refine (H1.out.1 _).mono ?_)
    rintro e w1 ⟨v, rfl, ⟨A1, c1, rfl, hr1⟩, hb1⟩
    go_wp2_with fail
    have hbw1 : Below w.heap.size w (w1.alloc (.cells #[.slice A1 n c1, .string ⟨d.toArray⟩, .int .i64 room, .int .u32 (entry : Int)] 43)) := hb1.alloc hb1.size _
    have hx1 := Box4.new w1 (.slice A1 n c1) (.string ⟨d.toArray⟩) (.int .i64 room) (.int .u32 (entry : Int)) 43
    obtain ⟨v1, hv1⟩ : ∃ v1, w1.alloc (.cells #[.slice A1 n c1, .string ⟨d.toArray⟩, .int .i64 room, .int .u32 (entry : Int)] 43) = v1 := ⟨_, rfl⟩
    have hr1' := hr1.alloc (.cells #[.slice A1 n c1, .string ⟨d.toArray⟩, .int .i64 room, .int .u32 (entry : Int)] 43)
    have hs1 : w1.heap.size < v1.heap.size := by rw [← hv1]; simp
    rw [hv1] at hbw1 hx1 hr1' ⊢
    clear hv1 hr1
    (with_reducible refine (H1.out.2.1 _).mono ?_)
    rintro e w2 ⟨v, rfl, ⟨A2, c2, rfl, hr2⟩, hb2⟩
    obtain ⟨a0, a1, a2, a3⟩ := hx1.keep hb2 hs1
    have hs2 : w1.heap.size < w2.heap.size := Nat.lt_of_lt_of_le hs1 hb2.size
    go_wp2_with fail
    have hbw2 : Below w.heap.size w (w2.alloc (.cells #[.slice A2 n c2, .string ⟨d.toArray⟩, .int .i64 room, .int .u32 (entry : Int)] 43)) := (hbw1.trans (hb2.mono hbw1.size)).alloc (Nat.le_trans hbw1.size hb2.size) _
    have hx2 := Box4.new w2 (.slice A2 n c2) (.string ⟨d.toArray⟩) (.int .i64 room) (.int .u32 (entry : Int)) 43
    have hx1' := (hx1.keep hb2 hs1).keep ((Below.refl w2.heap.size w2).alloc (Nat.le_refl _) (.cells #[.slice A2 n c2, .string ⟨d.toArray⟩, .int .i64 room, .int .u32 (entry : Int)] 43)) hs2
    have hr1'' := (hr1'.below hb2).alloc (.cells #[.slice A2 n c2, .string ⟨d.toArray⟩, .int .i64 room, .int .u32 (entry : Int)] 43)
    have hr2' := hr2.alloc (.cells #[.slice A2 n c2, .string ⟨d.toArray⟩, .int .i64 room, .int .u32 (entry : Int)] 43)
    obtain ⟨v2, hv2⟩ : ∃ v2, w2.alloc (.cells #[.slice A2 n c2, .string ⟨d.toArray⟩, .int .i64 room, .int .u32 (entry : Int)] 43) = v2 := ⟨_, rfl⟩
    have hs3 : w1.heap.size < v2.heap.size := by rw [← hv2]; simp; omega
    rw [hv2] at hbw2 hx2 hx1' hr1'' hr2' ⊢
    clear hv2 hr2 hr1' a0 a1 a2 a3
    have hsm := HS.out A1 A2 c1 c2 v2 (by rw [H1.out.2.2]; exact hr1'') (by rw [H1.out.2.2]; exact hr2')
    unfold exeV at hsm
    simp only at hsm
    rw [H1.out.2.2] at hsm
    (with_reducible refine hsm.mono ?_)
    rintro e w3 ⟨v, rfl, rfl, hb3⟩
    clear hsm
    have hbw3 := hbw2.trans (hb3.mono hbw2.size)
    have hr3 := hr1''.below hb3
    obtain ⟨a0, a1, a2, a3⟩ := hx1'.keep hb3 hs3
    rcases Nat.eq_zero_or_pos k with rfl | hk
    · obtain ⟨f1, f2⟩ := HF.out.2.2 rfl
      have hbc := HB.out A1 c1 w3 (by rw [H1.out.2.2]; exact hr3)
      unfold bytesV at hbc
      rw [if_pos f1, f1, f2] at hbc
      unfold exeV at hbc
      simp only at hbc
      rw [H1.out.2.2] at hbc
      have F := Lib.hid (And.intro f1 f2); clear f1 f2
      go_wp2_with fail
      (with_reducible refine hbc.mono ?_)
      rintro e w4 ⟨v, rfl, rfl, hb4⟩
      clear hbc
      go_wp2_with fail
      (with_reducible refine (awake_any _).mono ?_)
      rintro e w5 ⟨v, rfl, rfl, hb5⟩
      go_wp2_with fail
      go_ret
      exact ⟨_, rfl, rfl, (hbw3.trans (hb4.mono hbw3.size)).trans (hb5.mono (Nat.le_trans hbw3.size hb4.size))⟩
    · have hk' : ((k : Int) != 0) = true := by simp; omega
      go_wp2_with fail
      (with_reducible refine (awake_any _).mono ?_)
      rintro e w5 ⟨v, rfl, rfl, hb5⟩
      go_wp2_with fail
      go_ret
      exact ⟨_, rfl, rfl, hbw3.trans (hb5.mono hbw3.size)⟩
set_option maxRecDepth 100000 in
theorem exeReads_lifted (os : Os) (started : os.Started) (H : Type) (enc : TypeId × Value → H) :
    ReturnsInHanded {} Try.checked os 11 .any (Rows.exeReadsSpec.pre6 enc Try.prog Try.f11 Rows.exeReadsRow.domain false) (Rows.exeReadsSpec.post enc Try.prog Try.f11 false true false false) := by
  refine returnsInHanded_of_change_sized (C := Try.checked) own started (by kernel_rfl) Try.func11
    (ChangeSpec.witness6 (enc := enc) (C := Try.checked) false ⟨#[], #[.string ⟨#[]⟩], []⟩ 8 (by kernel_rfl) (by kernel_rfl) (by kernel_rfl) (by kernel_rfl)) ?_
  intro W base args ds gs before hval0 hW hcnd hsz0 _
  have hval : ∀ (j : Nat) t v, Try.f11.params[j]? = some t → args[j]? = some v → Value.okWide Try.prog W .any base t v := hval0
  have hW' := hW
  obtain ⟨p, q, hA0, hV, rfl, hfz, hnd⟩ := hW
  have hA : DataW.TrodAll enc Try.prog W 0 (fun _ => true) true Try.f11.params.toList args.toList ds p := hA0
  have hsz : (DataW.weightsEach Try.prog (Try.f11.params.toList ++ Rows.exeReadsSpec.plain.varTypes Try.prog) (ds ++ gs)).all (· ≤ reachBytes) = true := hsz0
  rw [Try.params11] at hA hval hsz
  obtain ⟨v0, vs0, d0, ds0, p0, q0, hargs, rfl, rfl, h0, r0⟩ := trodAll_cons hA
  obtain ⟨rfl, rfl, rfl⟩ := trodAll_nil r0
  obtain rfl : args = #[v0] := by cases args; simp_all
  obtain ⟨rfl, rfl⟩ := trodVars_none hV
  have k0 := h0
  have lt0 : ∀ x ∈ p0, x.block < W.heap.size := by obtain ⟨m, hm⟩ := k0; exact DataW.trod_lt m _ _ _ hm
  have hz0 : ∀ m ∈ d0.weights Try.prog 9, m ≤ reachBytes := fun m hm => by
    have h1 := List.all_eq_true.1 hsz m (DataW.weights_mem_each (j := 0) rfl rfl m hm)
    simpa using h1
  obtain ⟨l0, rfl, eA0⟩ := open_str (hval 0 9 v0 rfl rfl) h0 hz0
  clear hA0 hval0 hsz0
  refine (exeReads_walk l0 W (Nat.le_trans eA0 reach_le)).mono fun e W' ⟨v, he, hv, bel⟩ => ?_
  subst he hv
  exact ⟨_, rfl, _, _, _, [], _, [], hW', trodAll_mk1 (shut_bool Try.underlying4 _), (trodAll_cons_mk (Below.trod laidOut (by kernel_rfl) (of_decide_eq_true (by kernel_rfl)) k0 bel lt0) trodAll_mk0), rfl, bel.frame _, fun h => by cases h⟩

theorem exeReads_holds : Rows.ExeReadsSaid :=
  OpenClaim.holds_of_wide 11 Try.f11 rfl rfl rfl rfl rfl rfl rfl ⟨rfl, rfl, rfl, rfl, rfl⟩ rfl rfl rfl rfl rfl (by kernel_rfl) Try.func11 (by kernel_rfl)
    (of_decide_eq_true (by kernel_rfl)) (by unfold Func.isWrapper; first | (rw [if_pos (by decide +kernel)]; kernel_rfl) | (rw [if_neg (by decide +kernel)]; exact ⟨rfl, rfl⟩))
    (fun os started H enc _ => exeReads_lifted os started H enc)
#print axioms exeReads_holds
end Go.Proofs.Ytplhmhclcfclhaa
