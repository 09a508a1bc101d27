/- ExeCuts holds: a program's file cut short is told to be short, with more behind it is none. No condition. -/
import Derived.Test.YtplhmhclcfclhaaExeReads
namespace Go.Proofs.Ytplhmhclcfclhaa
open Go.ChangeShapes Go.WideShapes Go.ChangeAt Go.RowKit
set_option linter.unusedVariables false
attribute [local go_sem] ba_get ba_cut ba_add

/-- Of where the answer is an error. -/
theorem of_err (b : List UInt8) (w : World) (k : Nat) (hb : b.length ≤ 140737488355328) (hk : Pl.ofE b = k) (h0 : k ≠ 0) :
    Calls Try.prog 33 #[.string ⟨b.toArray⟩] w (RetB (fun v _ => ∃ A c, v = .tuple #[.agg #[.slice A 0 c, .string ⟨#[]⟩, .int .i64 0, .int .u32 0], .int .i64 (k : Int)]) w) := by
  refine (of_any b w hb).mono ?_
  rintro e w' ⟨v, rfl, ⟨A, c, rfl, hr⟩, hb'⟩
  refine ⟨_, rfl, ⟨A, c, ?_⟩, hb'⟩
  unfold Pl.ofX; rw [hk, if_neg h0]; rfl
theorem same_none (A A' : Option Addr) (c c' : Nat) (w : World) :
    Calls Try.prog 34 #[.agg #[.slice A 0 c, .string ⟨#[]⟩, .int .i64 0, .int .u32 0], .agg #[.slice A' 0 c', .string ⟨#[]⟩, .int .i64 0, .int .u32 0]] w (RetB (fun v _ => v = .bool true) w) := by
  have := same_eq A A' c c' Pl.noExe w ⟨by decide, by decide, by decide, by decide, by decide⟩ Rd.zero Rd.zero
  exact this

set_option maxRecDepth 100000 in
set_option maxHeartbeats 1000000 in
theorem exeCuts_walk (A : Option Addr) (c : Nat) (x : Pl.Exe) (k : Nat) (w : World) (ha : Rd w 1 A x.text.length (u32s x.text)) (hx : ExeOk x) (ht : ∀ y ∈ x.text, y < 4294967296) (hk : k < 65536) :
    Calls Try.prog 12 #[exeV A c x, .int .u16 (k : Int)] w (RetB (fun v _ => v = .bool true) w) := by
  have hgr := great_any A c x
  have hrc := rcheck_any A c x
  have hby := fun w h => bytes_any A c x w hx h ht
  obtain ⟨gb, hgb⟩ : ∃ g, great x = g := ⟨_, rfl⟩
  obtain ⟨q, hq⟩ : ∃ q, Pl.chk x = q := ⟨_, rfl⟩
  obtain ⟨fb, hfb⟩ : ∃ f, Pl.fileB x = f := ⟨_, rfl⟩
  have hq01 : q = 0 ∨ q = 1 := by rw [← hq]; unfold Pl.chk; split <;> simp
  have hlw : q = 0 → 14 ≤ fb.length ∧ fb.length ≤ 100000 ∧ Pl.ofE (fb.take (k % fb.length)) = 4 ∧ Pl.ofE (fb ++ [120]) = 3 := by
    intro h0
    subst h0
    have hc : Pl.chkB x = false := by
      cases h : Pl.chkB x
      · rfl
      · simp [Pl.chk, h] at hq
    obtain ⟨g1, g2, g3, g4, g5, -⟩ := chk_ok hq
    have hl := Pl.fileB_len x
    rw [hfb] at hl
    refine ⟨by omega, by omega, ?_, ?_⟩
    · rw [← hfb] at hl ⊢; exact Pl.ofE_cut x hc _ (Nat.mod_lt _ (by omega))
    · rw [← hfb]; exact Pl.ofE_more x hc
  unfold bytesV at hby
  rw [hgb] at hgr
  rw [hq, hfb] at hby
  rw [hq] at hrc
  obtain ⟨t, d, room, entry⟩ := x
  have hev : exeV A c ⟨t, d, room, entry⟩ = .agg #[.slice A t.length c, .string ⟨d.toArray⟩, .int .i64 room, .int .u32 (entry : Int)] := rfl
  rw [hev] at hgr hrc hby ⊢
  have hnn := hx.n
  simp only at ha hnn hgr hby
  obtain ⟨n, hn⟩ : ∃ n, t.length = n := ⟨_, rfl⟩
  rw [hn] at ha hgr hrc hby hnn ⊢
  have HF := Lib.hid (And.intro hgr (And.intro hrc (And.intro hby (And.intro hx (And.intro hlw hn))))); clear hgr hrc hby hx ht hlw hn hev hq hfb hgb
  go_enter Try.func12, Try.ntmps12
  go_wp2_with fail
  have hbox := Box4.new w (.slice A n c) (.string ⟨d.toArray⟩) (.int .i64 room) (.int .u32 (entry : Int)) 43
  have hbw : Below w.heap.size w (w.alloc (.cells #[.slice A n c, .string ⟨d.toArray⟩, .int .i64 room, .int .u32 (entry : Int)] 43)) := (Below.refl _ _).alloc (Nat.le_refl _) _
  have ha1 := ha.alloc (.cells #[.slice A n c, .string ⟨d.toArray⟩, .int .i64 room, .int .u32 (entry : Int)] 43)
  obtain ⟨V, hV⟩ : ∃ V, w.alloc (.cells #[.slice A n c, .string ⟨d.toArray⟩, .int .i64 room, .int .u32 (entry : Int)] 43) = V := ⟨_, rfl⟩
  have hs : w.heap.size < V.heap.size := by rw [← hV]; simp
  rw [hV] at hbox hbw ha1 ⊢
  clear hV
  (with_reducible refine (HF.out.1 V hnn).mono ?_)
  rintro e w1 ⟨v, rfl, rfl, hb1⟩
  have hbw1 := hbw.trans (hb1.mono hbw.size)
  have hx1 := hbox.keep hb1 hs
  have hs1 : w.heap.size < w1.heap.size := Nat.lt_of_lt_of_le hs hb1.size
  have ha2 := ha1.below hb1
  obtain ⟨a0, a1, a2, a3⟩ := hx1
  cases gb with
  | true =>
    go_wp2_with fail
    (with_reducible refine (awake_any _).mono ?_)
    rintro e w2 ⟨v, rfl, rfl, hb2⟩
    go_wp2_with fail
    go_ret
    exact ⟨_, rfl, rfl, hbw1.trans (hb2.mono hbw1.size)⟩
  | false =>
    go_wp2_with fail
    (with_reducible refine (HF.out.2.1 w1 HF.out.2.2.2.1).mono ?_)
    rintro e w2 ⟨v, rfl, rfl, hb2⟩
    have hbw2 := hbw1.trans (hb2.mono hbw1.size)
    have hx2 := Box4.keep ⟨a0, a1, a2, a3⟩ hb2 hs1
    have hs2 : w.heap.size < w2.heap.size := Nat.lt_of_lt_of_le hs1 hb2.size
    have ha3 := ha2.below hb2
    clear a0 a1 a2 a3
    rcases hq01 with rfl | rfl
    · obtain ⟨a0, a1, a2, a3⟩ := hx2
      obtain ⟨f1, f2, f3, f4⟩ := HF.out.2.2.2.2.1 rfl
      have hbc := HF.out.2.2.1 w2 ha3
      rw [if_pos rfl] at hbc
      have F := Lib.hid (And.intro f3 f4); clear f3 f4
      go_wp2_with fail
      (with_reducible refine hbc.mono ?_)
      rintro e w3 ⟨v, rfl, rfl, hb3⟩
      clear hbc a0 a1 a2 a3
      have hbw3 := hbw2.trans (hb3.mono hbw2.size)
      have hz : ((fb.length : Int) == 0) = false := beq_eq_false_iff_ne.2 (by omega)
      obtain ⟨m, hm⟩ : ∃ m, k % fb.length = m := ⟨_, rfl⟩
      have hml : m < fb.length := by rw [← hm]; exact Nat.mod_lt _ (by omega)
      have hmi : (k : Int) % (fb.length : Int) = m := by rw [← hm]; rfl
      have f3 := F.out.1
      rw [hm] at f3
      have F3 := Lib.hid (And.intro f3 hm); clear f3 hm
      have hne : m ≤ 100000 := by omega
      go_wp2_with fail
      (with_reducible refine (of_err (fb.take m) _ 4 (by rw [List.length_take]; omega) F3.out.1 (by decide)).mono ?_)
      rintro e w4 ⟨v, rfl, ⟨A4, c4, rfl⟩, hb4⟩
      have hbw4 := hbw3.trans (hb4.mono hbw3.size)
      go_wp2_with fail
      have hbw5 := hbw4.alloc hbw4.size (.cells #[.slice A4 0 c4, .string ⟨#[]⟩, .int .i64 0, .int .u32 0] 43)
      have hx5 := Box4.new w4 (.slice A4 0 c4) (.string ⟨#[]⟩) (.int .i64 0) (.int .u32 0) 43
      obtain ⟨V5, hV5⟩ : ∃ V, w4.alloc (.cells #[.slice A4 0 c4, .string ⟨#[]⟩, .int .i64 0, .int .u32 0] 43) = V := ⟨_, rfl⟩
      have hs5 : w4.heap.size < V5.heap.size := by rw [← hV5]; simp
      rw [hV5] at hbw5 hx5 ⊢
      clear hV5
      (with_reducible refine (of_err (fb ++ [120]) _ 3 (by simp; omega) F.out.2 (by decide)).mono ?_)
      rintro e w6 ⟨v, rfl, ⟨A6, c6, rfl⟩, hb6⟩
      have hbw6 := hbw5.trans (hb6.mono hbw5.size)
      obtain ⟨a0, a1, a2, a3⟩ := hx5.keep hb6 hs5
      have hs6 : w4.heap.size < w6.heap.size := Nat.lt_of_lt_of_le hs5 hb6.size
      go_wp2_with fail
      have hbw7 := hbw6.alloc hbw6.size (.cells #[.slice A6 0 c6, .string ⟨#[]⟩, .int .i64 0, .int .u32 0] 43)
      have hx7 := Box4.new w6 (.slice A6 0 c6) (.string ⟨#[]⟩) (.int .i64 0) (.int .u32 0) 43
      obtain ⟨V7, hV7⟩ : ∃ V, w6.alloc (.cells #[.slice A6 0 c6, .string ⟨#[]⟩, .int .i64 0, .int .u32 0] 43) = V := ⟨_, rfl⟩
      have hs7 : w6.heap.size < V7.heap.size := by rw [← hV7]; simp
      rw [hV7] at hbw7 hx7 ⊢
      clear hV7
      (with_reducible refine (same_none _ _ _ _ _).mono ?_)
      rintro e w8 ⟨v, rfl, rfl, hb8⟩
      have hbw8 := hbw7.trans (hb8.mono hbw7.size)
      clear a0 a1 a2 a3
      obtain ⟨a0, a1, a2, a3⟩ := hx7.keep hb8 hs7
      go_wp2_with fail
      (with_reducible refine (same_none _ _ _ _ _).mono ?_)
      rintro e w9 ⟨v, rfl, rfl, hb9⟩
      have hbw9 := hbw8.trans (hb9.mono hbw8.size)
      go_wp2_with fail
      (with_reducible refine (awake_any _).mono ?_)
      rintro e w10 ⟨v, rfl, rfl, hb10⟩
      go_wp2_with fail
      go_ret
      exact ⟨_, rfl, rfl, hbw9.trans (hb10.mono hbw9.size)⟩
    · go_wp2_with fail
      (with_reducible refine (awake_any _).mono ?_)
      rintro e w3 ⟨v, rfl, rfl, hb3⟩
      go_wp2_with fail
      go_ret
      exact ⟨_, rfl, rfl, hbw2.trans (hb3.mono hbw2.size)⟩
set_option maxRecDepth 100000 in
theorem exeCuts_lifted (os : Os) (started : os.Started) (H : Type) (enc : TypeId × Value → H) :
    ReturnsInHanded {} Try.checked os 12 .any (Rows.exeCutsSpec.pre6 enc Try.prog Try.f12 Rows.exeCutsRow.domain false) (Rows.exeCutsSpec.post enc Try.prog Try.f12 false true false false) := by
  refine returnsInHanded_of_change_sized (C := Try.checked) own started (by kernel_rfl) Try.func12
    (ChangeSpec.witness6 (enc := enc) (C := Try.checked) false ⟨#[], #[.agg #[.slice none 0 0, .string ⟨#[]⟩, .int .i64 0, .int .u32 0], .int .u16 0], []⟩ 8 (by kernel_rfl) (by kernel_rfl) (by kernel_rfl) (by kernel_rfl)) ?_
  intro W base args ds gs before hval0 hW hcnd hsz0 _
  have hval : ∀ (j : Nat) t v, Try.f12.params[j]? = some t → args[j]? = some v → Value.okWide Try.prog W .any base t v := hval0
  have hW' := hW
  obtain ⟨p, q, hA0, hV, rfl, hfz, hnd⟩ := hW
  have hA : DataW.TrodAll enc Try.prog W 0 (fun _ => true) true Try.f12.params.toList args.toList ds p := hA0
  have hsz : (DataW.weightsEach Try.prog (Try.f12.params.toList ++ Rows.exeCutsSpec.plain.varTypes Try.prog) (ds ++ gs)).all (· ≤ reachBytes) = true := hsz0
  rw [Try.params12] at hA hval hsz
  obtain ⟨v0, vs0, d0, ds0, p0, q0, hargs, rfl, rfl, h0, r0⟩ := trodAll_cons hA
  obtain ⟨v1, vs1, d1, ds1, p1, q1, rfl, rfl, rfl, h1, r1⟩ := trodAll_cons r0
  obtain ⟨rfl, rfl, rfl⟩ := trodAll_nil r1
  obtain rfl : args = #[v0, v1] := by cases args; simp_all
  obtain ⟨rfl, rfl⟩ := trodVars_none hV
  have k0 := h0
  have lt0 : ∀ x ∈ p0, x.block < W.heap.size := by obtain ⟨m, hm⟩ := k0; exact DataW.trod_lt m _ _ _ hm
  have hz0 : ∀ m ∈ d0.weights Try.prog 43, m ≤ reachBytes := fun m hm => by
    have h1 := List.all_eq_true.1 hsz m (DataW.weights_mem_each (j := 0) rfl rfl m hm)
    simpa using h1
  obtain ⟨A0, c0, x0, rfl, eA0, eB0, eC0⟩ := open_exe (hval 0 43 v0 rfl rfl) h0 hz0
  have k1 := h1
  have lt1 : ∀ x ∈ p1, x.block < W.heap.size := by obtain ⟨m, hm⟩ := k1; exact DataW.trod_lt m _ _ _ hm
  have hz1 : ∀ m ∈ d1.weights Try.prog 32, m ≤ reachBytes := fun m hm => by
    have h1 := List.all_eq_true.1 hsz m (DataW.weights_mem_each (j := 1) rfl rfl m hm)
    simpa using h1
  obtain ⟨x1, rfl, eA1⟩ := open_u16 (hval 1 32 v1 rfl rfl) h1 hz1
  clear hA0 hval0 hsz0
  refine (exeCuts_walk A0 c0 x0 x1 W eA0 eB0 eC0 eA1).mono fun e W' ⟨v, he, hv, bel⟩ => ?_
  subst he hv
  exact ⟨_, rfl, _, _, _, [], _, [], hW', trodAll_mk1 (shut_bool Try.underlying4 _), (trodAll_cons_mk (Below.trod laidOut (by kernel_rfl) (of_decide_eq_true (by kernel_rfl)) k0 bel lt0) (trodAll_cons_mk (Below.trod laidOut (by kernel_rfl) (of_decide_eq_true (by kernel_rfl)) k1 bel lt1) trodAll_mk0)), rfl, bel.frame _, fun h => by cases h⟩

theorem exeCuts_holds : Rows.ExeCutsSaid :=
  OpenClaim.holds_of_wide 12 Try.f12 rfl rfl rfl rfl rfl rfl rfl ⟨rfl, rfl, rfl, rfl, rfl⟩ rfl rfl rfl rfl rfl (by kernel_rfl) Try.func12 (by kernel_rfl)
    (of_decide_eq_true (by kernel_rfl)) (by unfold Func.isWrapper; first | (rw [if_pos (by decide +kernel)]; kernel_rfl) | (rw [if_neg (by decide +kernel)]; exact ⟨rfl, rfl⟩))
    (fun os started H enc _ => exeCuts_lifted os started H enc)
#print axioms exeCuts_holds
end Go.Proofs.Ytplhmhclcfclhaa
