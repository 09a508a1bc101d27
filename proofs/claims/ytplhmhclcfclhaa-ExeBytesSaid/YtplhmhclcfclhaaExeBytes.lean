/- ExeBytes holds: whether any program may be, and its file, or the error, are the document's; it is read as it again. No condition. -/
import Derived.Test.YtplhmhclcfclhaaExeCuts
namespace Go.Proofs.Ytplhmhclcfclhaa
open Go.ChangeShapes Go.WideShapes Go.ChangeAt Go.RowKit
set_option linter.unusedVariables false
set_option linter.unusedSimpArgs false
attribute [local go_sem] ba_get ba_cut ba_add

theorem of_file (x : Pl.Exe) (w : World) (hx : ExeOk x) (ht : ∀ y ∈ x.text, y < 4294967296) (hc : Pl.chk x = 0) :
    Calls Try.prog 33 #[.string ⟨(Pl.fileB x).toArray⟩] w (RetB (fun v w' => ∃ A c, v = .tuple #[exeV A c x, .int .i64 0] ∧ Rd w' 1 A x.text.length (u32s x.text)) w) := by
  have hcb : Pl.chkB x = false := by
    cases h : Pl.chkB x
    · rfl
    · simp [Pl.chk, h] at hc
  obtain ⟨g1, g2, g3, g4, g5, -⟩ := chk_ok hc
  have hl := Pl.fileB_len x
  have h0 := Pl.ofE_file x hcb ht
  have hX : Pl.ofX (Pl.fileB x) = x := by unfold Pl.ofX; rw [h0, if_pos rfl, Pl.body_file x hcb ht]
  refine (of_any (Pl.fileB x) w (by omega)).mono ?_
  rintro e w' ⟨v, rfl, ⟨A, c, rfl, hr⟩, hb'⟩
  rw [hX] at hr ⊢
  rw [h0]
  exact ⟨_, rfl, ⟨A, c, rfl, hr⟩, hb'⟩

set_option maxRecDepth 100000 in
set_option maxHeartbeats 2000000 in
theorem exeBytes_walk (A : Option Addr) (c : Nat) (x : Pl.Exe) (w : World) (ha : Rd w 1 A x.text.length (u32s x.text)) (hx : ExeOk x) (ht : ∀ y ∈ x.text, y < 4294967296) :
    Calls Try.prog 10 #[exeV A c x] w (RetB (fun v _ => v = .bool true) w) := by
  have hgr := great_any A c x
  have hrc := fun w => rcheck_any A c x w hx
  have hpc := fun w => check_any A c x w hx
  have hby := fun w h => bytes_any A c x w hx h ht
  have hrb := fun w h => rbytes_any A c x w hx h ht
  have hof := fun w => of_file x w hx ht
  have hsm := fun A' c' w h h' => same_eq A A' c c' x w hx h h'
  obtain ⟨gb, hgb⟩ : ∃ g, great x = g := ⟨_, rfl⟩
  obtain ⟨q, hq⟩ : ∃ q, Pl.chk x = q := ⟨_, rfl⟩
  obtain ⟨fb, hfb⟩ : ∃ f, Pl.fileB x = f := ⟨_, rfl⟩
  have hq01 : q = 0 ∨ q = 1 := by rw [← hq]; unfold Pl.chk; split <;> simp
  obtain ⟨fx, hfx⟩ : ∃ f, (if q = 0 then fb else []) = f := ⟨_, rfl⟩
  unfold bytesV at hby hrb
  rw [hgb] at hgr
  rw [hq, hfb, hfx] at hby hrb
  rw [hq, hfb] at hof
  rw [hq] at hrc hpc
  obtain ⟨t, d, room, entry⟩ := x
  have hev : ∀ A c, exeV A c ⟨t, d, room, entry⟩ = .agg #[.slice A t.length c, .string ⟨d.toArray⟩, .int .i64 room, .int .u32 (entry : Int)] := fun _ _ => rfl
  have hnn := hx.n
  simp only [hev] at ha hnn hgr hby hrb hof hsm hrc hpc ⊢
  obtain ⟨n, hn⟩ : ∃ n, t.length = n := ⟨_, rfl⟩
  simp only [hn] at ha hgr hrc hpc hby hrb hof hsm hnn ⊢
  have HF := Lib.hid (And.intro hgr (And.intro hrc (And.intro hpc (And.intro hby (And.intro hrb (And.intro hof (And.intro hsm (And.intro hn hfx))))))))
  clear hgr hrc hpc hby hrb hof hsm hx ht hn hev hq hfb hgb hfx
  go_enter Try.func10, Try.ntmps10
  go_wp2_with fail
  have hbox := Box4.new w (.slice A n c) (.string ⟨d.toArray⟩) (.int .i64 room) (.int .u32 (entry : Int)) 43
  have hbw : Below w.heap.size w (w.alloc (.cells #[.slice A n c, .string ⟨d.toArray⟩, .int .i64 room, .int .u32 (entry : Int)] 43)) := (Below.refl _ _).alloc (Nat.le_refl _) _
  have ha1 := ha.alloc (.cells #[.slice A n c, .string ⟨d.toArray⟩, .int .i64 room, .int .u32 (entry : Int)] 43)
  obtain ⟨V, hV⟩ : ∃ V, w.alloc (.cells #[.slice A n c, .string ⟨d.toArray⟩, .int .i64 room, .int .u32 (entry : Int)] 43) = V := ⟨_, rfl⟩
  have hs : w.heap.size < V.heap.size := by rw [← hV]; simp
  rw [hV] at hbox hbw ha1 ⊢
  clear hV
  (with_reducible refine (HF.out.1 V hnn).mono ?_)
  rintro e w1 ⟨v, rfl, rfl, hb1⟩
  have hbw1 := hbw.trans (hb1.mono hbw.size)
  have hx1 := hbox.keep hb1 hs
  have hs1 : w.heap.size < w1.heap.size := Nat.lt_of_lt_of_le hs hb1.size
  have ha2 := ha1.below hb1
  obtain ⟨a0, a1, a2, a3⟩ := hx1
  cases gb with
  | true =>
    go_wp2_with fail
    (with_reducible refine (awake_any _).mono ?_)
    rintro e w2 ⟨v, rfl, rfl, hb2⟩
    go_wp2_with fail
    go_ret
    exact ⟨_, rfl, rfl, hbw1.trans (hb2.mono hbw1.size)⟩
  | false =>
    go_wp2_with fail
    (with_reducible refine (HF.out.2.2.2.1 w1 ha2).mono ?_)
    rintro e w2 ⟨v, rfl, rfl, hb2⟩
    have hbw2 := hbw1.trans (hb2.mono hbw1.size)
    have hx2 := Box4.keep ⟨a0, a1, a2, a3⟩ hb2 hs1
    have hs2 : w.heap.size < w2.heap.size := Nat.lt_of_lt_of_le hs1 hb2.size
    have ha3 := ha2.below hb2
    clear a0 a1 a2 a3
    obtain ⟨a0, a1, a2, a3⟩ := hx2
    go_wp2_with fail
    (with_reducible refine (HF.out.2.2.2.2.1 w2 ha3).mono ?_)
    rintro e w3 ⟨v, rfl, rfl, hb3⟩
    have hbw3 := hbw2.trans (hb3.mono hbw2.size)
    have hx3 := Box4.keep ⟨a0, a1, a2, a3⟩ hb3 hs2
    have hs3 : w.heap.size < w3.heap.size := Nat.lt_of_lt_of_le hs2 hb3.size
    have ha4 := ha3.below hb3
    clear a0 a1 a2 a3
    go_wp2_with fail
    have hss : (fx != fx) = false := by simp
    have hqq : ((q : Int) != (q : Int)) = false := by simp
    go_cut [36] from 22 to 36 (fun s36 wx => s36 = .bool false ∧ Below w3.heap.size w3 wx)
    case first =>
      have hS3 : Box4 w3.drew w.heap.size (.slice A n c) (.string ⟨d.toArray⟩) (.int .i64 room) (.int .u32 (entry : Int)) := hx3
      have hd3 : Below w3.heap.size w3 w3.drew := (Below.refl _ _).drew
      refine wp_region_held_drew (S := (fun w' => Box4 w' w.heap.size (.slice A n c) (.string ⟨d.toArray⟩) (.int .i64 room) (.int .u32 (entry : Int)))) (by kernel_rfl) hS3 (fun hHeld => ?_)
      refine wpAnyH_take (i := 0) (v := ?_) rfl (by kernel_rfl) (by kernel_rfl) (by kernel_rfl) (fun _ _ _ h => h) (Or.inl ⟨by kernel_rfl, ?_⟩) hHeld ?_
      rotate_left
      · (intro w' hSw; obtain ⟨hS0, hS1, hS2, hS3⟩ := hSw; go_simp; try with_reducible rfl)
      simp only [Act.put, List.setIfInBounds_toArray, List.set_cons_zero, List.set_cons_succ, List.getElem_toArray, List.getElem_cons_succ, List.getElem_cons_zero]
      refine wpAnyH_take (i := 2) (v := ?_) rfl (by kernel_rfl) (by kernel_rfl) (by kernel_rfl) (fun _ _ _ h => h) (Or.inl ⟨by kernel_rfl, ?_⟩) hHeld ?_
      rotate_left
      · (intro w' hSw; obtain ⟨hS0, hS1, hS2, hS3⟩ := hSw; go_simp; try with_reducible rfl)
      simp only [Act.put, List.setIfInBounds_toArray, List.set_cons_zero, List.set_cons_succ, List.getElem_toArray, List.getElem_cons_succ, List.getElem_cons_zero]
      refine wpAnyH_ready (rs := [1]) (by kernel_rfl) (by simp) (AllReadyH.cons rfl (fun K hK => ?_) AllReadyH.nil)
      go_simp
      (with_reducible refine (HF.out.2.2.1 _).mono ?_)
      rintro e w4 ⟨v, rfl, rfl, hb4⟩
      have hd4 := hd3.trans hb4
      refine hK.out _ _ (hHeld.keep hb4 hs3) (fun hHeld => ?_)
      clear hK K
      (try simp only [Act.put, List.setIfInBounds_toArray, List.set_cons_zero, List.set_cons_succ, List.getElem_toArray, List.getElem_cons_succ, List.getElem_cons_zero])
      refine wpAnyH_ready (rs := [3]) (by kernel_rfl) (by simp) (AllReadyH.cons rfl (fun K hK => ?_) AllReadyH.nil)
      go_simp
      (with_reducible refine (HF.out.2.1 _).mono ?_)
      rintro e w5 ⟨v, rfl, rfl, hb5⟩
      have hd5 := hd4.trans (hb5.mono hd4.size)
      refine hK.out _ _ (hHeld.keep hb5 (Nat.lt_of_lt_of_le hs3 hd4.size)) (fun hHeld => ?_)
      clear hK K
      (try simp only [Act.put, List.setIfInBounds_toArray, List.set_cons_zero, List.set_cons_succ, List.getElem_toArray, List.getElem_cons_succ, List.getElem_cons_zero])
      refine wpAnyH_take (i := 4) (v := ?_) rfl (by kernel_rfl) (by kernel_rfl) (by kernel_rfl) (fun _ _ _ h => h) (Or.inl ⟨by kernel_rfl, ?_⟩) hHeld ?_
      rotate_left
      · (intro w' hSw; (try dsimp only at hSw); go_simp; try with_reducible rfl)
      simp only [Act.put, List.setIfInBounds_toArray, List.set_cons_zero, List.set_cons_succ, List.getElem_toArray, List.getElem_cons_succ, List.getElem_cons_zero]
      refine wpAnyH_take (i := 5) (v := ?_) rfl (by kernel_rfl) (by kernel_rfl) (by kernel_rfl) (fun _ _ _ h => h) (Or.inl ⟨by kernel_rfl, ?_⟩) hHeld ?_
      rotate_left
      · (intro w' hSw; (try dsimp only at hSw); go_simp; try with_reducible rfl)
      simp only [Act.put, List.setIfInBounds_toArray, List.set_cons_zero, List.set_cons_succ, List.getElem_toArray, List.getElem_cons_succ, List.getElem_cons_zero]
      refine wpAnyH_take (i := 6) (v := ?_) rfl (by kernel_rfl) (by kernel_rfl) (by kernel_rfl) (fun _ _ _ h => h) (Or.inl ⟨by kernel_rfl, ?_⟩) hHeld ?_
      rotate_left
      · (intro w' hSw; (try dsimp only at hSw); go_simp; try with_reducible rfl)
      simp only [Act.put, List.setIfInBounds_toArray, List.set_cons_zero, List.set_cons_succ, List.getElem_toArray, List.getElem_cons_succ, List.getElem_cons_zero]
      refine wpAnyH_take (i := 7) (v := ?_) rfl (by kernel_rfl) (by kernel_rfl) (by kernel_rfl) (fun _ _ _ h => h) (Or.inl ⟨by kernel_rfl, ?_⟩) hHeld ?_
      rotate_left
      · (intro w' hSw; (try dsimp only at hSw); go_simp; try with_reducible rfl)
      simp only [Act.put, List.setIfInBounds_toArray, List.set_cons_zero, List.set_cons_succ, List.getElem_toArray, List.getElem_cons_succ, List.getElem_cons_zero]
      refine wpAnyH_take (i := 8) (v := ?_) rfl (by kernel_rfl) (by kernel_rfl) (by kernel_rfl) (fun _ _ _ h => h) (Or.inl ⟨by kernel_rfl, ?_⟩) hHeld ?_
      rotate_left
      · (intro w' hSw; (try dsimp only at hSw); go_simp; try with_reducible rfl)
      simp only [Act.put, List.setIfInBounds_toArray, List.set_cons_zero, List.set_cons_succ, List.getElem_toArray, List.getElem_cons_succ, List.getElem_cons_zero]
      refine wpAnyH_take (i := 9) (v := ?_) rfl (by kernel_rfl) (by kernel_rfl) (by kernel_rfl) (fun _ _ _ h => h) (Or.inl ⟨by kernel_rfl, ?_⟩) hHeld ?_
      rotate_left
      · (intro w' hSw; (try dsimp only at hSw); go_simp; try with_reducible rfl)
      simp only [Act.put, List.setIfInBounds_toArray, List.set_cons_zero, List.set_cons_succ, List.getElem_toArray, List.getElem_cons_succ, List.getElem_cons_zero]
      refine wpAnyH_take (i := 10) (v := ?_) rfl (by kernel_rfl) (by kernel_rfl) (by kernel_rfl) (fun _ _ _ h => h) (Or.inl ⟨by kernel_rfl, ?_⟩) hHeld ?_
      rotate_left
      · (intro w' hSw; (try dsimp only at hSw); go_simp; try with_reducible rfl)
      simp only [Act.put, List.setIfInBounds_toArray, List.set_cons_zero, List.set_cons_succ, List.getElem_toArray, List.getElem_cons_succ, List.getElem_cons_zero]
      refine wpAnyH_take (i := 11) (v := ?_) rfl (by kernel_rfl) (by kernel_rfl) (by kernel_rfl) (fun _ _ _ h => h) (Or.inl ⟨by kernel_rfl, ?_⟩) hHeld ?_
      rotate_left
      · (intro w' hSw; (try dsimp only at hSw); go_simp; try with_reducible rfl)
      simp only [Act.put, List.setIfInBounds_toArray, List.set_cons_zero, List.set_cons_succ, List.getElem_toArray, List.getElem_cons_succ, List.getElem_cons_zero]
      refine wpAnyH_take (i := 12) (v := ?_) rfl (by kernel_rfl) (by kernel_rfl) (by kernel_rfl) (fun _ _ _ h => h) (Or.inl ⟨by kernel_rfl, ?_⟩) hHeld ?_
      rotate_left
      · (intro w' hSw; (try dsimp only at hSw); go_simp; try with_reducible rfl)
      simp only [Act.put, List.setIfInBounds_toArray, List.set_cons_zero, List.set_cons_succ, List.getElem_toArray, List.getElem_cons_succ, List.getElem_cons_zero]
      refine wpAnyH_take (i := 13) (v := ?_) rfl (by kernel_rfl) (by kernel_rfl) (by kernel_rfl) (fun _ _ _ h => h) (Or.inl ⟨by kernel_rfl, ?_⟩) hHeld ?_
      rotate_left
      · (intro w' hSw; (try dsimp only at hSw); go_simp; try with_reducible rfl)
      simp only [Act.put, List.setIfInBounds_toArray, List.set_cons_zero, List.set_cons_succ, List.getElem_toArray, List.getElem_cons_succ, List.getElem_cons_zero]
      refine wpAnyH_take (i := 14) (v := ?_) rfl (by kernel_rfl) (by kernel_rfl) (by kernel_rfl) (fun _ _ _ h => h) (Or.inl ⟨by kernel_rfl, ?_⟩) hHeld ?_
      rotate_left
      · (intro w' hSw; (try dsimp only at hSw); go_simp; try with_reducible rfl)
      simp only [Act.put, List.setIfInBounds_toArray, List.set_cons_zero, List.set_cons_succ, List.getElem_toArray, List.getElem_cons_succ, List.getElem_cons_zero]
      refine wpAnyH_done (by kernel_rfl) ?_ _
      go_wp2_with fail
      go_meet
      case rel => exact ⟨rfl, hd5⟩
    case rest =>
      obtain ⟨rfl, hd4⟩ := hcut
      have hbw4 := hbw3.trans (hd4.mono hbw3.size)
      have hx4 := hx3.keep hd4 hs3
      have hs4 : w.heap.size < wc.heap.size := Nat.lt_of_lt_of_le hs3 hd4.size
      have ha5 := ha4.below hd4
      rcases hq01 with rfl | rfl
      · obtain rfl : fb = fx := HF.out.2.2.2.2.2.2.2.2
        go_wp2_with fail
        (with_reducible refine (HF.out.2.2.2.2.2.1 _ (by simp)).mono ?_)
        rintro e w5 ⟨v, rfl, ⟨A5, c5, rfl, hr5⟩, hb5⟩
        have hbw5 := hbw4.trans (hb5.mono hbw4.size)
        have hx5 := hx4.keep hb5 hs4
        have hs5 : w.heap.size < w5.heap.size := Nat.lt_of_lt_of_le hs4 hb5.size
        have ha6 := ha5.below hb5
        have hx6 := hx5.keep ((Below.refl w5.heap.size w5).alloc (Nat.le_refl _) (.cells #[.slice A5 n c5, .string ⟨d.toArray⟩, .int .i64 room, .int .u32 (entry : Int)] 43)) hs5
        have hbw6 := hbw5.alloc hbw5.size (.cells #[.slice A5 n c5, .string ⟨d.toArray⟩, .int .i64 room, .int .u32 (entry : Int)] 43)
        have ha7 := ha6.alloc (.cells #[.slice A5 n c5, .string ⟨d.toArray⟩, .int .i64 room, .int .u32 (entry : Int)] 43)
        have hr6 := hr5.alloc (.cells #[.slice A5 n c5, .string ⟨d.toArray⟩, .int .i64 room, .int .u32 (entry : Int)] 43)
        obtain ⟨a0, a1, a2, a3⟩ := hx5
        go_wp2_with fail
        (with_reducible refine (HF.out.2.2.2.2.2.2.1 _ _ _ ?_ ?_).mono ?_)
        · exact ha7
        · exact hr6
        rintro e w7 ⟨v, rfl, rfl, hb7⟩
        have hbw7 := hbw6.trans (hb7.mono hbw6.size)
        go_wp2_with fail
        (with_reducible refine (awake_any _).mono ?_)
        rintro e w8 ⟨v, rfl, rfl, hb8⟩
        go_wp2_with fail
        go_ret
        exact ⟨_, rfl, rfl, hbw7.trans (hb8.mono hbw7.size)⟩
      · obtain rfl : ([] : List UInt8) = fx := HF.out.2.2.2.2.2.2.2.2
        go_wp2_with fail
        (with_reducible refine (of_err [] _ 4 (by simp) (by decide +kernel) (by decide)).mono ?_)
        rintro e w5 ⟨v, rfl, ⟨A5, c5, rfl⟩, hb5⟩
        have hbw5 := hbw4.trans (hb5.mono hbw4.size)
        have hbw6 := hbw5.alloc hbw5.size (.cells #[.slice A5 0 c5, .string ⟨#[]⟩, .int .i64 0, .int .u32 0] 43)
        go_wp2_with fail
        (with_reducible refine (awake_any _).mono ?_)
        rintro e w8 ⟨v, rfl, rfl, hb8⟩
        go_wp2_with fail
        go_ret
        exact ⟨_, rfl, rfl, hbw6.trans (hb8.mono hbw6.size)⟩
set_option maxRecDepth 100000 in
theorem exeBytes_lifted (os : Os) (started : os.Started) (H : Type) (enc : TypeId × Value → H) :
    ReturnsInHanded {} Try.checked os 10 .any (Rows.exeBytesSpec.pre6 enc Try.prog Try.f10 Rows.exeBytesRow.domain false) (Rows.exeBytesSpec.post enc Try.prog Try.f10 false true false false) := by
  refine returnsInHanded_of_change_sized (C := Try.checked) own started (by kernel_rfl) Try.func10
    (ChangeSpec.witness6 (enc := enc) (C := Try.checked) false ⟨#[], #[.agg #[.slice none 0 0, .string ⟨#[]⟩, .int .i64 0, .int .u32 0]], []⟩ 8 (by kernel_rfl) (by kernel_rfl) (by kernel_rfl) (by kernel_rfl)) ?_
  intro W base args ds gs before hval0 hW hcnd hsz0 _
  have hval : ∀ (j : Nat) t v, Try.f10.params[j]? = some t → args[j]? = some v → Value.okWide Try.prog W .any base t v := hval0
  have hW' := hW
  obtain ⟨p, q, hA0, hV, rfl, hfz, hnd⟩ := hW
  have hA : DataW.TrodAll enc Try.prog W 0 (fun _ => true) true Try.f10.params.toList args.toList ds p := hA0
  have hsz : (DataW.weightsEach Try.prog (Try.f10.params.toList ++ Rows.exeBytesSpec.plain.varTypes Try.prog) (ds ++ gs)).all (· ≤ reachBytes) = true := hsz0
  rw [Try.params10] at hA hval hsz
  obtain ⟨v0, vs0, d0, ds0, p0, q0, hargs, rfl, rfl, h0, r0⟩ := trodAll_cons hA
  obtain ⟨rfl, rfl, rfl⟩ := trodAll_nil r0
  obtain rfl : args = #[v0] := by cases args; simp_all
  obtain ⟨rfl, rfl⟩ := trodVars_none hV
  have k0 := h0
  have lt0 : ∀ x ∈ p0, x.block < W.heap.size := by obtain ⟨m, hm⟩ := k0; exact DataW.trod_lt m _ _ _ hm
  have hz0 : ∀ m ∈ d0.weights Try.prog 43, m ≤ reachBytes := fun m hm => by
    have h1 := List.all_eq_true.1 hsz m (DataW.weights_mem_each (j := 0) rfl rfl m hm)
    simpa using h1
  obtain ⟨A0, c0, x0, rfl, eA0, eB0, eC0⟩ := open_exe (hval 0 43 v0 rfl rfl) h0 hz0
  clear hA0 hval0 hsz0
  refine (exeBytes_walk A0 c0 x0 W eA0 eB0 eC0).mono fun e W' ⟨v, he, hv, bel⟩ => ?_
  subst he hv
  exact ⟨_, rfl, _, _, _, [], _, [], hW', trodAll_mk1 (shut_bool Try.underlying4 _), (trodAll_cons_mk (Below.trod laidOut (by kernel_rfl) (of_decide_eq_true (by kernel_rfl)) k0 bel lt0) trodAll_mk0), rfl, bel.frame _, fun h => by cases h⟩

theorem exeBytes_holds : Rows.ExeBytesSaid :=
  OpenClaim.holds_of_wide 10 Try.f10 rfl rfl rfl rfl rfl rfl rfl ⟨rfl, rfl, rfl, rfl, rfl⟩ rfl rfl rfl rfl rfl (by kernel_rfl) Try.func10 (by kernel_rfl)
    (of_decide_eq_true (by kernel_rfl)) (by unfold Func.isWrapper; first | (rw [if_pos (by decide +kernel)]; kernel_rfl) | (rw [if_neg (by decide +kernel)]; exact ⟨rfl, rfl⟩))
    (fun os started H enc _ => exeBytes_lifted os started H enc)
#print axioms exeBytes_holds
end Go.Proofs.Ytplhmhclcfclhaa
