/- The walk of policy.Text. -/
import Derived.Test.YtmncgnmgdkdhaaaGreatDoorPolT1
import Derived.Test.YtmncgnmgdkdhaaaGreatDoorPolJoin
import Derived.Test.YtmncgnmgdkdhaaaGreatDoorDecW
namespace Go.Proofs.YtmncgnmgdkdhaaaGreatDoor
open Go.RowKit
set_option linter.unusedVariables false
set_option linter.unusedSimpArgs false
def wsP (p : Pl.Pol) : List (List UInt8) := [Lib.itoa p.d ++ [100], Lib.itoa p.w ++ [119], Lib.itoa p.mo ++ [109], Lib.itoa p.y ++ [121]]
theorem wsP_at (p : Pl.Pol) (k : Nat) (hk : k < 4) : (wsP p).take (k + 1) = (wsP p).take k ++ [Lib.itoa (p.nums.getD k 0) ++ [unitL.getD k 0]] := by
  have : k = 0 ∨ k = 1 ∨ k = 2 ∨ k = 3 := by omega
  rcases this with rfl | rfl | rfl | rfl <;> rfl
theorem wsP_join (p : Pl.Pol) : Lib.join (wsP p) [32] = Pl.polT p := by
  unfold Lib.join wsP Pl.polT
  simp [List.intercalate]
theorem own_someT {w : World} {base : Nat} {e : TypeId} {k n : Nat} {v : Value} {xs : List Value} (h : w.ownsRow base e k v n xs) (hn : 0 < n) : ∃ g c, v = .slice (some ⟨g, 0, none⟩) n c ∧ n ≤ c := by
  rcases h.2 with ⟨-, h0⟩ | ⟨g, cap, cur, h1, -, -, h4, -⟩
  · omega
  · exact ⟨g, cap, h1, h4⟩
set_option maxRecDepth 100000 in
set_option maxHeartbeats 4000000 in
theorem text_any (p : Pl.Pol) (w : World) (hv : VTab w) : Calls Tryz.prog 13 #[polV p] w (RetB (fun v _ => v = .string ⟨(Pl.txP p).toArray⟩) w) := by
  have hck := fun W => pcheck_any p W
  have hnm := fun W => numbers_any p W
  have hpc : polV p = .agg #[.int .i64 p.d, .int .i64 p.w, .int .i64 p.mo, .int .i64 p.y] := rfl
  obtain ⟨E, hE⟩ : ∃ E : Nat, E = Pl.polE p := ⟨_, rfl⟩
  rw [nums_val] at hnm
  rw [hpc, ← hE] at hck
  rw [hpc] at hnm ⊢
  obtain ⟨nd, hnd⟩ : ∃ x, x = p.d := ⟨_, rfl⟩
  obtain ⟨nw, hnw⟩ : ∃ x, x = p.w := ⟨_, rfl⟩
  obtain ⟨nm, hnm'⟩ : ∃ x, x = p.mo := ⟨_, rfl⟩
  obtain ⟨ny, hny⟩ : ∃ x, x = p.y := ⟨_, rfl⟩
  rw [← hnd, ← hnw, ← hnm', ← hny] at hck hnm ⊢
  obtain ⟨NL, hNL⟩ : ∃ l, l = p.nums := ⟨_, rfl⟩
  rw [← hNL] at hnm
  have HH := Lib.hid (And.intro hck (And.intro hnm (And.intro hE (And.intro hNL hv)))); clear hck hnm hE hpc hv hNL hnd hnw hnm' hny
  go_enter Tryz.func13, Tryz.ntmps13
  go_wp2_with fail
  refine (HH.out.1 _).mono ?_
  rintro e w1 ⟨v, rfl, rfl, hb1⟩
  by_cases hE0 : E = 0
  rotate_left
  · have hne : ((E : Int) != 0) = true := by rw [bne_iff_ne]; omega
    have htx : Pl.txP p = [] := by unfold Pl.txP; rw [if_neg (by rw [← HH.out.2.2.1]; exact hE0)]
    clear hE0
    go_wp2_with fail
    go_ret
    exact ⟨_, rfl, by rw [htx]; rfl, ((Below.refl _ _).alloc (Nat.le_refl _) _).trans (hb1.mono (by simp))⟩
  · subst hE0
    go_wp2_with fail
    refine (units_any w1).mono ?_
    rintro e w2 ⟨v, rfl, rfl, hb2⟩
    go_upto_region 4 with (fail)
    generalize hV : World.alloc w2 _ = V
    have hu : V.heap[w2.heap.size]? = some (.cells #[.string ⟨#[100]⟩, .string ⟨#[119]⟩, .string ⟨#[109]⟩, .string ⟨#[121]⟩] 53 (0, 0)) := by rw [← hV]; exact heap_alloc_new w2 _
    have hb0 : Below w.heap.size w w1 := ((Below.refl _ _).alloc (Nat.le_refl _) _).trans (hb1.mono (by simp))
    have hbV : Below w.heap.size w V := by rw [← hV]; exact (hb0.trans (hb2.mono hb0.size)).alloc (by have := hb0.size; have := hb2.size; omega) _
    have hbx : V.heap[w.heap.size]? = some (.cells #[.int .i64 nd, .int .i64 nw, .int .i64 nm, .int .i64 ny] 23 (0, 0)) := by
      rw [← hV]
      refine (Below.heap_alloc _ _ _ ?_).trans ((hb2.block _ ?_).trans ((hb1.block _ (by simp)).trans (heap_alloc_new w _)))
      · have := hb1.size; have := hb2.size; simp at *; omega
      · have := hb1.size; simp at *; omega
    clear hV hb0 hb1 hb2
    generalize w2.heap.size = Bu at hu ⊢
    obtain ⟨cur, hcur, hmk⟩ := make_empty (P := Tryz.prog) 51 9 (.string ⟨#[]⟩) 1 16 Tryz.underlying51 info_str 4 (by omega) (by omega)
    replace hmk : ∀ W : World, (Instr.makeSlice 51 (.int .i64 0) (.int .i64 4)).run Tryz.prog W = .ok (.slice (some ⟨W.heap.size, 0, none⟩) 0 4) (W.alloc (.cells cur 9)) := hmk
    go_upto_region 5 with (fail)
    have hown : World.ownsRow (V.alloc (.cells cur 9)) V.heap.size 9 1 (.slice (some ⟨V.heap.size, 0, none⟩) 0 4) 0 [] := World.ownsRow_made (base := V.heap.size) V cur 4 (Nat.le_refl _) (by simp only [maxLen]; omega) (by rw [hcur])
    clear hmk
    generalize hV2 : World.alloc V _ = V2 at hown ⊢
    have hb2 : Below V.heap.size V V2 := by rw [← hV2]; exact (Below.refl _ _).alloc (Nat.le_refl _) _
    have hbu := blk_lt hu
    replace hu := (hb2.block _ (blk_lt hu)).trans hu
    replace hbx := (hb2.block _ (blk_lt hbx)).trans hbx
    have hB0 := hbV.size
    have hBv := hb2.size
    replace hbV := hbV.trans (hb2.mono hbV.size)
    clear hV2 hcur cur hb2
    have hBu : Bu < V.heap.size := hbu
    generalize V.heap.size = B0 at hown hB0 hBu hBv ⊢
    have x0 : V2.cell? ⟨w.heap.size, 0, none⟩ = some (.int .i64 nd) := cell_row V2 _ 0 _ _ hbx
    have x1 : V2.cell? ⟨w.heap.size, 1, none⟩ = some (.int .i64 nw) := cell_row V2 _ 1 _ _ hbx
    have x2 : V2.cell? ⟨w.heap.size, 2, none⟩ = some (.int .i64 nm) := cell_row V2 _ 2 _ _ hbx
    have x3 : V2.cell? ⟨w.heap.size, 3, none⟩ = some (.int .i64 ny) := cell_row V2 _ 3 _ _ hbx
    go_wp2_with fail
    refine (HH.out.2.1 _).mono ?_
    rintro e w5 ⟨v, rfl, rfl, hb5⟩
    clear x0 x1 x2 x3 hbx
    have hu5 := (hb5.block _ (blk_lt hu)).trans hu
    have hown5 := own_below hown hb5
    have hbw5 := hbV.trans (hb5.mono hbV.size)
    have hsz5 := Nat.le_trans hBv hb5.size
    clear hu hown hb5
    go_wp2_with fail
    go_loopw [4, 14] (fun v i wr => ∃ k : Nat, k ≤ 4 ∧ i = .int .i64 k ∧ wr.ownsRow B0 9 1 v k (strs ((wsP p).take k)) ∧ wr.heap[Bu]? = some (.cells #[.string ⟨#[100]⟩, .string ⟨#[119]⟩, .string ⟨#[109]⟩, .string ⟨#[121]⟩] 53 (0, 0)) ∧ Below w.heap.size w wr ∧ B0 ≤ wr.heap.size) (fun _ i _ => 4 - (intOf i).toNat)
    case atStart => exact ⟨0, by omega, rfl, hown5, hu5, hbw5, hsz5⟩
    case round =>
      obtain ⟨k, hk, rfl, hI, hu, hb, hsz⟩ := hrel
      obtain ⟨A, c, rfl⟩ := own_form' hI
      by_cases hk4 : k < 4
      · obtain ⟨x, hx⟩ : ∃ x, NL.getD k 0 = x := ⟨_, rfl⟩
        have hix := fun W => index_ints4 NL k (by rw [HH.out.2.2.2.1]; rfl) hk4 W
        rw [hx] at hix
        obtain ⟨g, hg⟩ : ∃ g, unitL.getD k 0 = g := ⟨_, rfl⟩
        have cu : wr.cell? ⟨Bu, k, none⟩ = some (.string ⟨#[g]⟩) := by
          rw [cell_row wr Bu k _ _ hu, ← hg]
          have : k = 0 ∨ k = 1 ∨ k = 2 ∨ k = 3 := by omega
          rcases this with rfl | rfl | rfl | rfl <;> rfl
        have hxI : Pl.I64 x := by
          obtain ⟨h1, h2, h3, h4⟩ := Pl.polE_fit HH.out.2.2.1.symm
          rw [HH.out.2.2.2.1] at hx
          have : k = 0 ∨ k = 1 ∨ k = 2 ∨ k = 3 := by omega
          rcases this with rfl | rfl | rfl | rfl <;> (subst hx; simp only [Pl.Pol.nums, List.getD_cons_zero, List.getD_cons_succ]; exact Pl.fit_I64 (by assumption))
        have k0 : (0 : Int) ≤ (k : Int) := by omega
        have k1 : (k : Int) < (4 : Int) := by omega
        have HK := Lib.hid (And.intro hI (And.intro hu (And.intro hb (And.intro hx (And.intro hg hxI))))); clear hI hu hb hx hg hxI
        go_upto_region 8 with (fail)
        refine wp_region_held_drew (S := (fun w' => w'.cell? ⟨Bu, k, none⟩ = some (.string ⟨#[g]⟩))) (by kernel_rfl) (by exact cu) (fun hHeld => ?_)
        refine wpAnyH_take (i := 0) (v := ?_) rfl (by kernel_rfl) (by kernel_rfl) (by kernel_rfl) (fun _ _ _ h => h) (Or.inl ⟨by kernel_rfl, ?_⟩) hHeld ?_
        rotate_left
        · (intro w' hSw; (try dsimp only at hSw); go_simp; try with_reducible rfl)
        simp only [Act.put, List.setIfInBounds_toArray, List.set_cons_zero, List.set_cons_succ, List.getElem_toArray, List.getElem_cons_succ, List.getElem_cons_zero]
        refine wpAnyH_take (i := 1) (v := ?_) rfl (by kernel_rfl) (by kernel_rfl) (by kernel_rfl) (fun _ _ _ h => h) (Or.inl ⟨by kernel_rfl, ?_⟩) hHeld ?_
        rotate_left
        · (intro w' hSw; (try dsimp only at hSw); go_simp; try with_reducible rfl)
        simp only [Act.put, List.setIfInBounds_toArray, List.set_cons_zero, List.set_cons_succ, List.getElem_toArray, List.getElem_cons_succ, List.getElem_cons_zero]
        refine wpAnyH_take (i := 3) (v := ?_) rfl (by kernel_rfl) (by kernel_rfl) (by kernel_rfl) (fun _ _ _ h => h) (Or.inl ⟨by kernel_rfl, ?_⟩) hHeld ?_
        rotate_left
        · (intro w' hSw; (try dsimp only at hSw); go_simp; try with_reducible rfl)
        simp only [Act.put, List.setIfInBounds_toArray, List.set_cons_zero, List.set_cons_succ, List.getElem_toArray, List.getElem_cons_succ, List.getElem_cons_zero]
        refine wpAnyH_take (i := 4) (v := ?_) rfl (by kernel_rfl) (by kernel_rfl) (by kernel_rfl) (fun _ _ _ h => h) (Or.inl ⟨by kernel_rfl, ?_⟩) hHeld ?_
        rotate_left
        · (intro w' hSw; (try dsimp only at hSw); go_simp; try with_reducible rfl)
        simp only [Act.put, List.setIfInBounds_toArray, List.set_cons_zero, List.set_cons_succ, List.getElem_toArray, List.getElem_cons_succ, List.getElem_cons_zero]
        refine wpAnyH_take (i := 5) (v := ?_) rfl (by kernel_rfl) (by kernel_rfl) (by kernel_rfl) (fun _ _ _ h => h) (Or.inl ⟨by kernel_rfl, ?_⟩) hHeld ?_
        rotate_left
        · (intro w' hSw; (try dsimp only at hSw); go_simp; try with_reducible rfl)
        simp only [Act.put, List.setIfInBounds_toArray, List.set_cons_zero, List.set_cons_succ, List.getElem_toArray, List.getElem_cons_succ, List.getElem_cons_zero]
        have HD := Lib.hid (And.intro HK.out.1.drew (And.intro ((HH.out.2.2.2.2.below HK.out.2.2.1).below (Below.refl _ _).drew) (And.intro (HK.out.2.2.1.drew) (show wr.drew.heap[Bu]? = _ from HK.out.2.1))))
        have hsz8 : B0 ≤ wr.drew.heap.size := hsz
        generalize hV8 : wr.drew = V8 at hHeld HD hsz8 ⊢
        clear hV8
        refine wpAnyH_ready (rs := [2]) (by kernel_rfl) (by simp) (AllReadyH.cons rfl (fun K hK => ?_) AllReadyH.nil)
        go_simp
        refine (dec_any x V8 HK.out.2.2.2.2.2 HD.out.2.1).mono ?_
        rintro e W1 ⟨v, rfl, rfl, hb1⟩
        have hc1 : W1.cell? ⟨Bu, k, none⟩ = some (.string ⟨#[g]⟩) := (hb1.cell (World.block_lt_of_cell? V8 _ hHeld)).trans hHeld
        clear hHeld
        refine hK.out _ _ (by exact hc1) (fun hHeld => ?_)
        clear hK K
        (try simp only [Act.put, List.setIfInBounds_toArray, List.set_cons_zero, List.set_cons_succ, List.getElem_toArray, List.getElem_cons_succ, List.getElem_cons_zero])
        have hlen : ¬ 9223372036854775807 < (Lib.itoa x).length + 1 := by have := (Pl.itoa_len HK.out.2.2.2.2.2).2; omega
        refine wpAnyH_take (i := 6) (v := ?_) rfl (by kernel_rfl) (by kernel_rfl) (by kernel_rfl) (fun _ _ _ h => h) (Or.inl ⟨by kernel_rfl, ?_⟩) hHeld ?_
        rotate_left
        · (intro w' hSw; (try dsimp only at hSw); go_simp; try with_reducible rfl)
        simp only [Act.put, List.setIfInBounds_toArray, List.set_cons_zero, List.set_cons_succ, List.getElem_toArray, List.getElem_cons_succ, List.getElem_cons_zero]
        have hbW1 := HD.out.2.2.1.trans (hb1.mono HD.out.2.2.1.size)
        have hO1 := own_below HD.out.1 hb1
        have hu1 := (hb1.block _ (blk_lt HD.out.2.2.2)).trans HD.out.2.2.2
        have hsz1 : B0 ≤ W1.heap.size := Nat.le_trans hsz8 hb1.size
        obtain ⟨y, hy⟩ : ∃ y, (⟨(Lib.itoa x).toArray⟩ : ByteArray) ++ ⟨#[g]⟩ = y := ⟨_, rfl⟩
        rw [hy]
        refine wpAnyH_ready (rs := [7]) (by kernel_rfl) (by simp) (AllReadyH.cons rfl (fun K hK => ?_) AllReadyH.nil)
        go_simp
        have hS3 : (W1.alloc (.cells #[.string y] 9)).cell? ⟨Bu, k, none⟩ = some (.string ⟨#[g]⟩) := (World.cell?_alloc_lt _ _ _ (World.block_lt_of_cell? _ _ hc1)).trans hc1
        have hO3 : (W1.alloc (.cells #[.string y] 9)).ownsRow B0 9 1 (.slice A k c) k (strs ((wsP p).take k)) := hO1.alloc _
        have hB3 : Below w.heap.size w (W1.alloc (.cells #[.string y] 9)) := hbW1.alloc hbW1.size _
        have hu3 := (Below.heap_alloc W1 (.cells #[.string y] 9) _ (blk_lt hu1)).trans hu1
        have hy3 : (W1.alloc (.cells #[.string y] 9)).cell? ⟨W1.heap.size, 0, none⟩ = some (.string y) := World.cell?_alloc_new _ _ _ _
        have hso3 : B0 ≤ (W1.alloc (.cells #[.string y] 9)).heap.size := by simp; omega
        generalize hA : World.alloc W1 _ = W3
        rw [show W1.alloc (.cells #[.string y] 9) = W3 from hA] at hS3 hO3 hB3 hy3 hso3 hu3
        clear hA
        refine hK.out _ _ (by exact hS3) (fun hHeld => ?_)
        clear hK K
        (try simp only [Act.put, List.setIfInBounds_toArray, List.set_cons_zero, List.set_cons_succ, List.getElem_toArray, List.getElem_cons_succ, List.getElem_cons_zero])
        refine wpAnyH_ready (rs := [8]) (by kernel_rfl) (by simp) (AllReadyH.cons rfl (fun K hK => ?_) AllReadyH.nil)
        refine step_pushes rfl (.tmp 18) (.tmp 25) 51 rfl B0 9 (.string ⟨#[]⟩) 16 Tryz.underlying51 info_str rfl _ _ k (strs ((wsP p).take k)) [.string y] W1.heap.size 0 1 1 (by rfl) hO3 (by rfl) rfl (by omega) (fun j' u hu => by
          rcases j' with _ | j'
          · rw [← hu]; exact hy3
          · simp at hu) (by intro u hu; simp at hu; subst hu; rfl) (by omega) (by omega) hso3 ?_
        intro A2 c2 w2 hown2 hb2
        refine hK.out _ _ (by exact (hb2.cell (p := ⟨Bu, k, none⟩) hBu).trans hS3) (fun hHeld => ?_)
        clear hK K
        (try simp only [Act.put, List.setIfInBounds_toArray, List.set_cons_zero, List.set_cons_succ, List.getElem_toArray, List.getElem_cons_succ, List.getElem_cons_zero])
        refine wpAnyH_take (i := 9) (v := ?_) rfl (by kernel_rfl) (by kernel_rfl) (by kernel_rfl) (fun _ _ _ h => h) (Or.inl ⟨by kernel_rfl, ?_⟩) hHeld ?_
        rotate_left
        · (intro w' hSw; (try dsimp only at hSw); go_simp; try with_reducible rfl)
        simp only [Act.put, List.setIfInBounds_toArray, List.set_cons_zero, List.set_cons_succ, List.getElem_toArray, List.getElem_cons_succ, List.getElem_cons_zero]
        refine wpAnyH_done (by kernel_rfl) ?_ _
        go_wp2_with fail
        refine ⟨⟨k + 1, by omega, by rw [Int.natCast_add]; rfl, ?_, (hb2.block _ hBu).trans hu3, hB3.trans (hb2.mono hB0), Nat.le_trans hso3 hb2.size⟩, by simp [intOf]; omega⟩
        have e : strs ((wsP p).take (k + 1)) = strs ((wsP p).take k) ++ [.string y] := by
          rw [wsP_at p k hk4, ← HH.out.2.2.2.1, HK.out.2.2.2.1, show unitL.getD k 0 = g from HK.out.2.2.2.2.1, ← hy]
          unfold strs
          rw [List.map_append]
          congr 1
        rw [e]; exact hown2
      · obtain rfl : k = 4 := by omega
        obtain ⟨g, c', e, hc⟩ := own_someT hI (by omega)
        injection e with e1 e2 e3
        subst e1 e3
        have e4 : (wsP p).take 4 = wsP p := rfl
        rw [e4] at hI
        have hj := fun W h1 h2 h3 => join_many g 0 c ((wsP p).map fun l => ⟨l.toArray⟩) ⟨#[32]⟩ W h1 h2 (by simp [wsP]) (by simp [wsP]) (by simp [wsP]; omega) h3
        have ej : ((wsP p).map fun l => (⟨l.toArray⟩ : ByteArray)).map (·.data.toList) = wsP p := by rw [List.map_map]; simp [Function.comp_def]
        have ej2 : (⟨#[32]⟩ : ByteArray).data.toList = [32] := rfl
        rw [ej, ej2, wsP_join] at hj
        have hlt := (World.ownsRow.lt hI g rfl).2
        have hcl : ∀ (j : Nat) x, ((wsP p).map fun l => (⟨l.toArray⟩ : ByteArray))[j]? = some x → wr.cell? ⟨g, 0 + j, none⟩ = some (.string x) := by
          intro j x h
          have hjl : j < 4 := by
            rcases Nat.lt_or_ge j 4 with h4 | h4
            · exact h4
            · rw [List.getElem?_eq_none (by simpa [wsP] using h4)] at h; cases h
          rw [Nat.zero_add, World.ownsRow.cellAt hI j (by simpa [strs, wsP] using hjl)]
          unfold strs
          rw [List.getElem?_map] at h
          rw [List.getElem?_map]
          cases hh : (wsP p)[j]? with
          | none => rw [hh] at h; cases h
          | some z => rw [hh] at h; injection h with h; rw [← h]; rfl
        have hl : (Pl.polT p).length ≤ 140737488355328 := by
          obtain ⟨h1, h2, h3, h4⟩ := Pl.polE_fit HH.out.2.2.1.symm
          have g1 := (Pl.itoa_len (Pl.fit_I64 h1)).2
          have g2 := (Pl.itoa_len (Pl.fit_I64 h2)).2
          have g3 := (Pl.itoa_len (Pl.fit_I64 h3)).2
          have g4 := (Pl.itoa_len (Pl.fit_I64 h4)).2
          unfold Pl.polT
          simp only [List.length_append, List.length_cons, List.length_nil]
          omega
        have hjj := hj wr hcl hlt hl
        have htx : Pl.txP p = Pl.polT p := by unfold Pl.txP; rw [if_pos HH.out.2.2.1.symm]
        have HJ := Lib.hid (And.intro hjj (And.intro hb htx)); clear hj hjj hcl hl hlt hI hu hb htx ej ej2 hu5 hown5 hbw5 e4
        go_wp2_with fail
        refine (HJ.out.1).mono ?_
        rintro e w6 ⟨rfl, hb6⟩
        go_wp2_with fail
        go_ret
        exact ⟨_, rfl, by rw [HJ.out.2.2]; rfl, HJ.out.2.1.trans (hb6.mono HJ.out.2.1.size)⟩
end Go.Proofs.YtmncgnmgdkdhaaaGreatDoor
