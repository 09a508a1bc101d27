/- The walk of exe.Of at a file whose lengths are right. -/
import Derived.Test.YtplhmhclcfclhaaOfW2
import Derived.Test.YtplhmhclcfclhaaSteady
import Derived.Deep.CutRange
import Derived.Deep.OwnRows
namespace Go.Proofs.Ytplhmhclcfclhaa
open Go.RowKit
set_option linter.unusedVariables false
set_option linter.unusedSimpArgs false
attribute [local go_sem] ba_get ba_cut ba_add

theorem made_rep (z : Value) (n : Nat) : madeCells #[z] n = (List.replicate n z).toArray := by
  apply Array.ext
  · simp [madeCells]
  · intro i h1 h2
    have : i % 1 = 0 := Nat.mod_one i
    simp [madeCells, this]
theorem heap_alloc_2 (w : World) (o1 o2 : Obj) : ((w.alloc o1).alloc o2).heap[w.heap.size + 1]? = some o2 := by
  have := heap_alloc_new (w.alloc o1) o2
  simpa using this
theorem set_at (w : World) (g j : Nat) (cs : Array Value) (y : Value) (t : TypeId) (h : w.heap[g]? = some (.cells cs t (0, 0))) : (w.setCell ⟨g, j, none⟩ y).heap[g]? = some (.cells (cs.setIfInBounds j y) t (0, 0)) := by
  simp [World.setCell, Array.getElem?_modify, h]
/-- The words so far, then zeros. -/
def txt (b : List UInt8) (k j : Nat) : List Value := ((List.range j).map fun i => .int .u32 (Pl.fieldN b (14 + 4 * i) 4 : Int)) ++ List.replicate (k - j) (.int .u32 0)
theorem txt_0 (b : List UInt8) (k : Nat) : (txt b k 0).toArray = Array.replicate k (.int .u32 0) := by simp [txt]
theorem txt_len (b : List UInt8) (k j : Nat) (h : j ≤ k) : (txt b k j).length = k := by simp [txt]; omega
theorem txt_set (b : List UInt8) (k j : Nat) (h : j < k) : (txt b k j).toArray.setIfInBounds j (.int .u32 (Pl.fieldN b (14 + 4 * j) 4 : Int)) = (txt b k (j + 1)).toArray := by
  obtain ⟨d, rfl⟩ : ∃ d, k = j + 1 + d := ⟨k - (j + 1), by omega⟩
  rw [List.setIfInBounds_toArray]
  unfold txt
  rw [show j + 1 + d - j = d + 1 by omega, show j + 1 + d - (j + 1) = d by omega, List.replicate_succ, List.set_append, if_neg (by simp), List.range_succ]
  simp
theorem txt_full (b : List UInt8) (k : Nat) (h : Pl.fieldN b 8 2 = k) : txt b k k = u32s (Pl.bodyE b).text := by
  unfold txt u32s Pl.bodyE
  rw [h]; simp [Function.comp_def]
theorem info_u32 : (Try.prog.info? 41).map (fun i => (i.zero, i.size, i.bytes)) = some (some (.int .u32 0), 1, 4) := by kernel_rfl

theorem lt_of_blk {w : World} {g : Nat} {o : Obj} (h : w.heap[g]? = some o) : g < w.heap.size := by
  rcases Nat.lt_or_ge g w.heap.size with hlt | hge
  · exact hlt
  · rw [Array.getElem?_eq_none hge] at h; cases h
theorem bodyE_ok (b : List UInt8) (hb : b.length ≤ 140737488355328) : ExeOk (Pl.bodyE b) := by
  have h1 := Pl.fieldN_2 b 8
  have h2 := Pl.fieldN_2 b 12
  have h3 := Pl.fieldN_4 b 4
  refine ⟨?_, ?_, ?_, ?_, ?_⟩ <;> simp only [Pl.bodyE, List.length_map, List.length_range, List.length_drop] <;> omega

set_option maxRecDepth 100000 in
set_option maxHeartbeats 1000000 in
theorem of_good (b : List UInt8) (w : World) (hb : b.length ≤ 140737488355328) (hhb : Pl.headBad b = false) (h14 : 14 ≤ b.length) (hlen : b.length = 14 + 4 * Pl.fieldN b 8 2 + Pl.fieldN b 10 2) :
    Calls Try.prog 33 #[.string ⟨b.toArray⟩] w (RetB (OfOut b) w) := by
  obtain ⟨m, hm⟩ : ∃ m, min b.length 4 = m := ⟨_, rfl⟩
  have hm4 : m ≤ 4 := by omega
  have hmb : m ≤ b.length := by omega
  have hmi : min (b.length : Int) 4 = (m : Int) := by omega
  have hr : (b.take m == ([104, 105, 98, 120] : List UInt8).take m) = true := by
    have := of_decide_eq_false hhb
    rw [hm, Classical.not_not] at this
    rw [this]; simp [Pl.magicB]
  have hf8 := Pl.fieldN_2 b 8
  have hf10 := Pl.fieldN_2 b 10
  have hf12 := Pl.fieldN_2 b 12
  have hf4 := Pl.fieldN_4 b 4
  have h14' : decide ((b.length : Int) < 14) = false := decide_eq_false (by omega)
  have hfa := fun (B a s : Nat) (ia iz : Int) (h1 : ia = a) (h2 : iz = s) (w : World) => field_int B b a s ia iz h1 h2 w
  have HF := Lib.hid hfa; clear hfa
  obtain ⟨k, hk⟩ : ∃ k, Pl.fieldN b 8 2 = k := ⟨_, rfl⟩
  obtain ⟨z, hz⟩ : ∃ z, Pl.fieldN b 10 2 = z := ⟨_, rfl⟩
  obtain ⟨rm, hrm⟩ : ∃ z, Pl.fieldN b 12 2 = z := ⟨_, rfl⟩
  obtain ⟨en, hen⟩ : ∃ z, Pl.fieldN b 4 4 = z := ⟨_, rfl⟩
  have hEq : Pl.ofE b = if Pl.chk (Pl.bodyE b) = 0 then 0 else 3 := by
    unfold Pl.ofE; rw [hhb, ← hlen]; simp; omega
  rw [hk, hz] at hlen
  rw [hk] at hf8
  rw [hz] at hf10
  rw [hrm] at hf12
  rw [hen] at hf4
  have HK := Lib.hid (And.intro hk (And.intro hz (And.intro hrm (And.intro hen (And.intro hEq (And.intro hm (And.intro hhb hlen))))))); clear hk hz hrm hen hEq hm hhb
  have e1 : IntKind.i64.wrap (4 * (k : Int)) = 4 * (k : Int) := IntWalk.i64_in _ (by omega)
  have e2 : IntKind.i64.wrap (14 + 4 * (k : Int)) = 14 + 4 * (k : Int) := IntWalk.i64_in _ (by omega)
  have e3 : IntKind.i64.wrap (14 + 4 * (k : Int) + (z : Int)) = 14 + 4 * (k : Int) + (z : Int) := IntWalk.i64_in _ (by omega)
  have hlo' : decide ((b.length : Int) < 14 + 4 * (k : Int) + (z : Int)) = false := decide_eq_false (by omega)
  have hhi' : decide (14 + 4 * (k : Int) + (z : Int) < (b.length : Int)) = false := decide_eq_false (by omega)
  have hmk : ∀ W : World, (Instr.makeSlice 40 (.int .i64 (k : Int)) (.int .i64 (k : Int))).run Try.prog W = .ok (.slice (some ⟨W.heap.size, 0, none⟩) k k) (W.alloc (.cells (List.replicate k (.int .u32 0)).toArray 41)) := by
    intro W
    rw [← made_rep]
    exact run_make_row' 40 41 (.int .u32 0) 4 Try.underlying40 info_u32 rfl .i64 .i64 k (by omega) (by omega) W
  have s1 : (14 + 4 * (k : Int)).toNat = 14 + 4 * k := by omega
  have s2 : (14 + 4 * (k : Int) + (z : Int)).toNat = 14 + 4 * k + z := by omega
  have s3 : (0 : Int) ≤ 14 + 4 * (k : Int) := by omega
  have s4 : 14 + 4 * (k : Int) ≤ 14 + 4 * (k : Int) + (z : Int) := by omega
  have s5 : 14 + 4 * (k : Int) + (z : Int) ≤ (b.length : Int) := by omega
  have s6 : (0 : Int) ≤ 14 + 4 * (k : Int) + (z : Int) := by omega
  have s7 : 14 + 4 * k + z - (14 + 4 * k) = z := by omega
  have s8 : IntKind.u32.wrap (en : Int) = en := by rw [IntKind.wrap_u32]; omega
  clear hlen
  go_enter Try.func33, Try.ntmps33
  go_wp2_with fail
  go_quiet (fail)
  go_wp2_with fail
  (with_reducible refine (HF.out w.heap.size 8 2 8 2 rfl rfl _ ?_ (by omega) (by omega) (by omega)).mono ?_)
  · simp [go_sem]
  rintro e w1 ⟨rfl, rfl⟩
  rw [HK.out.1]
  go_wp2_with fail
  (with_reducible refine (HF.out w.heap.size 10 2 10 2 rfl rfl _ ?_ (by omega) (by omega) (by omega)).mono ?_)
  · simp [go_sem]
  rintro e w1 ⟨rfl, rfl⟩
  rw [HK.out.2.1]
  go_wp2_with fail
  obtain ⟨W, hW⟩ : ∃ W, W = ((w.alloc (.cells #[.string ⟨b.toArray⟩] 9)).alloc (.cells #[.slice none 0 0, .string ⟨#[]⟩, .int .i64 0, .int .u32 0] 43)).drewN nq := ⟨_, rfl⟩
  have hc : W.cell? ⟨w.heap.size, 0, none⟩ = some (.string ⟨b.toArray⟩) := by rw [hW]; simp [go_sem]
  have hsz : W.heap.size = w.heap.size + 2 := by rw [hW]; simp [go_sem]
  have hbw : Below w.heap.size w W := by rw [hW]; exact below_drewN (((Below.refl _ _).alloc (Nat.le_refl _) _).alloc (by simp) _) _
  have hrb : W.heap[w.heap.size + 1]? = some (.cells #[.slice none 0 0, .string ⟨#[]⟩, .int .i64 0, .int .u32 0] 43 (0, 0)) := by
    rw [hW]
    have := heap_alloc_new (w.alloc (.cells #[.string ⟨b.toArray⟩] 9)) (.cells #[.slice none 0 0, .string ⟨#[]⟩, .int .i64 0, .int .u32 0] 43)
    simpa using this
  rw [← hW]
  have HW := Lib.hid (And.intro hW (And.intro hsz hrb)); clear hW hsz hrb
  have hdb : Below W.heap.size W W.drew := (Below.refl _ _).drew
  have hlt : w.heap.size < W.heap.size := by rw [HW.out.2.1]; omega
  have h12 : ∀ w', w'.cell? ⟨w.heap.size, 0, none⟩ = some (.string ⟨b.toArray⟩) → Calls Try.prog 53 #[.int .i64 12, .int .i64 2, .pointer (some ⟨w.heap.size, 0, none⟩)] w' (Ret (.int .i64 (rm : Int)) w') := by
    intro w' h
    have := HF.out w.heap.size 12 2 12 2 rfl rfl w' h (by omega) (by omega) (by omega)
    rw [HK.out.2.2.1] at this
    exact this
  have h44 : ∀ w', w'.cell? ⟨w.heap.size, 0, none⟩ = some (.string ⟨b.toArray⟩) → Calls Try.prog 53 #[.int .i64 4, .int .i64 4, .pointer (some ⟨w.heap.size, 0, none⟩)] w' (Ret (.int .i64 (en : Int)) w') := by
    intro w' h
    have := HF.out w.heap.size 4 4 4 4 rfl rfl w' h (by omega) (by omega) (by omega)
    rw [HK.out.2.2.2.1] at this
    exact this
  have HC := Lib.hid (And.intro h12 h44); clear h12 h44
  go_cut [10] from 47 to 58 (fun s10 wx => ∃ gs gx, s10 = .pointer (some ⟨gx, 0, none⟩) ∧ gs ≠ gx ∧ W.heap.size ≤ gs ∧ W.heap.size ≤ gx ∧ wx.heap[gs]? = some (.cells (Array.replicate k (.int .u32 0)) 41 (0, 0)) ∧
    wx.heap[gx]? = some (.cells #[.slice (some ⟨gs, 0, none⟩) k k, .string ⟨((b.drop (14 + 4 * k)).take z).toArray⟩, .int .i64 (rm : Int), .int .u32 (en : Int)] 43 (0, 0)) ∧ Below W.heap.size W wx)
  case first =>
    refine wp_region_held_drew (S := (fun w' => w'.cell? ⟨w.heap.size, 0, none⟩ = some (.string ⟨b.toArray⟩))) (by kernel_rfl) hc (fun hHeld => ?_)
    refine wpAnyH_take (i := 0) (v := ?_) rfl (by kernel_rfl) (by kernel_rfl) (by kernel_rfl) (fun _ _ _ h => h) (Or.inl ⟨by rfl, ?_⟩) hHeld ?_
    rotate_left
    · (intro w' hSw; (try dsimp only at hSw); go_simp; try with_reducible rfl)
    simp only [Act.put, List.setIfInBounds_toArray, List.set_cons_zero, List.set_cons_succ]
    refine wpAnyH_take (i := 2) (v := ?_) rfl (by kernel_rfl) (by kernel_rfl) (by kernel_rfl) (fun _ _ _ h => h) (Or.inl ⟨by rfl, ?_⟩) hHeld ?_
    rotate_left
    · (intro w' hSw; (try dsimp only at hSw); go_simp; try with_reducible rfl)
    simp only [Act.put, List.setIfInBounds_toArray, List.set_cons_zero, List.set_cons_succ]
    refine wpAnyH_take (i := 3) (v := ?_) rfl (by kernel_rfl) (by kernel_rfl) (by kernel_rfl) (fun _ _ _ h => h) (Or.inl ⟨by rfl, ?_⟩) hHeld ?_
    rotate_left
    · (intro w' hSw; (try dsimp only at hSw); go_simp; try with_reducible rfl)
    simp only [Act.put, List.setIfInBounds_toArray, List.set_cons_zero, List.set_cons_succ]
    refine wpAnyH_take (i := 4) (v := ?_) rfl (by kernel_rfl) (by kernel_rfl) (by kernel_rfl) (fun _ _ _ h => h) (Or.inl ⟨by rfl, ?_⟩) hHeld ?_
    rotate_left
    · (intro w' hSw; (try dsimp only at hSw); go_simp; try with_reducible rfl)
    simp only [Act.put, List.setIfInBounds_toArray, List.set_cons_zero, List.set_cons_succ]
    refine wpAnyH_take (i := 5) (v := ?_) rfl (by kernel_rfl) (by kernel_rfl) (by kernel_rfl) (fun _ _ _ h => h) (Or.inl ⟨by rfl, ?_⟩) hHeld ?_
    rotate_left
    · (intro w' hSw; (try dsimp only at hSw); go_simp; try with_reducible rfl)
    simp only [Act.put, List.setIfInBounds_toArray, List.set_cons_zero, List.set_cons_succ]
    refine wpAnyH_take (i := 6) (v := ?_) rfl (by kernel_rfl) (by kernel_rfl) (by kernel_rfl) (fun _ _ _ h => h) (Or.inl ⟨by rfl, ?_⟩) hHeld ?_
    rotate_left
    · (intro w' hSw; (try dsimp only at hSw); go_simp; try with_reducible rfl)
    simp only [Act.put, List.setIfInBounds_toArray, List.set_cons_zero, List.set_cons_succ]
    refine still_take (i := 7) (v := (.int .i64 (rm : Int))) rfl (by kernel_rfl) (fun _ _ _ h => h) _ _ _ _ (by kernel_rfl) (by kernel_rfl) ⟨by rfl, _, _, fun w' hSw => ⟨?_, (HC.out.1 w' hSw)⟩⟩ hHeld ?_
    · (try dsimp only at hSw); go_simp; try with_reducible rfl
    simp only [Act.put, List.setIfInBounds_toArray, List.set_cons_zero, List.set_cons_succ]
    refine wpAnyH_take (i := 8) (v := ?_) rfl (by kernel_rfl) (by kernel_rfl) (by kernel_rfl) (fun _ _ _ h => h) (Or.inl ⟨by rfl, ?_⟩) hHeld ?_
    rotate_left
    · (intro w' hSw; (try dsimp only at hSw); go_simp; try with_reducible rfl)
    simp only [Act.put, List.setIfInBounds_toArray, List.set_cons_zero, List.set_cons_succ]
    refine still_take (i := 9) (v := (.int .i64 (en : Int))) rfl (by kernel_rfl) (fun _ _ _ h => h) _ _ _ _ (by kernel_rfl) (by kernel_rfl) ⟨by rfl, _, _, fun w' hSw => ⟨?_, (HC.out.2 w' hSw)⟩⟩ hHeld ?_
    · (try dsimp only at hSw); go_simp; try with_reducible rfl
    simp only [Act.put, List.setIfInBounds_toArray, List.set_cons_zero, List.set_cons_succ]
    refine wpAnyH_take (i := 10) (v := ?_) rfl (by kernel_rfl) (by kernel_rfl) (by kernel_rfl) (fun _ _ _ h => h) (Or.inl ⟨by rfl, ?_⟩) hHeld ?_
    rotate_left
    · (intro w' hSw; (try dsimp only at hSw); go_simp; try with_reducible rfl)
    simp only [Act.put, List.setIfInBounds_toArray, List.set_cons_zero, List.set_cons_succ]
    have hne1 : w.heap.size ≠ W.heap.size := by omega
    refine wpAnyH_ready (rs := [1, 12]) (by kernel_rfl) (by simp) ?_
    refine AllReadyH.cons rfl (fun K hK => ?_) ?_
    · go_simp
      refine hK.out _ _ ((((Below.refl W.heap.size W).alloc (Nat.le_refl _) _).drew.cell (p := ⟨w.heap.size, 0, none⟩) hlt).trans hc) (fun hHeld => ?_)
      clear hK K
      (try simp only [Act.put, List.setIfInBounds_toArray, List.set_cons_zero, List.set_cons_succ])
      refine wpAnyH_take (i := 11) (v := ?_) rfl (by kernel_rfl) (by kernel_rfl) (by kernel_rfl) (fun _ _ _ h => h) (Or.inl ⟨by rfl, ?_⟩) hHeld ?_
      rotate_left
      · (intro w' hSw; (try dsimp only at hSw); go_simp; try with_reducible rfl)
      simp only [Act.put, List.setIfInBounds_toArray, List.set_cons_zero, List.set_cons_succ]
      refine wpAnyH_ready (rs := [12]) (by kernel_rfl) (by simp) ?_
      refine AllReadyH.cons rfl (fun K hK => ?_) ?_
      · go_simp
        refine hK.out _ _ (((((Below.refl W.heap.size W).alloc (Nat.le_refl _) _).alloc (by simp) _).drew.cell (p := ⟨w.heap.size, 0, none⟩) hlt).trans hc) (fun hHeld => ?_)
        clear hK K
        (try simp only [Act.put, List.setIfInBounds_toArray, List.set_cons_zero, List.set_cons_succ])
        refine wpAnyH_ready (rs := [13]) (by kernel_rfl) (by simp) ?_
        refine AllReadyH.cons rfl (fun K hK => ?_) ?_
        · go_simp
          refine hK.out _ _ (((((Below.refl W.heap.size W).alloc (Nat.le_refl _) _).alloc (by simp) _).drew.cell (p := ⟨w.heap.size, 0, none⟩) hlt).trans hc) (fun hHeld => ?_)
          clear hK K
          (try simp only [Act.put, List.setIfInBounds_toArray, List.set_cons_zero, List.set_cons_succ])
          refine wpAnyH_done (by kernel_rfl) ?_ _
          go_wp2_with fail
          go_meet
          case rel => exact ⟨W.heap.size, W.heap.size + 1, rfl, by omega, by omega, by omega, (Below.heap_alloc _ _ _ (by simp)).trans (heap_alloc_new W _), heap_alloc_2 W _ _, (((Below.refl W.heap.size W).alloc (Nat.le_refl _) _).alloc (by simp) _).drew⟩
        · exact AllReadyH.nil
      · exact AllReadyH.nil
    · refine AllReadyH.cons rfl (fun K hK => ?_) ?_
      · go_simp
        refine hK.out _ _ ((((Below.refl W.heap.size W).alloc (Nat.le_refl _) _).drew.cell (p := ⟨w.heap.size, 0, none⟩) hlt).trans hc) (fun hHeld => ?_)
        clear hK K
        (try simp only [Act.put, List.setIfInBounds_toArray, List.set_cons_zero, List.set_cons_succ])
        refine wpAnyH_ready (rs := [1]) (by kernel_rfl) (by simp) ?_
        refine AllReadyH.cons rfl (fun K hK => ?_) ?_
        · go_simp
          refine hK.out _ _ (((((Below.refl W.heap.size W).alloc (Nat.le_refl _) _).alloc (by simp) _).drew.cell (p := ⟨w.heap.size, 0, none⟩) hlt).trans hc) (fun hHeld => ?_)
          clear hK K
          (try simp only [Act.put, List.setIfInBounds_toArray, List.set_cons_zero, List.set_cons_succ])
          refine wpAnyH_take (i := 11) (v := ?_) rfl (by kernel_rfl) (by kernel_rfl) (by kernel_rfl) (fun _ _ _ h => h) (Or.inl ⟨by rfl, ?_⟩) hHeld ?_
          rotate_left
          · (intro w' hSw; (try dsimp only at hSw); go_simp; try with_reducible rfl)
          simp only [Act.put, List.setIfInBounds_toArray, List.set_cons_zero, List.set_cons_succ]
          refine wpAnyH_ready (rs := [13]) (by kernel_rfl) (by simp) ?_
          refine AllReadyH.cons rfl (fun K hK => ?_) ?_
          · go_simp
            refine hK.out _ _ (((((Below.refl W.heap.size W).alloc (Nat.le_refl _) _).alloc (by simp) _).drew.cell (p := ⟨w.heap.size, 0, none⟩) hlt).trans hc) (fun hHeld => ?_)
            clear hK K
            (try simp only [Act.put, List.setIfInBounds_toArray, List.set_cons_zero, List.set_cons_succ])
            refine wpAnyH_done (by kernel_rfl) ?_ _
            go_wp2_with fail
            go_meet
            case rel => exact ⟨W.heap.size + 1, W.heap.size, rfl, by omega, by omega, by omega, heap_alloc_2 W _ _, (Below.heap_alloc _ _ _ (by simp)).trans (heap_alloc_new W _), (((Below.refl W.heap.size W).alloc (Nat.le_refl _) _).alloc (by simp) _).drew⟩
          · exact AllReadyH.nil
        · exact AllReadyH.nil
      · exact AllReadyH.nil
  case rest =>
    obtain ⟨gs, gx, rfl, hne, hgs, hgx, hcs, hcx, hbx⟩ := hcut
    have hx0 : wc.cell? ⟨gx, 0, none⟩ = some (.slice (some ⟨gs, 0, none⟩) k k) := by simp [World.cell?, hcx]
    have hwd : ∀ (j : Nat), j < k → ∃ v : Nat, v < 4294967296 ∧ Pl.fieldN b (14 + 4 * j) 4 = v ∧ ∀ w', w'.cell? ⟨w.heap.size, 0, none⟩ = some (.string ⟨b.toArray⟩) → Calls Try.prog 53 #[.int .i64 (14 + 4 * (j : Int)), .int .i64 4, .pointer (some ⟨w.heap.size, 0, none⟩)] w' (Ret (.int .i64 (v : Int)) w') := by
      intro j hj
      refine ⟨_, Pl.fieldN_4 b (14 + 4 * j), rfl, fun w' h => ?_⟩
      exact HF.out w.heap.size (14 + 4 * j) 4 (14 + 4 * (j : Int)) 4 (by omega) rfl w' h (by omega) (by omega) (by omega)
    have HD := Lib.hid hwd; clear hwd
    rw [← txt_0 b k] at hcs
    go_wp2_with fail
    clear hmk s1 s2 s3 s4 s6 s7 s8 e1 e2 e3 hlo' hhi' hx0
    obtain ⟨dz, hdz⟩ : ∃ dz, (b.drop (14 + 4 * k)).take z = dz := ⟨_, rfl⟩
    rw [hdz] at hcx
    go_loopw [62] (fun i wr => ∃ j, j ≤ k ∧ i = .int .i64 (j : Nat) ∧ wr.heap[gs]? = some (.cells (txt b k j).toArray 41 (0, 0)) ∧ wr.heap[gx]? = some (.cells #[.slice (some ⟨gs, 0, none⟩) k k, .string ⟨dz.toArray⟩, .int .i64 (rm : Int), .int .u32 (en : Int)] 43 (0, 0)) ∧ Below W.heap.size W wr) (fun i _ => k - (intOf i).toNat)
    case atStart => exact ⟨0, by omega, rfl, hcs, hcx, hbx⟩
    case round =>
      clear hcs hcx hbx
      obtain ⟨j, hj, rfl, hcs, hcx, hbx⟩ := hrel
      have hx0 : wr.cell? ⟨gx, 0, none⟩ = some (.slice (some ⟨gs, 0, none⟩) k k) := by simp [World.cell?, hcx]
      have hcb : wr.cell? ⟨w.heap.size, 0, none⟩ = some (.string ⟨b.toArray⟩) := (hbx.cell (p := ⟨w.heap.size, 0, none⟩) hlt).trans hc
      by_cases hjk : j < k
      · obtain ⟨v, hv, hve, hcall⟩ := HD.out j hjk
        have hset := txt_set b k j hjk
        rw [hve] at hset
        have HS := Lib.hid (And.intro hset hve); clear hset hve
        have e1 : IntKind.i64.wrap (4 * (j : Int)) = 4 * (j : Int) := IntWalk.i64_in _ (by omega)
        have e2 : IntKind.i64.wrap (14 + 4 * (j : Int)) = 14 + 4 * (j : Int) := IntWalk.i64_in _ (by omega)
        have e3 : IntKind.u32.wrap (v : Int) = v := by rw [IntKind.wrap_u32]; omega
        have hgj : ∃ u, wr.cell? ⟨gs, j, none⟩ = some u := by
          have hl := txt_len b k j hj
          exact ⟨(txt b k j)[j], by simp [World.cell?, hcs, hl, hjk]⟩
        obtain ⟨u, hgj⟩ := hgj
        have hfz : wr.frozen? ⟨gs, j, none⟩ = false := frozen_of wr gs j _ _ hcs
        have HC2 := Lib.hid hcall; clear hcall
        have hcsd : wr.drew.heap[gs]? = some (.cells (txt b k j).toArray 41 (0, 0)) := hcs
        go_wp2_with fail
        refine wp_region_held_drew (S := (fun w' => w'.cell? ⟨w.heap.size, 0, none⟩ = some (.string ⟨b.toArray⟩) ∧ w'.cell? ⟨gx, 0, none⟩ = some (.slice (some ⟨gs, 0, none⟩) k k))) (by kernel_rfl) (by exact ⟨hcb, hx0⟩) (fun hHeld => ?_)
        refine wpAnyH_take (i := 0) (v := ?_) rfl (by kernel_rfl) (by kernel_rfl) (by kernel_rfl) (fun _ _ _ h => h) (Or.inl ⟨by rfl, ?_⟩) hHeld ?_
        rotate_left
        · (intro w' hSw; (try dsimp only at hSw); go_simp; try with_reducible rfl)
        simp only [Act.put, List.setIfInBounds_toArray, List.set_cons_zero, List.set_cons_succ]
        refine wpAnyH_take (i := 1) (v := ?_) rfl (by kernel_rfl) (by kernel_rfl) (by kernel_rfl) (fun _ _ _ h => h) (Or.inl ⟨by rfl, ?_⟩) hHeld ?_
        rotate_left
        · (intro w' hSw; (try dsimp only at hSw); go_simp; try with_reducible rfl)
        simp only [Act.put, List.setIfInBounds_toArray, List.set_cons_zero, List.set_cons_succ]
        refine wpAnyH_take (i := 2) (v := ?_) rfl (by kernel_rfl) (by kernel_rfl) (by kernel_rfl) (fun _ _ _ h => h) (Or.inl ⟨by rfl, ?_⟩) hHeld ?_
        rotate_left
        · (intro w' hSw; (try dsimp only at hSw); go_simp; try with_reducible rfl)
        simp only [Act.put, List.setIfInBounds_toArray, List.set_cons_zero, List.set_cons_succ]
        refine wpAnyH_take (i := 3) (v := ?_) rfl (by kernel_rfl) (by kernel_rfl) (by kernel_rfl) (fun _ _ _ h => h) (Or.inl ⟨by rfl, ?_⟩) hHeld ?_
        rotate_left
        · (intro w' hSw; (try dsimp only at hSw); go_simp; try with_reducible rfl)
        simp only [Act.put, List.setIfInBounds_toArray, List.set_cons_zero, List.set_cons_succ]
        refine wpAnyH_take (i := 4) (v := ?_) rfl (by kernel_rfl) (by kernel_rfl) (by kernel_rfl) (fun _ _ _ h => h) (Or.inl ⟨by rfl, ?_⟩) hHeld ?_
        rotate_left
        · (intro w' hSw; (try dsimp only at hSw); go_simp; try with_reducible rfl)
        simp only [Act.put, List.setIfInBounds_toArray, List.set_cons_zero, List.set_cons_succ]
        refine wpAnyH_take (i := 5) (v := ?_) rfl (by kernel_rfl) (by kernel_rfl) (by kernel_rfl) (fun _ _ _ h => h) (Or.inl ⟨by rfl, ?_⟩) hHeld ?_
        rotate_left
        · (intro w' hSw; (try dsimp only at hSw); go_simp; try with_reducible rfl)
        simp only [Act.put, List.setIfInBounds_toArray, List.set_cons_zero, List.set_cons_succ]
        refine wpAnyH_take (i := 6) (v := ?_) rfl (by kernel_rfl) (by kernel_rfl) (by kernel_rfl) (fun _ _ _ h => h) (Or.inl ⟨by rfl, ?_⟩) hHeld ?_
        rotate_left
        · (intro w' hSw; (try dsimp only at hSw); go_simp; try with_reducible rfl)
        simp only [Act.put, List.setIfInBounds_toArray, List.set_cons_zero, List.set_cons_succ]
        refine still_take (i := 7) (v := (.int .i64 (v : Int))) rfl (by kernel_rfl) (fun _ _ _ h => h) _ _ _ _ (by kernel_rfl) (by kernel_rfl) ⟨by rfl, _, _, fun w' hSw => ⟨?_, (HC2.out w' hSw.1)⟩⟩ hHeld ?_
        · (try dsimp only at hSw); go_simp; try with_reducible rfl
        simp only [Act.put, List.setIfInBounds_toArray, List.set_cons_zero, List.set_cons_succ]
        refine wpAnyH_take (i := 8) (v := ?_) rfl (by kernel_rfl) (by kernel_rfl) (by kernel_rfl) (fun _ _ _ h => h) (Or.inl ⟨by rfl, ?_⟩) hHeld ?_
        rotate_left
        · (intro w' hSw; (try dsimp only at hSw); go_simp; try with_reducible rfl)
        simp only [Act.put, List.setIfInBounds_toArray, List.set_cons_zero, List.set_cons_succ]
        refine wpAnyH_take (i := 9) (v := ?_) rfl (by kernel_rfl) (by kernel_rfl) (by kernel_rfl) (fun _ _ _ h => h) (Or.inl ⟨by rfl, ?_⟩) hHeld ?_
        rotate_left
        · (intro w' hSw; (try dsimp only at hSw); go_simp; try with_reducible rfl)
        simp only [Act.put, List.setIfInBounds_toArray, List.set_cons_zero, List.set_cons_succ]
        refine wpAnyH_ready (rs := [10]) (by kernel_rfl) (by simp) ?_
        refine AllReadyH.cons rfl (fun K hK => ?_) ?_
        · go_simp
          refine hK.out _ _ ⟨((hbx.setCell hgs _).drew.cell (p := ⟨w.heap.size, 0, none⟩) hlt).trans hc, (World.cell?_setCell_far wr ⟨gs, j, none⟩ ⟨gx, 0, none⟩ _ hne).trans hx0⟩ (fun hHeld => ?_)
          clear hK K
          (try simp only [Act.put, List.setIfInBounds_toArray, List.set_cons_zero, List.set_cons_succ])
          refine wpAnyH_done (by kernel_rfl) ?_ _
          go_wp2_with fail
          go_roundw
          case rel =>
            refine ⟨j + 1, by omega, by go_num, ?_, ?_, (hbx.setCell hgs _).drew⟩
            · rw [← HS.out.1]; exact set_at wr gs j _ _ _ hcs
            · exact (Below.heap_setCell wr ⟨gs, j, none⟩ _ gx (by simpa using Ne.symm hne)).trans hcx
          case measure => simp [intOf]; omega
        · exact AllReadyH.nil
      · obtain rfl : j = k := by omega
        rw [txt_full b j HK.out.1] at hcs
        have hx1 : wr.cell? ⟨gx, 1, none⟩ = some (.string ⟨dz.toArray⟩) := by simp [World.cell?, hcx]
        have hx2 : wr.cell? ⟨gx, 2, none⟩ = some (.int .i64 (rm : Int)) := by simp [World.cell?, hcx]
        have hx3 : wr.cell? ⟨gx, 3, none⟩ = some (.int .u32 (en : Int)) := by simp [World.cell?, hcx]
        have hev : exeV (some ⟨gs, 0, none⟩) j (Pl.bodyE b) = .agg #[.slice (some ⟨gs, 0, none⟩) j j, .string ⟨dz.toArray⟩, .int .i64 (rm : Int), .int .u32 (en : Int)] := by
          unfold exeV Pl.bodyE
          simp only [List.length_map, List.length_range]
          rw [HK.out.1, HK.out.2.2.1, HK.out.2.2.2.1, ← hdz, List.take_of_length_le (by rw [List.length_drop]; have := HK.out.2.2.2.2.2.2.2; omega)]
        have hok : ExeOk (Pl.bodyE b) := bodyE_ok b hb
        have hck := check_any (some ⟨gs, 0, none⟩) j (Pl.bodyE b) wr hok
        rw [hev] at hck
        have hEq := HK.out.2.2.2.2.1
        obtain ⟨q, hq⟩ : ∃ q, Pl.chk (Pl.bodyE b) = q := ⟨_, rfl⟩
        rw [hq] at hck hEq
        have hq01 : q = 0 ∨ q = 1 := by rw [← hq]; unfold Pl.chk; split <;> simp
        have hrb : wr.heap[w.heap.size + 1]? = some (.cells #[.slice none 0 0, .string ⟨#[]⟩, .int .i64 0, .int .u32 0] 43 (0, 0)) := (hbx.block _ (by rw [HW.out.2.1]; omega)).trans HW.out.2.2
        have hWs := HW.out.2.1
        have hwl := hbx.size
        have HV := Lib.hid (And.intro hev (And.intro hEq hdz)); clear hev hEq hdz hq
        go_wp2_with fail
        (with_reducible refine hck.mono ?_)
        rintro e w1 ⟨v, rfl, rfl, hb1⟩
        have hlx : gx < wr.heap.size := lt_of_blk hcx
        have hls : gs < wr.heap.size := lt_of_blk hcs
        have hcx1 := (hb1.block gx hlx).trans hcx
        have hcs1 := (hb1.block gs hls).trans hcs
        have hrb1 := (hb1.block (w.heap.size + 1) (by omega)).trans hrb
        have hbf : Below w.heap.size w w1 := hbw.trans ((hbx.trans (hb1.mono hbx.size)).mono hbw.size)
        have y0 : w1.cell? ⟨gx, 0, none⟩ = some (.slice (some ⟨gs, 0, none⟩) j j) := by simp [World.cell?, hcx1]
        have y1 : w1.cell? ⟨gx, 1, none⟩ = some (.string ⟨dz.toArray⟩) := by simp [World.cell?, hcx1]
        have y2 : w1.cell? ⟨gx, 2, none⟩ = some (.int .i64 (rm : Int)) := by simp [World.cell?, hcx1]
        have y3 : w1.cell? ⟨gx, 3, none⟩ = some (.int .u32 (en : Int)) := by simp [World.cell?, hcx1]
        have z0 : w1.cell? ⟨w.heap.size + 1, 0, none⟩ = some (.slice none 0 0) := by simp [World.cell?, hrb1]
        have z1 : w1.cell? ⟨w.heap.size + 1, 1, none⟩ = some (.string ⟨#[]⟩) := by simp [World.cell?, hrb1]
        have z2 : w1.cell? ⟨w.heap.size + 1, 2, none⟩ = some (.int .i64 0) := by simp [World.cell?, hrb1]
        have z3 : w1.cell? ⟨w.heap.size + 1, 3, none⟩ = some (.int .u32 0) := by simp [World.cell?, hrb1]
        have zf : ∀ i, w1.frozen? ⟨w.heap.size + 1, i, none⟩ = false := fun i => frozen_of w1 _ i _ _ hrb1
        have hge : w.heap.size + 1 ≠ gs := by omega
        clear hck hrb hx0 hx1 hx2 hx3 hWs
        rcases hq01 with rfl | rfl
        · go_wp2_with fail
          refine bodyPost_ret (v := .tuple #[.agg #[.slice (some ⟨gs, 0, none⟩) j j, .string ⟨dz.toArray⟩, .int .i64 (rm : Int), .int .u32 (en : Int)], .int .i64 0]) (by simp [results, Try.results33, go_sem, z0, z1, z2, z3]) rfl ?_
          refine ⟨_, rfl, ?_, ?_⟩
          · have h0 : Pl.ofE b = 0 := by rw [HV.out.2.1]; simp
            refine ⟨some ⟨gs, 0, none⟩, j, ?_, ?_⟩
            · unfold Pl.ofX; rw [h0, if_pos rfl, HV.out.1]; rfl
            · unfold Pl.ofX; rw [h0, if_pos rfl]
              have hl : (Pl.bodyE b).text.length = j := by simp [Pl.bodyE, HK.out.1]
              rw [hl]
              refine ⟨by rw [u32s_len, hl]; omega, fun _ => ⟨gs, 0, rfl, ?_, fun i hi => ?_⟩⟩
              · simp only [World.size_setCell]; exact Nat.lt_of_lt_of_le hls hb1.size
              · rw [Nat.zero_add, World.cell?_setCell_far _ _ _ _ hge, World.cell?_setCell_far _ _ _ _ hge, World.cell?_setCell_far _ _ _ _ hge, World.cell?_setCell_far _ _ _ _ hge]
                simp [World.cell?, hcs1]
          · exact (((hbf.setCell (by simp) _).setCell (by simp) _).setCell (by simp) _).setCell (by simp) _
        · go_wp2_with fail
          refine bodyPost_ret (v := .tuple #[.agg #[.slice none 0 0, .string ⟨#[]⟩, .int .i64 0, .int .u32 0], .int .i64 3]) (by simp [results, Try.results33, go_sem, z0, z1, z2, z3]) rfl ?_
          refine ⟨_, rfl, ofOut_no (by rw [HV.out.2.1]; simp) (by decide) _, ?_⟩
          exact (((hbf.setCell (by simp) _).setCell (by simp) _).setCell (by simp) _).setCell (by simp) _
end Go.Proofs.Ytplhmhclcfclhaa
