/- The walks of layer 37's statements' own helpers: Fresh, spreadAlive. -/
import Derived.Test.YtdnebgilkfafhaaGreatDoorSpPl
import Derived.Test.YtdnebgilkfafhaaGreatDoorSpR1
import Derived.Test.YtdnebgilkfafhaaGreatDoorSpW5
namespace Go.Proofs.YtdnebgilkfafhaaGreatDoor
open Go.RowKit
set_option linter.unusedVariables false
set_option linter.unusedSimpArgs false
attribute [local go_sem] ba_get ba_cut ba_add
abbrev zx : ShX := ⟨none, 0, none, 0⟩
theorem SlAt.nil (w : World) (k : Nat) : SlAt w k none 0 0 [] := ⟨⟨by simp, fun h => by cases h⟩, Nat.le_refl _, by decide, fun _ => rfl⟩
theorem ShF.none (b : Nat) (w : World) : ShF b w Pl.noSh zx := ⟨⟨SlAt.nil w 4, fun g hg => by cases hg⟩, ⟨SlAt.nil w 1, fun g hg => by cases hg⟩⟩
theorem StF.fresh (b : Nat) (w : World) : StF b w (fun _ => Pl.noSh) (fun _ => zx) := fun _ _ => ShF.none b w
theorem FitG.small {l : List Pl.Obj} {F : List Int} (h : l.length ≤ 100000) (h' : F.length ≤ 100000) : Pl.FitG l F := ⟨by omega, by omega⟩
theorem FitS.fresh : FitS (fun _ => Pl.noSh) := fun _ _ => FitG.small (Nat.zero_le _) (Nat.zero_le _)
abbrev zS : Array Value := #[.slice none 0 0, .slice none 0 0, .slice none 0 0, .slice none 0 0, .slice none 0 0, .slice none 0 0, .slice none 0 0, .slice none 0 0, .slice none 0 0, .slice none 0 0, .int .i64 0]
/-- A new block that a store is laid into. -/
def boxW (w : World) (L : List Value) : World := (w.alloc (.cells zS 33)).setCells w.heap.size 0 L
theorem box_there (w : World) {L : List Value} (hl : L.length = 11) : (w.alloc (.cells zS 33)).there w.heap.size 0 L.toArray.size :=
  thereL (heap_alloc_new w _) (by rw [List.size_toArray, hl]; exact Nat.le_refl 11)
theorem box_at (w : World) {L : List Value} (hl : L.length = 11) : (boxW w L).heap[w.heap.size]? = some (.cells L.toArray 33 (0, 0)) :=
  heap_setCells_all (C := zS.toList) (heap_alloc_new w _) (by rw [hl]; rfl)
theorem box_below (w : World) (L : List Value) : Below w.heap.size w (boxW w L) :=
  ((Below.refl _ _).alloc (Nat.le_refl _) _).trans (Lib.below_setCells_w (Nat.le_refl _) L 0 _)
theorem box_size {w : World} {L : List Value} (hl : L.length = 11) : w.heap.size < (boxW w L).heap.size := blk_lt (box_at w hl)
theorem box_st {w : World} {S : Nat → Pl.Shelf} {X : Nat → ShX} {n : Int} : StBx w.heap.size S X n (boxW w (stoL S X n)) := box_at w rfl
theorem info_stoL {L : List Value} (hl : L.length = 11) : (Tryz.prog.info? 33).map (·.size) = some L.length := by rw [hl]; exact info_sto
theorem info_stoA {L : List Value} (hl : L.length = 11) : (Tryz.prog.info? 33).map (·.size) = some L.toArray.size := by rw [List.size_toArray, hl]; exact info_sto
/-- What is put on fresh shelves whose power is n. -/
theorem putSh_pow {nm : List UInt8} {D : Nat → List UInt8} (hn : Pl.okName nm = true) (hd : ∀ i, i < 5 → (D i).length ≤ 65536) (n : Nat) {i : Nat} (hi : i < 5) : putSh nm D (fun _ => Pl.noSh) (n : Int) i = Pl.powS nm D n i := by
  unfold putSh Pl.powS
  rw [Pl.pow_put hn (hd i hi)]
  split <;> rfl
theorem fst_pow {nm : List UInt8} {D : Nat → List UInt8} (hn : Pl.okName nm = true) (hd : ∀ i, i < 5 → (D i).length ≤ 65536) (n : Nat) : fstK 0 (putEr nm D (fun _ => Pl.noSh) (n : Int)) 5 = if 5 ≤ n then 0 else 17 := by
  rw [← Pl.pow_first n]
  unfold fstK
  refine congrArg (Pl.firstE 0) (List.map_congr_left fun i hi => ?_)
  unfold putEr
  rw [Pl.pow_put hn (hd i (List.mem_range.1 hi))]
  split <;> rfl
theorem putSh_neg {nm : List UInt8} {D : Nat → List UInt8} (hn : Pl.okName nm = true) (hd : ∀ i, i < 5 → (D i).length ≤ 65536) {i : Nat} (hi : i < 5) : putSh nm D (fun _ => Pl.noSh) (-1) i = ⟨[Pl.newO [] nm (D i)], []⟩ := by
  unfold putSh Pl.one
  rw [Pl.leftAt_neg, if_neg (by omega), Pl.put_hon ⟨rfl, by rfl⟩ hn (hd i hi)]
  rfl
theorem fst_neg {nm : List UInt8} {D : Nat → List UInt8} (hn : Pl.okName nm = true) (hd : ∀ i, i < 5 → (D i).length ≤ 65536) : fstK 0 (putEr nm D (fun _ => Pl.noSh) (-1)) 5 = 0 := by
  refine Pl.firstE_zero 0 _ fun e he => ?_
  obtain ⟨i, hi, rfl⟩ := List.mem_map.1 he
  unfold putEr Pl.one
  rw [Pl.leftAt_neg, if_neg (by omega), Pl.put_hon ⟨rfl, by rfl⟩ hn (hd i (List.mem_range.1 hi))]
  exact .inl rfl
/-- The chapter's example: what is written, what is put in its place. -/
def aD : List UInt8 := [115, 111, 109, 101, 32, 98, 121, 116, 101, 115]
def aS : Nat → Pl.Shelf := putSh [97] (Pl.partOf [97] aD) (fun _ => Pl.noSh) (-1)
def aB : Nat → Pl.Shelf := upd (upd aS 1 Pl.noSh) 4 Pl.aX
theorem a_name : Pl.okName [97] = true := by decide
theorem a_len : aD.length ≤ 65536 := by decide
theorem a_parts : ∀ i, i < 5 → (Pl.partOf [97] aD i).length ≤ 65536 := fun i hi => Pl.part_len (by decide) a_len i hi
theorem aS_at {i : Nat} (hi : i < 5) : aS i = ⟨[Pl.newO [] [97] (Pl.partOf [97] aD i)], []⟩ := putSh_neg a_name a_parts hi
theorem aB_fit : FitS aB := fun i hi => by
  unfold aB
  rcases lt5 hi with rfl | rfl | rfl | rfl | rfl
  · rw [upd_other _ _ (by decide), upd_other _ _ (by decide), aS_at (by omega)]; exact FitG.small (by decide) (by decide)
  · rw [upd_other _ _ (by decide), upd_same]; exact FitG.small (by decide) (by decide)
  · rw [upd_other _ _ (by decide), upd_other _ _ (by decide), aS_at (by omega)]; exact FitG.small (by decide) (by decide)
  · rw [upd_other _ _ (by decide), upd_other _ _ (by decide), aS_at (by omega)]; exact FitG.small (by decide) (by decide)
  · rw [upd_same]; exact FitG.small (by decide) (by decide)
theorem aB_to {i : Nat} (hi : i < 5) : getTo [97] aB (-1) i = Pl.aliveT aD i := by
  unfold getTo aB
  rw [Pl.leftAt_neg]
  rcases lt5 hi with rfl | rfl | rfl | rfl | rfl
  · rw [upd_other _ _ (by decide), upd_other _ _ (by decide), aS_at (by omega), Pl.tell_one a_name (a_parts 0 (by omega))]; rfl
  · rw [upd_other _ _ (by decide), upd_same, Pl.tell_none a_name]; rfl
  · rw [upd_other _ _ (by decide), upd_other _ _ (by decide), aS_at (by omega), Pl.tell_one a_name (a_parts 2 (by omega))]; rfl
  · rw [upd_other _ _ (by decide), upd_other _ _ (by decide), aS_at (by omega), Pl.tell_one a_name (a_parts 3 (by omega))]; rfl
  · rw [upd_same, show ([97] : List UInt8) = Pl.aN from rfl, Pl.alive_tell]; rfl
theorem fresh_to {nm : List UInt8} (hn : Pl.okName nm = true) {i : Nat} (hi : i < 5) : getTo nm (fun _ => Pl.noSh) (-1) i = Pl.powT nm (Pl.partOf nm []) 0 i := by
  unfold getTo
  rw [Pl.leftAt_neg, Pl.tell_none hn]
  rfl
theorem to5 {nm : List UInt8} {S : Nat → Pl.Shelf} {n : Int} {t : Nat → Pl.Told} (h : ∀ i, i < 5 → getTo nm S n i = t i) : (List.range 5).map (getTo nm S n) = (List.range 5).map t :=
  List.map_congr_left fun i hi => h i (List.mem_range.1 hi)
/-- What Read told: some store, the bytes, the error. -/
def RdOut (d : List UInt8) (e : Nat) (v : Value) (w : World) : Prop := ∃ L : List Value, v = .tuple #[.agg L.toArray, .string ⟨d.toArray⟩, .int .i64 (e : Int)] ∧ L.length = 11 ∧ ∀ v ∈ L, v.oneCell' = true
theorem ReadOut.rd {b : Nat} {S : Nat → Pl.Shelf} {n : Int} {d : List UInt8} {e : Nat} {v : Value} {w : World} (h : ReadOut b S n d e v w) : RdOut d e v w := by
  obtain ⟨X, rfl, -⟩ := h
  exact ⟨_, rfl, rfl, stoL_one _ _ _⟩
theorem RetB.imp {φ ψ : Value → World → Prop} {w : World} {e : Ending} {w' : World} (h : RetB φ w e w') (hi : ∀ v w', φ v w' → ψ v w') : RetB ψ w e w' := by
  obtain ⟨v, rfl, hv, hb⟩ := h
  exact ⟨v, rfl, hi _ _ hv, hb⟩
theorem alive_write (W : World) (hv : VSp W) : Calls Tryz.prog 13 #[.agg (stoL (fun _ => Pl.noSh) (fun _ => zx) (-1)).toArray, .string ⟨#[97]⟩, .string ⟨#[115, 111, 109, 101, 32, 98, 121, 116, 101, 115]⟩] W (RetB (PutAllOut W.heap.size aS (-1) 0) W) := by
  have h := swrite_good (fun _ => Pl.noSh) (fun _ => zx) (-1) (by unfold Pl.I64; omega) [97] aD W (StF.fresh 0 W).ok FitS.fresh (by decide) (by decide) a_len hv
  rw [fst_neg a_name a_parts, Pl.leftAt_neg] at h
  exact h
theorem alive_readw (X : Nat → ShX) (W : World) (hok : StOk W aB X) (hv : VSp W) : Calls Tryz.prog 14 #[.agg (stoL aB X (-1)).toArray, .string ⟨#[97]⟩] W (RetB (RdOut aD 0) W) := by
  refine (sread_good aB X (-1) (by unfold Pl.I64; omega) [97] W hok aB_fit a_name hv fun i hi => ?_).mono fun e w' h => h.imp fun v w' h => ?_
  · rw [aB_to hi]
    unfold Pl.aliveT
    split
    · exact Nat.zero_le _
    · split
      · exact Nat.succ_le_of_lt (by decide)
      · exact Nat.le_trans (a_parts i hi) (by decide)
  · rw [to5 fun i hi => aB_to hi, show ([97] : List UInt8) = Pl.aN from rfl, Pl.alive_read a_len] at h
    exact h.rd
theorem read_fresh {nm : List UInt8} (hn : Pl.okName nm = true) (W : World) (hv : VSp W) : Calls Tryz.prog 14 #[.agg (stoL (fun _ => Pl.noSh) (fun _ => zx) (-1)).toArray, .string ⟨nm.toArray⟩] W (RetB (RdOut [] 9) W) := by
  refine (sread_good (fun _ => Pl.noSh) (fun _ => zx) (-1) (by unfold Pl.I64; omega) nm W (StF.fresh 0 W).ok FitS.fresh hn hv fun i hi => ?_).mono fun e w' h => h.imp fun v w' h => ?_
  · rw [fresh_to hn hi]
    exact Nat.zero_le _
  · have hr := Pl.pow_read (d := []) hn (by decide) 0
    rw [to5 fun i hi => fresh_to hn hi, hr.1, hr.2 (by omega)] at h
    exact h.rd
set_option maxRecDepth 100000 in
theorem fresh_any (w : World) : Calls Tryz.prog 12 #[] w (RetB (fun v _ => v = .agg (stoL (fun _ => Pl.noSh) (fun _ => zx) (-1)).toArray) w) := by
  go_enter Tryz.func12, Tryz.ntmps12
  go_wp2_with fail
  have hb : StBx w.heap.size (fun _ => Pl.noSh) (fun _ => zx) (-1) (w.alloc (.cells (stoL (fun _ => Pl.noSh) (fun _ => zx) (-1)).toArray 33)) := StBx.new w _ _ _
  exact bodyPost_ret (v := .agg (stoL (fun _ => Pl.noSh) (fun _ => zx) (-1)).toArray) (results_sto1 (B := w.heap.size) rfl rfl hb.range info_sto) rfl ⟨_, rfl, rfl, (Below.refl _ _).alloc (Nat.le_refl _) _⟩
set_option maxRecDepth 100000 in
set_option maxHeartbeats 8000000 in
theorem salive_any (w : World) (hv : VSp w) : Calls Tryz.prog 10 #[] w (RetB (fun v _ => v = .bool true) w) := by
  obtain ⟨N, hN⟩ : ∃ N, w.heap.size = N := ⟨_, rfl⟩
  have HV := Lib.hid hv
  clear hv
  go_enter Tryz.func10, Tryz.ntmps10
  go_upto_region 2 with (with_reducible refine (fresh_any w).mono ?_)
  rintro _ w1 ⟨v, rfl, rfl, hb1⟩
  have HV1 := Lib.hid (HV.out.below hb1)
  go_upto_region 2 with (with_reducible refine (alive_write w1 HV1.out).mono ?_)
  rintro _ w2 ⟨v, rfl, ⟨X2, rfl, hst2⟩, hb2⟩
  obtain ⟨L2, hL2⟩ : ∃ L, stoL aS X2 (-1) = L := ⟨_, rfl⟩
  have hl2 : L2.length = 11 := by rw [← hL2]; rfl
  have ho2 : ∀ v ∈ L2, v.oneCell' = true := by rw [← hL2]; exact stoL_one _ _ _
  rw [hL2]
  have hbt := box_there w2 (L := L2) hl2
  have hbi := info_stoA (L := L2) hl2
  go_upto_region 4 with first
    | with_reducible refine wpList_store_mid rfl 33 _ _ rfl w2.heap.size 0 L2.toArray rfl rfl hbt hbi (all_oneCell_toArray ho2) ?_
  obtain ⟨W3, hW⟩ : ∃ W', boxW w2 L2 = W' := ⟨_, rfl⟩
  have hat := box_at w2 (L := L2) hl2
  have hbl := box_below w2 L2
  rw [hW] at hat hbl
  unfold boxW at hW
  obtain ⟨T1, hT⟩ : ∃ T', w2.heap.size = T' := ⟨_, rfl⟩
  rw [hT] at hW hat hbl
  simp only [hT]
  simp only [hW]
  have hge_T1 : w2.heap.size ≤ T1 := Nat.le_of_eq hT
  have hle_T1 : T1 ≤ w2.heap.size := Nat.le_of_eq hT.symm
  clear hW hT hbt hbi
  rw [← hL2] at hat
  have h3 : StBx T1 aS X2 (-1) W3 := hat
  have hs1 := hb1.size
  have hs2 := hb2.size
  have hs3 := blk_lt hat
  have hbw : Below N w W3 := by rw [← hN]; exact (hb1.trans (hb2.mono (by omega))).trans (hbl.mono (by omega))
  have HB3 := Lib.hid (And.intro h3 (And.intro ((hst2.weak (b' := N) (by omega)).kpt (KpT.below (hbl.mono hge_T1))) hbw))
  clear h3 hat hbl hb2 hst2 hL2 hl2 ho2 hb1 hbw HV1
  have a0 : W3.cell? ⟨T1, 2, none⟩ = some (.slice (X2 1).A (aS 1).objs.length (X2 1).c) := HB3.out.1.c0 (k := 1) (by omega)
  have a1 : W3.cell? ⟨T1, 3, none⟩ = some (.slice (X2 1).A' (aS 1).fates.length (X2 1).c') := HB3.out.1.c1 (k := 1) (by omega)
  have b0 : W3.cell? ⟨T1, 8, none⟩ = some (.slice (X2 4).A (aS 4).objs.length (X2 4).c) := HB3.out.1.c0 (k := 4) (by omega)
  have b1 : W3.cell? ⟨T1, 9, none⟩ = some (.slice (X2 4).A' (aS 4).fates.length (X2 4).c') := HB3.out.1.c1 (k := 4) (by omega)
  have fa0 := HB3.out.1.fz 2
  have fa1 := HB3.out.1.fz 3
  have fb0 := HB3.out.1.fz 8
  have fb1 := HB3.out.1.fz 9
  go_upto_region 5 with (fail)
  obtain ⟨R, hR⟩ : ∃ R, W3.heap.size = R := ⟨_, rfl⟩
  have k4 := HB3.out.1.okF (b := N) (k := 1) Pl.noSh zx
  have h4 := HB3.out.1.set (k := 1) (by omega) Pl.noSh zx
  have k5 := h4.okF (b := N) (k := 4) Pl.aX ⟨some ⟨R, 0, none⟩, 1, none, 0⟩
  have h5 := h4.set (k := 4) (by omega) Pl.aX ⟨some ⟨R, 0, none⟩, 1, none, 0⟩
  have hNT : N ≤ T1 := by omega
  generalize hW5 : World.alloc _ (.cells #[.string ⟨#[97]⟩, .string ⟨#[120]⟩, .string ⟨#[]⟩, .bool false] 49) = W5
  have hbW5 : Below N W3 W5 := by
    rw [← hW5]
    exact Below.alloc (Below.setCell (Below.setCell (Below.setCell (Below.setCell (Below.refl _ _) hNT _) hNT _) hNT _) hNT _) (by simp only [World.size_setCell]; omega) _
  have hat5 : W5.heap[R]? = some (.cells (objCs Pl.aX.objs).toArray 49 (0, 0)) := by
    rw [← hW5, ← hR]
    have h := heap_alloc_new ((((W3.setCell ⟨T1, 2, none⟩ (.slice none 0 0)).setCell ⟨T1, 3, none⟩ (.slice none 0 0)).setCell ⟨T1, 8, none⟩ (.slice (some ⟨W3.heap.size, 0, none⟩) 1 1)).setCell ⟨T1, 9, none⟩ (.slice none 0 0)) (.cells (objCs Pl.aX.objs).toArray 49)
    simp only [World.size_setCell] at h
    exact h
  have h6 : StBx T1 aB (upd (upd X2 1 zx) 4 ⟨some ⟨R, 0, none⟩, 1, none, 0⟩) (-1) W5 := by
    rw [← hW5, hR]
    exact h5.keep ((Below.refl _ _).alloc (Nat.le_refl _) _)
  have k6 : KpT N W3 W5 := by
    rw [← hW5, hR]
    exact (k4.trans k5).trans (KpT.below ((Below.refl _ _).alloc (Nat.le_refl _) _))
  have hNR : N ≤ R := by omega
  have hst6 : StF N W5 aB (upd (upd X2 1 zx) 4 ⟨some ⟨R, 0, none⟩, 1, none, 0⟩) := fun i hi => by
    by_cases e4 : i = 4
    · subst e4
      unfold aB
      rw [upd_same, upd_same]
      exact ⟨⟨⟨⟨by rfl, fun _ => ⟨R, 0, rfl, blk_lt hat5, fun j hj => by rw [cell_row W5 R (0 + j) _ _ hat5]; simp⟩⟩, Nat.le_refl 1, (by show (1 : Nat) ≤ 9223372036854775807; decide), fun h => by cases h⟩, fun g hg => by cases hg; exact ⟨hNR, _, hat5⟩⟩, ⟨SlAt.nil W5 1, fun g hg => by cases hg⟩⟩
    · unfold aB
      rw [upd_other _ _ e4, upd_other _ _ e4]
      by_cases e1 : i = 1
      · subst e1
        rw [upd_same, upd_same]
        exact ShF.none N W5
      · rw [upd_other _ _ e1, upd_other _ _ e1]
        exact (HB3.out.2.1 i hi).kpt k6
  obtain ⟨X6, hX6⟩ : ∃ X, upd (upd X2 1 zx) 4 ⟨some ⟨R, 0, none⟩, 1, none, 0⟩ = X := ⟨_, rfl⟩
  rw [hX6] at h6 hst6
  have hbw5 : Below N w W5 := HB3.out.2.2.trans hbW5
  have hrd := alive_readw X6 W5 hst6.ok (HV.out.below (by rw [hN]; exact hbw5))
  have hi6 := info_stoL (L := stoL aB X6 (-1)) rfl
  have hr6 := h6.range
  obtain ⟨L6, hL6⟩ : ∃ L, stoL aB X6 (-1) = L := ⟨_, rfl⟩
  rw [hL6] at hrd hi6 hr6
  have HR := Lib.hid hrd
  have HB5 := Lib.hid hbw5
  have hs5 := hbW5.size
  clear hrd hbw5 hbW5 h6 hst6 hX6 hL6 k4 k5 k6 h4 h5 hat5 hR hW5 a0 a1 b0 b1 fa0 fa1 fb0 fb1 HB3
  go_upto_region 6 with first
    | with_reducible refine wpList_load_mid rfl 33 _ rfl T1 0 rfl L6 _ hr6 Tryz.underlying33 rfl hi6 ?_
    | (with_reducible refine HR.out.mono ?_)
  rintro _ w7 ⟨v, rfl, ⟨L7, rfl, hl7, ho7⟩, hb7⟩
  have HV7 := Lib.hid (HV.out.below (by rw [hN]; exact HB5.out.trans (hb7.mono (by omega))))
  clear hr6 hi6
  have hbt := box_there w7 (L := L7) hl7
  have hbi := info_stoA (L := L7) hl7
  go_upto_region 6 with first
    | with_reducible refine wpList_store_mid rfl 33 _ _ rfl w7.heap.size 0 L7.toArray rfl rfl hbt hbi (all_oneCell_toArray ho7) ?_
  obtain ⟨W8, hW⟩ : ∃ W', boxW w7 L7 = W' := ⟨_, rfl⟩
  have hat := box_at w7 (L := L7) hl7
  have hbl := box_below w7 L7
  rw [hW] at hat hbl
  unfold boxW at hW
  obtain ⟨T3, hT⟩ : ∃ T', w7.heap.size = T' := ⟨_, rfl⟩
  rw [hT] at hW hat hbl
  simp only [hT]
  simp only [hW]
  have hge_T3 : w7.heap.size ≤ T3 := Nat.le_of_eq hT
  have hle_T3 : T3 ≤ w7.heap.size := Nat.le_of_eq hT.symm
  clear hW hT hbt hbi
  have hbw8 : Below N w W8 := (HB5.out.trans (hb7.mono (by omega))).trans (hbl.mono (by have := hb7.size; omega))
  have HB8 := Lib.hid hbw8
  have hs7 := hb7.size
  have hs8 := blk_lt hat
  clear hat hbl hb7 hbw8 hl7 ho7
  go_upto_region 7 with (with_reducible refine (fresh_any W8).mono ?_)
  rintro _ w9 ⟨v, rfl, rfl, hb9⟩
  have hrd := read_fresh a_name w9 (HV.out.below (by rw [hN]; exact HB8.out.trans (hb9.mono (by omega))))
  have HB9 := Lib.hid (HB8.out.trans (hb9.mono (by omega)))
  have HR9 := Lib.hid hrd
  have hs9 := hb9.size
  clear hrd hb9
  go_upto_region 7 with (with_reducible refine HR9.out.mono ?_)
  rintro _ w10 ⟨v, rfl, ⟨L10, rfl, hl10, ho10⟩, hb10⟩
  have hbt := box_there w10 (L := L10) hl10
  have hbi := info_stoA (L := L10) hl10
  go_upto_region 7 with first
    | with_reducible refine wpList_store_mid rfl 33 _ _ rfl w10.heap.size 0 L10.toArray rfl rfl hbt hbi (all_oneCell_toArray ho10) ?_
  obtain ⟨W11, hW⟩ : ∃ W', boxW w10 L10 = W' := ⟨_, rfl⟩
  have hat := box_at w10 (L := L10) hl10
  have hbl := box_below w10 L10
  rw [hW] at hat hbl
  unfold boxW at hW
  obtain ⟨T6, hT⟩ : ∃ T', w10.heap.size = T' := ⟨_, rfl⟩
  rw [hT] at hW hat hbl
  simp only [hT]
  simp only [hW]
  have hge_T6 : w10.heap.size ≤ T6 := Nat.le_of_eq hT
  have hle_T6 : T6 ≤ w10.heap.size := Nat.le_of_eq hT.symm
  clear hW hT hbt hbi
  have hbw11 : Below N w W11 := (HB9.out.trans (hb10.mono (by omega))).trans (hbl.mono (by have := hb10.size; omega))
  have HB11 := Lib.hid hbw11
  clear hat hbl hb10 hbw11 hl10 ho10
  have hAD : ((⟨aD.toArray⟩ : ByteArray) == ⟨#[115, 111, 109, 101, 32, 98, 121, 116, 101, 115]⟩) = true := by decide
  go_wp2_with fail
  go_ret
  exact ⟨_, rfl, rfl, by rw [hN]; exact HB11.out⟩
end Go.Proofs.YtdnebgilkfafhaaGreatDoor
