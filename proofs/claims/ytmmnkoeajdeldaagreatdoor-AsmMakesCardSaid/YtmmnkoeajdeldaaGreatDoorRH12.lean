/- The document's words of a line, the items of all lines (chapter 11). Printed by genwords.py, genitems.py. Plain Lean: what is known of the items of all lines. (LAY8) -/
import Derived.Test.YtmmnkoeajdeldaaGreatDoorRG12
namespace Go.Proofs.YtmmnkoeajdeldaaGreatDoor
open Go.RowKit
set_option linter.unusedVariables false
set_option linter.unusedSimpArgs false
attribute [local go_sem] ba_get ba_cut ba_add
/-- The words of a line, or the error. -/
def WdR (E : Except Nat (List Nat)) (v : Value) (w' : World) : Prop := match E with
  | .ok ws => ∃ A c, v = .tuple #[.slice A ws.length c, .int .i64 0] ∧ Rd w' 1 A ws.length (w32s ws) ∧ (A = none → c = 0)
  | .error e => ∃ A m c, v = .tuple #[.slice A m c, .int .i64 (e : Int)]
theorem it_froz {W : World} {B : Nat} {X : Pl.It} (hz : W.heap[B]? = some (.cells (itC X).toArray 74 (0, 0))) (j : Nat) : W.frozen? ⟨B, j, none⟩ = false := frozen_of W B j _ _ hz
theorem encV_of (x : Pl.Ins) : encV x = .tuple #[.int .u32 (Pl.encW x : Int), .int .i64 (Pl.encE x : Int)] := rfl
set_option maxRecDepth 100000 in
set_option maxHeartbeats 16000000 in
theorem rwords_2o (A : Option Addr) (c : Nat) (l : List Pl.It) (x : Pl.It) (at' : Nat) (w : World) (hr : Rd w 10 A l.length (itsC l)) (hl : l.length ≤ 1000) (hs : ∀ y ∈ l, y.s.length ≤ 65536) (hn7 : ∀ y ∈ l, y.kind = 7 → 0 ≤ y.n ∧ y.n ≤ 65536) (hx : Pl.ItOk2 x) (hat : at' ≤ 100000) (hk : x.kind = 2) (hnm : x.name = []) :
    Calls Tryz.prog 32 #[.slice A l.length c, itV x, .int .i64 (at' : Int)] w (RetB (WdR (Pl.wordsD l x at')) w) := by
  obtain ⟨R, hR⟩ : ∃ R, Pl.wordsD l x at' = R := ⟨_, rfl⟩
  rw [hR, itVa]
  unfold Pl.wordsD at hR
  have had := fun W hb => raddr_any A c l x.name W (hr.below hb) hl hs hn7
  have hbd := fun n => @Pl.addrD_bd2 l x.name hl hs hn7 n
  rw [if_neg (by rw [hnm]; simp)] at hR
  dsimp only at hR
  rw [if_pos hk] at hR
  unfold Pl.withN at hR
  rw [if_pos hnm] at hR
  dsimp only at hR
  have hne : x.name.isEmpty = true := by rw [hnm]; rfl
  have k2 : ((x.kind : Int) == 2) = true := by rw [beq_iff_eq]; omega
  have k3 : ((x.kind : Int) == 3) = false := by rw [beq_eq_false_iff_ne]; omega
  have k4 : ((x.kind : Int) == 4) = false := by rw [beq_eq_false_iff_ne]; omega
  have henc := fun W => renc_any x.x W ⟨by show _ < 256; exact hx.op, by show _ < 256; exact hx.a, by show _ < 256; exact hx.b, by show _ < 256; exact hx.c, by (try dsimp only); first | exact hx.i0 | omega, by (try dsimp only); first | exact hx.i1 | omega⟩
  unfold encV insV at henc
  try dsimp only at henc
  obtain ⟨ee, hee⟩ : ∃ e, Pl.encE x.x = e := ⟨_, rfl⟩
  obtain ⟨ew, hew⟩ : ∃ e, Pl.encW x.x = e := ⟨_, rfl⟩
  rw [hee, hew] at henc
  have HE := Lib.hid henc
  clear henc
  have HRr : Hid (WdR (if ee = 0 then .ok [ew] else .error ee) = WdR R) := by
    refine Lib.hid ?_
    rw [← hR]
    congr 1
    rw [hee]
    by_cases h0 : ee = 0
    · rw [if_pos h0, if_pos h0]
      rw [← hew]
      unfold Pl.encW
      rw [hee, if_pos h0]
    · rw [if_neg h0, if_neg h0]
  clear hee hew hR
  clear hk hnm
  have HA := Lib.hid had
  obtain ⟨X, hX⟩ : ∃ X, w.heap.size = X := ⟨_, rfl⟩
  obtain ⟨n, hn⟩ : ∃ n, l.length = n := ⟨_, rfl⟩
  rw [hn] at HA ⊢
  clear hr hl hs hn7 had hn hbd
  go_enter Tryz.func32, Tryz.ntmps32
  go_upto_region 1 with (fail)
  generalize hW : World.alloc w _ = W
  have hz : W.heap[X]? = some (.cells (itC x).toArray 74 (0, 0)) := by rw [← hW, ← hX]; exact heap_alloc_new _ _
  have hb : Below w.heap.size w W := by rw [← hW]; exact (Below.refl _ _).alloc (Nat.le_refl _) _
  have H0 := Lib.hid (And.intro hz hb)
  clear hW hz hb
  obtain ⟨z0, z1, z2, z3, z4, z5, z6, z7, z8, z9⟩ := it_cells H0.out.1
  have zf6 := it_froz H0.out.1 6
  go_wp2_with fail
  refine (HE.out _).mono ?_
  rintro y w5 ⟨v, rfl, rfl, hb5⟩
  have H5 := Lib.hid (H0.out.2.trans (hb5.mono H0.out.2.size))
  clear hb5 z0 z1 z2 z3 z4 z5 z6 z7 z8 z9 zf6
  go_wp2_with fail
  go_ret2
  refine ⟨_, rfl, ?_, H5.out.alloc H5.out.size _⟩
  rw [← HRr.out]
  by_cases h0 : ee = 0
  · rw [if_pos h0]
    subst h0
    exact ⟨_, _, rfl, Rd.new w5 (w32s [ew]) 24, fun h => by cases h⟩
  · rw [if_neg h0]
    exact ⟨_, _, _, rfl⟩
set_option maxRecDepth 100000 in
set_option maxHeartbeats 16000000 in
theorem rwords_2n (A : Option Addr) (c : Nat) (l : List Pl.It) (x : Pl.It) (at' : Nat) (w : World) (hr : Rd w 10 A l.length (itsC l)) (hl : l.length ≤ 1000) (hs : ∀ y ∈ l, y.s.length ≤ 65536) (hn7 : ∀ y ∈ l, y.kind = 7 → 0 ≤ y.n ∧ y.n ≤ 65536) (hx : Pl.ItOk2 x) (hat : at' ≤ 100000) (hk : x.kind = 2) (hnm : x.name ≠ []) (hno : Pl.addrD l x.name = none) :
    Calls Tryz.prog 32 #[.slice A l.length c, itV x, .int .i64 (at' : Int)] w (RetB (WdR (Pl.wordsD l x at')) w) := by
  obtain ⟨R, hR⟩ : ∃ R, Pl.wordsD l x at' = R := ⟨_, rfl⟩
  rw [hR, itVa]
  unfold Pl.wordsD at hR
  have had := fun W hb => raddr_any A c l x.name W (hr.below hb) hl hs hn7
  have hbd := fun n => @Pl.addrD_bd2 l x.name hl hs hn7 n
  rw [if_pos ⟨.inl hk, hnm⟩, hno] at hR
  dsimp only at hR
  subst hR
  rw [hno] at had
  have hne : x.name.isEmpty = false := by cases hq : x.name with
    | nil => exact absurd hq hnm
    | cons a r => rfl
  change ∀ W, _ → Calls _ _ _ W (RetB (fun v _ => v = .int .i64 (-1)) W) at had
  have k2 : ((x.kind : Int) == 2) = true := by rw [beq_iff_eq]; omega
  have k3 : ((x.kind : Int) == 3) = false := by rw [beq_eq_false_iff_ne]; omega
  have k4 : ((x.kind : Int) == 4) = false := by rw [beq_eq_false_iff_ne]; omega
  clear hk hnm hno
  have HA := Lib.hid had
  obtain ⟨X, hX⟩ : ∃ X, w.heap.size = X := ⟨_, rfl⟩
  obtain ⟨n, hn⟩ : ∃ n, l.length = n := ⟨_, rfl⟩
  rw [hn] at HA ⊢
  clear hr hl hs hn7 had hn hbd
  go_enter Tryz.func32, Tryz.ntmps32
  go_upto_region 1 with (fail)
  generalize hW : World.alloc w _ = W
  have hz : W.heap[X]? = some (.cells (itC x).toArray 74 (0, 0)) := by rw [← hW, ← hX]; exact heap_alloc_new _ _
  have hb : Below w.heap.size w W := by rw [← hW]; exact (Below.refl _ _).alloc (Nat.le_refl _) _
  have H0 := Lib.hid (And.intro hz hb)
  clear hW hz hb
  obtain ⟨z0, z1, z2, z3, z4, z5, z6, z7, z8, z9⟩ := it_cells H0.out.1
  have zf6 := it_froz H0.out.1 6
  go_wp2_with fail
  (with_reducible refine (HA.out W H0.out.2).mono ?_)
  rintro y w1 ⟨v, rfl, rfl, hb1⟩
  have H1 := Lib.hid (And.intro ((hb1.block X (blk_lt H0.out.1)).trans H0.out.1) (H0.out.2.trans (hb1.mono H0.out.2.size)))
  clear hb1
  clear z0 z1 z2 z3 z4 z5 z6 z7 z8 z9 zf6
  obtain ⟨z0, z1, z2, z3, z4, z5, z6, z7, z8, z9⟩ := it_cells H1.out.1
  have zf6 := it_froz H1.out.1 6
  clear z0 z1 z2 z3 z4 z5 z6 z7 z8 z9 zf6
  go_wp2_with fail
  go_ret2
  refine ⟨_, rfl, ?_, H1.out.2.alloc H1.out.2.size _⟩
  exact ⟨_, _, _, rfl⟩
set_option maxRecDepth 100000 in
set_option maxHeartbeats 16000000 in
theorem rwords_3n (A : Option Addr) (c : Nat) (l : List Pl.It) (x : Pl.It) (at' : Nat) (w : World) (hr : Rd w 10 A l.length (itsC l)) (hl : l.length ≤ 1000) (hs : ∀ y ∈ l, y.s.length ≤ 65536) (hn7 : ∀ y ∈ l, y.kind = 7 → 0 ≤ y.n ∧ y.n ≤ 65536) (hx : Pl.ItOk2 x) (hat : at' ≤ 100000) (hk : x.kind = 3) (hnm : x.name ≠ []) (hno : Pl.addrD l x.name = none) :
    Calls Tryz.prog 32 #[.slice A l.length c, itV x, .int .i64 (at' : Int)] w (RetB (WdR (Pl.wordsD l x at')) w) := by
  obtain ⟨R, hR⟩ : ∃ R, Pl.wordsD l x at' = R := ⟨_, rfl⟩
  rw [hR, itVa]
  unfold Pl.wordsD at hR
  have had := fun W hb => raddr_any A c l x.name W (hr.below hb) hl hs hn7
  have hbd := fun n => @Pl.addrD_bd2 l x.name hl hs hn7 n
  rw [if_pos ⟨.inr hk, hnm⟩, hno] at hR
  dsimp only at hR
  subst hR
  rw [hno] at had
  have hne : x.name.isEmpty = false := by cases hq : x.name with
    | nil => exact absurd hq hnm
    | cons a r => rfl
  change ∀ W, _ → Calls _ _ _ W (RetB (fun v _ => v = .int .i64 (-1)) W) at had
  have k2 : ((x.kind : Int) == 2) = false := by rw [beq_eq_false_iff_ne]; omega
  have k3 : ((x.kind : Int) == 3) = true := by rw [beq_iff_eq]; omega
  have k4 : ((x.kind : Int) == 4) = false := by rw [beq_eq_false_iff_ne]; omega
  clear hk hnm hno
  have HA := Lib.hid had
  obtain ⟨X, hX⟩ : ∃ X, w.heap.size = X := ⟨_, rfl⟩
  obtain ⟨n, hn⟩ : ∃ n, l.length = n := ⟨_, rfl⟩
  rw [hn] at HA ⊢
  clear hr hl hs hn7 had hn hbd
  go_enter Tryz.func32, Tryz.ntmps32
  go_upto_region 1 with (fail)
  generalize hW : World.alloc w _ = W
  have hz : W.heap[X]? = some (.cells (itC x).toArray 74 (0, 0)) := by rw [← hW, ← hX]; exact heap_alloc_new _ _
  have hb : Below w.heap.size w W := by rw [← hW]; exact (Below.refl _ _).alloc (Nat.le_refl _) _
  have H0 := Lib.hid (And.intro hz hb)
  clear hW hz hb
  obtain ⟨z0, z1, z2, z3, z4, z5, z6, z7, z8, z9⟩ := it_cells H0.out.1
  have zf6 := it_froz H0.out.1 6
  go_wp2_with fail
  (with_reducible refine (HA.out W H0.out.2).mono ?_)
  rintro y w1 ⟨v, rfl, rfl, hb1⟩
  have H1 := Lib.hid (And.intro ((hb1.block X (blk_lt H0.out.1)).trans H0.out.1) (H0.out.2.trans (hb1.mono H0.out.2.size)))
  clear hb1
  clear z0 z1 z2 z3 z4 z5 z6 z7 z8 z9 zf6
  obtain ⟨z0, z1, z2, z3, z4, z5, z6, z7, z8, z9⟩ := it_cells H1.out.1
  have zf6 := it_froz H1.out.1 6
  clear z0 z1 z2 z3 z4 z5 z6 z7 z8 z9 zf6
  go_wp2_with fail
  go_ret2
  refine ⟨_, rfl, ?_, H1.out.2.alloc H1.out.2.size _⟩
  exact ⟨_, _, _, rfl⟩
set_option maxRecDepth 100000 in
set_option maxHeartbeats 16000000 in
theorem rwords_2j (A : Option Addr) (c : Nat) (l : List Pl.It) (x : Pl.It) (at' : Nat) (w : World) (hr : Rd w 10 A l.length (itsC l)) (hl : l.length ≤ 1000) (hs : ∀ y ∈ l, y.s.length ≤ 65536) (hn7 : ∀ y ∈ l, y.kind = 7 → 0 ≤ y.n ∧ y.n ≤ 65536) (hx : Pl.ItOk2 x) (hat : at' ≤ 100000) (hk : x.kind = 2) (hnm : x.name ≠ []) (a : Nat) (hno : Pl.addrD l x.name = some a) (hop : 25 ≤ x.x.op ∧ x.x.op ≤ 29) (h4 : a % 4 ≠ 0) :
    Calls Tryz.prog 32 #[.slice A l.length c, itV x, .int .i64 (at' : Int)] w (RetB (WdR (Pl.wordsD l x at')) w) := by
  obtain ⟨R, hR⟩ : ∃ R, Pl.wordsD l x at' = R := ⟨_, rfl⟩
  rw [hR, itVa]
  unfold Pl.wordsD at hR
  have had := fun W hb => raddr_any A c l x.name W (hr.below hb) hl hs hn7
  have hbd := fun n => @Pl.addrD_bd2 l x.name hl hs hn7 n
  have ha := hbd a hno
  rw [if_pos ⟨.inl hk, hnm⟩, hno] at hR
  dsimp only at hR
  rw [if_pos hk] at hR
  rw [hno] at had
  change ∀ W, _ → Calls _ _ _ W (RetB (fun v _ => v = .int .i64 (a : Int)) W) at had
  have hne : x.name.isEmpty = false := by cases hq : x.name with
    | nil => exact absurd hq hnm
    | cons a r => rfl
  have a0 : ¬ (a : Int) < 0 := by omega
  unfold Pl.withN at hR
  rw [if_neg hnm, if_pos hop] at hR
  obtain ⟨o1, o2⟩ := hop
  rw [if_pos h4] at hR
  dsimp only at hR
  subst hR
  have hm4 : ((a : Int).tmod 4 != 0) = true := by rw [bne_iff_ne, Int.tmod_eq_emod_of_nonneg (by omega)]; omega
  have hm5 : ((a : Int) % 4 != 0) = true := by rw [bne_iff_ne]; omega
  have hm6 : ¬ (a : Int) % 4 = 0 := by omega
  have hm7 : ((a : Int) % 4 == 0) = false := by rw [beq_eq_false_iff_ne]; omega
  have k2 : ((x.kind : Int) == 2) = true := by rw [beq_iff_eq]; omega
  have k3 : ((x.kind : Int) == 3) = false := by rw [beq_eq_false_iff_ne]; omega
  have k4 : ((x.kind : Int) == 4) = false := by rw [beq_eq_false_iff_ne]; omega
  clear hk hnm hno h4
  have HA := Lib.hid had
  obtain ⟨X, hX⟩ : ∃ X, w.heap.size = X := ⟨_, rfl⟩
  obtain ⟨n, hn⟩ : ∃ n, l.length = n := ⟨_, rfl⟩
  rw [hn] at HA ⊢
  clear hr hl hs hn7 had hn hbd
  go_enter Tryz.func32, Tryz.ntmps32
  go_upto_region 1 with (fail)
  generalize hW : World.alloc w _ = W
  have hz : W.heap[X]? = some (.cells (itC x).toArray 74 (0, 0)) := by rw [← hW, ← hX]; exact heap_alloc_new _ _
  have hb : Below w.heap.size w W := by rw [← hW]; exact (Below.refl _ _).alloc (Nat.le_refl _) _
  have H0 := Lib.hid (And.intro hz hb)
  clear hW hz hb
  obtain ⟨z0, z1, z2, z3, z4, z5, z6, z7, z8, z9⟩ := it_cells H0.out.1
  have zf6 := it_froz H0.out.1 6
  go_wp2_with fail
  (with_reducible refine (HA.out W H0.out.2).mono ?_)
  rintro y w1 ⟨v, rfl, rfl, hb1⟩
  have H1 := Lib.hid (And.intro ((hb1.block X (blk_lt H0.out.1)).trans H0.out.1) (H0.out.2.trans (hb1.mono H0.out.2.size)))
  clear hb1
  clear z0 z1 z2 z3 z4 z5 z6 z7 z8 z9 zf6
  obtain ⟨z0, z1, z2, z3, z4, z5, z6, z7, z8, z9⟩ := it_cells H1.out.1
  have zf6 := it_froz H1.out.1 6
  go_wp2_with fail
  go_ret2
  refine ⟨_, rfl, ?_, H1.out.2.alloc H1.out.2.size _⟩
  exact ⟨_, _, _, rfl⟩
set_option maxRecDepth 100000 in
set_option maxHeartbeats 16000000 in
theorem rwords_2k (A : Option Addr) (c : Nat) (l : List Pl.It) (x : Pl.It) (at' : Nat) (w : World) (hr : Rd w 10 A l.length (itsC l)) (hl : l.length ≤ 1000) (hs : ∀ y ∈ l, y.s.length ≤ 65536) (hn7 : ∀ y ∈ l, y.kind = 7 → 0 ≤ y.n ∧ y.n ≤ 65536) (hx : Pl.ItOk2 x) (hat : at' ≤ 100000) (hk : x.kind = 2) (hnm : x.name ≠ []) (a : Nat) (hno : Pl.addrD l x.name = some a) (hop : 25 ≤ x.x.op ∧ x.x.op ≤ 29) (h4 : ¬ a % 4 ≠ 0) :
    Calls Tryz.prog 32 #[.slice A l.length c, itV x, .int .i64 (at' : Int)] w (RetB (WdR (Pl.wordsD l x at')) w) := by
  obtain ⟨R, hR⟩ : ∃ R, Pl.wordsD l x at' = R := ⟨_, rfl⟩
  rw [hR, itVa]
  unfold Pl.wordsD at hR
  have had := fun W hb => raddr_any A c l x.name W (hr.below hb) hl hs hn7
  have hbd := fun n => @Pl.addrD_bd2 l x.name hl hs hn7 n
  have ha := hbd a hno
  rw [if_pos ⟨.inl hk, hnm⟩, hno] at hR
  dsimp only at hR
  rw [if_pos hk] at hR
  rw [hno] at had
  change ∀ W, _ → Calls _ _ _ W (RetB (fun v _ => v = .int .i64 (a : Int)) W) at had
  have hne : x.name.isEmpty = false := by cases hq : x.name with
    | nil => exact absurd hq hnm
    | cons a r => rfl
  have a0 : ¬ (a : Int) < 0 := by omega
  unfold Pl.withN at hR
  rw [if_neg hnm, if_pos hop] at hR
  obtain ⟨o1, o2⟩ := hop
  rw [if_neg h4] at hR
  dsimp only at hR
  have hm4 : ((a : Int).tmod 4 != 0) = false := by rw [Int.tmod_eq_emod_of_nonneg (by omega)]; simp; omega
  have hm5 : ((a : Int) % 4 != 0) = false := by simp; omega
  have hm6 : (a : Int) % 4 = 0 := by omega
  have hm7 : ((a : Int) % 4 == 0) = true := by rw [beq_iff_eq]; omega
  have hq0 := Int.tdiv_eq_ediv_of_dvd (a := (a : Int) - (at' : Int) - 4) (b := 4)
  have hqb : -2147483648 ≤ ((a : Int) - (at' : Int) - 4).tdiv 4 ∧ ((a : Int) - (at' : Int) - 4).tdiv 4 ≤ 2147483647 := by
    have h1 : ((a : Int) - (at' : Int) - 4).tdiv 4 * 4 + ((a : Int) - (at' : Int) - 4).tmod 4 = (a : Int) - (at' : Int) - 4 := Int.tdiv_mul_add_tmod _ _
    have h2 : ((a : Int) - (at' : Int) - 4).tmod 4 < 4 ∧ -4 < ((a : Int) - (at' : Int) - 4).tmod 4 := by
      have g1 := Int.tmod_lt_of_pos ((a : Int) - (at' : Int) - 4) (b := 4) (by omega)
      have g2 := Int.lt_tmod_of_pos ((a : Int) - (at' : Int) - 4) (b := 4) (by omega)
      omega
    omega
  have hs1 : IntKind.i64.wrap ((a : Int) - (at' : Int)) = (a : Int) - (at' : Int) := IntWalk.i64_in _ (by omega)
  have hs2 : IntKind.i64.wrap ((a : Int) - (at' : Int) - 4) = (a : Int) - (at' : Int) - 4 := IntWalk.i64_in _ (by omega)
  obtain ⟨q, hq⟩ : ∃ q, ((a : Int) - (at' : Int) - 4).tdiv 4 = q := ⟨_, rfl⟩
  rw [hq] at hqb hR
  have hs3 : IntKind.i64.wrap q = q := IntWalk.i64_in _ (by omega)
  have hs4 : IntKind.i32.wrap q = q := by rw [IntKind.wrap_i32]; omega
  clear hq0
  have k2 : ((x.kind : Int) == 2) = true := by rw [beq_iff_eq]; omega
  have k3 : ((x.kind : Int) == 3) = false := by rw [beq_eq_false_iff_ne]; omega
  have k4 : ((x.kind : Int) == 4) = false := by rw [beq_eq_false_iff_ne]; omega
  have henc := fun W => renc_any { x.x with imm := q } W ⟨by show _ < 256; exact hx.op, by show _ < 256; exact hx.a, by show _ < 256; exact hx.b, by show _ < 256; exact hx.c, by (try dsimp only); first | exact hx.i0 | omega, by (try dsimp only); first | exact hx.i1 | omega⟩
  unfold encV insV at henc
  try dsimp only at henc
  obtain ⟨ee, hee⟩ : ∃ e, Pl.encE { x.x with imm := q } = e := ⟨_, rfl⟩
  obtain ⟨ew, hew⟩ : ∃ e, Pl.encW { x.x with imm := q } = e := ⟨_, rfl⟩
  rw [hee, hew] at henc
  have HE := Lib.hid henc
  clear henc
  have HRr : Hid (WdR (if ee = 0 then .ok [ew] else .error ee) = WdR R) := by
    refine Lib.hid ?_
    rw [← hR]
    congr 1
    rw [hee]
    by_cases h0 : ee = 0
    · rw [if_pos h0, if_pos h0]
      rw [← hew]
      unfold Pl.encW
      rw [hee, if_pos h0]
    · rw [if_neg h0, if_neg h0]
  clear hee hew hR
  clear hk hnm hno h4
  have HA := Lib.hid had
  obtain ⟨X, hX⟩ : ∃ X, w.heap.size = X := ⟨_, rfl⟩
  obtain ⟨n, hn⟩ : ∃ n, l.length = n := ⟨_, rfl⟩
  rw [hn] at HA ⊢
  clear hr hl hs hn7 had hn hbd
  go_enter Tryz.func32, Tryz.ntmps32
  go_upto_region 1 with (fail)
  generalize hW : World.alloc w _ = W
  have hz : W.heap[X]? = some (.cells (itC x).toArray 74 (0, 0)) := by rw [← hW, ← hX]; exact heap_alloc_new _ _
  have hb : Below w.heap.size w W := by rw [← hW]; exact (Below.refl _ _).alloc (Nat.le_refl _) _
  have H0 := Lib.hid (And.intro hz hb)
  clear hW hz hb
  obtain ⟨z0, z1, z2, z3, z4, z5, z6, z7, z8, z9⟩ := it_cells H0.out.1
  have zf6 := it_froz H0.out.1 6
  go_wp2_with fail
  (with_reducible refine (HA.out W H0.out.2).mono ?_)
  rintro y w1 ⟨v, rfl, rfl, hb1⟩
  have H1 := Lib.hid (And.intro ((hb1.block X (blk_lt H0.out.1)).trans H0.out.1) (H0.out.2.trans (hb1.mono H0.out.2.size)))
  clear hb1
  clear z0 z1 z2 z3 z4 z5 z6 z7 z8 z9 zf6
  obtain ⟨z0, z1, z2, z3, z4, z5, z6, z7, z8, z9⟩ := it_cells H1.out.1
  have zf6 := it_froz H1.out.1 6
  go_upto_region 14 with (fail)
  generalize hV : World.setCell _ _ _ = V
  have hz7 : V.heap[X]? = some (.cells (itC { x with x := { x.x with imm := q } }).toArray 74 (0, 0)) := by rw [← hV, set_at w1 X 6 _ _ _ H1.out.1]; rfl
  have H2 := Lib.hid (And.intro hz7 (show Below w.heap.size w V from by rw [← hV]; exact H1.out.2.setCell (p := ⟨X, 6, none⟩) (by show w.heap.size ≤ X; omega) _))
  clear hV hz7
  clear z0 z1 z2 z3 z4 z5 z6 z7 z8 z9 zf6
  obtain ⟨z0, z1, z2, z3, z4, z5, z6, z7, z8, z9⟩ := it_cells H2.out.1
  dsimp only at z0 z1 z2 z3 z4 z5 z6 z7 z8 z9
  have zf6 := it_froz H2.out.1 6
  go_wp2_with fail
  refine (HE.out _).mono ?_
  rintro y w5 ⟨v, rfl, rfl, hb5⟩
  have H5 := Lib.hid (H2.out.2.trans (hb5.mono H2.out.2.size))
  clear hb5 z0 z1 z2 z3 z4 z5 z6 z7 z8 z9 zf6
  go_wp2_with fail
  go_ret2
  refine ⟨_, rfl, ?_, H5.out.alloc H5.out.size _⟩
  rw [← HRr.out]
  by_cases h0 : ee = 0
  · rw [if_pos h0]
    subst h0
    exact ⟨_, _, rfl, Rd.new w5 (w32s [ew]) 24, fun h => by cases h⟩
  · rw [if_neg h0]
    exact ⟨_, _, _, rfl⟩
set_option maxRecDepth 100000 in
set_option maxHeartbeats 16000000 in
theorem rwords_2a (A : Option Addr) (c : Nat) (l : List Pl.It) (x : Pl.It) (at' : Nat) (w : World) (hr : Rd w 10 A l.length (itsC l)) (hl : l.length ≤ 1000) (hs : ∀ y ∈ l, y.s.length ≤ 65536) (hn7 : ∀ y ∈ l, y.kind = 7 → 0 ≤ y.n ∧ y.n ≤ 65536) (hx : Pl.ItOk2 x) (hat : at' ≤ 100000) (hk : x.kind = 2) (hnm : x.name ≠ []) (a : Nat) (hno : Pl.addrD l x.name = some a) (hop : ¬ (25 ≤ x.x.op ∧ x.x.op ≤ 29)) :
    Calls Tryz.prog 32 #[.slice A l.length c, itV x, .int .i64 (at' : Int)] w (RetB (WdR (Pl.wordsD l x at')) w) := by
  obtain ⟨R, hR⟩ : ∃ R, Pl.wordsD l x at' = R := ⟨_, rfl⟩
  rw [hR, itVa]
  unfold Pl.wordsD at hR
  have had := fun W hb => raddr_any A c l x.name W (hr.below hb) hl hs hn7
  have hbd := fun n => @Pl.addrD_bd2 l x.name hl hs hn7 n
  have ha := hbd a hno
  rw [if_pos ⟨.inl hk, hnm⟩, hno] at hR
  dsimp only at hR
  rw [if_pos hk] at hR
  rw [hno] at had
  change ∀ W, _ → Calls _ _ _ W (RetB (fun v _ => v = .int .i64 (a : Int)) W) at had
  have hne : x.name.isEmpty = false := by cases hq : x.name with
    | nil => exact absurd hq hnm
    | cons a r => rfl
  have a0 : ¬ (a : Int) < 0 := by omega
  unfold Pl.withN at hR
  rw [if_neg hnm, if_neg hop] at hR
  dsimp only at hR
  have hs4 : IntKind.i32.wrap (a : Int) = (a : Int) := by rw [IntKind.wrap_i32]; omega
  have k2 : ((x.kind : Int) == 2) = true := by rw [beq_iff_eq]; omega
  have k3 : ((x.kind : Int) == 3) = false := by rw [beq_eq_false_iff_ne]; omega
  have k4 : ((x.kind : Int) == 4) = false := by rw [beq_eq_false_iff_ne]; omega
  have henc := fun W => renc_any { x.x with imm := (a : Int) } W ⟨by show _ < 256; exact hx.op, by show _ < 256; exact hx.a, by show _ < 256; exact hx.b, by show _ < 256; exact hx.c, by (try dsimp only); first | exact hx.i0 | omega, by (try dsimp only); first | exact hx.i1 | omega⟩
  unfold encV insV at henc
  try dsimp only at henc
  obtain ⟨ee, hee⟩ : ∃ e, Pl.encE { x.x with imm := (a : Int) } = e := ⟨_, rfl⟩
  obtain ⟨ew, hew⟩ : ∃ e, Pl.encW { x.x with imm := (a : Int) } = e := ⟨_, rfl⟩
  rw [hee, hew] at henc
  have HE := Lib.hid henc
  clear henc
  have HRr : Hid (WdR (if ee = 0 then .ok [ew] else .error ee) = WdR R) := by
    refine Lib.hid ?_
    rw [← hR]
    congr 1
    rw [hee]
    by_cases h0 : ee = 0
    · rw [if_pos h0, if_pos h0]
      rw [← hew]
      unfold Pl.encW
      rw [hee, if_pos h0]
    · rw [if_neg h0, if_neg h0]
  clear hee hew hR
  clear hk hnm hno
  have HA := Lib.hid had
  obtain ⟨X, hX⟩ : ∃ X, w.heap.size = X := ⟨_, rfl⟩
  obtain ⟨n, hn⟩ : ∃ n, l.length = n := ⟨_, rfl⟩
  rw [hn] at HA ⊢
  clear hr hl hs hn7 had hn hbd
  go_enter Tryz.func32, Tryz.ntmps32
  go_upto_region 1 with (fail)
  generalize hW : World.alloc w _ = W
  have hz : W.heap[X]? = some (.cells (itC x).toArray 74 (0, 0)) := by rw [← hW, ← hX]; exact heap_alloc_new _ _
  have hb : Below w.heap.size w W := by rw [← hW]; exact (Below.refl _ _).alloc (Nat.le_refl _) _
  have H0 := Lib.hid (And.intro hz hb)
  clear hW hz hb
  have hoc : x.x.op < 25 ∨ 29 < x.x.op := by omega
  clear hop
  obtain ⟨z0, z1, z2, z3, z4, z5, z6, z7, z8, z9⟩ := it_cells H0.out.1
  have zf6 := it_froz H0.out.1 6
  go_wp2_with fail
  (with_reducible refine (HA.out W H0.out.2).mono ?_)
  rintro y w1 ⟨v, rfl, rfl, hb1⟩
  have H1 := Lib.hid (And.intro ((hb1.block X (blk_lt H0.out.1)).trans H0.out.1) (H0.out.2.trans (hb1.mono H0.out.2.size)))
  clear hb1
  clear z0 z1 z2 z3 z4 z5 z6 z7 z8 z9 zf6
  obtain ⟨z0, z1, z2, z3, z4, z5, z6, z7, z8, z9⟩ := it_cells H1.out.1
  have zf6 := it_froz H1.out.1 6
  rcases hoc with o1 | o1
  · go_upto_region 14 with (fail)
    generalize hV : World.setCell _ _ _ = V
    have hz7 : V.heap[X]? = some (.cells (itC { x with x := { x.x with imm := (a : Int) } }).toArray 74 (0, 0)) := by rw [← hV, set_at w1 X 6 _ _ _ H1.out.1]; rfl
    have H2 := Lib.hid (And.intro hz7 (show Below w.heap.size w V from by rw [← hV]; exact H1.out.2.setCell (p := ⟨X, 6, none⟩) (by show w.heap.size ≤ X; omega) _))
    clear hV hz7
    clear z0 z1 z2 z3 z4 z5 z6 z7 z8 z9 zf6
    obtain ⟨z0, z1, z2, z3, z4, z5, z6, z7, z8, z9⟩ := it_cells H2.out.1
    dsimp only at z0 z1 z2 z3 z4 z5 z6 z7 z8 z9
    have zf6 := it_froz H2.out.1 6
    go_wp2_with fail
    refine (HE.out _).mono ?_
    rintro y w5 ⟨v, rfl, rfl, hb5⟩
    have H5 := Lib.hid (H2.out.2.trans (hb5.mono H2.out.2.size))
    clear hb5 z0 z1 z2 z3 z4 z5 z6 z7 z8 z9 zf6
    go_wp2_with fail
    go_ret2
    refine ⟨_, rfl, ?_, H5.out.alloc H5.out.size _⟩
    rw [← HRr.out]
    by_cases h0 : ee = 0
    · rw [if_pos h0]
      subst h0
      exact ⟨_, _, rfl, Rd.new w5 (w32s [ew]) 24, fun h => by cases h⟩
    · rw [if_neg h0]
      exact ⟨_, _, _, rfl⟩
  · have o2 : ¬ x.x.op < 25 := by omega
    go_upto_region 14 with (fail)
    generalize hV : World.setCell _ _ _ = V
    have hz7 : V.heap[X]? = some (.cells (itC { x with x := { x.x with imm := (a : Int) } }).toArray 74 (0, 0)) := by rw [← hV, set_at w1 X 6 _ _ _ H1.out.1]; rfl
    have H2 := Lib.hid (And.intro hz7 (show Below w.heap.size w V from by rw [← hV]; exact H1.out.2.setCell (p := ⟨X, 6, none⟩) (by show w.heap.size ≤ X; omega) _))
    clear hV hz7
    clear z0 z1 z2 z3 z4 z5 z6 z7 z8 z9 zf6
    obtain ⟨z0, z1, z2, z3, z4, z5, z6, z7, z8, z9⟩ := it_cells H2.out.1
    dsimp only at z0 z1 z2 z3 z4 z5 z6 z7 z8 z9
    have zf6 := it_froz H2.out.1 6
    go_wp2_with fail
    refine (HE.out _).mono ?_
    rintro y w5 ⟨v, rfl, rfl, hb5⟩
    have H5 := Lib.hid (H2.out.2.trans (hb5.mono H2.out.2.size))
    clear hb5 z0 z1 z2 z3 z4 z5 z6 z7 z8 z9 zf6
    go_wp2_with fail
    go_ret2
    refine ⟨_, rfl, ?_, H5.out.alloc H5.out.size _⟩
    rw [← HRr.out]
    by_cases h0 : ee = 0
    · rw [if_pos h0]
      subst h0
      exact ⟨_, _, rfl, Rd.new w5 (w32s [ew]) 24, fun h => by cases h⟩
    · rw [if_neg h0]
      exact ⟨_, _, _, rfl⟩
set_option maxRecDepth 100000 in
set_option maxHeartbeats 16000000 in
theorem rwords_3o (A : Option Addr) (c : Nat) (l : List Pl.It) (x : Pl.It) (at' : Nat) (w : World) (hr : Rd w 10 A l.length (itsC l)) (hl : l.length ≤ 1000) (hs : ∀ y ∈ l, y.s.length ≤ 65536) (hn7 : ∀ y ∈ l, y.kind = 7 → 0 ≤ y.n ∧ y.n ≤ 65536) (hx : Pl.ItOk2 x) (hat : at' ≤ 100000) (hk : x.kind = 3) (hnm : x.name = []) :
    Calls Tryz.prog 32 #[.slice A l.length c, itV x, .int .i64 (at' : Int)] w (RetB (WdR (Pl.wordsD l x at')) w) := by
  obtain ⟨R, hR⟩ : ∃ R, Pl.wordsD l x at' = R := ⟨_, rfl⟩
  rw [hR, itVa]
  unfold Pl.wordsD at hR
  have had := fun W hb => raddr_any A c l x.name W (hr.below hb) hl hs hn7
  have hbd := fun n => @Pl.addrD_bd2 l x.name hl hs hn7 n
  rw [if_neg (by rw [hnm]; simp)] at hR
  dsimp only at hR
  rw [if_neg (by omega), if_pos hk, if_pos hnm] at hR
  have hne : x.name.isEmpty = true := by rw [hnm]; rfl
  have hcu : IntKind.u32.wrap x.n = ((Pl.u32N x.n : Nat) : Int) := by unfold Pl.u32N; rw [IntKind.wrap_u32]; omega
  have k2 : ((x.kind : Int) == 2) = false := by rw [beq_eq_false_iff_ne]; omega
  have k3 : ((x.kind : Int) == 3) = true := by rw [beq_iff_eq]; omega
  have k4 : ((x.kind : Int) == 4) = false := by rw [beq_eq_false_iff_ne]; omega
  obtain ⟨u, hu⟩ : ∃ u : Nat, Pl.u32N x.n = u := ⟨_, rfl⟩
  rw [hu] at hR
  have hub : u < 4294967296 := by rw [← hu]; unfold Pl.u32N; omega
  have hq1 : (u : Int) / 65536 = ((u / 65536 : Nat) : Int) := by omega
  have hq2 : (u : Int) % 65536 = ((u % 65536 : Nat) : Int) := by omega
  have hw1 : IntKind.i32.wrap ((u : Int) / 65536) = ((u / 65536 : Nat) : Int) := by rw [IntKind.wrap_i32]; omega
  have hw2 : IntKind.i32.wrap ((u : Int) % 65536) = ((u % 65536 : Nat) : Int) := by rw [IntKind.wrap_i32]; omega
  have he1 := fun W => renc_any ⟨19, x.x.a, 0, 0, ((u / 65536 : Nat) : Int)⟩ W ⟨by dsimp only; omega, hx.a, by dsimp only; omega, by dsimp only; omega, by dsimp only; omega, by dsimp only; omega⟩
  have he2 := fun W => renc_any ⟨16, x.x.a, x.x.a, 0, ((u % 65536 : Nat) : Int)⟩ W ⟨by dsimp only; omega, hx.a, hx.a, by dsimp only; omega, by dsimp only; omega, by dsimp only; omega⟩
  unfold encV insV at he1 he2
  dsimp only at he1 he2
  obtain ⟨r1, hr1⟩ : ∃ r, Pl.encW ⟨19, x.x.a, 0, 0, ((u / 65536 : Nat) : Int)⟩ = r := ⟨_, rfl⟩
  obtain ⟨r2, hr2⟩ : ∃ r, Pl.encW ⟨16, x.x.a, x.x.a, 0, ((u % 65536 : Nat) : Int)⟩ = r := ⟨_, rfl⟩
  rw [hr1] at he1
  rw [hr2] at he2
  rw [hr1, hr2] at hR
  obtain ⟨v1, hv1⟩ : ∃ z, ((u / 65536 : Nat) : Int) = z := ⟨_, rfl⟩
  obtain ⟨v2, hv2⟩ : ∃ z, ((u % 65536 : Nat) : Int) = z := ⟨_, rfl⟩
  rw [hv1] at he1 hw1
  rw [hv2] at he2 hw2
  have HE1 := Lib.hid he1
  have HE2 := Lib.hid he2
  subst hR
  clear he1 he2 hr1 hr2 hv1 hv2 hq1 hq2
  rw [hu] at hcu
  clear hk hnm hu
  have HA := Lib.hid had
  obtain ⟨X, hX⟩ : ∃ X, w.heap.size = X := ⟨_, rfl⟩
  obtain ⟨n, hn⟩ : ∃ n, l.length = n := ⟨_, rfl⟩
  rw [hn] at HA ⊢
  clear hr hl hs hn7 had hn hbd
  go_enter Tryz.func32, Tryz.ntmps32
  go_upto_region 1 with (fail)
  generalize hW : World.alloc w _ = W
  have hz : W.heap[X]? = some (.cells (itC x).toArray 74 (0, 0)) := by rw [← hW, ← hX]; exact heap_alloc_new _ _
  have hb : Below w.heap.size w W := by rw [← hW]; exact (Below.refl _ _).alloc (Nat.le_refl _) _
  have H0 := Lib.hid (And.intro hz hb)
  clear hW hz hb
  obtain ⟨z0, z1, z2, z3, z4, z5, z6, z7, z8, z9⟩ := it_cells H0.out.1
  have zf6 := it_froz H0.out.1 6
  go_wp2_with fail
  refine (HE1.out _).mono ?_
  rintro y w5 ⟨v, rfl, rfl, hb5⟩
  have H5 := Lib.hid (And.intro ((hb5.block X (blk_lt H0.out.1)).trans H0.out.1) (H0.out.2.trans (hb5.mono H0.out.2.size)))
  clear hb5 z0 z1 z2 z3 z4 z5 z6 z7 z8 z9 zf6
  obtain ⟨z0, z1, z2, z3, z4, z5, z6, z7, z8, z9⟩ := it_cells H5.out.1
  have zf6 := it_froz H5.out.1 6
  go_wp2_with fail
  refine (HE2.out _).mono ?_
  rintro y w6 ⟨v, rfl, rfl, hb6⟩
  have H6 := Lib.hid (H5.out.2.trans (hb6.mono H5.out.2.size))
  clear hb6 z0 z1 z2 z3 z4 z5 z6 z7 z8 z9 zf6
  go_wp2_with fail
  go_ret2
  refine ⟨_, rfl, ?_, H6.out.alloc H6.out.size _⟩
  exact ⟨_, _, rfl, Rd.new w6 (w32s [r1, r2]) 24, fun h => by cases h⟩
set_option maxRecDepth 100000 in
set_option maxHeartbeats 16000000 in
theorem rwords_3a (A : Option Addr) (c : Nat) (l : List Pl.It) (x : Pl.It) (at' : Nat) (w : World) (hr : Rd w 10 A l.length (itsC l)) (hl : l.length ≤ 1000) (hs : ∀ y ∈ l, y.s.length ≤ 65536) (hn7 : ∀ y ∈ l, y.kind = 7 → 0 ≤ y.n ∧ y.n ≤ 65536) (hx : Pl.ItOk2 x) (hat : at' ≤ 100000) (hk : x.kind = 3) (hnm : x.name ≠ []) (a : Nat) (hno : Pl.addrD l x.name = some a) :
    Calls Tryz.prog 32 #[.slice A l.length c, itV x, .int .i64 (at' : Int)] w (RetB (WdR (Pl.wordsD l x at')) w) := by
  obtain ⟨R, hR⟩ : ∃ R, Pl.wordsD l x at' = R := ⟨_, rfl⟩
  rw [hR, itVa]
  unfold Pl.wordsD at hR
  have had := fun W hb => raddr_any A c l x.name W (hr.below hb) hl hs hn7
  have hbd := fun n => @Pl.addrD_bd2 l x.name hl hs hn7 n
  have ha := hbd a hno
  rw [if_pos ⟨.inr hk, hnm⟩, hno] at hR
  dsimp only at hR
  rw [if_neg (by omega), if_pos hk, if_neg hnm] at hR
  rw [hno] at had
  change ∀ W, _ → Calls _ _ _ W (RetB (fun v _ => v = .int .i64 (a : Int)) W) at had
  have hne : x.name.isEmpty = false := by cases hq : x.name with
    | nil => exact absurd hq hnm
    | cons a r => rfl
  have a0 : ¬ (a : Int) < 0 := by omega
  have hcu : IntKind.u32.wrap (a : Int) = (a : Int) := by rw [IntKind.wrap_u32]; omega
  have k2 : ((x.kind : Int) == 2) = false := by rw [beq_eq_false_iff_ne]; omega
  have k3 : ((x.kind : Int) == 3) = true := by rw [beq_iff_eq]; omega
  have k4 : ((x.kind : Int) == 4) = false := by rw [beq_eq_false_iff_ne]; omega
  obtain ⟨u, hu⟩ : ∃ u : Nat, a = u := ⟨_, rfl⟩
  rw [hu] at hR
  have hub : u < 4294967296 := by omega
  have hq1 : (u : Int) / 65536 = ((u / 65536 : Nat) : Int) := by omega
  have hq2 : (u : Int) % 65536 = ((u % 65536 : Nat) : Int) := by omega
  have hw1 : IntKind.i32.wrap ((u : Int) / 65536) = ((u / 65536 : Nat) : Int) := by rw [IntKind.wrap_i32]; omega
  have hw2 : IntKind.i32.wrap ((u : Int) % 65536) = ((u % 65536 : Nat) : Int) := by rw [IntKind.wrap_i32]; omega
  have he1 := fun W => renc_any ⟨19, x.x.a, 0, 0, ((u / 65536 : Nat) : Int)⟩ W ⟨by dsimp only; omega, hx.a, by dsimp only; omega, by dsimp only; omega, by dsimp only; omega, by dsimp only; omega⟩
  have he2 := fun W => renc_any ⟨16, x.x.a, x.x.a, 0, ((u % 65536 : Nat) : Int)⟩ W ⟨by dsimp only; omega, hx.a, hx.a, by dsimp only; omega, by dsimp only; omega, by dsimp only; omega⟩
  unfold encV insV at he1 he2
  dsimp only at he1 he2
  obtain ⟨r1, hr1⟩ : ∃ r, Pl.encW ⟨19, x.x.a, 0, 0, ((u / 65536 : Nat) : Int)⟩ = r := ⟨_, rfl⟩
  obtain ⟨r2, hr2⟩ : ∃ r, Pl.encW ⟨16, x.x.a, x.x.a, 0, ((u % 65536 : Nat) : Int)⟩ = r := ⟨_, rfl⟩
  rw [hr1] at he1
  rw [hr2] at he2
  rw [hr1, hr2] at hR
  obtain ⟨v1, hv1⟩ : ∃ z, ((u / 65536 : Nat) : Int) = z := ⟨_, rfl⟩
  obtain ⟨v2, hv2⟩ : ∃ z, ((u % 65536 : Nat) : Int) = z := ⟨_, rfl⟩
  rw [hv1] at he1 hw1
  rw [hv2] at he2 hw2
  have HE1 := Lib.hid he1
  have HE2 := Lib.hid he2
  subst hR
  clear he1 he2 hr1 hr2 hv1 hv2 hq1 hq2
  subst hu
  clear hk hnm hno
  have HA := Lib.hid had
  obtain ⟨X, hX⟩ : ∃ X, w.heap.size = X := ⟨_, rfl⟩
  obtain ⟨n, hn⟩ : ∃ n, l.length = n := ⟨_, rfl⟩
  rw [hn] at HA ⊢
  clear hr hl hs hn7 had hn hbd
  go_enter Tryz.func32, Tryz.ntmps32
  go_upto_region 1 with (fail)
  generalize hW : World.alloc w _ = W
  have hz : W.heap[X]? = some (.cells (itC x).toArray 74 (0, 0)) := by rw [← hW, ← hX]; exact heap_alloc_new _ _
  have hb : Below w.heap.size w W := by rw [← hW]; exact (Below.refl _ _).alloc (Nat.le_refl _) _
  have H0 := Lib.hid (And.intro hz hb)
  clear hW hz hb
  obtain ⟨z0, z1, z2, z3, z4, z5, z6, z7, z8, z9⟩ := it_cells H0.out.1
  have zf6 := it_froz H0.out.1 6
  go_wp2_with fail
  (with_reducible refine (HA.out W H0.out.2).mono ?_)
  rintro y w1 ⟨v, rfl, rfl, hb1⟩
  have H1 := Lib.hid (And.intro ((hb1.block X (blk_lt H0.out.1)).trans H0.out.1) (H0.out.2.trans (hb1.mono H0.out.2.size)))
  clear hb1
  clear z0 z1 z2 z3 z4 z5 z6 z7 z8 z9 zf6
  obtain ⟨z0, z1, z2, z3, z4, z5, z6, z7, z8, z9⟩ := it_cells H1.out.1
  have zf6 := it_froz H1.out.1 6
  go_wp2_with fail
  refine (HE1.out _).mono ?_
  rintro y w5 ⟨v, rfl, rfl, hb5⟩
  have H5 := Lib.hid (And.intro ((hb5.block X (blk_lt H1.out.1)).trans H1.out.1) (H1.out.2.trans (hb5.mono H1.out.2.size)))
  clear hb5 z0 z1 z2 z3 z4 z5 z6 z7 z8 z9 zf6
  obtain ⟨z0, z1, z2, z3, z4, z5, z6, z7, z8, z9⟩ := it_cells H5.out.1
  have zf6 := it_froz H5.out.1 6
  go_wp2_with fail
  refine (HE2.out _).mono ?_
  rintro y w6 ⟨v, rfl, rfl, hb6⟩
  have H6 := Lib.hid (H5.out.2.trans (hb6.mono H5.out.2.size))
  clear hb6 z0 z1 z2 z3 z4 z5 z6 z7 z8 z9 zf6
  go_wp2_with fail
  go_ret2
  refine ⟨_, rfl, ?_, H6.out.alloc H6.out.size _⟩
  exact ⟨_, _, rfl, Rd.new w6 (w32s [r1, r2]) 24, fun h => by cases h⟩
set_option maxRecDepth 100000 in
set_option maxHeartbeats 16000000 in
theorem rwords_4 (A : Option Addr) (c : Nat) (l : List Pl.It) (x : Pl.It) (at' : Nat) (w : World) (hr : Rd w 10 A l.length (itsC l)) (hl : l.length ≤ 1000) (hs : ∀ y ∈ l, y.s.length ≤ 65536) (hn7 : ∀ y ∈ l, y.kind = 7 → 0 ≤ y.n ∧ y.n ≤ 65536) (hx : Pl.ItOk2 x) (hat : at' ≤ 100000) (hk : x.kind = 4) :
    Calls Tryz.prog 32 #[.slice A l.length c, itV x, .int .i64 (at' : Int)] w (RetB (WdR (Pl.wordsD l x at')) w) := by
  obtain ⟨R, hR⟩ : ∃ R, Pl.wordsD l x at' = R := ⟨_, rfl⟩
  rw [hR, itVa]
  unfold Pl.wordsD at hR
  have had := fun W hb => raddr_any A c l x.name W (hr.below hb) hl hs hn7
  have hbd := fun n => @Pl.addrD_bd2 l x.name hl hs hn7 n
  rw [if_neg (by intro h; omega)] at hR
  dsimp only at hR
  rw [if_neg (by omega), if_neg (by omega), if_pos hk] at hR
  subst hR
  have hcu : IntKind.u32.wrap x.n = ((Pl.u32N x.n : Nat) : Int) := by unfold Pl.u32N; rw [IntKind.wrap_u32]; omega
  obtain ⟨u, hu⟩ : ∃ u : Nat, Pl.u32N x.n = u := ⟨_, rfl⟩
  rw [hu] at hcu ⊢
  have k2 : ((x.kind : Int) == 2) = false := by rw [beq_eq_false_iff_ne]; omega
  have k3 : ((x.kind : Int) == 3) = false := by rw [beq_eq_false_iff_ne]; omega
  have k4 : ((x.kind : Int) == 4) = true := by rw [beq_iff_eq]; omega
  clear hk hu
  have HA := Lib.hid had
  obtain ⟨X, hX⟩ : ∃ X, w.heap.size = X := ⟨_, rfl⟩
  obtain ⟨n, hn⟩ : ∃ n, l.length = n := ⟨_, rfl⟩
  rw [hn] at HA ⊢
  clear hr hl hs hn7 had hn hbd
  go_enter Tryz.func32, Tryz.ntmps32
  go_upto_region 1 with (fail)
  generalize hW : World.alloc w _ = W
  have hz : W.heap[X]? = some (.cells (itC x).toArray 74 (0, 0)) := by rw [← hW, ← hX]; exact heap_alloc_new _ _
  have hb : Below w.heap.size w W := by rw [← hW]; exact (Below.refl _ _).alloc (Nat.le_refl _) _
  have H0 := Lib.hid (And.intro hz hb)
  clear hW hz hb
  obtain ⟨z0, z1, z2, z3, z4, z5, z6, z7, z8, z9⟩ := it_cells H0.out.1
  have zf6 := it_froz H0.out.1 6
  go_wp2_with fail
  go_ret2
  refine ⟨_, rfl, ?_, H0.out.2.alloc H0.out.2.size _⟩
  exact ⟨_, _, rfl, Rd.new W (w32s [u]) 24, fun h => by cases h⟩
set_option maxRecDepth 100000 in
set_option maxHeartbeats 16000000 in
theorem rwords_0 (A : Option Addr) (c : Nat) (l : List Pl.It) (x : Pl.It) (at' : Nat) (w : World) (hr : Rd w 10 A l.length (itsC l)) (hl : l.length ≤ 1000) (hs : ∀ y ∈ l, y.s.length ≤ 65536) (hn7 : ∀ y ∈ l, y.kind = 7 → 0 ≤ y.n ∧ y.n ≤ 65536) (hx : Pl.ItOk2 x) (hat : at' ≤ 100000) (hk : ¬ x.kind = 2) (hk3 : ¬ x.kind = 3) (hk4 : ¬ x.kind = 4) :
    Calls Tryz.prog 32 #[.slice A l.length c, itV x, .int .i64 (at' : Int)] w (RetB (WdR (Pl.wordsD l x at')) w) := by
  obtain ⟨R, hR⟩ : ∃ R, Pl.wordsD l x at' = R := ⟨_, rfl⟩
  rw [hR, itVa]
  unfold Pl.wordsD at hR
  have had := fun W hb => raddr_any A c l x.name W (hr.below hb) hl hs hn7
  have hbd := fun n => @Pl.addrD_bd2 l x.name hl hs hn7 n
  rw [if_neg (by intro h; omega)] at hR
  dsimp only at hR
  rw [if_neg hk, if_neg hk3, if_neg hk4] at hR
  subst hR
  have k2 : ((x.kind : Int) == 2) = false := by rw [beq_eq_false_iff_ne]; omega
  have k3 : ((x.kind : Int) == 3) = false := by rw [beq_eq_false_iff_ne]; omega
  have k4 : ((x.kind : Int) == 4) = false := by rw [beq_eq_false_iff_ne]; omega
  clear hk hk3 hk4
  have HA := Lib.hid had
  obtain ⟨X, hX⟩ : ∃ X, w.heap.size = X := ⟨_, rfl⟩
  obtain ⟨n, hn⟩ : ∃ n, l.length = n := ⟨_, rfl⟩
  rw [hn] at HA ⊢
  clear hr hl hs hn7 had hn hbd
  go_enter Tryz.func32, Tryz.ntmps32
  go_upto_region 1 with (fail)
  generalize hW : World.alloc w _ = W
  have hz : W.heap[X]? = some (.cells (itC x).toArray 74 (0, 0)) := by rw [← hW, ← hX]; exact heap_alloc_new _ _
  have hb : Below w.heap.size w W := by rw [← hW]; exact (Below.refl _ _).alloc (Nat.le_refl _) _
  have H0 := Lib.hid (And.intro hz hb)
  clear hW hz hb
  obtain ⟨z0, z1, z2, z3, z4, z5, z6, z7, z8, z9⟩ := it_cells H0.out.1
  have zf6 := it_froz H0.out.1 6
  go_wp2_with fail
  go_ret2
  refine ⟨_, rfl, ?_, H0.out.2.alloc H0.out.2.size _⟩
  exact ⟨_, _, rfl, Rd.zero, fun h => by cases h⟩
theorem rwords_any (A : Option Addr) (c : Nat) (l : List Pl.It) (x : Pl.It) (at' : Nat) (w : World) (hr : Rd w 10 A l.length (itsC l)) (hl : l.length ≤ 1000) (hs : ∀ y ∈ l, y.s.length ≤ 65536) (hn7 : ∀ y ∈ l, y.kind = 7 → 0 ≤ y.n ∧ y.n ≤ 65536) (hx : Pl.ItOk2 x) (hat : at' ≤ 100000) :
    Calls Tryz.prog 32 #[.slice A l.length c, itV x, .int .i64 (at' : Int)] w (RetB (WdR (Pl.wordsD l x at')) w) := by
  by_cases hk : x.kind = 2
  · by_cases hnm : x.name = []
    · exact rwords_2o A c l x at' w hr hl hs hn7 hx hat hk hnm
    · cases hno : Pl.addrD l x.name with
      | none => exact rwords_2n A c l x at' w hr hl hs hn7 hx hat hk hnm hno
      | some a =>
        by_cases hop : 25 ≤ x.x.op ∧ x.x.op ≤ 29
        · by_cases h4 : a % 4 ≠ 0
          · exact rwords_2j A c l x at' w hr hl hs hn7 hx hat hk hnm a hno hop h4
          · exact rwords_2k A c l x at' w hr hl hs hn7 hx hat hk hnm a hno hop h4
        · exact rwords_2a A c l x at' w hr hl hs hn7 hx hat hk hnm a hno hop
  by_cases hk3 : x.kind = 3
  · by_cases hnm : x.name = []
    · exact rwords_3o A c l x at' w hr hl hs hn7 hx hat hk3 hnm
    · cases hno : Pl.addrD l x.name with
      | none => exact rwords_3n A c l x at' w hr hl hs hn7 hx hat hk3 hnm hno
      | some a => exact rwords_3a A c l x at' w hr hl hs hn7 hx hat hk3 hnm a hno
  by_cases hk4 : x.kind = 4
  · exact rwords_4 A c l x at' w hr hl hs hn7 hx hat hk4
  · exact rwords_0 A c l x at' w hr hl hs hn7 hx hat hk hk3 hk4
end Go.Proofs.YtmmnkoeajdeldaaGreatDoor
namespace Go.Proofs.YtmmnkoeajdeldaaGreatDoor
open Go.RowKit
set_option linter.unusedVariables false
set_option linter.unusedSimpArgs false
attribute [local go_sem] ba_get ba_cut ba_add
theorem info_item10 : (Tryz.prog.info? 74).map (fun i => (i.zero, i.size, i.bytes)) = some (some (itV Pl.It.nil), 10, 64) := by kernel_rfl
theorem itC_one (x : Pl.It) : ∀ u ∈ itC x, u.oneCell' = true := by
  intro u hu
  simp only [itC, List.mem_cons, List.not_mem_nil, or_false] at hu
  rcases hu with rfl | rfl | rfl | rfl | rfl | rfl | rfl | rfl | rfl | rfl <;> rfl
theorem itsC_snoc (l : List Pl.It) (x : Pl.It) : itsC (l ++ [x]) = itsC l ++ itC x := by simp [itsC]
/-- All lines' items, or the error and its line. -/
def ItsR (E : Except (Nat × Nat) (List Pl.It)) (v : Value) (w' : World) : Prop := match E with
  | .ok l => ∃ A c, v = .tuple #[.slice A l.length c, .int .i64 0, .int .i64 0] ∧ Rd w' 10 A l.length (itsC l)
  | .error e => ∃ A n c, v = .tuple #[.slice A n c, .int .i64 (e.1 : Int), .int .i64 (e.2 : Int)]
theorem itemsF_cons (i : Nat) (out : List Pl.It) (s : List UInt8) (r : List (List UInt8)) : Pl.itemsF i out (s :: r) = match Pl.toksD s with
    | none => .error (3, i + 1)
    | some t => if (Pl.itemD t).e ≠ 0 then .error ((Pl.itemD t).e, i + 1) else if Pl.twice (Pl.itemD t) out then .error (8, i + 1) else Pl.itemsF (i + 1) (out ++ [Pl.itemD t]) r := rfl
theorem go3_ret {fn : Func} {a : Act} {w W : World} {p q r : Nat} {x y z : Value} {φ : Value → World → Prop} (hf : fn.results = #[.tmp p, .tmp q, .tmp r]) (hd : a.defers = []) (hx : a.tmps.getD p undef = x) (hy : a.tmps.getD q undef = y) (hz : a.tmps.getD r undef = z) (h : φ (.tuple #[x, y, z]) W) (hb : Below w.heap.size w W) :
    bodyPost Tryz.prog fn (RetB φ w) .ret a W :=
  bodyPost_ret (v := .tuple #[x, y, z]) (by subst hx hy hz; simp [results, hf]) hd ⟨_, rfl, h, hb⟩
set_option maxRecDepth 100000 in
set_option maxHeartbeats 16000000 in
theorem ritems_any (A : Option Addr) (c : Nat) (L : List (List UInt8)) (w : World) (hr : Rd w 1 A L.length (strs L)) (hL : L.length ≤ 400) (hs : ∀ s ∈ L, s.length ≤ 65536) :
    Calls Tryz.prog 31 #[.slice A L.length c] w (RetB (ItsR (Pl.itemsF 0 [] L)) w) := by
  obtain ⟨R, hR⟩ : ∃ R, Pl.itemsF 0 [] L = R := ⟨_, rfl⟩
  rw [hR]
  have hgi := fun x W => rgives_any x W
  simp only [itVa] at hgi
  have HL := Lib.hid (And.intro hr (And.intro hs (And.intro hR hgi)))
  clear hr hs hR hgi
  obtain ⟨n, hn⟩ : ∃ n, L.length = n := ⟨_, rfl⟩
  rw [hn] at hL HL ⊢
  obtain ⟨B, hB⟩ : ∃ B, w.heap.size = B := ⟨_, rfl⟩
  go_enter Tryz.func31, Tryz.ntmps31
  go_wp2_with fail
  go_loopw [5, 6] (fun v i wr => ∃ (k : Nat) (its : List Pl.It), k ≤ n ∧ its.length = k ∧ i = .int .i64 (k : Int) ∧ Hid (wr.ownsRow B 74 10 v k (itsC its) ∧ Below B w wr) ∧ (∃ oA oc, v = .slice oA k oc) ∧ Hid (Pl.itemsF k its (L.drop k) = R)) (fun _ i _ => n - (intOf i).toNat)
  case atStart =>
    refine ⟨0, [], by omega, rfl, rfl, Lib.hid ⟨?_, ?_⟩, ⟨_, _, rfl⟩, Lib.hid (by rw [List.drop_zero]; exact HL.out.2.2.1)⟩
    · rw [← hB]; exact own_e w w.heap.size _ 10 (Nat.le_refl _)
    · rw [← hB]; exact (Below.refl _ _).alloc (Nat.le_refl _) _
  case round =>
    obtain ⟨k, its, hk, hik, rfl, HO, ⟨oA, oc, rfl⟩, HK⟩ := hrel
    by_cases hkn : k < n
    · have hkl : k < L.length := by omega
      have hKF := HK.out
      rw [List.drop_eq_getElem_cons hkl, itemsF_cons] at hKF
      have hsk := HL.out.2.1 L[k] (List.getElem_mem hkl)
      obtain ⟨bA, bo, hAe, hbA, hcA⟩ := (HL.out.1.below (by rw [hB]; exact HO.out.2)).at1 hkn
      rw [strs_get L k hkl] at hcA
      obtain ⟨s, hsx⟩ : ∃ s, L[k] = s := ⟨_, rfl⟩
      rw [hsx] at hKF hsk
      have hcA' : wr.cell? ⟨bA, bo + k, none⟩ = some (.string ⟨s.toArray⟩) := by rw [← hsx]; exact hcA
      subst hAe
      have HT := Lib.hid (fun W => rtoks_any s (by omega) W)
      have hok := fun b => @Pl.toksD_ok s b
      have hln := fun b => @Pl.toksD_len s b
      obtain ⟨E, hE⟩ : ∃ E, Pl.toksD s = E := ⟨_, rfl⟩
      rw [hE] at hKF HT hok hln
      have HN := Lib.hid (And.intro hKF (And.intro hok hln))
      clear hKF HK hcA hsx hE hok hln
      go_wp2_with fail
      (with_reducible refine (HT.out _).mono ?_)
      rintro y w1 ⟨v, rfl, hq, hb1⟩
      have hO1 := own_below HO.out.1 hb1
      have hsz : B ≤ wr.heap.size := by have := HO.out.2.size; omega
      have HO1 := Lib.hid (And.intro hO1 (HO.out.2.trans (hb1.mono hsz)))
      have hsz1 : B ≤ w1.heap.size := by have := HO1.out.2.size; omega
      clear hO1 hb1 hcA'
      cases E with
      | none =>
        obtain ⟨tA, tn, tc, rfl⟩ := hq
        have HR := Lib.hid (show R = .error (3, k + 1) from HN.out.1.symm)
        go_wp2_with fail
        refine go3_ret rfl rfl rfl rfl rfl ?_ (by rw [hB]; exact HO1.out.2)
        rw [HR.out]
        exact ⟨_, _, _, rfl⟩
      | some t =>
        obtain ⟨tA, tc, rfl, hrt⟩ := hq
        have hI := ritem_any tA tc t w1 hrt (by have := HN.out.2.2 t rfl; omega) (fun d hd => (HN.out.2.1 t rfl d hd).mono (by omega))
        have hKF := HN.out.1
        dsimp only at hKF
        obtain ⟨x, hx⟩ : ∃ x, Pl.itemD t = x := ⟨_, rfl⟩
        rw [hx] at hI hKF
        have HI := Lib.hid hI
        have HKF := Lib.hid hKF
        obtain ⟨tn, htn⟩ : ∃ z, t.length = z := ⟨_, rfl⟩
        rw [htn] at HI ⊢
        clear hI hKF hrt hx htn
        go_wp2_with fail
        (with_reducible refine HI.out.mono ?_)
        rintro y w2 ⟨v, rfl, rfl, hb2⟩
        rw [itVa]
        have HO2 := Lib.hid (And.intro (own_below HO1.out.1 hb2) (HO1.out.2.trans (hb2.mono hsz1)))
        have hsz2 : B ≤ w2.heap.size := by have := HO2.out.2.size; omega
        clear hb2 HI
        go_upto_region 9 with (fail)
        obtain ⟨C, hC⟩ : ∃ C, w2.heap.size = C := ⟨_, rfl⟩
        generalize hV : World.alloc w2 _ = V
        have hzC : V.heap[C]? = some (.cells (itC x).toArray 74 (0, 0)) := by rw [← hV, ← hC]; exact heap_alloc_new _ _
        have hbV : Below w2.heap.size w2 V := by rw [← hV]; exact (Below.refl _ _).alloc (Nat.le_refl _) _
        have HV := Lib.hid (And.intro hzC (And.intro (own_below HO2.out.1 hbV) (HO2.out.2.trans (hbV.mono hsz2))))
        have hszV : B ≤ V.heap.size := by have := HV.out.2.2.size; omega
        simp only [hC]
        clear hV hzC hbV hC
        obtain ⟨x0, x1, x2, x3, x4, x5, x6, x7, x8, x9⟩ := it_cells HV.out.1
        by_cases hxe : x.e ≠ 0
        · have e0 : ((x.e : Int) != 0) = true := by rw [bne_iff_ne]; omega
          have HR := Lib.hid (show R = .error (x.e, k + 1) from by rw [← HKF.out, if_pos hxe])
          have hk1 : IntKind.i64.wrap ((k : Int) + 1) = (k : Int) + 1 := IntWalk.i64_in _ (by omega)
          clear hxe
          go_upto_region 10 with (fail)
          refine wp_region_held_drew (S := (fun W => W.cell? ⟨C, 9, none⟩ = some (.int .i64 (x.e : Int)))) (by kernel_rfl) (by exact x9) (fun hHeld => ?_)
          refine wpAnyH_take (i := 0) (v := ?_) rfl (by kernel_rfl) (by kernel_rfl) (by kernel_rfl) (fun _ _ _ h => h) (Or.inl ⟨by kernel_rfl, ?_⟩) hHeld ?_
          rotate_left
          · (intro w' hSw; (try dsimp only at hSw); go_simp; try with_reducible rfl)
          simp only [Act.put, lay8]
          refine wpAnyH_take (i := 1) (v := ?_) rfl (by kernel_rfl) (by kernel_rfl) (by kernel_rfl) (fun _ _ _ h => h) (Or.inl ⟨by kernel_rfl, ?_⟩) hHeld ?_
          rotate_left
          · (intro w' hSw; (try dsimp only at hSw); go_simp; try with_reducible rfl)
          simp only [Act.put, lay8]
          refine wpAnyH_take (i := 2) (v := ?_) rfl (by kernel_rfl) (by kernel_rfl) (by kernel_rfl) (fun _ _ _ h => h) (Or.inl ⟨by kernel_rfl, ?_⟩) hHeld ?_
          rotate_left
          · (intro w' hSw; (try dsimp only at hSw); go_simp; try with_reducible rfl)
          simp only [Act.put, lay8]
          refine wpAnyH_take (i := 3) (v := ?_) rfl (by kernel_rfl) (by kernel_rfl) (by kernel_rfl) (fun _ _ _ h => h) (Or.inl ⟨by kernel_rfl, ?_⟩) hHeld ?_
          rotate_left
          · (intro w' hSw; (try dsimp only at hSw); go_simp; try with_reducible rfl)
          simp only [Act.put, lay8]
          refine wpAnyH_take (i := 4) (v := ?_) rfl (by kernel_rfl) (by kernel_rfl) (by kernel_rfl) (fun _ _ _ h => h) (Or.inl ⟨by kernel_rfl, ?_⟩) hHeld ?_
          rotate_left
          · (intro w' hSw; (try dsimp only at hSw); go_simp; try with_reducible rfl)
          simp only [Act.put, lay8]
          refine wpAnyH_take (i := 5) (v := ?_) rfl (by kernel_rfl) (by kernel_rfl) (by kernel_rfl) (fun _ _ _ h => h) (Or.inl ⟨by kernel_rfl, ?_⟩) hHeld ?_
          rotate_left
          · (intro w' hSw; (try dsimp only at hSw); go_simp; try with_reducible rfl)
          simp only [Act.put, lay8]
          refine wpAnyH_take (i := 6) (v := ?_) rfl (by kernel_rfl) (by kernel_rfl) (by kernel_rfl) (fun _ _ _ h => h) (Or.inl ⟨by kernel_rfl, ?_⟩) hHeld ?_
          rotate_left
          · (intro w' hSw; (try dsimp only at hSw); go_simp; try with_reducible rfl)
          simp only [Act.put, lay8]
          refine wpAnyH_take (i := 7) (v := ?_) rfl (by kernel_rfl) (by kernel_rfl) (by kernel_rfl) (fun _ _ _ h => h) (Or.inl ⟨by kernel_rfl, ?_⟩) hHeld ?_
          rotate_left
          · (intro w' hSw; (try dsimp only at hSw); go_simp; try with_reducible rfl)
          simp only [Act.put, lay8]
          (try simp only [List.getElem_toArray, List.getElem_cons_succ, List.getElem_cons_zero]); (try simp only [List.setIfInBounds_toArray, List.set_cons_zero, List.set_cons_succ])
          refine wpAnyH_done (by kernel_rfl) ?_ _
          go_wp2_with fail
          refine go3_ret rfl rfl rfl rfl rfl ?_ (by rw [hB]; exact HV.out.2.2.drew)
          rw [HR.out]
          exact ⟨_, _, _, rfl⟩
        have e0 : ((x.e : Int) != 0) = false := by simp; omega
        have hKF := HKF.out
        rw [if_neg hxe] at hKF
        have HKF2 := Lib.hid hKF
        clear hxe hKF
        go_wp2_with fail
        go_loopw [10] (fun i wr => ∃ (j : Nat), j ≤ k ∧ i = .int .i64 (j : Int) ∧ Hid (Below V.heap.size V wr) ∧ Hid (Pl.twice x (its.take j) = false)) (fun i _ => k - (intOf i).toNat)
        case atStart => exact ⟨0, by omega, rfl, Lib.hid (Below.refl _ _), Lib.hid rfl⟩
        case round =>
          obtain ⟨j, hj, rfl, HB, HTw⟩ := hrel
          by_cases hjk : j < k
          · have hjl : j < its.length := by omega
            have hRd := Rd.own HV.out.2.1
            rw [← hik] at hRd
            obtain ⟨b, off, hOe, hbl, hit⟩ := its_all hRd (by omega)
            subst hOe
            have HIT := Lib.hid (fun W hW => hit W hW j hjl)
            have htk : Pl.twice x (its.take (j + 1)) = (Pl.twice x (its.take j) || (x.gives && its[j].gives && (its[j].name == x.name))) := by
              unfold Pl.twice; rw [List.take_succ_eq_append_getElem hjl, List.any_append]; simp
            have hall : (x.gives && its[j].gives && (its[j].name == x.name)) = true → Pl.twice x its = true := fun h => by
              unfold Pl.twice; rw [List.any_eq_true]; exact ⟨its[j], List.getElem_mem hjl, h⟩
            rw [HTw.out, Bool.false_or] at htk
            have hgx := HL.out.2.2.2 x
            have hgy := HL.out.2.2.2 its[j]
            obtain ⟨y, hy⟩ : ∃ y, its[j] = y := ⟨_, rfl⟩
            rw [hy] at HIT htk hall hgy
            obtain ⟨gx, hgxe⟩ : ∃ z, x.gives = z := ⟨_, rfl⟩
            obtain ⟨gy, hgye⟩ : ∃ z, y.gives = z := ⟨_, rfl⟩
            rw [hgxe] at hgx htk hall
            rw [hgye] at hgy htk hall
            have HG := Lib.hid (And.intro hgx hgy)
            have HTk := Lib.hid (And.intro htk hall)
            clear hit hRd hy hgx hgy htk hall hgxe hgye x0 x1 x2 x3 x4 x5 x6 x7 x8 x9
            have hSS : ∀ W, Below V.heap.size V W → (W.cell? ⟨C, 0, none⟩ = some (.int .i64 (x.kind : Int)) ∧ W.cell? ⟨C, 1, none⟩ = some (.string ⟨x.name.toArray⟩) ∧ W.cell? ⟨C, 2, none⟩ = some (.int .u8 (x.x.op : Int)) ∧ W.cell? ⟨C, 3, none⟩ = some (.int .u8 (x.x.a : Int)) ∧ W.cell? ⟨C, 4, none⟩ = some (.int .u8 (x.x.b : Int)) ∧ W.cell? ⟨C, 5, none⟩ = some (.int .u8 (x.x.c : Int)) ∧ W.cell? ⟨C, 6, none⟩ = some (.int .i32 x.x.imm) ∧ W.cell? ⟨C, 7, none⟩ = some (.int .i64 x.n) ∧ W.cell? ⟨C, 8, none⟩ = some (.string ⟨x.s.toArray⟩) ∧ W.cell? ⟨C, 9, none⟩ = some (.int .i64 (x.e : Int)) ∧ W.cell? ⟨b, off + j * 10, none⟩ = some (.int .i64 (y.kind : Int)) ∧ W.cell? ⟨b, off + j * 10 + 1, none⟩ = some (.string ⟨y.name.toArray⟩) ∧ W.cell? ⟨b, off + j * 10 + 2, none⟩ = some (.int .u8 (y.x.op : Int)) ∧ W.cell? ⟨b, off + j * 10 + 3, none⟩ = some (.int .u8 (y.x.a : Int)) ∧ W.cell? ⟨b, off + j * 10 + 4, none⟩ = some (.int .u8 (y.x.b : Int)) ∧ W.cell? ⟨b, off + j * 10 + 5, none⟩ = some (.int .u8 (y.x.c : Int)) ∧ W.cell? ⟨b, off + j * 10 + 6, none⟩ = some (.int .i32 y.x.imm) ∧ W.cell? ⟨b, off + j * 10 + 7, none⟩ = some (.int .i64 y.n) ∧ W.cell? ⟨b, off + j * 10 + 8, none⟩ = some (.string ⟨y.s.toArray⟩) ∧ W.cell? ⟨b, off + j * 10 + 9, none⟩ = some (.int .i64 (y.e : Int))) := fun W hW => by
              have hz := (hW.block C (blk_lt HV.out.1)).trans HV.out.1
              obtain ⟨x0, x1, x2, x3, x4, x5, x6, x7, x8, x9⟩ := it_cells hz
              obtain ⟨y0, y1, y2, y3, y4, y5, y6, y7, y8, y9⟩ := HIT.out W hW
              exact ⟨x0, x1, x2, x3, x4, x5, x6, x7, x8, x9, y0, y1, y2, y3, y4, y5, y6, y7, y8, y9⟩
            have HSS := Lib.hid hSS
            clear hSS
            go_upto_region 14 with (fail)
            have HBd := Lib.hid HB.out.drew
            refine wp_region_held_drew (S := (fun W => W.cell? ⟨C, 0, none⟩ = some (.int .i64 (x.kind : Int)) ∧ W.cell? ⟨C, 1, none⟩ = some (.string ⟨x.name.toArray⟩) ∧ W.cell? ⟨C, 2, none⟩ = some (.int .u8 (x.x.op : Int)) ∧ W.cell? ⟨C, 3, none⟩ = some (.int .u8 (x.x.a : Int)) ∧ W.cell? ⟨C, 4, none⟩ = some (.int .u8 (x.x.b : Int)) ∧ W.cell? ⟨C, 5, none⟩ = some (.int .u8 (x.x.c : Int)) ∧ W.cell? ⟨C, 6, none⟩ = some (.int .i32 x.x.imm) ∧ W.cell? ⟨C, 7, none⟩ = some (.int .i64 x.n) ∧ W.cell? ⟨C, 8, none⟩ = some (.string ⟨x.s.toArray⟩) ∧ W.cell? ⟨C, 9, none⟩ = some (.int .i64 (x.e : Int)) ∧ W.cell? ⟨b, off + j * 10, none⟩ = some (.int .i64 (y.kind : Int)) ∧ W.cell? ⟨b, off + j * 10 + 1, none⟩ = some (.string ⟨y.name.toArray⟩) ∧ W.cell? ⟨b, off + j * 10 + 2, none⟩ = some (.int .u8 (y.x.op : Int)) ∧ W.cell? ⟨b, off + j * 10 + 3, none⟩ = some (.int .u8 (y.x.a : Int)) ∧ W.cell? ⟨b, off + j * 10 + 4, none⟩ = some (.int .u8 (y.x.b : Int)) ∧ W.cell? ⟨b, off + j * 10 + 5, none⟩ = some (.int .u8 (y.x.c : Int)) ∧ W.cell? ⟨b, off + j * 10 + 6, none⟩ = some (.int .i32 y.x.imm) ∧ W.cell? ⟨b, off + j * 10 + 7, none⟩ = some (.int .i64 y.n) ∧ W.cell? ⟨b, off + j * 10 + 8, none⟩ = some (.string ⟨y.s.toArray⟩) ∧ W.cell? ⟨b, off + j * 10 + 9, none⟩ = some (.int .i64 (y.e : Int)))) (by kernel_rfl) (by exact HSS.out _ HBd.out) (fun hHeld => ?_)
            refine wpAnyH_take (i := 0) (v := ?_) rfl (by kernel_rfl) (by kernel_rfl) (by kernel_rfl) (fun _ _ _ h => h) (Or.inl ⟨by kernel_rfl, ?_⟩) hHeld ?_
            rotate_left
            · (intro w' hSw; obtain ⟨hS0, hS1, hS2, hS3, hS4, hS5, hS6, hS7, hS8, hS9, hS10, hS11, hS12, hS13, hS14, hS15, hS16, hS17, hS18, hS19⟩ := hSw; go_simp; try with_reducible rfl)
            simp only [Act.put, lay8]
            (try simp only [List.getElem_toArray, List.getElem_cons_succ, List.getElem_cons_zero]); (try simp only [List.setIfInBounds_toArray, List.set_cons_zero, List.set_cons_succ])
            refine wpAnyH_ready (rs := [1]) (by kernel_rfl) (by simp) (AllReadyH.cons rfl (fun K hK => ?_) AllReadyH.nil)
            go_simp
            (with_reducible refine (HG.out.1 _).mono ?_)
            rintro yy w4 ⟨v, rfl, rfl, hb4⟩
            have HB4 := Lib.hid (HBd.out.trans (hb4.mono HBd.out.size))
            clear hb4
            refine hK.out _ _ (by exact HSS.out _ HB4.out) (fun hHeld => ?_)
            clear hK K
            (try simp only [Act.put, lay8])
            refine wpAnyH_take (i := 2) (v := ?_) rfl (by kernel_rfl) (by kernel_rfl) (by kernel_rfl) (fun _ _ _ h => h) (Or.inl ⟨by kernel_rfl, ?_⟩) hHeld ?_
            rotate_left
            · (intro w' hSw; obtain ⟨hS0, hS1, hS2, hS3, hS4, hS5, hS6, hS7, hS8, hS9, hS10, hS11, hS12, hS13, hS14, hS15, hS16, hS17, hS18, hS19⟩ := hSw; go_simp; try with_reducible rfl)
            simp only [Act.put, lay8]
            (try simp only [List.getElem_toArray, List.getElem_cons_succ, List.getElem_cons_zero]); (try simp only [List.setIfInBounds_toArray, List.set_cons_zero, List.set_cons_succ])
            cases gx with
            | false =>
              refine wpAnyH_take (i := 3) (v := undef) rfl (by kernel_rfl) (by kernel_rfl) (by kernel_rfl) (fun _ _ _ h => h) (Or.inr ⟨by kernel_rfl, rfl⟩) hHeld ?_
              simp only [Act.put, lay8]
              refine wpAnyH_take (i := 4) (v := undef) rfl (by kernel_rfl) (by kernel_rfl) (by kernel_rfl) (fun _ _ _ h => h) (Or.inr ⟨by kernel_rfl, rfl⟩) hHeld ?_
              simp only [Act.put, lay8]
              refine wpAnyH_take (i := 5) (v := undef) rfl (by kernel_rfl) (by kernel_rfl) (by kernel_rfl) (fun _ _ _ h => h) (Or.inr ⟨by kernel_rfl, rfl⟩) hHeld ?_
              simp only [Act.put, lay8]
              refine wpAnyH_take (i := 6) (v := undef) rfl (by kernel_rfl) (by kernel_rfl) (by kernel_rfl) (fun _ _ _ h => h) (Or.inr ⟨by kernel_rfl, rfl⟩) hHeld ?_
              simp only [Act.put, lay8]
              refine wpAnyH_take (i := 7) (v := undef) rfl (by kernel_rfl) (by kernel_rfl) (by kernel_rfl) (fun _ _ _ h => h) (Or.inr ⟨by kernel_rfl, rfl⟩) hHeld ?_
              simp only [Act.put, lay8]
              (try simp only [List.getElem_toArray, List.getElem_cons_succ, List.getElem_cons_zero]); (try simp only [List.setIfInBounds_toArray, List.set_cons_zero, List.set_cons_succ])
              refine wpAnyH_take (i := 8) (v := ?_) rfl (by kernel_rfl) (by kernel_rfl) (by kernel_rfl) (fun _ _ _ h => h) (Or.inl ⟨by kernel_rfl, ?_⟩) hHeld ?_
              rotate_left
              · (intro w' hSw; obtain ⟨hS0, hS1, hS2, hS3, hS4, hS5, hS6, hS7, hS8, hS9, hS10, hS11, hS12, hS13, hS14, hS15, hS16, hS17, hS18, hS19⟩ := hSw; go_simp; try with_reducible rfl)
              simp only [Act.put, lay8]
              refine wpAnyH_take (i := 9) (v := ?_) rfl (by kernel_rfl) (by kernel_rfl) (by kernel_rfl) (fun _ _ _ h => h) (Or.inl ⟨by kernel_rfl, ?_⟩) hHeld ?_
              rotate_left
              · (intro w' hSw; obtain ⟨hS0, hS1, hS2, hS3, hS4, hS5, hS6, hS7, hS8, hS9, hS10, hS11, hS12, hS13, hS14, hS15, hS16, hS17, hS18, hS19⟩ := hSw; go_simp; try with_reducible rfl)
              simp only [Act.put, lay8]
              (try simp only [List.getElem_toArray, List.getElem_cons_succ, List.getElem_cons_zero]); (try simp only [List.setIfInBounds_toArray, List.set_cons_zero, List.set_cons_succ])
              refine wpAnyH_take (i := 10) (v := undef) rfl (by kernel_rfl) (by kernel_rfl) (by kernel_rfl) (fun _ _ _ h => h) (Or.inr ⟨by kernel_rfl, rfl⟩) hHeld ?_
              simp only [Act.put, lay8]
              refine wpAnyH_take (i := 11) (v := undef) rfl (by kernel_rfl) (by kernel_rfl) (by kernel_rfl) (fun _ _ _ h => h) (Or.inr ⟨by kernel_rfl, rfl⟩) hHeld ?_
              simp only [Act.put, lay8]
              refine wpAnyH_take (i := 12) (v := undef) rfl (by kernel_rfl) (by kernel_rfl) (by kernel_rfl) (fun _ _ _ h => h) (Or.inr ⟨by kernel_rfl, rfl⟩) hHeld ?_
              simp only [Act.put, lay8]
              refine wpAnyH_take (i := 13) (v := undef) rfl (by kernel_rfl) (by kernel_rfl) (by kernel_rfl) (fun _ _ _ h => h) (Or.inr ⟨by kernel_rfl, rfl⟩) hHeld ?_
              simp only [Act.put, lay8]
              refine wpAnyH_take (i := 14) (v := undef) rfl (by kernel_rfl) (by kernel_rfl) (by kernel_rfl) (fun _ _ _ h => h) (Or.inr ⟨by kernel_rfl, rfl⟩) hHeld ?_
              simp only [Act.put, lay8]
              refine wpAnyH_take (i := 15) (v := undef) rfl (by kernel_rfl) (by kernel_rfl) (by kernel_rfl) (fun _ _ _ h => h) (Or.inr ⟨by kernel_rfl, rfl⟩) hHeld ?_
              simp only [Act.put, lay8]
              refine wpAnyH_take (i := 16) (v := undef) rfl (by kernel_rfl) (by kernel_rfl) (by kernel_rfl) (fun _ _ _ h => h) (Or.inr ⟨by kernel_rfl, rfl⟩) hHeld ?_
              simp only [Act.put, lay8]
              refine wpAnyH_take (i := 17) (v := undef) rfl (by kernel_rfl) (by kernel_rfl) (by kernel_rfl) (fun _ _ _ h => h) (Or.inr ⟨by kernel_rfl, rfl⟩) hHeld ?_
              simp only [Act.put, lay8]
              (try simp only [List.getElem_toArray, List.getElem_cons_succ, List.getElem_cons_zero]); (try simp only [List.setIfInBounds_toArray, List.set_cons_zero, List.set_cons_succ])
              refine wpAnyH_take (i := 18) (v := ?_) rfl (by kernel_rfl) (by kernel_rfl) (by kernel_rfl) (fun _ _ _ h => h) (Or.inl ⟨by kernel_rfl, ?_⟩) hHeld ?_
              rotate_left
              · (intro w' hSw; obtain ⟨hS0, hS1, hS2, hS3, hS4, hS5, hS6, hS7, hS8, hS9, hS10, hS11, hS12, hS13, hS14, hS15, hS16, hS17, hS18, hS19⟩ := hSw; go_simp; try with_reducible rfl)
              simp only [Act.put, lay8]
              (try simp only [List.getElem_toArray, List.getElem_cons_succ, List.getElem_cons_zero]); (try simp only [List.setIfInBounds_toArray, List.set_cons_zero, List.set_cons_succ])
              refine wpAnyH_done (by kernel_rfl) ?_ _
              go_wp2_with fail
              go_roundw
              case rel => exact ⟨j + 1, by omega, ret_i (by omega), HB4, Lib.hid (by rw [HTk.out.1]; rfl)⟩
              case measure => simp only [intOf]; omega
            | true =>
              refine wpAnyH_take (i := 3) (v := ?_) rfl (by kernel_rfl) (by kernel_rfl) (by kernel_rfl) (fun _ _ _ h => h) (Or.inl ⟨by kernel_rfl, ?_⟩) hHeld ?_
              rotate_left
              · (intro w' hSw; obtain ⟨hS0, hS1, hS2, hS3, hS4, hS5, hS6, hS7, hS8, hS9, hS10, hS11, hS12, hS13, hS14, hS15, hS16, hS17, hS18, hS19⟩ := hSw; go_simp; try with_reducible rfl)
              simp only [Act.put, lay8]
              refine wpAnyH_take (i := 4) (v := ?_) rfl (by kernel_rfl) (by kernel_rfl) (by kernel_rfl) (fun _ _ _ h => h) (Or.inl ⟨by kernel_rfl, ?_⟩) hHeld ?_
              rotate_left
              · (intro w' hSw; obtain ⟨hS0, hS1, hS2, hS3, hS4, hS5, hS6, hS7, hS8, hS9, hS10, hS11, hS12, hS13, hS14, hS15, hS16, hS17, hS18, hS19⟩ := hSw; go_simp; try with_reducible rfl)
              simp only [Act.put, lay8]
              refine wpAnyH_take (i := 5) (v := ?_) rfl (by kernel_rfl) (by kernel_rfl) (by kernel_rfl) (fun _ _ _ h => h) (Or.inl ⟨by kernel_rfl, ?_⟩) hHeld ?_
              rotate_left
              · (intro w' hSw; obtain ⟨hS0, hS1, hS2, hS3, hS4, hS5, hS6, hS7, hS8, hS9, hS10, hS11, hS12, hS13, hS14, hS15, hS16, hS17, hS18, hS19⟩ := hSw; go_simp; try with_reducible rfl)
              simp only [Act.put, lay8]
              refine wpAnyH_take (i := 6) (v := ?_) rfl (by kernel_rfl) (by kernel_rfl) (by kernel_rfl) (fun _ _ _ h => h) (Or.inl ⟨by kernel_rfl, ?_⟩) hHeld ?_
              rotate_left
              · (intro w' hSw; obtain ⟨hS0, hS1, hS2, hS3, hS4, hS5, hS6, hS7, hS8, hS9, hS10, hS11, hS12, hS13, hS14, hS15, hS16, hS17, hS18, hS19⟩ := hSw; go_simp; try with_reducible rfl)
              simp only [Act.put, lay8]
              (try simp only [List.getElem_toArray, List.getElem_cons_succ, List.getElem_cons_zero]); (try simp only [List.setIfInBounds_toArray, List.set_cons_zero, List.set_cons_succ])
              refine wpAnyH_ready (rs := [7]) (by kernel_rfl) (by simp) (AllReadyH.cons rfl (fun K hK => ?_) AllReadyH.nil)
              go_simp
              (with_reducible refine (HG.out.2 _).mono ?_)
              rintro yy w5 ⟨v, rfl, rfl, hb5⟩
              have HB5 := Lib.hid (HB4.out.trans (hb5.mono HB4.out.size))
              clear hb5
              refine hK.out _ _ (by exact HSS.out _ HB5.out) (fun hHeld => ?_)
              clear hK K
              (try simp only [Act.put, lay8])
              refine wpAnyH_take (i := 8) (v := ?_) rfl (by kernel_rfl) (by kernel_rfl) (by kernel_rfl) (fun _ _ _ h => h) (Or.inl ⟨by kernel_rfl, ?_⟩) hHeld ?_
              rotate_left
              · (intro w' hSw; obtain ⟨hS0, hS1, hS2, hS3, hS4, hS5, hS6, hS7, hS8, hS9, hS10, hS11, hS12, hS13, hS14, hS15, hS16, hS17, hS18, hS19⟩ := hSw; go_simp; try with_reducible rfl)
              simp only [Act.put, lay8]
              refine wpAnyH_take (i := 9) (v := ?_) rfl (by kernel_rfl) (by kernel_rfl) (by kernel_rfl) (fun _ _ _ h => h) (Or.inl ⟨by kernel_rfl, ?_⟩) hHeld ?_
              rotate_left
              · (intro w' hSw; obtain ⟨hS0, hS1, hS2, hS3, hS4, hS5, hS6, hS7, hS8, hS9, hS10, hS11, hS12, hS13, hS14, hS15, hS16, hS17, hS18, hS19⟩ := hSw; go_simp; try with_reducible rfl)
              simp only [Act.put, lay8]
              (try simp only [List.getElem_toArray, List.getElem_cons_succ, List.getElem_cons_zero]); (try simp only [List.setIfInBounds_toArray, List.set_cons_zero, List.set_cons_succ])
              cases gy with
              | false =>
                refine wpAnyH_take (i := 10) (v := undef) rfl (by kernel_rfl) (by kernel_rfl) (by kernel_rfl) (fun _ _ _ h => h) (Or.inr ⟨by kernel_rfl, rfl⟩) hHeld ?_
                simp only [Act.put, lay8]
                refine wpAnyH_take (i := 11) (v := undef) rfl (by kernel_rfl) (by kernel_rfl) (by kernel_rfl) (fun _ _ _ h => h) (Or.inr ⟨by kernel_rfl, rfl⟩) hHeld ?_
                simp only [Act.put, lay8]
                refine wpAnyH_take (i := 12) (v := undef) rfl (by kernel_rfl) (by kernel_rfl) (by kernel_rfl) (fun _ _ _ h => h) (Or.inr ⟨by kernel_rfl, rfl⟩) hHeld ?_
                simp only [Act.put, lay8]
                refine wpAnyH_take (i := 13) (v := undef) rfl (by kernel_rfl) (by kernel_rfl) (by kernel_rfl) (fun _ _ _ h => h) (Or.inr ⟨by kernel_rfl, rfl⟩) hHeld ?_
                simp only [Act.put, lay8]
                refine wpAnyH_take (i := 14) (v := undef) rfl (by kernel_rfl) (by kernel_rfl) (by kernel_rfl) (fun _ _ _ h => h) (Or.inr ⟨by kernel_rfl, rfl⟩) hHeld ?_
                simp only [Act.put, lay8]
                refine wpAnyH_take (i := 15) (v := undef) rfl (by kernel_rfl) (by kernel_rfl) (by kernel_rfl) (fun _ _ _ h => h) (Or.inr ⟨by kernel_rfl, rfl⟩) hHeld ?_
                simp only [Act.put, lay8]
                refine wpAnyH_take (i := 16) (v := undef) rfl (by kernel_rfl) (by kernel_rfl) (by kernel_rfl) (fun _ _ _ h => h) (Or.inr ⟨by kernel_rfl, rfl⟩) hHeld ?_
                simp only [Act.put, lay8]
                refine wpAnyH_take (i := 17) (v := undef) rfl (by kernel_rfl) (by kernel_rfl) (by kernel_rfl) (fun _ _ _ h => h) (Or.inr ⟨by kernel_rfl, rfl⟩) hHeld ?_
                simp only [Act.put, lay8]
                (try simp only [List.getElem_toArray, List.getElem_cons_succ, List.getElem_cons_zero]); (try simp only [List.setIfInBounds_toArray, List.set_cons_zero, List.set_cons_succ])
                refine wpAnyH_take (i := 18) (v := ?_) rfl (by kernel_rfl) (by kernel_rfl) (by kernel_rfl) (fun _ _ _ h => h) (Or.inl ⟨by kernel_rfl, ?_⟩) hHeld ?_
                rotate_left
                · (intro w' hSw; obtain ⟨hS0, hS1, hS2, hS3, hS4, hS5, hS6, hS7, hS8, hS9, hS10, hS11, hS12, hS13, hS14, hS15, hS16, hS17, hS18, hS19⟩ := hSw; go_simp; try with_reducible rfl)
                simp only [Act.put, lay8]
                (try simp only [List.getElem_toArray, List.getElem_cons_succ, List.getElem_cons_zero]); (try simp only [List.setIfInBounds_toArray, List.set_cons_zero, List.set_cons_succ])
                refine wpAnyH_done (by kernel_rfl) ?_ _
                go_wp2_with fail
                go_roundw
                case rel => exact ⟨j + 1, by omega, ret_i (by omega), HB5, Lib.hid (by rw [HTk.out.1]; rfl)⟩
                case measure => simp only [intOf]; omega
              | true =>
                by_cases hnm : y.name = x.name
                · have en : (y.name == x.name) = true := by rw [hnm]; simp
                  have HR := Lib.hid (show R = .error (8, k + 1) from by rw [← HKF2.out, if_pos (HTk.out.2 (by rw [hnm]; simp))])
                  clear hnm
                  refine wpAnyH_take (i := 10) (v := ?_) rfl (by kernel_rfl) (by kernel_rfl) (by kernel_rfl) (fun _ _ _ h => h) (Or.inl ⟨by kernel_rfl, ?_⟩) hHeld ?_
                  rotate_left
                  · (intro w' hSw; obtain ⟨hS0, hS1, hS2, hS3, hS4, hS5, hS6, hS7, hS8, hS9, hS10, hS11, hS12, hS13, hS14, hS15, hS16, hS17, hS18, hS19⟩ := hSw; go_simp; try with_reducible rfl)
                  simp only [Act.put, lay8]
                  refine wpAnyH_take (i := 11) (v := ?_) rfl (by kernel_rfl) (by kernel_rfl) (by kernel_rfl) (fun _ _ _ h => h) (Or.inl ⟨by kernel_rfl, ?_⟩) hHeld ?_
                  rotate_left
                  · (intro w' hSw; obtain ⟨hS0, hS1, hS2, hS3, hS4, hS5, hS6, hS7, hS8, hS9, hS10, hS11, hS12, hS13, hS14, hS15, hS16, hS17, hS18, hS19⟩ := hSw; go_simp; try with_reducible rfl)
                  simp only [Act.put, lay8]
                  refine wpAnyH_take (i := 12) (v := ?_) rfl (by kernel_rfl) (by kernel_rfl) (by kernel_rfl) (fun _ _ _ h => h) (Or.inl ⟨by kernel_rfl, ?_⟩) hHeld ?_
                  rotate_left
                  · (intro w' hSw; obtain ⟨hS0, hS1, hS2, hS3, hS4, hS5, hS6, hS7, hS8, hS9, hS10, hS11, hS12, hS13, hS14, hS15, hS16, hS17, hS18, hS19⟩ := hSw; go_simp; try with_reducible rfl)
                  simp only [Act.put, lay8]
                  refine wpAnyH_take (i := 13) (v := ?_) rfl (by kernel_rfl) (by kernel_rfl) (by kernel_rfl) (fun _ _ _ h => h) (Or.inl ⟨by kernel_rfl, ?_⟩) hHeld ?_
                  rotate_left
                  · (intro w' hSw; obtain ⟨hS0, hS1, hS2, hS3, hS4, hS5, hS6, hS7, hS8, hS9, hS10, hS11, hS12, hS13, hS14, hS15, hS16, hS17, hS18, hS19⟩ := hSw; go_simp; try with_reducible rfl)
                  simp only [Act.put, lay8]
                  refine wpAnyH_take (i := 14) (v := ?_) rfl (by kernel_rfl) (by kernel_rfl) (by kernel_rfl) (fun _ _ _ h => h) (Or.inl ⟨by kernel_rfl, ?_⟩) hHeld ?_
                  rotate_left
                  · (intro w' hSw; obtain ⟨hS0, hS1, hS2, hS3, hS4, hS5, hS6, hS7, hS8, hS9, hS10, hS11, hS12, hS13, hS14, hS15, hS16, hS17, hS18, hS19⟩ := hSw; go_simp; try with_reducible rfl)
                  simp only [Act.put, lay8]
                  refine wpAnyH_take (i := 15) (v := ?_) rfl (by kernel_rfl) (by kernel_rfl) (by kernel_rfl) (fun _ _ _ h => h) (Or.inl ⟨by kernel_rfl, ?_⟩) hHeld ?_
                  rotate_left
                  · (intro w' hSw; obtain ⟨hS0, hS1, hS2, hS3, hS4, hS5, hS6, hS7, hS8, hS9, hS10, hS11, hS12, hS13, hS14, hS15, hS16, hS17, hS18, hS19⟩ := hSw; go_simp; try with_reducible rfl)
                  simp only [Act.put, lay8]
                  refine wpAnyH_take (i := 16) (v := ?_) rfl (by kernel_rfl) (by kernel_rfl) (by kernel_rfl) (fun _ _ _ h => h) (Or.inl ⟨by kernel_rfl, ?_⟩) hHeld ?_
                  rotate_left
                  · (intro w' hSw; obtain ⟨hS0, hS1, hS2, hS3, hS4, hS5, hS6, hS7, hS8, hS9, hS10, hS11, hS12, hS13, hS14, hS15, hS16, hS17, hS18, hS19⟩ := hSw; go_simp; try with_reducible rfl)
                  simp only [Act.put, lay8]
                  refine wpAnyH_take (i := 17) (v := ?_) rfl (by kernel_rfl) (by kernel_rfl) (by kernel_rfl) (fun _ _ _ h => h) (Or.inl ⟨by kernel_rfl, ?_⟩) hHeld ?_
                  rotate_left
                  · (intro w' hSw; obtain ⟨hS0, hS1, hS2, hS3, hS4, hS5, hS6, hS7, hS8, hS9, hS10, hS11, hS12, hS13, hS14, hS15, hS16, hS17, hS18, hS19⟩ := hSw; go_simp; try with_reducible rfl)
                  simp only [Act.put, lay8]
                  refine wpAnyH_take (i := 18) (v := ?_) rfl (by kernel_rfl) (by kernel_rfl) (by kernel_rfl) (fun _ _ _ h => h) (Or.inl ⟨by kernel_rfl, ?_⟩) hHeld ?_
                  rotate_left
                  · (intro w' hSw; obtain ⟨hS0, hS1, hS2, hS3, hS4, hS5, hS6, hS7, hS8, hS9, hS10, hS11, hS12, hS13, hS14, hS15, hS16, hS17, hS18, hS19⟩ := hSw; go_simp; try with_reducible rfl)
                  simp only [Act.put, lay8]
                  (try simp only [List.getElem_toArray, List.getElem_cons_succ, List.getElem_cons_zero]); (try simp only [List.setIfInBounds_toArray, List.set_cons_zero, List.set_cons_succ])
                  refine wpAnyH_done (by kernel_rfl) ?_ _
                  go_wp2_with fail
                  refine go3_ret rfl rfl rfl rfl rfl ?_ (by rw [hB]; exact HV.out.2.2.trans (HB5.out.mono hszV))
                  rw [HR.out]
                  exact ⟨_, _, _, rfl⟩
                · have en : (y.name == x.name) = false := beq_eq_false_iff_ne.2 hnm
                  have HTn := Lib.hid (show Pl.twice x (its.take (j + 1)) = false from by rw [HTk.out.1, en]; rfl)
                  clear hnm
                  refine wpAnyH_take (i := 10) (v := ?_) rfl (by kernel_rfl) (by kernel_rfl) (by kernel_rfl) (fun _ _ _ h => h) (Or.inl ⟨by kernel_rfl, ?_⟩) hHeld ?_
                  rotate_left
                  · (intro w' hSw; obtain ⟨hS0, hS1, hS2, hS3, hS4, hS5, hS6, hS7, hS8, hS9, hS10, hS11, hS12, hS13, hS14, hS15, hS16, hS17, hS18, hS19⟩ := hSw; go_simp; try with_reducible rfl)
                  simp only [Act.put, lay8]
                  refine wpAnyH_take (i := 11) (v := ?_) rfl (by kernel_rfl) (by kernel_rfl) (by kernel_rfl) (fun _ _ _ h => h) (Or.inl ⟨by kernel_rfl, ?_⟩) hHeld ?_
                  rotate_left
                  · (intro w' hSw; obtain ⟨hS0, hS1, hS2, hS3, hS4, hS5, hS6, hS7, hS8, hS9, hS10, hS11, hS12, hS13, hS14, hS15, hS16, hS17, hS18, hS19⟩ := hSw; go_simp; try with_reducible rfl)
                  simp only [Act.put, lay8]
                  refine wpAnyH_take (i := 12) (v := ?_) rfl (by kernel_rfl) (by kernel_rfl) (by kernel_rfl) (fun _ _ _ h => h) (Or.inl ⟨by kernel_rfl, ?_⟩) hHeld ?_
                  rotate_left
                  · (intro w' hSw; obtain ⟨hS0, hS1, hS2, hS3, hS4, hS5, hS6, hS7, hS8, hS9, hS10, hS11, hS12, hS13, hS14, hS15, hS16, hS17, hS18, hS19⟩ := hSw; go_simp; try with_reducible rfl)
                  simp only [Act.put, lay8]
                  refine wpAnyH_take (i := 13) (v := ?_) rfl (by kernel_rfl) (by kernel_rfl) (by kernel_rfl) (fun _ _ _ h => h) (Or.inl ⟨by kernel_rfl, ?_⟩) hHeld ?_
                  rotate_left
                  · (intro w' hSw; obtain ⟨hS0, hS1, hS2, hS3, hS4, hS5, hS6, hS7, hS8, hS9, hS10, hS11, hS12, hS13, hS14, hS15, hS16, hS17, hS18, hS19⟩ := hSw; go_simp; try with_reducible rfl)
                  simp only [Act.put, lay8]
                  refine wpAnyH_take (i := 14) (v := ?_) rfl (by kernel_rfl) (by kernel_rfl) (by kernel_rfl) (fun _ _ _ h => h) (Or.inl ⟨by kernel_rfl, ?_⟩) hHeld ?_
                  rotate_left
                  · (intro w' hSw; obtain ⟨hS0, hS1, hS2, hS3, hS4, hS5, hS6, hS7, hS8, hS9, hS10, hS11, hS12, hS13, hS14, hS15, hS16, hS17, hS18, hS19⟩ := hSw; go_simp; try with_reducible rfl)
                  simp only [Act.put, lay8]
                  refine wpAnyH_take (i := 15) (v := ?_) rfl (by kernel_rfl) (by kernel_rfl) (by kernel_rfl) (fun _ _ _ h => h) (Or.inl ⟨by kernel_rfl, ?_⟩) hHeld ?_
                  rotate_left
                  · (intro w' hSw; obtain ⟨hS0, hS1, hS2, hS3, hS4, hS5, hS6, hS7, hS8, hS9, hS10, hS11, hS12, hS13, hS14, hS15, hS16, hS17, hS18, hS19⟩ := hSw; go_simp; try with_reducible rfl)
                  simp only [Act.put, lay8]
                  refine wpAnyH_take (i := 16) (v := ?_) rfl (by kernel_rfl) (by kernel_rfl) (by kernel_rfl) (fun _ _ _ h => h) (Or.inl ⟨by kernel_rfl, ?_⟩) hHeld ?_
                  rotate_left
                  · (intro w' hSw; obtain ⟨hS0, hS1, hS2, hS3, hS4, hS5, hS6, hS7, hS8, hS9, hS10, hS11, hS12, hS13, hS14, hS15, hS16, hS17, hS18, hS19⟩ := hSw; go_simp; try with_reducible rfl)
                  simp only [Act.put, lay8]
                  refine wpAnyH_take (i := 17) (v := ?_) rfl (by kernel_rfl) (by kernel_rfl) (by kernel_rfl) (fun _ _ _ h => h) (Or.inl ⟨by kernel_rfl, ?_⟩) hHeld ?_
                  rotate_left
                  · (intro w' hSw; obtain ⟨hS0, hS1, hS2, hS3, hS4, hS5, hS6, hS7, hS8, hS9, hS10, hS11, hS12, hS13, hS14, hS15, hS16, hS17, hS18, hS19⟩ := hSw; go_simp; try with_reducible rfl)
                  simp only [Act.put, lay8]
                  refine wpAnyH_take (i := 18) (v := ?_) rfl (by kernel_rfl) (by kernel_rfl) (by kernel_rfl) (fun _ _ _ h => h) (Or.inl ⟨by kernel_rfl, ?_⟩) hHeld ?_
                  rotate_left
                  · (intro w' hSw; obtain ⟨hS0, hS1, hS2, hS3, hS4, hS5, hS6, hS7, hS8, hS9, hS10, hS11, hS12, hS13, hS14, hS15, hS16, hS17, hS18, hS19⟩ := hSw; go_simp; try with_reducible rfl)
                  simp only [Act.put, lay8]
                  (try simp only [List.getElem_toArray, List.getElem_cons_succ, List.getElem_cons_zero]); (try simp only [List.setIfInBounds_toArray, List.set_cons_zero, List.set_cons_succ])
                  refine wpAnyH_done (by kernel_rfl) ?_ _
                  go_wp2_with fail
                  go_roundw
                  case rel => exact ⟨j + 1, by omega, ret_i (by omega), HB5, HTn⟩
                  case measure => simp only [intOf]; omega
          · have hTw := HTw.out
            rw [List.take_of_length_le (by omega)] at hTw
            have hKF := HKF2.out
            rw [hTw, if_neg (by decide)] at hKF
            have HKF3 := Lib.hid hKF
            have HOw := Lib.hid (And.intro (own_below HV.out.2.1 HB.out) (HV.out.2.2.trans (HB.out.mono hszV)))
            have hszw : B ≤ wr.heap.size := by have := HOw.out.2.size; omega
            have hz := (HB.out.block C (blk_lt HV.out.1)).trans HV.out.1
            clear hTw hKF x0 x1 x2 x3 x4 x5 x6 x7 x8 x9
            obtain ⟨x0, x1, x2, x3, x4, x5, x6, x7, x8, x9⟩ := it_cells hz
            clear hz
            go_wp2_with (at_builtin; refine push_k rfl (.tmp 69) (.tmp 71) 68 rfl B 74 (itV Pl.It.nil) 10 64 Tryz.underlying68 info_item10 rfl (by decide) wr _ _ _ (itC x) rfl rfl HOw.out.1 rfl (itC_one x) (by omega) (by decide) hszw ?_; intro A1 c1 w7 hown1 hb7; have HP := Lib.hid (And.intro hown1 hb7); clear hown1 hb7)
            refine ⟨⟨k + 1, its ++ [x], by omega, by simp; omega, ret_i (by omega), Lib.hid ⟨?_, HOw.out.2.trans HP.out.2⟩, ⟨_, _, rfl⟩, Lib.hid HKF3.out⟩, by simp only [intOf]; omega⟩
            rw [itsC_snoc]; exact HP.out.1
    · have hKF := HK.out
      rw [List.drop_eq_nil_of_le (by omega)] at hKF
      have HR := Lib.hid (show R = .ok its from hKF.symm)
      clear hKF HK
      go_wp2_with fail
      refine go3_ret rfl rfl rfl rfl rfl ?_ (by rw [hB]; exact HO.out.2)
      rw [HR.out]
      refine ⟨oA, oc, ?_, ?_⟩
      · rw [hik]; rfl
      · rw [hik]; exact Rd.own HO.out.1
end Go.Proofs.YtmmnkoeajdeldaaGreatDoor
namespace Go.Proofs.YtmmnkoeajdeldaaGreatDoor.Pl
set_option linter.unusedVariables false
set_option linter.unusedSimpArgs false
theorem bad_ok2 (e : Nat) : ItOk2 (bad e) := ⟨by simp [bad, Ins.nil], by simp [bad, Ins.nil], by simp [bad, Ins.nil], by simp [bad, Ins.nil], by simp [bad, Ins.nil], by simp [bad, Ins.nil], by simp [bad], by simp [bad]⟩
theorem regA_lt (l : List Dt) (f : Nat) : regA l f < 256 := by unfold regA; split; omega; have := regD_le (dg l 1); omega
theorem regB_lt (l : List Dt) (f : Nat) : regB l f < 256 := by
  unfold regB; split
  · have := regD_le (dg l 3); omega
  · split
    · have := regD_le (dg l 5); omega
    · omega
theorem regC_lt (l : List Dt) (f : Nat) : regC l f < 256 := by unfold regC; split; have := regD_le (dg l 5); omega; omega
theorem ins_ok2 (l : List Dt) (op : Nat) (h : op < 256) : ItOk2 (insD l op) := by
  have ha := regA_lt l (formN op)
  have hb := regB_lt l (formN op)
  have hc := regC_lt l (formN op)
  unfold insD
  split
  · exact bad_ok2 3
  split
  · exact bad_ok2 3
  split
  · exact ⟨h, ha, hb, hc, by simp, by simp, by simp, by simp⟩
  split
  · exact ⟨h, ha, hb, hc, by simp, by simp, by simp, by simp⟩
  split
  · exact bad_ok2 2
  split
  · exact bad_ok2 _
  · next h1 _ => exact ⟨h, ha, hb, hc, by dsimp only; omega, by dsimp only; omega, by simp, by simp⟩
theorem item_ok2 {s : List UInt8} {b : List Dt} (hb : toksD s = some b) (hs : s.length ≤ 65536) : ItOk2 (itemD b) := by
  have hl := item_len hb
  have h7 := (item_ok b).n0
  have key : (itemD b).x.op < 256 ∧ (itemD b).x.a < 256 ∧ (itemD b).x.b < 256 ∧ (itemD b).x.c < 256 ∧ -2147483648 ≤ (itemD b).x.imm ∧ (itemD b).x.imm ≤ 2147483647 := by
    have hz : ∀ x : It, x.x = Ins.nil → x.x.op < 256 ∧ x.x.a < 256 ∧ x.x.b < 256 ∧ x.x.c < 256 ∧ -2147483648 ≤ x.x.imm ∧ x.x.imm ≤ 2147483647 := fun x hx => by rw [hx]; simp [Ins.nil]
    unfold itemD
    split
    · exact hz _ rfl
    split
    · exact hz _ rfl
    split
    · exact hz _ rfl
    split
    · unfold pairD
      split
      · exact hz _ rfl
      split
      · exact hz _ rfl
      · have := regD_le (dg b 1)
        exact ⟨by simp, by dsimp only; omega, by simp, by simp, by simp, by simp⟩
    split
    · (repeat' split) <;> exact hz _ rfl
    split
    · split <;> exact hz _ rfl
    split
    · (repeat' split) <;> exact hz _ rfl
    split
    · (repeat' split) <;> exact hz _ rfl
    split
    · exact hz _ rfl
    · next op ho =>
      have hr := opN_rng ho
      have h := ins_ok2 b op (by omega)
      exact ⟨h.op, h.a, h.b, h.c, h.i0, h.i1⟩
  exact ⟨key.1, key.2.1, key.2.2.1, key.2.2.2.1, key.2.2.2.2.1, key.2.2.2.2.2, by omega, h7⟩
theorem items_all : ∀ (L : List (List UInt8)) (i : Nat) (out l : List It), itemsF i out L = .ok l → (∀ s ∈ L, s.length ≤ 65536) → (∀ x ∈ out, ItOk2 x) → (∀ x ∈ l, ItOk2 x) ∧ l.length = out.length + L.length
  | [], i, out, l, h, _, ho => by cases h; exact ⟨ho, by simp⟩
  | s :: r, i, out, l, h, hs, ho => by
    simp only [itemsF] at h
    cases hb : toksD s with
    | none => rw [hb] at h; cases h
    | some b =>
      rw [hb] at h
      simp only at h
      split at h
      · cases h
      split at h
      · cases h
      · have hk := item_ok2 hb (hs s (by simp))
        have hr := items_all r (i + 1) (out ++ [itemD b]) l h (fun t ht => hs t (List.mem_cons_of_mem _ ht)) (fun x hx => by
          rcases List.mem_append.1 hx with g | g
          · exact ho x g
          · rw [List.mem_singleton] at g; rw [g]; exact hk)
        refine ⟨hr.1, ?_⟩
        rw [hr.2]; simp; omega
theorem wordsD_len2 (l : List It) (x : It) (a : Nat) (w : List Nat) (h : wordsD l x a = .ok w) : w.length ≤ 2 := by
  unfold wordsD at h
  split at h
  · cases h
  · split at h
    · split at h
      · cases h
      · split at h
        · cases h; simp
        · cases h
    · split at h
      · cases h; simp
      · split at h
        · cases h; simp
        · cases h; simp
theorem items_err : ∀ (L : List (List UInt8)) (i : Nat) (out : List It) (e ln : Nat), itemsF i out L = .error (e, ln) → e ≠ 0
  | [], i, out, e, ln, h => by cases h
  | s :: r, i, out, e, ln, h => by
    simp only [itemsF] at h
    cases hb : toksD s with
    | none => rw [hb] at h; cases h; decide
    | some b =>
      rw [hb] at h
      simp only at h
      split at h
      · next g => cases h; exact g
      split at h
      · cases h; decide
      · exact items_err r (i + 1) _ e ln h
theorem words_err (l : List It) (x : It) (a e : Nat) (h : wordsD l x a = .error e) : e ≠ 0 := by
  unfold wordsD at h
  split at h
  · cases h; decide
  · split at h
    · split at h
      · next g =>
        cases h
        unfold withN at g
        split at g
        · cases g
        · split at g
          · split at g
            · cases g; decide
            · cases g
          · cases g
      · split at h
        · cases h
        · next g => cases h; exact g
    · split at h
      · cases h
      · split at h <;> cases h
theorem wordsD_one (l : List It) (x : It) (a : Nat) (h : x.kind = 1) : wordsD l x a = .ok [] := by
  unfold wordsD
  rw [if_neg (by intro g; omega)]
  dsimp only
  rw [if_neg (by omega), if_neg (by omega), if_neg (by omega)]
end Go.Proofs.YtmmnkoeajdeldaaGreatDoor.Pl
