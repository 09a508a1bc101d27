/- How the answers of five shelves lie in memory; the walk of getAll's closure. The walk of spread's getAll. -/
import Derived.Test.YtdnebgilkfafhaaGreatDoorSpMem
namespace Go.Proofs.YtdnebgilkfafhaaGreatDoor
open Go.RowKit
set_option linter.unusedVariables false
set_option linter.unusedSimpArgs false
def tolE (t : Pl.Told) : List Value := [.string ⟨t.data.toArray⟩, .int .i64 (t.err : Int), .bool t.gone]
/-- Five answers, as cells. -/
def tolL (t : Nat → Pl.Told) : List Value := tolE (t 0) ++ (tolE (t 1) ++ (tolE (t 2) ++ (tolE (t 3) ++ tolE (t 4))))
def zeroT : Pl.Told := ⟨[], 0, false⟩
theorem tolL_len (t : Nat → Pl.Told) : (tolL t).length = 15 := rfl
theorem tolL_set (t : Nat → Pl.Told) {k : Nat} (hk : k < 5) (x : Pl.Told) : (((tolL t).set (k * 3) (.string ⟨x.data.toArray⟩)).set (k * 3 + 1) (.int .i64 (x.err : Int))).set (k * 3 + 2) (.bool x.gone) = tolL (upd t k x) := by
  rcases lt5 hk with rfl | rfl | rfl | rfl | rfl <;> rfl
theorem tolL_one (t : Nat → Pl.Told) : ∀ v ∈ tolL t, v.oneCell' = true := by
  intro v hv
  simp only [tolL, tolE, List.cons_append, List.nil_append, List.mem_cons, List.not_mem_nil, or_false] at hv
  rcases hv with rfl | rfl | rfl | rfl | rfl | rfl | rfl | rfl | rfl | rfl | rfl | rfl | rfl | rfl | rfl <;> rfl
theorem info_tol : (Tryz.prog.info? 78).map (·.size) = some 15 := by kernel_rfl
theorem index_tol (t : Nat → Pl.Told) {k : Nat} (hk : k < 5) (w : World) : (Instr.index 78 (.agg (tolL t).toArray) (.int .i64 (k : Int))).run Tryz.prog w = .ok (.agg #[.string ⟨(t k).data.toArray⟩, .int .i64 ((t k).err : Int), .bool (t k).gone]) w := by
  simp only [Instr.index, asIntOf, Sem.run_bind, Sem.run_pure, Result.andThen_ok, run_underlying Tryz.underlying78]
  rw [if_pos (by omega)]
  rcases lt5 hk with rfl | rfl | rfl | rfl | rfl <;> simp [part, Sem.run_bind, Tryz.sizeOf77, Tryz.isAgg77, tolL, tolE]
/-- A block holds five answers. -/
def TolBx (B : Nat) (t : Nat → Pl.Told) (W : World) : Prop := W.heap[B]? = some (.cells (tolL t).toArray 78 (0, 0))
theorem TolBx.there {B : Nat} {t : Nat → Pl.Told} {W : World} (h : TolBx B t W) {j : Nat} (hj : j < 15) : (∃ v, W.cell? ⟨B, j, none⟩ = some v) ∧ W.frozen? ⟨B, j, none⟩ = false := by
  refine ⟨?_, frozen_of W B j _ _ h⟩
  rw [cell_row W B j _ _ h, List.getElem?_toArray, List.getElem?_eq_getElem (by rw [tolL_len]; exact hj)]
  exact ⟨_, rfl⟩
theorem TolBx.set {B : Nat} {t : Nat → Pl.Told} {W : World} (h : TolBx B t W) {k : Nat} (hk : k < 5) (x : Pl.Told) : TolBx B (upd t k x) (((W.setCell ⟨B, k * 3, none⟩ (.string ⟨x.data.toArray⟩)).setCell ⟨B, k * 3 + 1, none⟩ (.int .i64 (x.err : Int))).setCell ⟨B, k * 3 + 2, none⟩ (.bool x.gone)) := by
  have h1 := set_at _ _ (k * 3 + 2) _ (.bool x.gone) _ (set_at _ _ (k * 3 + 1) _ (.int .i64 (x.err : Int)) _ (set_at _ _ (k * 3) _ (.string ⟨x.data.toArray⟩) _ h))
  unfold TolBx
  rw [h1]
  simp only [List.setIfInBounds_toArray]
  rw [tolL_set t hk x]
/-- What a closure of getAll sees: the answers so far, the name. -/
structure GetJ (P P1 : Nat) (nm : List UInt8) (t : Nat → Pl.Told) (k : Nat) (W : World) : Prop where
  tol : TolBx P (fun i => if i < k then t i else zeroT) W
  nm : W.heap[P1]? = some (.cells #[.string ⟨nm.toArray⟩] 9 (0, 0))
theorem GetJ.keep {P P1 : Nat} {nm : List UInt8} {t : Nat → Pl.Told} {k : Nat} {W W' : World} (h : GetJ P P1 nm t k W) (hb : Below W.heap.size W W') : GetJ P P1 nm t k W' := ⟨keepB h.tol hb, keepB h.nm hb⟩
theorem GetJ.kpa {P P1 N : Nat} {nm : List UInt8} {t : Nat → Pl.Told} {k : Nat} {W W' : World} (h : GetJ P P1 nm t k W) (hk : KpA N W W') (h0 : P < N) (h1 : P1 < N) : GetJ P P1 nm t k W' :=
  ⟨(hk.2 P _ _ h.tol (.inl h0)).trans h.tol, (hk.2 P1 _ _ h.nm (.inl h1)).trans h.nm⟩
theorem upd_step {α : Type} (t : Nat → α) (z : α) (k : Nat) : upd (fun i => if i < k then t i else z) k (t k) = fun i => if i < k + 1 then t i else z := by
  funext i
  unfold upd
  by_cases e : i = k
  · subst e
    rw [if_pos rfl, if_pos (by omega)]
  · rw [if_neg e]
    show (if i < k then t i else z) = _
    by_cases h : i < k
    · rw [if_pos h, if_pos (by omega)]
    · rw [if_neg h, if_neg (by omega)]
set_option maxRecDepth 100000 in
set_option maxHeartbeats 4000000 in
theorem getAll1_any (P P1 B0 : Nat) (nm : List UInt8) (t : Nat → Pl.Told) (k : Nat) (hk : k < 5) (s : Pl.Shelf) (x : ShX) (left : Int) (N : Nat) (W : World) (hNW : N ≤ W.heap.size) (hJ : GetJ P P1 nm t k W) (hx : ShF N W s x) (hfit : Pl.FitG s.objs s.fates) (hP1 : P1 < B0) (hP : B0 ≤ P) (hPN : P < N)
    (ht : (Pl.one (Pl.toldS nm) Pl.goneT left s).2 = t k) :
    Calls Tryz.prog 77 #[.int .i64 (k : Int), .agg #[.slice x.A s.objs.length x.c, .slice x.A' s.fates.length x.c'], .bool (left == 0), .pointer (some ⟨P, 0, none⟩), .pointer (some ⟨P1, 0, none⟩)] W
      (fun e W' => ∃ x', e = .returned (.agg #[.slice x'.A (Pl.one (Pl.toldS nm) Pl.goneT left s).1.objs.length x'.c, .slice x'.A' (Pl.one (Pl.toldS nm) Pl.goneT left s).1.fates.length x'.c']) ∧ ShF N W' (Pl.one (Pl.toldS nm) Pl.goneT left s).1 x' ∧ GetJ P P1 nm t (k + 1) W' ∧ Below B0 W W' ∧ KpX (fun g => g = P) W W') := by
  obtain ⟨A, c, A', c'⟩ := x
  obtain ⟨so, sf⟩ := s
  obtain ⟨R, hR⟩ : ∃ R, Pl.one (Pl.toldS nm) Pl.goneT left ⟨so, sf⟩ = R := ⟨_, rfl⟩
  rw [hR] at ht ⊢
  unfold Pl.one Pl.toldS Pl.getS at hR
  obtain ⟨a, ha⟩ : ∃ a, so.length = a := ⟨_, rfl⟩
  obtain ⟨b, hb⟩ : ∃ b, sf.length = b := ⟨_, rfl⟩
  have hge := fun V h1 h2 => get_all A A' c c' so sf nm V a b ha hb h1 h2 hfit
  simp only at hx hR ⊢
  unfold ShF at hx
  simp only [ha, hb] at hx ⊢
  have HH := Lib.hid (And.intro hR (And.intro ht (And.intro hge (And.intro hJ (And.intro hx (And.intro hfit (And.intro ha hb)))))))
  clear hR ht hge hJ hx hfit ha hb
  go_enter Tryz.func77, Tryz.ntmps77
  go_upto_region 1 with (fail)
  obtain ⟨T, hT⟩ : ∃ T, W.heap.size = T := ⟨_, rfl⟩
  generalize hV : World.alloc (World.alloc W _) _ = V
  have hzT : V.heap[T]? = some (.cells #[.slice A a c, .slice A' b c'] 26 (0, 0)) := by rw [← hV, ← hT]; exact (Below.heap_alloc _ _ _ (by simp)).trans (heap_alloc_new _ _)
  have hzR : V.heap[T + 1]? = some (.cells #[.slice none 0 0, .slice none 0 0] 26 (0, 0)) := by rw [← hV, ← hT]; exact heap_alloc_2 _ _ _
  have hbV : Below T W V := by rw [← hV, ← hT]; exact ((Below.refl _ _).alloc (Nat.le_refl _) _).alloc (by simp) _
  have hJV := HH.out.2.2.2.1.keep (by rw [hT]; exact hbV)
  simp only [hT]
  have t0 : V.cell? ⟨T, 0, none⟩ = some (.slice A a c) := by rw [cell_row V T 0 _ _ hzT]; rfl
  have t1 : V.cell? ⟨T, 1, none⟩ = some (.slice A' b c') := by rw [cell_row V T 1 _ _ hzT]; rfl
  have tf : ∀ i, V.frozen? ⟨T, i, none⟩ = false := fun i => frozen_of V T i _ _ hzT
  have n0 : V.cell? ⟨P1, 0, none⟩ = some (.string ⟨nm.toArray⟩) := by rw [cell_row V P1 0 _ _ hJV.nm]; rfl
  have hTP : P < T := by omega
  have hWs : T ≤ V.heap.size := by rw [← hT]; exact hbV.size
  have HV := Lib.hid (And.intro hzT (And.intro hzR (And.intro hbV hJV)))
  clear hV hzT hzR hbV hJV
  have hk0 : (0 : Int) ≤ (k : Int) := by omega
  have hkk : (k : Int) < 5 := by omega
  by_cases h0 : left = 0
  · have hl : (left == 0) = true := by simp [h0]
    simp only [hl]
    have hRe : R = (⟨so, sf⟩, Pl.goneT) := by rw [← HH.out.1, if_pos h0]
    obtain ⟨⟨z0, e0⟩, g0⟩ := HV.out.2.2.2.tol.there (j := k * 3) (by omega)
    obtain ⟨⟨z1, e1⟩, g1⟩ := HV.out.2.2.2.tol.there (j := k * 3 + 1) (by omega)
    obtain ⟨⟨z2, e2⟩, g2⟩ := HV.out.2.2.2.tol.there (j := k * 3 + 2) (by omega)
    have r0 : V.cell? ⟨T + 1, 0, none⟩ = some (.slice none 0 0) := by rw [cell_row V (T + 1) 0 _ _ HV.out.2.1]; rfl
    have r1 : V.cell? ⟨T + 1, 1, none⟩ = some (.slice none 0 0) := by rw [cell_row V (T + 1) 1 _ _ HV.out.2.1]; rfl
    have rf : ∀ i, V.frozen? ⟨T + 1, i, none⟩ = false := fun i => frozen_of V (T + 1) i _ _ HV.out.2.1
    have hs4 : ShF N V R.1 ⟨A, c, A', c'⟩ := by
      have h : ShF N W ⟨so, sf⟩ ⟨A, c, A', c'⟩ := by unfold ShF; simp only [HH.out.2.2.2.2.2.2.1, HH.out.2.2.2.2.2.2.2]; exact HH.out.2.2.2.2.1
      rw [hRe]
      exact h.kpt (KpT.below (by rw [hT]; exact HV.out.2.2.1))
    have HRE := Lib.hid hRe
    clear hRe
    go_wp2_with fail
    have hset := HV.out.2.2.2.tol.set hk Pl.goneT
    have hke := show Pl.goneT = t k by rw [← HH.out.2.1, HRE.out]
    have hup : upd (fun i => if i < k then t i else zeroT) k Pl.goneT = fun i => if i < k + 1 then t i else zeroT := by rw [hke]; exact upd_step t zeroT k
    rw [hup] at hset
    clear hke hup
    generalize hU : World.setCell (World.setCell (World.setCell V _ _) _ _) _ _ = U
    have hset' : TolBx P (fun i => if i < k + 1 then t i else zeroT) U := by rw [← hU]; exact hset
    have hoU : ∀ g, g ≠ P → U.heap[g]? = V.heap[g]? := fun g hg => by rw [← hU]; exact (Below.heap_setCell _ _ _ _ (by exact hg)).trans ((Below.heap_setCell _ _ _ _ (by exact hg)).trans (Below.heap_setCell _ _ _ _ (by exact hg)))
    have hbU : Below B0 V U := by rw [← hU]; exact (((Below.refl B0 V).setCell (p := ⟨P, k * 3, none⟩) hP _).setCell (p := ⟨P, k * 3 + 1, none⟩) hP _).setCell (p := ⟨P, k * 3 + 2, none⟩) hP _
    have hkU : KpT N V U := ⟨hbU.size, fun g C ty hbg hg _ => hoU g (by omega)⟩
    clear hU hset
    have hRU := (hoU (T + 1) (by omega)).trans HV.out.2.1
    have q0 : U.cell? ⟨T + 1, 0, none⟩ = some (.slice none 0 0) := by rw [cell_row U (T + 1) 0 _ _ hRU]; rfl
    have q1 : U.cell? ⟨T + 1, 1, none⟩ = some (.slice none 0 0) := by rw [cell_row U (T + 1) 1 _ _ hRU]; rfl
    have hk6 : KpT N U ((U.setCell ⟨T + 1, 0, none⟩ (.slice A a c)).setCell ⟨T + 1, 1, none⟩ (.slice A' b c')) := (KpT.set hRU (by decide) (by decide) _ _).trans (KpT.set (set_at _ _ _ _ _ _ hRU) (by decide) (by decide) _ _)
    have ho6 : ∀ g, g < T + 1 → ((U.setCell ⟨T + 1, 0, none⟩ (.slice A a c)).setCell ⟨T + 1, 1, none⟩ (.slice A' b c')).heap[g]? = U.heap[g]? := fun g hg => (Below.heap_setCell _ _ _ _ (by show g ≠ T + 1; omega)).trans (Below.heap_setCell _ _ _ _ (by show g ≠ T + 1; omega))
    refine bodyPost_ret (v := .agg #[.slice A a c, .slice A' b c']) (by simp [results, Tryz.results77, go_sem, q0, q1]) rfl ?_
    refine ⟨⟨A, c, A', c'⟩, by rw [HRE.out]; simp only [HH.out.2.2.2.2.2.2.1, HH.out.2.2.2.2.2.2.2], hs4.kpt (hkU.trans hk6), ⟨(ho6 P (by omega)).trans hset', (ho6 P1 (by omega)).trans ((hoU P1 (by omega)).trans HV.out.2.2.2.nm)⟩, ((HV.out.2.2.1.mono (by omega)).trans hbU |>.setCell (p := ⟨T + 1, 0, none⟩) (by show B0 ≤ T + 1; omega) _).setCell (p := ⟨T + 1, 1, none⟩) (by show B0 ≤ T + 1; omega) _, ?_⟩
    intro g C ty hg hne _
    have hgT : g < T := by rw [← hT]; exact blk_lt hg
    exact (ho6 g (by omega)).trans ((hoU g hne).trans (HV.out.2.2.1.block g hgT))
  · have hl : (left == 0) = false := by simp [h0]
    simp only [hl]
    go_wp2_with fail
    (with_reducible refine (HH.out.2.2.1 V (HH.out.2.2.2.2.1.1.at.below (by rw [hT]; exact HV.out.2.2.1)) (HH.out.2.2.2.2.1.2.at.below (by rw [hT]; exact HV.out.2.2.1))).mono ?_)
    rintro _ w5 ⟨v, rfl, ⟨A4, c4, A4', c4', rfl, ho4, hf4⟩, hb5⟩
    rw [HH.out.2.2.2.2.2.2.1] at ho4
    obtain ⟨gd, hgd⟩ : ∃ gd, (Pl.getA so sf nm).2.1 = gd := ⟨_, rfl⟩
    obtain ⟨ge, hge⟩ : ∃ ge, (Pl.getA so sf nm).2.2 = ge := ⟨_, rfl⟩
    have HG := Lib.hid (And.intro hgd hge)
    have hRe : R = (⟨so, (Pl.getA so sf nm).1⟩, ⟨(Pl.getA so sf nm).2.1, (Pl.getA so sf nm).2.2, false⟩) := by rw [← HH.out.1, if_neg h0]
    obtain ⟨b4, hb4e⟩ : ∃ b4, (Pl.getA so sf nm).1.length = b4 := ⟨_, rfl⟩
    have hs5 : ShF N w5 R.1 ⟨A4, c4, A4', c4'⟩ := by
      have h : ShF V.heap.size w5 ⟨so, (Pl.getA so sf nm).1⟩ ⟨A4, c4, A4', c4'⟩ := ⟨by simp only [HH.out.2.2.2.2.2.2.1]; exact ho4, hf4⟩
      rw [hRe]
      exact h.weak (by omega)
    have HRE := Lib.hid hRe
    clear hRe
    simp only [HH.out.2.2.2.2.2.2.1, hb4e, hgd, hge]
    have hzT5 := keepB HV.out.1 hb5
    have hzR5 := keepB HV.out.2.1 hb5
    have hJ5 := HV.out.2.2.2.keep hb5
    have hbW5 : Below T W w5 := HV.out.2.2.1.trans (hb5.mono hWs)
    have y0 : w5.cell? ⟨T, 0, none⟩ = some (.slice A a c) := by rw [cell_row w5 T 0 _ _ hzT5]; rfl
    have y1 : w5.cell? ⟨T, 1, none⟩ = some (.slice A' b c') := by rw [cell_row w5 T 1 _ _ hzT5]; rfl
    have yf : ∀ i, w5.frozen? ⟨T, i, none⟩ = false := fun i => frozen_of w5 T i _ _ hzT5
    clear t0 t1 tf n0
    go_upto_region 5 with (fail)
    have hT6 := set_at _ T 1 _ (.slice A4' b4 c4') _ (set_at _ T 0 _ (.slice A4 a c4) _ hzT5)
    have hk56 : KpT N w5 ((w5.setCell ⟨T, 0, none⟩ (.slice A4 a c4)).setCell ⟨T, 1, none⟩ (.slice A4' b4 c4')) := (KpT.set hzT5 (by decide) (by decide) _ _).trans (KpT.set (set_at _ _ _ _ _ _ hzT5) (by decide) (by decide) _ _)
    have ho56 : ∀ g, g ≠ T → ((w5.setCell ⟨T, 0, none⟩ (.slice A4 a c4)).setCell ⟨T, 1, none⟩ (.slice A4' b4 c4')).heap[g]? = w5.heap[g]? := fun g hg => (Below.heap_setCell _ _ _ _ (by exact hg)).trans (Below.heap_setCell _ _ _ _ (by exact hg))
    have hbW6 : Below T W ((w5.setCell ⟨T, 0, none⟩ (.slice A4 a c4)).setCell ⟨T, 1, none⟩ (.slice A4' b4 c4')) := (hbW5.setCell (p := ⟨T, 0, none⟩) (Nat.le_refl T) _).setCell (p := ⟨T, 1, none⟩) (Nat.le_refl T) _
    have hs6 := hs5.kpt hk56
    have hR6 := (ho56 (T + 1) (by omega)).trans hzR5
    have hJ6 : GetJ P P1 nm t k ((w5.setCell ⟨T, 0, none⟩ (.slice A4 a c4)).setCell ⟨T, 1, none⟩ (.slice A4' b4 c4')) := ⟨(ho56 P (by omega)).trans hJ5.tol, (ho56 P1 (by omega)).trans hJ5.nm⟩
    generalize hw6 : World.setCell (World.setCell w5 _ _) _ _ = w6
    rw [hw6] at hT6 hbW6 hs6 hR6 hJ6
    have t0 : w6.cell? ⟨T, 0, none⟩ = some (.slice A4 a c4) := by rw [cell_row w6 T 0 _ _ hT6]; rfl
    have t1 : w6.cell? ⟨T, 1, none⟩ = some (.slice A4' b4 c4') := by rw [cell_row w6 T 1 _ _ hT6]; rfl
    clear hw6 hk56 ho56 hs5 hbW5 y0 y1 yf hzT5 hzR5 hJ5 hb5 ho4 hf4 hgd hge
    obtain ⟨⟨z0, e0⟩, g0⟩ := hJ6.tol.there (j := k * 3) (by omega)
    obtain ⟨⟨z1, e1⟩, g1⟩ := hJ6.tol.there (j := k * 3 + 1) (by omega)
    obtain ⟨⟨z2, e2⟩, g2⟩ := hJ6.tol.there (j := k * 3 + 2) (by omega)
    have r0 : w6.cell? ⟨T + 1, 0, none⟩ = some (.slice none 0 0) := by rw [cell_row w6 (T + 1) 0 _ _ hR6]; rfl
    have r1 : w6.cell? ⟨T + 1, 1, none⟩ = some (.slice none 0 0) := by rw [cell_row w6 (T + 1) 1 _ _ hR6]; rfl
    have rf : ∀ i, w6.frozen? ⟨T + 1, i, none⟩ = false := fun i => frozen_of w6 (T + 1) i _ _ hR6
    go_wp2_with fail
    have hset := hJ6.tol.set hk ⟨gd, ge, false⟩
    have hke := show (⟨gd, ge, false⟩ : Pl.Told) = t k by rw [← HH.out.2.1, HRE.out, HG.out.1, HG.out.2]
    have hup : upd (fun i => if i < k then t i else zeroT) k ⟨gd, ge, false⟩ = fun i => if i < k + 1 then t i else zeroT := by rw [hke]; exact upd_step t zeroT k
    rw [hup] at hset
    clear hke hup
    generalize hU : World.setCell (World.setCell (World.setCell w6 _ _) _ _) _ _ = U
    have hset' : TolBx P (fun i => if i < k + 1 then t i else zeroT) U := by rw [← hU]; exact hset
    have hoU : ∀ g, g ≠ P → U.heap[g]? = w6.heap[g]? := fun g hg => by rw [← hU]; exact (Below.heap_setCell _ _ _ _ (by exact hg)).trans ((Below.heap_setCell _ _ _ _ (by exact hg)).trans (Below.heap_setCell _ _ _ _ (by exact hg)))
    have hbU : Below B0 w6 U := by rw [← hU]; exact (((Below.refl B0 w6).setCell (p := ⟨P, k * 3, none⟩) hP _).setCell (p := ⟨P, k * 3 + 1, none⟩) hP _).setCell (p := ⟨P, k * 3 + 2, none⟩) hP _
    have hkU : KpT N w6 U := ⟨hbU.size, fun g C ty hbg hg _ => hoU g (by omega)⟩
    clear hU hset
    have hRU := (hoU (T + 1) (by omega)).trans hR6
    have q0 : U.cell? ⟨T + 1, 0, none⟩ = some (.slice none 0 0) := by rw [cell_row U (T + 1) 0 _ _ hRU]; rfl
    have q1 : U.cell? ⟨T + 1, 1, none⟩ = some (.slice none 0 0) := by rw [cell_row U (T + 1) 1 _ _ hRU]; rfl
    have hk6 : KpT N U ((U.setCell ⟨T + 1, 0, none⟩ (.slice A4 a c4)).setCell ⟨T + 1, 1, none⟩ (.slice A4' b4 c4')) := (KpT.set hRU (by decide) (by decide) _ _).trans (KpT.set (set_at _ _ _ _ _ _ hRU) (by decide) (by decide) _ _)
    have ho6 : ∀ g, g < T + 1 → ((U.setCell ⟨T + 1, 0, none⟩ (.slice A4 a c4)).setCell ⟨T + 1, 1, none⟩ (.slice A4' b4 c4')).heap[g]? = U.heap[g]? := fun g hg => (Below.heap_setCell _ _ _ _ (by show g ≠ T + 1; omega)).trans (Below.heap_setCell _ _ _ _ (by show g ≠ T + 1; omega))
    refine bodyPost_ret (v := .agg #[.slice A4 a c4, .slice A4' b4 c4']) (by simp [results, Tryz.results77, go_sem, q0, q1]) rfl ?_
    refine ⟨⟨A4, c4, A4', c4'⟩, by rw [HRE.out]; simp only [HH.out.2.2.2.2.2.2.1, hb4e], hs6.kpt (hkU.trans hk6), ⟨(ho6 P (by omega)).trans hset', (ho6 P1 (by omega)).trans ((hoU P1 (by omega)).trans hJ6.nm)⟩, ((hbW6.mono (by omega)).trans hbU |>.setCell (p := ⟨T + 1, 0, none⟩) (by show B0 ≤ T + 1; omega) _).setCell (p := ⟨T + 1, 1, none⟩) (by show B0 ≤ T + 1; omega) _, ?_⟩
    intro g C ty hg hne _
    have hgT : g < T := by rw [← hT]; exact blk_lt hg
    exact (ho6 g (by omega)).trans ((hoU g hne).trans (hbW6.block g hgT))
end Go.Proofs.YtdnebgilkfafhaaGreatDoor
namespace Go.Proofs.YtdnebgilkfafhaaGreatDoor
open Go.RowKit
set_option linter.unusedVariables false
set_option linter.unusedSimpArgs false
def getSh (nm : List UInt8) (S : Nat → Pl.Shelf) (n : Int) (i : Nat) : Pl.Shelf := (Pl.one (Pl.toldS nm) Pl.goneT (Pl.leftAt n i) (S i)).1
def getTo (nm : List UInt8) (S : Nat → Pl.Shelf) (n : Int) (i : Nat) : Pl.Told := (Pl.one (Pl.toldS nm) Pl.goneT (Pl.leftAt n i) (S i)).2
theorem tolL_ext {t t' : Nat → Pl.Told} (h : ∀ i, i < 5 → t i = t' i) : tolL t = tolL t' := by
  unfold tolL
  rw [h 0 (by omega), h 1 (by omega), h 2 (by omega), h 3 (by omega), h 4 (by omega)]
theorem results_sto3 {fn : Func} {tmps : Array Value} {w : World} {a b B C : Nat} {L M : List Value} (hf : fn.results = #[.cell a 33, .cell b 78]) (ha : tmps[a]?.getD undef = .pointer (some ⟨B, 0, none⟩)) (hb : tmps[b]?.getD undef = .pointer (some ⟨C, 0, none⟩)) (hc : w.rangeAt B 0 L) (hl : (Tryz.prog.info? 33).map (·.size) = some L.length) (hc' : w.rangeAt C 0 M) (hl' : (Tryz.prog.info? 78).map (·.size) = some M.length) :
    (results fn tmps).run Tryz.prog w = .ok (.tuple #[.agg L.toArray, .agg M.toArray]) w := by
  have h := run_loadVar_mid (P := Tryz.prog) w B 0 33 L _ hc Tryz.underlying33 rfl hl
  have h' := run_loadVar_mid (P := Tryz.prog) w C 0 78 M _ hc' Tryz.underlying78 rfl hl'
  simp [results, hf, ha, hb, asAddr, h, h', Sem.run_bind]
theorem zero_tol : (#[.string ⟨#[]⟩, .int .i64 0, .bool false, .string ⟨#[]⟩, .int .i64 0, .bool false, .string ⟨#[]⟩, .int .i64 0, .bool false, .string ⟨#[]⟩, .int .i64 0, .bool false, .string ⟨#[]⟩, .int .i64 0, .bool false] : Array Value) = (tolL fun _ => zeroT).toArray := rfl
set_option maxRecDepth 100000 in
set_option maxHeartbeats 4000000 in
theorem getAll_any (S : Nat → Pl.Shelf) (X : Nat → ShX) (n : Int) (hn : Pl.I64 n) (w : World) (hok : StOk w S X) (hfit : FitS S) (nm : List UInt8) :
    Calls Tryz.prog 40 #[.agg (stoL S X n).toArray, .string ⟨nm.toArray⟩] w
      (RetB (fun v w' => ∃ X', v = .tuple #[.agg (stoL (getSh nm S n) X' (Pl.leftAt n 5)).toArray, .agg (tolL (getTo nm S n)).toArray] ∧ StF w.heap.size w' (getSh nm S n) X') w) := by
  obtain ⟨N, hN⟩ : ∃ N, w.heap.size = N := ⟨_, rfl⟩
  obtain ⟨L, hL⟩ : ∃ L, stoL S X n = L := ⟨_, rfl⟩
  have HIL : Hid ((Tryz.prog.info? 33).map (·.size) = some L.length) := by rw [← hL]; exact info_sto
  have HL := Lib.hid hL
  have HH := Lib.hid (And.intro hok True.intro)
  rw [hL]
  clear hL hok
  go_enter Tryz.func40, Tryz.ntmps40
  go_upto_region 2 with (fail)
  simp only [Nat.add_assoc, Nat.reduceAdd]
  rw [zero_sto, zero_tol]
  generalize hV : World.alloc _ (.cells (tolL fun _ => zeroT).toArray 78) = V
  have hVa : allocs w [.cells L.toArray 33, .cells #[.string ⟨nm.toArray⟩] 9, .cells (stoL (fun _ => Pl.noSh) (fun _ => ⟨none, 0, none, 0⟩) 0).toArray 33, .cells (tolL fun _ => zeroT).toArray 78, .cells (tolL fun _ => zeroT).toArray 78] = V := hV
  have hbV : Below N w V := by rw [← hVa]; exact allocs_below w _ N (by omega)
  have hsV : V.heap.size = N + 5 := by rw [← hVa, allocs_size, hN]; simp only [List.length_cons, List.length_nil]
  have h0 : StBx N S X n V := by unfold StBx; rw [HL.out]; exact allocs_at hVa hN 0 rfl
  have h2 : StBx (N + 2) (fun _ => Pl.noSh) (fun _ => ⟨none, 0, none, 0⟩) 0 V := allocs_at hVa hN 2 rfl
  have h3 : TolBx (N + 3) (fun _ => zeroT) V := allocs_at hVa hN 3 rfl
  have hJ0 : GetJ (N + 4) (N + 1) nm (getTo nm S n) 0 V := ⟨by simp only [Nat.not_lt_zero, if_false]; exact allocs_at hVa hN 4 rfl, allocs_at hVa hN 1 rfl⟩
  have hst : StOk V S X := HH.out.1.below (by rw [hN]; exact hbV)
  have hall := all_any 77 #[.pointer (some ⟨N + 4, 0, none⟩), .pointer (some ⟨N + 1, 0, none⟩)] S (getSh nm S n) X n hn V (N + 4) (fun g => g = N + 4) (GetJ (N + 4) (N + 1) nm (getTo nm S n)) hst hfit (by omega) (fun g hg => by omega)
    (fun a b c W => by kernel_rfl) (fun k W W' hj hk => hj.kpa hk (by omega) (by omega)) hJ0
    (fun k hk W x hs hb hj hx => getAll1_any (N + 4) (N + 1) (N + 4) nm (getTo nm S n) k hk (S k) x (Pl.leftAt n k) V.heap.size W hs hj hx (hfit k hk) (by omega) (by omega) (by omega) rfl)
  rw [HL.out] at hall
  have HA := Lib.hid hall
  have hrg : V.rangeAt N 0 L := by rw [← HL.out]; exact h0.range
  have HB := Lib.hid (And.intro hrg (And.intro h0 (And.intro h2 (And.intro h3 hbV))))
  clear hall hrg h0 h2 h3 hbV hJ0 hst hV hVa
  go_upto_region 3 with first
    | with_reducible refine wpList_load_mid rfl 33 _ rfl N 0 rfl L _ HB.out.1 Tryz.underlying33 rfl HIL.out ?_
    | (with_reducible refine HA.out.mono ?_)
  rintro e w2 ⟨X2, rfl, hst2, hJ2, hb2, hk2⟩
  obtain ⟨L2, hL2⟩ : ∃ L2, stoL (getSh nm S n) X2 (Pl.leftAt n 5) = L2 := ⟨_, rfl⟩
  obtain ⟨LT, hLT⟩ : ∃ LT, tolL (getTo nm S n) = LT := ⟨_, rfl⟩
  have h02 : StBx N S X n w2 := (hb2.block N (by omega)).trans HB.out.2.1
  have h22 : StBx (N + 2) (fun _ => Pl.noSh) (fun _ => ⟨none, 0, none, 0⟩) 0 w2 := (hb2.block (N + 2) (by omega)).trans HB.out.2.2.1
  have h32 : TolBx (N + 3) (fun _ => zeroT) w2 := (hb2.block (N + 3) (by omega)).trans HB.out.2.2.2.1
  have h42 : w2.heap[N + 4]? = some (.cells LT.toArray 78 (0, 0)) := by
    rw [← hLT, show tolL (getTo nm S n) = tolL (fun i => if i < 5 then getTo nm S n i else zeroT) from tolL_ext fun i hi => by simp only [hi, if_true]]
    exact hJ2.tol
  have hT2 : w2.there N 0 L2.toArray.size := thereL h02 (by rw [← hL2]; exact Nat.le_refl 11)
  have hi2 : (Tryz.prog.info? 33).map (·.size) = some L2.toArray.size := by rw [List.size_toArray, ← hL2]; exact info_sto
  have hi2' : (Tryz.prog.info? 33).map (·.size) = some L2.length := by rw [← hL2]; exact info_sto
  have ho2 : ∀ v ∈ L2, v.oneCell' = true := by rw [← hL2]; exact stoL_one _ X2 _
  have hit : (Tryz.prog.info? 78).map (·.size) = some LT.toArray.size := by rw [List.size_toArray, ← hLT]; exact info_tol
  have hit' : (Tryz.prog.info? 78).map (·.size) = some LT.length := by rw [← hLT]; exact info_tol
  have hot' : ∀ v ∈ LT, v.oneCell' = true := by rw [← hLT]; exact tolL_one _
  rw [hL2]
  have hset : (w2.setCells N 0 L2).heap[N]? = some (.cells L2.toArray 33 (0, 0)) := heap_setCells_all h02 (by rw [← hL2]; rfl)
  have hot : ∀ g, g ≠ N → g < w2.heap.size → (w2.setCells N 0 L2).heap[g]? = w2.heap[g]? := fun g hg hs => World.heap_setCells_other _ _ _ _ hs hg
  have hs2 := blk_lt h42
  have h23 := (hot (N + 2) (by omega) (by omega)).trans h22
  have h33 := (hot (N + 3) (by omega) (by omega)).trans h32
  have h43 := (hot (N + 4) (by omega) (by omega)).trans h42
  have hst3 : StF N (w2.setCells N 0 L2) (getSh nm S n) X2 := (hst2.weak (b' := N) (by omega)).kpt (h02.kpts L2)
  have hb3 : Below N w (w2.setCells N 0 L2) := (HB.out.2.2.2.2.trans (hb2.mono (by omega))).trans (Lib.below_setCells_w (Nat.le_refl N) L2 0 w2)
  have HC := Lib.hid (And.intro hT2 (And.intro hi2 (And.intro ho2 (And.intro hset (And.intro h23 (And.intro h33 (And.intro h43 (And.intro hst3 (And.intro hb3 (And.intro hL2 (And.intro hLT (And.intro hi2' (And.intro hit (And.intro hit' hot'))))))))))))))
  clear hT2 hi2 ho2 hset hot h23 h33 h43 hst3 hb3 hL2 hLT h02 h22 h32 h42 hJ2 hb2 hk2 hst2 HA hit hot'
  go_upto_region 3 with first
    | with_reducible refine wpList_store_mid rfl 33 _ _ rfl N 0 L2.toArray rfl rfl HC.out.1 HC.out.2.1 (all_oneCell_toArray HC.out.2.2.1) ?_
  obtain ⟨w3, hw3⟩ : ∃ w3, w2.setCells N 0 L2 = w3 := ⟨_, rfl⟩
  rw [hw3] at HC ⊢
  clear hw3
  refine wp_region_held_drew (S := (fun w' => w'.rangeAt N 0 L2 ∧ w'.rangeAt (N + 4) 0 LT)) (by kernel_rfl) (by exact ⟨rangeL HC.out.2.2.2.1, rangeL HC.out.2.2.2.2.2.2.1⟩) (fun hHeld => ?_)
  refine wpAnyH_take (i := 0) (v := .agg (L2).toArray) rfl (by kernel_rfl) (by kernel_rfl) (by kernel_rfl) (fun _ _ _ h => h) (yieldsIf_load_mid (by kernel_rfl) 33 _ rfl (N) (0) rfl L2 _ (fun _ h => h.1) Tryz.underlying33 rfl hi2') hHeld ?_
  simp only [Act.put, lay9]
  refine wpAnyH_take (i := 1) (v := .agg (LT).toArray) rfl (by kernel_rfl) (by kernel_rfl) (by kernel_rfl) (fun _ _ _ h => h) (yieldsIf_load_mid (by kernel_rfl) 78 _ rfl (N + 4) (0) rfl LT _ (fun _ h => h.2) Tryz.underlying78 rfl hit') hHeld ?_
  simp only [Act.put, lay9]
  refine wpAnyH_ready (rs := [2]) (by kernel_rfl) (by simp) (AllReadyH.cons rfl (fun K hK => ?_) AllReadyH.nil)
  have hT3 : w3.drew.there (N + 2) 0 L2.toArray.size := thereL (w := w3) HC.out.2.2.2.2.1 (by rw [← HC.out.2.2.2.2.2.2.2.2.2.1]; exact Nat.le_refl 11)
  have hi3 : (Tryz.prog.info? 33).map (·.size) = some L2.toArray.size := HC.out.2.1
  have ho3 := all_oneCell_toArray HC.out.2.2.1
  have hs3 : N + 4 < w3.heap.size := blk_lt HC.out.2.2.2.2.2.2.1
  refine wp_store_mid 33 _ _ rfl (N + 2) 0 L2.toArray rfl rfl hT3 hi3 ho3 ?_
  have hot4 : ∀ g, g ≠ N + 2 → g < w3.heap.size → (World.setCells w3.drew (N + 2) 0 L2).heap[g]? = w3.heap[g]? := fun g hg hs => World.heap_setCells_other w3.drew _ _ _ hs hg
  have hset4 : (World.setCells w3.drew (N + 2) 0 L2).heap[N + 2]? = some (.cells L2.toArray 33 (0, 0)) := heap_setCells_all (w := w3.drew) HC.out.2.2.2.2.1 (by rw [← HC.out.2.2.2.2.2.2.2.2.2.1]; rfl)
  have h04 := (hot4 N (by omega) (by omega)).trans HC.out.2.2.2.1
  have h34 := (hot4 (N + 3) (by omega) (by omega)).trans HC.out.2.2.2.2.2.1
  have h44 := (hot4 (N + 4) (by omega) (by omega)).trans HC.out.2.2.2.2.2.2.1
  have hb4 : Below N w (World.setCells w3.drew (N + 2) 0 L2) := (HC.out.2.2.2.2.2.2.2.2.1.drew).trans (Lib.below_setCells_w (by omega) L2 0 w3.drew)
  have hst4 : StF N (World.setCells w3.drew (N + 2) 0 L2) (getSh nm S n) X2 := HC.out.2.2.2.2.2.2.2.1.kpt (W' := World.setCells w3.drew (N + 2) 0 L2) (StBx.kpts (b := N) (W := w3.drew) HC.out.2.2.2.2.1 L2)
  generalize hw4 : World.setCells w3.drew (N + 2) 0 L2 = w4
  rw [hw4] at hset4 h04 h34 h44 hb4 hst4
  try rw [show L2.toArray.toList = L2 from rfl]
  try rw [hw4]
  have hs4 : N + 4 < w4.heap.size := blk_lt h44
  refine hK.out _ _ ⟨rangeL h04, rangeL h44⟩ (fun hHeld => ?_)
  clear hK K
  (try simp only [Act.put, lay9])
  refine wpAnyH_ready (rs := [3]) (by kernel_rfl) (by simp) (AllReadyH.cons rfl (fun K hK => ?_) AllReadyH.nil)
  have hT4 : w4.there (N + 3) 0 LT.toArray.size := thereL h34 (by rw [← HC.out.2.2.2.2.2.2.2.2.2.2.1]; exact Nat.le_refl 15)
  have hit4 := HC.out.2.2.2.2.2.2.2.2.2.2.2.2.1
  have hot4' := all_oneCell_toArray HC.out.2.2.2.2.2.2.2.2.2.2.2.2.2.2
  refine wp_store_mid 78 _ _ rfl (N + 3) 0 LT.toArray rfl rfl hT4 hit4 hot4' ?_
  have hot5 : ∀ g, g ≠ N + 3 → g < w4.heap.size → (World.setCells w4 (N + 3) 0 LT).heap[g]? = w4.heap[g]? := fun g hg hs => World.heap_setCells_other w4 _ _ _ hs hg
  have hset5 : (World.setCells w4 (N + 3) 0 LT).heap[N + 3]? = some (.cells LT.toArray 78 (0, 0)) := heap_setCells_all h34 (by rw [← HC.out.2.2.2.2.2.2.2.2.2.2.1]; rfl)
  have h05 := (hot5 N (by omega) (by omega)).trans h04
  have h25 := (hot5 (N + 2) (by omega) (by omega)).trans hset4
  have h45 := (hot5 (N + 4) (by omega) (by omega)).trans h44
  have hb5 : Below N w (World.setCells w4 (N + 3) 0 LT) := hb4.trans (Lib.below_setCells_w (by omega) LT 0 w4)
  have hst5 : StF N (World.setCells w4 (N + 3) 0 LT) (getSh nm S n) X2 := hst4.kpt (KpT.sets h34 (by decide) (by decide) 0 LT)
  generalize hw5 : World.setCells w4 (N + 3) 0 LT = w5
  rw [hw5] at hset5 h05 h25 h45 hb5 hst5
  try rw [show LT.toArray.toList = LT from rfl]
  try rw [hw5]
  refine hK.out _ _ ⟨rangeL h05, rangeL h45⟩ (fun hHeld => ?_)
  clear hK K
  (try simp only [Act.put, lay9])
  refine wpAnyH_done (by kernel_rfl) ?_ _
  go_wp2_with fail
  refine bodyPost_ret (v := .tuple #[.agg L2.toArray, .agg LT.toArray]) (results_sto3 (B := N + 2) (C := N + 3) rfl rfl rfl (rangeL h25) hi2' (rangeL hset5) hit') rfl ?_
  exact ⟨_, rfl, ⟨X2, by rw [HC.out.2.2.2.2.2.2.2.2.2.1, HC.out.2.2.2.2.2.2.2.2.2.2.1], by rw [hN]; exact hst5⟩, by rw [hN]; exact hb5⟩
end Go.Proofs.YtdnebgilkfafhaaGreatDoor
