/- The assembler's small steps: a token is wanted, a value, a register, no more, a number within. -/
import Derived.Test.YtmmnkoeajdeldaaGreatDoorAsMem
namespace Go.Proofs.YtmmnkoeajdeldaaGreatDoor
open Go.RowKit Go.Maps Go.WideMaps
set_option linter.unusedVariables false
set_option linter.unusedSimpArgs false
attribute [local go_sem] ba_get ba_cut ba_add
theorem Rd.tk {w : World} {A : Option Addr} {n : Nat} {l : List Pl.Tk} (h : Rd w 3 A n (tksC l)) (hn : l.length = n) {t : Pl.Tk} {r : List Pl.Tk} (hl : l = t :: r) :
    ∃ b off, A = some ⟨b, off, none⟩ ∧ b < w.heap.size ∧ w.cell? ⟨b, off, none⟩ = some (.int .i64 (t.k : Int)) ∧ w.cell? ⟨b, off + 1, none⟩ = some (.string ⟨t.s.toArray⟩) ∧ w.cell? ⟨b, off + 2, none⟩ = some (.int .i64 t.n) ∧ Rd w 3 (some ⟨b, off + 3, none⟩) r.length (tksC r) := by
  subst hl
  rw [List.length_cons] at hn
  obtain ⟨b, off, rfl, hb, hc⟩ := h.all (by omega)
  have hlen := h.len
  have g : ∀ j : Nat, (tksC (t :: r))[j]? = (tkL t ++ tksC r)[j]? := fun j => rfl
  refine ⟨b, off, rfl, hb, ?_, ?_, ?_, ?_, ?_⟩
  · have := hc 0 (by omega); rwa [g] at this
  · have := hc 1 (by omega); rwa [g] at this
  · have := hc 2 (by omega); rwa [g] at this
  · rw [tksC_len]
  · refine fun hr => ⟨b, off + 3, rfl, hb, fun j hj => ?_⟩
    rw [tksC_len] at hj
    have := hc (3 + j) (by omega)
    rw [g, List.getElem?_append_right (by simp [tkL])] at this
    rw [Nat.add_assoc, this]
    congr 1
    simp [tkL]
/-- A token was taken: what is left. -/
def TkQ (w : World) (A M ln : Nat) (Z : AsV) (E : Except Nat (Pl.Tk × List Pl.Tk)) (x : Ending) (w' : World) : Prop :=
  w.grownBy w' (some A) ∧ match E with
    | .error e => Thrown e ln x
    | .ok (t, r) => x = .returned (tkV t) ∧ ∃ v, AsB w' A ln { Z with r := v } ∧ TkAt w' A M v r
theorem TkAt.grown {W W' : World} {A M : Nat} {v : Value} {l : List Pl.Tk} (h : TkAt W A M v l) (hg : W.grownBy W' (some A)) : TkAt W' A M v l := by
  obtain ⟨q, n, c, e1, e2, e3, e4, e5⟩ := h.is_
  refine ⟨q, n, c, e1, e2, e3, ⟨e4.1, fun hn => ?_⟩, e5⟩
  obtain ⟨b, off, e, hb, hc⟩ := e4.2 hn
  refine ⟨b, off, e, Nat.lt_of_lt_of_le hb hg.size, fun j hj => ?_⟩
  have hbA : b ≠ A := (e5 _ e).1
  rw [World.cell?_of_block (a := ⟨b, off + j, none⟩) (hg.block b hb (by simpa using hbA))]
  exact hc j hj
theorem TkAt.keep {W W' : World} {A M : Nat} {v : Value} {l : List Pl.Tk} (h : TkAt W A M v l) {B : Nat} (hb : Below B W W') (hM : M ≤ B) : TkAt W' A M v l := by
  obtain ⟨q, n, c, e1, e2, e3, e4, e5⟩ := h.is_
  refine ⟨q, n, c, e1, e2, e3, ⟨e4.1, fun hn => ?_⟩, e5⟩
  obtain ⟨b, off, e, hb', hc⟩ := e4.2 hn
  have hbM : b < M := (e5 _ e).2
  refine ⟨b, off, e, Nat.lt_of_lt_of_le hb' hb.size, fun j hj => ?_⟩
  rw [hb.cell (p := ⟨b, off + j, none⟩) (by show b < B; omega)]
  exact hc j hj
theorem grown_new {w w1 w2 : World} {r : Option Nat} (h : w.grownBy w1 r) (hb : Below w.heap.size w1 w2) : w.grownBy w2 r :=
  ⟨hb.os.trans h.os, hb.tape.trans h.tape, hb.output.trans h.output, Nat.le_trans h.size hb.size, fun k hk hr => (hb.block k hk).trans (h.block k hk hr)⟩
theorem tk_fin {w : World} {A ln : Nat} {Z : AsV} (H : AsB w A ln Z) (v : Value) (X Y : Obj) : w.grownBy (((w.setCell ⟨A, 1, none⟩ v).alloc X).alloc Y) (some A) ∧ AsB (((w.setCell ⟨A, 1, none⟩ v).alloc X).alloc Y) A ln { Z with r := v } := by
  have h1 := H.set1 v
  have h2 := h1.below ((Below.refl _ _).alloc (Nat.le_refl _) X) h1.lt
  have h3 := h2.below ((Below.refl _ _).alloc (Nat.le_refl _) Y) h2.lt
  exact ⟨((grown_cell w A 1 v).trans (World.grownBy_alloc _ _ _)).trans (World.grownBy_alloc _ _ _), h3⟩
theorem tk_blk (w : World) (A : Nat) (v : Value) (C : Array Value) (t : TypeId) (Y : Obj) : (((w.setCell ⟨A, 1, none⟩ v).alloc (.cells C t)).alloc Y).heap[w.heap.size]? = some (.cells C.toList.toArray t (0, 0)) := by
  have e : (w.setCell ⟨A, 1, none⟩ v).heap.size = w.heap.size := by simp [World.setCell]
  have h1 := heap_alloc_new (w.setCell ⟨A, 1, none⟩ v) (.cells C t)
  rw [e] at h1
  have h2 := ((Below.refl (((w.setCell ⟨A, 1, none⟩ v).alloc (.cells C t)).heap.size) _).alloc (Nat.le_refl _) Y).block w.heap.size (blk_lt h1)
  rw [h2, h1]
set_option maxRecDepth 100000 in
theorem want_any (A M ln : Nat) (Z : AsV) (k : Nat) (kv : Int) (hkv : kv = (k : Int)) (l : List Pl.Tk) (w : World) (H : AsB w A ln Z) (hT : TkAt w A M Z.r l) :
    Calls Tryz.prog 66 #[.pointer (some ⟨A, 0, none⟩), .int .i64 kv] w (TkQ w A M ln Z (Pl.wantP k l)) := by
  subst hkv
  obtain ⟨q, n, c, hZ, hn, hnc, hR, hq⟩ := hT.is_
  have h1 := H.c1
  rw [hZ] at h1
  have hA := H.lt
  have hth := fun w' h' => throw_any A ln Z 3 3 rfl w' h'
  cases l with
  | nil =>
    simp only [List.length_nil] at hn
    subst hn
    go_enter Tryz.func66, Tryz.ntmps66
    go_wp2_with fail
    generalize hW : w.alloc _ = W1
    have HB : AsB W1 A ln Z := by rw [← hW]; exact H.below ((Below.refl _ _).alloc (Nat.le_refl _) _) H.lt
    have HG : w.grownBy W1 (some A) := by rw [← hW]; exact World.grownBy_alloc _ _ _
    (with_reducible refine (hth _ HB).mono ?_)
    rintro e w1 ⟨rfl, rfl⟩
    exact ⟨rfl, HG, rfl⟩
  | cons t r =>
    obtain ⟨b, off, rfl, hb, k0, k1, k2, hR'⟩ := hR.tk hn.symm rfl
    have hbA : b ≠ A := (hq _ rfl).1
    have hbM : b < M := (hq _ rfl).2
    by_cases htk : t.k = k
    · have e1 : ((t.k : Int) == (k : Int)) = true := by simp; omega
      have hf1 := H.froz 1
      rw [List.length_cons] at hn
      subst hn
      have hP : Pl.wantP k (t :: r) = .ok (t, r) := by simp only [Pl.wantP]; rw [if_pos htk]
      rw [hP]
      have HH := Lib.hid H
      have HR := Lib.hid hR'
      have HTA : Hid (∀ cc, r.length ≤ cc → TkAt w A M (.slice (some ⟨b, off + 3, none⟩) r.length cc) r) := Lib.hid fun cc hcc => ⟨_, _, _, rfl, rfl, hcc, hR', fun x hx => by cases hx; exact ⟨hbA, hbM⟩⟩
      clear hq hR hT H hR' hth hP hZ
      obtain ⟨ts, hts⟩ : ∃ s, t.s = s := ⟨_, rfl⟩
      have HT := Lib.hid hts
      rw [hts] at k1
      clear hts
      by_cases hc : c = 1
      · go_enter Tryz.func66, Tryz.ntmps66
        go_wp2_with fail
        refine bodyPost_ret (v := .agg [.int .i64 (k : Int), .string ⟨ts.toArray⟩, .int .i64 t.n].toArray) (resultsA rfl rfl (rangeA (tk_blk w A _ _ _ _)) Tryz.underlying115 rfl info_tk) rfl ?_
        have hr0 : r = [] := List.eq_nil_of_length_eq_zero (by omega)
        refine ⟨(tk_fin HH.out _ _ _).1, ?_, _, (tk_fin HH.out _ _ _).2, ?_⟩
        · unfold tkV tkL; rw [HT.out, htk]
        · subst hr0
          exact ⟨_, _, _, rfl, rfl, Nat.le_refl _, Rd.zero, fun x hx => by cases hx; exact ⟨hbA, hbM⟩⟩
      · go_enter Tryz.func66, Tryz.ntmps66
        go_wp2_with fail
        refine bodyPost_ret (v := .agg [.int .i64 (k : Int), .string ⟨ts.toArray⟩, .int .i64 t.n].toArray) (resultsA rfl rfl (rangeA (tk_blk w A _ _ _ _)) Tryz.underlying115 rfl info_tk) rfl ?_
        refine ⟨(tk_fin HH.out _ _ _).1, ?_, _, (tk_fin HH.out _ _ _).2, TkAt.grown (HTA.out _ (by omega)) (tk_fin HH.out _ _ _).1⟩
        unfold tkV tkL; rw [HT.out, htk]
    · have e1 : ((t.k : Int) != (k : Int)) = true := by simp; omega
      rw [List.length_cons] at hn
      subst hn
      go_enter Tryz.func66, Tryz.ntmps66
      go_wp2_with fail
      generalize hW : w.alloc _ = W1
      have HB : AsB W1 A ln Z := by rw [← hW]; exact H.below ((Below.refl _ _).alloc (Nat.le_refl _) _) H.lt
      have HG : w.grownBy W1 (some A) := by rw [← hW]; exact World.grownBy_alloc _ _ _
      (with_reducible refine (hth _ HB).mono ?_)
      rintro e w1 ⟨rfl, rfl⟩
      have hP : Pl.wantP k (t :: r) = .error 3 := by simp only [Pl.wantP]; rw [if_neg htk]
      rw [hP]
      exact ⟨rfl, HG, rfl⟩

theorem tk_end {w w1 : World} {A ln : Nat} {Z : AsV} (H : AsB w A ln Z) (hw : w = w1) : AsB w1 A ln Z := hw ▸ H
theorem tk_new {w W : World} {A M ln : Nat} {Z : AsV} {v : Value} {l : List Pl.Tk} (o : Obj) (hW : w.alloc o = W) (H : AsB w A ln Z) (hT : TkAt w A M v l) : AsB W A ln Z ∧ TkAt W A M v l ∧ w.grownBy W (some A) ∧ W.heap[w.heap.size]? = some o ∧ A < w.heap.size := by
  subst hW
  exact ⟨H.below ((Below.refl _ _).alloc (Nat.le_refl _) _) H.lt, hT.grown (World.grownBy_alloc _ _ _), World.grownBy_alloc _ _ _, heap_alloc_new _ _, H.lt⟩
set_option maxRecDepth 100000 in
theorem value_any (A M ln : Nat) (Z : AsV) (l : List Pl.Tk) (w : World) (H : AsB w A ln Z) (hT : TkAt w A M Z.r l) (hM : M ≤ w.heap.size) :
    Calls Tryz.prog 106 #[.pointer (some ⟨A, 0, none⟩)] w (TkQ w A M ln Z (Pl.valP l)) := by
  obtain ⟨q, n, c, hZ, hn, hnc, hR, hq⟩ := hT.is_
  have h1 := H.c1
  rw [hZ] at h1
  have hA := H.lt
  cases l with
  | nil =>
    simp only [List.length_nil] at hn
    subst hn
    go_enter Tryz.func106, Tryz.ntmps106
    go_wp2_with fail
    generalize hW : w.alloc _ = W1
    obtain ⟨HB, HT, HG, hz, -⟩ := tk_new _ hW H hT
    (with_reducible refine (want_any A M ln Z 1 1 rfl [] W1 HB HT).mono ?_)
    rintro e w1 ⟨hg, rfl⟩
    exact ⟨rfl, HG.trans hg, rfl⟩
  | cons t r =>
    obtain ⟨b, off, rfl, hb, k0, k1, k2, hR'⟩ := hR.tk hn.symm rfl
    rw [List.length_cons] at hn
    subst hn
    have HH := Lib.hid (And.intro H hT)
    by_cases htk : t.k = 0
    · have hP : Pl.valP (t :: r) = .ok (t, r) := by simp only [Pl.valP]; rw [if_pos htk]
      have hW0 : Pl.wantP 0 (t :: r) = .ok (t, r) := by simp only [Pl.wantP]; rw [if_pos htk]
      rw [hP]
      have e1 : ((t.k : Int) == 0) = true := by simp; omega
      have HP := Lib.hid hW0
      clear hR hR' hq hT H hZ hP hW0 k1 k2
      go_enter Tryz.func106, Tryz.ntmps106
      go_wp2_with fail
      generalize hW : w.alloc _ = W1
      obtain ⟨HB, HT, HG, hz, -⟩ := tk_new _ hW HH.out.1 HH.out.2
      have HC := Lib.hid (want_any A M ln Z 0 0 rfl (t :: r) W1 HB HT)
      rw [HP.out] at HC
      (with_reducible refine HC.out.mono ?_)
      rintro e w1 ⟨hg, rfl, v, hB1, hT1⟩
      have hz1 := (hg.block _ (blk_lt hz) (by simp; omega)).trans hz
      have HX := Lib.hid (And.intro (HG.trans hg) (And.intro hB1 hT1))
      have HA := Lib.hid HH.out.1.lt
      clear hg hB1 hT1 HB HT HG hz HC hW e1 h1 hA k0
      obtain ⟨L, hL⟩ : ∃ L, tkL t = L := ⟨_, rfl⟩
      have hLl : L.length = 3 := by rw [← hL]; rfl
      have HL1 := Lib.hid (And.intro hLl (all_oneCell_toArray (cs := L) (by rw [← hL]; exact tkL_one t)))
      unfold tkV
      rw [hL]
      have HL := Lib.hid hL
      clear hL hLl
      go_wp2_with (with_reducible refine wpList_store_mid rfl 115 _ _ rfl w.heap.size 0 L.toArray rfl rfl (thereA hz1 (by have := HL1.out.1; simp; omega)) (by rw [List.size_toArray, HL1.out.1]; exact info_tk) HL1.out.2 ?_)
      have hz2 := heap_setCells_all (C := [.int .i64 0, .string ⟨#[]⟩, .int .i64 0]) (vs := L) hz1 (by rw [HL1.out.1]; rfl)
      refine bodyPost_ret (v := .agg L.toArray) (resultsA rfl rfl (rangeA hz2) Tryz.underlying115 rfl (by rw [HL1.out.1]; exact info_tk)) rfl ?_
      have hbw : Below w.heap.size w1 (w1.setCells w.heap.size 0 L) := Lib.below_setCells_w (Nat.le_refl _) _ _ _
      refine ⟨grown_new HX.out.1 hbw, by rw [← HL.out]; rfl, v, HX.out.2.1.below hbw HA.out, HX.out.2.2.keep hbw hM⟩
    · have hP : Pl.valP (t :: r) = Pl.wantP 1 (t :: r) := by simp only [Pl.valP]; rw [if_neg htk]
      rw [hP]
      have e1 : ((t.k : Int) == 0) = false := by simp; omega
      obtain ⟨E, hE⟩ : ∃ E, Pl.wantP 1 (t :: r) = E := ⟨_, rfl⟩
      rw [hE]
      have HE := Lib.hid hE
      clear hR hR' hq hT H hZ hP k1 k2 hE
      rcases E with ee | ⟨t', r'⟩
      · go_enter Tryz.func106, Tryz.ntmps106
        go_wp2_with fail
        generalize hW : w.alloc _ = W1
        obtain ⟨HB, HT, HG, hz, -⟩ := tk_new _ hW HH.out.1 HH.out.2
        have HC := Lib.hid (want_any A M ln Z 1 1 rfl (t :: r) W1 HB HT)
        rw [HE.out] at HC
        (with_reducible refine HC.out.mono ?_)
        rintro e w1 ⟨hg, rfl⟩
        exact ⟨rfl, HG.trans hg, rfl⟩
      go_enter Tryz.func106, Tryz.ntmps106
      go_wp2_with fail
      generalize hW : w.alloc _ = W1
      obtain ⟨HB, HT, HG, hz, -⟩ := tk_new _ hW HH.out.1 HH.out.2
      have HC := Lib.hid (want_any A M ln Z 1 1 rfl (t :: r) W1 HB HT)
      rw [HE.out] at HC
      (with_reducible refine HC.out.mono ?_)
      rintro e w1 ⟨hg, rfl, v, hB1, hT1⟩
      have hz1 := (hg.block _ (blk_lt hz) (by simp; omega)).trans hz
      have HX := Lib.hid (And.intro (HG.trans hg) (And.intro hB1 hT1))
      have HA := Lib.hid HH.out.1.lt
      clear hg hB1 hT1 HB HT HG hz HC hW e1 h1 hA k0
      obtain ⟨L, hL⟩ : ∃ L, tkL t' = L := ⟨_, rfl⟩
      have hLl : L.length = 3 := by rw [← hL]; rfl
      have HL1 := Lib.hid (And.intro hLl (all_oneCell_toArray (cs := L) (by rw [← hL]; exact tkL_one t')))
      unfold tkV
      rw [hL]
      have HL := Lib.hid hL
      clear hL hLl
      go_wp2_with (with_reducible refine wpList_store_mid rfl 115 _ _ rfl w.heap.size 0 L.toArray rfl rfl (thereA hz1 (by have := HL1.out.1; simp; omega)) (by rw [List.size_toArray, HL1.out.1]; exact info_tk) HL1.out.2 ?_)
      have hz2 := heap_setCells_all (C := [.int .i64 0, .string ⟨#[]⟩, .int .i64 0]) (vs := L) hz1 (by rw [HL1.out.1]; rfl)
      refine bodyPost_ret (v := .agg L.toArray) (resultsA rfl rfl (rangeA hz2) Tryz.underlying115 rfl (by rw [HL1.out.1]; exact info_tk)) rfl ?_
      have hbw : Below w.heap.size w1 (w1.setCells w.heap.size 0 L) := Lib.below_setCells_w (Nat.le_refl _) _ _ _
      refine ⟨grown_new HX.out.1 hbw, by rw [← HL.out]; rfl, v, HX.out.2.1.below hbw HA.out, HX.out.2.2.keep hbw hM⟩
def UnQ (w : World) (ln : Nat) (E : Except Nat Unit) (x : Ending) (w' : World) : Prop := w' = w ∧ match E with
  | .error e => Thrown e ln x
  | .ok _ => x = .returned (.tuple #[])
set_option maxRecDepth 100000 in
theorem end_any (A M ln : Nat) (Z : AsV) (l : List Pl.Tk) (w : World) (H : AsB w A ln Z) (hT : TkAt w A M Z.r l) :
    Calls Tryz.prog 93 #[.pointer (some ⟨A, 0, none⟩)] w (UnQ w ln (Pl.endP l)) := by
  obtain ⟨q, n, c, hZ, hn, hnc, hR, hq⟩ := hT.is_
  have h1 := H.c1
  rw [hZ] at h1
  have hth := throw_any A ln Z 3 3 rfl w H
  by_cases h0 : n = 0
  · have hP : Pl.endP l = .ok () := by unfold Pl.endP; rw [if_pos (by omega)]
    rw [hP]
    subst h0
    clear hR hq hT hZ hn hnc
    go_enter Tryz.func93, Tryz.ntmps93
    go_wp2_with fail
    refine bodyPost_end (results_none rfl _ _ _) rfl ?_
    exact ⟨rfl, rfl⟩
  · have hP : Pl.endP l = .error 3 := by unfold Pl.endP; rw [if_neg (by omega)]
    rw [hP]
    have hpos : 0 < n := by omega
    clear hR hq hT hZ hn hnc
    go_enter Tryz.func93, Tryz.ntmps93
    go_wp2_with fail
    (with_reducible refine hth.mono ?_)
    rintro e w1 ⟨rfl, rfl⟩
    exact ⟨rfl, rfl, rfl⟩
set_option maxRecDepth 100000 in
theorem within_any (A ln : Nat) (Z : AsV) (n lo hi : Int) (w : World) (H : AsB w A ln Z) :
    Calls Tryz.prog 94 #[.pointer (some ⟨A, 0, none⟩), .int .i64 n, .int .i64 lo, .int .i64 hi] w (UnQ w ln (Pl.inP n lo hi)) := by
  have hth := throw_any A ln Z 2 2 rfl w H
  by_cases h0 : n < lo
  · have hP : Pl.inP n lo hi = .error 2 := by unfold Pl.inP; rw [if_pos (by omega)]
    rw [hP]
    go_enter Tryz.func94, Tryz.ntmps94
    go_wp2_with fail
    (with_reducible refine hth.mono ?_)
    rintro e w1 ⟨rfl, rfl⟩
    exact ⟨rfl, rfl, rfl⟩
  by_cases h1 : hi < n
  · have hP : Pl.inP n lo hi = .error 2 := by unfold Pl.inP; rw [if_pos (by omega)]
    rw [hP]
    go_enter Tryz.func94, Tryz.ntmps94
    go_wp2_with fail
    (with_reducible refine hth.mono ?_)
    rintro e w1 ⟨rfl, rfl⟩
    exact ⟨rfl, rfl, rfl⟩
  · have hP : Pl.inP n lo hi = .ok () := by unfold Pl.inP; rw [if_neg (by omega)]
    rw [hP]
    go_enter Tryz.func94, Tryz.ntmps94
    go_wp2_with fail
    refine bodyPost_end (results_none rfl _ _ _) rfl ?_
    exact ⟨rfl, rfl⟩
end Go.Proofs.YtmmnkoeajdeldaaGreatDoor
