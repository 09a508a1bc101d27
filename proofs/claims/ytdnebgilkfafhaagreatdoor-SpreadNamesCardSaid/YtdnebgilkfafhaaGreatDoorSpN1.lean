/- The walk of the closure of spread's Names, where the power lasts. -/
import Derived.Test.YtdnebgilkfafhaaGreatDoorSpW5
import Derived.Test.YtdnebgilkfafhaaGreatDoorSpD1
namespace Go.Proofs.YtdnebgilkfafhaaGreatDoor
open Go.RowKit
set_option linter.unusedVariables false
set_option linter.unusedSimpArgs false
attribute [local go_sem] ba_get ba_cut ba_add
/-- push_many, and only the row itself is written. -/
theorem push_manyG {P : Program} {ops : Array Oper} {rest : List Oper} {o : Oper} {a : Act} {Q : Exit → Act → World → Prop} (hgd : o.guard = none) (s x : Operand) (t : TypeId)
    (ho : o.op = .call { callee := .builtin .append, args := #[s, x], argTypes := #[t, t] })
    (base : Nat) (e : TypeId) (z : Value) (k bytes : Nat) (ht : P.underlying t = some (.slice e)) (hi : (P.info? e).map (fun i => (i.zero, i.size, i.bytes)) = some (some z, k, bytes)) (hzs : z.cells.size = k) (hk : 0 < k)
    (w : World) (v : Value) (n : Nat) (xs : List Value) (A : Option Addr) (m c : Nat) (ys : List Value) (hs : a.eval s = v) (hown : w.ownsRow base e k v n xs) (hx : a.eval x = .slice A m c) (hr : Rd w k A m ys) (hnil : A = none → c = 0) (h1 : ∀ u ∈ ys, u.oneCell' = true)
    (hbytes : (n + m) * bytes ≤ 140737488355328) (hb0 : 1 ≤ bytes) (hbase : base ≤ w.heap.size)
    (h : ∀ v' w', w'.ownsRow base e k v' (n + m) (xs ++ ys) → w.grownBy w' v.ownBlock → wpList P ops Q rest (a.put o.dst v') w') : wpList P ops Q (o :: rest) a w := by
  obtain ⟨i0, hi0, hz0, hz1, hz2⟩ := info_parts hi
  rcases A with _ | ad
  · have hc := hnil rfl
    subst hc
    have hm : m = 0 := by
      rcases Nat.eq_zero_or_pos m with h0 | h0
      · exact h0
      · obtain ⟨b, off, he, _⟩ := hr.2 h0; cases he
    subst hm
    obtain rfl : ys = [] := List.eq_nil_of_length_eq_zero (by have := hr.1; simpa using this)
    exact wpList_append_own_none hgd s x t ho base e i0 k ht hi0 v n xs hs hown hx (h v w (by simpa using hown) ⟨rfl, rfl, rfl, Nat.le_refl _, fun _ _ _ => rfl⟩)
  · refine wpList_append_own _ hgd s x t ho base e i0 z k bytes ht hi0 hz0 hz1 hz2 hzs hk v n xs hs hown ad m c ys hx hr.1 ?_ h1 ?_ hbytes hbase ?_
    · intro j u hu
      have hj : j < ys.length := by
        rcases Nat.lt_or_ge j ys.length with hj | hj
        · exact hj
        · rw [List.getElem?_eq_none hj] at hu; cases hu
      have hm : 0 < m := by
        rcases Nat.eq_zero_or_pos m with h0 | h0
        · subst h0; have := hr.1; omega
        · exact h0
      obtain ⟨b, off, he, _, hc⟩ := hr.2 hm
      injection he with he
      subst he
      rw [addr_add, hc j hj, hu]
    · have : n + m ≤ (n + m) * bytes := Nat.le_mul_of_pos_right _ hb0
      simp only [maxLen]; omega
    · intro v' w' h2 h3 _
      exact h v' w' h2 h3
/-- The names that the first k shelves told; how many told an error. -/
def acN (t : Nat → Pl.ToldN) (k : Nat) : List (List UInt8) := ((List.range k).map fun i => if (t i).err = 0 then (t i).names else []).flatten
def erN (t : Nat → Pl.ToldN) (k : Nat) : Nat := ((List.range k).map fun i => if (t i).err = 0 then 0 else 1).sum
theorem acN_succ (t : Nat → Pl.ToldN) (k : Nat) : acN t (k + 1) = acN t k ++ (if (t k).err = 0 then (t k).names else []) := by unfold acN; rw [List.range_succ, List.map_append, List.flatten_append]; simp
theorem erN_succ (t : Nat → Pl.ToldN) (k : Nat) : erN t (k + 1) = erN t k + (if (t k).err = 0 then 0 else 1) := by unfold erN; rw [List.range_succ, List.map_append, List.sum_append]; simp
theorem erN_le (t : Nat → Pl.ToldN) : ∀ k, k ≤ 5 → erN t k ≤ k
  | 0, _ => Nat.le_refl _
  | k + 1, h => by rw [erN_succ]; have := erN_le t k (by omega); split <;> omega
structure NmJ (P0 P1 P2 P3 B : Nat) (p : List UInt8) (t : Nat → Pl.ToldN) (k : Nat) (W : World) : Prop where
  fr : W.heap[P1]? = some (.cells #[.string ⟨p.toArray⟩] 9 (0, 0))
  pw : W.heap[P0]? = some (.cells #[.bool true] 4 (0, 0))
  es : W.heap[P2]? = some (.cells #[.int .i64 ((erN t k : Nat) : Int)] 3 (0, 0))
  l : ∃ A c, W.heap[P3]? = some (.cells #[.slice A (acN t k).length c] 22 (0, 0)) ∧ W.ownsRow B 9 1 (.slice A (acN t k).length c) (acN t k).length (strs (acN t k))
theorem NmJ.keep {P0 P1 P2 P3 B : Nat} {p : List UInt8} {t : Nat → Pl.ToldN} {k : Nat} {W W' : World} (h : NmJ P0 P1 P2 P3 B p t k W) (hb : Below W.heap.size W W') : NmJ P0 P1 P2 P3 B p t k W' :=
  ⟨keepB h.fr hb, keepB h.pw hb, keepB h.es hb, let ⟨A, c, h1, h2⟩ := h.l; ⟨A, c, keepB h1 hb, own_below h2 hb⟩⟩
theorem own_kpa {N base : Nat} {v : Value} {n : Nat} {xs : List Value} {W W' : World} (h : W.ownsRow base 9 1 v n xs) (hk : KpA N W W') : W'.ownsRow base 9 1 v n xs := by
  obtain ⟨h0, h1 | ⟨g, cap, cur, e, hb, hg, hr⟩⟩ := h
  · exact ⟨h0, .inl h1⟩
  · exact ⟨h0, .inr ⟨g, cap, cur, e, hb, (hk.2 g _ _ hg (.inr ⟨by decide, by decide⟩)).trans hg, hr⟩⟩
theorem NmJ.kpa {P0 P1 P2 P3 B N : Nat} {p : List UInt8} {t : Nat → Pl.ToldN} {k : Nat} {W W' : World} (h : NmJ P0 P1 P2 P3 B p t k W) (hk : KpA N W W') (h0 : P0 < N) (h1 : P1 < N) (h2 : P2 < N) (h3 : P3 < N) : NmJ P0 P1 P2 P3 B p t k W' :=
  ⟨(hk.2 P1 _ _ h.fr (.inl h1)).trans h.fr, (hk.2 P0 _ _ h.pw (.inl h0)).trans h.pw, (hk.2 P2 _ _ h.es (.inl h2)).trans h.es, let ⟨A, c, g1, g2⟩ := h.l; ⟨A, c, (hk.2 P3 _ _ g1 (.inl h3)).trans g1, own_kpa g2 hk⟩⟩
theorem own_ne {base : Nat} {v : Value} {n : Nat} {xs : List Value} {W : World} (h : W.ownsRow base 9 1 v n xs) {T : Nat} {C : Array Value} {t : TypeId} (hT : W.heap[T]? = some (.cells C t (0, 0))) (ht : t ≠ 9) : some T ≠ v.ownBlock := by
  obtain ⟨h0, ⟨rfl, -⟩ | ⟨g, cap, cur, rfl, hb, hg, hr⟩⟩ := h
  · exact fun h => by cases h
  · intro h
    have hTg : T = g := by injection h
    rw [← hTg, hT] at hg
    injection hg with hg
    injection hg with _ hg
    exact ht hg
theorem own_setT {base : Nat} {v : Value} {n : Nat} {xs : List Value} {W : World} (h : W.ownsRow base 9 1 v n xs) {T : Nat} {C : Array Value} {t : TypeId} (hT : W.heap[T]? = some (.cells C t (0, 0))) (ht : t ≠ 9) (i : Nat) (u : Value) : (W.setCell ⟨T, i, none⟩ u).ownsRow base 9 1 v n xs := by
  obtain ⟨h0, h1 | ⟨g, cap, cur, e, hb, hg, hr⟩⟩ := h
  · exact ⟨h0, .inl h1⟩
  · have hgT : g ≠ T := fun he => by
      rw [he, hT] at hg
      injection hg with hg
      injection hg with _ hg
      exact ht hg
    exact ⟨h0, .inr ⟨g, cap, cur, e, hb, (Below.heap_setCell _ _ _ _ hgT).trans hg, hr⟩⟩
theorem NmJ.set {P0 P1 P2 P3 B : Nat} {p : List UInt8} {t : Nat → Pl.ToldN} {k : Nat} {W : World} (h : NmJ P0 P1 P2 P3 B p t k W) {T : Nat} {C : Array Value} {ty : TypeId} (hT : W.heap[T]? = some (.cells C ty (0, 0))) (ht : ty ≠ 9) (h0 : P0 ≠ T) (h1 : P1 ≠ T) (h2 : P2 ≠ T) (h3 : P3 ≠ T) (i : Nat) (u : Value) : NmJ P0 P1 P2 P3 B p t k (W.setCell ⟨T, i, none⟩ u) :=
  ⟨(Below.heap_setCell _ _ _ _ h1).trans h.fr, (Below.heap_setCell _ _ _ _ h0).trans h.pw, (Below.heap_setCell _ _ _ _ h2).trans h.es, let ⟨A, c, g1, g2⟩ := h.l; ⟨A, c, (Below.heap_setCell _ _ _ _ h3).trans g1, own_setT g2 hT ht i u⟩⟩
set_option maxRecDepth 100000 in
set_option maxHeartbeats 4000000 in
theorem names1_any (P0 P1 P2 P3 B0 : Nat) (p : List UInt8) (t : Nat → Pl.ToldN) (k : Nat) (hk : k < 5) (s : Pl.Shelf) (x : ShX) (N : Nat) (W : World) (hNW : N ≤ W.heap.size) (hJ : NmJ P0 P1 P2 P3 B0 p t k W) (hx : ShF N W s x) (hfit : Pl.FitG s.objs s.fates) (hP1 : P1 < B0) (hP0 : B0 ≤ P0) (hP2 : B0 ≤ P2) (hP3 : B0 ≤ P3) (h02 : P0 ≠ P2) (h03 : P0 ≠ P3) (h23 : P2 ≠ P3) (hN0 : P0 < N) (hN2 : P2 < N) (hN3 : P3 < N)
    (ht : Pl.namesA s.objs s.fates p = ((Pl.namesA s.objs s.fates p).1, (t k).names, (t k).err)) (hlen : (acN t (k + 1)).length ≤ 8000000000000) :
    Calls Tryz.prog 52 #[.int .i64 (k : Int), .agg #[.slice x.A s.objs.length x.c, .slice x.A' s.fates.length x.c'], .bool false, .pointer (some ⟨P0, 0, none⟩), .pointer (some ⟨P1, 0, none⟩), .pointer (some ⟨P2, 0, none⟩), .pointer (some ⟨P3, 0, none⟩)] W
      (fun e W' => ∃ x', e = .returned (.agg #[.slice x'.A s.objs.length x'.c, .slice x'.A' (Pl.namesA s.objs s.fates p).1.length x'.c']) ∧ ShF N W' ⟨s.objs, (Pl.namesA s.objs s.fates p).1⟩ x' ∧ NmJ P0 P1 P2 P3 B0 p t (k + 1) W' ∧ Below B0 W W' ∧ KpX (fun g => g = P0 ∨ g = P2 ∨ g = P3) W W') := by
  obtain ⟨A, c, A', c'⟩ := x
  obtain ⟨so, sf⟩ := s
  simp only at hx hfit ht ⊢
  obtain ⟨a, ha⟩ : ∃ a, so.length = a := ⟨_, rfl⟩
  obtain ⟨b, hb⟩ : ∃ b, sf.length = b := ⟨_, rfl⟩
  have hnm := fun V h1 h2 => names_all A A' c c' so sf p V a b ha hb h1 h2 hfit
  obtain ⟨F2, hF2⟩ : ∃ z, (Pl.namesA so sf p).1 = z := ⟨_, rfl⟩
  rw [hF2] at ht
  rw [ht] at hnm
  simp only at hnm
  rw [hF2]
  obtain ⟨ns, hns⟩ : ∃ z, (t k).names = z := ⟨_, rfl⟩
  obtain ⟨e, he⟩ : ∃ z, (t k).err = z := ⟨_, rfl⟩
  have hac := acN_succ t k
  have her := erN_succ t k
  rw [hns, he] at hac hnm
  rw [he] at her
  unfold ShF at hx
  simp only at hx ⊢
  rw [ha, hb] at hx
  rw [ha, hb]
  obtain ⟨A0, c0, hl1, hl2⟩ := hJ.l
  obtain ⟨ac, hace⟩ : ∃ z, acN t k = z := ⟨_, rfl⟩
  rw [hace] at hac hl1 hl2
  obtain ⟨ec, hece⟩ : ∃ z, erN t k = z := ⟨_, rfl⟩
  rw [hece] at her
  have hle : ec ≤ 5 := by rw [← hece]; exact Nat.le_trans (erN_le t k (by omega)) (by omega)
  have HH := Lib.hid (And.intro hnm (And.intro hJ (And.intro hx (And.intro ha (And.intro hl1 (And.intro hl2 (And.intro hac (And.intro her hece))))))))
  clear ht hF2 hns he hnm hx hJ ha hb hl1 hl2 hac her hace hece
  go_enter Tryz.func52, Tryz.ntmps52
  go_upto_region 1 with (fail)
  obtain ⟨T, hT⟩ : ∃ T, W.heap.size = T := ⟨_, rfl⟩
  generalize hV : World.alloc (World.alloc W _) _ = V
  have hzT : V.heap[T]? = some (.cells #[.slice A a c, .slice A' b c'] 26 (0, 0)) := by rw [← hV, ← hT]; exact (Below.heap_alloc _ _ _ (by simp)).trans (heap_alloc_new _ _)
  have hzR : V.heap[T + 1]? = some (.cells #[.slice none 0 0, .slice none 0 0] 26 (0, 0)) := by rw [← hV, ← hT]; exact heap_alloc_2 _ _ _
  have hbV : Below T W V := by rw [← hV, ← hT]; exact ((Below.refl _ _).alloc (Nat.le_refl _) _).alloc (by simp) _
  try simp only [hT]
  have hsl : SlAt V 4 A a c (objCs so) := HH.out.2.2.1.1.at.below (by rw [hT]; exact hbV)
  have hsf : SlAt V 1 A' b c' (ints sf) := HH.out.2.2.1.2.at.below (by rw [hT]; exact hbV)
  have hcn := HH.out.1 V hsl hsf
  have t0 : V.cell? ⟨T, 0, none⟩ = some (.slice A a c) := by rw [cell_row V T 0 _ _ hzT]; rfl
  have t1 : V.cell? ⟨T, 1, none⟩ = some (.slice A' b c') := by rw [cell_row V T 1 _ _ hzT]; rfl
  have hJV := HH.out.2.1.keep (by rw [hT]; exact hbV)
  have n0 : V.cell? ⟨P1, 0, none⟩ = some (.string ⟨p.toArray⟩) := by rw [cell_row V P1 0 _ _ hJV.fr]; rfl
  have HV := Lib.hid (And.intro hzT (And.intro hzR (And.intro hbV hcn)))
  have hTs : T + 1 < V.heap.size := blk_lt hzR
  clear hV hzT hzR hbV hsl hsf hcn hJV
  go_upto_region 5 with (with_reducible refine HV.out.2.2.2.mono ?_)
  rintro _ w5 ⟨v, rfl, ⟨A4, c4, A4', c4', An, cn, rfl, ho4, hf4, hsn⟩, hb5⟩
  obtain ⟨f2, hf2⟩ : ∃ z, F2.length = z := ⟨_, rfl⟩
  obtain ⟨nl, hnl⟩ : ∃ z, ns.length = z := ⟨_, rfl⟩
  have hsb : Below V.heap.size V w5 := hb5
  have hzT5 := keepB HV.out.1 hsb
  have hzR5 := keepB HV.out.2.1 hsb
  have hbW5 : Below T W w5 := HV.out.2.2.1.trans (hsb.mono (by omega))
  have hJ5 := HH.out.2.1.keep (by rw [hT]; exact hbW5)
  have hso5 : ShF N w5 ⟨so, F2⟩ ⟨A4, c4, A4', c4'⟩ := (show ShF V.heap.size w5 ⟨so, F2⟩ ⟨A4, c4, A4', c4'⟩ from ⟨ho4, hf4⟩).weak (by omega)
  have hl15 := keepB HH.out.2.2.2.2.1 (by rw [hT]; exact hbW5)
  have hl25 := own_below HH.out.2.2.2.2.2.1 (by rw [hT]; exact hbW5)
  have y0 : w5.cell? ⟨T, 0, none⟩ = some (.slice A a c) := by rw [cell_row w5 T 0 _ _ hzT5]; rfl
  have y1 : w5.cell? ⟨T, 1, none⟩ = some (.slice A' b c') := by rw [cell_row w5 T 1 _ _ hzT5]; rfl
  have yf0 : w5.frozen? ⟨T, 0, none⟩ = false := frozen_of w5 T 0 _ _ hzT5
  have yf1 : w5.frozen? ⟨T, 1, none⟩ = false := frozen_of w5 T 1 _ _ hzT5
  have hale := HH.out.2.2.2.1
  simp only [hale, hf2, hnl]
  clear t0 t1 n0 hb5
  go_upto_region 5 with (fail)
  have hT0 := set_at w5 T 0 _ (.slice A4 a c4) _ hzT5
  have hT6 := set_at _ T 1 _ (.slice A4' f2 c4') _ hT0
  have hR6 : ((w5.setCell ⟨T, 0, none⟩ (.slice A4 a c4)).setCell ⟨T, 1, none⟩ (.slice A4' f2 c4')).heap[T + 1]? = some (.cells #[.slice none 0 0, .slice none 0 0] 26 (0, 0)) := ((Below.heap_setCell _ _ _ _ (by show T + 1 ≠ T; omega)).trans (Below.heap_setCell _ _ _ _ (by show T + 1 ≠ T; omega))).trans hzR5
  have hst6 := hso5.kpt ((KpT.set hzT5 (by decide) (by decide) 0 (.slice A4 a c4)).trans (KpT.set hT0 (by decide) (by decide) 1 (.slice A4' f2 c4')))
  have hb6 : Below T W ((w5.setCell ⟨T, 0, none⟩ (.slice A4 a c4)).setCell ⟨T, 1, none⟩ (.slice A4' f2 c4')) := (hbW5.setCell (p := ⟨T, 0, none⟩) (Nat.le_refl T) _).setCell (p := ⟨T, 1, none⟩) (Nat.le_refl T) _
  have hJ6 := (hJ5.set hzT5 (by decide) (by omega) (by omega) (by omega) (by omega) 0 (.slice A4 a c4)).set hT0 (by decide) (by omega) (by omega) (by omega) (by omega) 1 (.slice A4' f2 c4')
  have hl26 := own_setT (own_setT hl25 hzT5 (by decide) 0 (.slice A4 a c4)) hT0 (by decide) 1 (.slice A4' f2 c4')
  have hl16 : ((w5.setCell ⟨T, 0, none⟩ (.slice A4 a c4)).setCell ⟨T, 1, none⟩ (.slice A4' f2 c4')).heap[P3]? = some (.cells #[.slice A0 ac.length c0] 22 (0, 0)) := ((Below.heap_setCell _ _ _ _ (by show P3 ≠ T; omega)).trans (Below.heap_setCell _ _ _ _ (by show P3 ≠ T; omega))).trans hl15
  have hsn6 : SlAt ((w5.setCell ⟨T, 0, none⟩ (.slice A4 a c4)).setCell ⟨T, 1, none⟩ (.slice A4' f2 c4')) 1 An ns.length cn (strs ns) := by
    refine SlAt.setSl (SlAt.setSl hsn (strs_notSl ns) y0 rfl _) (strs_notSl ns) (p := ⟨T, 1, none⟩) (u := .slice A' b c') ?_ rfl _
    rw [World.cell?_setCell_other]
    · exact y1
    · simp
  generalize hW6 : World.setCell (World.setCell w5 _ _) _ _ = W6
  rw [hW6] at hT6 hR6 hst6 hb6 hJ6 hl26 hl16 hsn6
  have H6 := Lib.hid (And.intro hT6 (And.intro hR6 (And.intro hst6 (And.intro hb6 (And.intro hJ6 (And.intro hl26 (And.intro hl16 hsn6)))))))
  have x0 : W6.cell? ⟨T, 0, none⟩ = some (.slice A4 a c4) := by rw [cell_row W6 T 0 _ _ hT6]; rfl
  have x1 : W6.cell? ⟨T, 1, none⟩ = some (.slice A4' f2 c4') := by rw [cell_row W6 T 1 _ _ hT6]; rfl
  have r0 : W6.cell? ⟨T + 1, 0, none⟩ = some (.slice none 0 0) := by rw [cell_row W6 (T + 1) 0 _ _ hR6]; rfl
  have r1 : W6.cell? ⟨T + 1, 1, none⟩ = some (.slice none 0 0) := by rw [cell_row W6 (T + 1) 1 _ _ hR6]; rfl
  have rf : ∀ i, W6.frozen? ⟨T + 1, i, none⟩ = false := fun i => frozen_of W6 (T + 1) i _ _ hR6
  have fin : ∀ V7 : World, V7.heap[T + 1]? = some (.cells #[.slice none 0 0, .slice none 0 0] 26 (0, 0)) → ShF N V7 ⟨so, F2⟩ ⟨A4, c4, A4', c4'⟩ → NmJ P0 P1 P2 P3 B0 p t (k + 1) V7 → Below B0 W V7 → KpX (fun g => g = P0 ∨ g = P2 ∨ g = P3) W V7 →
      ∃ x' : ShX, Ending.returned (.agg #[.slice A4 a c4, .slice A4' f2 c4']) = .returned (.agg #[.slice x'.A a x'.c, .slice x'.A' F2.length x'.c']) ∧ ShF N ((V7.setCell ⟨T + 1, 0, none⟩ (.slice A4 a c4)).setCell ⟨T + 1, 1, none⟩ (.slice A4' f2 c4')) ⟨so, F2⟩ x' ∧ NmJ P0 P1 P2 P3 B0 p t (k + 1) ((V7.setCell ⟨T + 1, 0, none⟩ (.slice A4 a c4)).setCell ⟨T + 1, 1, none⟩ (.slice A4' f2 c4')) ∧ Below B0 W ((V7.setCell ⟨T + 1, 0, none⟩ (.slice A4 a c4)).setCell ⟨T + 1, 1, none⟩ (.slice A4' f2 c4')) ∧ KpX (fun g => g = P0 ∨ g = P2 ∨ g = P3) W ((V7.setCell ⟨T + 1, 0, none⟩ (.slice A4 a c4)).setCell ⟨T + 1, 1, none⟩ (.slice A4' f2 c4')) := by
    intro V7 h1 h2 h3 h4 h5
    have hT1 := set_at V7 (T + 1) 0 _ (.slice A4 a c4) _ h1
    refine ⟨⟨A4, c4, A4', c4'⟩, by rw [hf2], h2.kpt ((KpT.set h1 (by decide) (by decide) _ _).trans (KpT.set hT1 (by decide) (by decide) _ _)), (h3.set h1 (by decide) (by omega) (by omega) (by omega) (by omega) _ _).set hT1 (by decide) (by omega) (by omega) (by omega) (by omega) _ _, (h4.setCell (p := ⟨T + 1, 0, none⟩) (by show B0 ≤ T + 1; omega) _).setCell (p := ⟨T + 1, 1, none⟩) (by show B0 ≤ T + 1; omega) _, fun g C ty hg hne hty => ?_⟩
    have hgT : g < T := by rw [← hT]; exact blk_lt hg
    exact ((Below.heap_setCell _ _ _ _ (by show g ≠ T + 1; omega)).trans (Below.heap_setCell _ _ _ _ (by show g ≠ T + 1; omega))).trans (h5 g C ty hg hne hty)
  have FN := Lib.hid fin
  clear hT0 hT6 hR6 hst6 hb6 hJ6 hl26 hl16 hsn6 hW6 fin y0 y1 yf0 yf1 hzT5 hzR5 hbW5 hJ5 hso5 hl15 hl25 hsb ho4 hf4 hsn hale
  by_cases he0 : e = 0
  · have hec : ((e : Int) != 0) = false := by rw [he0]; rfl
    have hac : acN t (k + 1) = ac ++ ns := by have := HH.out.2.2.2.2.2.2.1; rw [if_pos he0] at this; exact this
    have her : erN t (k + 1) = ec := by have := HH.out.2.2.2.2.2.2.2.1; rw [if_pos he0] at this; exact this
    have p3 : W6.cell? ⟨P3, 0, none⟩ = some (.slice A0 ac.length c0) := by rw [cell_row W6 P3 0 _ _ H6.out.2.2.2.2.2.2.1]; rfl
    have hlen' : ac.length + nl ≤ 8000000000000 := by rw [hac, List.length_append, hnl] at hlen; exact hlen
    have HAC := Lib.hid (And.intro hac her)
    have hone : ∀ u ∈ strs ns, u.oneCell' = true := by intro u hu; unfold strs at hu; obtain ⟨b, -, rfl⟩ := List.mem_map.1 hu; rfl
    have hrd : Rd W6 1 An nl (strs ns) := by rw [← hnl]; exact H6.out.2.2.2.2.2.2.2.1
    have hnil := H6.out.2.2.2.2.2.2.2.2.2.2
    have hBW : B0 ≤ W6.heap.size := by have := H6.out.2.2.2.1.size; omega
    clear he0 hac her hlen
    have hown6 := H6.out.2.2.2.2.2.1
    have hl16 := H6.out.2.2.2.2.2.2.1
    have hP3s : P3 < W6.heap.size := blk_lt hl16
    go_upto_region 9 with (at_builtin; refine push_manyG rfl (.tmp 27) (.tmp 28) 22 rfl B0 9 (.string ⟨#[]⟩) 1 16 Tryz.underlying22 info_str rfl (by decide) W6 _ _ _ An nl cn (strs ns) rfl hown6 rfl hrd hnil hone (by omega) (by omega) hBW ?_; intro v7 w7 hown7 hg7; obtain ⟨A1, c1, rfl⟩ := own_form' hown7; have p37 : w7.cell? ⟨P3, 0, none⟩ = some (.slice A0 ac.length c0) := (World.cell?_of_block (hg7.block P3 hP3s (own_ne hown6 hl16 (by decide)))).trans p3; have f37 : w7.frozen? ⟨P3, 0, none⟩ = false := frozen_of w7 P3 0 _ _ ((hg7.block P3 hP3s (own_ne hown6 hl16 (by decide))).trans hl16); have H7 := Lib.hid (And.intro hown7 hg7); clear hown7 hg7)
    have hg7 := H7.out.2
    have hn7 : ∀ (g : Nat) (C : Array Value) (ty : TypeId), W6.heap[g]? = some (.cells C ty (0, 0)) → ty ≠ 9 → w7.heap[g]? = some (.cells C ty (0, 0)) := fun g C ty hg hty => (hg7.block g (blk_lt hg) (own_ne hown6 hg hty)).trans hg
    have hR7 := hn7 _ _ _ H6.out.2.1 (by decide)
    have hT7 := hn7 _ _ _ H6.out.1 (by decide)
    have hl17 := hn7 _ _ _ hl16 (by decide)
    have hk7 : KpT N W6 w7 := ⟨hg7.size, fun g C ty _ hg hty => (hn7 g C ty hg (by rcases hty with rfl | rfl <;> decide)).trans hg.symm⟩
    have hb7 : Below B0 W w7 := (H6.out.2.2.2.1.mono (by omega)).trans (below_own hown6 hg7 hBW)
    have hx7 : KpX (fun g => g = P0 ∨ g = P2 ∨ g = P3) W w7 := fun g C ty hg hne hty => by
      have hgT : g < T := by rw [← hT]; exact blk_lt hg
      have h6 := (H6.out.2.2.2.1.block g hgT).trans hg
      exact (hn7 g C ty h6 hty).trans hg.symm
    have hl18 : (w7.setCell ⟨P3, 0, none⟩ (.slice A1 (ac.length + nl) c1)).heap[P3]? = some (.cells #[.slice A1 (ac.length + nl) c1] 22 (0, 0)) := set_at w7 P3 0 _ _ _ hl17
    have ho8 : ∀ g, g ≠ P3 → (w7.setCell ⟨P3, 0, none⟩ (.slice A1 (ac.length + nl) c1)).heap[g]? = w7.heap[g]? := fun g hg => Below.heap_setCell _ _ _ _ hg
    have hT8 := (ho8 T (by omega)).trans hT7
    have hR8 := (ho8 (T + 1) (by omega)).trans hR7
    have hst8 := H6.out.2.2.1.kpt (hk7.trans (KpT.set hl17 (by decide) (by decide) 0 (.slice A1 (ac.length + nl) c1)))
    have hb8 : Below B0 W (w7.setCell ⟨P3, 0, none⟩ (.slice A1 (ac.length + nl) c1)) := hb7.setCell (p := ⟨P3, 0, none⟩) hP3 _
    have hx8 : KpX (fun g => g = P0 ∨ g = P2 ∨ g = P3) W (w7.setCell ⟨P3, 0, none⟩ (.slice A1 (ac.length + nl) c1)) := fun g C ty hg hne hty => (ho8 g (fun h => hne (.inr (.inr h)))).trans (hx7 g C ty hg hne hty)
    have hown8 := own_setT H7.out.1 hl17 (by decide) 0 (.slice A1 (ac.length + nl) c1)
    have hJ8 : NmJ P0 P1 P2 P3 B0 p t (k + 1) (w7.setCell ⟨P3, 0, none⟩ (.slice A1 (ac.length + nl) c1)) := by
      refine ⟨(hb8.block P1 hP1).trans HH.out.2.1.fr, (ho8 P0 h03).trans (hn7 _ _ _ H6.out.2.2.2.2.1.pw (by decide)), ?_, A1, c1, ?_, ?_⟩
      · rw [HAC.out.2, ← HH.out.2.2.2.2.2.2.2.2]
        exact (ho8 P2 h23).trans (hn7 _ _ _ H6.out.2.2.2.2.1.es (by decide))
      · rw [HAC.out.1, List.length_append, hnl]; exact hl18
      · rw [HAC.out.1, List.length_append, hnl, show strs (ac ++ ns) = strs ac ++ strs ns by simp [strs]]; exact hown8
    obtain ⟨W8, hW8⟩ : ∃ z, w7.setCell ⟨P3, 0, none⟩ (.slice A1 (ac.length + nl) c1) = z := ⟨_, rfl⟩
    rw [hW8] at hl18 ho8 hT8 hR8 hst8 hb8 hx8 hown8 hJ8
    simp only [hW8]
    clear hW8 hl18 ho8 hown8 hg7 hn7 hR7 hT7 hl17 hk7 hb7 hx7 hl16 hown6 x0 x1 r0 r1 rf p3 p37 f37 hrd hnil
    have q0 : W8.cell? ⟨T, 0, none⟩ = some (.slice A4 a c4) := by rw [cell_row W8 T 0 _ _ hT8]; rfl
    have q1 : W8.cell? ⟨T, 1, none⟩ = some (.slice A4' f2 c4') := by rw [cell_row W8 T 1 _ _ hT8]; rfl
    have r0 : W8.cell? ⟨T + 1, 0, none⟩ = some (.slice none 0 0) := by rw [cell_row W8 (T + 1) 0 _ _ hR8]; rfl
    have r1 : W8.cell? ⟨T + 1, 1, none⟩ = some (.slice none 0 0) := by rw [cell_row W8 (T + 1) 1 _ _ hR8]; rfl
    have rf : ∀ i, W8.frozen? ⟨T + 1, i, none⟩ = false := fun i => frozen_of W8 (T + 1) i _ _ hR8
    have HE := Lib.hid (FN.out W8 hR8 hst8 hJ8 hb8 hx8)
    clear hT8 hR8 hst8 hJ8 hb8 hx8
    go_wp2_with fail
    refine bodyPost_ret (v := .agg #[.slice A4 a c4, .slice A4' f2 c4']) (by simp [results, Tryz.results52, go_sem, r0, r1]) rfl ?_
    exact HE.out
  · have hec : ((e : Int) != 0) = true := by simp; omega
    have hac : acN t (k + 1) = ac := by have := HH.out.2.2.2.2.2.2.1; rw [if_neg he0] at this; simpa using this
    have her : erN t (k + 1) = ec + 1 := by have := HH.out.2.2.2.2.2.2.2.1; rw [if_neg he0] at this; exact this
    have hes := H6.out.2.2.2.2.1.es
    rw [HH.out.2.2.2.2.2.2.2.2] at hes
    have p2 : W6.cell? ⟨P2, 0, none⟩ = some (.int .i64 (ec : Int)) := by rw [cell_row W6 P2 0 _ _ hes]; rfl
    have pf2 : W6.frozen? ⟨P2, 0, none⟩ = false := frozen_of W6 P2 0 _ _ hes
    obtain ⟨e1, hE1⟩ : ∃ z, ec + 1 = z := ⟨_, rfl⟩
    have he1 : (ec : Int) + 1 = (e1 : Int) := by omega
    have HAC := Lib.hid (And.intro hac (And.intro her hE1))
    clear he0 hac her hlen hE1
    go_upto_region 7 with (fail)
    have ho8 : ∀ g, g ≠ P2 → (W6.setCell ⟨P2, 0, none⟩ (.int .i64 (e1 : Int))).heap[g]? = W6.heap[g]? := fun g hg => Below.heap_setCell _ _ _ _ hg
    have hT8 := (ho8 T (by omega)).trans H6.out.1
    have hR8 := (ho8 (T + 1) (by omega)).trans H6.out.2.1
    have hst8 := H6.out.2.2.1.kpt (W' := W6.setCell ⟨P2, 0, none⟩ (.int .i64 (e1 : Int))) ⟨by simp [World.setCell], fun g C ty hgN hg _ => ho8 g (by omega)⟩
    have hb8 : Below B0 W (W6.setCell ⟨P2, 0, none⟩ (.int .i64 (e1 : Int))) := (H6.out.2.2.2.1.mono (by omega)).setCell (p := ⟨P2, 0, none⟩) hP2 _
    have hx8 : KpX (fun g => g = P0 ∨ g = P2 ∨ g = P3) W (W6.setCell ⟨P2, 0, none⟩ (.int .i64 (e1 : Int))) := fun g C ty hg hne hty => (ho8 g (fun h => hne (.inr (.inl h)))).trans (H6.out.2.2.2.1.block g (by rw [← hT]; exact blk_lt hg))
    have hJ8 : NmJ P0 P1 P2 P3 B0 p t (k + 1) (W6.setCell ⟨P2, 0, none⟩ (.int .i64 (e1 : Int))) := by
      refine ⟨(ho8 P1 (by omega)).trans H6.out.2.2.2.2.1.fr, (ho8 P0 h02).trans H6.out.2.2.2.2.1.pw, ?_, A0, c0, ?_, ?_⟩
      · rw [HAC.out.2.1, HAC.out.2.2]
        exact set_at W6 P2 0 _ (.int .i64 (e1 : Int)) _ hes
      · rw [HAC.out.1]; exact (ho8 P3 (fun h => h23 h.symm)).trans H6.out.2.2.2.2.2.2.1
      · rw [HAC.out.1]; exact own_setT H6.out.2.2.2.2.2.1 hes (by decide) 0 _
    obtain ⟨W8, hW8⟩ : ∃ z, W6.setCell ⟨P2, 0, none⟩ (.int .i64 (e1 : Int)) = z := ⟨_, rfl⟩
    rw [hW8] at ho8 hT8 hR8 hst8 hb8 hx8 hJ8
    simp only [hW8]
    clear hW8 ho8 x0 x1 r0 r1 rf p2 pf2 hes
    have q0 : W8.cell? ⟨T, 0, none⟩ = some (.slice A4 a c4) := by rw [cell_row W8 T 0 _ _ hT8]; rfl
    have q1 : W8.cell? ⟨T, 1, none⟩ = some (.slice A4' f2 c4') := by rw [cell_row W8 T 1 _ _ hT8]; rfl
    have r0 : W8.cell? ⟨T + 1, 0, none⟩ = some (.slice none 0 0) := by rw [cell_row W8 (T + 1) 0 _ _ hR8]; rfl
    have r1 : W8.cell? ⟨T + 1, 1, none⟩ = some (.slice none 0 0) := by rw [cell_row W8 (T + 1) 1 _ _ hR8]; rfl
    have rf : ∀ i, W8.frozen? ⟨T + 1, i, none⟩ = false := fun i => frozen_of W8 (T + 1) i _ _ hR8
    have HE := Lib.hid (FN.out W8 hR8 hst8 hJ8 hb8 hx8)
    clear hT8 hR8 hst8 hJ8 hb8 hx8
    go_wp2_with fail
    refine bodyPost_ret (v := .agg #[.slice A4 a c4, .slice A4' f2 c4']) (by simp [results, Tryz.results52, go_sem, r0, r1]) rfl ?_
    exact HE.out
end Go.Proofs.YtdnebgilkfafhaaGreatDoor
