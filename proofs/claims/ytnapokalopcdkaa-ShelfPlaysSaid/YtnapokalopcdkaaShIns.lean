/- The walk of slices.Insert of one object. -/
import Derived.Test.YtnapokalopcdkaaShW7
import Derived.Test.YtnapokalopcdkaaZeros
import Derived.Lib.Overlaps
namespace Go.Proofs.Ytnapokalopcdkaa
open Go.RowKit
set_option linter.unusedVariables false
set_option linter.unusedSimpArgs false

theorem objCs_app (a b : List Pl.Obj) : objCs (a ++ b) = objCs a ++ objCs b := by simp [objCs]
theorem objCs_len (l : List Pl.Obj) : (objCs l).length = l.length * 4 := by
  induction l with
  | nil => rfl
  | cons x l ih => rw [show objCs (x :: l) = objC x ++ objCs l from rfl, List.length_append, ih]; simp [objC]; omega
theorem objCs_take (l : List Pl.Obj) (i : Nat) : (objCs l).take (i * 4) = objCs (l.take i) := by
  induction l generalizing i with
  | nil => simp [objCs]
  | cons x l ih =>
    cases i with
    | zero => simp [objCs]
    | succ i =>
      rw [show objCs (x :: l) = objC x ++ objCs l from rfl, List.take_succ_cons, show objCs (x :: l.take i) = objC x ++ objCs (l.take i) from rfl, show (i + 1) * 4 = (objC x).length + i * 4 by simp [objC]; omega, List.take_length_add_append, ih]
theorem objCs_drop (l : List Pl.Obj) (i : Nat) : (objCs l).drop (i * 4) = objCs (l.drop i) := by
  induction l generalizing i with
  | nil => simp [objCs]
  | cons x l ih =>
    cases i with
    | zero => simp
    | succ i =>
      rw [show objCs (x :: l) = objC x ++ objCs l from rfl, List.drop_succ_cons, show (i + 1) * 4 = (objC x).length + i * 4 by simp [objC]; omega, List.drop_length_add_append, ih]
theorem lt_of_blk {w : World} {g : Nat} {o : Obj} (h : w.heap[g]? = some o) : g < w.heap.size := by
  rcases Nat.lt_or_ge g w.heap.size with hlt | hge
  · exact hlt
  · rw [Array.getElem?_eq_none hge] at h; cases h
theorem Rd.blk {w : World} {H : Nat} {o : Pl.Obj} {t : TypeId} (hH : w.heap[H]? = some (.cells (objC o).toArray t (0, 0))) : Rd w 4 (some ⟨H, 0, none⟩) 1 (objC o) := by
  refine ⟨rfl, fun _ => ⟨H, 0, rfl, lt_of_blk hH, fun j hj => ?_⟩⟩
  rw [Nat.zero_add, cell_row w H j _ _ hH]; simp
/-- The list with one more. -/
def insL (l : List Pl.Obj) (i : Nat) (o : Pl.Obj) : List Pl.Obj := l.take i ++ (o :: l.drop i)
theorem own_blk_eq {base : Nat} {e : TypeId} {k n : Nat} {A : Option Addr} {c : Nat} {xs : List Value} {w : World} (h : w.ownsRow base e k (.slice A n c) n xs) : (Value.slice A n c).ownBlock = A.map Addr.block := by
  rcases h.2 with ⟨h1, -⟩ | ⟨g, cap, cur, h1, -⟩
  · injection h1 with h1; subst h1; rfl
  · injection h1 with h1; subst h1; rfl
/-- What isn't the row's own block is as it was. -/
def Oth (A : Option Addr) (w w' : World) : Prop := ∀ b, b < w.heap.size → A.map Addr.block ≠ some b → w'.heap[b]? = w.heap[b]?
def InsOut (base : Nat) (A : Option Addr) (w : World) (l : List Pl.Obj) (e : Ending) (w' : World) : Prop := ∃ v, e = .returned v ∧ w'.ownsRow base 50 4 v l.length (objCs l) ∧ Below base w w' ∧ Oth A w w'

set_option maxRecDepth 100000 in
set_option maxHeartbeats 1000000 in
theorem insert_end (base : Nat) (A : Option Addr) (n c : Nat) (l : List Pl.Obj) (o : Pl.Obj) (H : Nat) (w : World) (hl : l.length = n) (hown : w.ownsRow base 50 4 (.slice A n c) n (objCs l)) (hH : w.heap[H]? = some (.cells (objC o).toArray 50 (0, 0))) (hn : n ≤ 1000000) (hbase : base ≤ w.heap.size) :
    Calls Try.prog 29 #[.slice A n c, .int .i64 (n : Int), .slice (some ⟨H, 0, none⟩) 1 1] w (InsOut base A w (insL l n o)) := by
  obtain ⟨i0, hi0, hz0, hz1, hz2⟩ := info_parts info_obj
  have hnw : ∀ j u, (objC o)[j]? = some u → w.cell? ((⟨H, 0, none⟩ : Addr).add j) = some u := by
    intro j v hj
    rw [addr_add, Nat.zero_add, cell_row w H j _ _ hH]
    simpa using hj
  have HN := Lib.hid (And.intro hnw (show ∀ v ∈ objC o, v.oneCell' = true by intro u hu; exact objC_one [o] u (by simpa [objCs] using hu))); clear hnw
  have own_blk : (Value.slice A n c).ownBlock = A.map Addr.block := own_blk_eq hown
  have HB := Lib.hid own_blk; clear own_blk
  have hres : objCs (insL l n o) = objCs l ++ objC o := by
    unfold insL
    rw [List.take_of_length_le (by omega), List.drop_of_length_le (by omega), objCs_app]; simp [objCs]
  have hlen : (insL l n o).length = n + 1 := by unfold insL; simp; omega
  obtain ⟨_, hnc, hc, _⟩ := own_sl hown
  have hq : ((n : Int) == (n : Int)) = true := by simp
  have hl0 : (0 : Int) ≤ (n : Int) := by omega
  have HI := Lib.hid (And.intro info_obj (And.intro hres hlen)); clear hres hlen
  by_cases hcn : c = n
  all_goals
    have HCN := Lib.hid hcn; clear hcn
    go_enter Try.func29, Try.ntmps29
    go_wp2_with (at_builtin; refine wpList_append_own _ rfl (.tmp 23) (.tmp 24) 22 rfl base 50 i0 _ 4 56 Try.underlying22 hi0 hz0 hz1 hz2 rfl (by omega) _ _ _ rfl hown ⟨H, 0, none⟩ 1 1 (objC o) rfl rfl HN.out.1 HN.out.2 (by unfold maxLen; omega) (by omega) hbase ?_; intro v2 w2 hown2 hg2 _)
    all_goals go_ret
    all_goals exact ⟨_, rfl, by rw [HI.out.2.1, HI.out.2.2]; exact hown2, below_own hown hg2 hbase, fun b hb hne => hg2.block b hb (fun e => hne ((show some b = (Value.slice A n c).ownBlock from e).trans HB.out).symm)⟩

theorem ins_list (cl X cs Y : List Value) (n i c : Nat) (hc : cl.length = c * 4) (hX : cl.take (n * 4) = X) (hcs : cs = X.drop (i * 4)) (hY : Y.length = 4) (hin : i < n) (hr : n + 1 ≤ c) (hXl : X.length = n * 4) :
    (splice (splice cl ((i + 1) * 4) cs) (i * 4) Y).take ((n + 1) * 4) = X.take (i * 4) ++ (Y ++ cs) := by
  have hcl : cs.length = (n - i) * 4 := by rw [hcs, List.length_drop, hXl]; omega
  have hP : X.take (i * 4) = cl.take (i * 4) := by rw [← hX, List.take_take, Nat.min_eq_left (by omega)]
  have h1 : (splice cl ((i + 1) * 4) cs).take (i * 4) = X.take (i * 4) := by
    unfold splice
    rw [List.take_append_of_le_length (by rw [List.length_take]; omega), List.take_take, Nat.min_eq_left (by omega), hP]
  have h2 : (splice cl ((i + 1) * 4) cs).drop (i * 4 + Y.length) = cs ++ cl.drop ((i + 1) * 4 + cs.length) := by
    unfold splice
    rw [List.drop_left' (by rw [List.length_take]; omega)]
  rw [show splice (splice cl ((i + 1) * 4) cs) (i * 4) Y = (splice cl ((i + 1) * 4) cs).take (i * 4) ++ (Y ++ (splice cl ((i + 1) * 4) cs).drop (i * 4 + Y.length)) from rfl, h1, h2]
  rw [show X.take (i * 4) ++ (Y ++ (cs ++ cl.drop ((i + 1) * 4 + cs.length))) = (X.take (i * 4) ++ (Y ++ cs)) ++ cl.drop ((i + 1) * 4 + cs.length) by simp]
  exact List.take_left' (by simp [List.length_take]; omega)
theorem run_ovl (w : World) (H g off lb cb cA cB : Nat) (C D : Array Value) (hne : H ≠ g) (hC : w.heap[H]? = some (.cells C 50 (0, 0))) (hD : w.heap[g]? = some (.cells D 50 (0, 0))) (hD0 : D.size ≠ 0) :
    (callFunc 42 #[.slice (some ⟨H, 0, none⟩) 1 cA, .slice (some ⟨g, off, none⟩) lb cB]).run Try.prog w = .ok (.value (.bool false)) w := by
  have h1 := Lib.run_overlaps_apart (P := Try.prog) w 22 4 50 Try.underlying22 4 (fun w => by kernel_rfl) ⟨H, 0, none⟩ ⟨g, off, none⟩ 1 cA lb cB hne 50 50 C.size D.size
    (by simp [World.shape?, hC]) (by simp [World.shape?, hD]) hD0 (frozen_of w H 0 _ _ hC) (frozen_of w H _ _ _ hC)
  rw [run_callFunc_extern Try.func42 (by kernel_rfl) (by kernel_rfl) (by kernel_rfl) (e := Extern.SlicesOverlaps.overlaps #[22, 22] #[4]) (by kernel_rfl), h1]
  rfl
set_option maxRecDepth 100000 in
set_option maxHeartbeats 1000000 in
theorem insert_room (base : Nat) (A : Option Addr) (n c i : Nat) (l : List Pl.Obj) (o : Pl.Obj) (H : Nat) (w : World) (hl : l.length = n) (hown : w.ownsRow base 50 4 (.slice A n c) n (objCs l)) (hH : w.heap[H]? = some (.cells (objC o).toArray 50 (0, 0))) (hn : n ≤ 1000000) (hbase : base ≤ w.heap.size)
    (hin : i < n) (hroom : n + 1 ≤ c) (hAH : A.map Addr.block ≠ some H) :
    Calls Try.prog 29 #[.slice A n c, .int .i64 (i : Int), .slice (some ⟨H, 0, none⟩) 1 1] w (InsOut base A w (insL l i o)) := by
  obtain ⟨_, hnc, hc, _⟩ := own_sl hown
  rcases hown.2 with ⟨_, h0⟩ | ⟨g, cap, cur, hv, hbg, hg, hncap, hcap, hcs, htk⟩
  · omega
  injection hv with hA _ hcc
  subst hA hcc
  have hgH : H ≠ g := by simpa using Ne.symm hAH
  have hD0 : cur.size ≠ 0 := by rw [hcs]; omega
  have hov := fun (off lb cB : Nat) => run_ovl w H g off lb 1 1 cB _ cur hgH hH hg hD0
  have q1 : ((i : Int) == (n : Int)) = false := beq_eq_false_iff_ne.2 (by omega)
  have b0 : (0 : Int) ≤ (i : Int) := by omega
  have b1 : (i : Int) ≤ (n : Int) := by omega
  have b2 : (n : Int) + 1 ≤ (c : Int) := by omega
  have b3 : (i : Int) + 1 ≤ (n : Int) + 1 := by omega
  have b4 : (i : Int) ≤ (n : Int) + 1 := by omega
  have b5 : decide ((c : Int) < (n : Int) + 1) = false := decide_eq_false (by omega)
  have s1 : c ≠ i := by omega
  have s2 : c ≠ i + 1 := by omega
  have HG := Lib.hid (And.intro hg (And.intro hcs (And.intro htk (And.intro hl hH)))); clear hg hcs htk hl hH
  go_enter Try.func29, Try.ntmps29
  go_wp2_with fail
  clear hov
  have e1 : IntKind.i64.wrap ((i : Int) + 1) = (i : Int) + 1 := IntWalk.i64_in _ (by omega)
  have e2 : ((i : Int) + 1).toNat = i + 1 := by omega
  have e3 : (0 : Int) ≤ (i : Int) + 1 := by omega
  have hmin : min (n + 1 - i) (n - i) = n - i := by omega
  have hsz : (Try.prog.info? 50).map (·.size) = some 4 := by kernel_rfl
  obtain ⟨cl, hcl⟩ : ∃ cl, cur = List.toArray cl := ⟨cur.toList, by simp⟩
  have hgl : w.heap[g]? = some (.cells cl.toArray 50 (0, 0)) := by rw [← hcl]; exact HG.out.1
  have hcll : cl.length = c * 4 := by have := HG.out.2.1; rw [hcl] at this; simpa using this
  have htkl : cl.take (n * 4) = objCs l := by have := HG.out.2.2.1; rw [hcl] at this; simpa using this
  obtain ⟨cs1, hcs1⟩ : ∃ cs1, objCs (l.drop i) = cs1 := ⟨_, rfl⟩
  have hcs1l : cs1.length = (n - i) * 4 := by rw [← hcs1, objCs_len, List.length_drop, HG.out.2.2.2.1]
  have hsrc1 : ∀ j v, cs1[j]? = some v → w.drew.cell? ((⟨g, i * 4, none⟩ : Addr).add j) = some v := by
    intro j v hj
    rw [addr_add]
    have hjl : j < cs1.length := by
      rcases Nat.lt_or_ge j cs1.length with h | h
      · exact h
      · rw [List.getElem?_eq_none h] at hj; cases hj
    have h2 : w.cell? ⟨g, i * 4 + j, none⟩ = cl[i * 4 + j]? := by rw [cell_row w g _ _ _ hgl]; simp
    show w.cell? ⟨g, i * 4 + j, none⟩ = some v
    rw [h2, ← hj, ← hcs1, ← objCs_drop, ← htkl, List.getElem?_drop, List.getElem?_take, if_pos (by omega)]
  have hone1 : ∀ v ∈ cs1, v.oneCell' = true := by rw [← hcs1]; exact objC_one _
  refine wp_region_held_drew (S := (fun w' => True)) (by kernel_rfl) trivial (fun hHeld => ?_)
  refine wpAnyH_take (i := 0) (v := ?_) rfl (by kernel_rfl) (by kernel_rfl) (by kernel_rfl) (fun _ _ _ h => h) (Or.inl ⟨by kernel_rfl, ?_⟩) hHeld ?_
  rotate_left
  · (intro w' hSw; (try dsimp only at hSw); go_simp; try with_reducible rfl)
  simp only [Act.put, List.setIfInBounds_toArray, List.set_cons_zero, List.set_cons_succ, List.getElem_toArray, List.getElem_cons_succ, List.getElem_cons_zero]
  refine wpAnyH_take (i := 1) (v := ?_) rfl (by kernel_rfl) (by kernel_rfl) (by kernel_rfl) (fun _ _ _ h => h) (Or.inl ⟨by kernel_rfl, ?_⟩) hHeld ?_
  rotate_left
  · (intro w' hSw; (try dsimp only at hSw); go_simp; try with_reducible rfl)
  simp only [Act.put, List.setIfInBounds_toArray, List.set_cons_zero, List.set_cons_succ, List.getElem_toArray, List.getElem_cons_succ, List.getElem_cons_zero]
  refine wpAnyH_take (i := 2) (v := ?_) rfl (by kernel_rfl) (by kernel_rfl) (by kernel_rfl) (fun _ _ _ h => h) (Or.inl ⟨by kernel_rfl, ?_⟩) hHeld ?_
  rotate_left
  · (intro w' hSw; (try dsimp only at hSw); go_simp; try with_reducible rfl)
  simp only [Act.put, List.setIfInBounds_toArray, List.set_cons_zero, List.set_cons_succ, List.getElem_toArray, List.getElem_cons_succ, List.getElem_cons_zero]
  refine wpAnyH_take (i := 3) (v := ?_) rfl (by kernel_rfl) (by kernel_rfl) (by kernel_rfl) (fun _ _ _ h => h) (Or.inl ⟨by kernel_rfl, ?_⟩) hHeld ?_
  rotate_left
  · (intro w' hSw; (try dsimp only at hSw); go_simp; try with_reducible rfl)
  simp only [Act.put, List.setIfInBounds_toArray, List.set_cons_zero, List.set_cons_succ, List.getElem_toArray, List.getElem_cons_succ, List.getElem_cons_zero]
  refine wpAnyH_take (i := 4) (v := ?_) rfl (by kernel_rfl) (by kernel_rfl) (by kernel_rfl) (fun _ _ _ h => h) (Or.inl ⟨by kernel_rfl, ?_⟩) hHeld ?_
  rotate_left
  · (intro w' hSw; (try dsimp only at hSw); go_simp; try with_reducible rfl)
  simp only [Act.put, List.setIfInBounds_toArray, List.set_cons_zero, List.set_cons_succ, List.getElem_toArray, List.getElem_cons_succ, List.getElem_cons_zero]
  refine wpAnyH_take (i := 5) (v := ?_) rfl (by kernel_rfl) (by kernel_rfl) (by kernel_rfl) (fun _ _ _ h => h) (Or.inl ⟨by kernel_rfl, ?_⟩) hHeld ?_
  rotate_left
  · (intro w' hSw; (try dsimp only at hSw); go_simp; try with_reducible rfl)
  simp only [Act.put, List.setIfInBounds_toArray, List.set_cons_zero, List.set_cons_succ, List.getElem_toArray, List.getElem_cons_succ, List.getElem_cons_zero]
  refine wpAnyH_take (i := 6) (v := ?_) rfl (by kernel_rfl) (by kernel_rfl) (by kernel_rfl) (fun _ _ _ h => h) (Or.inl ⟨by kernel_rfl, ?_⟩) hHeld ?_
  rotate_left
  · (intro w' hSw; (try dsimp only at hSw); go_simp; try with_reducible rfl)
  simp only [Act.put, List.setIfInBounds_toArray, List.set_cons_zero, List.set_cons_succ, List.getElem_toArray, List.getElem_cons_succ, List.getElem_cons_zero]
  refine wpAnyH_take (i := 7) (v := ?_) rfl (by kernel_rfl) (by kernel_rfl) (by kernel_rfl) (fun _ _ _ h => h) (Or.inl ⟨by kernel_rfl, ?_⟩) hHeld ?_
  rotate_left
  · (intro w' hSw; (try dsimp only at hSw); go_simp; try with_reducible rfl)
  simp only [Act.put, List.setIfInBounds_toArray, List.set_cons_zero, List.set_cons_succ, List.getElem_toArray, List.getElem_cons_succ, List.getElem_cons_zero]
  refine wpAnyH_ready (rs := [8]) (by kernel_rfl) (by simp) (AllReadyH.cons rfl (fun K hK => ?_) AllReadyH.nil)
  refine copy_step rfl (.tmp 73) (.tmp 76) 22 22 rfl 50 4 Try.underlying22 hsz g ((i + 1) * 4) (n - i) (c - (i + 1)) ⟨g, i * 4, none⟩ (n + 1 - i) (c - i) (by rfl) (by rfl) cl 50 hgl cs1 (by rw [hmin]; exact hcs1l) hsrc1 (by rw [hcll, hcs1l]; omega) hone1 base w ((Below.refl _ _).drew) hbg ?_
  intro w1 Hg1 hb1 hsz1 hot1
  refine hK.out _ _ trivial (fun hHeld => ?_)
  clear hK K
  (try simp only [Act.put, List.setIfInBounds_toArray, List.set_cons_zero, List.set_cons_succ, List.getElem_toArray, List.getElem_cons_succ, List.getElem_cons_zero])
  refine wpAnyH_done (by kernel_rfl) ?_ _
  have hH1 : w1.heap[H]? = some (.cells (objC o).toArray 50 (0, 0)) := (hot1 H hgH).trans HG.out.2.2.2.2
  have hsrc2 : ∀ j v, (objC o)[j]? = some v → w1.cell? ((⟨H, 0, none⟩ : Addr).add j) = some v := by
    intro j v hj
    rw [addr_add, Nat.zero_add, cell_row w1 H j _ _ hH1]
    simpa using hj
  have hone2 : ∀ v ∈ objC o, v.oneCell' = true := by intro u hu; exact objC_one [o] u (by simpa [objCs] using hu)
  have hl1 := length_splice cl ((i + 1) * 4) cs1 (by rw [hcll, hcs1l]; omega)
  obtain ⟨L1, hL1⟩ : ∃ L1, splice cl ((i + 1) * 4) cs1 = L1 := ⟨_, rfl⟩
  rw [hL1] at Hg1 hl1
  have hmin2 : min 1 (n + 1 - i) = 1 := by omega
  have HG1 := Lib.hid (And.intro hL1 (And.intro hl1 (And.intro hcll (And.intro htkl (And.intro hcs1 (And.intro hcs1l (And.intro hcl hgl))))))); clear hL1 hl1 hcll htkl hcs1 hcs1l hcl hgl hsrc1 hmin hH1
  have HO1 := Lib.hid (And.intro hot1 hsz1); clear hot1 hsz1
  have HS2 := Lib.hid (And.intro hsrc2 (And.intro hone2 (And.intro hmin2 hsz))); clear hsrc2 hone2 hmin2 hsz
  have hcp := run_copy_k (P := Try.prog) w1 22 22 3 50 4 g (i * 4) (n + 1 - i) (c - i) ⟨H, 0, none⟩ 1 1 L1.toArray 50 (objC o) Try.underlying22 HS2.out.2.2.2 Hg1.out (by rw [HS2.out.2.2.1]; rfl) HS2.out.1 (by rw [List.size_toArray, HG1.out.2.1, HG1.out.2.2.1]; simp [objC]; omega) HS2.out.2.1
  rw [show min ((1 : Nat) : Int) ((n + 1 - i : Nat) : Int) = 1 by omega] at hcp
  have Hg2 : Hid ((w1.setRow g (L1.toArray.toList.take (i * 4) ++ objC o ++ L1.toArray.toList.drop (i * 4 + (objC o).length)).toArray).heap[g]? = some (.cells (splice L1 (i * 4) (objC o)).toArray 50 (0, 0))) := by
    show _ = _
    rw [setRow_heap w1 g _ _ 50 (0, 0) Hg1.out]; simp [splice]
  have hb2 := below_setRow hb1 hbg (L1.toArray.toList.take (i * 4) ++ objC o ++ L1.toArray.toList.drop (i * 4 + (objC o).length)).toArray
  obtain ⟨w2, hw2⟩ : ∃ w2, w1.setRow g (L1.toArray.toList.take (i * 4) ++ objC o ++ L1.toArray.toList.drop (i * 4 + (objC o).length)).toArray = w2 := ⟨_, rfl⟩
  have hot2 : ∀ b, b ≠ g → w2.heap[b]? = w1.heap[b]? := by intro b hb; rw [← hw2]; exact setRow_other w1 g b _ hb
  rw [hw2] at hcp Hg2 hb2
  have HO2 := Lib.hid hot2; clear hot2 hw2
  go_wp2_with fail
  go_ret
  refine ⟨_, rfl, ?_, hb2, fun b hb hne => by
    have hbg2 : b ≠ g := by rintro rfl; exact hne rfl
    exact (HO2.out b hbg2).trans (HO1.out.1 b hbg2)⟩
  obtain ⟨hL1, hl1, hcll, htkl, hcs1, hcs1l, -, -⟩ := HG1.out
  have hfin := ins_list cl (objCs l) cs1 (objC o) n i c hcll htkl (by rw [← hcs1, objCs_drop]) rfl (by omega) hroom (by rw [objCs_len, HG.out.2.2.2.1])
  rw [hL1] at hfin
  have hlen : (insL l i o).length = n + 1 := by unfold insL; simp; have := HG.out.2.2.2.1; omega
  rw [hlen]
  refine ⟨by rw [objCs_len, hlen], .inr ⟨g, c, (splice L1 (i * 4) (objC o)).toArray, rfl, hbg, Hg2.out, hroom, hcap, ?_, ?_⟩⟩
  · rw [List.size_toArray, length_splice _ _ _ (by rw [hl1, hcll]; simp [objC]; omega), hl1, hcll]
  · show List.take ((n + 1) * 4) (splice L1 (i * 4) (objC o)) = _
    rw [hfin]
    unfold insL
    rw [objCs_app, ← objCs_take, show objCs (o :: l.drop i) = objC o ++ objCs (l.drop i) from rfl, hcs1]
end Go.Proofs.Ytnapokalopcdkaa
