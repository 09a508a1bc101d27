/- The walk of slices.Insert of one object. The walk of slices.Insert of one object, where the row must grow. One object of the call's own row is written anew. The walk of slices.Delete of one object. -/
import Derived.Test.YtdnebgilkfafhaaGreatDoorShW1
import Derived.Test.YtdnebgilkfafhaaGreatDoorCopyK
import Derived.Lib.Overlaps
namespace Go.Proofs.YtdnebgilkfafhaaGreatDoor
open Go.RowKit
set_option linter.unusedVariables false
set_option linter.unusedSimpArgs false

theorem objCs_app (a b : List Pl.Obj) : objCs (a ++ b) = objCs a ++ objCs b := by simp [objCs]
theorem objCs_len (l : List Pl.Obj) : (objCs l).length = l.length * 4 := by
  induction l with
  | nil => rfl
  | cons x l ih => rw [show objCs (x :: l) = objC x ++ objCs l from rfl, List.length_append, ih]; simp [objC]; omega
theorem objCs_take (l : List Pl.Obj) (i : Nat) : (objCs l).take (i * 4) = objCs (l.take i) := by
  induction l generalizing i with
  | nil => simp [objCs]
  | cons x l ih =>
    cases i with
    | zero => simp [objCs]
    | succ i =>
      rw [show objCs (x :: l) = objC x ++ objCs l from rfl, List.take_succ_cons, show objCs (x :: l.take i) = objC x ++ objCs (l.take i) from rfl, show (i + 1) * 4 = (objC x).length + i * 4 by simp [objC]; omega, List.take_length_add_append, ih]
theorem objCs_drop (l : List Pl.Obj) (i : Nat) : (objCs l).drop (i * 4) = objCs (l.drop i) := by
  induction l generalizing i with
  | nil => simp [objCs]
  | cons x l ih =>
    cases i with
    | zero => simp
    | succ i =>
      rw [show objCs (x :: l) = objC x ++ objCs l from rfl, List.drop_succ_cons, show (i + 1) * 4 = (objC x).length + i * 4 by simp [objC]; omega, List.drop_length_add_append, ih]
theorem lt_of_blk {w : World} {g : Nat} {o : Obj} (h : w.heap[g]? = some o) : g < w.heap.size := by
  rcases Nat.lt_or_ge g w.heap.size with hlt | hge
  · exact hlt
  · rw [Array.getElem?_eq_none hge] at h; cases h
theorem Rd.blk {w : World} {H : Nat} {o : Pl.Obj} {t : TypeId} (hH : w.heap[H]? = some (.cells (objC o).toArray t (0, 0))) : Rd w 4 (some ⟨H, 0, none⟩) 1 (objC o) := by
  refine ⟨rfl, fun _ => ⟨H, 0, rfl, lt_of_blk hH, fun j hj => ?_⟩⟩
  rw [Nat.zero_add, cell_row w H j _ _ hH]; simp
/-- The list with one more. -/
def insL (l : List Pl.Obj) (i : Nat) (o : Pl.Obj) : List Pl.Obj := l.take i ++ (o :: l.drop i)
theorem own_blk_eq {base : Nat} {e : TypeId} {k n : Nat} {A : Option Addr} {c : Nat} {xs : List Value} {w : World} (h : w.ownsRow base e k (.slice A n c) n xs) : (Value.slice A n c).ownBlock = A.map Addr.block := by
  rcases h.2 with ⟨h1, -⟩ | ⟨g, cap, cur, h1, -⟩
  · injection h1 with h1; subst h1; rfl
  · injection h1 with h1; subst h1; rfl
/-- What isn't the row's own block is as it was. -/
def Oth (A : Option Addr) (w w' : World) : Prop := ∀ b, b < w.heap.size → A.map Addr.block ≠ some b → w'.heap[b]? = w.heap[b]?
def InsOut (base : Nat) (A : Option Addr) (w : World) (l : List Pl.Obj) (e : Ending) (w' : World) : Prop := ∃ v, e = .returned v ∧ w'.ownsRow base 49 4 v l.length (objCs l) ∧ Below base w w' ∧ Oth A w w'

set_option maxRecDepth 100000 in
set_option maxHeartbeats 1000000 in
theorem insert_end (base : Nat) (A : Option Addr) (n c : Nat) (l : List Pl.Obj) (o : Pl.Obj) (H : Nat) (w : World) (hl : l.length = n) (hown : w.ownsRow base 49 4 (.slice A n c) n (objCs l)) (hH : w.heap[H]? = some (.cells (objC o).toArray 49 (0, 0))) (hn : n ≤ 2513169434900) (hbase : base ≤ w.heap.size) :
    Calls Tryz.prog 114 #[.slice A n c, .int .i64 (n : Int), .slice (some ⟨H, 0, none⟩) 1 1] w (InsOut base A w (insL l n o)) := by
  obtain ⟨i0, hi0, hz0, hz1, hz2⟩ := info_parts info_obj
  have hnw : ∀ j u, (objC o)[j]? = some u → w.cell? ((⟨H, 0, none⟩ : Addr).add j) = some u := by
    intro j v hj
    rw [addr_add, Nat.zero_add, cell_row w H j _ _ hH]
    simpa using hj
  have HN := Lib.hid (And.intro hnw (show ∀ v ∈ objC o, v.oneCell' = true by intro u hu; exact objC_one [o] u (by simpa [objCs] using hu))); clear hnw
  have own_blk : (Value.slice A n c).ownBlock = A.map Addr.block := own_blk_eq hown
  have HB := Lib.hid own_blk; clear own_blk
  have hres : objCs (insL l n o) = objCs l ++ objC o := by
    unfold insL
    rw [List.take_of_length_le (by omega), List.drop_of_length_le (by omega), objCs_app]; simp [objCs]
  have hlen : (insL l n o).length = n + 1 := by unfold insL; simp; omega
  obtain ⟨_, hnc, hc, _⟩ := own_sl hown
  have hq : ((n : Int) == (n : Int)) = true := by simp
  have hl0 : (0 : Int) ≤ (n : Int) := by omega
  have HI := Lib.hid (And.intro info_obj (And.intro hres hlen)); clear hres hlen
  by_cases hcn : c = n
  all_goals
    have HCN := Lib.hid hcn; clear hcn
    go_enter Tryz.func114, Tryz.ntmps114
    go_wp2_with (at_builtin; refine wpList_append_own _ rfl (.tmp 23) (.tmp 24) 23 rfl base 49 i0 _ 4 56 Tryz.underlying23 hi0 hz0 hz1 hz2 rfl (by omega) _ _ _ rfl hown ⟨H, 0, none⟩ 1 1 (objC o) rfl rfl HN.out.1 HN.out.2 (by unfold maxLen; omega) (by omega) hbase ?_; intro v2 w2 hown2 hg2 _)
    all_goals go_ret
    all_goals exact ⟨_, rfl, by rw [HI.out.2.1, HI.out.2.2]; exact hown2, below_own hown hg2 hbase, fun b hb hne => hg2.block b hb (fun e => hne ((show some b = (Value.slice A n c).ownBlock from e).trans HB.out).symm)⟩

theorem ins_list (cl X cs Y : List Value) (n i c : Nat) (hc : cl.length = c * 4) (hX : cl.take (n * 4) = X) (hcs : cs = X.drop (i * 4)) (hY : Y.length = 4) (hin : i < n) (hr : n + 1 ≤ c) (hXl : X.length = n * 4) :
    (splice (splice cl ((i + 1) * 4) cs) (i * 4) Y).take ((n + 1) * 4) = X.take (i * 4) ++ (Y ++ cs) := by
  have hcl : cs.length = (n - i) * 4 := by rw [hcs, List.length_drop, hXl]; omega
  have hP : X.take (i * 4) = cl.take (i * 4) := by rw [← hX, List.take_take, Nat.min_eq_left (by omega)]
  have h1 : (splice cl ((i + 1) * 4) cs).take (i * 4) = X.take (i * 4) := by
    unfold splice
    rw [List.take_append_of_le_length (by rw [List.length_take]; omega), List.take_take, Nat.min_eq_left (by omega), hP]
  have h2 : (splice cl ((i + 1) * 4) cs).drop (i * 4 + Y.length) = cs ++ cl.drop ((i + 1) * 4 + cs.length) := by
    unfold splice
    rw [List.drop_left' (by rw [List.length_take]; omega)]
  rw [show splice (splice cl ((i + 1) * 4) cs) (i * 4) Y = (splice cl ((i + 1) * 4) cs).take (i * 4) ++ (Y ++ (splice cl ((i + 1) * 4) cs).drop (i * 4 + Y.length)) from rfl, h1, h2]
  rw [show X.take (i * 4) ++ (Y ++ (cs ++ cl.drop ((i + 1) * 4 + cs.length))) = (X.take (i * 4) ++ (Y ++ cs)) ++ cl.drop ((i + 1) * 4 + cs.length) by simp]
  exact List.take_left' (by simp [List.length_take]; omega)
theorem run_ovl (w : World) (H g off lb cb cA cB : Nat) (C D : Array Value) (hne : H ≠ g) (hC : w.heap[H]? = some (.cells C 49 (0, 0))) (hD : w.heap[g]? = some (.cells D 49 (0, 0))) (hD0 : D.size ≠ 0) :
    (callFunc 154 #[.slice (some ⟨H, 0, none⟩) 1 cA, .slice (some ⟨g, off, none⟩) lb cB]).run Tryz.prog w = .ok (.value (.bool false)) w := by
  have h1 := Lib.run_overlaps_apart (P := Tryz.prog) w 23 4 49 Tryz.underlying23 4 (fun w => by kernel_rfl) ⟨H, 0, none⟩ ⟨g, off, none⟩ 1 cA lb cB hne 49 49 C.size D.size
    (by simp [World.shape?, hC]) (by simp [World.shape?, hD]) hD0 (frozen_of w H 0 _ _ hC) (frozen_of w H _ _ _ hC)
  rw [run_callFunc_extern Tryz.func154 (by kernel_rfl) (by kernel_rfl) (by kernel_rfl) (e := Extern.SlicesOverlaps.overlaps #[23, 23] #[4]) (by kernel_rfl), h1]
  rfl
set_option maxRecDepth 100000 in
set_option maxHeartbeats 1000000 in
theorem insert_room (base : Nat) (A : Option Addr) (n c i : Nat) (l : List Pl.Obj) (o : Pl.Obj) (H : Nat) (w : World) (hl : l.length = n) (hown : w.ownsRow base 49 4 (.slice A n c) n (objCs l)) (hH : w.heap[H]? = some (.cells (objC o).toArray 49 (0, 0))) (hn : n ≤ 2513169434900) (hbase : base ≤ w.heap.size)
    (hin : i < n) (hroom : n + 1 ≤ c) (hAH : A.map Addr.block ≠ some H) :
    Calls Tryz.prog 114 #[.slice A n c, .int .i64 (i : Int), .slice (some ⟨H, 0, none⟩) 1 1] w (InsOut base A w (insL l i o)) := by
  obtain ⟨_, hnc, hc, _⟩ := own_sl hown
  rcases hown.2 with ⟨_, h0⟩ | ⟨g, cap, cur, hv, hbg, hg, hncap, hcap, hcs, htk⟩
  · omega
  injection hv with hA _ hcc
  subst hA hcc
  have hgH : H ≠ g := by simpa using Ne.symm hAH
  have hD0 : cur.size ≠ 0 := by rw [hcs]; omega
  have hov := fun (off lb cB : Nat) => run_ovl w H g off lb 1 1 cB _ cur hgH hH hg hD0
  have q1 : ((i : Int) == (n : Int)) = false := beq_eq_false_iff_ne.2 (by omega)
  have b0 : (0 : Int) ≤ (i : Int) := by omega
  have b1 : (i : Int) ≤ (n : Int) := by omega
  have b2 : (n : Int) + 1 ≤ (c : Int) := by omega
  have b3 : (i : Int) + 1 ≤ (n : Int) + 1 := by omega
  have b4 : (i : Int) ≤ (n : Int) + 1 := by omega
  have b5 : decide ((c : Int) < (n : Int) + 1) = false := decide_eq_false (by omega)
  have s1 : c ≠ i := by omega
  have s2 : c ≠ i + 1 := by omega
  have HG := Lib.hid (And.intro hg (And.intro hcs (And.intro htk (And.intro hl hH)))); clear hg hcs htk hl hH
  go_enter Tryz.func114, Tryz.ntmps114
  go_wp2_with fail
  clear hov
  have e1 : IntKind.i64.wrap ((i : Int) + 1) = (i : Int) + 1 := IntWalk.i64_in _ (by omega)
  have e2 : ((i : Int) + 1).toNat = i + 1 := by omega
  have e3 : (0 : Int) ≤ (i : Int) + 1 := by omega
  have hmin : min (n + 1 - i) (n - i) = n - i := by omega
  have hsz : (Tryz.prog.info? 49).map (·.size) = some 4 := by kernel_rfl
  obtain ⟨cl, hcl⟩ : ∃ cl, cur = List.toArray cl := ⟨cur.toList, by simp⟩
  have hgl : w.heap[g]? = some (.cells cl.toArray 49 (0, 0)) := by rw [← hcl]; exact HG.out.1
  have hcll : cl.length = c * 4 := by have := HG.out.2.1; rw [hcl] at this; simpa using this
  have htkl : cl.take (n * 4) = objCs l := by have := HG.out.2.2.1; rw [hcl] at this; simpa using this
  obtain ⟨cs1, hcs1⟩ : ∃ cs1, objCs (l.drop i) = cs1 := ⟨_, rfl⟩
  have hcs1l : cs1.length = (n - i) * 4 := by rw [← hcs1, objCs_len, List.length_drop, HG.out.2.2.2.1]
  have hsrc1 : ∀ j v, cs1[j]? = some v → w.drew.cell? ((⟨g, i * 4, none⟩ : Addr).add j) = some v := by
    intro j v hj
    rw [addr_add]
    have hjl : j < cs1.length := by
      rcases Nat.lt_or_ge j cs1.length with h | h
      · exact h
      · rw [List.getElem?_eq_none h] at hj; cases hj
    have h2 : w.cell? ⟨g, i * 4 + j, none⟩ = cl[i * 4 + j]? := by rw [cell_row w g _ _ _ hgl]; simp
    show w.cell? ⟨g, i * 4 + j, none⟩ = some v
    rw [h2, ← hj, ← hcs1, ← objCs_drop, ← htkl, List.getElem?_drop, List.getElem?_take, if_pos (by omega)]
  have hone1 : ∀ v ∈ cs1, v.oneCell' = true := by rw [← hcs1]; exact objC_one _
  refine wp_region_held_drew (S := (fun w' => True)) (by kernel_rfl) trivial (fun hHeld => ?_)
  refine tk 0 (v := ?_) rfl ?_ hHeld ?_
  rotate_left
  · (intro w' hSw; (try dsimp only at hSw); go_simp; try with_reducible rfl)
  simp only [Act.put, lay9]
  refine tk 1 (v := ?_) rfl ?_ hHeld ?_
  rotate_left
  · (intro w' hSw; (try dsimp only at hSw); go_simp; try with_reducible rfl)
  simp only [Act.put, lay9]
  refine tk 2 (v := ?_) rfl ?_ hHeld ?_
  rotate_left
  · (intro w' hSw; (try dsimp only at hSw); go_simp; try with_reducible rfl)
  simp only [Act.put, lay9]
  refine tk 3 (v := ?_) rfl ?_ hHeld ?_
  rotate_left
  · (intro w' hSw; (try dsimp only at hSw); go_simp; try with_reducible rfl)
  simp only [Act.put, lay9]
  refine tk 4 (v := ?_) rfl ?_ hHeld ?_
  rotate_left
  · (intro w' hSw; (try dsimp only at hSw); go_simp; try with_reducible rfl)
  simp only [Act.put, lay9]
  refine tk 5 (v := ?_) rfl ?_ hHeld ?_
  rotate_left
  · (intro w' hSw; (try dsimp only at hSw); go_simp; try with_reducible rfl)
  simp only [Act.put, lay9]
  refine tk 6 (v := ?_) rfl ?_ hHeld ?_
  rotate_left
  · (intro w' hSw; (try dsimp only at hSw); go_simp; try with_reducible rfl)
  simp only [Act.put, lay9]
  refine tk 7 (v := ?_) rfl ?_ hHeld ?_
  rotate_left
  · (intro w' hSw; (try dsimp only at hSw); go_simp; try with_reducible rfl)
  simp only [Act.put, lay9]
  refine wpAnyH_ready (rs := [8]) (by kernel_rfl) (by simp) (AllReadyH.cons rfl (fun K hK => ?_) AllReadyH.nil)
  refine copy_step rfl (.tmp 73) (.tmp 76) 23 23 rfl 49 4 Tryz.underlying23 hsz g ((i + 1) * 4) (n - i) (c - (i + 1)) ⟨g, i * 4, none⟩ (n + 1 - i) (c - i) (by rfl) (by rfl) cl 49 hgl cs1 (by rw [hmin]; exact hcs1l) hsrc1 (by rw [hcll, hcs1l]; omega) hone1 base w ((Below.refl _ _).drew) hbg ?_
  intro w1 Hg1 hb1 hsz1 hot1
  refine hK.out _ _ trivial (fun hHeld => ?_)
  clear hK K
  (try simp only [Act.put, lay9])
  refine wpAnyH_done (by kernel_rfl) ?_ _
  have hH1 : w1.heap[H]? = some (.cells (objC o).toArray 49 (0, 0)) := (hot1 H hgH).trans HG.out.2.2.2.2
  have hsrc2 : ∀ j v, (objC o)[j]? = some v → w1.cell? ((⟨H, 0, none⟩ : Addr).add j) = some v := by
    intro j v hj
    rw [addr_add, Nat.zero_add, cell_row w1 H j _ _ hH1]
    simpa using hj
  have hone2 : ∀ v ∈ objC o, v.oneCell' = true := by intro u hu; exact objC_one [o] u (by simpa [objCs] using hu)
  have hl1 := length_splice cl ((i + 1) * 4) cs1 (by rw [hcll, hcs1l]; omega)
  obtain ⟨L1, hL1⟩ : ∃ L1, splice cl ((i + 1) * 4) cs1 = L1 := ⟨_, rfl⟩
  rw [hL1] at Hg1 hl1
  have hmin2 : min 1 (n + 1 - i) = 1 := by omega
  have HG1 := Lib.hid (And.intro hL1 (And.intro hl1 (And.intro hcll (And.intro htkl (And.intro hcs1 (And.intro hcs1l (And.intro hcl hgl))))))); clear hL1 hl1 hcll htkl hcs1 hcs1l hcl hgl hsrc1 hmin hH1
  have HO1 := Lib.hid (And.intro hot1 hsz1); clear hot1 hsz1
  have HS2 := Lib.hid (And.intro hsrc2 (And.intro hone2 (And.intro hmin2 hsz))); clear hsrc2 hone2 hmin2 hsz
  have hcp := run_copy_k (P := Tryz.prog) w1 23 23 3 49 4 g (i * 4) (n + 1 - i) (c - i) ⟨H, 0, none⟩ 1 1 L1.toArray 49 (objC o) Tryz.underlying23 HS2.out.2.2.2 Hg1.out (by rw [HS2.out.2.2.1]; rfl) HS2.out.1 (by rw [List.size_toArray, HG1.out.2.1, HG1.out.2.2.1]; simp [objC]; omega) HS2.out.2.1
  rw [show min ((1 : Nat) : Int) ((n + 1 - i : Nat) : Int) = 1 by omega] at hcp
  have Hg2 : Hid ((w1.setRow g (L1.toArray.toList.take (i * 4) ++ objC o ++ L1.toArray.toList.drop (i * 4 + (objC o).length)).toArray).heap[g]? = some (.cells (splice L1 (i * 4) (objC o)).toArray 49 (0, 0))) := by
    show _ = _
    rw [setRow_heap w1 g _ _ 49 (0, 0) Hg1.out]; simp [splice]
  have hb2 := below_setRow hb1 hbg (L1.toArray.toList.take (i * 4) ++ objC o ++ L1.toArray.toList.drop (i * 4 + (objC o).length)).toArray
  obtain ⟨w2, hw2⟩ : ∃ w2, w1.setRow g (L1.toArray.toList.take (i * 4) ++ objC o ++ L1.toArray.toList.drop (i * 4 + (objC o).length)).toArray = w2 := ⟨_, rfl⟩
  have hot2 : ∀ b, b ≠ g → w2.heap[b]? = w1.heap[b]? := by intro b hb; rw [← hw2]; exact setRow_other w1 g b _ hb
  rw [hw2] at hcp Hg2 hb2
  have HO2 := Lib.hid hot2; clear hot2 hw2
  go_wp2_with fail
  go_ret
  refine ⟨_, rfl, ?_, hb2, fun b hb hne => by
    have hbg2 : b ≠ g := by rintro rfl; exact hne rfl
    exact (HO2.out b hbg2).trans (HO1.out.1 b hbg2)⟩
  obtain ⟨hL1, hl1, hcll, htkl, hcs1, hcs1l, -, -⟩ := HG1.out
  have hfin := ins_list cl (objCs l) cs1 (objC o) n i c hcll htkl (by rw [← hcs1, objCs_drop]) rfl (by omega) hroom (by rw [objCs_len, HG.out.2.2.2.1])
  rw [hL1] at hfin
  have hlen : (insL l i o).length = n + 1 := by unfold insL; simp; have := HG.out.2.2.2.1; omega
  rw [hlen]
  refine ⟨by rw [objCs_len, hlen], .inr ⟨g, c, (splice L1 (i * 4) (objC o)).toArray, rfl, hbg, Hg2.out, hroom, hcap, ?_, ?_⟩⟩
  · rw [List.size_toArray, length_splice _ _ _ (by rw [hl1, hcll]; simp [objC]; omega), hl1, hcll]
  · show List.take ((n + 1) * 4) (splice L1 (i * 4) (objC o)) = _
    rw [hfin]
    unfold insL
    rw [objCs_app, ← objCs_take, show objCs (o :: l.drop i) = objC o ++ objCs (l.drop i) from rfl, hcs1]
end Go.Proofs.YtdnebgilkfafhaaGreatDoor
namespace Go.Proofs.YtdnebgilkfafhaaGreatDoor
open Go.RowKit
set_option linter.unusedVariables false
set_option linter.unusedSimpArgs false

theorem grow_list (cl X cs Y : List Value) (n i c : Nat) (hc : cl.length = c * 4) (hX : cl.take (i * 4) = X.take (i * 4)) (hcs : cs = X.drop (i * 4)) (hY : Y.length = 4) (hin : i < n) (hr : n + 1 ≤ c) (hXl : X.length = n * 4) :
    (splice (splice cl (i * 4) Y) ((i + 1) * 4) cs).take ((n + 1) * 4) = X.take (i * 4) ++ (Y ++ cs) := by
  have hcl : cs.length = (n - i) * 4 := by rw [hcs, List.length_drop, hXl]; omega
  have h1 : (splice cl (i * 4) Y).take ((i + 1) * 4) = X.take (i * 4) ++ Y := by
    unfold splice
    rw [hX, show X.take (i * 4) ++ (Y ++ cl.drop (i * 4 + Y.length)) = (X.take (i * 4) ++ Y) ++ cl.drop (i * 4 + Y.length) by simp]
    exact List.take_left' (by simp [List.length_take]; omega)
  rw [show splice (splice cl (i * 4) Y) ((i + 1) * 4) cs = (splice cl (i * 4) Y).take ((i + 1) * 4) ++ (cs ++ (splice cl (i * 4) Y).drop ((i + 1) * 4 + cs.length)) from rfl, h1]
  rw [show X.take (i * 4) ++ Y ++ (cs ++ (splice cl (i * 4) Y).drop ((i + 1) * 4 + cs.length)) = (X.take (i * 4) ++ (Y ++ cs)) ++ (splice cl (i * 4) Y).drop ((i + 1) * 4 + cs.length) by simp]
  exact List.take_left' (by simp [List.length_take]; omega)
theorem zeroCells_size (z : Array Value) (n : Nat) (hz : z.size = 4) : (Builtin.zeroCells z n).size = n * 4 := by
  simp [Builtin.zeroCells, hz]
set_option maxRecDepth 100000 in
set_option maxHeartbeats 1000000 in
theorem insert_grow (base : Nat) (A : Option Addr) (n c i : Nat) (l : List Pl.Obj) (o : Pl.Obj) (H : Nat) (w : World) (hl : l.length = n) (hown : w.ownsRow base 49 4 (.slice A n c) n (objCs l)) (hH : w.heap[H]? = some (.cells (objC o).toArray 49 (0, 0))) (hn : n ≤ 2513169434900) (hbase : base ≤ w.heap.size)
    (hin : i < n) (hroom : c < n + 1) :
    Calls Tryz.prog 114 #[.slice A n c, .int .i64 (i : Int), .slice (some ⟨H, 0, none⟩) 1 1] w (InsOut base A w (insL l i o)) := by
  obtain ⟨_, hnc, hc, _⟩ := own_sl hown
  rcases hown.2 with ⟨_, h0⟩ | ⟨g, cap, cur, hv, hbg, hg, hncap, hcap, hcs, htk⟩
  · omega
  injection hv with hA _ hcc
  subst hA hcc
  obtain rfl : c = n := by omega
  have q1 : ((i : Int) == (c : Int)) = false := beq_eq_false_iff_ne.2 (by omega)
  have b0 : (0 : Int) ≤ (i : Int) := by omega
  have b1 : (i : Int) ≤ (c : Int) := by omega
  have b5 : decide ((c : Int) < (c : Int) + 1) = true := decide_eq_true (by omega)
  have s1 : c ≠ i := by omega
  obtain ⟨i0, hi0, hz0, hz1, hz2⟩ := info_parts info_obj
  have hcg : ∀ j, w.cell? ⟨g, j, none⟩ = cur[j]? := fun j => cell_row w g j _ _ hg
  have hold : ∀ j v, ((objCs l).take (i * 4))[j]? = some v → w.cell? ((⟨g, 0, none⟩ : Addr).add j) = some v := by
    intro j v hj
    rw [addr_add, Nat.zero_add, hcg, ← hj, ← htk, List.take_take, Nat.min_eq_left (by omega), List.getElem?_take]
    have hjl : j < i * 4 := by
      rcases Nat.lt_or_ge j (i * 4) with h | h
      · exact h
      · rw [List.getElem?_eq_none (by rw [List.length_take]; omega)] at hj; cases hj
    rw [if_pos hjl]; simp
  have hap := run_append_zeros (P := Tryz.prog) w 23 3 23 49 i0 _ .i64 .i64 Tryz.underlying23 Tryz.underlying3 hi0 hz0 ⟨g, 0, none⟩ i c (c + 1 - i) ((objCs l).take (i * 4)) (by rw [hz1, List.length_take, objCs_len, hl]; omega) hold (by omega) (by omega) (by omega) (by omega) (by rw [hz2]; omega)
  rw [show ((c + 1 - i : Nat) : Int) = (c : Int) + 1 - (i : Int) by omega, show i + (c + 1 - i) = c + 1 by omega] at hap
  obtain ⟨nc, hnc2⟩ : ∃ nc, grownCap w (c + 1) c 49 = nc := ⟨_, rfl⟩
  have hncge : c + 1 ≤ nc := by rw [← hnc2]; exact grownCap_ge w _ _ _
  have hncle : nc ≤ maxLen := by rw [← hnc2]; exact grownCap_le_maxLen w _ _ _ (by unfold maxLen; omega)
  rw [hnc2] at hap
  obtain ⟨C, hC⟩ : ∃ C, ((objCs l).take (i * 4)).toArray ++ Builtin.zeroCells (Value.agg #[.string ⟨#[]⟩, .string ⟨#[]⟩, .string ⟨#[]⟩, .bool false]).cells (c + 1 - i) ++ Builtin.zeroCells (Value.agg #[.string ⟨#[]⟩, .string ⟨#[]⟩, .string ⟨#[]⟩, .bool false]).cells (nc - (c + 1)) = C := ⟨_, rfl⟩
  rw [hC] at hap
  obtain ⟨cl, hcl⟩ : ∃ cl, C = List.toArray cl := ⟨C.toList, by simp⟩
  have hcll : cl.length = nc * 4 := by
    have : C.size = nc * 4 := by
      rw [← hC, Array.size_append, Array.size_append, zeroCells_size _ _ rfl, zeroCells_size _ _ rfl]
      simp [objCs_len, hl]; omega
    rw [hcl] at this; simpa using this
  have hcltk : cl.take (i * 4) = (objCs l).take (i * 4) := by
    have : C.toList.take (i * 4) = (objCs l).take (i * 4) := by
      rw [← hC]
      simp only [Array.toList_append, List.append_assoc]
      exact List.take_left' (by simp [List.length_take, objCs_len, hl]; omega)
    rw [hcl] at this; simpa using this
  subst hcl
  have hgw := lt_of_blk hg
  have hHw := lt_of_blk hH
  obtain ⟨h, hh⟩ : ∃ h, w.heap.size = h := ⟨_, rfl⟩
  obtain ⟨W2, hW2⟩ : ∃ W2, w.drew.alloc (.cells cl.toArray 49) = W2 := ⟨_, rfl⟩
  have k1 : W2.heap[h]? = some (.cells cl.toArray 49 (0, 0)) := by rw [← hW2, ← hh]; exact heap_alloc_new w.drew _
  have k2 : W2.heap[g]? = some (.cells cur 49 (0, 0)) := by rw [← hW2]; exact (Below.heap_alloc w.drew _ g hgw).trans hg
  have k3 : W2.heap[H]? = some (.cells (objC o).toArray 49 (0, 0)) := by rw [← hW2]; exact (Below.heap_alloc w.drew _ H hHw).trans hH
  have k4 : Below base w W2 := by rw [← hW2]; exact ((Below.refl _ _).drew).alloc hbase _
  rw [hW2, hh] at hap
  have hbh : base ≤ h := by omega
  have hgh : g ≠ h := by omega
  have hHh : H ≠ h := by omega
  have hsz : (Tryz.prog.info? 49).map (·.size) = some 4 := by kernel_rfl
  have hsrc2 : ∀ j v, (objC o)[j]? = some v → W2.cell? ((⟨H, 0, none⟩ : Addr).add j) = some v := by
    intro j v hj
    rw [addr_add, Nat.zero_add, cell_row W2 H j _ _ k3]
    simpa using hj
  have hone2 : ∀ v ∈ objC o, v.oneCell' = true := by intro u hu; exact objC_one [o] u (by simpa [objCs] using hu)
  have hcp := run_copy_k (P := Tryz.prog) W2 23 23 3 49 4 h (i * 4) (c + 1 - i) (nc - i) ⟨H, 0, none⟩ 1 1 cl.toArray 49 (objC o) Tryz.underlying23 hsz k1 (by rw [show min 1 (c + 1 - i) = 1 by omega]; rfl) hsrc2 (by rw [List.size_toArray, hcll]; simp [objC]; omega) hone2
  rw [show min ((1 : Nat) : Int) ((c + 1 - i : Nat) : Int) = 1 by omega] at hcp
  obtain ⟨W3, hW3⟩ : ∃ W3, W2.setRow h (cl.toArray.toList.take (i * 4) ++ objC o ++ cl.toArray.toList.drop (i * 4 + (objC o).length)).toArray = W3 := ⟨_, rfl⟩
  have m1 : W3.heap[h]? = some (.cells (splice cl (i * 4) (objC o)).toArray 49 (0, 0)) := by
    rw [← hW3, setRow_heap W2 h _ _ 49 (0, 0) k1]; simp [splice]
  have m2 : W3.heap[g]? = some (.cells cur 49 (0, 0)) := by rw [← hW3, setRow_other W2 h g _ hgh]; exact k2
  have m4 : Below base w W3 := by rw [← hW3]; exact below_setRow k4 hbh _
  have m5 : ∀ b, b < h → W3.heap[b]? = w.heap[b]? := by
    intro b hb
    rw [← hW3, setRow_other W2 h b _ (by omega), ← hW2]
    exact Below.heap_alloc w.drew _ b (by show b < w.heap.size; omega)
  have hhw : w.heap.size ≤ h := by omega
  have HM5 := Lib.hid m5; clear m5
  rw [hW3] at hcp
  obtain ⟨L3, hL3⟩ : ∃ L3, splice cl (i * 4) (objC o) = L3 := ⟨_, rfl⟩
  have hl3 : L3.length = nc * 4 := by rw [← hL3, length_splice _ _ _ (by rw [hcll]; simp [objC]; omega), hcll]
  rw [hL3] at m1
  obtain ⟨cs1, hcs1⟩ : ∃ cs1, objCs (l.drop i) = cs1 := ⟨_, rfl⟩
  have hcs1l : cs1.length = (c - i) * 4 := by rw [← hcs1, objCs_len, List.length_drop, hl]
  have hsrc1 : ∀ j v, cs1[j]? = some v → W3.drew.cell? ((⟨g, i * 4, none⟩ : Addr).add j) = some v := by
    intro j v hj
    rw [addr_add]
    have hjl : j < cs1.length := by
      rcases Nat.lt_or_ge j cs1.length with h | h
      · exact h
      · rw [List.getElem?_eq_none h] at hj; cases hj
    show W3.cell? ⟨g, i * 4 + j, none⟩ = some v
    rw [cell_row W3 g _ _ _ m2, ← hj, ← hcs1, ← objCs_drop, ← htk, List.getElem?_drop, List.getElem?_take, if_pos (by omega)]
    simp
  have hone1 : ∀ v ∈ cs1, v.oneCell' = true := by rw [← hcs1]; exact objC_one _
  have e1 : IntKind.i64.wrap ((i : Int) + 1) = (i : Int) + 1 := IntWalk.i64_in _ (by omega)
  have e2 : ((i : Int) + 1).toNat = i + 1 := by omega
  have e3 : (0 : Int) ≤ (i : Int) + 1 := by omega
  have b3 : (i : Int) + 1 ≤ (c : Int) + 1 := by omega
  have b4 : (i : Int) ≤ (c : Int) + 1 := by omega
  have s2 : nc ≠ i := by omega
  have s3 : nc ≠ i + 1 := by omega
  have hfin := grow_list cl (objCs l) cs1 (objC o) c i nc hcll hcltk (by rw [← hcs1, objCs_drop]) rfl hin hncge (by rw [objCs_len, hl])
  rw [hL3] at hfin
  have HG := Lib.hid (And.intro hap (And.intro hcp (And.intro m1 (And.intro m4 (And.intro hcs1l (And.intro hsrc1 (And.intro hone1 (And.intro hl3 (And.intro hfin (And.intro hsz (And.intro hl hcs1)))))))))))
  have hcp2 := hcp
  clear hap hcp m1 m2 m4 hcs1l hsrc1 hone1 hl3 hfin hsz k1 k2 k3 k4 hsrc2 hone2 hW2 hW3 hL3 hcs1 hcll hcltk hC hold hcg hg hH hcs htk hl hi0 hz0 hz1 hz2 hh hnc2
  go_enter Tryz.func114, Tryz.ntmps114
  go_wp2_with (at_builtin; refine Lib.wpList_append_run _ rfl (.tmp 34) (.tmp 39) 23 3 rfl _ _ rfl rfl _ _ HG.out.1 ?_)
  refine wp_region_held_drew (S := (fun w' => True)) (by kernel_rfl) trivial (fun hHeld => ?_)
  refine tk 0 (v := ?_) rfl ?_ hHeld ?_
  rotate_left
  · (intro w' hSw; (try dsimp only at hSw); go_simp; try with_reducible rfl)
  simp only [Act.put, lay9]
  refine tk 1 (v := ?_) rfl ?_ hHeld ?_
  rotate_left
  · (intro w' hSw; (try dsimp only at hSw); go_simp; try with_reducible rfl)
  simp only [Act.put, lay9]
  refine tk 2 (v := ?_) rfl ?_ hHeld ?_
  rotate_left
  · (intro w' hSw; (try dsimp only at hSw); go_simp; try with_reducible rfl)
  simp only [Act.put, lay9]
  refine tk 3 (v := ?_) rfl ?_ hHeld ?_
  rotate_left
  · (intro w' hSw; (try dsimp only at hSw); go_simp; try with_reducible rfl)
  simp only [Act.put, lay9]
  refine tk 4 (v := ?_) rfl ?_ hHeld ?_
  rotate_left
  · (intro w' hSw; (try dsimp only at hSw); go_simp; try with_reducible rfl)
  simp only [Act.put, lay9]
  refine tk 5 (v := ?_) rfl ?_ hHeld ?_
  rotate_left
  · (intro w' hSw; (try dsimp only at hSw); go_simp; try with_reducible rfl)
  simp only [Act.put, lay9]
  refine tk 6 (v := ?_) rfl ?_ hHeld ?_
  rotate_left
  · (intro w' hSw; (try dsimp only at hSw); go_simp; try with_reducible rfl)
  simp only [Act.put, lay9]
  refine tk 7 (v := ?_) rfl ?_ hHeld ?_
  rotate_left
  · (intro w' hSw; (try dsimp only at hSw); go_simp; try with_reducible rfl)
  simp only [Act.put, lay9]
  refine wpAnyH_ready (rs := [8]) (by kernel_rfl) (by simp) (AllReadyH.cons rfl (fun K hK => ?_) AllReadyH.nil)
  refine copy_step rfl (.tmp 50) (.tmp 53) 23 23 rfl 49 4 Tryz.underlying23 HG.out.2.2.2.2.2.2.2.2.2.1 h ((i + 1) * 4) (c - i) (nc - (i + 1)) ⟨g, i * 4, none⟩ (c - i) (c - i) (by rfl) (by rfl) L3 49 HG.out.2.2.1 cs1 (by rw [Nat.min_self]; exact HG.out.2.2.2.2.1) HG.out.2.2.2.2.2.1 (by rw [HG.out.2.2.2.2.2.2.2.1, HG.out.2.2.2.2.1]; omega) HG.out.2.2.2.2.2.2.1 base w HG.out.2.2.2.1.drew hbh ?_
  intro w4 Hg4 hb4 hsz4 hot4
  refine hK.out _ _ trivial (fun hHeld => ?_)
  clear hK K
  (try simp only [Act.put, lay9])
  refine wpAnyH_done (by kernel_rfl) ?_ _
  go_wp2_with fail
  go_ret
  refine ⟨_, rfl, ?_, hb4, fun b hb hne => (hot4 b (by omega)).trans (HM5.out b (by omega))⟩
  obtain ⟨-, -, -, -, hcs1l, -, -, hl3, hfin, -, hl, hcs1⟩ := HG.out
  have hlen : (insL l i o).length = c + 1 := by unfold insL; simp; omega
  rw [hlen]
  refine ⟨by rw [objCs_len, hlen], .inr ⟨h, nc, (splice L3 ((i + 1) * 4) cs1).toArray, rfl, hbh, Hg4.out, hncge, hncle, ?_, ?_⟩⟩
  · rw [List.size_toArray, length_splice _ _ _ (by rw [hl3, hcs1l]; omega), hl3]
  · show List.take ((c + 1) * 4) (splice L3 ((i + 1) * 4) cs1) = _
    rw [hfin]
    unfold insL
    rw [objCs_app, ← objCs_take, show objCs (o :: l.drop i) = objC o ++ objCs (l.drop i) from rfl, hcs1]
end Go.Proofs.YtdnebgilkfafhaaGreatDoor
namespace Go.Proofs.YtdnebgilkfafhaaGreatDoor
open Go.RowKit
set_option linter.unusedVariables false

theorem set4 (L : List Value) (a : Nat) (v0 v1 v2 v3 : Value) (h : a + 4 ≤ L.length) : (((L.set a v0).set (a + 1) v1).set (a + 2) v2).set (a + 3) v3 = splice L a [v0, v1, v2, v3] := by
  apply List.ext_getElem?
  intro j
  unfold splice
  simp only [List.getElem?_set, List.length_set, List.getElem?_append, List.length_take, List.getElem?_take, List.length_cons, List.length_nil, List.getElem?_drop]
  have hm : min a L.length = a := by omega
  rw [hm]
  by_cases h1 : j < a
  · rw [if_pos h1, if_neg (by omega), if_neg (by omega), if_neg (by omega), if_neg (by omega), if_pos h1]
  · rw [if_neg h1]
    by_cases h2 : j < a + 4
    · obtain rfl | rfl | rfl | rfl : j = a ∨ j = a + 1 ∨ j = a + 2 ∨ j = a + 3 := by omega
      all_goals simp
      all_goals omega
    · rw [if_neg (by omega), if_neg (by omega), if_neg (by omega), if_neg (by omega), if_neg (by omega)]
      congr 1
      omega
theorem take_splice (L Y : List Value) (a m : Nat) (h : a + Y.length ≤ m) (hm : m ≤ L.length) : (splice L a Y).take m = splice (L.take m) a Y := by
  unfold splice
  rw [List.take_append, List.take_append, List.take_take, List.take_take, List.length_take, List.drop_take]
  rw [show min m a = a by omega, show min a m = a by omega, show min a L.length = a by omega, List.take_of_length_le (l := Y) (by omega)]
  congr 3
  omega
theorem objCs_set (l : List Pl.Obj) (i : Nat) (o : Pl.Obj) (hi : i < l.length) : objCs (l.set i o) = splice (objCs l) (i * 4) (objC o) := by
  rw [List.set_eq_take_append_cons_drop, if_pos hi, objCs_app, show objCs (o :: l.drop (i + 1)) = objC o ++ objCs (l.drop (i + 1)) from rfl]
  unfold splice
  rw [objCs_take, show i * 4 + (objC o).length = (i + 1) * 4 by simp [objC]; omega, objCs_drop]
theorem own_obj_set {base n c g : Nat} {l : List Pl.Obj} {w : World} (h : w.ownsRow base 49 4 (.slice (some ⟨g, 0, none⟩) n c) n (objCs l)) (hl : l.length = n) {i : Nat} (hi : i < n) (o : Pl.Obj) :
    ((((w.setCell ⟨g, i * 4, none⟩ (.string ⟨o.name.toArray⟩)).setCell ⟨g, i * 4 + 1, none⟩ (.string ⟨o.data.toArray⟩)).setCell ⟨g, i * 4 + 2, none⟩ (.string ⟨o.was.toArray⟩)).setCell ⟨g, i * 4 + 3, none⟩ (.bool o.had)).ownsRow base 49 4 (.slice (some ⟨g, 0, none⟩) n c) n (objCs (l.set i o)) := by
  rcases h.2 with ⟨h1, -⟩ | ⟨g', cap, cur, h1, h2, h3, h4, h5, h6, h7⟩
  · injection h1 with h1; cases h1
  · injection h1 with h1 _ hc
    injection h1 with h1
    injection h1 with h1 _
    subst h1 hc
    refine ⟨by rw [objCs_len, List.length_set, hl], .inr ⟨g, c, _, rfl, h2, set_at _ _ _ _ _ _ (set_at _ _ _ _ _ _ (set_at _ _ _ _ _ _ (set_at _ _ _ _ _ _ h3))), h4, h5, by simp [h6], ?_⟩⟩
    have hcl : cur.toList.length = c * 4 := by simpa using h6
    have e := set4 cur.toList (i * 4) (.string ⟨o.name.toArray⟩) (.string ⟨o.data.toArray⟩) (.string ⟨o.was.toArray⟩) (.bool o.had) (by omega)
    simp only [Array.toList_setIfInBounds]
    rw [e, take_splice _ _ _ _ (by simp; omega) (by omega), h7, objCs_set l i o (by omega)]
    rfl
end Go.Proofs.YtdnebgilkfafhaaGreatDoor
namespace Go.Proofs.YtdnebgilkfafhaaGreatDoor
open Go.RowKit
set_option linter.unusedVariables false
set_option linter.unusedSimpArgs false

theorem run_append_in {P : Program} (w : World) (t ty e : TypeId) (k : Nat) (ht : P.underlying t = some (.slice e)) (hsz : (P.info? e).map (·.size) = some k) (g sLen sCap : Nat) (ad : Addr) (n c : Nat) (cur : Array Value) (t' : TypeId) (cs : List Value)
    (hg : w.heap[g]? = some (.cells cur t' (0, 0))) (hn : cs.length = n * k) (hsrc : ∀ j v, cs[j]? = some v → w.cell? (ad.add j) = some v) (hfit : sLen * k + cs.length ≤ cur.size) (h1 : ∀ v ∈ cs, v.oneCell' = true) (hroom : sLen + n ≤ sCap) :
    (Builtin.append_ #[t, t] ty #[.slice (some ⟨g, 0, none⟩) sLen sCap, .slice (some ad) n c]).run P w = .ok (.slice (some ⟨g, 0, none⟩) (sLen + n) sCap) (w.setRow g (cur.toList.take (sLen * k) ++ cs ++ cur.toList.drop (sLen * k + cs.length)).toArray) := by
  have hst := run_storeCells_at P g (sLen * k) t' cs 0 cur w hg (by simpa using hfit) h1
  simp only [Nat.add_zero] at hst
  have hfc := run_firstCells_some (P := P) w k n ad n c cs hn hsrc
  have hadd : (⟨g, 0, none⟩ : Addr).add (sLen * k) = ⟨g, sLen * k, none⟩ := by rw [addr_add, Nat.zero_add]
  cases hq : P.info? e with
  | none => simp [hq] at hsz
  | some i =>
    have hi : i.size = k := by simpa [hq] using hsz
    simp [Builtin.append_, run_underlying ht, sizeOf, typeInfo, hq, hi, Builtin.lenOf, hroom, hfc, hadd, hst]
theorem run_clear1 {P : Program} (w : World) (t ty e : TypeId) (i : TypeInfo) (z : Value) (ht : P.underlying t = some (.slice e)) (hi : P.info? e = some i) (hz : i.zero = some z) (g off c : Nat) (cur : Array Value) (t' : TypeId)
    (hg : w.heap[g]? = some (.cells cur t' (0, 0))) (hfit : off + (Builtin.zeroCells z.cells 1).size ≤ cur.size) (h1 : ∀ v ∈ (Builtin.zeroCells z.cells 1).toList, v.oneCell' = true) :
    (Builtin.clear_ #[t] ty #[.slice (some ⟨g, off, none⟩) 1 c]).run P w = .ok (.tuple #[]) (w.setRow g (cur.toList.take off ++ (Builtin.zeroCells z.cells 1).toList ++ cur.toList.drop (off + (Builtin.zeroCells z.cells 1).toList.length)).toArray) := by
  have hst := run_storeCells_at P g off t' (Builtin.zeroCells z.cells 1).toList 0 cur w hg (by simpa using hfit) h1
  simp only [Nat.add_zero] at hst
  simp [Builtin.clear_, run_underlying ht, zeroValue, typeInfo, hi, hz, hst]
/-- The list without one. -/
def delL (l : List Pl.Obj) (i : Nat) : List Pl.Obj := l.take i ++ l.drop (i + 1)
theorem step_append_run {P : Program} {ops : Array Oper} {o : Oper} {a : Act} {w : World} {K : Act → World → Prop} {Q : Exit → Act → World → Prop} {E : Prop} (hgd : o.guard = none) (s x : Operand) (t tn : TypeId)
    (ho : o.op = .call { callee := .builtin .append, args := #[s, x], argTypes := #[t, tn] }) (vs vx : Value) (hs : a.eval s = vs) (hx : a.eval x = vx)
    (v' : Value) (w' : World) (hr : (Builtin.append_ #[t, tn] o.type #[vs, vx]).run P w = .ok v' w') (h : K (a.put o.dst v') w') :
    if Region.wanted o (yielded ops a.tmps) = true then Oper.wp P o a w K Q else E := by
  rw [if_pos (by simp [Region.wanted, hgd])]
  exact Lib.wp_append_run w s x t tn ho vs vx hs hx v' w' hr h
theorem del_list (cl X Z : List Value) (n i c : Nat) (hc : cl.length = c * 4) (hX : cl.take (n * 4) = X) (hin : i < n) (hr : n ≤ c) (hXl : X.length = n * 4) (hZ : Z.length = 4) :
    (splice (splice cl (i * 4) (X.drop ((i + 1) * 4))) ((n - 1) * 4) Z).take ((n - 1) * 4) = X.take (i * 4) ++ X.drop ((i + 1) * 4) := by
  have hdl : (X.drop ((i + 1) * 4)).length = (n - 1 - i) * 4 := by rw [List.length_drop, hXl]; omega
  have hP : cl.take (i * 4) = X.take (i * 4) := by rw [← hX, List.take_take, Nat.min_eq_left (by omega)]
  have h1 : (splice cl (i * 4) (X.drop ((i + 1) * 4))).take ((n - 1) * 4) = X.take (i * 4) ++ X.drop ((i + 1) * 4) := by
    unfold splice
    rw [hP, show X.take (i * 4) ++ (X.drop ((i + 1) * 4) ++ cl.drop (i * 4 + (X.drop ((i + 1) * 4)).length)) = (X.take (i * 4) ++ X.drop ((i + 1) * 4)) ++ cl.drop (i * 4 + (X.drop ((i + 1) * 4)).length) by simp]
    exact List.take_left' (by rw [List.length_append, List.length_take, hdl, hXl]; omega)
  rw [show splice (splice cl (i * 4) (X.drop ((i + 1) * 4))) ((n - 1) * 4) Z = (splice cl (i * 4) (X.drop ((i + 1) * 4))).take ((n - 1) * 4) ++ (Z ++ (splice cl (i * 4) (X.drop ((i + 1) * 4))).drop ((n - 1) * 4 + Z.length)) from rfl, h1]
  exact List.take_left' (by rw [List.length_append, List.length_take, hdl, hXl]; omega)
set_option maxRecDepth 100000 in
set_option maxHeartbeats 1000000 in
theorem delete_any (base : Nat) (A : Option Addr) (n c i : Nat) (l : List Pl.Obj) (w : World) (hl : l.length = n) (hown : w.ownsRow base 49 4 (.slice A n c) n (objCs l)) (hn : n ≤ 2513169434900) (hin : i < n) :
    Calls Tryz.prog 88 #[.slice A n c, .int .i64 (i : Int), .int .i64 ((i : Int) + 1)] w (InsOut base A w (delL l i)) := by
  obtain ⟨_, hnc, hc, _⟩ := own_sl hown
  rcases hown.2 with ⟨_, h0⟩ | ⟨g, cap, cur, hv, hbg, hg, hncap, hcap, hcs, htk⟩
  · omega
  injection hv with hA _ hcc
  subst hA hcc
  obtain ⟨i0, hi0, hz0, hz1, hz2⟩ := info_parts info_obj
  have hsz : (Tryz.prog.info? 49).map (·.size) = some 4 := by kernel_rfl
  obtain ⟨cl, hcl⟩ : ∃ cl, cur = List.toArray cl := ⟨cur.toList, by simp⟩
  subst hcl
  have hcll : cl.length = c * 4 := by simpa using hcs
  have htkl : cl.take (n * 4) = objCs l := by simpa using htk
  obtain ⟨cs1, hcs1⟩ : ∃ cs1, (objCs l).drop ((i + 1) * 4) = cs1 := ⟨_, rfl⟩
  have hcs1l : cs1.length = (n - (i + 1)) * 4 := by rw [← hcs1, List.length_drop, objCs_len, hl]; omega
  have hone1 : ∀ v ∈ cs1, v.oneCell' = true := by rw [← hcs1, objCs_drop]; exact objC_one _
  have hsrc1 : ∀ j v, cs1[j]? = some v → w.cell? ((⟨g, (i + 1) * 4, none⟩ : Addr).add j) = some v := by
    intro j v hj
    rw [addr_add]
    have hjl : j < cs1.length := by
      rcases Nat.lt_or_ge j cs1.length with h | h
      · exact h
      · rw [List.getElem?_eq_none h] at hj; cases hj
    have h2 : w.cell? ⟨g, (i + 1) * 4 + j, none⟩ = cl[(i + 1) * 4 + j]? := by rw [cell_row w g _ _ _ hg]; simp
    rw [h2, ← hj, ← hcs1, ← htkl, List.getElem?_drop, List.getElem?_take, if_pos (by omega)]
  obtain ⟨W2, hW2⟩ : ∃ W2, w.drew.setRow g (cl.toArray.toList.take (i * 4) ++ cs1 ++ cl.toArray.toList.drop (i * 4 + cs1.length)).toArray = W2 := ⟨_, rfl⟩
  have hap : ∀ ad, (cs1.length = 0 ∨ ad = ⟨g, (i + 1) * 4, none⟩) → ∀ cc, (Builtin.append_ #[23, 23] 23 #[.slice (some ⟨g, 0, none⟩) i c, .slice (some ad) (n - (i + 1)) cc]).run Tryz.prog w.drew = .ok (.slice (some ⟨g, 0, none⟩) (n - 1) c) W2 := by
    intro ad had cc
    have := run_append_in (P := Tryz.prog) w.drew 23 23 49 4 Tryz.underlying23 hsz g i c ad (n - (i + 1)) cc cl.toArray 49 cs1 hg hcs1l (by
      intro j v hj
      rcases had with h | h
      · rw [List.getElem?_eq_none (by omega)] at hj; cases hj
      · rw [h]; exact hsrc1 j v hj) (by rw [List.size_toArray, hcll, hcs1l]; omega) hone1 (by omega)
    rw [hW2, show i + (n - (i + 1)) = n - 1 by omega] at this
    exact this
  have m1 : W2.heap[g]? = some (.cells (splice cl (i * 4) cs1).toArray 49 (0, 0)) := by
    rw [← hW2, setRow_heap w.drew g _ _ 49 (0, 0) hg]; simp [splice]
  have m4 : Below base w W2 := by rw [← hW2]; exact below_setRow ((Below.refl _ _).drew) hbg _
  obtain ⟨L2, hL2⟩ : ∃ L2, splice cl (i * 4) cs1 = L2 := ⟨_, rfl⟩
  have hl2 : L2.length = c * 4 := by rw [← hL2, length_splice _ _ _ (by rw [hcll, hcs1l]; omega), hcll]
  rw [hL2] at m1
  obtain ⟨Z, hZ⟩ : ∃ Z, (Builtin.zeroCells (Value.agg #[.string ⟨#[]⟩, .string ⟨#[]⟩, .string ⟨#[]⟩, .bool false]).cells 1) = Z := ⟨_, rfl⟩
  have hZ4 : Z.size = 4 := by rw [← hZ]; exact zeroCells_size _ 1 rfl
  have hZ1 : ∀ v ∈ Z.toList, v.oneCell' = true := by rw [← hZ]; decide +kernel
  have hclr := run_clear1 (P := Tryz.prog) W2 23 0 49 i0 _ Tryz.underlying23 hi0 hz0 g ((n - 1) * 4) (c - (n - 1)) L2.toArray 49 m1 (by rw [hZ, hZ4, List.size_toArray, hl2]; omega) (by rw [hZ]; exact hZ1)
  rw [hZ] at hclr
  obtain ⟨W3, hW3⟩ : ∃ W3, W2.setRow g (L2.toArray.toList.take ((n - 1) * 4) ++ Z.toList ++ L2.toArray.toList.drop ((n - 1) * 4 + Z.toList.length)).toArray = W3 := ⟨_, rfl⟩
  have r1 : W3.heap[g]? = some (.cells (splice L2 ((n - 1) * 4) Z.toList).toArray 49 (0, 0)) := by
    rw [← hW3, setRow_heap W2 g _ _ 49 (0, 0) m1]; simp [splice]
  have r4 : Below base w W3 := by rw [← hW3]; exact below_setRow m4 hbg _
  have r5 : ∀ b, b ≠ g → W3.heap[b]? = w.heap[b]? := by
    intro b hb
    rw [← hW3, setRow_other W2 g b _ hb, ← hW2, setRow_other w.drew g b _ hb]
    rfl
  have HR5 := Lib.hid r5; clear r5
  rw [hW3] at hclr
  have hfin := del_list cl (objCs l) Z.toList n i c hcll htkl hin hnc (by rw [objCs_len, hl]) (by simpa using hZ4)
  rw [hcs1, hL2] at hfin
  have q1 : ((i : Int) == (i : Int) + 1) = false := beq_eq_false_iff_ne.2 (by omega)
  have b0 : (0 : Int) ≤ (i : Int) := by omega
  have b1 : (i : Int) ≤ (i : Int) + 1 := by omega
  have b2 : (i : Int) + 1 ≤ (n : Int) := by omega
  have b3 : (n : Int) ≤ (c : Int) := by omega
  have b4 : (0 : Int) ≤ (i : Int) + 1 := by omega
  have e2 : ((i : Int) + 1).toNat = i + 1 := by omega
  have b6 : i ≤ c := by omega
  have b7 : i + 1 ≤ n := by omega
  have HG := Lib.hid (And.intro hap (And.intro r1 (And.intro hfin (And.intro hl2 (And.intro hZ4 (And.intro hl (And.intro hcs1 hcs1l)))))))
  clear hap r1 hfin hl2 hZ4 hl hcs1 hcs1l m1 m4 hW2 hW3 hL2 hZ hZ1 hsrc1 hone1 hcll htkl hg hcs htk hi0 hz0 hz1 hz2 hsz
  by_cases hci : c = i + 1
  · obtain rfl : n = i + 1 := by omega
    subst hci
    have hap0 := HG.out.1 ⟨g, 0, none⟩ (.inl (by rw [HG.out.2.2.2.2.2.2.2]; omega)) 0
    rw [Nat.sub_self, Nat.add_sub_cancel] at hap0
    rw [Nat.add_sub_cancel, Nat.add_sub_cancel_left] at hclr
    have HA := Lib.hid hap0; clear hap0
    go_enter Tryz.func88, Tryz.ntmps88
    go_wp2_with fail
    refine wp_region_held_drew (S := (fun w' => True)) (by kernel_rfl) trivial (fun hHeld => ?_)
    refine tk 0 (v := ?_) rfl ?_ hHeld ?_
    rotate_left
    · (intro w' hSw; (try dsimp only at hSw); go_simp; try with_reducible rfl)
    simp only [Act.put, lay9]
    refine tk 1 (v := ?_) rfl ?_ hHeld ?_
    rotate_left
    · (intro w' hSw; (try dsimp only at hSw); go_simp; try with_reducible rfl)
    simp only [Act.put, lay9]
    refine tk 2 (v := ?_) rfl ?_ hHeld ?_
    rotate_left
    · (intro w' hSw; (try dsimp only at hSw); go_simp; try with_reducible rfl)
    simp only [Act.put, lay9]
    refine tk 3 (v := ?_) rfl ?_ hHeld ?_
    rotate_left
    · (intro w' hSw; (try dsimp only at hSw); go_simp; try with_reducible rfl)
    simp only [Act.put, lay9]
    refine tk 4 (v := ?_) rfl ?_ hHeld ?_
    rotate_left
    · (intro w' hSw; (try dsimp only at hSw); go_simp; try with_reducible rfl)
    simp only [Act.put, lay9]
    refine tk 5 (v := ?_) rfl ?_ hHeld ?_
    rotate_left
    · (intro w' hSw; (try dsimp only at hSw); go_simp; try with_reducible rfl)
    simp only [Act.put, lay9]
    refine wpAnyH_ready (rs := [6]) (by kernel_rfl) (by simp) (AllReadyH.cons rfl (fun K hK => ?_) AllReadyH.nil)
    refine step_append_run rfl (.tmp 22) (.tmp 25) 23 23 rfl _ _ (by rfl) (by rfl) _ _ HA.out ?_
    refine hK.out _ _ trivial (fun hHeld => ?_)
    clear hK K
    (try simp only [Act.put, lay9])
    refine tk 7 (v := ?_) rfl ?_ hHeld ?_
    rotate_left
    · (intro w' hSw; (try dsimp only at hSw); go_simp; try with_reducible rfl)
    simp only [Act.put, lay9]
    refine wpAnyH_done (by kernel_rfl) ?_ _
    have j1 : i ≤ i + 1 := by omega
    have j2 : ((i : Nat) : Int) ≤ ((i + 1 : Nat) : Int) := by omega
    have j3 : (0 : Int) ≤ ((i : Nat) : Int) := by omega
    have j4 : i + 1 - (i) = 1 := by omega
    have j5 : i + 1 ≠ i := by omega
    go_wp2_with fail
    go_ret
    refine ⟨_, rfl, ?_, r4, fun b hb hne => HR5.out b (by rintro rfl; exact hne rfl)⟩
    obtain ⟨-, r1, hfin, hl2, hZ4, hl, hcs1, hcs1l⟩ := HG.out
    rw [Nat.add_sub_cancel] at r1 hfin
    have hlen : (delL l i).length = i := by unfold delL; simp; omega
    rw [hlen]
    refine ⟨by rw [objCs_len, hlen], .inr ⟨g, i + 1, (splice L2 ((i) * 4) Z.toList).toArray, rfl, hbg, r1, by omega, hcap, ?_, ?_⟩⟩
    · rw [List.size_toArray, length_splice _ _ _ (by rw [hl2]; simp [hZ4]; omega), hl2]
    · show List.take ((i) * 4) (splice L2 ((i) * 4) Z.toList) = _
      rw [hfin]
      unfold delL
      rw [objCs_app, ← objCs_take, ← objCs_drop, hcs1]
  · have hci2 : c ≠ i + 1 := hci
    go_enter Tryz.func88, Tryz.ntmps88
    go_wp2_with fail
    refine wp_region_held_drew (S := (fun w' => True)) (by kernel_rfl) trivial (fun hHeld => ?_)
    refine tk 0 (v := ?_) rfl ?_ hHeld ?_
    rotate_left
    · (intro w' hSw; (try dsimp only at hSw); go_simp; try with_reducible rfl)
    simp only [Act.put, lay9]
    refine tk 1 (v := ?_) rfl ?_ hHeld ?_
    rotate_left
    · (intro w' hSw; (try dsimp only at hSw); go_simp; try with_reducible rfl)
    simp only [Act.put, lay9]
    refine tk 2 (v := ?_) rfl ?_ hHeld ?_
    rotate_left
    · (intro w' hSw; (try dsimp only at hSw); go_simp; try with_reducible rfl)
    simp only [Act.put, lay9]
    refine tk 3 (v := ?_) rfl ?_ hHeld ?_
    rotate_left
    · (intro w' hSw; (try dsimp only at hSw); go_simp; try with_reducible rfl)
    simp only [Act.put, lay9]
    refine tk 4 (v := ?_) rfl ?_ hHeld ?_
    rotate_left
    · (intro w' hSw; (try dsimp only at hSw); go_simp; try with_reducible rfl)
    simp only [Act.put, lay9]
    refine tk 5 (v := ?_) rfl ?_ hHeld ?_
    rotate_left
    · (intro w' hSw; (try dsimp only at hSw); go_simp; try with_reducible rfl)
    simp only [Act.put, lay9]
    refine wpAnyH_ready (rs := [6]) (by kernel_rfl) (by simp) (AllReadyH.cons rfl (fun K hK => ?_) AllReadyH.nil)
    refine step_append_run rfl (.tmp 22) (.tmp 25) 23 23 rfl _ _ (by rfl) (by rfl) _ _ (HG.out.1 ⟨g, (i + 1) * 4, none⟩ (.inr rfl) (c - (i + 1))) ?_
    refine hK.out _ _ trivial (fun hHeld => ?_)
    clear hK K
    (try simp only [Act.put, lay9])
    refine tk 7 (v := ?_) rfl ?_ hHeld ?_
    rotate_left
    · (intro w' hSw; (try dsimp only at hSw); go_simp; try with_reducible rfl)
    simp only [Act.put, lay9]
    refine wpAnyH_done (by kernel_rfl) ?_ _
    have j1 : n - 1 ≤ n := by omega
    have j2 : ((n - 1 : Nat) : Int) ≤ (n : Int) := by omega
    have j3 : (0 : Int) ≤ ((n - 1 : Nat) : Int) := by omega
    have j4 : n - (n - 1) = 1 := by omega
    have j5 : c ≠ n - 1 := by omega
    go_wp2_with fail
    go_ret
    refine ⟨_, rfl, ?_, r4, fun b hb hne => HR5.out b (by rintro rfl; exact hne rfl)⟩
    obtain ⟨-, r1, hfin, hl2, hZ4, hl, hcs1, hcs1l⟩ := HG.out
    have hlen : (delL l i).length = n - 1 := by unfold delL; simp; omega
    rw [hlen]
    refine ⟨by rw [objCs_len, hlen], .inr ⟨g, c, (splice L2 ((n - 1) * 4) Z.toList).toArray, rfl, hbg, r1, by omega, hcap, ?_, ?_⟩⟩
    · rw [List.size_toArray, length_splice _ _ _ (by rw [hl2]; simp [hZ4]; omega), hl2]
    · show List.take ((n - 1) * 4) (splice L2 ((n - 1) * 4) Z.toList) = _
      rw [hfin]
      unfold delL
      rw [objCs_app, ← objCs_take, ← objCs_drop, hcs1]
end Go.Proofs.YtdnebgilkfafhaaGreatDoor
