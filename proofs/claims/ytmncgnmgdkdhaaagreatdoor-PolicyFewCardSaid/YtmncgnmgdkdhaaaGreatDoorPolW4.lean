/- slices.SortFunc at the places of a list of snapshots, by the order's closure. -/
import Derived.Test.YtmncgnmgdkdhaaaGreatDoorPolW2
import Derived.Test.YtmncgnmgdkdhaaaGreatDoorLibG
namespace Go.Proofs.YtmncgnmgdkdhaaaGreatDoor
open Go.RowKit Go.Sort
set_option linter.unusedVariables false
theorem putRow_heap_far {α : Type} [Inhabited α] (enc : α → Value) (w : World) (blk off : Nat) (d : Array α) (k : Nat) (h : k ≠ blk) : (putRow enc w blk off d).heap[k]? = w.heap[k]? := by
  simp only [putRow, mapBlock, Array.getElem?_modify]
  rw [if_neg (Ne.symm h)]
theorem putRow_size {α : Type} [Inhabited α] (enc : α → Value) (w : World) (blk off : Nat) (d : Array α) : (putRow enc w blk off d).heap.size = w.heap.size := by
  simp [putRow, mapBlock]
theorem sortWorld_cell {α : Type} [Inhabited α] (enc : α → Value) (w : World) (blk off m : Nat) (dk : Array α) (os : Array Obj) (a : Addr) (ha : a.block < w.heap.size) (hne : a.block ≠ blk) : (sortWorld enc w blk off m dk os).cell? a = w.cell? a := by
  unfold sortWorld
  rw [cell?_grow _ _ _ (by rw [putRow_size]; exact ha), cell?_putRow_other _ _ _ _ _ _ (.inl hne)]; rfl
theorem sortWorld_grown {α : Type} [Inhabited α] (enc : α → Value) (w : World) (blk off m : Nat) (dk : Array α) (os : Array Obj) : w.grownBy (sortWorld enc w blk off m dk os) (some blk) := by
  refine ⟨rfl, rfl, rfl, ?_, fun k hk hne => ?_⟩
  · unfold sortWorld; rw [size_grow, putRow_size]; exact Nat.le_add_right _ _
  · unfold sortWorld
    rw [heap_grow_old _ _ (by rw [putRow_size]; exact hk), putRow_heap_far _ _ _ _ _ _ (fun e => hne (by rw [e]))]; rfl
theorem fin_get! {n : Nat} [Inhabited (Fin n)] (d : Array (Fin n)) (j : Nat) (h : j < d.size) : d[j]! = d[j] := getElem!_pos d j h
theorem sort_any (l : List Pl.Rf) (n : Nat) (hl : l.length = n) (hn0 : 0 < n) (hn : n ≤ 1000000) (B b off c ob cap : Nat) (w : World) (hhead : w.cell? ⟨B, 0, none⟩ = some (.slice (some ⟨b, off, none⟩) n c)) (hr : Rd w 5 (some ⟨b, off, none⟩) n (rfCs l))
    (hBo : B ≠ ob) (hbo : b ≠ ob) (hord : ∀ q, q < n → w.cell? ⟨ob, q, none⟩ = some (.int .i64 (q : Int)) ∧ w.frozen? ⟨ob, q, none⟩ = false) (hob : ob < w.heap.size) :
    Calls Tryz.prog 29 #[.slice (some ⟨ob, 0, none⟩) n cap, .func (.func 46) #[] #[.pointer (some ⟨B, 0, none⟩)]] w (fun e w' => e = .returned (.tuple #[]) ∧ ∃ o, Pl.Ord l o ∧ w.grownBy w' (some ob) ∧ ∀ q, q < n → w'.cell? ⟨ob, q, none⟩ = some (.int .i64 ((o.getD q 0 : Nat) : Int))) := by
  subst hl
  haveI : Inhabited (Fin l.length) := ⟨⟨0, hn0⟩⟩
  have hB : B < w.heap.size := World.block_lt_of_cell? w ⟨B, 0, none⟩ hhead
  obtain ⟨enc, henc⟩ : ∃ enc : Fin l.length → Value, enc = fun i => .int .i64 (i.val : Int) := ⟨_, rfl⟩
  obtain ⟨d, hd⟩ : ∃ d : Array (Fin l.length), d = (List.finRange l.length).toArray := ⟨_, rfl⟩
  have hds : d.size = l.length := by rw [hd]; simp
  have hdg : ∀ j (h : j < d.size), (d[j]).val = j := by intro j h; subst hd; simp
  have eg : ∀ args w, (callFunc 46 args).run Tryz.prog w = .ok (.enter 46 args) w := enters_of Tryz.func46 (by kernel_rfl) rfl
  have hH : Holds enc w ob 0 d := by
    intro j hj
    rw [fin_get! d j hj, henc]
    simp only [hdg j hj, Nat.zero_add]
    exact hord j (by omega)
  have hcmp : CmpLays1 Tryz.prog 46 #[.pointer (some ⟨B, 0, none⟩)] enc (Pl.cfR l) ob 0 d.size w := by
    intro m os dk hdk x y
    have hx := x.isLt
    have hy := y.isLt
    have hc := fun (a : Addr) (ha : a.block < w.heap.size) (hne : a.block ≠ ob) => sortWorld_cell enc w ob 0 m dk os a ha hne
    obtain ⟨b1, o1, e1, hbw, hrx⟩ := hr.rf rfl hx
    injection e1 with e1
    injection e1 with e1 e2
    subst e1 e2
    obtain ⟨b1, o1, e1, -, hry⟩ := hr.rf rfl hy
    injection e1 with e1
    injection e1 with e1 e2
    subst e1 e2
    obtain ⟨x0, x1, x2, -, -⟩ := hrx _ (Pl.getD_fin l x)
    obtain ⟨y0, y1, y2, -, -⟩ := hry _ (Pl.getD_fin l y)
    have h := later1_any B b off l.length c x.val y.val l[x] l[y] (sortWorld enc w ob 0 m dk os) hx hy (by omega)
      ⟨(hc _ hB hBo).trans hhead, (hc _ hbw hbo).trans x0, (hc _ hbw hbo).trans x1, (hc _ hbw hbo).trans x2, (hc _ hbw hbo).trans y0, (hc _ hbw hbo).trans y1, (hc _ hbw hbo).trans y2⟩
    subst henc
    exact h
  have hcon := Any.slices_SortFunc Tryz.sortI enc (fun x => by rw [henc]; rfl) (Pl.cfR l) (Pl.cfR_swo l) 46 #[.pointer (some ⟨B, 0, none⟩)] ob 0 cap d w eg hcmp hH hob (by omega)
  rw [hds] at hcon
  change Calls Tryz.prog 29 _ _ _ at hcon
  refine hcon.mono ?_
  rintro e w' ⟨rfl, d', m, os, hp, hs, rfl⟩
  have hsz : d'.size = l.length := by rw [hp.1, hds]
  refine ⟨rfl, d'.toList.map Fin.val, Pl.ord_of d'.toList ?_ ?_, sortWorld_grown enc w ob 0 m d' os, ?_⟩
  · have h := hp.2.2
    rw [Array.extract_eq_self_of_le (by omega), Array.extract_eq_self_of_le (by omega)] at h
    rw [hd] at h
    simpa using h
  · rw [List.pairwise_iff_getElem]
    intro i j hi hj hij
    have hi' : i < d'.size := by simpa using hi
    have hj' : j < d'.size := by simpa using hj
    have h := hs i j (Nat.zero_le _) hij (by omega)
    rw [fin_get! d' i hi', fin_get! d' j hj'] at h
    rw [Array.getElem_toList, Array.getElem_toList]
    exact of_decide_eq_false h
  · intro q hq
    have hH2 : Holds enc (sortWorld enc w ob 0 m d' os) ob 0 d' := by
      unfold sortWorld
      refine holds_grow _ _ _ _ _ _ (by rw [putRow_size]; exact hob) ?_
      exact holds_putRow enc (Go.Sort.ahead w m) ob 0 d d' hH (by omega)
    have h := (hH2 q (by omega)).1
    rw [fin_get! d' q (by omega), Nat.zero_add] at h
    rw [h, henc]
    simp only [List.getD_eq_getElem?_getD, List.getElem?_map]
    rw [Array.getElem?_toList, Array.getElem?_eq_getElem (by omega)]
    rfl
end Go.Proofs.YtmncgnmgdkdhaaaGreatDoor
