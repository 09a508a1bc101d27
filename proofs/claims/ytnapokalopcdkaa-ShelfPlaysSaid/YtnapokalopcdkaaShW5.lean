/- The walks of slices.Clone at api.Obj and at int, and of shelf.copied. -/
import Derived.Test.YtnapokalopcdkaaShW4
namespace Go.Proofs.Ytnapokalopcdkaa
open Go.RowKit
set_option linter.unusedVariables false
set_option linter.unusedSimpArgs false

theorem own_form {base : Nat} {e : TypeId} {k n : Nat} {v : Value} {xs : List Value} {w : World} (h : w.ownsRow base e k v n xs) : ∃ A c, v = .slice A n c := by
  rcases h.2 with ⟨rfl, rfl⟩ | ⟨g, cap, cur, rfl, _⟩
  · exact ⟨_, _, rfl⟩
  · exact ⟨_, _, rfl⟩
theorem own_at {base : Nat} {e : TypeId} {k n : Nat} {v : Value} {xs : List Value} {w : World} (h : w.ownsRow base e k v n xs): ∃ A c, v = .slice A n c ∧ SlAt w k A n c xs := by
  rcases h.2 with ⟨rfl, rfl⟩ | ⟨g, cap, cur, rfl, h1, h2, h3, h4, -⟩
  · exact ⟨none, 0, rfl, Rd.own h, by omega, by omega, fun _ => rfl⟩
  · exact ⟨_, cap, rfl, Rd.own h, h3, h4, fun e => by cases e⟩
theorem info_obj : (Try.prog.info? 50).map (fun i => (i.zero, i.size, i.bytes)) = some (some (.agg #[.string ⟨#[]⟩, .string ⟨#[]⟩, .string ⟨#[]⟩, .bool false]), 4, 56) := by kernel_rfl
theorem info_int : (Try.prog.info? 3).map (fun i => (i.zero, i.size, i.bytes)) = some (some (.int .i64 0), 1, 8) := by kernel_rfl
theorem objC_one (l : List Pl.Obj) : ∀ u ∈ objCs l, u.oneCell' = true := by
  intro u hu
  simp only [objCs, List.mem_flatMap] at hu
  obtain ⟨o, _, ho⟩ := hu
  simp only [objC, List.mem_cons, List.not_mem_nil, or_false] at ho
  rcases ho with rfl | rfl | rfl | rfl <;> rfl
theorem ints_one (l : List Int) : ∀ u ∈ ints l, u.oneCell' = true := by
  intro u hu
  obtain ⟨x, _, rfl⟩ := List.mem_map.1 hu
  rfl
set_option maxRecDepth 100000 in
set_option maxHeartbeats 1000000 in
theorem cloneO_any (A : Option Addr) (n c : Nat) (l : List Pl.Obj) (w : World) (hl : l.length = n) (hr : SlAt w 4 A n c (objCs l)) (hn : n ≤ 1000000) :
    Calls Try.prog 37 #[.slice A n c] w (RetB (fun v w' => w'.ownsRow w.heap.size 50 4 v n (objCs l)) w) := by
  obtain ⟨hr, hnc, hc, hnil⟩ := hr
  have hq := fun (w : World) (a : Option Addr) (n c : Nat) => Lib.run_eql_slice_nil (P := Try.prog) w 22 50 a n c 0 0 Try.underlying22
  cases A with
  | none =>
    have hc0 := hnil rfl
    subst hc0
    have hn0 : n = 0 := by omega
    subst hn0
    obtain rfl : l = [] := List.eq_nil_of_length_eq_zero hl
    clear hl hnil
    go_enter Try.func37, Try.ntmps37
    go_wp2_with fail
    go_ret
    exact ⟨_, rfl, ⟨rfl, .inl ⟨rfl, rfl⟩⟩, Below.refl _ _⟩
  | some a =>
    clear hnil
    have HI := Lib.hid (And.intro info_obj hl); clear hl
    have he0 : (w.alloc (.cells #[] 50)).ownsRow w.heap.size 50 4 (.slice (some ⟨w.heap.size, 0, none⟩) 0 0) 0 [] :=
      ⟨rfl, .inr ⟨w.heap.size, 0, #[], rfl, Nat.le_refl _, heap_alloc_new w _, by omega, by simp, rfl, rfl⟩⟩
    have hr0 := hr.alloc (.cells #[] 50)
    go_enter Try.func37, Try.ntmps37
    go_wp2_with (at_builtin; refine push_many rfl (.tmp 5) (.tmp 6) 22 rfl w.heap.size 50 _ 4 56 Try.underlying22 HI.out.1 rfl (by omega) _ _ _ _ _ _ _ _ rfl he0 rfl hr0 (fun e => by cases e) (objC_one l) (by omega) (by omega) (by simp) ?_; intro v2 w2 hown2 hb2)
    go_ret
    refine ⟨_, rfl, ?_, ((Below.refl _ _).alloc (Nat.le_refl _) _).trans hb2⟩
    simpa using hown2
set_option maxRecDepth 100000 in
set_option maxHeartbeats 1000000 in
theorem cloneI_any (A : Option Addr) (n c : Nat) (l : List Int) (w : World) (hl : l.length = n) (hr : SlAt w 1 A n c (ints l)) (hn : n ≤ 1000000) :
    Calls Try.prog 38 #[.slice A n c] w (RetB (fun v w' => w'.ownsRow w.heap.size 3 1 v n (ints l)) w) := by
  obtain ⟨hr, hnc, hc, hnil⟩ := hr
  have hq := fun (w : World) (a : Option Addr) (n c : Nat) => Lib.run_eql_slice_nil (P := Try.prog) w 23 3 a n c 0 0 Try.underlying23
  cases A with
  | none =>
    have hc0 := hnil rfl
    subst hc0
    have hn0 : n = 0 := by omega
    subst hn0
    obtain rfl : l = [] := List.eq_nil_of_length_eq_zero hl
    clear hl hnil
    go_enter Try.func38, Try.ntmps38
    go_wp2_with fail
    go_ret
    exact ⟨_, rfl, ⟨rfl, .inl ⟨rfl, rfl⟩⟩, Below.refl _ _⟩
  | some a =>
    clear hnil
    have HI := Lib.hid (And.intro info_int hl); clear hl
    have he0 : (w.alloc (.cells #[] 3)).ownsRow w.heap.size 3 1 (.slice (some ⟨w.heap.size, 0, none⟩) 0 0) 0 [] :=
      ⟨rfl, .inr ⟨w.heap.size, 0, #[], rfl, Nat.le_refl _, heap_alloc_new w _, by omega, by simp, rfl, rfl⟩⟩
    have hr0 := hr.alloc (.cells #[] 3)
    go_enter Try.func38, Try.ntmps38
    go_wp2_with (at_builtin; refine push_many rfl (.tmp 5) (.tmp 6) 23 rfl w.heap.size 3 _ 1 8 Try.underlying23 HI.out.1 rfl (by omega) _ _ _ _ _ _ _ _ rfl he0 rfl hr0 (fun e => by cases e) (ints_one l) (by omega) (by omega) (by simp) ?_; intro v2 w2 hown2 hb2)
    go_ret
    refine ⟨_, rfl, ?_, ((Below.refl _ _).alloc (Nat.le_refl _) _).trans hb2⟩
    simpa using hown2

theorem own_base {base base' : Nat} {e : TypeId} {k n : Nat} {v : Value} {xs : List Value} {w : World} (h : w.ownsRow base e k v n xs) (hb : base' ≤ base) : w.ownsRow base' e k v n xs := by
  refine ⟨h.1, ?_⟩
  rcases h.2 with h | ⟨g, cap, cur, h1, h2, h3⟩
  · exact .inl h
  · exact .inr ⟨g, cap, cur, h1, Nat.le_trans hb h2, h3⟩
/-- A shelf whose lists are the call's own. -/
def OwnSh (base : Nat) (l : List Pl.Obj) (F : List Int) (v : Value) (w : World) : Prop :=
  ∃ A1 c1 A2 c2, v = .agg #[.slice A1 l.length c1, .slice A2 F.length c2] ∧ w.ownsRow base 50 4 (.slice A1 l.length c1) l.length (objCs l) ∧ w.ownsRow base 3 1 (.slice A2 F.length c2) F.length (ints F)
theorem heap_alloc_2 (w : World) (o1 o2 : Obj) : ((w.alloc o1).alloc o2).heap[w.heap.size + 1]? = some o2 := by
  have := heap_alloc_new (w.alloc o1) o2
  simpa using this
theorem set_at (w : World) (g j : Nat) (cs : Array Value) (y : Value) (t : TypeId) (h : w.heap[g]? = some (.cells cs t (0, 0))) : (w.setCell ⟨g, j, none⟩ y).heap[g]? = some (.cells (cs.setIfInBounds j y) t (0, 0)) := by
  simp [World.setCell, Array.getElem?_modify, h]
theorem own_set {base : Nat} {e : TypeId} {k n : Nat} {v : Value} {xs : List Value} {w : World} (h : w.ownsRow base e k v n xs) {b : Nat} (hb : b < base) (i : Nat) (u : Value) : (w.setCell ⟨b, i, none⟩ u).ownsRow base e k v n xs := ownsRow_setCell_below h (a := ⟨b, i, none⟩) hb u
set_option maxRecDepth 100000 in
set_option maxHeartbeats 1000000 in
theorem copied_any (A A' : Option Addr) (n c m c' : Nat) (l : List Pl.Obj) (F : List Int) (w : World) (hl : l.length = n) (hF : F.length = m) (hr : SlAt w 4 A n c (objCs l)) (hr' : SlAt w 1 A' m c' (ints F)) (hn : n ≤ 1000000) (hm : m ≤ 1000000) :
    Calls Try.prog 24 #[.agg #[.slice A n c, .slice A' m c']] w (RetB (OwnSh (w.heap.size + 2) l F) w) := by
  have hco := fun w h => cloneO_any A n c l w hl h hn
  have hci := fun w h => cloneI_any A' m c' F w hF h hm
  have HC := Lib.hid (And.intro hco (And.intro hci (And.intro hl hF))); clear hco hci hl hF
  go_enter Try.func24, Try.ntmps24
  go_wp2_with fail
  obtain ⟨V, hV⟩ : ∃ V, (w.alloc (.cells #[.slice A n c, .slice A' m c'] 25)).alloc (.cells #[.slice none 0 0, .slice none 0 0] 25) = V := ⟨_, rfl⟩
  have hX : V.heap[w.heap.size]? = some (.cells #[.slice A n c, .slice A' m c'] 25 (0, 0)) := by rw [← hV]; exact (Below.heap_alloc _ _ _ (by simp)).trans (heap_alloc_new w _)
  have hY : V.heap[w.heap.size + 1]? = some (.cells #[.slice none 0 0, .slice none 0 0] 25 (0, 0)) := by rw [← hV]; exact heap_alloc_2 w _ _
  have hbV : Below w.heap.size w V := by rw [← hV]; exact ((Below.refl _ _).alloc (Nat.le_refl _) _).alloc (by simp) _
  have hsV : V.heap.size = w.heap.size + 2 := by rw [← hV]; simp
  rw [hV]
  have HV := Lib.hid (And.intro hX (And.intro hY hsV)); clear hV hX hY hsV
  have hc0 : V.cell? ⟨w.heap.size, 0, none⟩ = some (.slice A n c) := cell_row V _ 0 _ _ HV.out.1
  have hc1 : V.cell? ⟨w.heap.size, 1, none⟩ = some (.slice A' m c') := cell_row V _ 1 _ _ HV.out.1
  have hrV := (hr.below hbV)
  have hrV' := (hr'.below hbV)
  have hlt : w.heap.size < V.heap.size := by rw [HV.out.2.2]; omega
  have hd0 : Below V.heap.size V V.drew := (Below.refl _ _).drew
  refine wp_region_held_drew (S := (fun w' => w'.cell? ⟨w.heap.size, 0, none⟩ = some (.slice A n c) ∧ w'.cell? ⟨w.heap.size, 1, none⟩ = some (.slice A' m c'))) (by kernel_rfl) (by exact ⟨hc0, hc1⟩) (fun hHeld => ?_)
  refine wpAnyH_take (i := 0) (v := ?_) rfl (by kernel_rfl) (by kernel_rfl) (by kernel_rfl) (fun _ _ _ h => h) (Or.inl ⟨by kernel_rfl, ?_⟩) hHeld ?_
  rotate_left
  · (intro w' hSw; (try dsimp only at hSw); (try obtain ⟨hS0, hS1⟩ := hSw); go_simp; try with_reducible rfl)
  simp only [Act.put, List.setIfInBounds_toArray, List.set_cons_zero, List.set_cons_succ, List.getElem_toArray, List.getElem_cons_succ, List.getElem_cons_zero]
  refine wpAnyH_take (i := 1) (v := ?_) rfl (by kernel_rfl) (by kernel_rfl) (by kernel_rfl) (fun _ _ _ h => h) (Or.inl ⟨by kernel_rfl, ?_⟩) hHeld ?_
  rotate_left
  · (intro w' hSw; (try dsimp only at hSw); (try obtain ⟨hS0, hS1⟩ := hSw); go_simp; try with_reducible rfl)
  simp only [Act.put, List.setIfInBounds_toArray, List.set_cons_zero, List.set_cons_succ, List.getElem_toArray, List.getElem_cons_succ, List.getElem_cons_zero]
  refine wpAnyH_take (i := 3) (v := ?_) rfl (by kernel_rfl) (by kernel_rfl) (by kernel_rfl) (fun _ _ _ h => h) (Or.inl ⟨by kernel_rfl, ?_⟩) hHeld ?_
  rotate_left
  · (intro w' hSw; (try dsimp only at hSw); (try obtain ⟨hS0, hS1⟩ := hSw); go_simp; try with_reducible rfl)
  simp only [Act.put, List.setIfInBounds_toArray, List.set_cons_zero, List.set_cons_succ, List.getElem_toArray, List.getElem_cons_succ, List.getElem_cons_zero]
  refine wpAnyH_take (i := 4) (v := ?_) rfl (by kernel_rfl) (by kernel_rfl) (by kernel_rfl) (fun _ _ _ h => h) (Or.inl ⟨by kernel_rfl, ?_⟩) hHeld ?_
  rotate_left
  · (intro w' hSw; (try dsimp only at hSw); (try obtain ⟨hS0, hS1⟩ := hSw); go_simp; try with_reducible rfl)
  simp only [Act.put, List.setIfInBounds_toArray, List.set_cons_zero, List.set_cons_succ, List.getElem_toArray, List.getElem_cons_succ, List.getElem_cons_zero]
  refine wpAnyH_ready (rs := [2]) (by kernel_rfl) (by simp) (AllReadyH.cons rfl (fun K hK => ?_) AllReadyH.nil)
  go_simp
  (with_reducible refine (HC.out.1 _ (by exact hrV.below hd0)).mono ?_)
  rintro e w1 ⟨v, rfl, hown1, hb1⟩
  have hd1 := hd0.trans (hb1.mono hd0.size)
  obtain ⟨A1, c1, rfl⟩ := own_form hown1
  refine hK.out _ _ ⟨(hd1.cell (p := ⟨w.heap.size, 0, none⟩) hlt).trans hc0, (hd1.cell (p := ⟨w.heap.size, 1, none⟩) hlt).trans hc1⟩ (fun hHeld => ?_)
  clear hK K
  (try simp only [Act.put, List.setIfInBounds_toArray, List.set_cons_zero, List.set_cons_succ, List.getElem_toArray, List.getElem_cons_succ, List.getElem_cons_zero])
  refine wpAnyH_ready (rs := [5]) (by kernel_rfl) (by simp) (AllReadyH.cons rfl (fun K hK => ?_) AllReadyH.nil)
  go_simp
  (with_reducible refine (HC.out.2.1 _ (by exact hrV'.below hd1)).mono ?_)
  rintro e w2 ⟨v, rfl, hown2, hb2⟩
  have hd2 := hd1.trans (hb2.mono hd1.size)
  obtain ⟨A2, c2, rfl⟩ := own_form hown2
  have hown1' := own_below hown1 hb2
  refine hK.out _ _ ⟨(hd2.cell (p := ⟨w.heap.size, 0, none⟩) hlt).trans hc0, (hd2.cell (p := ⟨w.heap.size, 1, none⟩) hlt).trans hc1⟩ (fun hHeld => ?_)
  clear hK K
  (try simp only [Act.put, List.setIfInBounds_toArray, List.set_cons_zero, List.set_cons_succ, List.getElem_toArray, List.getElem_cons_succ, List.getElem_cons_zero])
  refine wpAnyH_take (i := 6) (v := ?_) rfl (by kernel_rfl) (by kernel_rfl) (by kernel_rfl) (fun _ _ _ h => h) (Or.inl ⟨by kernel_rfl, ?_⟩) hHeld ?_
  rotate_left
  · (intro w' hSw; (try dsimp only at hSw); go_simp; try with_reducible rfl)
  simp only [Act.put, List.setIfInBounds_toArray, List.set_cons_zero, List.set_cons_succ, List.getElem_toArray, List.getElem_cons_succ, List.getElem_cons_zero]
  have hY2 := (hd2.block (w.heap.size + 1) (by rw [HV.out.2.2]; omega)).trans HV.out.2.1
  have y0 : w2.cell? ⟨w.heap.size + 1, 0, none⟩ = some (.slice none 0 0) := cell_row w2 _ 0 _ _ hY2
  have y1 : w2.cell? ⟨w.heap.size + 1, 1, none⟩ = some (.slice none 0 0) := cell_row w2 _ 1 _ _ hY2
  have yf : ∀ i, w2.frozen? ⟨w.heap.size + 1, i, none⟩ = false := fun i => frozen_of w2 _ i _ _ hY2
  clear hY2
  refine wpAnyH_ready (rs := [7]) (by kernel_rfl) (by simp) (AllReadyH.cons rfl (fun K hK => ?_) AllReadyH.nil)
  go_simp
  refine hK.out _ _ ⟨((World.cell?_setCell_far _ _ _ _ (by simp)).trans (World.cell?_setCell_far _ _ _ _ (by simp))).trans hHeld.1, ((World.cell?_setCell_far _ _ _ _ (by simp)).trans (World.cell?_setCell_far _ _ _ _ (by simp))).trans hHeld.2⟩ (fun hHeld => ?_)
  clear hK K
  (try simp only [Act.put, List.setIfInBounds_toArray, List.set_cons_zero, List.set_cons_succ, List.getElem_toArray, List.getElem_cons_succ, List.getElem_cons_zero])
  refine wpAnyH_done (by kernel_rfl) ?_ _
  go_wp2_with fail
  refine bodyPost_ret (v := .agg #[.slice A1 n c1, .slice A2 m c2]) (by simp [results, Try.results24, go_sem, y0, y1]) rfl ?_
  have hsz := HV.out.2.2
  have h12 : w.heap.size + 2 ≤ w1.heap.size := by have := hd1.size; omega
  refine ⟨_, rfl, ⟨A1, c1, A2, c2, ?_, ?_, ?_⟩, ((hbV.trans (hd2.mono hbV.size)).setCell (by simp) _).setCell (by simp) _⟩
  · rw [HC.out.2.2.1, HC.out.2.2.2]
  · rw [HC.out.2.2.1]
    exact own_set (own_set (own_base hown1' (by show w.heap.size + 2 ≤ V.heap.size; omega)) (by omega) _ _) (by omega) _ _
  · rw [HC.out.2.2.2]
    exact own_set (own_set (own_base hown2 h12) (by omega) _ _) (by omega) _ _
end Go.Proofs.Ytnapokalopcdkaa
