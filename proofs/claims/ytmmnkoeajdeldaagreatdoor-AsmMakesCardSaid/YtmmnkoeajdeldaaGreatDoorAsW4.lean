/- The assembler adds a piece. -/
import Derived.Test.YtmmnkoeajdeldaaGreatDoorAsW3
namespace Go.Proofs.YtmmnkoeajdeldaaGreatDoor
open Go.RowKit Go.Maps Go.WideMaps
set_option linter.unusedVariables false
set_option linter.unusedSimpArgs false
attribute [local go_sem] ba_get ba_cut ba_add fld_k fld_s fld_n
/-- append of a slice, nil or not, to a row of the call's own, at a step of a drawn region: which blocks stand as they were. -/
theorem step_push_a {P : Program} {ops : Array Oper} {o : Oper} {a : Act} {K : Act → World → Prop} {Q : Exit → Act → World → Prop} {E : Prop} (hgd : o.guard = none) (s x : Operand) (t : TypeId)
    (ho : o.op = .call { callee := .builtin .append, args := #[s, x], argTypes := #[t, t] })
    (base : Nat) (e : TypeId) (z : Value) (k bytes : Nat) (ht : P.underlying t = some (.slice e)) (hi : (P.info? e).map (fun i => (i.zero, i.size, i.bytes)) = some (some z, k, bytes)) (hzs : z.cells.size = k) (hk : 0 < k)
    (w : World) (v : Value) (n : Nat) (xs : List Value) (A : Option Addr) (m c : Nat) (ys : List Value) (hs : a.eval s = v) (hown : w.ownsRow base e k v n xs) (hx : a.eval x = .slice A m c) (hr : Rd w k A m ys) (hnil : A = none → c = 0) (h1 : ∀ u ∈ ys, u.oneCell' = true)
    (hbytes : (n + m) * bytes ≤ 140737488355328) (hb0 : 1 ≤ bytes) (hbase : base ≤ w.heap.size)
    (h : ∀ v' w', w'.ownsRow base e k v' (n + m) (xs ++ ys) → Below base w w' → (∀ G, G < w.heap.size → v.ownBlock ≠ some G → w'.heap[G]? = w.heap[G]?) → K (a.put o.dst v') w') :
    if Region.wanted o (yielded ops a.tmps) = true then Oper.wp P o a w K Q else E := by
  have hw : Region.wanted o (yielded ops a.tmps) = true := by simp [Region.wanted, hgd]
  rw [if_pos hw]
  obtain ⟨i0, hi0, hz0, hz1, hz2⟩ := info_parts hi
  rcases A with _ | ad
  · have hc := hnil rfl
    subst hc
    have hm : m = 0 := by
      rcases Nat.eq_zero_or_pos m with h0 | h0
      · exact h0
      · obtain ⟨b, off, he, _⟩ := hr.2 h0; cases he
    subst hm
    obtain rfl : ys = [] := List.eq_nil_of_length_eq_zero (by have := hr.1; simpa using this)
    have hrun := run_append_owned_none (P := P) (w := w) base t o.type e i0 k ht hi0 v n xs hown
    have hfin := h v w (by simpa using hown) (Below.refl _ _) (fun _ _ _ => rfl)
    unfold Oper.wp
    simp [execOp, ho, resolve, invoke, builtin, hs, hx, hrun, Result.andThen]
    exact hfin
  · refine wp_append_own w s x t ho base e i0 z k bytes ht hi0 hz0 hz1 hz2 hzs hk v n xs hs hown ad m c ys hx hr.1 ?_ h1 ?_ hbytes hbase ?_
    · intro j u hu
      have hj : j < ys.length := by
        rcases Nat.lt_or_ge j ys.length with hj | hj
        · exact hj
        · rw [List.getElem?_eq_none hj] at hu; cases hu
      have hm : 0 < m := by
        rcases Nat.eq_zero_or_pos m with h0 | h0
        · subst h0; have := hr.1; omega
        · exact h0
      obtain ⟨b, off, he, _, hc⟩ := hr.2 hm
      injection he with he
      subst he
      rw [addr_add, hc j hj, hu]
    · have : n + m ≤ (n + m) * bytes := Nat.le_mul_of_pos_right _ hb0
      simp only [maxLen]; omega
    · intro v' w' h2 h3 _
      exact h v' w' h2 (below_own hown h3 hbase) (fun G hG hne => h3.block G hG (fun e => hne e.symm))
theorem step_bslice {P : Program} {v out : Value} {T n : Nat} {x : Operand} {ops : Array Oper} {o : Oper} {a : Act} {w w' : World} {K : Act → World → Prop} {Q : Exit → Act → World → Prop} {E : Prop} (hb : (Instr.buildSlice T n #[(0, v)]).run P w = .ok out w') (hgd : o.guard = none) (ho : o.op = .buildSlice T n #[(0, x)]) (hx : a.eval x = v)
    (h : K (a.put o.dst out) w') : if Region.wanted o (yielded ops a.tmps) = true then Oper.wp P o a w K Q else E := by
  have hw : Region.wanted o (yielded ops a.tmps) = true := by simp [Region.wanted, hgd]
  rw [if_pos hw]
  unfold Oper.wp execOp
  simp only [ho, List.map_toArray, List.map_cons, List.map_nil, hx, Sem.run_bind, hb, Result.andThen_ok, Sem.run_pure]
  exact h
theorem bslice_pc (p : Pl.Pc) (w : World) : (Instr.buildSlice 58 1 #[(0, .agg (pcL p).toArray)]).run Tryz.prog w = .ok (.slice (some ⟨w.heap.size, 0, none⟩) 1 1) (w.alloc (.cells (pcL p).toArray 126)) := by kernel_rfl
theorem info_pc : (Tryz.prog.info? 126).map (·.size) = some 11 := by kernel_rfl
theorem pcL_len (p : Pl.Pc) : (pcL p).length = 11 := rfl
theorem pcL_one (p : Pl.Pc) : ∀ v ∈ pcL p, v.oneCell' = true := by
  intro v hv
  simp only [pcL, insL, List.mem_cons, List.mem_append, List.not_mem_nil, or_false] at hv
  rcases hv with rfl | (rfl | rfl | rfl | rfl | rfl) | rfl | rfl | rfl | rfl | rfl <;> rfl
theorem own_typ2 {w w' : World} {base : Nat} {e : TypeId} {k n : Nat} {v : Value} {xs : List Value} (h : w.ownsRow base e k v n xs) {r : Option Nat} (hg : w.grownBy w' r) (ho : ∀ g, r = some g → ∀ cur, w.heap[g]? ≠ some (.cells cur e (0, 0))) : w'.ownsRow base e k v n xs := by
  refine h.kept hg ?_
  rcases h.2 with ⟨rfl, _⟩ | ⟨b, cap, cur, rfl, _, hb, _⟩
  · exact .inl rfl
  · refine .inr fun e => ?_
    simp only [Value.ownBlock] at e
    exact ho b e.symm _ hb
theorem own_blk {w : World} {base : Nat} {e : TypeId} {k n : Nat} {v : Value} {xs : List Value} (h : w.ownsRow base e k v n xs) {g : Nat} (hg : v.ownBlock = some g) : ∃ cur, w.heap[g]? = some (.cells cur e (0, 0)) := by
  rcases h.2 with ⟨rfl, _⟩ | ⟨b, cap, cur, rfl, _, hb, _⟩
  · cases hg
  · simp only [Value.ownBlock, Option.some.injEq] at hg
    subst hg
    exact ⟨cur, hb⟩
/-- A cell of the box is stored: all else is as it was. -/
theorem AsAt.others {w : World} {H A ln : Nat} {S : Pl.St} {Z : AsV} {Y : List (List UInt8 × Value)} (hb : AsB w A ln Z) (i : Nat) (v : Value) {e : TypeId} {k n : Nat} {u : Value} {xs : List Value} (he : e ≠ 64) (h : w.ownsRow H e k u n xs) : (w.setCell ⟨A, i, none⟩ v).ownsRow H e k u n xs :=
  own_type h (grown_cell w A i v) fun cur hc => by
    rw [hb.at_] at hc
    injection hc with hc
    injection hc with _ hc
    exact he hc.symm
theorem MapV.others {w : World} {A ln : Nat} {Z : AsV} (hb : AsB w A ln Z) (i : Nat) (v : Value) {M : Nat} {l : List (List UInt8 × Value)} {c : Nat} (h : MapV w M l c) : MapV (w.setCell ⟨A, i, none⟩ v) M l c :=
  h.grown (grown_cell w A i v) fun e => by
    obtain ⟨es, k, he⟩ := h.at_
    injection e with e
    subst e
    rw [hb.at_] at he
    injection he with he
    injection he
theorem AsAt.push {W3 W4 : World} {H A ln : Nat} {S : Pl.St} {Z : AsV} {Y : List (List UInt8 × Value)} (h : AsAt W3 H A ln S Z Y) {v : Value} {x : Pl.Pc} (hown : W4.ownsRow H 126 11 v (S.pcs.length + 1) (pcsC S.pcs ++ pcL x)) (hb : Below H W3 W4)
    (hblk : ∀ G, G < W3.heap.size → Z.p.ownBlock ≠ some G → W4.heap[G]? = W3.heap[G]?) : AsAt (W4.setCell ⟨A, 2, none⟩ v) H A ln (Pl.addP x S) { Z with p := v } Y := by
  have hg : W3.grownBy W4 Z.p.ownBlock := ⟨hb.os, hb.tape, hb.output, hb.size, fun k hk hr => hblk k hk (fun e => hr e.symm)⟩
  have hbx := h.box.below hb h.lo
  have ht : ∀ e : TypeId, e ≠ 126 → ∀ g, Z.p.ownBlock = some g → ∀ cur, W3.heap[g]? ≠ some (.cells cur e (0, 0)) := fun e he g hgg cur hc => by
    obtain ⟨cur', hc'⟩ := own_blk h.pcs hgg
    rw [hc'] at hc
    injection hc with hc
    injection hc with _ hc
    exact he hc.symm
  have hs : (W4.setCell ⟨A, 2, none⟩ v).heap.size = W4.heap.size := by simp [World.setCell]
  have hp : pcsC S.pcs ++ pcL x = pcsC (S.pcs ++ [x]) := by rw [pcsC_app]; simp [pcsC]
  have hl : S.pcs.length + 1 = (S.pcs ++ [x]).length := by simp
  refine ⟨hbx.set2 v, h.lo, by rw [hs]; exact Nat.le_trans h.hi hb.size, ?_, AsAt.others (S := S) (Y := Y) hbx _ _ (by decide) (own_typ2 h.data hg (ht _ (by decide))), AsAt.others (S := S) (Y := Y) hbx _ _ (by decide) (own_typ2 h.rooms hg (ht _ (by decide))), MapV.others hbx _ _ (h.names.same (hb.block _ h.nlo)), h.nlo, MapV.others hbx _ _ (h.ways.same (hb.block _ h.ylo)), h.ylo, h.ny⟩
  have := AsAt.others (S := S) (Y := Y) hbx 2 v (by decide) hown
  rw [hp, hl] at this
  exact this
theorem info_pc3 : (Tryz.prog.info? 126).map (fun i => (i.zero, i.size, i.bytes)) = some (some (.agg #[.int .i64 0, .int .u8 0, .int .u8 0, .int .u8 0, .int .u8 0, .int .i32 0, .bool false, .int .u32 0, .bool false, .string ⟨#[]⟩, .int .i64 0]), 11, 56) := by kernel_rfl
set_option maxRecDepth 100000 in
theorem add_any (H A ln : Nat) (S : Pl.St) (Z : AsV) (Y : List (List UInt8 × Value)) (p : Pl.Pc) (w : World) (hA : AsAt w H A ln S Z Y) (hN : S.pcs.length ≤ 1000000) :
    Calls Tryz.prog 95 #[.pointer (some ⟨A, 0, none⟩), .agg (pcL p).toArray] w (LnQ w H A ln Z Y (.ok (Pl.addP { p with line := ln } S))) := by
  have h0 := hA.box.c0
  have h2 := hA.box.c2
  have hAs := hA.box.lt
  have HA := Lib.hid hA
  obtain ⟨L, hL⟩ : ∃ L, pcL p = L := ⟨_, rfl⟩
  have hLl : L.length = 11 := by rw [← hL]; rfl
  have hL1 := all_oneCell_toArray (cs := L) (by rw [← hL]; exact pcL_one p)
  rw [hL]
  have HL := Lib.hid (And.intro hL (And.intro hLl hL1))
  clear hA hL hLl hL1
  go_enter Tryz.func95, Tryz.ntmps95
  go_upto_region 1 with (fail)
  generalize hW : w.alloc _ = W1
  obtain ⟨B, hB⟩ : ∃ B, w.heap.size = B := ⟨_, rfl⟩
  have hz1 : W1.heap[B]? = some (.cells L.toArray 126 (0, 0)) := by rw [← hW, ← hB]; exact heap_alloc_new _ _
  have hb1 : Below w.heap.size w W1 := by rw [← hW]; exact (Below.refl _ _).alloc (Nat.le_refl _) _
  have HA1 := Lib.hid (HA.out.new hb1)
  have h01 := HA1.out.box.c0
  have hc1 : W1.cell? ⟨B, 0, none⟩ = some (L.getD 0 (.int .i64 0)) := by
    rw [cell_row W1 B 0 _ _ hz1, List.getElem?_toArray, List.getD_eq_getElem?_getD, List.getElem?_eq_getElem (by rw [HL.out.2.1]; omega)]; rfl
  have hf1 := frozen_of W1 B 0 _ _ hz1
  rw [hB] at hAs hb1 ⊢
  clear hW h0 h2
  have HZ1 := Lib.hid (And.intro hz1 hb1)
  clear hz1 hb1
  go_upto_region 2 with (fail)
  generalize hW2 : World.setCell _ _ _ = W2
  obtain ⟨L2, hL2⟩ : ∃ L2, L.set 0 (.int .i64 (ln : Int)) = L2 := ⟨_, rfl⟩
  have hz2 : W2.heap[B]? = some (.cells L2.toArray 126 (0, 0)) := by rw [← hW2, set_at W1 B 0 _ _ _ HZ1.out.1, List.setIfInBounds_toArray, hL2]
  have hb2 : Below w.heap.size w W2 := by rw [← hW2, hB]; exact HZ1.out.2.setCell (p := ⟨B, 0, none⟩) (Nat.le_refl _) _
  have hLp : pcL { p with line := ln } = L2 := by rw [← hL2, ← HL.out.1]; rfl
  have hL2l : L2.length = 11 := by rw [← hLp]; rfl
  have hL21 := pcL_one { p with line := ln }
  rw [hLp] at hL21
  clear hW2 hc1 hf1 h01 HZ1 HA1 hL2
  have HA2 := Lib.hid (HA.out.new hb2)
  have hif : (Tryz.prog.info? 126).map (·.size) = some L2.length := by rw [hL2l]; exact info_pc
  have hr0 : W2.drew.rangeAt B 0 L2 := rangeA (show W2.drew.heap[B]? = _ from hz2)
  have HP := Lib.hid (And.intro hLp (And.intro hL2l hL21))
  have HB2 := Lib.hid hb2
  have HZ2 := Lib.hid hz2
  clear hLp hL2l hL21 hb2 hz2
  refine wp_region_held_drew (S := (fun w' => w'.rangeAt B 0 L2)) (by kernel_rfl) (by exact hr0) (fun hHeld => ?_)
  refine wpAnyH_take (i := 5) (v := .agg (L2).toArray) rfl (by kernel_rfl) (by kernel_rfl) (by kernel_rfl) (fun _ _ _ h => h) (yieldsIf_load_mid (by kernel_rfl) 126 _ rfl (B) (0) rfl L2 _ (fun _ h => h) Tryz.underlying126 rfl hif) hHeld ?_
  simp only [Act.put, List.setIfInBounds_toArray, List.set_cons_zero, List.set_cons_succ, List.getElem_toArray, List.getElem_cons_succ, List.getElem_cons_zero]
  refine wpAnyH_take (i := 0) (v := ?_) rfl (by kernel_rfl) (by kernel_rfl) (by kernel_rfl) (fun _ _ _ h => h) (Or.inl ⟨by kernel_rfl, ?_⟩) hHeld ?_
  rotate_left
  · (intro w' hSw; (try dsimp only at hSw); go_simp; try with_reducible rfl)
  simp only [Act.put, List.setIfInBounds_toArray, List.set_cons_zero, List.set_cons_succ, List.getElem_toArray, List.getElem_cons_succ, List.getElem_cons_zero]
  refine wpAnyH_take (i := 1) (v := ?_) rfl (by kernel_rfl) (by kernel_rfl) (by kernel_rfl) (fun _ _ _ h => h) (Or.inl ⟨by kernel_rfl, ?_⟩) hHeld ?_
  rotate_left
  · (intro w' hSw; (try dsimp only at hSw); go_simp; try with_reducible rfl)
  simp only [Act.put, List.setIfInBounds_toArray, List.set_cons_zero, List.set_cons_succ, List.getElem_toArray, List.getElem_cons_succ, List.getElem_cons_zero]
  refine wpAnyH_take (i := 2) (v := ?_) rfl (by kernel_rfl) (by kernel_rfl) (by kernel_rfl) (fun _ _ _ h => h) (Or.inl ⟨by kernel_rfl, ?_⟩) hHeld ?_
  rotate_left
  · (intro w' hSw; (try dsimp only at hSw); go_simp; try with_reducible rfl)
  simp only [Act.put, List.setIfInBounds_toArray, List.set_cons_zero, List.set_cons_succ, List.getElem_toArray, List.getElem_cons_succ, List.getElem_cons_zero]
  refine wpAnyH_take (i := 3) (v := ?_) rfl (by kernel_rfl) (by kernel_rfl) (by kernel_rfl) (fun _ _ _ h => h) (Or.inl ⟨by kernel_rfl, ?_⟩) hHeld ?_
  rotate_left
  · (intro w' hSw; (try dsimp only at hSw); go_simp; try with_reducible rfl)
  simp only [Act.put, List.setIfInBounds_toArray, List.set_cons_zero, List.set_cons_succ, List.getElem_toArray, List.getElem_cons_succ, List.getElem_cons_zero]
  have HA0 := HA2.out.new (Below.refl _ _).drew
  have hb0 : Below w.heap.size w W2.drew := HB2.out.drew
  have hz0 : W2.drew.heap[B]? = some (.cells L2.toArray 126 (0, 0)) := HZ2.out
  generalize W2.drew = W0 at HA0 hb0 hz0 hr0 hHeld ⊢
  obtain ⟨W3, hW3⟩ : ∃ W3, W0.alloc (.cells L2.toArray 126) = W3 := ⟨_, rfl⟩
  have hb3 : Below W0.heap.size W0 W3 := by rw [← hW3]; exact (Below.refl _ _).alloc (Nat.le_refl _) _
  have hc2 := HA0.box.c2
  have hc3 := (HA0.new hb3).box.c2
  have hz3 := (hb3.block _ (blk_lt hz0)).trans hz0
  have hr3 : W3.rangeAt B 0 L2 := rangeA hz3
  have hn3 : W3.heap[W0.heap.size]? = some (.cells L2.toArray 126 (0, 0)) := by rw [← hW3]; exact heap_alloc_new _ _
  have HX := Lib.hid (And.intro HA0 (And.intro hb0 (And.intro hb3 (And.intro hz3 hn3))))
  have HW := Lib.hid hW3
  clear HA0 hb0 hz0 hb3 hz3 hn3 HZ2
  have hbs : (Instr.buildSlice 58 1 #[(0, .agg L2.toArray)]).run Tryz.prog W0 = .ok (.slice (some ⟨W0.heap.size, 0, none⟩) 1 1) W3 := by rw [← HP.out.1, bslice_pc, HP.out.1, hW3]
  clear hW3
  refine wpAnyH_ready (rs := [4, 6]) (by kernel_rfl) (by simp) (AllReadyH.cons rfl (fun K hK => ?_) (AllReadyH.cons rfl (fun K hK => ?_) AllReadyH.nil))
  go_simp
  refine hK.out _ _ (by exact hr0) (fun hHeld => ?_)
  clear hK K
  (try simp only [Act.put, List.setIfInBounds_toArray, List.set_cons_zero, List.set_cons_succ, List.getElem_toArray, List.getElem_cons_succ, List.getElem_cons_zero])
  refine wpAnyH_ready (rs := [6]) (by kernel_rfl) (by simp) (AllReadyH.cons rfl (fun K hK => ?_) AllReadyH.nil)
  refine step_bslice hbs rfl rfl rfl ?_
  refine hK.out _ _ (by exact hr3) (fun hHeld => ?_)
  clear hK K
  (try simp only [Act.put, List.setIfInBounds_toArray, List.set_cons_zero, List.set_cons_succ, List.getElem_toArray, List.getElem_cons_succ, List.getElem_cons_zero])
  rotate_left
  refine step_bslice hbs rfl rfl rfl ?_
  refine hK.out _ _ (by exact hr3) (fun hHeld => ?_)
  clear hK K
  (try simp only [Act.put, List.setIfInBounds_toArray, List.set_cons_zero, List.set_cons_succ, List.getElem_toArray, List.getElem_cons_succ, List.getElem_cons_zero])
  refine wpAnyH_ready (rs := [4]) (by kernel_rfl) (by simp) (AllReadyH.cons rfl (fun K hK => ?_) AllReadyH.nil)
  go_simp
  refine hK.out _ _ (by exact hr3) (fun hHeld => ?_)
  clear hK K
  (try simp only [Act.put, List.setIfInBounds_toArray, List.set_cons_zero, List.set_cons_succ, List.getElem_toArray, List.getElem_cons_succ, List.getElem_cons_zero])
  all_goals
    have HA3 := HX.out.1.new HX.out.2.2.1
    have hRd : Rd W3 11 (some ⟨W0.heap.size, 0, none⟩) 1 L2 := ⟨by rw [HP.out.2.1], fun _ => ⟨_, 0, rfl, blk_lt HX.out.2.2.2.2, fun j hj => by rw [cell_row W3 _ (0 + j) _ _ HX.out.2.2.2.2]; simp⟩⟩
    refine wpAnyH_ready (rs := [7]) (by kernel_rfl) (by simp) (AllReadyH.cons rfl (fun K hK => ?_) AllReadyH.nil)
    refine step_push_a rfl (.tmp 13) (.tmp 15) 58 rfl H 126 _ 11 56 Tryz.underlying58 info_pc3 rfl (by decide) W3 Z.p _ _ (some ⟨W0.heap.size, 0, none⟩) 1 1 L2 (by rfl) HA3.pcs (by rfl) hRd (by intro h; cases h) HP.out.2.2 (by omega) (by decide) HA3.hi ?_
    intro v' W4 hown hb4 hblk
    obtain ⟨vA, vc, rfl⟩ := own_form' hown
    have hnB : Z.p.ownBlock ≠ some B := fun e => by
      obtain ⟨cur, hc⟩ := own_blk HA.out.pcs e
      have := blk_lt hc
      omega
    have hz4 := (hblk B (blk_lt HX.out.2.2.2.1) hnB).trans HX.out.2.2.2.1
    have hbx := HA3.box.below hb4 HA3.lo
    have h42 := hbx.c2
    have hf42 := hbx.froz 2
    have hA4 := hbx.lt
    have hr4 : W4.rangeAt B 0 L2 := rangeA hz4
    have hz5 : (W4.setCell ⟨A, 2, none⟩ (.slice vA (S.pcs.length + 1) vc)).heap[B]? = some (.cells L2.toArray 126 (0, 0)) := (Below.heap_setCell _ _ _ _ (by show B ≠ A; omega)).trans hz4
    have hr5 := rangeA hz5
    have HF := Lib.hid (And.intro HA3 (And.intro hown (And.intro hb4 hblk)))
    clear HA3 hown hb4 hblk hz4 hbx hz5
    refine hK.out _ _ (by exact hr4) (fun hHeld => ?_)
    clear hK K
    (try simp only [Act.put, List.setIfInBounds_toArray, List.set_cons_zero, List.set_cons_succ, List.getElem_toArray, List.getElem_cons_succ, List.getElem_cons_zero])
    refine wpAnyH_take (i := 8) (v := ?_) rfl (by kernel_rfl) (by kernel_rfl) (by kernel_rfl) (fun _ _ _ h => h) (Or.inl ⟨by kernel_rfl, ?_⟩) hHeld ?_
    rotate_left
    · (intro w' hSw; (try dsimp only at hSw); go_simp; try with_reducible rfl)
    simp only [Act.put, List.setIfInBounds_toArray, List.set_cons_zero, List.set_cons_succ, List.getElem_toArray, List.getElem_cons_succ, List.getElem_cons_zero]
    refine wpAnyH_take (i := 9) (v := ?_) rfl (by kernel_rfl) (by kernel_rfl) (by kernel_rfl) (fun _ _ _ h => h) (Or.inl ⟨by kernel_rfl, ?_⟩) hHeld ?_
    rotate_left
    · (intro w' hSw; (try dsimp only at hSw); go_simp; try with_reducible rfl)
    simp only [Act.put, List.setIfInBounds_toArray, List.set_cons_zero, List.set_cons_succ, List.getElem_toArray, List.getElem_cons_succ, List.getElem_cons_zero]
    refine wpAnyH_ready (rs := [10]) (by kernel_rfl) (by simp) (AllReadyH.cons rfl (fun K hK => ?_) AllReadyH.nil)
    go_simp
    refine hK.out _ _ (by exact hr5) (fun hHeld => ?_)
    clear hK K
    (try simp only [Act.put, List.setIfInBounds_toArray, List.set_cons_zero, List.set_cons_succ, List.getElem_toArray, List.getElem_cons_succ, List.getElem_cons_zero])
    refine wpAnyH_done (by kernel_rfl) ?_ _
    go_wp2_with fail
    refine bodyPost_end (results_none rfl _ _ _) rfl ?_
    have HF1 : AsAt (W4.setCell ⟨A, 2, none⟩ (.slice vA (S.pcs.length + 1) vc)) H A ln (Pl.addP { p with line := ln } S) { Z with p := .slice vA (S.pcs.length + 1) vc } Y := HF.out.1.push (by rw [HP.out.1]; exact HF.out.2.1) HF.out.2.2.1 HF.out.2.2.2
    have hlo := HA.out.lo
    have hhi := HA.out.hi
    have k1 : LnK w W3 H A Z.n := ⟨(HX.out.2.1.trans (HX.out.2.2.1.mono HX.out.2.1.size)).os, (HX.out.2.1.trans (HX.out.2.2.1.mono HX.out.2.1.size)).tape, (HX.out.2.1.trans (HX.out.2.2.1.mono HX.out.2.1.size)).output, Nat.le_trans HX.out.2.1.size HX.out.2.2.1.size, fun k h1 _ _ => (HX.out.2.1.trans (HX.out.2.2.1.mono HX.out.2.1.size)).block k (by omega)⟩
    have k2 : LnK W3 W4 H A Z.n := ⟨HF.out.2.2.1.os, HF.out.2.2.1.tape, HF.out.2.2.1.output, HF.out.2.2.1.size, fun k h1 _ _ => HF.out.2.2.1.block k h1⟩
    have k3 : LnK W4 (W4.setCell ⟨A, 2, none⟩ (.slice vA (S.pcs.length + 1) vc)) H A Z.n := ⟨rfl, rfl, rfl, by simp [World.setCell], fun k _ h2 _ => Below.heap_setCell _ _ _ _ (by show k ≠ A; exact h2)⟩
    exact ⟨(k1.trans k2).trans k3, rfl, { Z with p := .slice vA (S.pcs.length + 1) vc }, rfl, rfl, rfl, HF1⟩
end Go.Proofs.YtmmnkoeajdeldaaGreatDoor
