/- The walk of policy.Of: the policy of a text. -/
import Derived.Test.YtmncgnmgdkdhaaaGreatDoorPolT2
import Derived.Test.YtmncgnmgdkdhaaaGreatDoorPolOf0
import Derived.Test.YtmncgnmgdkdhaaaGreatDoorDecW
import Derived.Lib.EndianMore
namespace Go.Proofs.YtmncgnmgdkdhaaaGreatDoor
open Go.RowKit
set_option linter.unusedVariables false
set_option linter.unusedSimpArgs false
/-- What the walks of this chapter read of package variables. -/
structure VPol (w : World) : Prop where
  num : VNum w
  maxl : ∃ m : Int, w.cell? ⟨0, 0, none⟩ = some (.int .i64 m)
theorem VPol.below {w w' : World} (h : VPol w) (hb : Below w.heap.size w w') : VPol w' := by
  obtain ⟨h1, m, h2⟩ := h
  exact ⟨h1.below hb, m, (hb.cell (p := ⟨0, 0, none⟩) (World.block_lt_of_cell? _ _ h2)).trans h2⟩
theorem VPol.keep {w w' : World} {B : Nat} (h : VPol w) (hb : Below B w w') (hB : w.heap.size ≤ B) : VPol w' := h.below ⟨hb.os, hb.tape, hb.output, hb.size, fun j hj => hb.block j (by omega)⟩
def polO (o : Option Pl.Pol) : Value := .tuple #[polV (o.getD ⟨0, 0, 0, 0⟩), .int .i64 (if o.isSome then 0 else 3)]
theorem set_far (w : World) (g b j : Nat) (o : Obj) (y : Value) (h : w.heap[g]? = some o) (hne : g ≠ b) : (w.setCell ⟨b, j, none⟩ y).heap[g]? = some o := by
  simp [World.setCell, Array.getElem?_modify, h, Ne.symm hne]
theorem info_pol : (Tryz.prog.info? 23).map (·.size) = some 4 := by kernel_rfl
theorem there_rw {w : World} {B n : Nat} {C : Array Value} {t : TypeId} (h : w.heap[B]? = some (.cells C t (0, 0))) (hn : n ≤ C.size) : w.there B 0 n := fun j hj =>
  ⟨by rw [cell_row w B (0 + j) C t h, Array.getElem?_eq_getElem (by omega)]; rfl, frozen_of w B _ C t h⟩
theorem range_rw {w : World} {B : Nat} {C : List Value} {t : TypeId} (h : w.heap[B]? = some (.cells C.toArray t (0, 0))) : w.rangeAt B 0 C := fun j v hv => by
  rw [cell_row w B (0 + j) C.toArray t h]; simpa using hv
/-- A policy's four cells. -/
def polL (p : Pl.Pol) : List Value := [.int .i64 p.d, .int .i64 p.w, .int .i64 p.mo, .int .i64 p.y]
def zPol : Pl.Pol := ⟨0, 0, 0, 0⟩
theorem polL_len (p : Pl.Pol) : (polL p).length = 4 := rfl
theorem polL_one (p : Pl.Pol) : (polL p).toArray.all (·.oneCell') = true := by simp [polL, Value.oneCell']
theorem build_pz (w : World) : (Instr.build 23 #[]).run Tryz.prog w = .ok (.agg (polL zPol).toArray) w := run_build w 23 _ _ (by kernel_rfl)
theorem wpList_build_pz {Z : List Value} (hZ : Z = polL zPol) {ops : Array Oper} {rest : List Oper} {op : Oper} {a : Act} {w : World} {Q : Exit → Act → World → Prop} (hgd : op.guard = none) (ho : op.op = .build 23 #[])
    (h : wpList Tryz.prog ops Q rest (a.put op.dst (.agg Z.toArray)) w) : wpList Tryz.prog ops Q (op :: rest) a w :=
  wpList_plain hgd fun _ hK => by
    subst hZ
    unfold Oper.wp execOp
    simp only [ho, Array.map_empty, Sem.run_bind, build_pz, Result.andThen_ok, Sem.run_pure]
    exact hK _ _ h
theorem results_pol {fn : Func} {tmps : Array Value} {w : World} {a b B : Nat} {cs : List Value} (hf : fn.results = #[.cell a 23, .tmp b]) (ha : tmps[a]?.getD undef = .pointer (some ⟨B, 0, none⟩)) (hc : w.rangeAt B 0 cs) (hl : cs.length = 4) :
    (results fn tmps).run Tryz.prog w = .ok (.tuple #[.agg cs.toArray, tmps.getD b undef]) w := by
  have h := run_loadVar_mid (P := Tryz.prog) w B 0 23 cs _ hc Tryz.underlying23 rfl (by rw [hl]; exact info_pol)
  simp [results, hf, ha, asAddr, h, Sem.run_bind]
set_option maxRecDepth 100000 in
set_option maxHeartbeats 4000000 in
theorem of_any (s : List UInt8) (w : World) (hs : s.length ≤ 4000000000) (hv : VPol w) : Calls Tryz.prog 11 #[.string ⟨s.toArray⟩] w (RetB (fun v _ => v = polO (Pl.ofW s)) w) := by
  obtain ⟨m, hm⟩ := hv.maxl
  obtain ⟨Q, hQ⟩ : ∃ Q, Pl.ofW s = Q := ⟨_, rfl⟩
  rw [hQ]
  have hsp := fun W (hW : W.cell? ⟨0, 0, none⟩ = some (.int .i64 m)) => Tryz.strings_Split ⟨s.toArray⟩ ⟨#[32]⟩ m W (by simp [ByteArray.size]; omega) hW (by decide)
  have hdat : (Lib.splitB ⟨#[32]⟩ 0 (Lib.countB ⟨s.toArray⟩ ⟨#[32]⟩) ⟨s.toArray⟩).map (·.data.toList) = Lib.split s [32] := by
    rw [Lib.splitB_data]; simp [Lib.split, Lib.countB]
  have hlen := Lib.splitB_all ⟨#[32]⟩ (by decide) 0 _ ⟨s.toArray⟩ rfl
  obtain ⟨Zs, hZ⟩ : ∃ Zs, Lib.splitB ⟨#[32]⟩ 0 (Lib.countB ⟨s.toArray⟩ ⟨#[32]⟩) ⟨s.toArray⟩ = Zs := ⟨_, rfl⟩
  rw [hZ] at hdat hlen
  simp only [hZ] at hsp
  obtain ⟨n, hn⟩ : ∃ n, Lib.countB ⟨s.toArray⟩ ⟨#[32]⟩ + 1 = n := ⟨_, rfl⟩
  rw [hn] at hlen
  simp only [hn] at hsp
  have hn1 : n ≤ 4000000001 := by
    have := Lib.countB_le ⟨#[32]⟩ (by decide) _ ⟨s.toArray⟩ (Nat.le_refl _)
    simp [ByteArray.size] at this; omega
  clear hZ hn
  obtain ⟨ws, hws⟩ : ∃ ws, Lib.split s [32] = ws := ⟨_, rfl⟩
  have hwl : ws.length = n := by rw [← hws, ← hdat, List.length_map, hlen]
  have hZs : Zs.map Value.string = strs ws := by
    rw [← hws, ← hdat]; unfold strs; rw [List.map_map]; exact List.map_congr_left fun z _ => by simp [Function.comp]
  rw [hZs] at hsp
  have HH := Lib.hid (And.intro hsp (And.intro hm (And.intro hQ (And.intro hws (And.intro hwl hv))))); clear hsp hm hQ hws hwl hv hdat hlen hZs
  obtain ⟨Z, hZ⟩ : ∃ Z, Z = polL zPol := ⟨_, rfl⟩
  have hZ4 : Z.length = 4 := by rw [hZ]; rfl
  have hZ1 : Z.toArray.all (·.oneCell') = true := by rw [hZ]; exact polL_one _
  have hZi : (Tryz.prog.info? 23).map (·.size) = some Z.toArray.size := by rw [List.size_toArray, hZ4]; exact info_pol
  have HZ := Lib.hid hZ; clear hZ
  go_enter Tryz.func11, Tryz.ntmps11
  go_upto_region 1 with (fail)
  generalize hV : World.alloc w _ = V
  have hb0 : Below w.heap.size w V := by rw [← hV]; exact (Below.refl _ _).alloc (Nat.le_refl _) _
  have hz0 : V.heap[w.heap.size]? = some (.cells Z.toArray 23 (0, 0)) := by rw [← hV, HZ.out]; exact heap_alloc_new w _
  have hm0 : V.cell? ⟨0, 0, none⟩ = some (.int .i64 m) := (hb0.cell (p := ⟨0, 0, none⟩) (World.block_lt_of_cell? _ _ HH.out.2.1)).trans HH.out.2.1
  clear hV
  go_wp2_with fail
  refine (HH.out.1 V hm0).mono ?_
  rintro e w1 ⟨rfl, hw1⟩
  have hz1 : w1.heap[V.heap.size]? = some (.cells (strs ws).toArray 9 (0, 0)) := by rw [hw1]; exact heap_alloc_new V _
  have hb1 : Below V.heap.size V w1 := by rw [hw1]; exact (Below.refl _ _).alloc (Nat.le_refl _) _
  have hz0 := (hb1.block _ (blk_lt hz0)).trans hz0
  have hb1' := hb0.trans (hb1.mono hb0.size)
  have hsV := hb0.size
  generalize V.heap.size = Bs at hz1 hsV ⊢
  clear hw1 hb1 hm0
  go_wp2_with fail
  refine (units_any w1).mono ?_
  rintro e w2 ⟨v, rfl, rfl, hb2⟩
  go_upto_region 3 with (fail)
  generalize hV2 : World.alloc w2 _ = V2
  have hu : V2.heap[w2.heap.size]? = some (.cells #[.string ⟨#[100]⟩, .string ⟨#[119]⟩, .string ⟨#[109]⟩, .string ⟨#[121]⟩] 53 (0, 0)) := by rw [← hV2]; exact heap_alloc_new w2 _
  have hbV2 : Below w1.heap.size w1 V2 := by rw [← hV2]; exact hb2.alloc hb2.size _
  have hBu : w1.heap.size ≤ w2.heap.size := hb2.size
  have hl0 := blk_lt hz0
  have hl1 := blk_lt hz1
  have hz0 := (hbV2.block _ hl0).trans hz0
  have hz1 := (hbV2.block _ hl1).trans hz1
  have hbV := hb1'.trans (hbV2.mono hb1'.size)
  have hu0 : w.heap.size ≠ w2.heap.size := by omega
  clear hV2 hbV2 hb2 hb1' hb0 hl0 hl1 hBu
  generalize w2.heap.size = Bu at hu hu0 ⊢
  by_cases hn4 : n = 4
  rotate_left
  · have hne : ((n : Int) != 4) = true := by rw [bne_iff_ne]; omega
    have hQ0 : Q = none := by rw [← HH.out.2.2.1]; exact Pl.ofW_short (by rw [HH.out.2.2.2.1, HH.out.2.2.2.2.1]; exact hn4)
    go_wp2_with (first | (with_reducible refine wpList_build_pz HZ.out rfl rfl ?_) | (with_reducible refine wpList_store_mid rfl 23 _ _ rfl w.heap.size 0 Z.toArray rfl rfl (there_rw hz0 (Nat.le_refl _)) hZi hZ1 ?_))
    refine bodyPost_ret (results_pol (cs := Z) rfl rfl (World.rangeAt_setCells_same _ _ _ _ (there_rw hz0 (Nat.le_refl _))) hZ4) rfl ?_
    exact ⟨_, rfl, by rw [hQ0, HZ.out]; rfl, hbV.trans (Lib.below_setCells_w (Nat.le_refl _) _ _ _)⟩
  · subst hn4
    go_upto_region 6 with (fail)
    generalize hV3 : World.alloc V2 _ = V3
    have hl : V3.heap[V2.heap.size]? = some (.cells ((Pl.lay4 []).map (Value.int .i64)).toArray 55 (0, 0)) := by rw [← hV3]; exact heap_alloc_new V2 _
    have hbV3 : Below V2.heap.size V2 V3 := by rw [← hV3]; exact (Below.refl _ _).alloc (Nat.le_refl _) _
    have hBl0 : w.heap.size ≠ V2.heap.size := by have := blk_lt hz0; omega
    have hBl1 : Bs ≠ V2.heap.size := by have := blk_lt hz1; omega
    have hBl2 : Bu ≠ V2.heap.size := by have := blk_lt hu; omega
    have hBl : w.heap.size ≤ V2.heap.size := hbV.size
    replace hu := (hbV3.block _ (blk_lt hu)).trans hu
    replace hz0 := (hbV3.block _ (blk_lt hz0)).trans hz0
    replace hz1 := (hbV3.block _ (blk_lt hz1)).trans hz1
    replace hbV := hbV.trans (hbV3.mono hbV.size)
    clear hV3 hbV3
    generalize V2.heap.size = Bl at hl hBl0 hBl1 hBl2 hBl ⊢
    have hlt4 := HH.out.2.2.2.2.1
    go_wp2_with fail
    go_loopw [23] (fun i wr => ∃ (k : Nat) (ns : List Int), k ≤ 4 ∧ i = .int .i64 k ∧ Pl.Words ws ns k ∧ wr.heap[Bl]? = some (.cells ((Pl.lay4 ns).map (Value.int .i64)).toArray 55 (0, 0)) ∧ wr.heap[Bs]? = some (.cells (strs ws).toArray 9 (0, 0)) ∧ wr.heap[Bu]? = some (.cells #[.string ⟨#[100]⟩, .string ⟨#[119]⟩, .string ⟨#[109]⟩, .string ⟨#[121]⟩] 53 (0, 0)) ∧ wr.heap[w.heap.size]? = some (.cells Z.toArray 23 (0, 0)) ∧ Below w.heap.size w wr) (fun i _ => 4 - (intOf i).toNat)
    case atStart => exact ⟨0, [], by omega, rfl, Pl.Words.zero _, hl, hz1, hu, hz0, hbV⟩
    case round =>
      clear hl hz1 hu hz0 hbV
      obtain ⟨k, ns, hk, rfl, hW, hl, hs1, hu, hz0, hb⟩ := hrel
      by_cases hk4 : k < 4
      · obtain ⟨x, hx⟩ : ∃ x, ws.getD k [] = x := ⟨_, rfl⟩
        obtain ⟨g, hg⟩ : ∃ g, Pl.unL.getD k 0 = g := ⟨_, rfl⟩
        have hwk : ws[k]? = some x := by rw [← hx, List.getD_eq_getElem?_getD, List.getElem?_eq_getElem (by omega)]; rfl
        have cs : wr.cell? ⟨Bs, k, none⟩ = some (.string ⟨x.toArray⟩) := by
          rw [cell_row wr Bs k _ _ hs1, List.getElem?_toArray]; unfold strs; rw [List.getElem?_map, hwk]; rfl
        have cu : wr.cell? ⟨Bu, k, none⟩ = some (.string ⟨#[g]⟩) := by
          rw [cell_row wr Bu k _ _ hu, ← hg]
          have : k = 0 ∨ k = 1 ∨ k = 2 ∨ k = 3 := by omega
          rcases this with rfl | rfl | rfl | rfl <;> rfl
        have hxl : x.length ≤ s.length := Pl.split_len (s := s) (by rw [HH.out.2.2.2.1]; exact List.mem_of_getElem? hwk)
        have k0 : (0 : Int) ≤ (k : Int) := by omega
        have k1 : (k : Int) < (4 : Int) := by omega
        have hns : ns.length = k := hW.1
        have hct := fun W => Tryz.strings_CutSuffix ⟨x.toArray⟩ ⟨#[g]⟩ W (by simp [ByteArray.size]; omega)
        have e1 : (⟨x.toArray⟩ : ByteArray).data.toList = x := by simp
        have e2 : (⟨#[g]⟩ : ByteArray).data.toList = [g] := rfl
        rw [e1, e2] at hct
        have hword := Pl.wordP_tests g x
        have hint := fun W hvW => int_any (Lib.trimSuffix x [g]) W (by have := Pl.trim_len g x; omega) hvW
        obtain ⟨d, hd⟩ : ∃ d, Lib.trimSuffix x [g] = d := ⟨_, rfl⟩
        obtain ⟨f, hf⟩ : ∃ f, Lib.hasSuffix x [g] = f := ⟨_, rfl⟩
        rw [hd, hf] at hword
        rw [hd] at hint
        simp only [hd, hf] at hct
        obtain ⟨v, hv⟩ : ∃ v, (Pl.intQ d).getD 0 = v := ⟨_, rfl⟩
        obtain ⟨b, hb'⟩ : ∃ b, (Pl.intQ d).isSome = b := ⟨_, rfl⟩
        rw [hv, hb'] at hword
        have hint2 : ∀ W, VNum W → Calls Tryz.prog 22 #[.string ⟨d.toArray⟩] W (RetB (fun z _ => z = .tuple #[.int .i64 v, .bool b]) W) := fun W h => by
          have := hint W h; unfold intV at this; rw [hv, hb'] at this; exact this
        have hvr := VPol.keep HH.out.2.2.2.2.2 hb (Nat.le_refl _)
        have cl : wr.cell? ⟨Bl, k, none⟩ = some (.int .i64 0) := by
          rw [cell_row wr Bl k _ _ hl, List.getElem?_toArray, List.getElem?_map]
          unfold Pl.lay4
          rw [List.getElem?_append_right (by omega), List.getElem?_replicate, if_pos (by omega)]; rfl
        have fl : wr.frozen? ⟨Bl, k, none⟩ = false := frozen_of wr Bl k _ _ hl
        have hbad : (¬ (f = true ∧ b = true ∧ 0 ≤ v ∧ v ≤ 1000)) → Q = none := fun h => by
          rw [if_neg h] at hword
          rw [← HH.out.2.2.1]
          exact Pl.ofW_bad HH.out.2.2.2.1 HH.out.2.2.2.2.1 hk4 (by rw [hg, hx]; exact hword)
        have hgood : f = true ∧ b = true ∧ 0 ≤ v ∧ v ≤ 1000 → Pl.Words ws (ns ++ [v]) (k + 1) := fun h => by
          rw [if_pos h] at hword
          exact hW.next (by rw [hg, hx]; exact hword)
        have HK := Lib.hid (And.intro hct (And.intro hint2 (And.intro hbad (And.intro hgood (And.intro hW (And.intro hl (And.intro hs1 (And.intro hu (And.intro hz0 (And.intro hb hvr))))))))))
        clear hct hint hint2 hbad hgood hW hl hs1 hu hz0 hb hvr hword hv hb' hd hf hg hx hwk e1 e2
        go_wp2_with fail
        (with_reducible refine (HK.out.1 _).mono ?_)
        rintro e w1 ⟨rfl, rfl⟩
        go_wp2_with fail
        (with_reducible refine (HK.out.2.1 _ HK.out.2.2.2.2.2.2.2.2.2.2.num).mono ?_)
        rintro e w2 ⟨vv, rfl, rfl, hb2⟩
        have hl2 := (hb2.block _ (blk_lt HK.out.2.2.2.2.2.1)).trans HK.out.2.2.2.2.2.1
        have hs2 := (hb2.block _ (blk_lt HK.out.2.2.2.2.2.2.1)).trans HK.out.2.2.2.2.2.2.1
        have hu2 := (hb2.block _ (blk_lt HK.out.2.2.2.2.2.2.2.1)).trans HK.out.2.2.2.2.2.2.2.1
        have hz2 := (hb2.block _ (blk_lt HK.out.2.2.2.2.2.2.2.2.1)).trans HK.out.2.2.2.2.2.2.2.2.1
        have hbw := HK.out.2.2.2.2.2.2.2.2.2.1.trans (hb2.mono HK.out.2.2.2.2.2.2.2.2.2.1.size)
        have cl : w2.cell? ⟨Bl, k, none⟩ = some (.int .i64 0) := (hb2.cell (p := ⟨Bl, k, none⟩) (blk_lt HK.out.2.2.2.2.2.1)).trans cl
        have fl : w2.frozen? ⟨Bl, k, none⟩ = false := frozen_of w2 Bl k _ _ hl2
        clear cs cu hb2
        have HW := Lib.hid (And.intro hl2 (And.intro hs2 (And.intro hu2 hbw))); clear hl2 hs2 hu2 hbw
        by_cases hall : f = true ∧ b = true ∧ 0 ≤ v ∧ v ≤ 1000
        · obtain ⟨rfl, rfl, h0, h1⟩ := hall
          have v0 : decide (v < 0) = false := decide_eq_false (by omega)
          have v1 : decide (1000 < v) = false := decide_eq_false (by omega)
          go_wp2_with fail
          have e : ((Pl.lay4 ns).map (Value.int .i64)).toArray.setIfInBounds k (.int .i64 v) = ((Pl.lay4 (ns ++ [v])).map (Value.int .i64)).toArray := by
            rw [List.setIfInBounds_toArray, ← List.map_set, Pl.lay4_set hns hk4]
          refine ⟨⟨k + 1, ns ++ [v], by omega, by rw [Int.natCast_add]; rfl, HK.out.2.2.2.1 (by first | exact ⟨rfl, rfl, h0, h1⟩ | exact ⟨trivial, trivial, h0, h1⟩), ?_, set_far _ _ _ _ _ _ HW.out.2.1 hBl1, set_far _ _ _ _ _ _ HW.out.2.2.1 hBl2, set_far _ _ _ _ _ _ hz2 hBl0, HW.out.2.2.2.setCell hBl _⟩, by simp [intOf]; omega⟩
          rw [set_at w2 Bl k _ _ _ HW.out.1, e]
        · have hQ0 := HK.out.2.2.1 hall
          have hall2 : f = false ∨ b = false ∨ v < 0 ∨ 1000 < v := by
            cases f <;> cases b <;> simp at hall ⊢
            omega
          clear hall
          have HQ := Lib.hid (And.intro hQ0 hall2); clear hQ0 hall2
          cases f <;> cases b <;> go_wp2_with (first | (with_reducible refine wpList_build_pz HZ.out rfl rfl ?_) | (with_reducible refine wpList_store_mid rfl 23 _ _ rfl w.heap.size 0 Z.toArray rfl rfl (there_rw hz2 (Nat.le_refl _)) hZi hZ1 ?_))
          all_goals first
            | (refine bodyPost_ret (results_pol (cs := Z) rfl rfl (World.rangeAt_setCells_same _ _ _ _ (there_rw hz2 (Nat.le_refl _))) hZ4) rfl ?_
               exact ⟨_, rfl, by rw [HQ.out.1, HZ.out]; rfl, HW.out.2.2.2.trans (Lib.below_setCells_w (Nat.le_refl _) _ _ _)⟩)
            | (exfalso; have := HQ.out.2; simp at this; omega)
      · obtain rfl : k = 4 := by omega
        obtain ⟨a, b, c, d, rfl⟩ := Pl.four_of hW.1
        rw [Pl.lay4_full rfl] at hl
        have hof := Pl.ofW_all HH.out.2.2.2.1 HH.out.2.2.2.2.1 hW
        rw [HH.out.2.2.1] at hof
        have htx := fun W h => text_any ⟨a, b, c, d⟩ W h
        obtain ⟨C, hC⟩ : ∃ C, C = polL ⟨a, b, c, d⟩ := ⟨_, rfl⟩
        have hpc : polV ⟨a, b, c, d⟩ = .agg C.toArray := by rw [hC]; rfl
        rw [hpc] at htx
        have hC4 : C.length = 4 := by rw [hC]; rfl
        have hC1 : C.toArray.all (·.oneCell') = true := by rw [hC]; exact polL_one _
        have hCi : (Tryz.prog.info? 23).map (·.size) = some C.toArray.size := by rw [List.size_toArray, hC4]; exact info_pol
        have hCl : (Tryz.prog.info? 23).map (·.size) = some C.length := by rw [hC4]; exact info_pol
        obtain ⟨t, ht⟩ : ∃ t, Pl.txP ⟨a, b, c, d⟩ = t := ⟨_, rfl⟩
        rw [ht] at htx hof
        have l0 : wr.cell? ⟨Bl, 0, none⟩ = some (.int .i64 a) := cell_row wr Bl 0 _ _ hl
        have l1 : wr.cell? ⟨Bl, 1, none⟩ = some (.int .i64 b) := cell_row wr Bl 1 _ _ hl
        have l2 : wr.cell? ⟨Bl, 2, none⟩ = some (.int .i64 c) := cell_row wr Bl 2 _ _ hl
        have l3 : wr.cell? ⟨Bl, 3, none⟩ = some (.int .i64 d) := cell_row wr Bl 3 _ _ hl
        have hvr := VPol.keep HH.out.2.2.2.2.2 hb (Nat.le_refl _)
        have HK := Lib.hid (And.intro htx (And.intro hof (And.intro ht (And.intro hb hvr)))); clear htx hof ht hb hvr hl hs1 hu hW
        go_upto_region 16 with (fail)
        generalize hV6 : World.alloc wr _ = V6
        have hp : V6.heap[wr.heap.size]? = some (.cells C.toArray 23 (0, 0)) := by rw [← hV6, hC]; exact heap_alloc_new wr _
        have hb6 : Below wr.heap.size wr V6 := by rw [← hV6]; exact (Below.refl _ _).alloc (Nat.le_refl _) _
        have hz6 := (hb6.block _ (blk_lt hz0)).trans hz0
        have hv6 := HK.out.2.2.2.2.below hb6
        have hbw6 := HK.out.2.2.2.1.trans (hb6.mono HK.out.2.2.2.1.size)
        clear hV6 hb6 l0 l1 l2 l3 hz0
        generalize wr.heap.size = Bp at hp ⊢
        have HC := Lib.hid (And.intro hC hpc); clear hC hpc
        go_wp2_with (with_reducible refine wpList_load_mid rfl 23 _ rfl Bp 0 rfl C _ (range_rw hp) Tryz.underlying23 rfl hCl ?_)
        (with_reducible refine (HK.out.1 _ hv6.num.tab).mono ?_)
        rintro e w7 ⟨vv, rfl, rfl, hb7⟩
        have hp7 := (hb7.block _ (blk_lt hp)).trans hp
        have hz7 := (hb7.block _ (blk_lt hz6)).trans hz6
        have hbw7 := hbw6.trans (hb7.mono hbw6.size)
        clear hp hz6 hbw6 hb7 hv6
        by_cases hg : t = s ∧ s ≠ []
        · have hQs : Q = some ⟨a, b, c, d⟩ := by rw [HK.out.2.1, if_pos hg]
          have q1 : (t == s) = true := by rw [hg.1]; simp
          have q2 : (s == []) = false := beq_eq_false_iff_ne.2 hg.2
          have q3 : s.isEmpty = false := by cases s with | nil => exact absurd rfl hg.2 | cons a r => rfl
          have HG := Lib.hid (And.intro hg hQs); clear hg hQs
          go_wp2_with (first | (with_reducible refine wpList_load_mid rfl 23 _ rfl Bp 0 rfl C _ (range_rw hp7) Tryz.underlying23 rfl hCl ?_) | (with_reducible refine wpList_store_mid rfl 23 _ _ rfl w.heap.size 0 C.toArray rfl rfl (there_rw hz7 (by rw [List.size_toArray, List.size_toArray, hC4, hZ4]; exact Nat.le_refl _)) hCi hC1 ?_))
          refine bodyPost_ret (results_pol (cs := C) rfl rfl (World.rangeAt_setCells_same _ _ _ _ (there_rw hz7 (by rw [List.size_toArray, hC4, hZ4]; exact Nat.le_refl _))) hC4) rfl ?_
          exact ⟨_, rfl, by rw [HG.out.2, HC.out.1]; rfl, hbw7.trans (Lib.below_setCells_w (Nat.le_refl _) _ _ _)⟩
        · have hQ0 : Q = none := by rw [HK.out.2.1, if_neg hg]
          by_cases hts : t = s
          · have hs0 : s = [] := by
              rcases Classical.em (s = []) with h | h
              · exact h
              · exact absurd ⟨hts, h⟩ hg
            have q1 : (t == s) = true := by rw [hts]; simp
            have q2 : (s == []) = true := by rw [hs0]; rfl
            have q3 : s.isEmpty = true := by rw [hs0]; rfl
            have HG := Lib.hid (And.intro hQ0 (And.intro hg (And.intro hts hs0))); clear hQ0 hg hts hs0
            go_wp2_with (first | (with_reducible refine wpList_build_pz HZ.out rfl rfl ?_) | (with_reducible refine wpList_store_mid rfl 23 _ _ rfl w.heap.size 0 Z.toArray rfl rfl (there_rw hz7 (Nat.le_refl _)) hZi hZ1 ?_))
            refine bodyPost_ret (results_pol (cs := Z) rfl rfl (World.rangeAt_setCells_same _ _ _ _ (there_rw hz7 (Nat.le_refl _))) hZ4) rfl ?_
            exact ⟨_, rfl, by rw [HG.out.1, HZ.out]; rfl, hbw7.trans (Lib.below_setCells_w (Nat.le_refl _) _ _ _)⟩
          · have q1 : (t == s) = false := beq_eq_false_iff_ne.2 hts
            have HG := Lib.hid (And.intro hQ0 (And.intro hg hts)); clear hQ0 hg hts
            go_wp2_with (first | (with_reducible refine wpList_build_pz HZ.out rfl rfl ?_) | (with_reducible refine wpList_store_mid rfl 23 _ _ rfl w.heap.size 0 Z.toArray rfl rfl (there_rw hz7 (Nat.le_refl _)) hZi hZ1 ?_))
            refine bodyPost_ret (results_pol (cs := Z) rfl rfl (World.rangeAt_setCells_same _ _ _ _ (there_rw hz7 (Nat.le_refl _))) hZ4) rfl ?_
            exact ⟨_, rfl, by rw [HG.out.1, HZ.out]; rfl, hbw7.trans (Lib.below_setCells_w (Nat.le_refl _) _ _ _)⟩
end Go.Proofs.YtmncgnmgdkdhaaaGreatDoor
