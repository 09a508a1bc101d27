/- The assembler's line word (printed by genas.py): its data grow to a multiple of four, then by four bytes. -/
import Derived.Test.YtmmnkoeajdeldaaGreatDoorAsW5
import Derived.Test.YtmmnkoeajdeldaaGreatDoorAsT8
import Derived.Test.YtmmnkoeajdeldaaGreatDoorHeldL
import Derived.Test.YtmmnkoeajdeldaaGreatDoorZeros

namespace Go.Proofs.YtmmnkoeajdeldaaGreatDoor
open Go.RowKit Go.Maps Go.WideMaps
set_option linter.unusedVariables false
set_option linter.unusedSimpArgs false
attribute [local go_sem] ba_get ba_cut ba_add fld_k fld_s fld_n
theorem step_append_runs {P : Program} {ops : Array Oper} {o : Oper} {a : Act} {w : World} {K : Act → World → Prop} {Q : Exit → Act → World → Prop} {E : Prop} (hgd : o.guard = none) (s x : Operand) (t tn : TypeId)
    (ho : o.op = .call { callee := .builtin .append, args := #[s, x], argTypes := #[t, tn] }) (vs vx : Value) (hs : a.eval s = vs) (hx : a.eval x = vx)
    (v' : Value) (w' : World) (hr : (Builtin.append_ #[t, tn] o.type #[vs, vx]).run P w = .ok v' w') (h : K (a.put o.dst v') w') :
    if Region.wanted o (yielded ops a.tmps) = true then Oper.wp P o a w K Q else E := by
  rw [if_pos (by simp [Region.wanted, hgd])]
  exact Lib.wp_append_run w s x t tn ho vs vx hs hx v' w' hr h
theorem zeroCells_one (z : Value) (n : Nat) : Builtin.zeroCells #[z] n = (List.replicate n z).toArray := by
  apply Array.ext
  · simp [Builtin.zeroCells]
  · intro i h1 h2
    simp [Builtin.zeroCells, Nat.mod_one]
/-- append of zeros of one cell, as many as one likes, to a row of the call's own. -/
theorem run_append_zeros_own {P : Program} (w : World) (base : Nat) (t tn ty e : TypeId) (z : Value) (bytes : Nat) (kn : IntKind) (ht : P.underlying t = some (.slice e)) (htn : P.underlying tn = some (.int kn)) (hi : (P.info? e).map (fun i => (i.zero, i.size, i.bytes)) = some (some z, 1, bytes)) (hzc : z.cells = #[z]) (hz1 : z.oneCell' = true)
    (v : Value) (n : Nat) (xs : List Value) (hown : w.ownsRow base e 1 v n xs) (m : Nat) (h63 : n + m ≤ maxLen) (hbytes : (n + m) * bytes ≤ 140737488355328) (hbase : base ≤ w.heap.size) :
    ∃ v' w', (Builtin.append_ #[t, tn] ty #[v, .int .i64 (m : Int)]).run P w = .ok v' w' ∧ w'.ownsRow base e 1 v' (n + m) (xs ++ List.replicate m z) ∧ w.grownBy w' v.ownBlock := by
  obtain ⟨i, hi, hz, hsz, hby⟩ := info_parts hi
  have hsmall : n + m ≤ 9223372036854775807 := by simp only [maxLen] at h63; omega
  have hw : IntKind.i64.wrap (m : Int) = m := by rw [IntKind.wrap_i64]; omega
  have hneg : ¬ ((m : Int) < 0) := by omega
  have h48i : ¬ (281474976710656 < (m : Int) * (bytes : Int)) := by
    rw [← Int.natCast_mul]
    have : m * bytes ≤ (n + m) * bytes := Nat.mul_le_mul_right _ (by omega)
    omega
  have grown : ∀ (old : Nat), old < n + m → ∀ (row : Option Nat),
      (w.drew.alloc (.cells (xs.toArray ++ Builtin.zeroCells z.cells m ++ Builtin.zeroCells z.cells (grownCap w (n + m) old e - (n + m))) e)).ownsRow base e 1
        (.slice (some ⟨w.heap.size, 0, none⟩) (n + m) (grownCap w (n + m) old e)) (n + m) (xs ++ List.replicate m z) ∧
      w.grownBy (w.drew.alloc (.cells (xs.toArray ++ Builtin.zeroCells z.cells m ++ Builtin.zeroCells z.cells (grownCap w (n + m) old e - (n + m))) e)) row := by
    intro old ho row
    have hge := grownCap_ge w (n + m) old e
    have hcm : grownCap w (n + m) old e ≤ maxLen := grownCap_le_maxLen w (n + m) old e h63
    have hxl := hown.1
    refine ⟨⟨by simp [hxl], .inr ⟨w.heap.size, _, _, rfl, hbase, heap_alloc_new w.drew _, hge, hcm, ?_, ?_⟩⟩, ⟨rfl, rfl, rfl, by simp, fun k hk _ => heap_alloc_old w.drew _ hk⟩⟩
    · rw [hzc, zeroCells_one, zeroCells_one]
      simp [hxl]
      omega
    · rw [hzc, zeroCells_one, zeroCells_one]
      simp only [Array.toList_append, List.append_assoc]
      rw [← List.append_assoc]
      exact List.take_left' (by simp [hxl])
  rcases hown.2 with ⟨rfl, rfl⟩ | ⟨g, cap, cur, rfl, hbg, hg, hnc, hcm, hcs, htake⟩
  · have hx : xs = [] := List.eq_nil_of_length_eq_zero (by simpa using hown.1)
    subst hx
    by_cases hm : m = 0
    · subst hm
      refine ⟨.slice none 0 0, w, ?_, World.ownsRow_nil w base e 1, ⟨rfl, rfl, rfl, Nat.le_refl _, fun _ _ _ => rfl⟩⟩
      have hw0 : IntKind.i64.wrap 0 = 0 := by decide
      simp [Builtin.append_, run_underlying ht, run_underlying htn, sizeOf, typeInfo, hi, asInt, asIntOf, hw0]
    · have hr := Lib.run_append_nil_zeros (P := P) w t tn ty e i z .i64 kn ht htn hi hz m (by omega) (by omega) (by omega) (by rw [hby]; have hb := hbytes; simp only [Nat.zero_add] at hb; omega)
      have hgr := grown 0 (by omega) (Value.ownBlock (.slice none 0 0))
      simp only [Nat.zero_add, List.nil_append, Array.empty_append] at hgr ⊢
      exact ⟨_, _, hr, hgr.1, hgr.2⟩
  · by_cases hroom : n + m ≤ cap
    · have hst := run_storeCells_at P g n e (List.replicate m z) 0 cur w hg (by simp; omega) (by intro u hu; rw [List.eq_of_mem_replicate hu]; exact hz1)
      simp only [Nat.add_zero] at hst
      refine ⟨.slice (some ⟨g, 0, none⟩) (n + m) cap, w.setRow g (cur.toList.take n ++ List.replicate m z ++ cur.toList.drop (n + (List.replicate m z).length)).toArray, ?_, ?_, ?_⟩
      · by_cases hm : m = 0
        · subst hm
          simp at hst
          have hn0 : n ≤ cap := by omega
          have hw0 : IntKind.i64.wrap 0 = 0 := by decide
          simp [hw0, Builtin.append_, run_underlying ht, run_underlying htn, sizeOf, typeInfo, hi, asInt, asIntOf, hsz, hn0, Addr.add_lit, hst]
        · have hns : ¬ (m * i.size = 0) := by rw [hsz]; omega
          have hzt : (List.replicate m z).toArray.toList = List.replicate m z := rfl
          simp [Builtin.append_, run_underlying ht, run_underlying htn, sizeOf, typeInfo, zeroValue, hi, hz, asInt, asIntOf, hw, hneg, hby, h48i, hsz, hm, hroom, hzc, zeroCells_one, Addr.add_lit, hst]
      · refine ⟨by simp [hown.1], .inr ⟨g, cap, _, rfl, hbg, setRow_heap w g cur _ e _ hg, hroom, hcm, ?_, ?_⟩⟩
        · simp
          omega
        · have := hown.1
          rw [Nat.mul_one] at htake
          rw [htake]
          exact List.take_left' (by simp [hown.1])
      · exact ⟨rfl, rfl, rfl, by simp, fun k _ hk => setRow_other w g k _ (fun e => hk (by simp [Value.ownBlock, e]))⟩
    · have holds : ∀ j u, xs[j]? = some u → w.cell? ((⟨g, 0, none⟩ : Addr).add j) = some u := hown.cells (g := g) rfl
      have hr := run_append_zeros (P := P) w t tn ty e i z .i64 kn ht htn hi hz ⟨g, 0, none⟩ n cap m xs (by rw [hsz]; exact hown.1) holds (by omega) (by omega) (by omega) (by omega) (by rw [hby]; exact hbytes)
      have hgr := grown cap (by omega) (Value.ownBlock (.slice (some ⟨g, 0, none⟩) n cap))
      exact ⟨_, _, hr, hgr.1, hgr.2⟩
theorem name_data (s : List UInt8) (o a : Nat) (S : Pl.St) (d : List UInt8) : Pl.nameP s o a { S with data := d } = match Pl.nameP s o a S with | .error e => .error e | .ok S1 => .ok { S1 with data := d } := by
  unfold Pl.nameP
  by_cases h : (Pl.lookN s S.names).isSome = true
  · simp [h]
  · simp [h]
/-- append of some elements of one cell, told as a slice, to a row of the call's own: which blocks stand as they were. -/
theorem push_list_g {P : Program} {ops : Array Oper} {rest : List Oper} {o : Oper} {a : Act} {Q : Exit → Act → World → Prop} (hgd : o.guard = none) (s x : Operand) (t : TypeId)
    (ho : o.op = .call { callee := .builtin .append, args := #[s, x], argTypes := #[t, t] })
    (base : Nat) (e : TypeId) (z : Value) (bytes : Nat) (ht : P.underlying t = some (.slice e)) (hi : (P.info? e).map (fun i => (i.zero, i.size, i.bytes)) = some (some z, 1, bytes)) (hzs : z.cells.size = 1)
    (w : World) (v : Value) (n : Nat) (xs ys : List Value) (m : Nat) (hm : ys.length = m) (hs : a.eval s = v) (hown : w.ownsRow base e 1 v n xs) (hx : a.eval x = .slice (some ⟨w.heap.size, 0, none⟩) m m) (h1 : ∀ u ∈ ys, u.oneCell' = true)
    (hbytes : (n + m) * bytes ≤ 140737488355328) (hb0 : 1 ≤ bytes) (hbase : base ≤ w.heap.size)
    (h : ∀ A' c' w', w'.ownsRow base e 1 (.slice A' (n + m) c') (n + m) (xs ++ ys) → Below base w w' → (∀ G, G < w.heap.size → v.ownBlock ≠ some G → w'.heap[G]? = w.heap[G]?) → wpList P ops Q rest (a.put o.dst (.slice A' (n + m) c')) w') : wpList P ops Q (o :: rest) a (w.alloc (.cells ys.toArray e)) := by
  obtain ⟨i0, hi0, hz0, hz1, hz2⟩ := info_parts hi
  refine wpList_append_own _ hgd s x t ho base e i0 z 1 bytes ht hi0 hz0 hz1 hz2 hzs (by decide) v n xs hs (hown.alloc _) ⟨w.heap.size, 0, none⟩ m m ys hx (by rw [hm, Nat.mul_one]) ?_ h1 ?_ hbytes (by simp; omega) ?_
  · intro j u hu
    rw [addr_add, cell_row _ _ (0 + j) _ _ (heap_alloc_new _ _)]
    simpa using hu
  · have : n + m ≤ (n + m) * bytes := Nat.le_mul_of_pos_right _ hb0
    simp only [maxLen]; omega
  · intro v' w' h2 h3 _
    obtain ⟨A', c', rfl⟩ := own_form' h2
    refine h A' c' w' h2 (((Below.refl _ _).alloc hbase _).trans (below_own (hown.alloc _) h3 (by simp; omega))) fun G hG hne => ?_
    rw [h3.block G (by simp; omega) (fun h => hne h.symm)]
    exact Below.heap_alloc _ _ _ hG
set_option maxRecDepth 100000 in
set_option maxHeartbeats 1000000 in
theorem number_any (H A M ln : Nat) (S : Pl.St) (Z : AsV) (Y : List (List UInt8 × Value)) (l : List Pl.Tk) (w : World) (hA : AsAt w H A ln S Z Y) (hT : TkAt w A M Z.r l) (hN : S.data.length ≤ 900000000) (hN2 : S.names.length ≤ 900000) (hsl : ∀ t ∈ l, t.s.length ≤ 1000000 ∧ True) :
    Calls Tryz.prog 61 #[.pointer (some ⟨A, 0, none⟩)] w (LnQ w H A ln Z Y (Pl.wordP4 l S)) := by
  obtain ⟨R, hR⟩ : ∃ R, Pl.wordP4 l S = R := ⟨_, rfl⟩
  rw [hR]
  have HR0 : Hid ((do let (s, l) ← Pl.wantP 0 l; let (t, l) ← Pl.wantP 1 l; Pl.endP l; Pl.inP t.n (-2147483648) 4294967295; let S1 ← Pl.nameP s.s 1 (Pl.up S.data.length 4) S; .ok { S1 with data := S.data ++ List.replicate (Pl.up S.data.length 4 - S.data.length) 0 ++ Pl.putB (Pl.u32N t.n) 4 }) = R) := Lib.hid hR
  have HA0 := Lib.hid hA
  have HT0 := Lib.hid hT
  have HG0 := Lib.hid (LnK.refl w H A Z.n)
  have HS0 : Hid (∀ x ∈ l, x ∈ l) := Lib.hid fun x hx => hx
  clear hR hA hT
  have HC0 := Lib.hid (want_any A M ln _ 0 0 rfl l w HA0.out.box HT0.out)
  go_enter Tryz.func61, Tryz.ntmps61
  go_wp2_with fail
  (with_reducible refine HC0.out.mono ?_)
  rintro x w1 ⟨hg, h⟩
  have hr := HR0.out
  rcases hE : Pl.wantP 0 l with e | ⟨s, l1⟩
  · rw [hE] at h hr
    obtain rfl := h
    subst hr
    exact ⟨rfl, HG0.out.trans (LnK.box hg HA0.out.hi), rfl⟩
  rw [hE] at h hr
  obtain ⟨rfl, v, hB1, hT1⟩ := h
  have HR1 : Hid ((do let (t, l) ← Pl.wantP 1 l1; Pl.endP l; Pl.inP t.n (-2147483648) 4294967295; let S1 ← Pl.nameP s.s 1 (Pl.up S.data.length 4) S; .ok { S1 with data := S.data ++ List.replicate (Pl.up S.data.length 4 - S.data.length) 0 ++ Pl.putB (Pl.u32N t.n) 4 }) = R) := Lib.hid hr
  have HG1 := Lib.hid (HG0.out.trans (LnK.box (N := Z.n) hg HA0.out.hi))
  have HA1 := Lib.hid (HA0.out.step hg hB1)
  have HT1 := Lib.hid hT1
  have HMs : Hid (s ∈ l) := Lib.hid (HS0.out _ (want_mem hE).1)
  have HS1 : Hid (∀ x ∈ l1, x ∈ l) := Lib.hid fun x hx => HS0.out x ((want_mem hE).2 x hx)
  clear hg hE hB1 hT1 hr HC0 HR0 HG0 HA0 HT0
  rw [show tkV s = .agg #[.int .i64 (s.k : Int), .string ⟨s.s.toArray⟩, .int .i64 s.n] from rfl]
  have HC1 := Lib.hid (want_any A M ln _ 1 1 rfl l1 w1 HA1.out.box HT1.out)
  go_wp2_with fail
  (with_reducible refine HC1.out.mono ?_)
  rintro x w2 ⟨hg, h⟩
  have hr := HR1.out
  rcases hE : Pl.wantP 1 l1 with e | ⟨t, l2⟩
  · rw [hE] at h hr
    obtain rfl := h
    subst hr
    exact ⟨rfl, HG1.out.trans (LnK.box hg HA1.out.hi), rfl⟩
  rw [hE] at h hr
  obtain ⟨rfl, v, hB1, hT1⟩ := h
  have HR2 : Hid ((do Pl.endP l2; Pl.inP t.n (-2147483648) 4294967295; let S1 ← Pl.nameP s.s 1 (Pl.up S.data.length 4) S; .ok { S1 with data := S.data ++ List.replicate (Pl.up S.data.length 4 - S.data.length) 0 ++ Pl.putB (Pl.u32N t.n) 4 }) = R) := Lib.hid hr
  have HG2 := Lib.hid (HG1.out.trans (LnK.box (N := Z.n) hg HA1.out.hi))
  have HA2 := Lib.hid (HA1.out.step hg hB1)
  have HT2 := Lib.hid hT1
  have HMt : Hid (t ∈ l) := Lib.hid (HS1.out _ (want_mem hE).1)
  have HS2 : Hid (∀ x ∈ l2, x ∈ l) := Lib.hid fun x hx => HS1.out x ((want_mem hE).2 x hx)
  clear hg hE hB1 hT1 hr HC1 HR1 HG1 HA1 HT1
  rw [show tkV t = .agg #[.int .i64 (t.k : Int), .string ⟨t.s.toArray⟩, .int .i64 t.n] from rfl]
  have HC := Lib.hid (end_any A M ln _ l2 w2 HA2.out.box HT2.out)
  go_wp2_with fail
  (with_reducible refine HC.out.mono ?_)
  rintro x wz ⟨rfl, h⟩
  have hr := HR2.out
  rcases hE : Pl.endP l2 with e | u
  · rw [hE] at h hr
    obtain rfl := h
    subst hr
    exact ⟨rfl, HG2.out, rfl⟩
  rw [hE] at h hr
  obtain rfl := h
  replace HR2 : Hid ((do Pl.inP t.n (-2147483648) 4294967295; let S1 ← Pl.nameP s.s 1 (Pl.up S.data.length 4) S; .ok { S1 with data := S.data ++ List.replicate (Pl.up S.data.length 4 - S.data.length) 0 ++ Pl.putB (Pl.u32N t.n) 4 }) = R) := Lib.hid hr
  clear hr hE HC HT2
  have HC := Lib.hid (within_any A ln _ t.n (-2147483648) 4294967295 wz HA2.out.box)
  go_wp2_with fail
  (with_reducible refine HC.out.mono ?_)
  rintro x wy ⟨rfl, h⟩
  have hr := HR2.out
  by_cases hin : t.n < -2147483648 ∨ 4294967295 < t.n
  · have hE : Pl.inP t.n (-2147483648) 4294967295 = .error 2 := by unfold Pl.inP; rw [if_pos hin]
    rw [hE] at h hr
    obtain rfl := h
    subst hr
    exact ⟨rfl, HG2.out, rfl⟩
  have hE : Pl.inP t.n (-2147483648) 4294967295 = .ok () := by unfold Pl.inP; rw [if_neg hin]
  rw [hE] at h hr
  obtain rfl := h
  replace HR2 : Hid ((do let S1 ← Pl.nameP s.s 1 (Pl.up S.data.length 4) S; .ok { S1 with data := S.data ++ List.replicate (Pl.up S.data.length 4 - S.data.length) 0 ++ Pl.putB (Pl.u32N t.n) 4 }) = R) := Lib.hid hr
  clear hr hE HC
  obtain ⟨m, hm⟩ : ∃ m, Pl.u32N t.n = m := ⟨_, rfl⟩
  obtain ⟨n, hn⟩ : ∃ n, t.n = n := ⟨_, rfl⟩
  rw [hm] at HR2
  rw [hn] at hm hin
  have hm1 : m < 4294967296 := by rw [← hm]; unfold Pl.u32N; omega
  have hu : IntKind.u32.wrap n = (m : Int) := by rw [IntKind.wrap_u32, ← hm]; unfold Pl.u32N; omega
  clear hm hin
  rw [hn]
  obtain ⟨q, hq⟩ : ∃ q, Pl.up S.data.length 4 = S.data.length + q := ⟨Pl.up S.data.length 4 - S.data.length, by unfold Pl.up; omega⟩
  have hq3 : q ≤ 3 := by unfold Pl.up at hq; omega
  have hU : ∀ W, Calls Tryz.prog 40 #[.int .i64 (S.data.length : Int), .int .i64 4] W (Ret (.int .i64 ((S.data.length : Int) + (q : Int))) W) := fun W => by
    have := up4_any S.data.length _ rfl W (by omega)
    rw [hq] at this
    simpa using this
  have HQ := Lib.hid hq
  obtain ⟨N, hNl⟩ : ∃ N, S.data.length = N := ⟨_, rfl⟩
  rw [hNl] at hU hN
  have HU := Lib.hid hU
  clear hq hU
  have HAd := Lib.hid (HA2.out.new (Below.refl _ _).drew)
  have HWd := Lib.hid ((Below.refl (wy).heap.size (wy)).drew)
  obtain ⟨oA, oc, hoe⟩ := own_form' HAd.out.data
  rw [hNl] at hoe
  have h4 : (wy).drew.cell? ⟨A, 3, none⟩ = some (.slice oA N oc) := by rw [← hoe]; exact HAd.out.box.c3
  go_upto_region 4 with (fail)
  obtain ⟨W0, hW0⟩ : ∃ W0, (wy).drew = W0 := ⟨_, rfl⟩
  rw [hW0] at HAd HWd h4
  have hrow := HAd.out.data
  rw [hoe, hNl] at hrow
  obtain ⟨dv, W2, hrun, hown2, hg2⟩ := run_append_zeros_own (P := Tryz.prog) W0 H 59 3 59 5 (.int .u8 0) 1 .i64 Tryz.underlying59 Tryz.underlying3 info_u8b rfl rfl _ _ _ hrow q (by simp only [maxLen]; omega) (by omega) HAd.out.hi
  obtain ⟨dA, dc, rfl⟩ := own_form' hown2
  have hb2 := below_own hrow hg2 HAd.out.hi
  have hA2 := HAd.out.pushD (W4 := W2) (v := .slice dA (N + q) dc) (x := List.replicate q 0) (by rw [hNl]; simpa [u8C] using hown2) hb2 (fun G hG hne => hg2.block G hG (fun e => hne (by rw [hoe, e])))
  have hbx := HAd.out.box.below hb2 HAd.out.lo
  have h42 := hbx.c3
  rw [hoe] at h42
  have hf42 := hbx.froz 3
  have hAlt := hbx.lt
  have HX := Lib.hid (And.intro hb2 hA2)
  clear hown2 hg2 hb2 hA2 hrow hbx
  rw [show ((q : Nat) : Int) = (q : Int) from rfl] at hrun
  rw [← hW0] at h4
  have hsub : IntKind.i64.wrap ((N : Int) + (q : Int) - (N : Int)) = (q : Int) := by rw [IntKind.wrap_i64]; omega
  refine wp_regionL 20 (fun w' => w'.cell? ⟨A, 3, none⟩ = some (.slice oA N oc)) (by kernel_rfl) (by exact h4) (fun hHeld => ?_)
  refine takeL (i := 0) (v := ?_) rfl (by kernel_rfl) (by kernel_rfl) (by kernel_rfl) (by kernel_rfl) (by kernel_rfl) (by decide) (fun _ _ _ h => h) (Or.inl ⟨by kernel_rfl, ?_⟩) hHeld ?_
  rotate_left
  · (intro w' hSw; (try dsimp only at hSw); go_simp; try with_reducible rfl)
  simp only [Act.put, List.setIfInBounds_toArray, List.set_cons_zero, List.set_cons_succ, List.getElem_toArray, List.getElem_cons_succ, List.getElem_cons_zero]
  refine takeL (i := 1) (v := ?_) rfl (by kernel_rfl) (by kernel_rfl) (by kernel_rfl) (by kernel_rfl) (by kernel_rfl) (by decide) (fun _ _ _ h => h) (Or.inl ⟨by kernel_rfl, ?_⟩) hHeld ?_
  rotate_left
  · (intro w' hSw; (try dsimp only at hSw); go_simp; try with_reducible rfl)
  simp only [Act.put, List.setIfInBounds_toArray, List.set_cons_zero, List.set_cons_succ, List.getElem_toArray, List.getElem_cons_succ, List.getElem_cons_zero]
  refine takeL (i := 2) (v := ?_) rfl (by kernel_rfl) (by kernel_rfl) (by kernel_rfl) (by kernel_rfl) (by kernel_rfl) (by decide) (fun _ _ _ h => h) (Or.inl ⟨by kernel_rfl, ?_⟩) hHeld ?_
  rotate_left
  · (intro w' hSw; (try dsimp only at hSw); go_simp; try with_reducible rfl)
  simp only [Act.put, List.setIfInBounds_toArray, List.set_cons_zero, List.set_cons_succ, List.getElem_toArray, List.getElem_cons_succ, List.getElem_cons_zero]
  refine takeL (i := 3) (v := ?_) rfl (by kernel_rfl) (by kernel_rfl) (by kernel_rfl) (by kernel_rfl) (by kernel_rfl) (by decide) (fun _ _ _ h => h) (Or.inl ⟨by kernel_rfl, ?_⟩) hHeld ?_
  rotate_left
  · (intro w' hSw; (try dsimp only at hSw); go_simp; try with_reducible rfl)
  simp only [Act.put, List.setIfInBounds_toArray, List.set_cons_zero, List.set_cons_succ, List.getElem_toArray, List.getElem_cons_succ, List.getElem_cons_zero]
  refine takeL (i := 4) (v := ?_) rfl (by kernel_rfl) (by kernel_rfl) (by kernel_rfl) (by kernel_rfl) (by kernel_rfl) (by decide) (fun _ _ _ h => h) (Or.inl ⟨by kernel_rfl, ?_⟩) hHeld ?_
  rotate_left
  · (intro w' hSw; (try dsimp only at hSw); go_simp; try with_reducible rfl)
  simp only [Act.put, List.setIfInBounds_toArray, List.set_cons_zero, List.set_cons_succ, List.getElem_toArray, List.getElem_cons_succ, List.getElem_cons_zero]
  refine takeL (i := 5) (v := ?_) rfl (by kernel_rfl) (by kernel_rfl) (by kernel_rfl) (by kernel_rfl) (by kernel_rfl) (by decide) (fun _ _ _ h => h) (Or.inl ⟨by kernel_rfl, ?_⟩) hHeld ?_
  rotate_left
  · (intro w' hSw; (try dsimp only at hSw); go_simp; try with_reducible rfl)
  simp only [Act.put, List.setIfInBounds_toArray, List.set_cons_zero, List.set_cons_succ, List.getElem_toArray, List.getElem_cons_succ, List.getElem_cons_zero]
  refine takeL (i := 6) (v := ?_) rfl (by kernel_rfl) (by kernel_rfl) (by kernel_rfl) (by kernel_rfl) (by kernel_rfl) (by decide) (fun _ _ _ h => h) (Or.inl ⟨by kernel_rfl, ?_⟩) hHeld ?_
  rotate_left
  · (intro w' hSw; (try dsimp only at hSw); go_simp; try with_reducible rfl)
  simp only [Act.put, List.setIfInBounds_toArray, List.set_cons_zero, List.set_cons_succ, List.getElem_toArray, List.getElem_cons_succ, List.getElem_cons_zero]
  refine takeL (i := 7) (v := ?_) rfl (by kernel_rfl) (by kernel_rfl) (by kernel_rfl) (by kernel_rfl) (by kernel_rfl) (by decide) (fun _ _ _ h => h) (Or.inl ⟨by kernel_rfl, ?_⟩) hHeld ?_
  rotate_left
  · (intro w' hSw; (try dsimp only at hSw); go_simp; try with_reducible rfl)
  simp only [Act.put, List.setIfInBounds_toArray, List.set_cons_zero, List.set_cons_succ, List.getElem_toArray, List.getElem_cons_succ, List.getElem_cons_zero]
  refine takeL (i := 8) (v := ?_) rfl (by kernel_rfl) (by kernel_rfl) (by kernel_rfl) (by kernel_rfl) (by kernel_rfl) (by decide) (fun _ _ _ h => h) (Or.inl ⟨by kernel_rfl, ?_⟩) hHeld ?_
  rotate_left
  · (intro w' hSw; (try dsimp only at hSw); go_simp; try with_reducible rfl)
  simp only [Act.put, List.setIfInBounds_toArray, List.set_cons_zero, List.set_cons_succ, List.getElem_toArray, List.getElem_cons_succ, List.getElem_cons_zero]
  refine takeL (i := 9) (v := ?_) rfl (by kernel_rfl) (by kernel_rfl) (by kernel_rfl) (by kernel_rfl) (by kernel_rfl) (by decide) (fun _ _ _ h => h) (Or.inl ⟨by kernel_rfl, ?_⟩) hHeld ?_
  rotate_left
  · (intro w' hSw; (try dsimp only at hSw); go_simp; try with_reducible rfl)
  simp only [Act.put, List.setIfInBounds_toArray, List.set_cons_zero, List.set_cons_succ, List.getElem_toArray, List.getElem_cons_succ, List.getElem_cons_zero]
  refine stillL (i := 10) (v := (.int .i64 ((N : Int) + (q : Int)))) rfl (by kernel_rfl) (by kernel_rfl) (by kernel_rfl) (by kernel_rfl) (by kernel_rfl) (by decide) (fun _ _ _ h => h) ⟨by rfl, _, _, fun w' hSw => ⟨?_, (HU.out w')⟩⟩ hHeld ?_
  · (try dsimp only at hSw); go_simp; try with_reducible rfl
  simp only [Act.put, List.setIfInBounds_toArray, List.set_cons_zero, List.set_cons_succ, List.getElem_toArray, List.getElem_cons_succ, List.getElem_cons_zero]
  refine takeL (i := 11) (v := ?_) rfl (by kernel_rfl) (by kernel_rfl) (by kernel_rfl) (by kernel_rfl) (by kernel_rfl) (by decide) (fun _ _ _ h => h) (Or.inl ⟨by kernel_rfl, ?_⟩) hHeld ?_
  rotate_left
  · (intro w' hSw; (try dsimp only at hSw); go_simp; try with_reducible rfl)
  simp only [Act.put, List.setIfInBounds_toArray, List.set_cons_zero, List.set_cons_succ, List.getElem_toArray, List.getElem_cons_succ, List.getElem_cons_zero]
  refine takeL (i := 12) (v := ?_) rfl (by kernel_rfl) (by kernel_rfl) (by kernel_rfl) (by kernel_rfl) (by kernel_rfl) (by decide) (fun _ _ _ h => h) (Or.inl ⟨by kernel_rfl, ?_⟩) hHeld ?_
  rotate_left
  · (intro w' hSw; (try dsimp only at hSw); go_simp; try with_reducible rfl)
  simp only [Act.put, List.setIfInBounds_toArray, List.set_cons_zero, List.set_cons_succ, List.getElem_toArray, List.getElem_cons_succ, List.getElem_cons_zero]
  refine takeL (i := 13) (v := ?_) rfl (by kernel_rfl) (by kernel_rfl) (by kernel_rfl) (by kernel_rfl) (by kernel_rfl) (by decide) (fun _ _ _ h => h) (Or.inl ⟨by kernel_rfl, ?_⟩) hHeld ?_
  rotate_left
  · (intro w' hSw; (try dsimp only at hSw); go_simp; try with_reducible rfl)
  simp only [Act.put, List.setIfInBounds_toArray, List.set_cons_zero, List.set_cons_succ, List.getElem_toArray, List.getElem_cons_succ, List.getElem_cons_zero]
  refine takeL (i := 14) (v := ?_) rfl (by kernel_rfl) (by kernel_rfl) (by kernel_rfl) (by kernel_rfl) (by kernel_rfl) (by decide) (fun _ _ _ h => h) (Or.inl ⟨by kernel_rfl, ?_⟩) hHeld ?_
  rotate_left
  · (intro w' hSw; (try dsimp only at hSw); go_simp; try with_reducible rfl)
  simp only [Act.put, List.setIfInBounds_toArray, List.set_cons_zero, List.set_cons_succ, List.getElem_toArray, List.getElem_cons_succ, List.getElem_cons_zero]
  refine takeL (i := 15) (v := ?_) rfl (by kernel_rfl) (by kernel_rfl) (by kernel_rfl) (by kernel_rfl) (by kernel_rfl) (by decide) (fun _ _ _ h => h) (Or.inl ⟨by kernel_rfl, ?_⟩) hHeld ?_
  rotate_left
  · (intro w' hSw; (try dsimp only at hSw); go_simp; try with_reducible rfl)
  simp only [Act.put, List.setIfInBounds_toArray, List.set_cons_zero, List.set_cons_succ, List.getElem_toArray, List.getElem_cons_succ, List.getElem_cons_zero]
  refine takeL (i := 16) (v := ?_) rfl (by kernel_rfl) (by kernel_rfl) (by kernel_rfl) (by kernel_rfl) (by kernel_rfl) (by decide) (fun _ _ _ h => h) (Or.inl ⟨by kernel_rfl, ?_⟩) hHeld ?_
  rotate_left
  · (intro w' hSw; (try dsimp only at hSw); go_simp; try with_reducible rfl)
  simp only [Act.put, List.setIfInBounds_toArray, List.set_cons_zero, List.set_cons_succ, List.getElem_toArray, List.getElem_cons_succ, List.getElem_cons_zero]
  rw [hW0] at h4 ⊢
  refine readyL (rs := [17]) (by kernel_rfl) (by simp) (ReadyL.cons rfl (by decide) (fun K hK => ?_) ReadyL.nil)
  refine step_append_runs rfl (.tmp 20) (.tmp 32) 59 3 rfl _ _ (by rfl) (by rfl) _ _ hrun ?_
  refine hK.out _ _ (by exact h42) (fun hHeld => ?_)
  clear hK K
  (try simp only [Act.put, List.setIfInBounds_toArray, List.set_cons_zero, List.set_cons_succ, List.getElem_toArray, List.getElem_cons_succ, List.getElem_cons_zero])
  refine readyL (rs := [18]) (by kernel_rfl) (by simp) (ReadyL.cons rfl (by decide) (fun K hK => ?_) ReadyL.nil)
  go_simp
  refine hK.out _ _ (by exact h42) (fun hHeld => ?_)
  clear hK K
  (try simp only [Act.put, List.setIfInBounds_toArray, List.set_cons_zero, List.set_cons_succ, List.getElem_toArray, List.getElem_cons_succ, List.getElem_cons_zero])
  refine takeL (i := 19) (v := ?_) rfl (by kernel_rfl) (by kernel_rfl) (by kernel_rfl) (by kernel_rfl) (by kernel_rfl) (by decide) (fun _ _ _ h => h) (Or.inl ⟨by kernel_rfl, ?_⟩) hHeld ?_
  rotate_left
  · (intro w' hSw; (try dsimp only at hSw); go_simp; try with_reducible rfl)
  simp only [Act.put, List.setIfInBounds_toArray, List.set_cons_zero, List.set_cons_succ, List.getElem_toArray, List.getElem_cons_succ, List.getElem_cons_zero]
  refine readyL (rs := [20]) (by kernel_rfl) (by simp) (ReadyL.last rfl (fun K hK => ?_))
  go_simp
  refine hK.out _ _ ?_
  clear hK K
  (try simp only [Act.put, List.setIfInBounds_toArray, List.set_cons_zero, List.set_cons_succ, List.getElem_toArray, List.getElem_cons_succ, List.getElem_cons_zero])
  refine doneL (by kernel_rfl) ?_ _
  clear hsub h4 hf42 hAlt hrun hW0 hHeld h42
  obtain ⟨W3, hW3⟩ : ∃ W3, W2.setCell ⟨A, 3, none⟩ (.slice dA (N + q) dc) = W3 := ⟨_, rfl⟩
  rw [hW3] at HX ⊢
  have hk3 : LnK W2 W3 H A Z.n := by
    rw [← hW3]
    exact ⟨rfl, rfl, rfl, by simp [World.setCell], fun k _ h2 _ => Below.heap_setCell _ _ _ _ (by show k ≠ A; exact h2)⟩
  have hk2 : LnK W0 W2 H A Z.n := ⟨HX.out.1.os, HX.out.1.tape, HX.out.1.output, HX.out.1.size, fun k h1 _ _ => HX.out.1.block k h1⟩
  have hk0 : LnK (wy) W0 H A Z.n := ⟨HWd.out.os, HWd.out.tape, HWd.out.output, HWd.out.size, fun k h1 _ _ => HWd.out.block k (Nat.lt_of_lt_of_le h1 HA2.out.hi)⟩
  have HG := Lib.hid (((HG2.out.trans hk0).trans hk2).trans hk3)
  clear hW3 hk3 hk2 hk0
  have HA3 := Lib.hid HX.out.2
  have h43 := HX.out.2.box.c3
  have hA3 := HX.out.2.box.lt
  have HC := Lib.hid (fun av h => name_any H A ln _ _ Y s.s 1 (N + q) 1 av rfl h W3 HA3.out (hsl s HMs.out).1 (by show S.names.length ≤ 1000000; omega))
  rw [name_data] at HC
  have hr := HR2.out
  rw [HQ.out, hNl, Nat.add_sub_cancel_left] at hr
  clear HX HU
  go_wp2_with fail
  (with_reducible refine (HC.out _ (by omega)).mono ?_)
  rintro x w4 ⟨hk, h⟩
  rcases hE : Pl.nameP s.s 1 (N + q) S with e | S1
  · rw [hE] at h hr
    obtain rfl := h
    subst hr
    exact ⟨rfl, HG.out.trans hk, rfl⟩
  rw [hE] at h hr
  obtain ⟨rfl, hA4⟩ := h
  have HR9 : Hid (Except.ok { S1 with data := S.data ++ List.replicate q 0 ++ Pl.putB m 4 } = R) := Lib.hid hr
  have hl4 : (S.data ++ List.replicate q 0).length = N + q := by simp [hNl]
  have hrow : w4.ownsRow H 5 1 (.slice dA (N + q) dc) (S.data ++ List.replicate q 0).length (u8C (S.data ++ List.replicate q 0)) := hA4.data
  rw [hl4] at hrow
  have h44 := hA4.box.c3
  have hlt4 := hA4.box.lt
  have HY := Lib.hid (And.intro hk (And.intro hA4 (And.intro hl4 (And.intro hrow hA4.hi))))
  clear hk hA4 hr hE HC hrow h43 hA3 hl4
  go_upto_region 7 with (fail)
  go_wp2_with (at_builtin; refine push_list_g rfl (.tmp 50) (.tmp 62) 59 rfl H 5 (.int .u8 0) 1 Tryz.underlying59 info_u8b rfl w4 (.slice dA (N + q) dc) _ _ _ 4 rfl rfl HY.out.2.2.2.1 rfl (by intro u hu; simp at hu; rcases hu with rfl | rfl | rfl | rfl <;> rfl) (by omega) (by decide) HY.out.2.2.2.2 ?_; intro A5 c5 w5 hown5 hb5 hblk5; have hbx := HY.out.2.1.box.below hb5 HY.out.2.1.lo; have h45 := hbx.c3; have hf5 := hbx.froz 3; have hlt5 := hbx.lt; have HO := Lib.hid (And.intro hown5 (And.intro hb5 hblk5)); clear hb5 hblk5 hbx)
  refine bodyPost_end (results_none rfl _ _ _) rfl ?_
  rw [← HR9.out]
  have ho := HO.out.1
  have hpb : ([.int .u8 ((m : Int) % 256), .int .u8 ((m : Int) / 256 % 256), .int .u8 ((m : Int) / 65536 % 256), .int .u8 ((m : Int) / 16777216)] : List Value) = u8C (Pl.putB m 4) := by
    have h1 : (UInt8.ofNat m).toNat = m % 256 := by simp
    have h2 : (UInt8.ofNat (m / 256)).toNat = m / 256 % 256 := by simp
    have h3 : (UInt8.ofNat (m / 65536)).toNat = m / 65536 % 256 := by simp
    have h4 : (UInt8.ofNat (m / 16777216)).toNat = m / 16777216 := by simp; omega
    have hp : Pl.putB m 4 = [UInt8.ofNat m, UInt8.ofNat (m / 256), UInt8.ofNat (m / 65536), UInt8.ofNat (m / 16777216)] := by simp [Pl.putB, List.range, List.range.loop]
    rw [hp]
    simp only [u8C, List.map_cons, List.map_nil, h1, h2, h3, h4]
    rfl
  rw [hpb] at ho
  have hf := HY.out.2.1.pushD (W4 := w5) (v := .slice A5 (N + q + 4) c5) (x := Pl.putB m 4) (by show w5.ownsRow _ _ _ _ ((S.data ++ List.replicate q 0).length + 4) _; rw [HY.out.2.2.1]; exact ho) HO.out.2.1 (fun G hG hne => HO.out.2.2 G hG hne)
  have k2 : LnK w4 w5 H A Z.n := ⟨HO.out.2.1.os, HO.out.2.1.tape, HO.out.2.1.output, HO.out.2.1.size, fun k h1 _ _ => HO.out.2.1.block k h1⟩
  have k3 : ∀ u, LnK w5 (w5.setCell ⟨A, 3, none⟩ u) H A Z.n := fun u => ⟨rfl, rfl, rfl, by simp [World.setCell], fun k _ h2 _ => Below.heap_setCell _ _ _ _ (by show k ≠ A; exact h2)⟩
  exact ⟨((HG.out.trans HY.out.1).trans k2).trans (k3 _), rfl, ⟨v, Z.p, .slice A5 (N + q + 4) c5, Z.o, Z.s, Z.n, Z.y⟩, rfl, rfl, rfl, hf⟩

end Go.Proofs.YtmmnkoeajdeldaaGreatDoor
