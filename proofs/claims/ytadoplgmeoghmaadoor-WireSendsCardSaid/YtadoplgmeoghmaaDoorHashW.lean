/- The walks of hash's Of and the document's: the digest of a text. '==' of two digests: just if the bytes are the same. -/
import Derived.Test.YtadoplgmeoghmaaDoorMfMem
import Derived.Test.YtadoplgmeoghmaaDoorNumW2
import Derived.Deep.QuietTactic
import Derived.BigQuiet
import Derived.Deep.Cut
import Derived.Lib.EndianMore
import Derived.DeepKeys
namespace Go.Proofs.YtadoplgmeoghmaaDoor
open Go.RowKit
set_option linter.unusedVariables false
set_option linter.unusedSimpArgs false
attribute [local go_sem] ba_get

theorem ret_quiet {f : FuncId} {args : Array Value} {w : World} {n : Nat} {v : Value} (h : ∀ w, Calls Tryd.prog f args w (Ret v w)) : Calls Tryd.prog f args (w.drewN n) fun e w'' => e = .returned v ∧ ∃ m, w'' = w.drewN m :=
  (h _).mono fun _ _ ⟨he, hw⟩ => ⟨he, n, hw.symm⟩
def halfV (o : Option Nat) : Value := .tuple #[.int .u8 ((o.getD 0 : Nat) : Int), .bool o.isSome]
def halfI (o : Option Nat) : Int := match o with | some x => (x : Int) | none => -1
theorem half_dig {c : UInt8} (h : 48 ≤ c.toNat ∧ c.toNat ≤ 57) : Pl.halfN c = some (c.toNat - 48) := by unfold Pl.halfN; rw [if_pos h]
theorem half_let {c : UInt8} (h0 : ¬ (48 ≤ c.toNat ∧ c.toNat ≤ 57)) (h : 97 ≤ c.toNat ∧ c.toNat ≤ 102) : Pl.halfN c = some (c.toNat - 87) := by unfold Pl.halfN; rw [if_neg h0, if_pos h]
theorem half_no {c : UInt8} (h0 : ¬ (48 ≤ c.toNat ∧ c.toNat ≤ 57)) (h : ¬ (97 ≤ c.toNat ∧ c.toNat ≤ 102)) : Pl.halfN c = none := by unfold Pl.halfN; rw [if_neg h0, if_neg h]
set_option maxRecDepth 100000 in
theorem half_any (c : UInt8) (w : World) : Calls Tryd.prog 59 #[.int .u8 (c.toNat : Int)] w (Ret (halfV (Pl.halfN c)) w) := by
  have hcb : c.toNat < 256 := c.toNat_lt
  obtain ⟨x, hx⟩ : ∃ x, c.toNat = x := ⟨_, rfl⟩
  obtain ⟨Q, hQ⟩ : ∃ Q, Pl.halfN c = Q := ⟨_, rfl⟩
  rw [hQ]
  by_cases h0 : 48 ≤ c.toNat ∧ c.toNat ≤ 57
  · have hq := half_dig h0
    rw [hQ] at hq
    rw [hx] at h0 hcb hq ⊢
    have HQ := Lib.hid hq; clear hq hQ hx
    obtain ⟨h1, h2⟩ := h0
    have d1 : decide ((48 : Int) ≤ (x : Int)) = true := decide_eq_true (by omega)
    have d2 : decide ((x : Int) ≤ 57) = true := decide_eq_true (by omega)
    go_enter Tryd.func59, Tryd.ntmps59
    go_wp2_with fail
    go_ret2
    refine ⟨?_, rfl⟩
    rw [HQ.out]
    show Ending.returned (Value.tuple #[.int .u8 _, .bool _]) = Ending.returned (Value.tuple #[.int .u8 _, .bool _])
    simp
    <;> omega
  by_cases h1 : 97 ≤ c.toNat ∧ c.toNat ≤ 102
  · have hq := half_let h0 h1
    rw [hQ] at hq
    rw [hx] at h0 h1 hcb hq ⊢
    have HQ := Lib.hid hq; clear hq hQ hx
    obtain ⟨h1, h2⟩ := h1
    have d0 : decide ((48 : Int) ≤ (x : Int)) = true := decide_eq_true (by omega)
    have d00 : decide ((x : Int) ≤ 57) = false := decide_eq_false (by omega)
    have d1 : decide ((97 : Int) ≤ (x : Int)) = true := decide_eq_true (by omega)
    have d2 : decide ((x : Int) ≤ 102) = true := decide_eq_true (by omega)
    go_enter Tryd.func59, Tryd.ntmps59
    go_wp2_with fail
    go_ret2
    refine ⟨?_, rfl⟩
    rw [HQ.out]
    show Ending.returned (Value.tuple #[.int .u8 _, .bool _]) = Ending.returned (Value.tuple #[.int .u8 _, .bool _])
    simp
    <;> omega
  have hq := half_no h0 h1
  rw [hQ] at hq
  rw [hx] at h0 h1 hcb ⊢
  have HQ := Lib.hid hq; clear hq hQ hx
  by_cases g0 : 48 ≤ x
  · have d0 : decide ((48 : Int) ≤ (x : Int)) = true := decide_eq_true (by omega)
    have d00 : decide ((x : Int) ≤ 57) = false := decide_eq_false (by omega)
    by_cases g1 : 97 ≤ x
    · have d1 : decide ((97 : Int) ≤ (x : Int)) = true := decide_eq_true (by omega)
      have d2 : decide ((x : Int) ≤ 102) = false := decide_eq_false (by omega)
      go_enter Tryd.func59, Tryd.ntmps59
      go_wp2_with fail
      go_ret2
      refine ⟨?_, rfl⟩
      rw [HQ.out]
      show Ending.returned (Value.tuple #[.int .u8 _, .bool _]) = Ending.returned (Value.tuple #[.int .u8 _, .bool _])
      simp
      <;> omega
    · have d1 : decide ((97 : Int) ≤ (x : Int)) = false := decide_eq_false (by omega)
      go_enter Tryd.func59, Tryd.ntmps59
      go_wp2_with fail
      go_ret2
      refine ⟨?_, rfl⟩
      rw [HQ.out]
      show Ending.returned (Value.tuple #[.int .u8 _, .bool _]) = Ending.returned (Value.tuple #[.int .u8 _, .bool _])
      simp
      <;> omega
  · have d0 : decide ((48 : Int) ≤ (x : Int)) = false := decide_eq_false (by omega)
    have d1 : decide ((97 : Int) ≤ (x : Int)) = false := decide_eq_false (by omega)
    go_enter Tryd.func59, Tryd.ntmps59
    go_wp2_with fail
    go_ret2
    refine ⟨?_, rfl⟩
    rw [HQ.out]
    show Ending.returned (Value.tuple #[.int .u8 _, .bool _]) = Ending.returned (Value.tuple #[.int .u8 _, .bool _])
    simp
    <;> omega
/-! Digests in memory -/
theorem info_dig : (Tryd.prog.info? 29).map (·.size) = some 32 := by kernel_rfl
theorem there_row {w : World} {B n : Nat} {C : Array Value} {t : TypeId} (h : w.heap[B]? = some (.cells C t (0, 0))) (hn : n ≤ C.size) : w.there B 0 n := fun j hj =>
  ⟨by rw [cell_row w B (0 + j) C t h, Array.getElem?_eq_getElem (by omega)]; rfl, frozen_of w B _ C t h⟩
theorem range_row {w : World} {B : Nat} {C : List Value} {t : TypeId} (h : w.heap[B]? = some (.cells C.toArray t (0, 0))) : w.rangeAt B 0 C := fun j v hv => by
  rw [cell_row w B (0 + j) C.toArray t h]; simpa using hv
def zero32 : List Value := List.replicate 32 (.int .u8 0)
theorem byC_one (l : List UInt8) : ∀ v ∈ byC l, v.oneCell' = true := by
  intro v hv; unfold byC at hv; obtain ⟨b, -, rfl⟩ := List.mem_map.1 hv; rfl
theorem byC_snoc (l : List UInt8) (b : UInt8) : byC (l ++ [b]) = byC l ++ [.int .u8 (b.toNat : Int)] := by simp [byC]
/-- What stands in a digest's variable while it is filled. -/
def part32 (l : List UInt8) : List Value := byC l ++ List.replicate (32 - l.length) (.int .u8 0)
theorem part32_len {l : List UInt8} (h : l.length ≤ 32) : (part32 l).length = 32 := by simp [part32, byC_len]; omega
theorem part32_zero : part32 [] = zero32 := rfl
theorem part32_full {l : List UInt8} (h : l.length = 32) : part32 l = byC l := by simp [part32, h]
theorem part32_set {l : List UInt8} (h : l.length < 32) (b : UInt8) : (part32 l).toArray.setIfInBounds l.length (.int .u8 (b.toNat : Int)) = (part32 (l ++ [b])).toArray := by
  rw [List.setIfInBounds_toArray]
  congr 1
  unfold part32
  rw [List.set_append_right _ _ (by rw [byC_len]; exact Nat.le_refl _), byC_len, Nat.sub_self, byC_snoc, List.length_append, List.length_singleton]
  obtain ⟨m, hm⟩ : ∃ m, 32 - l.length = m + 1 := ⟨31 - l.length, by omega⟩
  rw [hm, show 32 - (l.length + 1) = m by omega, List.replicate_succ]
  simp
theorem results_dig {fn : Func} {tmps : Array Value} {w : World} {a b B : Nat} {cs : List Value} (hf : fn.results = #[.cell a 29, .tmp b]) (ha : tmps[a]?.getD undef = .pointer (some ⟨B, 0, none⟩)) (hc : w.rangeAt B 0 cs) (hl : cs.length = 32) :
    (results fn tmps).run Tryd.prog w = .ok (.tuple #[.agg cs.toArray, tmps.getD b undef]) w := by
  have h := run_loadVar_mid (P := Tryd.prog) w B 0 29 cs _ hc Tryd.underlying29 rfl (by rw [hl]; exact info_dig)
  simp [results, hf, ha, asAddr, h, Sem.run_bind]
theorem build_dig (w : World) : (Instr.build 29 #[]).run Tryd.prog w = .ok (.agg zero32.toArray) w := run_build w 29 _ _ (by kernel_rfl)
theorem wpList_build_dig {ops : Array Oper} {rest : List Oper} {op : Oper} {a : Act} {w : World} {Q : Exit → Act → World → Prop} (hgd : op.guard = none) (ho : op.op = .build 29 #[])
    (h : wpList Tryd.prog ops Q rest (a.put op.dst (.agg zero32.toArray)) w) : wpList Tryd.prog ops Q (op :: rest) a w :=
  wpList_plain hgd fun _ hK => by
    unfold Oper.wp execOp
    simp only [ho, Array.map_empty, Sem.run_bind, build_dig, Result.andThen_ok, Sem.run_pure]
    exact hK _ _ h
theorem info_zz : (Tryd.prog.info? 29).map (·.size) = some zero32.toArray.size := by kernel_rfl
theorem info_zl : (Tryd.prog.info? 29).map (·.size) = some zero32.length := by kernel_rfl
theorem one_zz : ∀ v ∈ zero32, v.oneCell' = true := by intro v hv; rw [List.eq_of_mem_replicate hv]; rfl
theorem onea_zz : zero32.toArray.all (·.oneCell') = true := all_oneCell_toArray one_zz
theorem info_by {l : List UInt8} (h : l.length = 32) : (Tryd.prog.info? 29).map (·.size) = some (byC l).toArray.size := by rw [List.size_toArray, byC_len, h]; exact info_dig
theorem info_byl {l : List UInt8} (h : l.length = 32) : (Tryd.prog.info? 29).map (·.size) = some (byC l).length := by rw [byC_len, h]; exact info_dig
theorem size_by {l : List UInt8} (h : l.length = 32) : (byC l).toArray.size ≤ zero32.toArray.size := by rw [List.size_toArray, byC_len, h]; exact Nat.le_refl _
theorem onea_by (l : List UInt8) : (byC l).toArray.all (·.oneCell') = true := all_oneCell_toArray (byC_one l)
theorem size_zz : zero32.toArray.size ≤ zero32.toArray.size := Nat.le_refl _
section
variable {Z : List Value} (hZ : Z = zero32)
include hZ
theorem infoa_Z : (Tryd.prog.info? 29).map (·.size) = some Z.toArray.size := by rw [hZ]; exact info_zz
theorem info_Z : (Tryd.prog.info? 29).map (·.size) = some Z.length := by rw [hZ]; exact info_zl
theorem onea_Z : Z.toArray.all (·.oneCell') = true := by rw [hZ]; exact onea_zz
theorem len_Z : Z.length = 32 := by rw [hZ]; rfl
theorem size_Zby {l : List UInt8} (h : l.length = 32) : (byC l).toArray.size ≤ Z.toArray.size := by rw [hZ]; exact size_by h
theorem wpList_build_Z {ops : Array Oper} {rest : List Oper} {op : Oper} {a : Act} {w : World} {Q : Exit → Act → World → Prop} (hgd : op.guard = none) (ho : op.op = .build 29 #[])
    (h : wpList Tryd.prog ops Q rest (a.put op.dst (.agg Z.toArray)) w) : wpList Tryd.prog ops Q (op :: rest) a w := by rw [hZ] at h; exact wpList_build_dig hgd ho h
end
theorem or_half : ∀ x y : Fin 16, bits BinOp.or .u8 ((x.val : Int) * 16) (y.val : Int) = ((UInt8.ofNat (16 * x.val + y.val)).toNat : Int) := by decide +kernel
theorem or_half' {x y : Nat} (hx : x < 16) (hy : y < 16) : bits BinOp.or .u8 ((x : Int) * 16) (y : Int) = ((UInt8.ofNat (16 * x + y)).toNat : Int) := or_half ⟨x, hx⟩ ⟨y, hy⟩
theorem byte_half {x y : Nat} (hx : x < 16) (hy : y < 16) : 16 * (x : Int) + (y : Int) = ((UInt8.ofNat (16 * x + y)).toNat : Int) := by simp [UInt8.toNat_ofNat']; omega
theorem fill_step {w wr : World} {Z : List Value} {l : List UInt8} {k : Nat} (b : UInt8) (hR : wr.heap[w.heap.size]? = some (.cells Z.toArray 29 (0, 0))) (hD : wr.heap[w.heap.size + 1]? = some (.cells (part32 l).toArray 29 (0, 0))) (hbV : Below w.heap.size w wr) (hl : l.length = k) (hk : k < 32) :
    (wr.setCell ⟨w.heap.size + 1, k, none⟩ (.int .u8 (b.toNat : Int))).heap[w.heap.size]? = some (.cells Z.toArray 29 (0, 0)) ∧ (wr.setCell ⟨w.heap.size + 1, k, none⟩ (.int .u8 (b.toNat : Int))).heap[w.heap.size + 1]? = some (.cells (part32 (l ++ [b])).toArray 29 (0, 0)) ∧ Below w.heap.size w (wr.setCell ⟨w.heap.size + 1, k, none⟩ (.int .u8 (b.toNat : Int))) := by
  subst hl
  refine ⟨(Below.heap_setCell _ _ _ _ (by simp)).trans hR, ?_, hbV.setCell (by simp) _⟩
  rw [set_at _ _ _ _ _ _ hD, part32_set hk]
def OfOut (o : Option (List UInt8)) (v : Value) (_ : World) : Prop := v = .tuple #[.agg (match o with | some d => byC d | none => zero32).toArray, .bool o.isSome]
set_option maxRecDepth 100000 in
set_option maxHeartbeats 2000000 in
theorem of_any (s : List UInt8) (w : World) (hs : s.length ≤ 140737488355328) : Calls Tryd.prog 39 #[.string ⟨s.toArray⟩] w (RetB (OfOut (Pl.hashOf s)) w) := by
  obtain ⟨Q, hQ⟩ : ∃ Q, Pl.hashOf s = Q := ⟨_, rfl⟩
  rw [hQ]
  have HQ := Lib.hid hQ; clear hQ
  obtain ⟨Z, hZ⟩ : ∃ Z, Z = zero32 := ⟨_, rfl⟩
  have HZ := Lib.hid hZ; clear hZ
  by_cases h0 : s.length = 64
  · have hne : (((s.length : Nat) : Int) != 64) = false := by simp; omega
    go_enter Tryd.func39, Tryd.ntmps39
    go_upto_region 2 with (fail)
    generalize hV : (w.alloc _).alloc _ = V
    have hR : V.heap[w.heap.size]? = some (.cells Z.toArray 29 (0, 0)) := by rw [← hV, HZ.out]; exact (Below.heap_alloc _ _ _ (by simp)).trans (heap_alloc_new w _)
    have hD : V.heap[w.heap.size + 1]? = some (.cells (part32 []).toArray 29 (0, 0)) := by rw [← hV]; exact heap_alloc_2 w _ _
    have hbV : Below w.heap.size w V := by rw [← hV]; exact ((Below.refl _ _).alloc (Nat.le_refl _) _).alloc (by simp) _
    clear hV
    go_wp2_with fail
    clear hne
    go_loopw [14] (fun i wr => ∃ (k : Nat) (l : List UInt8), k ≤ 32 ∧ i = .int .i64 (k : Nat) ∧ wr.heap[w.heap.size]? = some (.cells Z.toArray 29 (0, 0)) ∧ wr.heap[w.heap.size + 1]? = some (.cells (part32 l).toArray 29 (0, 0)) ∧ Below w.heap.size w wr ∧ Hid (Pl.firstK s k = some l ∧ l.length = k)) (fun i _ => 32 - (intOf i).toNat)
    case atStart => exact ⟨0, [], by omega, rfl, hR, hD, hbV, ⟨rfl, rfl⟩⟩
    case round =>
      clear hR hD hbV
      obtain ⟨k, l, hk, rfl, hR, hD, hbV, HL⟩ := hrel
      by_cases hkl : k < 32
      · have hl1 : 2 * k < s.length := by omega
        have hl2 : 2 * k + 1 < s.length := by omega
        obtain ⟨c1, hc1⟩ : ∃ c, s[2 * k] = c := ⟨_, rfl⟩
        obtain ⟨c2, hc2⟩ : ∃ c, s[2 * k + 1] = c := ⟨_, rfl⟩
        have e1 : (2 * (k : Int)).toNat = 2 * k := by omega
        have e2 : (2 * (k : Int) + 1).toNat = 2 * k + 1 := by omega
        have hb1 : 2 * (k : Int) < (s.length : Int) := by omega
        have hb2 : 2 * (k : Int) + 1 < (s.length : Int) := by omega
        have H0 := Lib.hid h0; clear h0
        have hg1 : s.getD (2 * k) 0 = c1 := by rw [List.getD_eq_getElem?_getD, List.getElem?_eq_getElem hl1, hc1]; rfl
        have hg2 : s.getD (2 * k + 1) 0 = c2 := by rw [List.getD_eq_getElem?_getD, List.getElem?_eq_getElem hl2, hc2]; rfl
        obtain ⟨o1, ho1⟩ : ∃ o, Pl.halfN c1 = o := ⟨_, rfl⟩
        obtain ⟨o2, ho2⟩ : ∃ o, Pl.halfN c2 = o := ⟨_, rfl⟩
        have hp : Pl.pairN s k = Pl.pairO o1 o2 := by unfold Pl.pairN; rw [hg1, hg2, ho1, ho2]
        have hh1 := fun w => half_any c1 w
        have hh2 := fun w => half_any c2 w
        rw [ho1] at hh1
        rw [ho2] at hh2
        have HH := Lib.hid (And.intro hh1 hh2)
        have HO := Lib.hid (And.intro ho1 (And.intro ho2 hp))
        clear hg1 hg2 ho1 ho2 hp hh1 hh2
        rcases o1 with _ | x
        · have HQ2 := Lib.hid (show Q = none by
            rw [← HQ.out]; unfold Pl.hashOf; rw [if_pos H0.out]
            have := Pl.firstK_none (Pl.firstK_bad (k := k) HO.out.2.2) (31 - k)
            rwa [show k + 1 + (31 - k) = 32 by omega] at this)
          go_wp2_with fail
          (with_reducible refine (HH.out.1 _).mono ?_)
          rintro e w1 ⟨rfl, rfl⟩
          unfold halfV
          go_wp2_with fail
          (with_reducible refine (HH.out.2 _).mono ?_)
          rintro e w1 ⟨rfl, rfl⟩
          unfold halfV
          go_wp2_with (first | (with_reducible refine wpList_build_Z HZ.out rfl rfl ?_) | (with_reducible refine wpList_store_mid rfl 29 _ _ rfl w.heap.size 0 Z.toArray rfl rfl (there_row hR (Nat.le_refl _)) (infoa_Z HZ.out) (onea_Z HZ.out) ?_))
          all_goals
            refine bodyPost_ret (results_dig (cs := Z) rfl rfl (World.rangeAt_setCells_same _ _ _ _ (there_row hR (Nat.le_refl _))) (len_Z HZ.out)) rfl ?_
            exact ⟨_, rfl, by rw [HQ2.out, HZ.out]; rfl, hbV.trans (Lib.below_setCells_w (Nat.le_refl _) _ _ _)⟩
        rcases o2 with _ | y
        · have HQ2 := Lib.hid (show Q = none by
            rw [← HQ.out]; unfold Pl.hashOf; rw [if_pos H0.out]
            have := Pl.firstK_none (Pl.firstK_bad (k := k) HO.out.2.2) (31 - k)
            rwa [show k + 1 + (31 - k) = 32 by omega] at this)
          go_wp2_with fail
          (with_reducible refine (HH.out.1 _).mono ?_)
          rintro e w1 ⟨rfl, rfl⟩
          unfold halfV
          go_wp2_with fail
          (with_reducible refine (HH.out.2 _).mono ?_)
          rintro e w1 ⟨rfl, rfl⟩
          unfold halfV
          go_wp2_with (first | (with_reducible refine wpList_build_Z HZ.out rfl rfl ?_) | (with_reducible refine wpList_store_mid rfl 29 _ _ rfl w.heap.size 0 Z.toArray rfl rfl (there_row hR (Nat.le_refl _)) (infoa_Z HZ.out) (onea_Z HZ.out) ?_))
          all_goals
            refine bodyPost_ret (results_dig (cs := Z) rfl rfl (World.rangeAt_setCells_same _ _ _ _ (there_row hR (Nat.le_refl _))) (len_Z HZ.out)) rfl ?_
            exact ⟨_, rfl, by rw [HQ2.out, HZ.out]; rfl, hbV.trans (Lib.below_setCells_w (Nat.le_refl _) _ _ _)⟩
        have hx := Pl.halfN_lt HO.out.1
        have hy := Pl.halfN_lt HO.out.2.1
        have hj1 : (0 : Int) ≤ (k : Int) := by omega
        have hj2 : (k : Int) < 32 := by omega
        go_wp2_with fail
        (with_reducible refine (HH.out.1 _).mono ?_)
        rintro e w1 ⟨rfl, rfl⟩
        unfold halfV
        go_wp2_with fail
        (with_reducible refine (HH.out.2 _).mono ?_)
        rintro e w1 ⟨rfl, rfl⟩
        unfold halfV
        have hcd := cell_row wr _ k _ _ hD
        have hfd := fun i => frozen_of wr _ i _ _ hD
        rw [List.getElem?_toArray, List.getElem?_eq_getElem (by rw [part32_len (by rw [HL.out.2]; omega)]; omega)] at hcd
        go_wp2_with fail
        rw [or_half' hx hy]
        obtain ⟨g1, g2, g3⟩ := fill_step (UInt8.ofNat (16 * x + y)) hR hD hbV HL.out.2 hkl
        have HS := Lib.hid (And.intro (Pl.firstK_step HL.out.1 HO.out.2.2) (show (l ++ [UInt8.ofNat (16 * x + y)]).length = k + 1 by rw [List.length_append, HL.out.2]; rfl))
        go_roundw
        case rel => exact ⟨k + 1, l ++ [UInt8.ofNat (16 * x + y)], by omega, by go_num, g1, g2, g3, HS.out⟩
        case measure => simp [intOf]; omega
      · obtain rfl : k = 32 := by omega
        have hq : Q = some l := by rw [← HQ.out]; unfold Pl.hashOf; rw [if_pos h0]; exact HL.out.1
        have HQ2 := Lib.hid hq; clear hq
        rw [part32_full HL.out.2] at hD
        go_wp2_with (first | (with_reducible refine wpList_load_mid rfl 29 _ rfl (w.heap.size + 1) 0 rfl (byC l) _ (range_row hD) Tryd.underlying29 rfl (info_byl HL.out.2) ?_) | (with_reducible refine wpList_store_mid rfl 29 _ _ rfl w.heap.size 0 (byC l).toArray rfl rfl (there_row hR (size_Zby HZ.out HL.out.2)) (info_by HL.out.2) (onea_by l) ?_))
        refine bodyPost_ret (results_dig (cs := byC l) rfl rfl (World.rangeAt_setCells_same _ _ _ _ (there_row hR (size_Zby HZ.out HL.out.2))) (by rw [byC_len]; exact HL.out.2)) rfl ?_
        exact ⟨_, rfl, by rw [HQ2.out]; rfl, hbV.trans (Lib.below_setCells_w (Nat.le_refl _) _ _ _)⟩
  · have hq : Q = none := by rw [← HQ.out]; unfold Pl.hashOf; rw [if_neg h0]
    have HQ2 := Lib.hid hq; clear hq
    have hne : (((s.length : Nat) : Int) != 64) = true := by simp; omega
    go_enter Tryd.func39, Tryd.ntmps39
    go_upto_region 2 with (fail)
    generalize hV : (w.alloc _).alloc _ = V
    have hR : V.heap[w.heap.size]? = some (.cells Z.toArray 29 (0, 0)) := by rw [← hV, HZ.out]; exact (Below.heap_alloc _ _ _ (by simp)).trans (heap_alloc_new w _)
    have hD : V.heap[w.heap.size + 1]? = some (.cells (part32 []).toArray 29 (0, 0)) := by rw [← hV]; exact heap_alloc_2 w _ _
    have hbV : Below w.heap.size w V := by rw [← hV]; exact ((Below.refl _ _).alloc (Nat.le_refl _) _).alloc (by simp) _
    clear hV
    go_upto_region 3 with (fail)
    rw [part32_zero, ← HZ.out] at hD
    go_wp2_with (first | (with_reducible refine wpList_build_Z HZ.out rfl rfl ?_) | (with_reducible refine wpList_load_mid rfl 29 _ rfl (w.heap.size + 1) 0 rfl Z _ (range_row hD) Tryd.underlying29 rfl (info_Z HZ.out) ?_) | (with_reducible refine wpList_store_mid rfl 29 _ _ rfl w.heap.size 0 Z.toArray rfl rfl (there_row hR (Nat.le_refl _)) (infoa_Z HZ.out) (onea_Z HZ.out) ?_))
    refine bodyPost_ret (results_dig (cs := Z) rfl rfl (World.rangeAt_setCells_same _ _ _ _ (there_row hR (Nat.le_refl _))) (len_Z HZ.out)) rfl ?_
    exact ⟨_, rfl, by rw [HQ2.out, HZ.out]; rfl, hbV.trans (Lib.below_setCells_w (Nat.le_refl _) _ _ _)⟩
end Go.Proofs.YtadoplgmeoghmaaDoor
namespace Go.Proofs.YtadoplgmeoghmaaDoor
open Go.RowKit
set_option linter.unusedVariables false
theorem mapM_some_of {α β : Type} (f : α → Option β) (g : α → β) : ∀ l : List α, (∀ x ∈ l, f x = some (g x)) → l.mapM f = some (l.map g)
  | [], _ => rfl
  | x :: l, h => by
    rw [List.mapM_cons, h x (by simp), mapM_some_of f g l (fun y hy => h y (by simp [hy]))]; rfl
def u8L (b : UInt8) : Lit := .int .u8 (b.toNat : Int)
theorem u8_wf (b : UInt8) : (Lit.int .u8 (b.toNat : Int)).wf = true := by
  have h : ∀ x : Fin 256, (Lit.int .u8 (x.val : Int)).wf = true := by decide +kernel
  exact h ⟨b.toNat, b.toNat_lt⟩
theorem flat_one {α β : Type} (f : α → β) (l : List α) : (l.map fun i => [f i]).flatten = l.map f := by
  induction l with
  | nil => rfl
  | cons x l ih => simp only [List.map_cons, List.flatten_cons, ih]; rfl
theorem flat_range (l : List UInt8) (n : Nat) (h : l.length = n) : ((List.range n).map fun i => [u8L (l.getD i 0)]).flatten = l.map u8L := by
  subst h
  rw [flat_one fun i => u8L (l.getD i 0)]
  refine List.ext_getElem (by simp) fun i h1 h2 => ?_
  have hi : i < l.length := by simpa using h1
  simp [List.getD_eq_getElem?_getD, hi]
theorem formed_byC {l : List UInt8} (h : l.length = 32) : Value.formed Tryd.prog 29 (.agg (byC l).toArray) = true := by
  have hc : Tryd.prog.cellsOf 29 = 32 := by kernel_rfl
  simp [Value.formed, Tryd.underlying29, hc, byC_len, h]
theorem u8L_inj : ∀ {A B : List UInt8}, A.map u8L = B.map u8L → A = B
  | [], [], _ => rfl
  | [], _ :: _, h => by simp at h
  | _ :: _, [], h => by simp at h
  | x :: A, y :: B, h => by
    simp only [List.map_cons, List.cons.injEq] at h
    obtain ⟨h1, h2⟩ := h
    unfold u8L at h1
    injection h1 with _ h3
    rw [UInt8.toNat_inj.1 (by omega : x.toNat = y.toNat), u8L_inj h2]
theorem keyLits_byC {l : List UInt8} (h : l.length = 32) : Tryd.prog.keyLits 2 29 (byC l) = some (l.map u8L) := by
  have hc : Tryd.prog.cellsOf 29 = 32 := by kernel_rfl
  have hc1 : Tryd.prog.cellsOf 5 = 1 := by kernel_rfl
  have hm : (List.range 32).mapM (fun i => Tryd.prog.keyLits 1 5 (((byC l).drop (i * Tryd.prog.cellsOf 5)).take (Tryd.prog.cellsOf 5))) = some ((List.range 32).map fun i => [u8L (l.getD i 0)]) := by
    refine mapM_some_of _ _ _ fun i hi => ?_
    have hi' : i < l.length := by rw [h]; exact List.mem_range.1 hi
    have e : ((byC l).drop i).take 1 = [.int .u8 (l[i].toNat : Int)] := by
      unfold byC
      rw [← List.map_drop, ← List.map_take, List.drop_eq_getElem_cons hi', List.take_succ_cons]; simp
    rw [hc1, Nat.mul_one, e]
    have hd : l.getD i 0 = l[i] := by simp [List.getD_eq_getElem?_getD, hi']
    rw [hd]
    simp [Program.keyLits, Tryd.underlying5, u8_wf, u8L]
  unfold Program.keyLits
  simp only [Tryd.underlying29]
  rw [if_pos (by rw [byC_len, h, hc]), hm]
  show some _ = some _
  rw [flat_range l 32 h]
theorem eql_dig {A B : List UInt8} (hA : A.length = 32) (hB : B.length = 32) (W : World) : (Op.equalIn 10000 29 (.agg (byC A).toArray) (.agg (byC B).toArray)).run Tryd.prog W = .ok (decide (A = B)) W := by
  obtain ⟨r, hr, hiff⟩ := run_equalIn_deep (P := Tryd.prog) 9998 2 29 (by kernel_rfl) W 2 2 (.agg (byC A).toArray) (.agg (byC B).toArray) _ _ (formed_byC hA) (formed_byC hB) (keyLits_byC hA) (keyLits_byC hB)
  have hinj : A.map u8L = B.map u8L ↔ A = B := by
    exact ⟨u8L_inj, fun h => by rw [h]⟩
  have : r = decide (A = B) := by rw [Bool.eq_iff_iff, hiff, hinj]; simp
  rw [← this]; exact hr
end Go.Proofs.YtadoplgmeoghmaaDoor
