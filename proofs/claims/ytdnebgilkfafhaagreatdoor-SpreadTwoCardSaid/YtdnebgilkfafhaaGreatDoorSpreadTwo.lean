/- SpreadTwo holds: two may lie: what was written is read, whatever two of the shelves are instead. No condition. -/
import Derived.Test.YtdnebgilkfafhaaGreatDoorLaid
import Derived.Test.YtdnebgilkfafhaaGreatDoorTie
import Derived.Test.YtdnebgilkfafhaaGreatDoorCards
import Derived.Test.YtdnebgilkfafhaaGreatDoorSpSt
import Derived.Test.YtdnebgilkfafhaaGreatDoorRu02
import Derived.Test.YtdnebgilkfafhaaGreatDoorLaidV
import Derived.Test.YtdnebgilkfafhaaGreatDoorOpen
import Derived.Deep.DeepHandedRow
import Derived.Deep.DeepWitnessRowRef
import Derived.Lib.LaidTab
import Derived.DeepKeys
namespace Go.Proofs.YtdnebgilkfafhaaGreatDoor
open Go.ChangeShapes Go.WideShapes Go.ChangeAt Go.RowKit
set_option linter.unusedVariables false
set_option linter.unusedSimpArgs false
attribute [local go_sem] ba_get ba_cut ba_add
theorem mapM_some_of {α β : Type} (f : α → Option β) (g : α → β) : ∀ l : List α, (∀ x ∈ l, f x = some (g x)) → l.mapM f = some (l.map g)
  | [], _ => rfl
  | x :: l, h => by
    rw [List.mapM_cons, h x (by simp), mapM_some_of f g l (fun y hy => h y (by simp [hy]))]; rfl
def u8L (b : UInt8) : Lit := .int .u8 (b.toNat : Int)
theorem u8_wf (b : UInt8) : (Lit.int .u8 (b.toNat : Int)).wf = true := by
  have h : ∀ x : Fin 256, (Lit.int .u8 (x.val : Int)).wf = true := by decide +kernel
  exact h ⟨b.toNat, b.toNat_lt⟩
theorem eflat_one {α β : Type} (f : α → β) (l : List α) : (l.map fun i => [f i]).flatten = l.map f := by
  induction l with
  | nil => rfl
  | cons x l ih => simp only [List.map_cons, List.flatten_cons, ih]; rfl
theorem eflat_range (l : List UInt8) (n : Nat) (h : l.length = n) : ((List.range n).map fun i => [u8L (l.getD i 0)]).flatten = l.map u8L := by
  subst h
  rw [eflat_one fun i => u8L (l.getD i 0)]
  refine List.ext_getElem (by simp) fun i h1 h2 => ?_
  have hi : i < l.length := by simpa using h1
  simp [List.getD_eq_getElem?_getD, hi]
theorem formed_u8s {l : List UInt8} (h : l.length = 32) : Value.formed Tryz.prog 42 (.agg (u8s l).toArray) = true := by
  have hc : Tryz.prog.cellsOf 42 = 32 := by kernel_rfl
  simp [Value.formed, Tryz.underlying42, hc, u8s_len, h]
theorem u8L_inj : ∀ {A B : List UInt8}, A.map u8L = B.map u8L → A = B
  | [], [], _ => rfl
  | [], _ :: _, h => by simp at h
  | _ :: _, [], h => by simp at h
  | x :: A, y :: B, h => by
    simp only [List.map_cons, List.cons.injEq] at h
    obtain ⟨h1, h2⟩ := h
    unfold u8L at h1
    injection h1 with _ h3
    rw [UInt8.toNat_inj.1 (by omega : x.toNat = y.toNat), u8L_inj h2]
theorem keyLits_u8s {l : List UInt8} (h : l.length = 32) : Tryz.prog.keyLits 2 42 (u8s l) = some (l.map u8L) := by
  have hc : Tryz.prog.cellsOf 42 = 32 := by kernel_rfl
  have hc1 : Tryz.prog.cellsOf 5 = 1 := by kernel_rfl
  have hm : (List.range 32).mapM (fun i => Tryz.prog.keyLits 1 5 (((u8s l).drop (i * Tryz.prog.cellsOf 5)).take (Tryz.prog.cellsOf 5))) = some ((List.range 32).map fun i => [u8L (l.getD i 0)]) := by
    refine mapM_some_of _ _ _ fun i hi => ?_
    have hi' : i < l.length := by rw [h]; exact List.mem_range.1 hi
    have e : ((u8s l).drop i).take 1 = [.int .u8 (l[i].toNat : Int)] := by
      unfold u8s
      rw [← List.map_drop, ← List.map_take, List.drop_eq_getElem_cons hi', List.take_succ_cons]; simp
    rw [hc1, Nat.mul_one, e]
    have hd : l.getD i 0 = l[i] := by simp [List.getD_eq_getElem?_getD, hi']
    rw [hd]
    simp [Program.keyLits, Tryz.underlying5, u8_wf, u8L]
  unfold Program.keyLits
  simp only [Tryz.underlying42]
  rw [if_pos (by rw [u8s_len, h, hc]), hm]
  show some _ = some _
  rw [eflat_range l 32 h]
theorem eql_dig {A B : List UInt8} (hA : A.length = 32) (hB : B.length = 32) (W : World) : (Op.equalIn 10000 42 (.agg (u8s A).toArray) (.agg (u8s B).toArray)).run Tryz.prog W = .ok (decide (A = B)) W := by
  obtain ⟨r, hr, hiff⟩ := run_equalIn_deep (P := Tryz.prog) 9998 2 42 (by kernel_rfl) W 2 2 (.agg (u8s A).toArray) (.agg (u8s B).toArray) _ _ (formed_u8s hA) (formed_u8s hB) (keyLits_u8s hA) (keyLits_u8s hB)
  have hinj : A.map u8L = B.map u8L ↔ A = B := by
    exact ⟨u8L_inj, fun h => by rw [h]⟩
  have : r = decide (A = B) := by rw [Bool.eq_iff_iff, hiff, hinj]; simp
  rw [← this]; exact hr
theorem Pl.joined_small {nm : Pl.Tx} {L : List Pl.Told} {d : Pl.Tx} (h : Pl.joinedP (Pl.fitsP nm L) = some d) : d.length ≤ 65536 := by
  unfold Pl.joinedP at h
  obtain ⟨⟨p, q, r⟩, hp, he⟩ := List.exists_of_findSome?_eq_some h
  have hs := Pl.threeL_sub hp
  obtain ⟨n1, g1, e1⟩ := Pl.fitsF_mem nm L 0 p (hs.subset (by simp))
  have i1 := (Pl.fitT_is e1).2.1
  simp only [Pl.try3] at he
  split at he
  · split at he
    · injection he with he
      rw [← he]
      unfold Pl.joinP
      rw [List.length_take]
      omega
    · cases he
  · cases he
theorem Pl.read_small (st : Pl.Store) (nm : Pl.Tx) : (Pl.readP st nm).2.1.length ≤ 65536 := by
  unfold Pl.readP
  split
  · exact Nat.zero_le _
  · split
    · next d hd => exact Pl.joined_small hd
    · exact Nat.zero_le _
theorem read_st2 {st : Pl.Store} {k : Nat} (h : Hn st k) (hk : k ≤ 1000) {X : Nat → ShX} {nm d : List UInt8} (hn : Pl.okName nm = true) (hd : d.length ≤ 65536) (hh : Pl.Has st nm (Pl.partOf nm d)) (q : Li) :
    ∃ s, Pl.sumB [s] = Pl.sumB [d] ∧ s.length ≤ 65536 ∧ ∀ w, StOk w (toS st) X → q.Ok w → VSp w → Calls Tryz.prog 14 #[.agg (stoL (bendS q (toS st)) (bendX q X) (-1)).toArray, .string ⟨nm.toArray⟩] w (RetB (RdOut s 0) w) := by
  obtain ⟨s, hl, hs⟩ := Pl.read_law h.hon hn hd hh (q.a % 5) (q.b % 5) q.X q.Y
  have hsm := Pl.read_small (Pl.bend st (q.a % 5) (q.b % 5) q.X q.Y) nm
  rw [hl] at hsm
  refine ⟨s, hs, hsm, fun w hok hq hv => (sread_good (bendS q (toS st)) (bendX q X) (-1) I64_neg nm w (bend_ok hq hok) (bend_fit hq (h.fit hk)) hn hv fun i hi => Nat.le_trans (Pl.one_small nm _ _) (by decide)).mono fun e w' hr => hr.imp fun v w' hv => ?_⟩
  rw [read_is hn] at hl
  rw [told_lied q h.hon nm] at hv
  have h1 := congrArg Prod.fst hl
  have h2 := congrArg Prod.snd hl
  simp only at h1 h2
  unfold lied at hv
  rw [h1, h2] at hv
  exact hv.rd
set_option maxRecDepth 100000 in
set_option maxHeartbeats 8000000 in
theorem spreadTwo_walk (A : Option Addr) (n c : Nat) (l : List (List UInt8)) (nm : List UInt8) (q : Li) (w : World) (hr : Rd w 1 A n (strs l)) (hnl : n ≤ 140737488355328) (hls : ∀ s ∈ l, s.length ≤ 140737488355328) (hAc : A = none → c = 0) (hnm : nm.length ≤ 140737488355328) (hq : q.Ok w) (hv : VNum w ∧ VHash w) :
    Calls Tryz.prog 3 #[.slice A n c, .string ⟨nm.toArray⟩, .agg q.L.toArray] w (RetB (fun v _ => v = .bool true) w) := by
  obtain ⟨N, hN⟩ : ∃ N, w.heap.size = N := ⟨_, rfl⟩
  have HV := Lib.hid (And.intro (VSp.mk hv.1 hv.2) (And.intro hr hq))
  have hln : l.length = n := by have := hr.len; simpa [strs] using this
  have hlit := light_any q
  have hbend := fun S X n W h => bend_any S X n q W h
  obtain ⟨y0, y1, y2, y3, y4, y5, hLQ⟩ : ∃ y0 y1 y2 y3 y4 y5, q.L = [y0, y1, y2, y3, y4, y5] := ⟨_, _, _, _, _, _, rfl⟩
  rw [hLQ] at hlit hbend ⊢
  have HQ := Lib.hid (And.intro hlit hbend)
  clear hv hr hq hlit hbend hLQ
  go_enter Tryz.func3, Tryz.ntmps3
  go_upto_region 1 with (fail)
  generalize hW0 : World.alloc w _ = W0
  have hz0 : W0.heap[N]? = some (.cells #[y0, y1, y2, y3, y4, y5] 28 (0, 0)) := by rw [← hW0, ← hN]; exact heap_alloc_new _ _
  have hb0 : Below N w W0 := by rw [← hW0]; exact (Below.refl _ _).alloc (by omega) _
  have HB0 := Lib.hid (And.intro hb0 hz0)
  try simp only [hN]
  clear hW0 hb0 hz0
  go_upto_region 3 with (with_reducible refine (salive_any W0 (HV.out.1.below (by rw [hN]; exact HB0.out.1))).mono ?_)
  rintro _ w1 ⟨v, rfl, rfl, hb1⟩
  have hs0 := HB0.out.1.size
  have hz1 : w1.heap[N]? = some (.cells #[y0, y1, y2, y3, y4, y5] 28 (0, 0)) := heap_keep HB0.out.2 hb1
  have HB := Lib.hid (And.intro (HB0.out.1.trans (hb1.mono (by omega))) hz1)
  have hs1 := hb1.size
  have hNlt := blk_lt hz1
  clear hb1 hz1 HB0
  by_cases hA0 : n = 0
  · have hA' : ((n : Int) == 0) = true := by rw [hA0]; rfl
    clear hA0
    go_wp2_with fail
    go_ret
    exact ⟨_, rfl, rfl, by rw [hN]; exact HB.out.1⟩
  have hA' : ((n : Int) == 0) = false := by rw [beq_eq_false_iff_ne]; omega
  by_cases hB4 : 4 < n
  · have hB' : decide ((4 : Int) < (n : Int)) = true := by simp; omega
    have hB'' : decide (4 < n) = true := decide_eq_true hB4
    clear hA0 hB4
    go_wp2_with fail
    go_ret
    exact ⟨_, rfl, rfl, by rw [hN]; exact HB.out.1⟩
  have hB' : decide ((4 : Int) < (n : Int)) = false := by simp; omega
  have hB'' : decide (4 < n) = false := decide_eq_false hB4
  by_cases hC : nm.length < 1
  · have hC' : decide ((nm.length : Int) < 1) = true := by simp; omega
    clear hA0 hB4 hC
    go_wp2_with fail
    go_ret
    exact ⟨_, rfl, rfl, by rw [hN]; exact HB.out.1⟩
  have hC' : decide ((nm.length : Int) < 1) = false := by simp; omega
  by_cases hD : 100 < nm.length
  · have hD' : decide ((100 : Int) < (nm.length : Int)) = true := by simp; omega
    clear hA0 hB4 hC hD
    go_wp2_with fail
    go_ret
    exact ⟨_, rfl, rfl, by rw [hN]; exact HB.out.1⟩
  have hD' : decide ((100 : Int) < (nm.length : Int)) = false := by simp; omega
  have hgn : Pl.okName nm = true := by unfold Pl.okName; simp; omega
  have hn1 : 0 < n := by omega
  have hn4 : n ≤ 4 := by omega
  clear hA0 hB4 hC hD
  have z0 : w1.cell? ⟨N, 0, none⟩ = some y0 := by rw [cell_row w1 N 0 _ _ HB.out.2]; rfl
  have z1 : w1.cell? ⟨N, 1, none⟩ = some y1 := by rw [cell_row w1 N 1 _ _ HB.out.2]; rfl
  have z2 : w1.cell? ⟨N, 2, none⟩ = some y2 := by rw [cell_row w1 N 2 _ _ HB.out.2]; rfl
  have z3 : w1.cell? ⟨N, 3, none⟩ = some y3 := by rw [cell_row w1 N 3 _ _ HB.out.2]; rfl
  have z4 : w1.cell? ⟨N, 4, none⟩ = some y4 := by rw [cell_row w1 N 4 _ _ HB.out.2]; rfl
  have z5 : w1.cell? ⟨N, 5, none⟩ = some y5 := by rw [cell_row w1 N 5 _ _ HB.out.2]; rfl
  go_upto_region 5 with (with_reducible refine (HQ.out.1 w1 (HV.out.2.2.below (by rw [hN]; exact HB.out.1))).mono ?_)
  rintro _ w2 ⟨v, rfl, ⟨b, rfl⟩, hb2⟩
  have hz2 : w2.heap[N]? = some (.cells #[y0, y1, y2, y3, y4, y5] 28 (0, 0)) := heap_keep HB.out.2 hb2
  have HB2 := Lib.hid (And.intro (HB.out.1.trans (hb2.mono (by omega))) hz2)
  have hs2 := hb2.size
  clear z0 z1 z2 z3 z4 z5 hb2 hz2 HB
  cases b
  · go_wp2_with fail
    go_ret
    exact ⟨_, rfl, rfl, by rw [hN]; exact HB2.out.1⟩
  go_upto_region 6 with (with_reducible refine (fresh_any w2).mono ?_)
  rintro _ w3 ⟨v, rfl, rfl, hb3⟩
  obtain ⟨L0, hL0⟩ : ∃ L, stoL (fun _ => Pl.noSh) (fun _ => zx) (-1) = L := ⟨_, rfl⟩
  have hl0 : L0.length = 11 := by rw [← hL0]; rfl
  have ho0 : ∀ v ∈ L0, v.oneCell' = true := by rw [← hL0]; exact stoL_one _ _ _
  rw [hL0]
  have hbt := box_there w3 (L := L0) hl0
  have hbi := info_stoA (L := L0) hl0
  go_upto_region 8 with first
    | with_reducible refine wpList_store_mid rfl 33 _ _ rfl w3.heap.size 0 L0.toArray rfl rfl hbt hbi (all_oneCell_toArray ho0) ?_
  obtain ⟨W4, hW⟩ : ∃ W', boxW w3 L0 = W' := ⟨_, rfl⟩
  have hat := box_at w3 (L := L0) hl0
  have hbl := box_below w3 L0
  rw [hW] at hat hbl
  unfold boxW at hW
  obtain ⟨T7, hT⟩ : ∃ T', w3.heap.size = T' := ⟨_, rfl⟩
  rw [hT] at hW hat hbl
  simp only [hT]
  simp only [hW]
  have hge_T7 : w3.heap.size ≤ T7 := Nat.le_of_eq hT
  have hle_T7 : T7 ≤ w3.heap.size := Nat.le_of_eq hT.symm
  clear hW hT hbt hbi
  rw [← hL0, stoL_ext (S' := toS fresh0) _ _ (fun i hi => (fresh_at hi).symm)] at hat
  have h7 : StBx T7 (toS fresh0) (fun _ => zx) (-1) W4 := hat
  have hs3 := hb3.size
  have hs4 := blk_lt hat
  have hz4 : W4.heap[N]? = some (.cells #[y0, y1, y2, y3, y4, y5] 28 (0, 0)) := heap_keep HB2.out.2 (hb3.trans (hbl.mono (by omega)))
  have hb4 : Below N w W4 := (HB2.out.1.trans (hb3.mono (by omega))).trans (hbl.mono (by omega))
  have hst4 : StF N W4 (toS fresh0) (fun _ => zx) := (StF.fresh N W4).ext fun i hi => (fresh_at hi).symm
  have HB4 := Lib.hid (And.intro h7 (And.intro hst4 (And.intro hz4 hb4)))
  have HF0 := Lib.hid fresh_hn
  have hNT : N < T7 := by omega
  clear h7 hat hbl hb3 hL0 hl0 ho0 HB2 hz4 hb4 hst4
  go_loopw [8, 44] (fun sv iv wr => ∃ (j : Nat) (st : Pl.Store) (X : Nat → ShX) (dt : List UInt8), j ≤ n ∧ iv = .int .i64 (j : Int) ∧ sv = .string ⟨dt.toArray⟩ ∧ Hid (StBx T7 (toS st) X (-1) wr ∧ StF N wr (toS st) X ∧ wr.heap[N]? = some (.cells #[y0, y1, y2, y3, y4, y5] 28 (0, 0)) ∧ Below N w wr) ∧ Hid (Hn st j) ∧ Hid (∀ h : 0 < j, ∃ h' : j - 1 < l.length, dt.length ≤ 500 ∧ Pl.Has st nm (Pl.partOf nm dt))) (fun _ iv _ => n - (intOf iv).toNat)
  case atStart => exact ⟨0, fresh0, _, [], by omega, rfl, rfl, HB4, HF0, Lib.hid fun h => absurd h (by omega)⟩
  case round =>
    obtain ⟨j, st, X, dt, hj, rfl, rfl, HS, HN, HH⟩ := hrel
    clear HB4 HF0
    have hsr := HS.out.2.2.2.size
    have h7lt : T7 < wr.heap.size := blk_lt HS.out.1
    by_cases hjn : j < n
    · have hjl : j < l.length := by omega
      obtain ⟨b, off, rfl, hlt, hc⟩ := (HV.out.2.1.below (by rw [hN]; exact HS.out.2.2.2)).all (by omega)
      have hc1 := hc j (by simpa [strs] using hjl)
      rw [strs_get l j hjl] at hc1
      have hsl := hls _ (List.getElem_mem hjl)
      obtain ⟨s, hs⟩ : ∃ s, l[j] = s := ⟨_, rfl⟩
      rw [hs] at hc1 hsl
      have HSJ := Lib.hid hs
      clear hc hlt hs
      by_cases h5 : 500 < s.length
      · have h5' : decide ((500 : Int) < (s.length : Int)) = true := by simp; omega
        clear h5
        go_wp2_with fail
        go_ret
        exact ⟨_, rfl, rfl, by rw [hN]; exact HS.out.2.2.2⟩
      have h5' : decide ((500 : Int) < (s.length : Int)) = false := by simp; omega
      have hpo := write_st (d := s) HN.out (by omega) HS.out.2.1.ok hgn (by omega) (HV.out.1.below (by rw [hN]; exact HS.out.2.2.2))
      have hrn := HS.out.1.range
      have hin := info_stoL (L := stoL (toS st) X (-1)) rfl
      obtain ⟨L5, hL5⟩ : ∃ L, stoL (toS st) X (-1) = L := ⟨_, rfl⟩
      rw [hL5] at hpo hrn hin
      obtain ⟨st', hst'⟩ : ∃ s', (Pl.putAll st nm (Pl.partOf nm s)).1 = s' := ⟨_, rfl⟩
      have hpl : ∀ i, i < 5 → (Pl.partOf nm s i).length ≤ 65536 := fun i hi => Pl.part_len (Pl.okName_len hgn).2 (by omega) i hi
      have hn' := HN.out.put (D := Pl.partOf nm s) hgn hpl
      have hhas := Pl.putAll_has HN.out.hon (data := Pl.partOf nm s) hgn hpl
      rw [hst'] at hpo hn' hhas
      have HP := Lib.hid (And.intro hpo (And.intro hn' hhas))
      have h5n : s.length ≤ 500 := by omega
      clear hpo hn' hhas hst' hL5 h5 hpl
      go_upto_region 13 with first
        | with_reducible refine wpList_load_mid rfl 33 _ rfl T7 0 rfl L5 _ hrn Tryz.underlying33 rfl hin ?_
        | (with_reducible refine HP.out.1.mono ?_)
      rintro _ w5 ⟨v, rfl, ⟨X5, rfl, hst5⟩, hb5⟩
      clear hrn hin
      obtain ⟨L6, hL6⟩ : ∃ L, stoL (toS st') X5 (-1) = L := ⟨_, rfl⟩
      have hl6 : L6.length = 11 := by rw [← hL6]; rfl
      have ho6 : ∀ v ∈ L6, v.oneCell' = true := by rw [← hL6]; exact stoL_one _ _ _
      rw [hL6]
      have hbt := box_there w5 (L := L6) hl6
      have hbi := info_stoA (L := L6) hl6
      go_upto_region 15 with first
        | with_reducible refine wpList_store_mid rfl 33 _ _ rfl w5.heap.size 0 L6.toArray rfl rfl hbt hbi (all_oneCell_toArray ho6) ?_
      obtain ⟨W6, hW⟩ : ∃ W', boxW w5 L6 = W' := ⟨_, rfl⟩
      have hat := box_at w5 (L := L6) hl6
      have hbl := box_below w5 L6
      rw [hW] at hat hbl
      unfold boxW at hW
      obtain ⟨TA, hT⟩ : ∃ T', w5.heap.size = T' := ⟨_, rfl⟩
      rw [hT] at hW hat hbl
      simp only [hT]
      simp only [hW]
      have hge_TA : w5.heap.size ≤ TA := Nat.le_of_eq hT
      have hle_TA : TA ≤ w5.heap.size := Nat.le_of_eq hT.symm
      clear hW hT hbt hbi
      have hs5 := hb5.size
      have hb6 : Below wr.heap.size wr W6 := hb5.trans (hbl.mono (by omega))
      have h7 := HS.out.1.keep hb6
      have hst6 : StF N W6 (toS st') X5 := (hst5.kpt (KpT.below (hbl.mono hge_TA))).weak (by omega)
      have hz6 : W6.heap[N]? = some (.cells #[y0, y1, y2, y3, y4, y5] 28 (0, 0)) := heap_keep HS.out.2.2.1 hb6
      have hbw : Below N w W6 := HS.out.2.2.2.trans (hb6.mono (by omega))
      have hr6 : W6.rangeAt TA 0 L6 := rangeL hat
      have hi6 := info_stoL (L := L6) hl6
      have hi6' := info_stoA (L := L6) hl6
      have hT6 : W6.there T7 0 L6.toArray.size := thereL h7 (by rw [List.size_toArray, hl6]; exact Nat.le_refl 11)
      have hb7 : Below N w (W6.setCells T7 0 L6) := hbw.trans (Lib.below_setCells_w (by omega) L6 0 W6)
      have hz7 : (W6.setCells T7 0 L6).heap[N]? = some (.cells #[y0, y1, y2, y3, y4, y5] 28 (0, 0)) := (World.heap_setCells_other W6 _ _ _ (by have := hb6.size; omega) (by omega)).trans hz6
      have h77 : StBx T7 (toS st') X5 (-1) (W6.setCells T7 0 L6) := by
        unfold StBx
        rw [hL6]
        exact heap_setCells_all (C := stoL (toS st) X (-1)) h7 (by rw [hl6]; rfl)
      have hst7 : StF N (W6.setCells T7 0 L6) (toS st') X5 := hst6.kpt (h7.kpts L6)
      have HS7 := Lib.hid (And.intro h77 (And.intro hst7 (And.intro hz7 hb7)))
      have HN7 := Lib.hid HP.out.2.1
      have HH7 := Lib.hid (show ∀ h : 0 < j + 1, ∃ h' : j + 1 - 1 < l.length, s.length ≤ 500 ∧ Pl.Has st' nm (Pl.partOf nm s) from fun _ => ⟨hjl, h5n, HP.out.2.2⟩)
      clear hat hbl hb5 hst5 hL6 hb6 h7 hst6 hz6 hbw hb7 hz7 h77 hst7 HP
      go_wp2_with first
        | with_reducible refine wpList_load_mid rfl 33 _ rfl TA 0 rfl L6 _ hr6 Tryz.underlying33 rfl hi6 ?_
        | with_reducible refine wpList_store_mid rfl 33 _ _ rfl T7 0 L6.toArray rfl rfl hT6 hi6' (all_oneCell_toArray ho6) ?_
      exact ⟨⟨j + 1, st', X5, s, by omega, ret_i (by omega), rfl, HS7, HN7, HH7⟩, by simp only [intOf]; omega⟩
    · obtain rfl : j = n := by omega
      clear hj hjn
      obtain ⟨hjl, h500, hhas⟩ := HH.out hn1
      obtain ⟨sr, hsum, hsml, hvo⟩ := read_st2 HN.out (by omega) (X := X) hgn (by omega) hhas q
      have hbe := HQ.out.2 (toS st) X (-1) wr (HV.out.2.2.below (by rw [hN]; exact HS.out.2.2.2))
      have hr7 := HS.out.1.range
      have hi7 := info_stoL (L := stoL (toS st) X (-1)) rfl
      obtain ⟨L7, hL7⟩ : ∃ L, stoL (toS st) X (-1) = L := ⟨_, rfl⟩
      obtain ⟨L8, hL8⟩ : ∃ L, stoL (bendS q (toS st)) (bendX q X) (-1) = L := ⟨_, rfl⟩
      rw [hL7] at hbe hr7 hi7
      rw [hL8] at hbe hvo
      have HX := Lib.hid (And.intro hbe hvo)
      have HSM := Lib.hid hsum
      have z0 : wr.cell? ⟨N, 0, none⟩ = some y0 := by rw [cell_row wr N 0 _ _ HS.out.2.2.1]; rfl
      have z1 : wr.cell? ⟨N, 1, none⟩ = some y1 := by rw [cell_row wr N 1 _ _ HS.out.2.2.1]; rfl
      have z2 : wr.cell? ⟨N, 2, none⟩ = some y2 := by rw [cell_row wr N 2 _ _ HS.out.2.2.1]; rfl
      have z3 : wr.cell? ⟨N, 3, none⟩ = some y3 := by rw [cell_row wr N 3 _ _ HS.out.2.2.1]; rfl
      have z4 : wr.cell? ⟨N, 4, none⟩ = some y4 := by rw [cell_row wr N 4 _ _ HS.out.2.2.1]; rfl
      have z5 : wr.cell? ⟨N, 5, none⟩ = some y5 := by rw [cell_row wr N 5 _ _ HS.out.2.2.1]; rfl
      clear hjl hhas hbe hvo hL7 hL8 hsum
      go_upto_region 18 with first
        | with_reducible refine wpList_load_mid rfl 33 _ rfl T7 0 rfl L7 _ hr7 Tryz.underlying33 rfl hi7 ?_
        | (with_reducible refine HX.out.1.mono ?_)
      rintro _ w5 ⟨v, rfl, rfl, hb5⟩
      have hbw5 : Below N w w5 := HS.out.2.2.2.trans (hb5.mono (by omega))
      have hvo := HX.out.2 w5 (HS.out.2.1.ok.below hb5) (HV.out.2.2.below (by rw [hN]; exact hbw5)) (HV.out.1.below (by rw [hN]; exact hbw5))
      have HB5 := Lib.hid hbw5
      have HVO := Lib.hid hvo
      have hs5 := hb5.size
      clear hr7 hi7 z0 z1 z2 z3 z4 z5 hb5 hbw5 hvo HX
      go_upto_region 18 with (with_reducible refine HVO.out.mono ?_)
      rintro _ w6 ⟨v, rfl, ⟨L9, rfl, hl9, ho9⟩, hb6⟩
      have hbt := box_there w6 (L := L9) hl9
      have hbi := info_stoA (L := L9) hl9
      go_upto_region 18 with first
        | with_reducible refine wpList_store_mid rfl 33 _ _ rfl w6.heap.size 0 L9.toArray rfl rfl hbt hbi (all_oneCell_toArray ho9) ?_
      obtain ⟨W7, hW⟩ : ∃ W', boxW w6 L9 = W' := ⟨_, rfl⟩
      have hat := box_at w6 (L := L9) hl9
      have hbl := box_below w6 L9
      rw [hW] at hat hbl
      unfold boxW at hW
      obtain ⟨TC, hT⟩ : ∃ T', w6.heap.size = T' := ⟨_, rfl⟩
      rw [hT] at hW hat hbl
      simp only [hT]
      simp only [hW]
      have hge_TC : w6.heap.size ≤ TC := Nat.le_of_eq hT
      have hle_TC : TC ≤ w6.heap.size := Nat.le_of_eq hT.symm
      clear hW hT hbt hbi
      have hb67 : Below w5.heap.size w5 W7 := hb6.trans (hbl.mono (by have := hb6.size; omega))
      have HB7 := Lib.hid (HB5.out.trans (hb67.mono (by omega)))
      clear hat hbl hb6 hb67
      by_cases hsd : sr = dt
      · subst hsd
        have g : (sr == sr) = true := by simp
        have g' : (sr != sr) = false := by simp
        go_wp2_with fail
        go_ret
        exact ⟨_, rfl, rfl, by rw [hN]; exact HB7.out⟩
      · have g : (sr == dt) = false := by rw [beq_eq_false_iff_ne]; exact hsd
        have g' : (sr != dt) = true := by rw [bne_iff_ne]; exact hsd
        clear hsd
        go_wp2_with fail
        have hb7a : Below W7.heap.size W7 (W7.alloc (.cells #[.string ⟨sr.toArray⟩] 9)) := (Below.refl _ _).alloc (Nat.le_refl _) _
        refine (rsum1_any W7.heap.size sr (by omega) _ (by rw [cell_row _ _ 0 _ _ (heap_alloc_new W7 _)]; rfl) (blk_lt (heap_alloc_new W7 _))).mono ?_
        rintro _ w8 ⟨v, rfl, rfl, hb8⟩
        have hs7 := HB7.out.size
        have hb78 : Below W7.heap.size W7 w8 := hb7a.trans (hb8.mono hb7a.size)
        have HB8 := Lib.hid (HB7.out.trans (hb78.mono (by omega)))
        have hs8 := hb78.size
        clear hb7a hb8 hb78
        have hq1 : Pl.sumB [sr] = Pl.sumB [dt] := HSM.out
        rw [hq1]
        obtain ⟨QQ, hQQ⟩ : ∃ z, Pl.sumB [dt] = z := ⟨_, rfl⟩
        have hQl : QQ.length = 32 := by rw [← hQQ]; exact Pl.sumB_len _
        have hsm2 := fun B W h1 h2 => rsum1_any B dt (by omega) W h1 h2
        rw [hQQ] at hsm2 ⊢
        have heq := eql_dig hQl hQl
        have hdq : decide (QQ = QQ) = true := decide_eq_true rfl
        simp only [hdq] at heq
        have HS2 := Lib.hid hsm2
        clear hq1 hQQ hsm2 hQl hdq HSM
        go_wp2_with fail
        have hb8a : Below w8.heap.size w8 (w8.alloc (.cells #[.string ⟨dt.toArray⟩] 9)) := (Below.refl _ _).alloc (Nat.le_refl _) _
        refine (HS2.out w8.heap.size _ (by rw [cell_row _ _ 0 _ _ (heap_alloc_new w8 _)]; rfl) (blk_lt (heap_alloc_new w8 _))).mono ?_
        rintro _ w9 ⟨v, rfl, rfl, hb9⟩
        have HB9 := Lib.hid (HB8.out.trans ((hb8a.trans (hb9.mono hb8a.size)).mono (by omega)))
        clear hb8a hb9
        go_wp2_with fail
        go_ret
        exact ⟨_, rfl, rfl, by rw [hN]; exact HB9.out⟩
-- FRAME
set_option maxRecDepth 100000 in
theorem spreadTwo_lifted (os : Os) (started : os.Started) (H : Type) (enc : TypeId × Value → H) :
    ReturnsInHanded {} Tryz.checked os 3 .any (fun w args => (Rows.spreadTwoSpec.pre enc Tryz.prog Tryz.f3 [] false w args ∧ laidMetH Tryz.prog tabsW w) ∧ sizedMet enc Tryz.prog Tryz.f3 (OpenSpec.ofChange Rows.spreadTwoSpec) false w args) (Rows.spreadTwoSpec.post enc Tryz.prog Tryz.f3 false true false false) := by
  refine returnsInHanded_of_change_and (C := Tryz.checked) (X := fun w _ => laidMetH Tryz.prog tabsW w) (fun _ _ _ hh h => h.of_heap hh) own started (by kernel_rfl) Tryz.func3
    (ChangeSpec.witness_shaped (enc := enc) (C := Tryz.checked) (os := os) (X := fun w _ => laidMetH Tryz.prog tabsW w) false (World.doorLaid Tryz.prog 100 os) #[.slice none 0 0, .string ⟨#[]⟩, .agg #[.int .u8 0, .int .u8 0, .slice none 0 0, .slice none 0 0, .slice none 0 0, .slice none 0 0]] 8 rfl (World.shaped_of_RefB (by kernel_rfl) (by kernel_rfl)) (by kernel_rfl) (by kernel_rfl) (by kernel_rfl) (door_metW os _)) ?_
  intro W base args ds gs before hval0 hW hcnd hsz0 hL _
  have hvars := vnum_ofW hL
  have hval : ∀ (j : Nat) t v, Tryz.f3.params[j]? = some t → args[j]? = some v → Value.okWide Tryz.prog W .any base t v := hval0
  have hW' := hW
  obtain ⟨p, q, hA0, hV, rfl, hfz, hnd⟩ := hW
  have hA : DataW.TrodAll enc Tryz.prog W 0 (fun _ => true) true Tryz.f3.params.toList args.toList ds p := hA0
  have hsz : (DataW.weightsEach Tryz.prog (Tryz.f3.params.toList ++ Rows.spreadTwoSpec.plain.varTypes Tryz.prog) (ds ++ gs)).all (· ≤ reachBytes) = true := hsz0
  rw [Tryz.params3] at hA hval hsz
  obtain ⟨v0, vs0, d0, ds0, p0, q0, hargs, rfl, rfl, h0, r0⟩ := trodAll_cons hA
  obtain ⟨v1, vs1, d1, ds1, p1, q1, rfl, rfl, rfl, h1, r1⟩ := trodAll_cons r0
  obtain ⟨v2, vs2, d2, ds2, p2, q2, rfl, rfl, rfl, h2, r2⟩ := trodAll_cons r1
  obtain ⟨rfl, rfl, rfl⟩ := trodAll_nil r2
  obtain rfl : args = #[v0, v1, v2] := by cases args; simp_all
  obtain ⟨rfl, rfl⟩ := trodVars_none hV
  have k0 := h0
  have lt0 : ∀ x ∈ p0, x.block < W.heap.size := by obtain ⟨m, hm⟩ := k0; exact DataW.trod_lt m _ _ _ hm
  have hz0 : ∀ m ∈ d0.weights Tryz.prog 22, m ≤ reachBytes := fun m hm => by
    have h1 := List.all_eq_true.1 hsz m (DataW.weights_mem_each (j := 0) rfl rfl m hm)
    simpa using h1
  obtain ⟨A0, n0, c0, l0, rfl, eA0, eB0, eC0, eD0, eE0, eF0⟩ := open_strs (hval 0 22 v0 rfl rfl) h0 hz0
  have k1 := h1
  have lt1 : ∀ x ∈ p1, x.block < W.heap.size := by obtain ⟨m, hm⟩ := k1; exact DataW.trod_lt m _ _ _ hm
  have hz1 : ∀ m ∈ d1.weights Tryz.prog 9, m ≤ reachBytes := fun m hm => by
    have h1 := List.all_eq_true.1 hsz m (DataW.weights_mem_each (j := 1) rfl rfl m hm)
    simpa using h1
  obtain ⟨l1, rfl, eA1⟩ := open_str (hval 1 9 v1 rfl rfl) h1 hz1
  have k2 := h2
  have lt2 : ∀ x ∈ p2, x.block < W.heap.size := by obtain ⟨m, hm⟩ := k2; exact DataW.trod_lt m _ _ _ hm
  have hz2 : ∀ m ∈ d2.weights Tryz.prog 28, m ≤ reachBytes := fun m hm => by
    have h1 := List.all_eq_true.1 hsz m (DataW.weights_mem_each (j := 2) rfl rfl m hm)
    simpa using h1
  obtain ⟨q2, rfl, eA2⟩ := open_lies (hval 2 28 v2 rfl rfl) h2 hz2
  clear hA0 hval0 hsz0
  refine (spreadTwo_walk A0 n0 c0 l0 l1 q2 W eA0 (Nat.le_trans eD0 reach_le) (fun s hs => Nat.le_trans (eE0 s hs) reach_le) eF0 (Nat.le_trans eA1 reach_le) eA2 hvars).mono fun e W' ⟨v, he, hv, bel⟩ => ?_
  subst he hv
  exact ⟨_, rfl, _, _, _, [], _, [], hW', trodAll_mk1 (shut_bool Tryz.underlying4 _), (trodAll_cons_mk (Below.trod laidOut (by kernel_rfl) (of_decide_eq_true (by kernel_rfl)) k0 bel lt0) (trodAll_cons_mk (Below.trod laidOut (by kernel_rfl) (of_decide_eq_true (by kernel_rfl)) k1 bel lt1) (trodAll_cons_mk (Below.trod laidOut (by kernel_rfl) (of_decide_eq_true (by kernel_rfl)) k2 bel lt2) trodAll_mk0))), rfl, bel.frame _, fun h => by cases h⟩

theorem spreadTwo_row : Rows.SpreadTwoSaid :=
  OpenClaim.holds_of_wide 3 Tryz.f3 rfl rfl rfl rfl rfl rfl rfl ⟨rfl, rfl, rfl, rfl, rfl⟩ rfl rfl rfl rfl rfl (by kernel_rfl) Tryz.func3 (by kernel_rfl)
    (of_decide_eq_true (by kernel_rfl)) (by unfold Func.isWrapper; first | (rw [if_pos (by decide +kernel)]; kernel_rfl) | (rw [if_neg (by decide +kernel)]; exact ⟨rfl, rfl⟩))
    (fun os started H enc _ => spreadTwo_lifted os started H enc)

theorem spreadTwo_holds : Rows.SpreadTwoCardSaid :=
  Claim7.holds_tied_plain_at .later [] [.data, .data, .data, .data, .data, .sentinel, .sentinel] true (true, "0b7c186e8d0c8ec5dbd714917fda1c1a9863461abdd35648811154aebd693e09") true
    spreadTwo_row (fun _ h => by cases h) (by kernel_rfl) (fun _ h => by cases h) spreadTwo_row_tie rfl ⟨rfl, rfl⟩ (by kernel_rfl) rfl
    (fun f fn hf hfn => by
      obtain rfl : f = 3 := Option.some.inj ((show Tryz.prog.funcNamed "hibernacle/hibernaclelaw37.SpreadTwo" = some 3 by kernel_rfl).symm.trans hf) |>.symm
      obtain rfl : fn = Tryz.f3 := (Option.some.inj (Tryz.func3.symm.trans hfn)).symm
      exact ⟨by kernel_rfl, fun j t ht => by
        rw [Tryz.params3] at ht
        rcases j with _ | _ | _ | _ | j
        all_goals first
          | (simp at ht; done)
          | (have h3 := Option.some.inj ht; subst h3; exact (show Tryz.prog.wantsStandIn _ = false by kernel_rfl))⟩)
    (by kernel_rfl)
#print axioms spreadTwo_holds
end Go.Proofs.YtdnebgilkfafhaaGreatDoor
