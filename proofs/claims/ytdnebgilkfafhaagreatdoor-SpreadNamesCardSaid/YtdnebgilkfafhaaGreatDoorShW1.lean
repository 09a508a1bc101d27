/- The walks of shelf.mayName, shelf.Check and the reference's Name, Check. The walks of shelf.flipped, shelf.taken and the reference's flipped, fate. The walks of shelf.taken and the reference's fate. The walks of slices.Clone at api.Obj and at int, and of shelf.copied. The walks of shelf.find and what it calls. The walks of shelf.asked and shelf.Get. The walk of shelf.Get, where it isn't refused. -/
import Derived.Test.YtdnebgilkfafhaaGreatDoorShPlain
import Derived.Test.YtdnebgilkfafhaaGreatDoorBase
import Derived.Deep.QuietTactic
import Derived.BigQuiet
import Derived.Deep.RegionHeld3
import Derived.Lib.Bytealg
import Derived.Laws.Externs
namespace Go.Proofs.YtdnebgilkfafhaaGreatDoor
open Go.RowKit
set_option linter.unusedVariables false
attribute [local go_sem] ba_get ba_add

/-- An object's cells. -/
def objC (o : Pl.Obj) : List Value := [.string ⟨o.name.toArray⟩, .string ⟨o.data.toArray⟩, .string ⟨o.was.toArray⟩, .bool o.had]
def objCs (l : List Pl.Obj) : List Value := l.flatMap objC
def ints (l : List Int) : List Value := l.map fun x => .int .i64 x
theorem flat_getO {α : Type} (k : Nat) : ∀ (L : List (List α)), (∀ x ∈ L, x.length = k) → ∀ (i j : Nat) (h : i < L.length), j < k → L.flatten[i * k + j]? = L[i][j]?
  | [], _, i, _, h, _ => absurd h (by simp)
  | x :: L, hx, 0, j, _, hj => by
    have h1 := hx x (List.mem_cons_self ..)
    rw [List.flatten_cons, List.getElem?_append_left (by omega)]; simp
  | x :: L, hx, i + 1, j, h, hj => by
    have h1 := hx x (List.mem_cons_self ..)
    rw [List.flatten_cons, List.getElem?_append_right (by rw [h1, Nat.add_mul]; omega), h1, show (i + 1) * k + j - k = i * k + j by rw [Nat.add_mul]; omega]
    exact flat_getO k L (fun y hy => hx y (List.mem_cons_of_mem _ hy)) i j (by simpa using h) hj
theorem objCs_get (l : List Pl.Obj) (i j : Nat) (h : i < l.length) (hj : j < 4) : (objCs l)[i * 4 + j]? = (objC l[i])[j]? := by
  have e : objCs l = (l.map objC).flatten := by simp [objCs, List.flatMap_def]
  have hk : ∀ x ∈ l.map objC, x.length = 4 := by
    intro x hx
    obtain ⟨y, _, rfl⟩ := List.mem_map.1 hx
    rfl
  rw [e, flat_getO 4 (l.map objC) hk i j (by simpa using h) hj]
  simp
theorem Rd.obj {w : World} {A : Option Addr} {n : Nat} {l : List Pl.Obj} (h : Rd w 4 A n (objCs l)) (hn : l.length = n) {i : Nat} (hi : i < n) :
    ∃ b off, A = some ⟨b, off, none⟩ ∧ b < w.heap.size ∧ w.cell? ⟨b, off + i * 4, none⟩ = some (.string ⟨(l[i]'(by omega)).name.toArray⟩) ∧ w.cell? ⟨b, off + i * 4 + 1, none⟩ = some (.string ⟨(l[i]'(by omega)).data.toArray⟩) ∧
      w.cell? ⟨b, off + i * 4 + 2, none⟩ = some (.string ⟨(l[i]'(by omega)).was.toArray⟩) ∧ w.cell? ⟨b, off + i * 4 + 3, none⟩ = some (.bool (l[i]'(by omega)).had) := by
  obtain ⟨b, off, rfl, hb, hc⟩ := h.all (by omega)
  have hl := h.len
  have g := fun j hj => objCs_get l i j (by omega) hj
  refine ⟨b, off, rfl, hb, ?_, ?_, ?_, ?_⟩
  · rw [hc (i * 4) (by omega)]; exact g 0 (by omega)
  · rw [Nat.add_assoc, hc (i * 4 + 1) (by omega)]; exact g 1 (by omega)
  · rw [Nat.add_assoc, hc (i * 4 + 2) (by omega)]; exact g 2 (by omega)
  · rw [Nat.add_assoc, hc (i * 4 + 3) (by omega)]; exact g 3 (by omega)

set_option maxRecDepth 100000 in
theorem mayName_any (s : List UInt8) (w : World) : Calls Tryz.prog 120 #[.string ⟨s.toArray⟩] w (Ret (.bool (Pl.okName s)) w) := by
  obtain ⟨k, hk⟩ : ∃ k, Pl.okName s = k := ⟨_, rfl⟩
  rw [hk]
  have HK := Lib.hid hk; clear hk
  go_enter Tryz.func120, Tryz.ntmps120
  go_wp2_with fail
  all_goals go_ret
  all_goals
    refine ⟨?_, rfl⟩
    show Ending.returned (Value.bool _) = Ending.returned (Value.bool _)
    congr 2
    rw [← HK.out]
    unfold Pl.okName
    rw [Bool.eq_iff_iff]
    simp
    try omega
set_option maxRecDepth 100000 in
theorem rName_any (s : List UInt8) (w : World) : Calls Tryz.prog 48 #[.string ⟨s.toArray⟩] w (Ret (.bool (Pl.okName s)) w) := by
  obtain ⟨k, hk⟩ : ∃ k, Pl.okName s = k := ⟨_, rfl⟩
  rw [hk]
  have HK := Lib.hid hk; clear hk
  go_enter Tryz.func48, Tryz.ntmps48
  go_wp2_with fail
  all_goals go_ret
  all_goals
    refine ⟨?_, rfl⟩
    show Ending.returned (Value.bool _) = Ending.returned (Value.bool _)
    congr 2
    rw [← HK.out]
    unfold Pl.okName
    rw [Bool.eq_iff_iff]
    simp
    try omega
/-- A shelf as a value. -/
def shelfV (A : Option Addr) (n c : Nat) (A' : Option Addr) (m c' : Nat) : Value := .agg #[.slice A n c, .slice A' m c']
set_option maxRecDepth 100000 in
set_option maxHeartbeats 1000000 in
theorem check_any (A A' : Option Addr) (n c m c' : Nat) (l : List Pl.Obj) (w : World) (hl : l.length = n) (ha : Rd w 4 A n (objCs l)) (hn : n ≤ 2513169434900) :
    Calls Tryz.prog 89 #[.agg #[.slice A n c, .slice A' m c']] w (RetB (fun v _ => v = .int .i64 (Pl.chk l : Int)) w) := by
  obtain ⟨E, hE⟩ : ∃ E, Pl.chk l = E := ⟨_, rfl⟩
  rw [hE]
  have HE := Lib.hid (And.intro hE hl); clear hE hl
  go_enter Tryz.func89, Tryz.ntmps89
  go_wp2_with fail
  obtain ⟨V, hV⟩ : ∃ V, w.alloc (.cells #[.slice A n c, .slice A' m c'] 26) = V := ⟨_, rfl⟩
  have hx0 : V.heap[w.heap.size]? = some (.cells #[.slice A n c, .slice A' m c'] 26 (0, 0)) := by rw [← hV]; exact heap_alloc_new w _
  have hbV : Below w.heap.size w V := by rw [← hV]; exact (Below.refl _ _).alloc (Nat.le_refl _) _
  have haV := ha.below hbV
  have hsV : w.heap.size < V.heap.size := by rw [← hV]; simp
  rw [hV]
  have HX := Lib.hid hx0; clear hx0 hV ha
  go_loopw [8] (fun i wr => ∃ (j : Nat), j ≤ n ∧ i = .int .i64 (j : Nat) ∧ Below V.heap.size V wr ∧ Hid (Pl.chkFrom l (n - j) j = E)) (fun i _ => n - (intOf i).toNat)
  case atStart => exact ⟨0, by omega, rfl, Below.refl _ _, by have := HE.out; unfold Pl.chk at this; rw [this.2] at this; exact this.1⟩
  case round =>
    obtain ⟨j, hj, rfl, hbr, HJ⟩ := hrel
    have hbw := hbV.trans (hbr.mono hbV.size)
    by_cases hjn : j < n
    · have hjl : j < l.length := by rw [HE.out.2]; exact hjn
      obtain ⟨b, off, rfl, hlt, p0, p1, p2, p3⟩ := (haV.below hbr).obj HE.out.2 hjn
      obtain ⟨y, hy⟩ : ∃ y, l[j] = y := ⟨_, rfl⟩
      rw [hy] at p0 p1 p2 p3
      have hst : (if Pl.objE (Pl.prevOf l j) y = 0 then Pl.chkFrom l (n - (j + 1)) (j + 1) else Pl.objE (Pl.prevOf l j) y) = E := by
        have := Pl.chkFrom_step l (n - (j + 1)) j hjl
        rw [show n - (j + 1) + 1 = n - j by omega, HJ.out, hy] at this
        exact this.symm
      have HY := Lib.hid (And.intro hst hy); clear hst hy HJ
      obtain ⟨nm, dt, ws, hd⟩ := y
      simp only at p0 p1 p2 p3
      have hx0 : wr.cell? ⟨w.heap.size, 0, none⟩ = some (.slice (some ⟨b, off, none⟩) n c) := (hbr.cell (p := ⟨w.heap.size, 0, none⟩) hsV).trans (cell_row V _ 0 _ _ HX.out)
      have hsw : w.heap.size < wr.heap.size := Nat.lt_of_lt_of_le hsV hbr.size
      obtain ⟨q, hq⟩ : ∃ q, Pl.okName nm = q := ⟨_, rfl⟩
      have hmn := fun w => mayName_any nm w
      rw [hq] at hmn
      have HM := Lib.hid (And.intro hmn hq); clear hmn hq
      go_wp2_with fail
      (with_reducible refine (HM.out.1 _).mono ?_)
      rintro e w1 ⟨rfl, rfl⟩
      have hbr1 := hbr.alloc hbr.size (.cells #[.string ⟨nm.toArray⟩, .string ⟨dt.toArray⟩, .string ⟨ws.toArray⟩, .bool hd] 49)
      have hbw1 := hbw.alloc hbw.size (.cells #[.string ⟨nm.toArray⟩, .string ⟨dt.toArray⟩, .string ⟨ws.toArray⟩, .bool hd] 49)
      cases q
      · have h7 : Pl.objE (Pl.prevOf l j) ⟨nm, dt, ws, hd⟩ = 7 := by unfold Pl.objE; simp only [HM.out.2, if_true]
        have hE7 : E = 7 := by have := HY.out.1; rw [h7] at this; simpa using this.symm
        subst hE7
        go_wp2_with fail
        go_ret
        exact ⟨_, rfl, rfl, hbw1⟩
      · by_cases hj0 : j = 0
        · have hz1 : decide (0 < (j : Int)) = false := decide_eq_false (by omega)
          have hz2 : decide (0 < j) = false := decide_eq_false (by omega)
          have HZ := Lib.hid hj0; clear hj0
          go_wp2_with fail
          go_quiet (fail)
          go_wp2_with fail
          go_quiet (fail)
          have hpn : Pl.prevOf l j = none := by unfold Pl.prevOf; rw [if_pos HZ.out]
          have f1 : (Pl.prevOf l j).elim false (fun p => nm == p) = false := by rw [hpn]; rfl
          have f2 : (Pl.prevOf l j).elim false (fun p => Op.bytesLess nm p) = false := by rw [hpn]; rfl
          have HF := Lib.hid (And.intro f1 f2); clear hpn f1 f2
          cases hd
          all_goals go_wp2_with fail
          all_goals first
            | (go_ret
               refine ⟨_, rfl, ?_, by first | exact below_drewN hbw1 _ | exact below_drewN (below_drewN hbw1 _) _⟩
               have hE := Pl.ret_obj HY.out.1 (Pl.objE_6 HM.out.2 HF.out.1 HF.out.2 (by omega)) (by decide)
               rw [hE]; rfl)
            | (go_ret
               refine ⟨_, rfl, ?_, by first | exact below_drewN hbw1 _ | exact below_drewN (below_drewN hbw1 _) _⟩
               have hE := Pl.ret_obj HY.out.1 (Pl.objE_3 HM.out.2 HF.out.1 HF.out.2 (by omega) rfl (by rintro rfl; simp_all)) (by decide)
               rw [hE]; rfl)
            | (go_roundw
               case rel =>
                 refine ⟨j + 1, by omega, by go_num, by first | exact below_drewN hbr1 _ | exact below_drewN (below_drewN hbr1 _) _, ?_⟩
                 exact Eq.trans (Eq.symm (if_pos (Pl.objE_0 HM.out.2 HF.out.1 HF.out.2 (by omega) (by first | exact .inl rfl | exact .inr (by simp_all))))) HY.out.1
               case measure => simp [intOf]; omega)
        · have hz1 : decide (0 < (j : Int)) = true := decide_eq_true (by omega)
          have hz2 : decide (0 < j) = true := decide_eq_true (by omega)
          obtain ⟨b', off', e', -, p0', -, -, -⟩ := (haV.below hbr).obj HE.out.2 (i := j - 1) (by omega)
          injection e' with e'
          injection e' with e1 e2
          subst e1 e2
          obtain ⟨pv, hpv⟩ : ∃ pv, (l[j - 1]'(by omega)).name = pv := ⟨_, rfl⟩
          rw [hpv] at p0'
          have i1 : IntKind.i64.wrap ((j : Int) - 1) = (j : Int) - 1 := IntWalk.i64_in _ (by omega)
          have i2 : ((j : Int) - 1).toNat = j - 1 := by omega
          have i3 : 0 ≤ (j : Int) - 1 := by omega
          have i4 : (j : Int) - 1 < (n : Int) := by omega
          have hprev : Pl.prevOf l j = some pv := by unfold Pl.prevOf; rw [if_neg hj0, List.getElem?_eq_getElem (by omega)]; simp [hpv]
          have HP := Lib.hid (And.intro hprev hpv); clear hprev hpv hj0
          obtain ⟨q1, hq1⟩ : ∃ q, (nm == pv) = q := ⟨_, rfl⟩
          obtain ⟨q2, hq2⟩ : ∃ q, Op.bytesLess nm pv = q := ⟨_, rfl⟩
          cases q1
          · have f1 : (Pl.prevOf l j).elim false (fun p => nm == p) = false := by rw [HP.out.1]; exact hq1
            go_wp2_with fail
            go_quiet (fail)
            go_wp2_with fail
            cases q2
            · have f2 : (Pl.prevOf l j).elim false (fun p => Op.bytesLess nm p) = false := by rw [HP.out.1]; exact hq2
              have HF := Lib.hid (And.intro f1 f2); clear f1 f2
              go_quiet (fail)
              cases hd
              all_goals go_wp2_with fail
              all_goals first
                | (go_ret
                   refine ⟨_, rfl, ?_, by first | exact below_drewN hbw1 _ | exact below_drewN (below_drewN hbw1 _) _⟩
                   have hE := Pl.ret_obj HY.out.1 (Pl.objE_6 HM.out.2 HF.out.1 HF.out.2 (by omega)) (by decide)
                   rw [hE]; rfl)
                | (go_ret
                   refine ⟨_, rfl, ?_, by first | exact below_drewN hbw1 _ | exact below_drewN (below_drewN hbw1 _) _⟩
                   have hE := Pl.ret_obj HY.out.1 (Pl.objE_3 HM.out.2 HF.out.1 HF.out.2 (by omega) rfl (by rintro rfl; simp_all)) (by decide)
                   rw [hE]; rfl)
                | (go_roundw
                   case rel =>
                     refine ⟨j + 1, by omega, by go_num, by first | exact below_drewN hbr1 _ | exact below_drewN (below_drewN hbr1 _) _, ?_⟩
                     exact Eq.trans (Eq.symm (if_pos (Pl.objE_0 HM.out.2 HF.out.1 HF.out.2 (by omega) (by first | exact .inl rfl | exact .inr (by simp_all))))) HY.out.1
                   case measure => simp [intOf]; omega)
            · have f2 : (Pl.prevOf l j).elim false (fun p => Op.bytesLess nm p) = true := by rw [HP.out.1]; exact hq2
              have HF := Lib.hid (And.intro f1 f2); clear f1 f2
              have hE2 : E = 2 := Pl.ret_obj HY.out.1 (Pl.objE_2 HM.out.2 HF.out.1 HF.out.2) (by decide)
              have HE2 := Lib.hid hE2; clear hE2
              go_quiet (fail)
              go_wp2_with fail
              go_ret
              refine ⟨_, rfl, ?_, by first | exact below_drewN hbw1 _ | exact below_drewN (below_drewN hbw1 _) _⟩
              rw [HE2.out]; rfl
          · have f1 : (Pl.prevOf l j).elim false (fun p => nm == p) = true := by rw [HP.out.1]; exact hq1
            have hE8 : E = 8 := Pl.ret_obj HY.out.1 (Pl.objE_8 HM.out.2 f1) (by decide)
            have HF := Lib.hid f1; clear f1
            subst hE8
            go_wp2_with fail
            go_quiet (fail)
            go_wp2_with fail
            go_ret
            exact ⟨_, rfl, rfl, below_drewN hbw1 _⟩
    · obtain rfl : j = n := by omega
      have hE0 : E = 0 := by rw [← HJ.out, Nat.sub_self]; rfl
      subst hE0
      go_wp2_with fail
      go_ret
      exact ⟨_, rfl, rfl, hbw⟩
end Go.Proofs.YtdnebgilkfafhaaGreatDoor
namespace Go.Proofs.YtdnebgilkfafhaaGreatDoor
open Go.RowKit
set_option linter.unusedVariables false
set_option linter.unusedSimpArgs false
attribute [local go_sem] ba_get ba_add ba_cut List.drop_zero Nat.sub_zero

theorem flip_xor (c : UInt8) : bits .xor .u8 (c.toNat : Int) 1 = ((Pl.flipB c).toNat : Int) := by
  have h : ∀ n : Fin 256, bits .xor .u8 (n.val : Int) 1 = ((Pl.flipB (UInt8.ofNat n.val)).toNat : Int) := by decide +kernel
  have := h ⟨c.toNat, c.toNat_lt⟩
  simpa using this
set_option maxRecDepth 100000 in
set_option maxHeartbeats 1000000 in
theorem flipped_any (b : List UInt8) (w : World) (hb : b.length ≤ 1000000) : Calls Tryz.prog 113 #[.string ⟨b.toArray⟩] w (RetB (fun v _ => v = .string ⟨(Pl.flip b).toArray⟩) w) := by
  obtain ⟨F, hF⟩ : ∃ F, Pl.flip b = F := ⟨_, rfl⟩
  rw [hF]
  rcases List.eq_nil_or_concat b with rfl | ⟨l, c, hlc⟩
  · obtain rfl : F = [] := hF.symm
    clear hF
    go_enter Tryz.func113, Tryz.ntmps113
    go_wp2_with fail
    go_ret
    exact ⟨_, rfl, rfl, Below.refl _ _⟩
  · have hF2 : l ++ [Pl.flipB c] = F := by rw [← hF, hlc]; simp [Pl.flip]
    have hlen : b.length = l.length + 1 := by rw [hlc]; simp
    have hbe : b.isEmpty = false := by rw [hlc]; simp
    have hb0 : b ≠ [] := by rw [hlc]; simp
    have i1 : IntKind.i64.wrap ((b.length : Int) - 1) = l.length := by rw [hlen]; exact (IntWalk.i64_in _ (by omega)).trans (by omega)
    have i2 : (b.length : Int) - 1 = l.length := by omega
    have i3 : IntKind.i64.wrap (l.length : Int) = l.length := IntWalk.i64_in _ (by omega)
    have hix : ∀ W, (Instr.index 9 (.string ⟨b.toArray⟩) (.int .i64 (l.length : Int))).run Tryz.prog W = .ok (.int .u8 (c.toNat : Int)) W := by
      intro W
      have h1 : (l.length : Int) < ((l.length + 1 : Nat) : Int) := by omega
      subst hlc
      simp [go_sem]
      omega
    have hcut : b.take l.length = l := by rw [hlc]; simp
    have hlb : (l.length : Int) ≤ (b.length : Int) := by omega
    have hl0 : (0 : Int) ≤ (l.length : Int) := by omega
    have hx := flip_xor c
    obtain ⟨x, hxx⟩ : ∃ x, Pl.flipB c = x := ⟨_, rfl⟩
    rw [hxx] at hx hF2
    have hl9 : ¬ 9223372036854775807 < l.length + 1 := by omega
    have HF := Lib.hid (And.intro hF2 (And.intro hlen (And.intro hlc (And.intro hF hxx)))); clear hF2 hlen hlc hF hxx
    go_enter Tryz.func113, Tryz.ntmps113
    go_wp2_with fail
    refine wp_region_held_drew (S := (fun w' => True)) (by kernel_rfl) trivial (fun hHeld => ?_)
    refine tk 0 (v := ?_) rfl ?_ hHeld ?_
    rotate_left
    · (intro w' hSw; (try dsimp only at hSw); go_simp; try with_reducible rfl)
    simp only [Act.put, lay9]
    refine tk 1 (v := ?_) rfl ?_ hHeld ?_
    rotate_left
    · (intro w' hSw; (try dsimp only at hSw); go_simp; try with_reducible rfl)
    simp only [Act.put, lay9]
    refine tk 2 (v := ?_) rfl ?_ hHeld ?_
    rotate_left
    · (intro w' hSw; (try dsimp only at hSw); go_simp; try with_reducible rfl)
    simp only [Act.put, lay9]
    refine tk 3 (v := ?_) rfl ?_ hHeld ?_
    rotate_left
    · (intro w' hSw; (try dsimp only at hSw); go_simp; try with_reducible rfl)
    simp only [Act.put, lay9]
    refine tk 4 (v := ?_) rfl ?_ hHeld ?_
    rotate_left
    · (intro w' hSw; (try dsimp only at hSw); go_simp; try with_reducible rfl)
    simp only [Act.put, lay9]
    refine tk 5 (v := ?_) rfl ?_ hHeld ?_
    rotate_left
    · (intro w' hSw; (try dsimp only at hSw); go_simp; try with_reducible rfl)
    simp only [Act.put, lay9]
    refine tk 6 (v := ?_) rfl ?_ hHeld ?_
    rotate_left
    · (intro w' hSw; (try dsimp only at hSw); go_simp; try with_reducible rfl)
    simp only [Act.put, lay9]
    refine wpAnyH_ready (rs := [7]) (by kernel_rfl) (by simp) (AllReadyH.cons rfl (fun K hK => ?_) AllReadyH.nil)
    go_simp
    refine hK.out _ _ trivial (fun hHeld => ?_)
    clear hK K
    (try simp only [Act.put, lay9])
    refine wpAnyH_ready (rs := [8]) (by kernel_rfl) (by simp) (AllReadyH.cons rfl (fun K hK => ?_) AllReadyH.nil)
    have hcv := byte_conv (w.alloc (.cells #[.int .u8 (x.toNat : Int)] 5)).drew w.heap.size x 1 (World.cell?_alloc_new _ _ _ _)
    go_simp
    refine hK.out _ _ trivial (fun hHeld => ?_)
    clear hK K
    (try simp only [Act.put, lay9])
    refine tk 9 (v := ?_) rfl ?_ hHeld ?_
    rotate_left
    · (intro w' hSw; (try dsimp only at hSw); go_simp; try with_reducible rfl)
    simp only [Act.put, lay9]
    refine tk 10 (v := ?_) rfl ?_ hHeld ?_
    rotate_left
    · (intro w' hSw; (try dsimp only at hSw); go_simp; try with_reducible rfl)
    simp only [Act.put, lay9]
    refine wpAnyH_done (by kernel_rfl) ?_ _
    go_wp2_with fail
    go_ret
    refine ⟨_, rfl, ?_, ((Below.refl _ _).alloc (Nat.le_refl _) _).drew⟩
    rw [← HF.out.1]
    rfl

theorem flip_if (c : UInt8) : ((Pl.flipB c).toNat : Int) = if c.toNat % 2 = 1 then (c.toNat : Int) - 1 else (c.toNat : Int) + 1 := by
  have h : ∀ n : Fin 256, ((Pl.flipB (UInt8.ofNat n.val)).toNat : Int) = if n.val % 2 = 1 then (n.val : Int) - 1 else (n.val : Int) + 1 := by decide +kernel
  have := h ⟨c.toNat, c.toNat_lt⟩
  simpa using this
set_option maxRecDepth 100000 in
set_option maxHeartbeats 1000000 in
theorem rflipped_any (b : List UInt8) (w : World) (hb : b.length ≤ 1000000) : Calls Tryz.prog 167 #[.string ⟨b.toArray⟩] w (RetB (fun v _ => v = .string ⟨(Pl.flip b).toArray⟩) w) := by
  obtain ⟨F, hF⟩ : ∃ F, Pl.flip b = F := ⟨_, rfl⟩
  rw [hF]
  rcases List.eq_nil_or_concat b with rfl | ⟨l, c, hlc⟩
  · obtain rfl : F = [] := hF.symm
    clear hF
    go_enter Tryz.func167, Tryz.ntmps167
    go_wp2_with fail
    go_ret
    exact ⟨_, rfl, rfl, Below.refl _ _⟩
  · have hF2 : l ++ [Pl.flipB c] = F := by rw [← hF, hlc]; simp [Pl.flip]
    have hlen : b.length = l.length + 1 := by rw [hlc]; simp
    have hbe : b.isEmpty = false := by rw [hlc]; simp
    have hb0 : b ≠ [] := by rw [hlc]; simp
    have i1 : IntKind.i64.wrap ((b.length : Int) - 1) = l.length := by rw [hlen]; exact (IntWalk.i64_in _ (by omega)).trans (by omega)
    have i2 : (b.length : Int) - 1 = l.length := by omega
    have i3 : IntKind.i64.wrap (l.length : Int) = l.length := IntWalk.i64_in _ (by omega)
    have hix : ∀ W, (Instr.index 9 (.string ⟨b.toArray⟩) (.int .i64 (l.length : Int))).run Tryz.prog W = .ok (.int .u8 (c.toNat : Int)) W := by
      intro W
      have h1 : (l.length : Int) < ((l.length + 1 : Nat) : Int) := by omega
      subst hlc
      simp [go_sem]
      omega
    have hcut : b.take l.length = l := by rw [hlc]; simp
    have hlb : (l.length : Int) ≤ (b.length : Int) := by omega
    have hl0 : (0 : Int) ≤ (l.length : Int) := by omega
    have hx := flip_if c
    obtain ⟨x, hxx⟩ : ∃ x, Pl.flipB c = x := ⟨_, rfl⟩
    rw [hxx] at hx hF2
    obtain ⟨n, hn⟩ : ∃ n, c.toNat = n := ⟨_, rfl⟩
    have hn256 : n < 256 := by rw [← hn]; exact c.toNat_lt
    simp only [hn] at hix hx
    have hx256 : x.toNat < 256 := x.toNat_lt
    have hl9 : ¬ 9223372036854775807 < l.length + 1 := by omega
    have HF := Lib.hid (And.intro hF2 (And.intro hlen (And.intro hlc (And.intro hF hxx)))); clear hF2 hlen hlc hF hxx hn
    by_cases hodd : n % 2 = 1
    · rw [if_pos hodd] at hx
      have hx' : (n : Int) - 1 = (x.toNat : Int) := hx.symm
      have ho : ((n : Int) % 2 == 1) = true := by rw [beq_iff_eq]; omega
      clear hx hodd
      go_enter Tryz.func167, Tryz.ntmps167
      go_wp2_with fail
      refine wp_region_held_drew (S := (fun w' => True)) (by kernel_rfl) trivial (fun hHeld => ?_)
      refine tk 0 (v := ?_) rfl ?_ hHeld ?_
      rotate_left
      · (intro w' hSw; (try dsimp only at hSw); go_simp; try with_reducible rfl)
      simp only [Act.put, lay9]
      refine tk 1 (v := ?_) rfl ?_ hHeld ?_
      rotate_left
      · (intro w' hSw; (try dsimp only at hSw); go_simp; try with_reducible rfl)
      simp only [Act.put, lay9]
      refine tk 2 (v := ?_) rfl ?_ hHeld ?_
      rotate_left
      · (intro w' hSw; (try dsimp only at hSw); go_simp; try with_reducible rfl)
      simp only [Act.put, lay9]
      refine tk 3 (v := ?_) rfl ?_ hHeld ?_
      rotate_left
      · (intro w' hSw; (try dsimp only at hSw); go_simp; try with_reducible rfl)
      simp only [Act.put, lay9]
      refine tk 4 (v := ?_) rfl ?_ hHeld ?_
      rotate_left
      · (intro w' hSw; (try dsimp only at hSw); go_simp; try with_reducible rfl)
      simp only [Act.put, lay9]
      refine tk 5 (v := ?_) rfl ?_ hHeld ?_
      rotate_left
      · (intro w' hSw; (try dsimp only at hSw); go_simp; try with_reducible rfl)
      simp only [Act.put, lay9]
      refine wpAnyH_ready (rs := [6]) (by kernel_rfl) (by simp) (AllReadyH.cons rfl (fun K hK => ?_) AllReadyH.nil)
      go_simp
      refine hK.out _ _ trivial (fun hHeld => ?_)
      clear hK K
      (try simp only [Act.put, lay9])
      refine wpAnyH_ready (rs := [7]) (by kernel_rfl) (by simp) (AllReadyH.cons rfl (fun K hK => ?_) AllReadyH.nil)
      have hcv := byte_conv (w.alloc (.cells #[.int .u8 (x.toNat : Int)] 5)).drew w.heap.size x 1 (World.cell?_alloc_new _ _ _ _)
      go_simp
      refine hK.out _ _ trivial (fun hHeld => ?_)
      clear hK K
      (try simp only [Act.put, lay9])
      refine tk 8 (v := ?_) rfl ?_ hHeld ?_
      rotate_left
      · (intro w' hSw; (try dsimp only at hSw); go_simp; try with_reducible rfl)
      simp only [Act.put, lay9]
      refine tk 9 (v := ?_) rfl ?_ hHeld ?_
      rotate_left
      · (intro w' hSw; (try dsimp only at hSw); go_simp; try with_reducible rfl)
      simp only [Act.put, lay9]
      refine wpAnyH_done (by kernel_rfl) ?_ _
      go_wp2_with fail
      go_ret
      refine ⟨_, rfl, ?_, ((Below.refl _ _).alloc (Nat.le_refl _) _).drew⟩
      rw [← HF.out.1]
      rfl
    · rw [if_neg hodd] at hx
      have hx' : (n : Int) + 1 = (x.toNat : Int) := hx.symm
      have ho : ((n : Int) % 2 == 1) = false := beq_eq_false_iff_ne.2 (by omega)
      clear hx hodd
      go_enter Tryz.func167, Tryz.ntmps167
      go_wp2_with fail
      refine wp_region_held_drew (S := (fun w' => True)) (by kernel_rfl) trivial (fun hHeld => ?_)
      refine tk 0 (v := ?_) rfl ?_ hHeld ?_
      rotate_left
      · (intro w' hSw; (try dsimp only at hSw); go_simp; try with_reducible rfl)
      simp only [Act.put, lay9]
      refine tk 1 (v := ?_) rfl ?_ hHeld ?_
      rotate_left
      · (intro w' hSw; (try dsimp only at hSw); go_simp; try with_reducible rfl)
      simp only [Act.put, lay9]
      refine tk 2 (v := ?_) rfl ?_ hHeld ?_
      rotate_left
      · (intro w' hSw; (try dsimp only at hSw); go_simp; try with_reducible rfl)
      simp only [Act.put, lay9]
      refine tk 3 (v := ?_) rfl ?_ hHeld ?_
      rotate_left
      · (intro w' hSw; (try dsimp only at hSw); go_simp; try with_reducible rfl)
      simp only [Act.put, lay9]
      refine tk 4 (v := ?_) rfl ?_ hHeld ?_
      rotate_left
      · (intro w' hSw; (try dsimp only at hSw); go_simp; try with_reducible rfl)
      simp only [Act.put, lay9]
      refine tk 5 (v := ?_) rfl ?_ hHeld ?_
      rotate_left
      · (intro w' hSw; (try dsimp only at hSw); go_simp; try with_reducible rfl)
      simp only [Act.put, lay9]
      refine wpAnyH_ready (rs := [6]) (by kernel_rfl) (by simp) (AllReadyH.cons rfl (fun K hK => ?_) AllReadyH.nil)
      go_simp
      refine hK.out _ _ trivial (fun hHeld => ?_)
      clear hK K
      (try simp only [Act.put, lay9])
      refine wpAnyH_ready (rs := [7]) (by kernel_rfl) (by simp) (AllReadyH.cons rfl (fun K hK => ?_) AllReadyH.nil)
      have hcv := byte_conv (w.alloc (.cells #[.int .u8 (x.toNat : Int)] 5)).drew w.heap.size x 1 (World.cell?_alloc_new _ _ _ _)
      go_simp
      refine hK.out _ _ trivial (fun hHeld => ?_)
      clear hK K
      (try simp only [Act.put, lay9])
      refine tk 8 (v := ?_) rfl ?_ hHeld ?_
      rotate_left
      · (intro w' hSw; (try dsimp only at hSw); go_simp; try with_reducible rfl)
      simp only [Act.put, lay9]
      refine tk 9 (v := ?_) rfl ?_ hHeld ?_
      rotate_left
      · (intro w' hSw; (try dsimp only at hSw); go_simp; try with_reducible rfl)
      simp only [Act.put, lay9]
      refine wpAnyH_done (by kernel_rfl) ?_ _
      go_wp2_with fail
      go_ret
      refine ⟨_, rfl, ?_, ((Below.refl _ _).alloc (Nat.le_refl _) _).drew⟩
      rw [← HF.out.1]
      rfl
end Go.Proofs.YtdnebgilkfafhaaGreatDoor
namespace Go.Proofs.YtdnebgilkfafhaaGreatDoor
open Go.RowKit
set_option linter.unusedVariables false
set_option linter.unusedSimpArgs false

theorem Rd.tail1 {w : World} {b off n : Nat} {xs : List Value} {A : Option Addr} {x : Value} (h : Rd w 1 (some ⟨b, off, none⟩) (n + 1) (x :: xs)) (hA : n = 0 ∨ A = some ⟨b, off + 1, none⟩) : Rd w 1 A n xs := by
  have hl := h.1
  simp only [List.length_cons] at hl
  refine ⟨by omega, fun hn => ?_⟩
  obtain ⟨b', off', e, hb, hc⟩ := h.2 (by omega)
  injection e with e
  injection e with e1 e2
  subst e1 e2
  rcases hA with h0 | rfl
  · omega
  · refine ⟨b, off + 1, rfl, hb, fun j hj => ?_⟩
    have := hc (j + 1) (by simp only [List.length_cons]; omega)
    rw [show off + 1 + j = off + (j + 1) by omega, this]
    rfl
/-- The fate that is taken, and what is left. -/
def TakenOut (A : Option Addr) (n c : Nat) (A' : Option Addr) (F : List Int) (f : Int) (v : Value) (w : World) : Prop :=
  ∃ A2 c2, v = .tuple #[.agg #[.slice A n c, .slice A2 F.tail.length c2], .int .i64 f] ∧ SlAt w 1 A2 F.tail.length c2 (ints F.tail) ∧ A2.map Addr.block = A'.map Addr.block

set_option maxRecDepth 100000 in
set_option maxHeartbeats 1000000 in
theorem taken_any (A A' : Option Addr) (n c m c' : Nat) (F : List Int) (w : World) (hm : F.length = m) (hr0 : SlAt w 1 A' m c' (ints F)) :
    Calls Tryz.prog 86 #[.agg #[.slice A n c, .slice A' m c']] w (RetB (TakenOut A n c A' F (F.headD 0)) w) := by
  obtain ⟨hr, hc, hc', hnil⟩ := hr0
  cases F with
  | nil =>
    obtain rfl : m = 0 := hm.symm
    clear hm
    go_enter Tryz.func86, Tryz.ntmps86
    go_wp2_with fail
    refine bodyPost_ret (v := .tuple #[.agg #[.slice A n c, .slice A' 0 c'], .int .i64 0]) (by simp [results, Tryz.results86, go_sem]) rfl ?_
    refine ⟨_, rfl, ⟨A', c', rfl, ⟨Rd.zero, hc, hc', hnil⟩, rfl⟩, ?_⟩
    exact ((Below.refl _ _).alloc (Nat.le_refl _) _).alloc (by simp) _
  | cons f F =>
    obtain ⟨k, rfl⟩ : ∃ k, m = k + 1 := ⟨F.length, hm.symm⟩
    have hFk : F.length = k := by simpa using hm
    obtain ⟨b, off, rfl, hb, hcell⟩ := hr.2 (by omega)
    clear hnil
    have hc0 : w.cell? ⟨b, off, none⟩ = some (.int .i64 f) := hcell 0 (by simp [ints])
    have hne : ((k + 1 : Nat) : Int) ≠ 0 := by omega
    have hz : (((k + 1 : Nat) : Int) == 0) = false := beq_eq_false_iff_ne.2 hne
    have hz2 : (((k : Int) + 1) == 0) = false := beq_eq_false_iff_ne.2 (by omega)
    have i1 : (1 : Int) ≤ (k : Int) + 1 := by omega
    have i2 : (k : Int) + 1 ≤ (c' : Int) := by omega
    have HF := Lib.hid (And.intro hm hFk); clear hm hFk hcell hne
    by_cases hc1 : c' = 1
    · have hk0 : k = 0 := by omega
      subst hk0 hc1
      go_enter Tryz.func86, Tryz.ntmps86
      go_wp2_with fail
      refine bodyPost_ret (v := .tuple #[.agg #[.slice A n c, .slice (some ⟨b, off, none⟩) 0 0], .int .i64 f]) (by simp [results, Tryz.results86, go_sem]) rfl ?_
      have hb2 : Below w.heap.size w ((w.alloc (.cells #[.slice A n c, .slice (some ⟨b, off, none⟩) 0 0] 26)).alloc (.cells #[.slice A n c, .slice (some ⟨b, off, none⟩) 0 0] 26)) := ((Below.refl _ _).alloc (Nat.le_refl _) _).alloc (by simp) _
      refine ⟨_, rfl, ⟨some ⟨b, off, none⟩, 0, ?_, ⟨?_, ?_, by omega, fun e => by cases e⟩, rfl⟩, hb2⟩
      · rw [List.tail_cons, HF.out.2]; rfl
      · rw [List.tail_cons, HF.out.2]; exact (Rd.tail1 hr (by first | exact .inl rfl | exact .inr rfl)).below hb2
      · rw [List.tail_cons, HF.out.2]; omega
    · have hc2 : 1 < c' := by omega
      go_enter Tryz.func86, Tryz.ntmps86
      go_wp2_with fail
      refine bodyPost_ret (v := .tuple #[.agg #[.slice A n c, .slice (some ⟨b, off + 1, none⟩) k (c' - 1)], .int .i64 f]) (by simp [results, Tryz.results86, go_sem]) rfl ?_
      have hb2 : Below w.heap.size w ((w.alloc (.cells #[.slice A n c, .slice (some ⟨b, off + 1, none⟩) k (c' - 1)] 26)).alloc (.cells #[.slice A n c, .slice (some ⟨b, off + 1, none⟩) k (c' - 1)] 26)) := ((Below.refl _ _).alloc (Nat.le_refl _) _).alloc (by simp) _
      refine ⟨_, rfl, ⟨some ⟨b, off + 1, none⟩, (c' - 1), ?_, ⟨?_, ?_, by omega, fun e => by cases e⟩, rfl⟩, hb2⟩
      · rw [List.tail_cons, HF.out.2]; rfl
      · rw [List.tail_cons, HF.out.2]; exact (Rd.tail1 hr (by first | exact .inl rfl | exact .inr rfl)).below hb2
      · rw [List.tail_cons, HF.out.2]; omega
/-- A fate, read as one of the five. -/
def nf (f : Int) : Int := if f < 0 ∨ 4 < f then 0 else f
set_option maxRecDepth 100000 in
set_option maxHeartbeats 1000000 in
theorem fate_any (A A' : Option Addr) (n c m c' : Nat) (F : List Int) (w : World) (hm : F.length = m) (hr0 : SlAt w 1 A' m c' (ints F)) :
    Calls Tryz.prog 166 #[.agg #[.slice A n c, .slice A' m c']] w (RetB (TakenOut A n c A' F (nf (F.headD 0))) w) := by
  obtain ⟨hr, hc, hc', hnil⟩ := hr0
  cases F with
  | nil =>
    obtain rfl : m = 0 := hm.symm
    clear hm
    go_enter Tryz.func166, Tryz.ntmps166
    go_wp2_with fail
    refine bodyPost_ret (v := .tuple #[.agg #[.slice A n c, .slice A' 0 c'], .int .i64 0]) (by simp [results, Tryz.results166, go_sem]) rfl ?_
    refine ⟨_, rfl, ⟨A', c', rfl, ⟨Rd.zero, hc, hc', hnil⟩, rfl⟩, ?_⟩
    exact ((Below.refl _ _).alloc (Nat.le_refl _) _).alloc (by simp) _
  | cons f F =>
    obtain ⟨k, rfl⟩ : ∃ k, m = k + 1 := ⟨F.length, hm.symm⟩
    have hFk : F.length = k := by simpa using hm
    obtain ⟨b, off, rfl, hb, hcell⟩ := hr.2 (by omega)
    clear hnil
    have hc0 : w.cell? ⟨b, off, none⟩ = some (.int .i64 f) := hcell 0 (by simp [ints])
    have hne : ((k + 1 : Nat) : Int) ≠ 0 := by omega
    have hz : (((k + 1 : Nat) : Int) == 0) = false := beq_eq_false_iff_ne.2 hne
    have hz2 : (((k : Int) + 1) == 0) = false := beq_eq_false_iff_ne.2 (by omega)
    have i1 : (1 : Int) ≤ (k : Int) + 1 := by omega
    have i2 : (k : Int) + 1 ≤ (c' : Int) := by omega
    have HF := Lib.hid (And.intro hm hFk); clear hm hFk hcell hne
    have hnf : (nf ((f :: F).headD 0)) = nf f := rfl
    rw [hnf]
    obtain ⟨g, hg⟩ : ∃ g, nf f = g := ⟨_, rfl⟩
    rw [hg]
    have hgf : (g = 0 ∧ (f < 0 ∨ 4 < f)) ∨ (g = f ∧ 0 ≤ f ∧ f ≤ 4) := by rw [← hg]; unfold nf; split <;> omega
    clear hg hnf
    by_cases hc1 : c' = 1
    · have hk0 : k = 0 := by omega
      subst hk0 hc1
      rcases hgf with ⟨rfl, hf⟩ | ⟨rfl, hf, hf4⟩
      · go_enter Tryz.func166, Tryz.ntmps166
        go_wp2_with fail
        all_goals try (exfalso; omega)
        all_goals
          refine bodyPost_ret (v := .tuple #[.agg #[.slice A n c, .slice (some ⟨b, off, none⟩) 0 0], .int .i64 0]) (by simp [results, Tryz.results166, go_sem]) rfl ?_
          have hb2 : Below w.heap.size w ((w.alloc (.cells #[.slice A n c, .slice (some ⟨b, off, none⟩) 0 0] 26)).alloc (.cells #[.slice A n c, .slice (some ⟨b, off, none⟩) 0 0] 26)) := ((Below.refl _ _).alloc (Nat.le_refl _) _).alloc (by simp) _
          refine ⟨_, rfl, ⟨some ⟨b, off, none⟩, 0, ?_, ⟨?_, ?_, by omega, fun e => by cases e⟩, rfl⟩, hb2⟩
          · rw [List.tail_cons, HF.out.2]
          · rw [List.tail_cons, HF.out.2]; exact (Rd.tail1 hr (by first | exact .inl rfl | exact .inr rfl)).below hb2
          · rw [List.tail_cons, HF.out.2]; omega
      · go_enter Tryz.func166, Tryz.ntmps166
        go_wp2_with fail
        all_goals try (exfalso; omega)
        all_goals
          refine bodyPost_ret (v := .tuple #[.agg #[.slice A n c, .slice (some ⟨b, off, none⟩) 0 0], .int .i64 g]) (by simp [results, Tryz.results166, go_sem]) rfl ?_
          have hb2 : Below w.heap.size w ((w.alloc (.cells #[.slice A n c, .slice (some ⟨b, off, none⟩) 0 0] 26)).alloc (.cells #[.slice A n c, .slice (some ⟨b, off, none⟩) 0 0] 26)) := ((Below.refl _ _).alloc (Nat.le_refl _) _).alloc (by simp) _
          refine ⟨_, rfl, ⟨some ⟨b, off, none⟩, 0, ?_, ⟨?_, ?_, by omega, fun e => by cases e⟩, rfl⟩, hb2⟩
          · rw [List.tail_cons, HF.out.2]
          · rw [List.tail_cons, HF.out.2]; exact (Rd.tail1 hr (by first | exact .inl rfl | exact .inr rfl)).below hb2
          · rw [List.tail_cons, HF.out.2]; omega
    · have hc2 : 1 < c' := by omega
      rcases hgf with ⟨rfl, hf⟩ | ⟨rfl, hf, hf4⟩
      · go_enter Tryz.func166, Tryz.ntmps166
        go_wp2_with fail
        all_goals try (exfalso; omega)
        all_goals
          refine bodyPost_ret (v := .tuple #[.agg #[.slice A n c, .slice (some ⟨b, off + 1, none⟩) k (c' - 1)], .int .i64 0]) (by simp [results, Tryz.results166, go_sem]) rfl ?_
          have hb2 : Below w.heap.size w ((w.alloc (.cells #[.slice A n c, .slice (some ⟨b, off + 1, none⟩) k (c' - 1)] 26)).alloc (.cells #[.slice A n c, .slice (some ⟨b, off + 1, none⟩) k (c' - 1)] 26)) := ((Below.refl _ _).alloc (Nat.le_refl _) _).alloc (by simp) _
          refine ⟨_, rfl, ⟨some ⟨b, off + 1, none⟩, (c' - 1), ?_, ⟨?_, ?_, by omega, fun e => by cases e⟩, rfl⟩, hb2⟩
          · rw [List.tail_cons, HF.out.2]
          · rw [List.tail_cons, HF.out.2]; exact (Rd.tail1 hr (by first | exact .inl rfl | exact .inr rfl)).below hb2
          · rw [List.tail_cons, HF.out.2]; omega
      · go_enter Tryz.func166, Tryz.ntmps166
        go_wp2_with fail
        all_goals try (exfalso; omega)
        all_goals
          refine bodyPost_ret (v := .tuple #[.agg #[.slice A n c, .slice (some ⟨b, off + 1, none⟩) k (c' - 1)], .int .i64 g]) (by simp [results, Tryz.results166, go_sem]) rfl ?_
          have hb2 : Below w.heap.size w ((w.alloc (.cells #[.slice A n c, .slice (some ⟨b, off + 1, none⟩) k (c' - 1)] 26)).alloc (.cells #[.slice A n c, .slice (some ⟨b, off + 1, none⟩) k (c' - 1)] 26)) := ((Below.refl _ _).alloc (Nat.le_refl _) _).alloc (by simp) _
          refine ⟨_, rfl, ⟨some ⟨b, off + 1, none⟩, (c' - 1), ?_, ⟨?_, ?_, by omega, fun e => by cases e⟩, rfl⟩, hb2⟩
          · rw [List.tail_cons, HF.out.2]
          · rw [List.tail_cons, HF.out.2]; exact (Rd.tail1 hr (by first | exact .inl rfl | exact .inr rfl)).below hb2
          · rw [List.tail_cons, HF.out.2]; omega
end Go.Proofs.YtdnebgilkfafhaaGreatDoor
namespace Go.Proofs.YtdnebgilkfafhaaGreatDoor
open Go.RowKit
set_option linter.unusedVariables false
set_option linter.unusedSimpArgs false

theorem own_form {base : Nat} {e : TypeId} {k n : Nat} {v : Value} {xs : List Value} {w : World} (h : w.ownsRow base e k v n xs) : ∃ A c, v = .slice A n c := by
  rcases h.2 with ⟨rfl, rfl⟩ | ⟨g, cap, cur, rfl, _⟩
  · exact ⟨_, _, rfl⟩
  · exact ⟨_, _, rfl⟩
theorem own_at {base : Nat} {e : TypeId} {k n : Nat} {v : Value} {xs : List Value} {w : World} (h : w.ownsRow base e k v n xs): ∃ A c, v = .slice A n c ∧ SlAt w k A n c xs := by
  rcases h.2 with ⟨rfl, rfl⟩ | ⟨g, cap, cur, rfl, h1, h2, h3, h4, -⟩
  · exact ⟨none, 0, rfl, Rd.own h, by omega, by omega, fun _ => rfl⟩
  · exact ⟨_, cap, rfl, Rd.own h, h3, h4, fun e => by cases e⟩
theorem info_obj : (Tryz.prog.info? 49).map (fun i => (i.zero, i.size, i.bytes)) = some (some (.agg #[.string ⟨#[]⟩, .string ⟨#[]⟩, .string ⟨#[]⟩, .bool false]), 4, 56) := by kernel_rfl
theorem info_int : (Tryz.prog.info? 3).map (fun i => (i.zero, i.size, i.bytes)) = some (some (.int .i64 0), 1, 8) := by kernel_rfl
theorem objC_one (l : List Pl.Obj) : ∀ u ∈ objCs l, u.oneCell' = true := by
  intro u hu
  simp only [objCs, List.mem_flatMap] at hu
  obtain ⟨o, _, ho⟩ := hu
  simp only [objC, List.mem_cons, List.not_mem_nil, or_false] at ho
  rcases ho with rfl | rfl | rfl | rfl <;> rfl
theorem ints_one (l : List Int) : ∀ u ∈ ints l, u.oneCell' = true := by
  intro u hu
  obtain ⟨x, _, rfl⟩ := List.mem_map.1 hu
  rfl
set_option maxRecDepth 100000 in
set_option maxHeartbeats 1000000 in
theorem cloneO_any (A : Option Addr) (n c : Nat) (l : List Pl.Obj) (w : World) (hl : l.length = n) (hr : SlAt w 4 A n c (objCs l)) (hn : n ≤ 2513169434900) :
    Calls Tryz.prog 65 #[.slice A n c] w (RetB (fun v w' => w'.ownsRow w.heap.size 49 4 v n (objCs l)) w) := by
  obtain ⟨hr, hnc, hc, hnil⟩ := hr
  have hq := fun (w : World) (a : Option Addr) (n c : Nat) => Lib.run_eql_slice_nil (P := Tryz.prog) w 23 49 a n c 0 0 Tryz.underlying23
  cases A with
  | none =>
    have hc0 := hnil rfl
    subst hc0
    have hn0 : n = 0 := by omega
    subst hn0
    obtain rfl : l = [] := List.eq_nil_of_length_eq_zero hl
    clear hl hnil
    go_enter Tryz.func65, Tryz.ntmps65
    go_wp2_with fail
    go_ret
    exact ⟨_, rfl, ⟨rfl, .inl ⟨rfl, rfl⟩⟩, Below.refl _ _⟩
  | some a =>
    clear hnil
    have HI := Lib.hid (And.intro info_obj hl); clear hl
    have he0 : (w.alloc (.cells #[] 49)).ownsRow w.heap.size 49 4 (.slice (some ⟨w.heap.size, 0, none⟩) 0 0) 0 [] :=
      ⟨rfl, .inr ⟨w.heap.size, 0, #[], rfl, Nat.le_refl _, heap_alloc_new w _, by omega, by simp, rfl, rfl⟩⟩
    have hr0 := hr.alloc (.cells #[] 49)
    go_enter Tryz.func65, Tryz.ntmps65
    go_wp2_with (at_builtin; refine push_many rfl (.tmp 5) (.tmp 6) 23 rfl w.heap.size 49 _ 4 56 Tryz.underlying23 HI.out.1 rfl (by omega) _ _ _ _ _ _ _ _ rfl he0 rfl hr0 (fun e => by cases e) (objC_one l) (by omega) (by omega) (by simp) ?_; intro v2 w2 hown2 hb2)
    go_ret
    refine ⟨_, rfl, ?_, ((Below.refl _ _).alloc (Nat.le_refl _) _).trans hb2⟩
    simpa using hown2
set_option maxRecDepth 100000 in
set_option maxHeartbeats 1000000 in
theorem cloneI_any (A : Option Addr) (n c : Nat) (l : List Int) (w : World) (hl : l.length = n) (hr : SlAt w 1 A n c (ints l)) (hn : n ≤ 17592186044000) :
    Calls Tryz.prog 66 #[.slice A n c] w (RetB (fun v w' => w'.ownsRow w.heap.size 3 1 v n (ints l)) w) := by
  obtain ⟨hr, hnc, hc, hnil⟩ := hr
  have hq := fun (w : World) (a : Option Addr) (n c : Nat) => Lib.run_eql_slice_nil (P := Tryz.prog) w 24 3 a n c 0 0 Tryz.underlying24
  cases A with
  | none =>
    have hc0 := hnil rfl
    subst hc0
    have hn0 : n = 0 := by omega
    subst hn0
    obtain rfl : l = [] := List.eq_nil_of_length_eq_zero hl
    clear hl hnil
    go_enter Tryz.func66, Tryz.ntmps66
    go_wp2_with fail
    go_ret
    exact ⟨_, rfl, ⟨rfl, .inl ⟨rfl, rfl⟩⟩, Below.refl _ _⟩
  | some a =>
    clear hnil
    have HI := Lib.hid (And.intro info_int hl); clear hl
    have he0 : (w.alloc (.cells #[] 3)).ownsRow w.heap.size 3 1 (.slice (some ⟨w.heap.size, 0, none⟩) 0 0) 0 [] :=
      ⟨rfl, .inr ⟨w.heap.size, 0, #[], rfl, Nat.le_refl _, heap_alloc_new w _, by omega, by simp, rfl, rfl⟩⟩
    have hr0 := hr.alloc (.cells #[] 3)
    go_enter Tryz.func66, Tryz.ntmps66
    go_wp2_with (at_builtin; refine push_many rfl (.tmp 5) (.tmp 6) 24 rfl w.heap.size 3 _ 1 8 Tryz.underlying24 HI.out.1 rfl (by omega) _ _ _ _ _ _ _ _ rfl he0 rfl hr0 (fun e => by cases e) (ints_one l) (by omega) (by omega) (by simp) ?_; intro v2 w2 hown2 hb2)
    go_ret
    refine ⟨_, rfl, ?_, ((Below.refl _ _).alloc (Nat.le_refl _) _).trans hb2⟩
    simpa using hown2

theorem own_base {base base' : Nat} {e : TypeId} {k n : Nat} {v : Value} {xs : List Value} {w : World} (h : w.ownsRow base e k v n xs) (hb : base' ≤ base) : w.ownsRow base' e k v n xs := by
  refine ⟨h.1, ?_⟩
  rcases h.2 with h | ⟨g, cap, cur, h1, h2, h3⟩
  · exact .inl h
  · exact .inr ⟨g, cap, cur, h1, Nat.le_trans hb h2, h3⟩
/-- A shelf whose lists are the call's own. -/
def OwnSh (base : Nat) (l : List Pl.Obj) (F : List Int) (v : Value) (w : World) : Prop :=
  ∃ A1 c1 A2 c2, v = .agg #[.slice A1 l.length c1, .slice A2 F.length c2] ∧ w.ownsRow base 49 4 (.slice A1 l.length c1) l.length (objCs l) ∧ w.ownsRow base 3 1 (.slice A2 F.length c2) F.length (ints F)
theorem own_set {base : Nat} {e : TypeId} {k n : Nat} {v : Value} {xs : List Value} {w : World} (h : w.ownsRow base e k v n xs) {b : Nat} (hb : b < base) (i : Nat) (u : Value) : (w.setCell ⟨b, i, none⟩ u).ownsRow base e k v n xs := ownsRow_setCell_below h (a := ⟨b, i, none⟩) hb u
set_option maxRecDepth 100000 in
set_option maxHeartbeats 1000000 in
theorem copied_any (A A' : Option Addr) (n c m c' : Nat) (l : List Pl.Obj) (F : List Int) (w : World) (hl : l.length = n) (hF : F.length = m) (hr : SlAt w 4 A n c (objCs l)) (hr' : SlAt w 1 A' m c' (ints F)) (hn : n ≤ 2513169434900) (hm : m ≤ 17592186044000) :
    Calls Tryz.prog 84 #[.agg #[.slice A n c, .slice A' m c']] w (RetB (OwnSh (w.heap.size + 2) l F) w) := by
  have hco := fun w h => cloneO_any A n c l w hl h hn
  have hci := fun w h => cloneI_any A' m c' F w hF h hm
  have HC := Lib.hid (And.intro hco (And.intro hci (And.intro hl hF))); clear hco hci hl hF
  go_enter Tryz.func84, Tryz.ntmps84
  go_wp2_with fail
  obtain ⟨V, hV⟩ : ∃ V, (w.alloc (.cells #[.slice A n c, .slice A' m c'] 26)).alloc (.cells #[.slice none 0 0, .slice none 0 0] 26) = V := ⟨_, rfl⟩
  have hX : V.heap[w.heap.size]? = some (.cells #[.slice A n c, .slice A' m c'] 26 (0, 0)) := by rw [← hV]; exact (Below.heap_alloc _ _ _ (by simp)).trans (heap_alloc_new w _)
  have hY : V.heap[w.heap.size + 1]? = some (.cells #[.slice none 0 0, .slice none 0 0] 26 (0, 0)) := by rw [← hV]; exact heap_alloc_2 w _ _
  have hbV : Below w.heap.size w V := by rw [← hV]; exact ((Below.refl _ _).alloc (Nat.le_refl _) _).alloc (by simp) _
  have hsV : V.heap.size = w.heap.size + 2 := by rw [← hV]; simp
  rw [hV]
  have HV := Lib.hid (And.intro hX (And.intro hY hsV)); clear hV hX hY hsV
  have hc0 : V.cell? ⟨w.heap.size, 0, none⟩ = some (.slice A n c) := cell_row V _ 0 _ _ HV.out.1
  have hc1 : V.cell? ⟨w.heap.size, 1, none⟩ = some (.slice A' m c') := cell_row V _ 1 _ _ HV.out.1
  have hrV := (hr.below hbV)
  have hrV' := (hr'.below hbV)
  have hlt : w.heap.size < V.heap.size := by rw [HV.out.2.2]; omega
  have hd0 : Below V.heap.size V V.drew := (Below.refl _ _).drew
  refine wp_region_held_drew (S := (fun w' => w'.cell? ⟨w.heap.size, 0, none⟩ = some (.slice A n c) ∧ w'.cell? ⟨w.heap.size, 1, none⟩ = some (.slice A' m c'))) (by kernel_rfl) (by exact ⟨hc0, hc1⟩) (fun hHeld => ?_)
  refine tk 0 (v := ?_) rfl ?_ hHeld ?_
  rotate_left
  · (intro w' hSw; (try dsimp only at hSw); (try obtain ⟨hS0, hS1⟩ := hSw); go_simp; try with_reducible rfl)
  simp only [Act.put, lay9]
  refine tk 1 (v := ?_) rfl ?_ hHeld ?_
  rotate_left
  · (intro w' hSw; (try dsimp only at hSw); (try obtain ⟨hS0, hS1⟩ := hSw); go_simp; try with_reducible rfl)
  simp only [Act.put, lay9]
  refine tk 3 (v := ?_) rfl ?_ hHeld ?_
  rotate_left
  · (intro w' hSw; (try dsimp only at hSw); (try obtain ⟨hS0, hS1⟩ := hSw); go_simp; try with_reducible rfl)
  simp only [Act.put, lay9]
  refine tk 4 (v := ?_) rfl ?_ hHeld ?_
  rotate_left
  · (intro w' hSw; (try dsimp only at hSw); (try obtain ⟨hS0, hS1⟩ := hSw); go_simp; try with_reducible rfl)
  simp only [Act.put, lay9]
  refine wpAnyH_ready (rs := [2]) (by kernel_rfl) (by simp) (AllReadyH.cons rfl (fun K hK => ?_) AllReadyH.nil)
  go_simp
  (with_reducible refine (HC.out.1 _ (by exact hrV.below hd0)).mono ?_)
  rintro e w1 ⟨v, rfl, hown1, hb1⟩
  have hd1 := hd0.trans (hb1.mono hd0.size)
  obtain ⟨A1, c1, rfl⟩ := own_form hown1
  refine hK.out _ _ ⟨(hd1.cell (p := ⟨w.heap.size, 0, none⟩) hlt).trans hc0, (hd1.cell (p := ⟨w.heap.size, 1, none⟩) hlt).trans hc1⟩ (fun hHeld => ?_)
  clear hK K
  (try simp only [Act.put, lay9])
  refine wpAnyH_ready (rs := [5]) (by kernel_rfl) (by simp) (AllReadyH.cons rfl (fun K hK => ?_) AllReadyH.nil)
  go_simp
  (with_reducible refine (HC.out.2.1 _ (by exact hrV'.below hd1)).mono ?_)
  rintro e w2 ⟨v, rfl, hown2, hb2⟩
  have hd2 := hd1.trans (hb2.mono hd1.size)
  obtain ⟨A2, c2, rfl⟩ := own_form hown2
  have hown1' := own_below hown1 hb2
  refine hK.out _ _ ⟨(hd2.cell (p := ⟨w.heap.size, 0, none⟩) hlt).trans hc0, (hd2.cell (p := ⟨w.heap.size, 1, none⟩) hlt).trans hc1⟩ (fun hHeld => ?_)
  clear hK K
  (try simp only [Act.put, lay9])
  refine tk 6 (v := ?_) rfl ?_ hHeld ?_
  rotate_left
  · (intro w' hSw; (try dsimp only at hSw); go_simp; try with_reducible rfl)
  simp only [Act.put, lay9]
  have hY2 := (hd2.block (w.heap.size + 1) (by rw [HV.out.2.2]; omega)).trans HV.out.2.1
  have y0 : w2.cell? ⟨w.heap.size + 1, 0, none⟩ = some (.slice none 0 0) := cell_row w2 _ 0 _ _ hY2
  have y1 : w2.cell? ⟨w.heap.size + 1, 1, none⟩ = some (.slice none 0 0) := cell_row w2 _ 1 _ _ hY2
  have yf : ∀ i, w2.frozen? ⟨w.heap.size + 1, i, none⟩ = false := fun i => frozen_of w2 _ i _ _ hY2
  clear hY2
  refine wpAnyH_ready (rs := [7]) (by kernel_rfl) (by simp) (AllReadyH.cons rfl (fun K hK => ?_) AllReadyH.nil)
  go_simp
  refine hK.out _ _ ⟨((World.cell?_setCell_far _ _ _ _ (by simp)).trans (World.cell?_setCell_far _ _ _ _ (by simp))).trans hHeld.1, ((World.cell?_setCell_far _ _ _ _ (by simp)).trans (World.cell?_setCell_far _ _ _ _ (by simp))).trans hHeld.2⟩ (fun hHeld => ?_)
  clear hK K
  (try simp only [Act.put, lay9])
  refine wpAnyH_done (by kernel_rfl) ?_ _
  go_wp2_with fail
  refine bodyPost_ret (v := .agg #[.slice A1 n c1, .slice A2 m c2]) (by simp [results, Tryz.results84, go_sem, y0, y1]) rfl ?_
  have hsz := HV.out.2.2
  have h12 : w.heap.size + 2 ≤ w1.heap.size := by have := hd1.size; omega
  refine ⟨_, rfl, ⟨A1, c1, A2, c2, ?_, ?_, ?_⟩, ((hbV.trans (hd2.mono hbV.size)).setCell (by simp) _).setCell (by simp) _⟩
  · rw [HC.out.2.2.1, HC.out.2.2.2]
  · rw [HC.out.2.2.1]
    exact own_set (own_set (own_base hown1' (by show w.heap.size + 2 ≤ V.heap.size; omega)) (by omega) _ _) (by omega) _ _
  · rw [HC.out.2.2.2]
    exact own_set (own_set (own_base hown2 h12) (by omega) _ _) (by omega) _ _
end Go.Proofs.YtdnebgilkfafhaaGreatDoor
namespace Go.Proofs.YtdnebgilkfafhaaGreatDoor
open Go.RowKit
set_option linter.unusedVariables false
set_option linter.unusedSimpArgs false

theorem run_cmp (a b : List UInt8) (w : World) : (callFunc 185 #[.string ⟨a.toArray⟩, .string ⟨b.toArray⟩]).run Tryz.prog w = .ok (.value (.int .i64 (Lib.compareBytes a b))) w := by
  rw [run_callFunc_extern Tryz.func185 (by kernel_rfl) (by kernel_rfl) (by kernel_rfl) (e := Extern.BytealgCompare.compare) (by kernel_rfl), Lib.run_compareString]
  rfl
set_option maxRecDepth 100000 in
theorem compareS_any (a b : List UInt8) (w : World) : Calls Tryz.prog 159 #[.string ⟨a.toArray⟩, .string ⟨b.toArray⟩] w (Ret (.int .i64 (Lib.compareBytes a b)) w) := by
  have hcmp := fun (w : World) => run_cmp a b w
  go_enter Tryz.func159, Tryz.ntmps159
  go_wp2_with fail
  go_ret
  exact ⟨rfl, rfl⟩
set_option maxRecDepth 100000 in
theorem compare_any (a b : List UInt8) (w : World) : Calls Tryz.prog 123 #[.string ⟨a.toArray⟩, .string ⟨b.toArray⟩] w (Ret (.int .i64 (Lib.compareBytes a b)) w) := by
  go_enter Tryz.func123, Tryz.ntmps123
  go_wp2_with fail
  (with_reducible refine (compareS_any _ _ _).mono ?_)
  rintro e w1 ⟨rfl, rfl⟩
  go_wp2_with fail
  go_ret
  exact ⟨rfl, rfl⟩
set_option maxRecDepth 100000 in
theorem find1_any (o : Pl.Obj) (b : List UInt8) (w : World) : Calls Tryz.prog 122 #[.agg #[.string ⟨o.name.toArray⟩, .string ⟨o.data.toArray⟩, .string ⟨o.was.toArray⟩, .bool o.had], .string ⟨b.toArray⟩] w (RetB (fun v _ => v = .int .i64 (Lib.compareBytes o.name b)) w) := by
  go_enter Tryz.func122, Tryz.ntmps122
  go_wp2_with fail
  (with_reducible refine (compare_any _ _ _).mono ?_)
  rintro e w1 ⟨rfl, rfl⟩
  go_wp2_with fail
  go_ret
  exact ⟨_, rfl, rfl, (Below.refl _ _).alloc (Nat.le_refl _) _⟩

def Lo (l : List Pl.Obj) (nm : List UInt8) (i : Nat) : Prop := ∀ k (h : k < l.length), k < i → Pl.less l[k].name nm = true
def Hi (l : List Pl.Obj) (nm : List UInt8) (i : Nat) : Prop := ∀ k (h : k < l.length), i ≤ k → Pl.less l[k].name nm = false
set_option maxRecDepth 100000 in
set_option maxHeartbeats 1000000 in
theorem search_any (A : Option Addr) (n c : Nat) (l : List Pl.Obj) (nm : List UInt8) (w : World) (hl : l.length = n) (hr : Rd w 4 A n (objCs l)) (hn : n ≤ 2513169434900) (hs : Pl.Rising l) :
    Calls Tryz.prog 121 #[.slice A n c, .string ⟨nm.toArray⟩, .func (.func 122) #[] #[]] w (RetB (fun v _ => ∃ (i : Nat) (f : Bool), v = .tuple #[.int .i64 (i : Int), .bool f] ∧ Pl.Found l nm i f) w) := by
  have HL := Lib.hid (And.intro hl hs); clear hl hs
  go_enter Tryz.func121, Tryz.ntmps121
  go_wp2_with fail
  go_loopw [9, 10] (fun x y wr => ∃ (i j : Nat), i ≤ j ∧ j ≤ n ∧ x = .int .i64 (i : Nat) ∧ y = .int .i64 (j : Nat) ∧ Below w.heap.size w wr ∧ Hid (Lo l nm i ∧ Hi l nm j)) (fun x y _ => (intOf y).toNat - (intOf x).toNat)
  case atStart => exact ⟨0, n, by omega, by omega, rfl, rfl, Below.refl _ _, fun k h hk => by omega, fun k h hk => by have := HL.out.1; omega⟩
  case round =>
    obtain ⟨i, j, hij, hjn, rfl, rfl, hbr, H⟩ := hrel
    by_cases hlt : i < j
    · obtain ⟨m, hm⟩ : ∃ m, (i + j) / 2 = m := ⟨_, rfl⟩
      have hmi : i ≤ m := by omega
      have hmj : m < j := by omega
      have hmI : ((i : Int) + (j : Int)) / 2 = (m : Int) := by omega
      have hml : m < l.length := by rw [HL.out.1]; omega
      obtain ⟨b, off, rfl, hltb, p0, p1, p2, p3⟩ := (hr.below hbr).obj HL.out.1 (i := m) (by omega)
      obtain ⟨o, ho⟩ : ∃ o, l[m] = o := ⟨_, rfl⟩
      rw [ho] at p0 p1 p2 p3
      obtain ⟨x, hx⟩ : ∃ x, Lib.compareBytes o.name nm = x := ⟨_, rfl⟩
      have hx1 := Pl.less_cmp o.name nm
      rw [hx] at hx1
      have hf1 := fun w => find1_any o nm w
      rw [hx] at hf1
      have HO := Lib.hid (And.intro ho (And.intro hx1 (And.intro hf1 hm))); clear ho hx hf1 hm
      have hx2 : x = -1 ∨ x = 0 ∨ x = 1 := HO.out.2.1.2.2
      clear hx1
      go_wp2_with fail
      (with_reducible refine (HO.out.2.2.1 _).mono ?_)
      rintro e w1 ⟨v, rfl, rfl, hb1⟩
      have hb01 := hbr.trans (hb1.mono hbr.size)
      by_cases hxn : x < 0
      · have hlm : Pl.less o.name nm = true := HO.out.2.1.1.2 (by omega)
        have hd : decide (x < 0) = true := decide_eq_true hxn
        go_wp2_with fail
        go_roundw
        case rel =>
          refine ⟨m + 1, j, by omega, by omega, by go_num, rfl, hb01, ?_, H.out.2⟩
          intro k hk hkm
          rcases Nat.lt_or_ge k m with h | h
          · exact Pl.less_trans (HL.out.2 k m hk hml h) (by rw [HO.out.1]; exact hlm)
          · obtain rfl : k = m := by omega
            rw [HO.out.1]; exact hlm
        case measure => simp [intOf]; omega
      · have hlm : Pl.less o.name nm = false := by
          cases h : Pl.less o.name nm
          · rfl
          · have := HO.out.2.1.1.1 h; omega
        have hd : decide (x < 0) = false := decide_eq_false hxn
        go_wp2_with fail
        go_roundw
        case rel =>
          refine ⟨i, m, by omega, by omega, rfl, rfl, hb01, H.out.1, ?_⟩
          intro k hk hkm
          rcases Nat.eq_or_lt_of_le hkm with rfl | h
          · rw [HO.out.1]; exact hlm
          · cases h' : Pl.less l[k].name nm
            · rfl
            · have := Pl.less_trans (HL.out.2 m k hml hk h) h'
              rw [HO.out.1, hlm] at this; cases this
        case measure => simp [intOf]; omega
    · obtain rfl : j = i := by omega
      by_cases hjn2 : j < n
      · have hjl : j < l.length := by rw [HL.out.1]; omega
        obtain ⟨b, off, rfl, hltb, p0, p1, p2, p3⟩ := (hr.below hbr).obj HL.out.1 (i := j) hjn2
        obtain ⟨o, ho⟩ : ∃ o, l[j] = o := ⟨_, rfl⟩
        rw [ho] at p0 p1 p2 p3
        obtain ⟨x, hx⟩ : ∃ x, Lib.compareBytes o.name nm = x := ⟨_, rfl⟩
        have hx1 := (Pl.less_cmp o.name nm).2.1
        rw [hx] at hx1
        have hf1 := fun w => find1_any o nm w
        rw [hx] at hf1
        have hfo : decide (x = 0) = decide (∃ h : j < l.length, l[j].name = nm) := by
          rw [Bool.eq_iff_iff]; simp only [decide_eq_true_eq]
          rw [← hx1, ← ho]
          exact ⟨fun h => ⟨hjl, h⟩, fun ⟨_, h⟩ => h⟩
        have HO := Lib.hid (And.intro hfo hf1); clear ho hx hf1 hx1 hfo
        go_wp2_with fail
        (with_reducible refine (HO.out.2 _).mono ?_)
        rintro e w1 ⟨v, rfl, rfl, hb1⟩
        go_wp2_with fail
        go_ret2
        refine ⟨_, rfl, ⟨j, decide (x = 0), ?_, by have := HL.out.1; omega, H.out.1, H.out.2, HO.out.1⟩, hbr.trans (hb1.mono hbr.size)⟩
        show Value.tuple #[Value.int .i64 (j : Int), Value.bool (x == 0)] = _
        congr 4
      · have hd : decide ((j : Int) < (n : Int)) = false := decide_eq_false (by omega)
        go_wp2_with fail
        go_ret2
        refine ⟨_, rfl, ⟨j, false, rfl, by have := HL.out.1; omega, H.out.1, H.out.2, ?_⟩, hbr⟩
        symm
        apply decide_eq_false
        rintro ⟨h, -⟩
        have := HL.out.1; omega
set_option maxRecDepth 100000 in
theorem find_any (A A' : Option Addr) (n c m c' : Nat) (l : List Pl.Obj) (nm : List UInt8) (w : World) (hl : l.length = n) (hr : Rd w 4 A n (objCs l)) (hn : n ≤ 2513169434900) (hs : Pl.Rising l) :
    Calls Tryz.prog 87 #[.agg #[.slice A n c, .slice A' m c'], .string ⟨nm.toArray⟩] w (RetB (fun v _ => ∃ (i : Nat) (f : Bool), v = .tuple #[.int .i64 (i : Int), .bool f] ∧ Pl.Found l nm i f) w) := by
  have hsr := fun w h => search_any A n c l nm w hl h hn hs
  have HS := Lib.hid hsr; clear hsr hl hs
  go_enter Tryz.func87, Tryz.ntmps87
  go_wp2_with fail
  (with_reducible refine (HS.out _ (by exact hr.alloc _)).mono ?_)
  rintro e w1 ⟨v, rfl, ⟨i, f, rfl, hf⟩, hb1⟩
  go_wp2_with fail
  go_ret2
  exact ⟨_, rfl, ⟨i, f, rfl, hf⟩, ((Below.refl _ _).alloc (Nat.le_refl _) _).trans (hb1.mono (by simp))⟩
end Go.Proofs.YtdnebgilkfafhaaGreatDoor
namespace Go.Proofs.YtdnebgilkfafhaaGreatDoor
open Go.RowKit
set_option linter.unusedVariables false
set_option linter.unusedSimpArgs false

set_option maxRecDepth 100000 in
theorem asked_any (A A' : Option Addr) (n c m c' : Nat) (l : List Pl.Obj) (nm : List UInt8) (w : World) (hl : l.length = n) (ha : Rd w 4 A n (objCs l)) (hn : n ≤ 2513169434900) :
    Calls Tryz.prog 85 #[.agg #[.slice A n c, .slice A' m c'], .string ⟨nm.toArray⟩] w (RetB (fun v _ => v = .int .i64 (Pl.askE l nm : Int)) w) := by
  obtain ⟨E, hE⟩ : ∃ E, Pl.chk l = E := ⟨_, rfl⟩
  obtain ⟨q, hq⟩ : ∃ q, Pl.okName nm = q := ⟨_, rfl⟩
  obtain ⟨R, hR⟩ : ∃ R, Pl.askE l nm = R := ⟨_, rfl⟩
  rw [hR]
  unfold Pl.askE at hR
  rw [hE, hq] at hR
  have hck := fun w h => check_any A A' n c m c' l w hl h hn
  have hmn := fun w => mayName_any nm w
  rw [hE] at hck
  rw [hq] at hmn
  have HC := Lib.hid (And.intro hck (And.intro hmn hR)); clear hck hmn hR hE hq hl
  go_enter Tryz.func85, Tryz.ntmps85
  go_wp2_with fail
  (with_reducible refine (HC.out.1 _ (by exact ha.alloc _)).mono ?_)
  rintro e w1 ⟨v, rfl, rfl, hb1⟩
  have hb01 : Below w.heap.size w w1 := ((Below.refl _ _).alloc (Nat.le_refl _) _).trans (hb1.mono (by simp))
  by_cases h0 : E = 0
  · subst h0
    go_wp2_with fail
    (with_reducible refine (HC.out.2.1 _).mono ?_)
    rintro e w2 ⟨rfl, rfl⟩
    have hR := HC.out.2.2
    cases q
    · have : R = 7 := by simpa using hR.symm
      subst this
      clear hR
      go_wp2_with fail
      go_ret
      exact ⟨_, rfl, rfl, hb01⟩
    · have : R = 0 := by simpa using hR.symm
      subst this
      clear hR
      go_wp2_with fail
      go_ret
      exact ⟨_, rfl, rfl, hb01⟩
  · have hne : ((E : Int) != 0) = true := by simp; omega
    have hR := HC.out.2.2
    rw [if_pos h0] at hR
    subst hR
    go_wp2_with fail
    go_ret
    exact ⟨_, rfl, rfl, hb01⟩

/-- A slice of fates lies in a block of ints. -/
def FTy (b : Nat) (A : Option Addr) (W : World) : Prop := ∀ g, A.map Addr.block = some g → b ≤ g ∧ ∃ C, W.heap[g]? = some (.cells C 3 (0, 0))
/-- .. a slice of objects in a block of objects. -/
def OTy (b : Nat) (A : Option Addr) (W : World) : Prop := ∀ g, A.map Addr.block = some g → b ≤ g ∧ ∃ C, W.heap[g]? = some (.cells C 49 (0, 0))
def SlO (b : Nat) (w : World) (A : Option Addr) (n c : Nat) (l : List Pl.Obj) : Prop := SlAt w 4 A n c (objCs l) ∧ OTy b A w
def SlF (b : Nat) (w : World) (A : Option Addr) (n c : Nat) (l : List Int) : Prop := SlAt w 1 A n c (ints l) ∧ FTy b A w
/-- What Get answers. -/
def GetOut (b0 : Nat) (l : List Pl.Obj) (F : List Int) (b : List UInt8) (e : Nat) (v : Value) (w : World) : Prop :=
  ∃ A c A' c', v = .tuple #[.agg #[.slice A l.length c, .slice A' F.length c'], .string ⟨b.toArray⟩, .int .i64 (e : Int)] ∧ SlO b0 w A l.length c l ∧ SlF b0 w A' F.length c' F
theorem own_off {base : Nat} {e : TypeId} {k n : Nat} {A : Option Addr} {c : Nat} {xs : List Value} {w : World} (h : w.ownsRow base e k (.slice A n c) n xs) {B : Nat} (hB : B < base) : A.map Addr.block ≠ some B := by
  rcases h.2 with ⟨h1, -⟩ | ⟨g, cap, cur, h1, h2, -⟩
  · injection h1 with h1; subst h1; simp
  · injection h1 with h1; subst h1; simp; omega
theorem own_sl {base : Nat} {e : TypeId} {k n : Nat} {A : Option Addr} {c : Nat} {xs : List Value} {w : World} (h : w.ownsRow base e k (.slice A n c) n xs) : SlAt w k A n c xs := by
  obtain ⟨A', c', h1, h2⟩ := own_at h
  injection h1 with h1 _ h3
  subst h1 h3
  exact h2
theorem OTy.set {b : Nat} {A : Option Addr} {W : World} (h : OTy b A W) {B : Nat} (hA : A.map Addr.block ≠ some B) (i : Nat) (u : Value) : OTy b A (W.setCell ⟨B, i, none⟩ u) := fun g hg => by
  obtain ⟨hb0, C, hC⟩ := h g hg
  exact ⟨hb0, C, (Below.heap_setCell _ _ _ _ (by rintro rfl; exact hA hg)).trans hC⟩
theorem own_tyO {base b : Nat} {k n : Nat} {A : Option Addr} {c : Nat} {xs : List Value} {w : World} (h : w.ownsRow base 49 k (.slice A n c) n xs) (hb : b ≤ base := by omega) : OTy b A w := by
  intro g hg
  rcases h.2 with ⟨h1, -⟩ | ⟨g', cap, cur, h1, h0, h2, -⟩
  · injection h1 with h1; subst h1; cases hg
  · injection h1 with h1; subst h1
    simp only [Option.map_some, Option.some.injEq] at hg
    subst hg
    exact ⟨Nat.le_trans hb h0, cur, h2⟩
theorem FTy.below {b : Nat} {A : Option Addr} {W W' : World} (h : FTy b A W) (hb : Below W.heap.size W W') : FTy b A W' := fun g hg => by
  obtain ⟨hb0, C, hC⟩ := h g hg
  exact ⟨hb0, C, (hb.block g (blk_lt hC)).trans hC⟩
theorem FTy.set {b : Nat} {A : Option Addr} {W : World} (h : FTy b A W) {B : Nat} (hA : A.map Addr.block ≠ some B) (i : Nat) (u : Value) : FTy b A (W.setCell ⟨B, i, none⟩ u) := fun g hg => by
  obtain ⟨hb0, C, hC⟩ := h g hg
  exact ⟨hb0, C, (Below.heap_setCell _ _ _ _ (by rintro rfl; exact hA hg)).trans hC⟩
theorem own_ty {base b : Nat} {k n : Nat} {A : Option Addr} {c : Nat} {xs : List Value} {w : World} (h : w.ownsRow base 3 k (.slice A n c) n xs) (hb : b ≤ base := by omega) : FTy b A w := by
  intro g hg
  rcases h.2 with ⟨h1, -⟩ | ⟨g', cap, cur, h1, h0, h2, -⟩
  · injection h1 with h1; subst h1; cases hg
  · injection h1 with h1; subst h1
    simp only [Option.map_some, Option.some.injEq] at hg
    subst hg
    exact ⟨Nat.le_trans hb h0, cur, h2⟩
/-- The two boxes of a call: the shelf's variable in block B, what it will answer in block B + 1. -/
structure Bx0 (w0 : World) (B : Nat) (A : Option Addr) (n c : Nat) (A' : Option Addr) (m c' : Nat) (W : World) : Prop where
  box : W.heap[B]? = some (.cells #[.slice A n c, .slice A' m c'] 26 (0, 0))
  res : W.heap[B + 1]? = some (.cells #[.slice none 0 0, .slice none 0 0] 26 (0, 0))
  bel : Below B w0 W
  siz : B + 2 ≤ W.heap.size
/-- .. the shelf's objects are the call's own. -/
structure Bx (w0 : World) (B : Nat) (l : List Pl.Obj) (F : List Int) (A : Option Addr) (n c : Nat) (A' : Option Addr) (m c' : Nat) (W : World) : Prop extends Bx0 w0 B A n c A' m c' W where
  obj : W.ownsRow (B + 2) 49 4 (.slice A n c) n (objCs l)
  fat : SlAt W 1 A' m c' (ints F)
  of0 : A'.map Addr.block ≠ some B
  of1 : A'.map Addr.block ≠ some (B + 1)
  fty : FTy B A' W
section
variable {w0 W W' : World} {B : Nat} {l : List Pl.Obj} {F : List Int} {A A' : Option Addr} {n c m c' : Nat}
theorem Bx0.below (h : Bx0 w0 B A n c A' m c' W) (hb : Below W.heap.size W W') : Bx0 w0 B A n c A' m c' W' :=
  ⟨(hb.block _ (by have := h.siz; omega)).trans h.box, (hb.block _ (by have := h.siz; omega)).trans h.res, h.bel.trans (hb.mono (by have := h.siz; omega)), Nat.le_trans h.siz hb.size⟩
theorem Bx.below (h : Bx w0 B l F A n c A' m c' W) (hb : Below W.heap.size W W') : Bx w0 B l F A n c A' m c' W' :=
  ⟨h.toBx0.below hb, own_below h.obj hb, h.fat.below hb, h.of0, h.of1, h.fty.below hb⟩
theorem Bx0.cells (h : Bx0 w0 B A n c A' m c' W) : W.cell? ⟨B, 0, none⟩ = some (.slice A n c) ∧ W.cell? ⟨B, 1, none⟩ = some (.slice A' m c') ∧ W.cell? ⟨B + 1, 0, none⟩ = some (.slice none 0 0) ∧ W.cell? ⟨B + 1, 1, none⟩ = some (.slice none 0 0) ∧ (∀ i, W.frozen? ⟨B, i, none⟩ = false) ∧ ∀ i, W.frozen? ⟨B + 1, i, none⟩ = false :=
  ⟨cell_row W _ 0 _ _ h.box, cell_row W _ 1 _ _ h.box, cell_row W _ 0 _ _ h.res, cell_row W _ 1 _ _ h.res, fun i => frozen_of W _ i _ _ h.box, fun i => frozen_of W _ i _ _ h.res⟩
theorem Bx0.put (h : Bx0 w0 B A n c A' m c' W) {A1 A2 : Option Addr} {n1 c1 m2 c2 : Nat} {l1 : List Pl.Obj} {F2 : List Int} (ho : W.ownsRow (B + 2) 49 4 (.slice A1 n1 c1) n1 (objCs l1)) (hf : SlAt W 1 A2 m2 c2 (ints F2))
    (o0 : A2.map Addr.block ≠ some B) (o1 : A2.map Addr.block ≠ some (B + 1)) (hd : FTy B A2 W) : Bx w0 B l1 F2 A1 n1 c1 A2 m2 c2 ((W.setCell ⟨B, 0, none⟩ (.slice A1 n1 c1)).setCell ⟨B, 1, none⟩ (.slice A2 m2 c2)) where
  box := set_at _ _ 1 _ _ _ (set_at _ _ 0 _ _ _ h.box)
  res := (Below.heap_setCell _ _ _ _ (by simp)).trans ((Below.heap_setCell _ _ _ _ (by simp)).trans h.res)
  bel := (h.bel.setCell (Nat.le_refl _) _).setCell (Nat.le_refl _) _
  siz := by simpa [World.size_setCell] using h.siz
  obj := own_set (own_set ho (by omega) _ _) (by omega) _ _
  fat := (hf.set o0 _ _).set o0 _ _
  of0 := o0
  of1 := o1
  fty := (hd.set o0 _ _).set o0 _ _
theorem Bx.ret (h : Bx w0 B l F A n c A' m c' W) : SlO B ((W.setCell ⟨B + 1, 0, none⟩ (.slice A n c)).setCell ⟨B + 1, 1, none⟩ (.slice A' m c')) A n c l ∧
    SlF B ((W.setCell ⟨B + 1, 0, none⟩ (.slice A n c)).setCell ⟨B + 1, 1, none⟩ (.slice A' m c')) A' m c' F ∧ Below B w0 ((W.setCell ⟨B + 1, 0, none⟩ (.slice A n c)).setCell ⟨B + 1, 1, none⟩ (.slice A' m c')) :=
  ⟨⟨((own_sl h.obj).set (own_off h.obj (by omega)) _ _).set (own_off h.obj (by omega)) _ _, ((own_tyO (b := B) h.obj).set (own_off h.obj (by omega)) _ _).set (own_off h.obj (by omega)) _ _⟩, ⟨(h.fat.set h.of1 _ _).set h.of1 _ _, (h.fty.set h.of1 _ _).set h.of1 _ _⟩, (h.bel.setCell (by simp) _).setCell (by simp) _⟩
theorem bx_new (w : World) (A A' : Option Addr) (n c m c' : Nat) : Bx0 w w.heap.size A n c A' m c' ((w.alloc (.cells #[.slice A n c, .slice A' m c'] 26)).alloc (.cells #[.slice none 0 0, .slice none 0 0] 26)) where
  box := (Below.heap_alloc _ _ _ (by simp)).trans (heap_alloc_new w _)
  res := heap_alloc_2 w _ _
  bel := ((Below.refl _ _).alloc (Nat.le_refl _) _).alloc (by simp) _
  siz := by simp
end
set_option maxRecDepth 100000 in
set_option maxHeartbeats 2000000 in
theorem get_bad (A A' : Option Addr) (n c m c' : Nat) (l : List Pl.Obj) (F : List Int) (nm : List UInt8) (w : World) (hl : l.length = n) (hF : F.length = m) (hr : SlAt w 4 A n c (objCs l)) (hr' : SlAt w 1 A' m c' (ints F)) (hn : n ≤ 2513169434900) (hm : m ≤ 17592186044000)
    (hbad : Pl.askE l nm ≠ 0) :
    Calls Tryz.prog 78 #[.agg #[.slice A n c, .slice A' m c'], .string ⟨nm.toArray⟩] w (RetB (GetOut w.heap.size l F [] (Pl.askE l nm)) w) := by
  obtain ⟨E, hE⟩ : ∃ E, Pl.askE l nm = E := ⟨_, rfl⟩
  rw [hE] at hbad ⊢
  have hne : ((E : Int) != 0) = true := by simp; omega
  have hco := fun w h h' => copied_any A A' n c m c' l F w hl hF h h' hn hm
  have has := fun A A' c c' w h => asked_any A A' n c m c' l nm w hl h hn
  rw [hE] at has
  have HC := Lib.hid (And.intro hco (And.intro has (And.intro hl hF))); clear hco has hl hF hE
  go_enter Tryz.func78, Tryz.ntmps78
  go_wp2_with fail
  have hb0 := bx_new w A A' n c m c'
  obtain ⟨V, hV⟩ : ∃ V, (w.alloc (.cells #[.slice A n c, .slice A' m c'] 26)).alloc (.cells #[.slice none 0 0, .slice none 0 0] 26) = V := ⟨_, rfl⟩
  rw [hV] at hb0 ⊢
  clear hV
  (with_reducible refine (HC.out.1 V (hr.below hb0.bel) (hr'.below hb0.bel)).mono ?_)
  rintro e w1 ⟨v, rfl, ⟨A1, c1, A2, c2, rfl, ho1, ho2⟩, hb1⟩
  rw [HC.out.2.2.1] at ho1 ⊢
  rw [HC.out.2.2.2] at ho2 ⊢
  have hx1 := hb0.below hb1
  obtain ⟨x0, x1, r0, r1, xf, rf⟩ := hx1.cells
  have hsz := hb0.siz
  have hp := hx1.put (own_base ho1 (by omega)) (own_sl ho2) (own_off ho2 (by omega)) (own_off ho2 (by omega)) (own_ty ho2)
  go_wp2_with fail
  obtain ⟨W, hW⟩ : ∃ W, (w1.setCell ⟨w.heap.size, 0, none⟩ (.slice A1 n c1)).setCell ⟨w.heap.size, 1, none⟩ (.slice A2 m c2) = W := ⟨_, rfl⟩
  rw [hW] at hp ⊢
  clear hW x0 x1 r0 r1 xf rf
  (with_reducible refine (HC.out.2.1 _ _ _ _ _ (Rd.own hp.obj)).mono ?_)
  rintro e w2 ⟨v, rfl, rfl, hb2⟩
  have hp2 := hp.below hb2
  obtain ⟨x0, x1, r0, r1, xf, rf⟩ := hp2.cells
  go_wp2_with fail
  refine bodyPost_ret (v := .tuple #[.agg #[.slice A1 n c1, .slice A2 m c2], .string ⟨#[]⟩, .int .i64 (E : Int)]) (by simp [results, Tryz.results78, go_sem, r0, r1]) rfl ?_
  obtain ⟨g1, g2, g3⟩ := hp2.ret
  refine ⟨_, rfl, ⟨A1, c1, A2, c2, ?_, ?_, ?_⟩, g3⟩
  · rw [HC.out.2.2.1, HC.out.2.2.2]
  · rw [HC.out.2.2.1]; exact g1
  · rw [HC.out.2.2.2]; exact g2
end Go.Proofs.YtdnebgilkfafhaaGreatDoor
namespace Go.Proofs.YtdnebgilkfafhaaGreatDoor
open Go.RowKit
set_option linter.unusedVariables false
set_option linter.unusedSimpArgs false

set_option maxRecDepth 100000 in
set_option maxHeartbeats 4000000 in
theorem get_good (A A' : Option Addr) (n c m c' : Nat) (l : List Pl.Obj) (F : List Int) (nm : List UInt8) (w : World) (hl : l.length = n) (hF : F.length = m) (hr : SlAt w 4 A n c (objCs l)) (hr' : SlAt w 1 A' m c' (ints F)) (hn : n ≤ 2513169434900) (hm : m ≤ 17592186044000)
    (hok : Pl.askE l nm = 0) (hdl : ∀ o ∈ l, o.data.length ≤ 1000000) :
    Calls Tryz.prog 78 #[.agg #[.slice A n c, .slice A' m c'], .string ⟨nm.toArray⟩] w (RetB (GetOut w.heap.size l F.tail (Pl.getR l (F.headD 0) nm).1 (Pl.getR l (F.headD 0) nm).2) w) := by
  have hris : Pl.Rising l := Pl.chk_rising (Pl.askE_ok hok).1
  have hco := fun w h h' => copied_any A A' n c m c' l F w hl hF h h' hn hm
  have has := fun A A' c c' w h => asked_any A A' n c m c' l nm w hl h hn
  have htk := fun A A' c c' w h => taken_any A A' n c m c' F w hF h
  have hfd := fun A A' c m c' w h => find_any A A' n c m c' l nm w hl h hn hris
  rw [hok] at has
  obtain ⟨f, hf⟩ : ∃ f, F.headD 0 = f := ⟨_, rfl⟩
  obtain ⟨T, hT⟩ : ∃ T, F.tail = T := ⟨_, rfl⟩
  obtain ⟨R, hR⟩ : ∃ R, Pl.getR l f nm = R := ⟨_, rfl⟩
  unfold TakenOut at htk
  simp only [hf, hT] at htk ⊢
  rw [hR]
  have HC := Lib.hid (And.intro hco (And.intro has (And.intro htk (And.intro hfd (And.intro hl (And.intro hF (And.intro hris (And.intro hdl hR))))))))
  clear hco has htk hfd hl hF hok hris hdl hf hT hR
  go_enter Tryz.func78, Tryz.ntmps78
  go_wp2_with fail
  have hb0 := bx_new w A A' n c m c'
  obtain ⟨V, hV⟩ : ∃ V, (w.alloc (.cells #[.slice A n c, .slice A' m c'] 26)).alloc (.cells #[.slice none 0 0, .slice none 0 0] 26) = V := ⟨_, rfl⟩
  rw [hV] at hb0 ⊢
  clear hV
  (with_reducible refine (HC.out.1 V (hr.below hb0.bel) (hr'.below hb0.bel)).mono ?_)
  rintro e w1 ⟨v, rfl, ⟨A1, c1, A2, c2, rfl, ho1, ho2⟩, hb1⟩
  rw [HC.out.2.2.2.2.1] at ho1 ⊢
  rw [HC.out.2.2.2.2.2.1] at ho2 ⊢
  have hx1 := hb0.below hb1
  obtain ⟨x0, x1, r0, r1, xf, rf⟩ := hx1.cells
  have hsz := hb0.siz
  have hof := own_off ho2 (B := w.heap.size) (by omega)
  have hof1 := own_off ho2 (B := w.heap.size + 1) (by omega)
  have hp := hx1.put (own_base ho1 (by omega)) (own_sl ho2) hof hof1 (own_ty ho2)
  go_wp2_with fail
  obtain ⟨W, hW⟩ : ∃ W, (w1.setCell ⟨w.heap.size, 0, none⟩ (.slice A1 n c1)).setCell ⟨w.heap.size, 1, none⟩ (.slice A2 m c2) = W := ⟨_, rfl⟩
  rw [hW] at hp ⊢
  clear hW x0 x1 r0 r1 xf rf ho1 ho2 hx1
  (with_reducible refine (HC.out.2.1 _ _ _ _ _ (Rd.own hp.obj)).mono ?_)
  rintro e w2 ⟨v, rfl, rfl, hb2⟩
  have hp2 := hp.below hb2
  obtain ⟨x0, x1, r0, r1, xf, rf⟩ := hp2.cells
  go_wp2_with fail
  (with_reducible refine (HC.out.2.2.1 _ _ _ _ _ hp2.fat).mono ?_)
  rintro e w3 ⟨v, rfl, ⟨A3, c3, rfl, hs3, hbk⟩, hb3⟩
  have hp3 := hp2.below hb3
  clear x0 x1 r0 r1 xf rf hp
  obtain ⟨x0, x1, r0, r1, xf, rf⟩ := hp3.cells
  have hq := hp3.toBx0.put hp3.obj hs3 (by rw [hbk]; exact hof) (by rw [hbk]; exact hof1) (by unfold FTy; rw [hbk]; exact hp3.fty)
  go_wp2_with fail
  obtain ⟨t, ht⟩ : ∃ t, T.length = t := ⟨_, rfl⟩
  rw [ht] at hq ⊢
  obtain ⟨W3, hW3⟩ : ∃ W, (w3.setCell ⟨w.heap.size, 0, none⟩ (.slice A1 n c1)).setCell ⟨w.heap.size, 1, none⟩ (.slice A3 t c3) = W := ⟨_, rfl⟩
  rw [hW3] at hq ⊢
  have HT := Lib.hid ht; clear ht hW3 hs3 hp2 hp3 x0 x1 r0 r1 xf rf
  (with_reducible refine (HC.out.2.2.2.1 _ _ _ _ _ _ (Rd.own hq.obj)).mono ?_)
  rintro e w4 ⟨v, rfl, ⟨i, fd, rfl, hfd⟩, hb4⟩
  have hq4 := hq.below hb4
  have HF := Lib.hid hfd; clear hfd
  obtain ⟨x0, x1, r0, r1, xf, rf⟩ := hq4.cells
  have hRR := HC.out.2.2.2.2.2.2.2.2
  by_cases h4 : f = 4
  · have hR4 : R = ([], 17) := by rw [← hRR, h4]; rfl
    have HR := Lib.hid hR4; clear hR4 hRR
    have hb4 : (f == 4) = true := by simp [h4]
    clear h4
    go_wp2_with fail
    refine bodyPost_ret (v := .tuple #[.agg #[.slice A1 n c1, .slice A3 t c3], .string ⟨#[]⟩, .int .i64 17]) (by simp [results, Tryz.results78, go_sem, r0, r1]) rfl ?_
    obtain ⟨g1, g2, g3⟩ := hq4.ret
    refine ⟨_, rfl, ⟨A1, c1, A3, c3, ?_, ?_, ?_⟩, by first | exact g3 | exact g3.drew⟩
    · rw [HC.out.2.2.2.2.1, HT.out, HR.out]; rfl
    · rw [HC.out.2.2.2.2.1]; exact g1
    · rw [HT.out]; exact g2
  have hb4' : (f == 4) = false := by simp [h4]
  cases fd with
  | false =>
    have hRn : R = ([], 9) := by rw [← hRR]; unfold Pl.getR; rw [if_neg h4, Pl.found_no HF.out HC.out.2.2.2.2.2.2.1]
    have HR := Lib.hid hRn; clear hRn hRR h4
    by_cases h1 : f = 1
    all_goals
      first
      | have hb1 : (f == 1) = true := by simp [h1]
      | have hb1 : (f == 1) = false := by simp [h1]
      clear h1
      go_wp2_with fail
      refine bodyPost_ret (v := .tuple #[.agg #[.slice A1 n c1, .slice A3 t c3], .string ⟨#[]⟩, .int .i64 9]) (by simp [results, Tryz.results78, go_sem, r0, r1]) rfl ?_
      obtain ⟨g1, g2, g3⟩ := hq4.ret
      refine ⟨_, rfl, ⟨A1, c1, A3, c3, ?_, ?_, ?_⟩, by first | exact g3 | exact g3.drew⟩
      · rw [HC.out.2.2.2.2.1, HT.out, HR.out]; rfl
      · rw [HC.out.2.2.2.2.1]; exact g1
      · rw [HT.out]; exact g2
  | true =>
    obtain ⟨hi, hnm, hfo⟩ := Pl.found_yes HF.out
    have hin : i < n := by have := HC.out.2.2.2.2.1; omega
    have hib : (0 : Int) ≤ (i : Int) := by omega
    have hib2 : (i : Int) < (n : Int) := by omega
    obtain ⟨b, off, rfl, hltb, p0, p1, p2, p3⟩ := (Rd.own hq4.obj).obj HC.out.2.2.2.2.1 hin
    obtain ⟨o, ho⟩ : ∃ o, l[i] = o := ⟨_, rfl⟩
    have hol : o.data.length ≤ 1000000 := by rw [← ho]; exact HC.out.2.2.2.2.2.2.2.1 _ (List.getElem_mem hi)
    rw [ho] at p0 p1 p2 p3 hfo
    unfold Pl.getR at hRR
    rw [if_neg h4, hfo] at hRR
    simp only at hRR
    have HO := Lib.hid (And.intro ho (And.intro hfo hnm)); clear ho hfo hnm h4
    have hne : w.heap.size + 1 ≠ b := by have := own_off hq4.obj (B := w.heap.size + 1) (by omega); simpa using Ne.symm this
    obtain ⟨on, od, ow, oh⟩ := o
    simp only at p0 p1 p2 p3 hRR hol
    by_cases h1 : f = 1
    · have HR := Lib.hid (show R = ([], 9) by rw [← hRR, if_pos (.inl h1)]); clear hRR
      have hb1 : (f == 1) = true := by simp [h1]
      clear h1
      go_wp2_with fail
      refine bodyPost_ret (v := .tuple #[.agg #[.slice (some ⟨b, off, none⟩) n c1, .slice A3 t c3], .string ⟨#[]⟩, .int .i64 9]) (by simp [results, Tryz.results78, go_sem, r0, r1]) rfl ?_
      obtain ⟨g1, g2, g3⟩ := hq4.ret
      refine ⟨_, rfl, ⟨(some ⟨b, off, none⟩), c1, A3, c3, ?_, ?_, ?_⟩, by first | exact g3 | exact g3.drew⟩
      · rw [HC.out.2.2.2.2.1, HT.out, HR.out]; rfl
      · rw [HC.out.2.2.2.2.1]; exact g1
      · rw [HT.out]; exact g2
    have hb1 : (f == 1) = false := by simp [h1]
    by_cases h3 : f = 3
    · have hb3 : (f == 3) = true := by simp [h3]
      cases oh with
      | false =>
        have HR := Lib.hid (show R = ([], 9) by rw [← hRR, if_pos (.inr ⟨h3, rfl⟩)]); clear hRR h1 h3
        go_wp2_with fail
        refine bodyPost_ret (v := .tuple #[.agg #[.slice (some ⟨b, off, none⟩) n c1, .slice A3 t c3], .string ⟨#[]⟩, .int .i64 9]) (by simp [results, Tryz.results78, go_sem, r0, r1]) rfl ?_
        obtain ⟨g1, g2, g3⟩ := hq4.ret
        refine ⟨_, rfl, ⟨(some ⟨b, off, none⟩), c1, A3, c3, ?_, ?_, ?_⟩, by first | exact g3 | exact g3.drew⟩
        · rw [HC.out.2.2.2.2.1, HT.out, HR.out]; rfl
        · rw [HC.out.2.2.2.2.1]; exact g1
        · rw [HT.out]; exact g2
      | true =>
        have HR := Lib.hid (show R = (ow, 0) by rw [← hRR, if_neg (by simp [h1]), if_pos h3]); clear hRR h1 h3
        go_wp2_with fail
        refine wp_region_held_drew (S := (fun w' => w'.cell? ⟨w.heap.size, 0, none⟩ = some (.slice (some ⟨b, off, none⟩) n c1) ∧ w'.cell? ⟨w.heap.size, 1, none⟩ = some (.slice A3 t c3) ∧ w'.cell? ⟨b, off + i * 4 + 2, none⟩ = some (.string ⟨ow.toArray⟩))) (by kernel_rfl) (by exact ⟨x0, x1, p2⟩) (fun hHeld => ?_)
        refine tk 0 (v := ?_) rfl ?_ hHeld ?_
        rotate_left
        · (intro w' hSw; (try dsimp only at hSw); (try obtain ⟨hS0, hS1, hS2⟩ := hSw); go_simp; try with_reducible rfl)
        simp only [Act.put, lay9]
        refine tk 1 (v := ?_) rfl ?_ hHeld ?_
        rotate_left
        · (intro w' hSw; (try dsimp only at hSw); (try obtain ⟨hS0, hS1, hS2⟩ := hSw); go_simp; try with_reducible rfl)
        simp only [Act.put, lay9]
        refine tk 2 (v := ?_) rfl ?_ hHeld ?_
        rotate_left
        · (intro w' hSw; (try dsimp only at hSw); (try obtain ⟨hS0, hS1, hS2⟩ := hSw); go_simp; try with_reducible rfl)
        simp only [Act.put, lay9]
        refine tk 3 (v := ?_) rfl ?_ hHeld ?_
        rotate_left
        · (intro w' hSw; (try dsimp only at hSw); (try obtain ⟨hS0, hS1, hS2⟩ := hSw); go_simp; try with_reducible rfl)
        simp only [Act.put, lay9]
        refine tk 4 (v := ?_) rfl ?_ hHeld ?_
        rotate_left
        · (intro w' hSw; (try dsimp only at hSw); (try obtain ⟨hS0, hS1, hS2⟩ := hSw); go_simp; try with_reducible rfl)
        simp only [Act.put, lay9]
        refine tk 5 (v := ?_) rfl ?_ hHeld ?_
        rotate_left
        · (intro w' hSw; (try dsimp only at hSw); (try obtain ⟨hS0, hS1, hS2⟩ := hSw); go_simp; try with_reducible rfl)
        simp only [Act.put, lay9]
        refine tk 6 (v := ?_) rfl ?_ hHeld ?_
        rotate_left
        · (intro w' hSw; (try dsimp only at hSw); (try obtain ⟨hS0, hS1, hS2⟩ := hSw); go_simp; try with_reducible rfl)
        simp only [Act.put, lay9]
        refine wpAnyH_ready (rs := [7]) (by kernel_rfl) (by simp) (AllReadyH.cons rfl (fun K hK => ?_) AllReadyH.nil)
        go_simp
        refine hK.out _ _ ⟨((World.cell?_setCell_far _ _ _ _ (by simp)).trans (World.cell?_setCell_far _ _ _ _ (by simp))).trans x0, ((World.cell?_setCell_far _ _ _ _ (by simp)).trans (World.cell?_setCell_far _ _ _ _ (by simp))).trans x1, ((World.cell?_setCell_far _ _ _ _ hne).trans (World.cell?_setCell_far _ _ _ _ hne)).trans p2⟩ (fun hHeld => ?_)
        clear hK K
        (try simp only [Act.put, lay9])
        refine tk 8 (v := ?_) rfl ?_ hHeld ?_
        rotate_left
        · (intro w' hSw; (try dsimp only at hSw); (try obtain ⟨hS0, hS1, hS2⟩ := hSw); go_simp; try with_reducible rfl)
        simp only [Act.put, lay9]
        refine tk 9 (v := ?_) rfl ?_ hHeld ?_
        rotate_left
        · (intro w' hSw; (try dsimp only at hSw); (try obtain ⟨hS0, hS1, hS2⟩ := hSw); go_simp; try with_reducible rfl)
        simp only [Act.put, lay9]
        refine wpAnyH_done (by kernel_rfl) ?_ _
        go_wp2_with fail
        refine bodyPost_ret (v := .tuple #[.agg #[.slice (some ⟨b, off, none⟩) n c1, .slice A3 t c3], .string ⟨ow.toArray⟩, .int .i64 0]) (by simp [results, Tryz.results78, go_sem, r0, r1]) rfl ?_
        obtain ⟨g1, g2, g3⟩ := hq4.ret
        refine ⟨_, rfl, ⟨(some ⟨b, off, none⟩), c1, A3, c3, ?_, ?_, ?_⟩, by first | exact g3 | exact g3.drew⟩
        · rw [HC.out.2.2.2.2.1, HT.out, HR.out]; rfl
        · rw [HC.out.2.2.2.2.1]; exact g1
        · rw [HT.out]; exact g2
    have hb3 : (f == 3) = false := by simp [h3]
    by_cases h2 : f = 2
    · have hb2 : (f == 2) = true := by simp [h2]
      have HR := Lib.hid (show R = (Pl.flip od, 0) by rw [← hRR, if_neg (by simp [h1, h3]), if_neg h3, if_pos h2]); clear hRR h1 h2 h3
      go_wp2_with fail
      have hlt4 : w.heap.size < w4.heap.size := by have := hq4.siz; omega
      refine wp_region_held_drew (S := (fun w' => w'.cell? ⟨w.heap.size, 0, none⟩ = some (.slice (some ⟨b, off, none⟩) n c1) ∧ w'.cell? ⟨w.heap.size, 1, none⟩ = some (.slice A3 t c3) ∧ w'.cell? ⟨b, off + i * 4 + 1, none⟩ = some (.string ⟨od.toArray⟩))) (by kernel_rfl) (by exact ⟨x0, x1, p1⟩) (fun hHeld => ?_)
      refine tk 0 (v := ?_) rfl ?_ hHeld ?_
      rotate_left
      · (intro w' hSw; (try dsimp only at hSw); (try obtain ⟨hS0, hS1, hS2⟩ := hSw); go_simp; try with_reducible rfl)
      simp only [Act.put, lay9]
      refine tk 1 (v := ?_) rfl ?_ hHeld ?_
      rotate_left
      · (intro w' hSw; (try dsimp only at hSw); (try obtain ⟨hS0, hS1, hS2⟩ := hSw); go_simp; try with_reducible rfl)
      simp only [Act.put, lay9]
      refine tk 2 (v := ?_) rfl ?_ hHeld ?_
      rotate_left
      · (intro w' hSw; (try dsimp only at hSw); (try obtain ⟨hS0, hS1, hS2⟩ := hSw); go_simp; try with_reducible rfl)
      simp only [Act.put, lay9]
      refine tk 3 (v := ?_) rfl ?_ hHeld ?_
      rotate_left
      · (intro w' hSw; (try dsimp only at hSw); (try obtain ⟨hS0, hS1, hS2⟩ := hSw); go_simp; try with_reducible rfl)
      simp only [Act.put, lay9]
      refine tk 4 (v := ?_) rfl ?_ hHeld ?_
      rotate_left
      · (intro w' hSw; (try dsimp only at hSw); (try obtain ⟨hS0, hS1, hS2⟩ := hSw); go_simp; try with_reducible rfl)
      simp only [Act.put, lay9]
      refine tk 5 (v := ?_) rfl ?_ hHeld ?_
      rotate_left
      · (intro w' hSw; (try dsimp only at hSw); (try obtain ⟨hS0, hS1, hS2⟩ := hSw); go_simp; try with_reducible rfl)
      simp only [Act.put, lay9]
      refine tk 6 (v := ?_) rfl ?_ hHeld ?_
      rotate_left
      · (intro w' hSw; (try dsimp only at hSw); (try obtain ⟨hS0, hS1, hS2⟩ := hSw); go_simp; try with_reducible rfl)
      simp only [Act.put, lay9]
      refine wpAnyH_ready (rs := [7]) (by kernel_rfl) (by simp) (AllReadyH.cons rfl (fun K hK => ?_) AllReadyH.nil)
      go_simp
      (with_reducible refine (flipped_any _ _ hol).mono ?_)
      rintro e w5 ⟨v, rfl, rfl, hb5⟩
      have hq5 := hq4.below (((Below.refl _ _).drew).trans hb5)
      clear r0 r1 rf xf
      obtain ⟨y0, y1, r0, r1, xf, rf⟩ := hq5.cells
      have p1' := (hb5.cell (p := ⟨b, off + i * 4 + 1, none⟩) hltb).trans p1
      refine hK.out _ _ ⟨y0, y1, p1'⟩ (fun hHeld => ?_)
      clear hK K
      (try simp only [Act.put, lay9])
      refine wpAnyH_ready (rs := [8]) (by kernel_rfl) (by simp) (AllReadyH.cons rfl (fun K hK => ?_) AllReadyH.nil)
      go_simp
      refine hK.out _ _ ⟨((World.cell?_setCell_far _ _ _ _ (by simp)).trans (World.cell?_setCell_far _ _ _ _ (by simp))).trans y0, ((World.cell?_setCell_far _ _ _ _ (by simp)).trans (World.cell?_setCell_far _ _ _ _ (by simp))).trans y1, ((World.cell?_setCell_far _ _ _ _ hne).trans (World.cell?_setCell_far _ _ _ _ hne)).trans p1'⟩ (fun hHeld => ?_)
      clear hK K
      (try simp only [Act.put, lay9])
      refine tk 9 (v := ?_) rfl ?_ hHeld ?_
      rotate_left
      · (intro w' hSw; (try dsimp only at hSw); (try obtain ⟨hS0, hS1, hS2⟩ := hSw); go_simp; try with_reducible rfl)
      simp only [Act.put, lay9]
      refine tk 10 (v := ?_) rfl ?_ hHeld ?_
      rotate_left
      · (intro w' hSw; (try dsimp only at hSw); (try obtain ⟨hS0, hS1, hS2⟩ := hSw); go_simp; try with_reducible rfl)
      simp only [Act.put, lay9]
      refine wpAnyH_done (by kernel_rfl) ?_ _
      go_wp2_with fail
      refine bodyPost_ret (v := .tuple #[.agg #[.slice (some ⟨b, off, none⟩) n c1, .slice A3 t c3], .string ⟨(Pl.flip od).toArray⟩, .int .i64 0]) (by simp [results, Tryz.results78, go_sem, r0, r1]) rfl ?_
      obtain ⟨g1, g2, g3⟩ := hq5.ret
      refine ⟨_, rfl, ⟨(some ⟨b, off, none⟩), c1, A3, c3, ?_, ?_, ?_⟩, by first | exact g3 | exact g3.drew⟩
      · rw [HC.out.2.2.2.2.1, HT.out, HR.out]; rfl
      · rw [HC.out.2.2.2.2.1]; exact g1
      · rw [HT.out]; exact g2
    · have hb2 : (f == 2) = false := by simp [h2]
      have HR := Lib.hid (show R = (od, 0) by rw [← hRR, if_neg (by simp [h1, h3]), if_neg h3, if_neg h2]); clear hRR h1 h2 h3
      go_wp2_with fail
      refine wp_region_held_drew (S := (fun w' => w'.cell? ⟨w.heap.size, 0, none⟩ = some (.slice (some ⟨b, off, none⟩) n c1) ∧ w'.cell? ⟨w.heap.size, 1, none⟩ = some (.slice A3 t c3) ∧ w'.cell? ⟨b, off + i * 4 + 1, none⟩ = some (.string ⟨od.toArray⟩))) (by kernel_rfl) (by exact ⟨x0, x1, p1⟩) (fun hHeld => ?_)
      refine tk 0 (v := ?_) rfl ?_ hHeld ?_
      rotate_left
      · (intro w' hSw; (try dsimp only at hSw); (try obtain ⟨hS0, hS1, hS2⟩ := hSw); go_simp; try with_reducible rfl)
      simp only [Act.put, lay9]
      refine tk 1 (v := ?_) rfl ?_ hHeld ?_
      rotate_left
      · (intro w' hSw; (try dsimp only at hSw); (try obtain ⟨hS0, hS1, hS2⟩ := hSw); go_simp; try with_reducible rfl)
      simp only [Act.put, lay9]
      refine tk 2 (v := ?_) rfl ?_ hHeld ?_
      rotate_left
      · (intro w' hSw; (try dsimp only at hSw); (try obtain ⟨hS0, hS1, hS2⟩ := hSw); go_simp; try with_reducible rfl)
      simp only [Act.put, lay9]
      refine tk 3 (v := ?_) rfl ?_ hHeld ?_
      rotate_left
      · (intro w' hSw; (try dsimp only at hSw); (try obtain ⟨hS0, hS1, hS2⟩ := hSw); go_simp; try with_reducible rfl)
      simp only [Act.put, lay9]
      refine tk 4 (v := ?_) rfl ?_ hHeld ?_
      rotate_left
      · (intro w' hSw; (try dsimp only at hSw); (try obtain ⟨hS0, hS1, hS2⟩ := hSw); go_simp; try with_reducible rfl)
      simp only [Act.put, lay9]
      refine tk 5 (v := ?_) rfl ?_ hHeld ?_
      rotate_left
      · (intro w' hSw; (try dsimp only at hSw); (try obtain ⟨hS0, hS1, hS2⟩ := hSw); go_simp; try with_reducible rfl)
      simp only [Act.put, lay9]
      refine tk 6 (v := ?_) rfl ?_ hHeld ?_
      rotate_left
      · (intro w' hSw; (try dsimp only at hSw); (try obtain ⟨hS0, hS1, hS2⟩ := hSw); go_simp; try with_reducible rfl)
      simp only [Act.put, lay9]
      refine wpAnyH_ready (rs := [7]) (by kernel_rfl) (by simp) (AllReadyH.cons rfl (fun K hK => ?_) AllReadyH.nil)
      go_simp
      refine hK.out _ _ ⟨((World.cell?_setCell_far _ _ _ _ (by simp)).trans (World.cell?_setCell_far _ _ _ _ (by simp))).trans x0, ((World.cell?_setCell_far _ _ _ _ (by simp)).trans (World.cell?_setCell_far _ _ _ _ (by simp))).trans x1, ((World.cell?_setCell_far _ _ _ _ hne).trans (World.cell?_setCell_far _ _ _ _ hne)).trans p1⟩ (fun hHeld => ?_)
      clear hK K
      (try simp only [Act.put, lay9])
      refine tk 8 (v := ?_) rfl ?_ hHeld ?_
      rotate_left
      · (intro w' hSw; (try dsimp only at hSw); (try obtain ⟨hS0, hS1, hS2⟩ := hSw); go_simp; try with_reducible rfl)
      simp only [Act.put, lay9]
      refine tk 9 (v := ?_) rfl ?_ hHeld ?_
      rotate_left
      · (intro w' hSw; (try dsimp only at hSw); (try obtain ⟨hS0, hS1, hS2⟩ := hSw); go_simp; try with_reducible rfl)
      simp only [Act.put, lay9]
      refine wpAnyH_done (by kernel_rfl) ?_ _
      go_wp2_with fail
      refine bodyPost_ret (v := .tuple #[.agg #[.slice (some ⟨b, off, none⟩) n c1, .slice A3 t c3], .string ⟨od.toArray⟩, .int .i64 0]) (by simp [results, Tryz.results78, go_sem, r0, r1]) rfl ?_
      obtain ⟨g1, g2, g3⟩ := hq4.ret
      refine ⟨_, rfl, ⟨(some ⟨b, off, none⟩), c1, A3, c3, ?_, ?_, ?_⟩, by first | exact g3 | exact g3.drew⟩
      · rw [HC.out.2.2.2.2.1, HT.out, HR.out]; rfl
      · rw [HC.out.2.2.2.2.1]; exact g1
      · rw [HT.out]; exact g2
end Go.Proofs.YtdnebgilkfafhaaGreatDoor
