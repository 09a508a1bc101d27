/- The walk of manifest's namesOf: the names of the digests that stand one behind the other. -/
import Derived.Test.YtadoplgmeoghmaaDoorHexW
import Derived.Test.YtadoplgmeoghmaaDoorMfChk
import Derived.Test.YtadoplgmeoghmaaDoorMfPl2
import Derived.Test.YtadoplgmeoghmaaDoorBase
import Derived.Lib.LazyBuf
import Derived.Deep.RegionLaw
namespace Go.Proofs.YtadoplgmeoghmaaDoor
open Go.RowKit
set_option linter.unusedVariables false
set_option linter.unusedSimpArgs false
attribute [local go_sem] ba_get ba_cut ba_add
theorem sl_own {w : World} {base : Nat} {e : TypeId} {A : Option Addr} {n c : Nat} {xs : List Value} (h : w.ownsRow base e 1 (.slice A n c) n xs) : SlAt w 1 A n c xs := by
  refine ⟨Rd.own h, ?_⟩
  rcases h.2 with ⟨h1, h2⟩ | ⟨g, cap, cur, h1, _, _, h3, h4, _⟩
  · cases h1
    exact ⟨by omega, by omega, fun _ => rfl⟩
  · cases h1
    exact ⟨h3, by simp only [maxLen] at h4; omega, fun h => by cases h⟩
def NamesOut (s : List UInt8) (base : Nat) (v : Value) (w' : World) : Prop := ∃ A c, v = .tuple #[.slice A (Pl.rowN s).length c, .bool (Pl.rowK s)] ∧ w'.ownsRow base 9 1 (.slice A (Pl.rowN s).length c) (Pl.rowN s).length (strs (Pl.rowN s))
theorem size_u8 (w : World) : (Go.sizeOf 5).run Tryd.prog w = .ok 1 w := by
  have h : (Tryd.prog.info? 5).map (·.size) = some 1 := by kernel_rfl
  cases hq : Tryd.prog.info? 5 with
  | none => simp [hq] at h
  | some i =>
    have hi : i.size = 1 := by simpa [hq] using h
    simp [sizeOf, typeInfo, hq, hi]
theorem step_copy32 {ops : Array Oper} {o : Oper} {a : Act} {w V : World} {K : Act → World → Prop} {Q : Exit → Act → World → Prop} {E : Prop} (hg : o.guard = none) (d x' : Operand)
    (hop : o.op = .call { callee := .builtin .copy, args := #[d, x'], argTypes := #[71, 9] }) (H : Nat) (hd : a.eval d = .slice (some ⟨H, 0, none⟩) 32 32) (x : List UInt8) (hx : a.eval x' = .string ⟨x.toArray⟩) (hxl : Hid (x.length = 32))
    (hw : w = V.drew) (hcf : Hid ((∀ j, j < 32 → (V.cell? ⟨H, 0 + j, none⟩).isSome = true) ∧ (∀ j, j < 32 → V.frozen? ⟨H, 0 + j, none⟩ = false)))
    (hK : K (a.put o.dst (goInt 32)) (w.setCells H 0 (byC x))) : if Region.wanted o (yielded ops a.tmps) = true then Oper.wp Tryd.prog o a w K Q else E := by
  subst hw
  have hsz : (⟨x.toArray⟩ : ByteArray).size = 32 := by simp [ByteArray.size, hxl.out]
  refine step_copy_string hg d x' _ _ hop 5 Tryd.underlying71 size_u8 H 0 32 32 hd ⟨x.toArray⟩ hx (by omega) (fun j hj => hcf.out.1 j (by omega)) (fun j hj => hcf.out.2 j (by omega)) ?_
  rw [hsz]
  have e : ((⟨x.toArray⟩ : ByteArray).data.toList.map fun x => Value.int .u8 (x.toNat : Int)) = byC x := by simp [byC]
  rw [e]
  exact hK
set_option maxRecDepth 100000 in
set_option maxHeartbeats 4000000 in
theorem namesOf_any (s : List UInt8) (w : World) (hs : s.length ≤ 140737488355328) : Calls Tryd.prog 66 #[.string ⟨s.toArray⟩] w (RetB (NamesOut s w.heap.size) w) := by
  obtain ⟨n, hn⟩ : ∃ n, s.length = n := ⟨_, rfl⟩
  have HN := Lib.hid hn
  rw [hn] at hs
  by_cases hm : n % 32 = 0
  rotate_left
  · have hd : ((n : Int) % 32 == 0) = false := by rw [beq_eq_false_iff_ne]; omega
    have HR := Lib.hid (show Pl.rowK s = false by unfold Pl.rowK; rw [HN.out, decide_eq_false hm]; rfl)
    go_enter Tryd.func66, Tryd.ntmps66
    go_wp2_with fail
    go_ret2
    exact ⟨_, rfl, ⟨none, 0, by rw [HR.out, Pl.rowN_no HR.out]; rfl, by rw [Pl.rowN_no HR.out]; exact World.ownsRow_nil _ _ _ _⟩, Below.refl _ _⟩
  have hd : ((n : Int) % 32 == 0) = true := by rw [beq_iff_eq]; omega
  obtain ⟨m, hmn⟩ : ∃ m, n = 32 * m := ⟨n / 32, by omega⟩
  by_cases hk : 1000 < m
  · have hd2 : decide ((1000 : Int) < (n : Int) / 32) = true := decide_eq_true (by omega)
    have HR := Lib.hid (show Pl.rowK s = false by unfold Pl.rowK; rw [HN.out, show decide (n / 32 ≤ 1000) = false from decide_eq_false (by omega)]; simp)
    clear hmn
    go_enter Tryd.func66, Tryd.ntmps66
    go_wp2_with fail
    go_ret2
    exact ⟨_, rfl, ⟨none, 0, by rw [HR.out, Pl.rowN_no HR.out]; rfl, by rw [Pl.rowN_no HR.out]; exact World.ownsRow_nil _ _ _ _⟩, Below.refl _ _⟩
  have hd2 : decide ((1000 : Int) < (n : Int) / 32) = false := decide_eq_false (by omega)
  have HR := Lib.hid (show Pl.rowK s = true by unfold Pl.rowK; rw [HN.out, decide_eq_true hm, show decide (n / 32 ≤ 1000) = true from decide_eq_true (by omega)]; rfl)
  have HL := Lib.hid (show Pl.namesB s = Pl.namesK m s by unfold Pl.namesB; rw [HN.out]; congr 1; omega)
  obtain ⟨Z, hZ⟩ : ∃ Z, Z = zero32 := ⟨_, rfl⟩
  have HZ := Lib.hid hZ; clear hZ
  go_enter Tryd.func66, Tryd.ntmps66
  go_wp2_with fail
  have HM := Lib.hid hmn
  clear hd hd2 hmn
  go_loopw [4, 5, 6] (fun v i _ wr => ∃ (k : Nat), k ≤ m ∧ i = .int .i64 ((32 * k : Nat) : Int) ∧ wr.ownsRow w.heap.size 9 1 v k (strs (Pl.namesK k s)) ∧ Below w.heap.size w wr) (fun _ i _ _ => n - (intOf i).toNat)
  case atStart => exact ⟨0, by omega, rfl, World.ownsRow_nil _ _ _ _, Below.refl _ _⟩
  case round =>
    obtain ⟨k, hkm, rfl, hown, hbV⟩ := hrel
    by_cases hkl : k < m
    · have hd : decide (((32 * k : Nat) : Int) < (n : Int)) = true := decide_eq_true (by have := HM.out; omega)
      obtain ⟨a, ha⟩ : ∃ a, 32 * k = a := ⟨_, rfl⟩
      rw [ha] at hd ⊢
      have han : a + 32 ≤ n := by have := HM.out; omega
      have HA := Lib.hid (And.intro ha han)
      go_upto_region 8 with (fail)
      generalize hV : wr.alloc _ = V
      have hR : V.heap[wr.heap.size]? = some (.cells Z.toArray 29 (0, 0)) := by rw [← hV, HZ.out]; exact heap_alloc_new wr _
      have hbr : Below wr.heap.size wr V := by rw [← hV]; exact (Below.refl _ _).alloc (Nat.le_refl _) _
      have hb1 : Below w.heap.size w V := by rw [← hV]; exact hbV.alloc hbV.size _
      have hHV : w.heap.size ≤ wr.heap.size := hbV.size
      have HOW := Lib.hid (And.intro hown hbr)
      clear hV hown hbV hbr
      obtain ⟨H, hH⟩ : ∃ H, wr.heap.size = H := ⟨_, rfl⟩
      rw [hH] at hR hHV ⊢
      have HHH := Lib.hid hH
      clear hH
      obtain ⟨x, hx⟩ : ∃ x, (s.drop a).take 32 = x := ⟨_, rfl⟩
      have hxl : x.length = 32 := by rw [← hx, List.length_take, List.length_drop, HN.out]; omega
      have hcel : ∀ j, j < 32 → (V.cell? ⟨H, 0 + j, none⟩).isSome = true := fun j hj => by
        rw [Nat.zero_add, cell_row V H j _ _ hR]
        have hz : Z.length = 32 := len_Z HZ.out
        simp [hz, hj]
      have hfrz : ∀ j, j < 32 → V.frozen? ⟨H, 0 + j, none⟩ = false := fun j _ => frozen_of V _ _ _ _ hR
      have HCF := Lib.hid (And.intro hcel hfrz)
      have HX := Lib.hid (And.intro hx hxl)
      clear hcel hfrz hx hxl
      obtain ⟨e, he⟩ : ∃ e, a + 32 = e := ⟨_, rfl⟩
      have hwr : IntKind.i64.wrap ((a : Int) + 32) = (e : Int) := by rw [IntKind.wrap_i64]; omega
      have hen : (e : Int) ≤ (n : Int) := by omega
      have hae : (a : Int) ≤ (e : Int) := by omega
      have hae' : a ≤ e := by omega
      have he0 : (0 : Int) ≤ (e : Int) := by omega
      have hxe : (s.drop a).take (e - a) = x := by rw [← HX.out.1]; congr 1; omega
      have HE := Lib.hid he
      clear he han
      have HXL := Lib.hid HX.out.2
      go_region_law (refine step_copy32 rfl (.tmp 23) (.tmp 28) rfl H rfl x rfl HXL rfl HCF ?_)
      have hZl : Z.length = 32 := len_Z HZ.out
      have hthH : V.drew.there H 0 (byC x).length := there_row (t := 29) (C := Z.toArray) hR (by rw [byC_len, List.size_toArray, hZl, HX.out.2]; exact Nat.le_refl _)
      generalize hW : World.setCells _ _ _ _ = W
      have hr : W.rangeAt H 0 (byC x) := by rw [← hW]; exact World.rangeAt_setCells_same _ _ _ _ hthH
      have hbW : Below w.heap.size w W := by rw [← hW]; exact hb1.drew.trans (Lib.below_setCells_w hHV _ _ _)
      have hownW : W.ownsRow w.heap.size 9 1 u4 k (strs (Pl.namesK k s)) := own_below HOW.out.1 (by rw [← hW]; exact HOW.out.2.drew.trans (Lib.below_setCells_w (by rw [HHH.out]; exact Nat.le_refl _) _ _ _))
      clear hW hthH hb1 hR HCF HOW V
      have hhex := fun W => hex_any x W HX.out.2
      have hst : strs (Pl.namesK (k + 1) s) = strs (Pl.namesK k s) ++ [.string ⟨(Pl.hexB x).toArray⟩] := by rw [Pl.namesK_snoc, HA.out.1, HX.out.1]; simp [strs]
      obtain ⟨t, ht⟩ : ∃ t, Pl.hexB x = t := ⟨_, rfl⟩
      obtain ⟨DX, hDX⟩ : ∃ D, byC x = D := ⟨_, rfl⟩
      have hiD : (Tryd.prog.info? 29).map (·.size) = some DX.length := by rw [← hDX]; exact info_byl HX.out.2
      rw [ht] at hhex hst
      rw [hDX] at hhex hr
      have HH := Lib.hid (And.intro hhex hst); clear hhex hst ht hDX
      go_wp2_with (with_reducible refine wpList_load_mid rfl 29 _ rfl H 0 rfl DX _ hr Tryd.underlying29 rfl hiD ?_)
      (with_reducible refine (HH.out.1 _).mono ?_)
      rintro e w2 ⟨v, rfl, rfl, hb2⟩
      have hown2 := own_below hownW hb2
      have hb2' := hbW.trans (hb2.mono hbW.size)
      clear hownW hbW hr
      have hk1000 : (k + 1) * 16 ≤ 140737488355328 := by omega
      have hbs2 := hb2'.size
      go_wp2_with (at_builtin; refine push_one rfl (.tmp 30) (.tmp 33) 27 rfl w.heap.size 9 (.string ⟨#[]⟩) 16 Tryd.underlying27 info_str rfl _ _ _ _ _ rfl hown2 rfl rfl hk1000 (by omega) hbs2 ?_; intro v1 w3 hown3 hb3; obtain ⟨A1, c1, rfl⟩ := own_form' hown3)
      have hkk : e = 32 * (k + 1) := by have := HE.out; omega
      go_roundw
      case rel => exact ⟨k + 1, by omega, by rw [← hkk], by rw [HH.out.2]; exact hown3, hb2'.trans hb3⟩
      case measure => simp [intOf]; omega
    · obtain rfl : k = m := by omega
      have hd : decide (((32 * k : Nat) : Int) < (n : Int)) = false := decide_eq_false (by have := HM.out; omega)
      obtain ⟨a, ha⟩ : ∃ a, 32 * k = a := ⟨_, rfl⟩
      rw [ha] at hd ⊢
      obtain ⟨A, c, rfl⟩ := own_form' hown
      have hkk := Pl.namesK_len k s
      have hd0 : decide (a < n) = false := by have := of_decide_eq_false hd; exact decide_eq_false (by omega)
      go_wp2_with fail
      go_ret2
      exact ⟨_, rfl, ⟨A, c, by rw [HR.out, Pl.rowN_ok HR.out, HL.out, hkk]; rfl, by rw [Pl.rowN_ok HR.out, HL.out, hkk]; exact hown⟩, hbV⟩
end Go.Proofs.YtadoplgmeoghmaaDoor
