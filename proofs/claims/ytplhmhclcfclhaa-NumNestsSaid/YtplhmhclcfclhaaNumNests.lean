/- NumNests: for every list of lists of texts the statement returns true, and nothing that was there has turned. No condition. -/
import Derived.Test.YtplhmhclcfclhaaNumAl
import Derived.Test.YtplhmhclcfclhaaNumLaw
import Derived.Test.YtplhmhclcfclhaaOpen2
namespace Go.Proofs.Ytplhmhclcfclhaa
open Go.ChangeShapes Go.WideShapes Go.ChangeAt Go.RowKit
attribute [local go_sem] ba_get
set_option linter.unusedVariables false

theorem SlS.Ok.below {W W' : World} {s : SlS} (h : s.Ok W) (hb : Below W.heap.size W W') : s.Ok W' := ⟨h.1.below hb, h.2⟩
theorem sumLen_bd (K : Nat) : ∀ l : List (List UInt8), (∀ s ∈ l, s.length ≤ K) → sumLen l ≤ l.length * (K + 1)
  | [], _ => by simp [sumLen]
  | x :: l, h => by
    have h1 := h x (by simp)
    have h2 := sumLen_bd K l (fun s hs => h s (by simp [hs]))
    simp only [sumLen, List.length_cons, Nat.add_mul]
    omega

/-- The rows of rows, as bytes. -/
def rowsOf (l : List SlS) : List (List UInt8) := l.map fun s => Pl.rowB s.l
theorem rowsOf_len (l : List SlS) : (rowsOf l).length = l.length := by simp [rowsOf]
theorem rowsOf_take (l : List SlS) (j : Nat) (h : j < l.length) : rowsOf (l.take (j + 1)) = rowsOf (l.take j) ++ [Pl.rowB l[j].l] := by
  unfold rowsOf; rw [List.take_succ_eq_append_getElem h, List.map_append]; rfl

set_option maxRecDepth 100000 in
set_option maxHeartbeats 2000000 in
theorem nests_tail (A : Option Addr) (n c : Nat) (l : List SlS) (w : World) (ha : Rd w 1 A n (l.map SlS.val)) (hok : ∀ s ∈ l, s.Ok w) (hn : n ≤ 30) (hall : ∀ s ∈ l, sumLen s.l ≤ 5000) :
    Calls Try.prog 6 #[.slice A n c] w (RetB (fun v _ => v = .bool true) w) := by
  have hl := ha.len1; rw [List.length_map] at hl
  have hlen : ∀ s ∈ rowsOf l, s.length ≤ 10000 := by
    intro s hs
    obtain ⟨x, hx, rfl⟩ := List.mem_map.1 hs
    have h1 := rowB_le x.l
    have h2 := hall x hx
    show (Pl.rowB x.l).length ≤ 10000
    omega
  have hsum := sumLen_bd 10000 (rowsOf l) hlen
  rw [rowsOf_len, hl] at hsum
  have hsum' : sumLen (rowsOf l) ≤ 300030 := by
    have : n * (10000 + 1) ≤ 30 * (10000 + 1) := Nat.mul_le_mul_right _ hn
    omega
  have hrb := rowB_le (rowsOf l)
  have htx := Pl.texts_rowB (rowsOf l) (fun s hs => by have := hlen s hs; omega)
  have HF := Lib.hid (And.intro hl (And.intro hlen (And.intro htx (And.intro hok hall)))); clear hl hlen htx hok hall hsum
  have HI := Lib.hid info_str
  go_enter Try.func6, Try.ntmps6
  go_wp2_with fail
  (with_reducible refine (alive_any _).mono ?_)
  rintro en w1 ⟨v, rfl, rfl, hb1⟩
  go_wp2_with fail
  go_loopw [3, 19] (fun v i wr => ∃ j : Nat, j ≤ n ∧ i = .int .i64 j ∧ wr.ownsRow w.heap.size 9 1 v j (strs (rowsOf (l.take j))) ∧ Below w.heap.size w wr) (fun _ i _ => n - (intOf i).toNat)
  case atStart => exact ⟨0, Nat.zero_le _, rfl, World.ownsRow_nil _ _ _ _, hb1⟩
  case round =>
    obtain ⟨j, hj, rfl, hown, hbw⟩ := hrel
    by_cases hlt : j < n
    · obtain ⟨b1, o1, rfl, -, hc1⟩ := (ha.below hbw).at1 hlt
      have hjl : j < l.length := by rw [HF.out.1]; exact hlt
      rw [List.getElem?_map, List.getElem?_eq_getElem hjl] at hc1
      have hsn := rowsOf_take l j hjl
      have hok := HF.out.2.2.2.1 l[j] (List.getElem_mem hjl)
      have hal := HF.out.2.2.2.2 l[j] (List.getElem_mem hjl)
      obtain ⟨⟨As, ns, cs, ls⟩, hs⟩ : ∃ s, l[j] = s := ⟨_, rfl⟩
      rw [hs] at hc1 hsn hok hal
      simp only [Option.map_some, SlS.val] at hc1
      simp only at hsn hal
      have hrl : (Pl.rowB ls).length ≤ 10000 := by have := rowB_le ls; omega
      have hld : decide (5000 < sumLen ls) = false := by simpa using hal
      obtain ⟨hor, hon, hos⟩ := hok
      simp only at hor hon hos
      have HS := Lib.hid (And.intro hsn hos); clear hsn hos hs hjl
      go_wp2_with fail
      (with_reducible refine (long_any As ns cs ls _ (hor.below hbw) (by omega) HS.out.2).mono ?_)
      rintro en w2 ⟨rfl, rfl⟩
      rw [hld]
      go_wp2_with fail
      (with_reducible refine (row_any As ns cs ls _ (hor.below hbw) (by omega) (by omega)).mono ?_)
      rintro en w3 ⟨v, rfl, rfl, hb3⟩
      have hown3 := own_below hown hb3
      have hbw3 := hbw.trans (hb3.mono hbw.size)
      go_wp2_with (at_builtin; refine push_one rfl (.tmp 25) (.tmp 28) 22 rfl w.heap.size 9 (.string ⟨#[]⟩) 16 Try.underlying22 HI.out rfl _ _ _ _ _ rfl hown3 rfl rfl (by omega) (by omega) hbw3.size ?_; intro v' w4 hown4 hb4)
      go_roundw
      case rel => exact ⟨j + 1, by omega, by go_num, by rw [HS.out.1, strs_snoc]; exact hown4, hbw3.trans hb4⟩
      case measure => simp [intOf]; omega
    · have hjn : j = n := by omega
      have htk : l.take j = l := List.take_of_length_le (by rw [HF.out.1]; omega)
      rw [htk] at hown
      have HJ := Lib.hid (And.intro hjn htk); clear hjn htk
      obtain ⟨A3, c3, hv3⟩ : ∃ A c, u3 = .slice A j c := by
        rcases hown.2 with ⟨h1, h2⟩ | ⟨g, cap, cur, h1, _⟩
        · exact ⟨none, 0, by rw [h1, h2]⟩
        · exact ⟨_, cap, h1⟩
      subst hv3
      have hr3 := Rd.own hown
      clear hown
      go_wp2_with fail
      (with_reducible refine (row_any A3 j c3 (rowsOf l) _ hr3 (by omega) (by omega)).mono ?_)
      rintro en w2 ⟨v, rfl, rfl, hb2⟩
      have hbw2 := hbw.trans (hb2.mono hbw.size)
      go_wp2_with fail
      (with_reducible refine (texts_at _ (rowsOf l) 0 HF.out.2.2.1 _ (by omega)).mono ?_)
      rintro en w3 ⟨A4, c4, rfl, hr4, -, hb4⟩
      have hbw3 := hbw2.trans (hb4.mono hbw2.size)
      have hlr : (rowsOf l).length = n := by rw [rowsOf_len]; exact HF.out.1
      rw [hlr] at hr4 ⊢
      clear hbw hb2 hbw2 hb4 hr3
      have HLR := Lib.hid hlr; clear hlr
      have hnn : ((n : Int) != n) = false := by simp
      go_wp2_with fail
      go_loopw [48] (fun i wr => ∃ (j : Nat), j ≤ n ∧ i = .int .i64 j ∧ Below w3.heap.size w3 wr) (fun i _ => n - (intOf i).toNat)
      case atStart => exact ⟨0, Nat.zero_le _, rfl, Below.refl _ _⟩
      case round =>
        obtain ⟨i, hi, rfl, hbr⟩ := hrel
        have hbwr := hbw3.trans (hbr.mono hbw3.size)
        by_cases hil : i < n
        · obtain ⟨b1, o1, rfl, -, hc1⟩ := (ha.below hbwr).at1 hil
          obtain ⟨b2, o2, rfl, -, hc2⟩ := (hr4.below hbr).at1 hil
          have hjl : i < l.length := by rw [HF.out.1]; exact hil
          rw [List.getElem?_map, List.getElem?_eq_getElem hjl] at hc1
          rw [strs_get _ i (by rw [HLR.out]; exact hil)] at hc2
          have hok := HF.out.2.2.2.1 l[i] (List.getElem_mem hjl)
          have hal := HF.out.2.2.2.2 l[i] (List.getElem_mem hjl)
          have hri : (rowsOf l)[i]'(by rw [HLR.out]; exact hil) = Pl.rowB l[i].l := by simp [rowsOf]
          rw [hri] at hc2
          obtain ⟨⟨As, ns, cs, ls⟩, hs⟩ : ∃ s, l[i] = s := ⟨_, rfl⟩
          rw [hs] at hc1 hok hal hc2
          simp only [Option.map_some, SlS.val] at hc1
          simp only at hal hc2
          have hrl : (Pl.rowB ls).length ≤ 10000 := by have := rowB_le ls; omega
          have htx := Pl.texts_rowB ls (fun s hs => by have := sumLen_mem ls s hs; omega)
          obtain ⟨hor, hon, hos⟩ := hok
          simp only at hor hon hos
          have hlsn := hor.len1; rw [strs_len] at hlsn
          have HS := Lib.hid (And.intro htx hlsn); clear htx hos hs hjl hri hlsn
          go_wp2_with fail
          (with_reducible refine (texts_at _ ls 0 HS.out.1 _ (by omega)).mono ?_)
          rintro en w5 ⟨A5, c5, rfl, hr5, -, hb5⟩
          have hc3 : w5.cell? ⟨b1, o1 + i, none⟩ = some (.slice As ns cs) := by
            obtain ⟨bb, oo, hAA, hlt, _⟩ := (ha.below hbwr).at1 hil
            injection hAA with hAA
            injection hAA with h1 h2
            subst h1 h2
            exact (hb5.cell (p := ⟨b1, o1 + i, none⟩) hlt).trans hc1
          have hbw5 := hbwr.trans (hb5.mono hbwr.size)
          go_wp2_with fail
          (with_reducible refine (same_any A5 As _ ns c5 cs ls ls _ hr5 (hor.below hbw5) (by rw [HS.out.2]; omega) (by omega)).mono ?_)
          rintro en w6 ⟨rfl, q, rfl⟩
          rw [show decide (ls = ls) = true by simp]
          go_wp2_with fail
          go_roundw
          case rel => exact ⟨i + 1, by omega, by go_num, below_drewN (hbr.trans (hb5.mono hbr.size)) q⟩
          case measure => simp [intOf]; omega
        · go_wp2_with fail
          go_ret
          exact ⟨_, rfl, rfl, hbwr⟩

set_option maxRecDepth 100000 in
set_option maxHeartbeats 2000000 in
theorem nests_long (A : Option Addr) (n c : Nat) (l : List SlS) (w : World) (ha : Rd w 1 A n (l.map SlS.val)) (hok : ∀ s ∈ l, s.Ok w) (hn : n ≤ 30) (p : Nat) (hp : p < l.length) (hlong : 5000 < sumLen l[p].l) (hshort : ∀ i (h : i < l.length), i < p → sumLen l[i].l ≤ 5000) :
    Calls Try.prog 6 #[.slice A n c] w (RetB (fun v _ => v = .bool true) w) := by
  have hl := ha.len1; rw [List.length_map] at hl
  have hpn : p < n := by omega
  have HF := Lib.hid (And.intro hl (And.intro hok (And.intro hlong hshort))); clear hl hok hlong hshort
  have HI := Lib.hid info_str
  go_enter Try.func6, Try.ntmps6
  go_wp2_with fail
  (with_reducible refine (alive_any _).mono ?_)
  rintro en w1 ⟨v, rfl, rfl, hb1⟩
  go_wp2_with fail
  go_loopw [3, 19] (fun v i wr => ∃ j : Nat, j ≤ p ∧ i = .int .i64 j ∧ wr.ownsRow w.heap.size 9 1 v j (strs (rowsOf (l.take j))) ∧ Below w.heap.size w wr) (fun _ i _ => n - (intOf i).toNat)
  case atStart => exact ⟨0, Nat.zero_le _, rfl, World.ownsRow_nil _ _ _ _, hb1⟩
  case round =>
    obtain ⟨j, hj, rfl, hown, hbw⟩ := hrel
    have hlt : j < n := by omega
    obtain ⟨b1, o1, rfl, -, hc1⟩ := (ha.below hbw).at1 hlt
    have hjl : j < l.length := by rw [HF.out.1]; exact hlt
    rw [List.getElem?_map, List.getElem?_eq_getElem hjl] at hc1
    have hsn := rowsOf_take l j hjl
    have hok := HF.out.2.1 l[j] (List.getElem_mem hjl)
    by_cases hjp : j = p
    · have hal : 5000 < sumLen l[j].l := by
        have := HF.out.2.2.1
        have e : l[j] = l[p] := by congr 1
        rw [e]; exact this
      obtain ⟨⟨As, ns, cs, ls⟩, hs⟩ : ∃ s, l[j] = s := ⟨_, rfl⟩
      rw [hs] at hc1 hok hal
      simp only [Option.map_some, SlS.val] at hc1
      simp only at hal
      have hld : decide (5000 < sumLen ls) = true := by simpa using hal
      obtain ⟨hor, hon, hos⟩ := hok
      simp only at hor hon hos
      have HS := Lib.hid hos; clear hos hs hjl hsn hjp
      go_wp2_with fail
      (with_reducible refine (long_any As ns cs ls _ (hor.below hbw) (by omega) HS.out).mono ?_)
      rintro en w2 ⟨rfl, rfl⟩
      rw [hld]
      go_wp2_with fail
      go_ret
      exact ⟨_, rfl, rfl, hbw⟩
    · have hal := HF.out.2.2.2 j hjl (by omega)
      obtain ⟨⟨As, ns, cs, ls⟩, hs⟩ : ∃ s, l[j] = s := ⟨_, rfl⟩
      rw [hs] at hc1 hsn hok hal
      simp only [Option.map_some, SlS.val] at hc1
      simp only at hsn hal
      have hrl : (Pl.rowB ls).length ≤ 10000 := by have := rowB_le ls; omega
      have hld : decide (5000 < sumLen ls) = false := by simpa using hal
      obtain ⟨hor, hon, hos⟩ := hok
      simp only at hor hon hos
      have HS := Lib.hid (And.intro hsn hos); clear hsn hos hs hjl
      go_wp2_with fail
      (with_reducible refine (long_any As ns cs ls _ (hor.below hbw) (by omega) HS.out.2).mono ?_)
      rintro en w2 ⟨rfl, rfl⟩
      rw [hld]
      go_wp2_with fail
      (with_reducible refine (row_any As ns cs ls _ (hor.below hbw) (by omega) (by omega)).mono ?_)
      rintro en w3 ⟨v, rfl, rfl, hb3⟩
      have hown3 := own_below hown hb3
      have hbw3 := hbw.trans (hb3.mono hbw.size)
      go_wp2_with (at_builtin; refine push_one rfl (.tmp 25) (.tmp 28) 22 rfl w.heap.size 9 (.string ⟨#[]⟩) 16 Try.underlying22 HI.out rfl _ _ _ _ _ rfl hown3 rfl rfl (by omega) (by omega) hbw3.size ?_; intro v' w4 hown4 hb4)
      go_roundw
      case rel => exact ⟨j + 1, by omega, by go_num, by rw [HS.out.1, strs_snoc]; exact hown4, hbw3.trans hb4⟩
      case measure => simp [intOf]; omega

theorem first_long : ∀ (l : List SlS), (∀ s ∈ l, sumLen s.l ≤ 5000) ∨ ∃ p, ∃ hp : p < l.length, 5000 < sumLen l[p].l ∧ ∀ i (h : i < l.length), i < p → sumLen l[i].l ≤ 5000
  | [] => .inl (by simp)
  | s :: l => by
    by_cases h : sumLen s.l ≤ 5000
    · rcases first_long l with h1 | ⟨p, hp, h1, h2⟩
      · left; intro x hx
        rcases List.mem_cons.1 hx with rfl | hx
        · exact h
        · exact h1 x hx
      · right
        refine ⟨p + 1, by simpa using hp, by simpa using h1, fun i hi hip => ?_⟩
        cases i with
        | zero => exact h
        | succ i => simpa using h2 i (by simpa using hi) (by omega)
    · right; exact ⟨0, by simp, by simp; omega, fun i hi hip => by omega⟩

set_option maxRecDepth 100000 in
set_option maxHeartbeats 2000000 in
theorem numNests_walk (A : Option Addr) (n c : Nat) (l : List SlS) (w : World) (ha : Rd w 1 A n (l.map SlS.val) ∧ n ≤ 140737488355328) (hok : ∀ s ∈ l, s.Ok w) :
    Calls Try.prog 6 #[.slice A n c] w (RetB (fun v _ => v = .bool true) w) := by
  obtain ⟨ha, hnn⟩ := ha
  by_cases hn : n ≤ 30
  · rcases first_long l with h | ⟨p, hp, h1, h2⟩
    · exact nests_tail A n c l w ha hok hn h
    · exact nests_long A n c l w ha hok hn p hp h1 h2
  · have HO := Lib.hid hok; clear hok
    go_enter Try.func6, Try.ntmps6
    go_wp2_with fail
    (with_reducible refine (alive_any _).mono ?_)
    rintro en w1 ⟨v, rfl, rfl, hb1⟩
    go_wp2_with fail
    go_ret
    exact ⟨_, rfl, rfl, hb1⟩

set_option maxRecDepth 100000 in
theorem numNests_lifted (os : Os) (started : os.Started) (H : Type) (enc : TypeId × Value → H) :
    ReturnsInHanded {} Try.checked os 6 .any (Rows.numNestsSpec.pre6 enc Try.prog Try.f6 Rows.numNestsRow.domain false) (Rows.numNestsSpec.post enc Try.prog Try.f6 false true false false) := by
  refine returnsInHanded_of_change_sized (C := Try.checked) own started (by kernel_rfl) Try.func6
    (ChangeSpec.witness6 (enc := enc) (C := Try.checked) false ⟨#[], #[.slice none 0 0], []⟩ 8 (by kernel_rfl) (by kernel_rfl) (by kernel_rfl) (by kernel_rfl)) ?_
  intro W base args ds gs before hval0 hW hcnd hsz0 _
  have hval : ∀ (j : Nat) t v, Try.f6.params[j]? = some t → args[j]? = some v → Value.okWide Try.prog W .any base t v := hval0
  have hW' := hW
  obtain ⟨p, q, hA0, hV, rfl, hfz, hnd⟩ := hW
  have hA : DataW.TrodAll enc Try.prog W 0 (fun _ => true) true Try.f6.params.toList args.toList ds p := hA0
  have hsz : (DataW.weightsEach Try.prog (Try.f6.params.toList ++ Rows.numNestsSpec.plain.varTypes Try.prog) (ds ++ gs)).all (· ≤ reachBytes) = true := hsz0
  rw [Try.params6] at hA hval hsz
  obtain ⟨v0, vs0, d0, ds0, p0, q0, hargs, rfl, rfl, h0, r0⟩ := trodAll_cons hA
  obtain ⟨rfl, rfl, rfl⟩ := trodAll_nil r0
  obtain rfl : args = #[v0] := by cases args; simp_all
  obtain ⟨rfl, rfl⟩ := trodVars_none hV
  have k0 := h0
  have lt0 : ∀ x ∈ p0, x.block < W.heap.size := by obtain ⟨m, hm⟩ := k0; exact DataW.trod_lt m _ _ _ hm
  have hz0 : ∀ m ∈ d0.weights Try.prog 34, m ≤ reachBytes := fun m hm => by
    have h1 := List.all_eq_true.1 hsz m (DataW.weights_mem_each (j := 0) rfl rfl m hm)
    simpa using h1
  obtain ⟨A0, n0, c0, l0, rfl, eA0, eB0⟩ := open_strs2 (hval 0 34 v0 rfl rfl) h0 hz0
  clear hA0 hval0 hsz0
  refine (numNests_walk A0 n0 c0 l0 W eA0 eB0).mono fun e W' ⟨v, he, hv, bel⟩ => ?_
  subst he hv
  exact ⟨_, rfl, _, _, _, [], _, [], hW', trodAll_mk1 (shut_bool Try.underlying4 _), (trodAll_cons_mk (Below.trod laidOut (by kernel_rfl) (of_decide_eq_true (by kernel_rfl)) k0 bel lt0) trodAll_mk0), rfl, bel.frame _, fun h => by cases h⟩

theorem numNests_holds : Rows.NumNestsSaid :=
  OpenClaim.holds_of_wide 6 Try.f6 rfl rfl rfl rfl rfl rfl rfl ⟨rfl, rfl, rfl, rfl, rfl⟩ rfl rfl rfl rfl rfl (by kernel_rfl) Try.func6 (by kernel_rfl)
    (of_decide_eq_true (by kernel_rfl)) (by unfold Func.isWrapper; first | (rw [if_pos (by decide +kernel)]; kernel_rfl) | (rw [if_neg (by decide +kernel)]; exact ⟨rfl, rfl⟩))
    (fun os started H enc _ => numNests_lifted os started H enc)
#print axioms numNests_holds
end Go.Proofs.Ytplhmhclcfclhaa
