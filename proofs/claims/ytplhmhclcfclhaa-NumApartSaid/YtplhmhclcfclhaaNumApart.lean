/- NumApart: for every two lists of texts and every cut the statement returns true, and nothing that was there has turned. No condition. -/
import Derived.Test.YtplhmhclcfclhaaNumAl
import Derived.Test.YtplhmhclcfclhaaNumLaw
import Derived.Test.YtplhmhclcfclhaaOpen
namespace Go.Proofs.Ytplhmhclcfclhaa
open Go.ChangeShapes Go.WideShapes Go.ChangeAt Go.RowKit
attribute [local go_sem] ba_get ba_cut ba_add
attribute [local go_sem] List.drop_zero Nat.sub_zero
set_option linter.unusedVariables false

theorem strs_one (l : List (List UInt8)) : ∀ u ∈ strs l, u.oneCell' = true := by
  intro u hu
  obtain ⟨s, _, rfl⟩ := List.mem_map.1 hu
  rfl
theorem strs_append (l k : List (List UInt8)) : strs (l ++ k) = strs l ++ strs k := by simp [strs]
theorem sumLen_append (l k : List (List UInt8)) : sumLen (l ++ k) = sumLen l + sumLen k := by
  induction l with
  | nil => simp [sumLen]
  | cons x l ih => simp [sumLen, ih]; omega

set_option maxRecDepth 100000 in
set_option maxHeartbeats 2000000 in
theorem numApart_walk (A : Option Addr) (n c : Nat) (l : List (List UInt8)) (B : Option Addr) (m d : Nat) (k : List (List UInt8)) (cut : Nat) (w : World)
    (ha : Rd w 1 A n (strs l)) (hn : n ≤ 140737488355328) (hs : ∀ s ∈ l, s.length ≤ 140737488355328) (hA : A = none → c = 0)
    (hb : Rd w 1 B m (strs k)) (hm : m ≤ 140737488355328) (hk : ∀ s ∈ k, s.length ≤ 140737488355328) (hB : B = none → d = 0) (hcut : cut < 65536) :
    Calls Try.prog 5 #[.slice A n c, .slice B m d, .int .u16 cut] w (RetB (fun v _ => v = .bool true) w) := by
  have HS := Lib.hid (And.intro hs hk); clear hs hk
  have HA := Lib.hid (And.intro hA hB); clear hA hB
  by_cases hl1 : 5000 < sumLen l
  · have hd : decide (5000 < sumLen l) = true := by simpa using hl1
    go_enter Try.func5, Try.ntmps5
    go_wp2_with fail
    (with_reducible refine (alive_any _).mono ?_)
    rintro en w1 ⟨v, rfl, rfl, hb1⟩
    go_wp2_with fail
    (with_reducible refine (long_any A n c l _ (ha.below hb1) (by omega) HS.out.1).mono ?_)
    rintro en w2 ⟨rfl, rfl⟩
    rw [hd]
    go_wp2_with fail
    go_ret
    exact ⟨_, rfl, rfl, hb1⟩
  by_cases hl2 : 5000 < sumLen k
  · have hd : decide (5000 < sumLen l) = false := by simpa using hl1
    have hd2 : decide (5000 < sumLen k) = true := by simpa using hl2
    go_enter Try.func5, Try.ntmps5
    go_wp2_with fail
    (with_reducible refine (alive_any _).mono ?_)
    rintro en w1 ⟨v, rfl, rfl, hb1⟩
    go_wp2_with fail
    (with_reducible refine (long_any A n c l _ (ha.below hb1) (by omega) HS.out.1).mono ?_)
    rintro en w2 ⟨rfl, rfl⟩
    rw [hd]
    go_wp2_with fail
    (with_reducible refine (long_any B m d k _ (hb.below hb1) (by omega) HS.out.2).mono ?_)
    rintro en w2 ⟨rfl, rfl⟩
    rw [hd2]
    go_wp2_with fail
    go_ret
    exact ⟨_, rfl, rfl, hb1⟩
  have hd : decide (5000 < sumLen l) = false := by simpa using hl1
  have hd2 : decide (5000 < sumLen k) = false := by simpa using hl2
  have hsl : ∀ s ∈ l, s.length < 268435456 := fun s hs => by have := sumLen_mem l s hs; omega
  have hsk : ∀ s ∈ k, s.length < 268435456 := fun s hs => by have := sumLen_mem k s hs; omega
  have hx := rowB_le l
  have hy := rowB_le k
  have hnl : n ≤ 5000 := by have h1 := ha.len1; rw [strs_len] at h1; have := sumLen_length l; omega
  have hml : m ≤ 5000 := by have h1 := hb.len1; rw [strs_len] at h1; have := sumLen_length k; omega
  have hiff : (Pl.rowB l == Pl.rowB k) = decide (l = k) := by
    by_cases h : l = k
    · subst h; simp
    · have : Pl.rowB l ≠ Pl.rowB k := fun h' => h (Pl.rowB_inj l k hsl hsk h')
      simp [h, this]
  have happ := Pl.rowB_append l k
  have hsum := sumLen_append l k
  have HP := Lib.hid (And.intro hsl (And.intro hiff (And.intro happ hsum))); clear hsl hsk hiff happ hsum
  obtain ⟨x, hxe⟩ : ∃ x, Pl.rowB l = x := ⟨_, rfl⟩
  obtain ⟨y, hye⟩ : ∃ y, Pl.rowB k = y := ⟨_, rfl⟩
  rw [hxe] at hx; rw [hye] at hy
  have HXY := Lib.hid (And.intro hxe hye); clear hxe hye
  have HI := Lib.hid info_str
  go_enter Try.func5, Try.ntmps5
  go_wp2_with fail
  (with_reducible refine (alive_any _).mono ?_)
  rintro en w1 ⟨v, rfl, rfl, hb1⟩
  go_wp2_with fail
  (with_reducible refine (long_any A n c l _ (ha.below hb1) (by omega) HS.out.1).mono ?_)
  rintro en w2 ⟨rfl, rfl⟩
  rw [hd]
  go_wp2_with fail
  (with_reducible refine (long_any B m d k _ (hb.below hb1) (by omega) HS.out.2).mono ?_)
  rintro en w2 ⟨rfl, rfl⟩
  rw [hd2]
  go_wp2_with fail
  (with_reducible refine (row_any A n c l _ (ha.below hb1) (by omega) (by omega)).mono ?_)
  rintro en w2 ⟨v, rfl, rfl, hb2⟩
  rw [HXY.out.1]
  have hb12 := hb1.trans (hb2.mono hb1.size)
  go_wp2_with fail
  (with_reducible refine (row_any B m d k _ (hb.below hb12) (by omega) (by omega)).mono ?_)
  rintro en w3 ⟨v, rfl, rfl, hb3⟩
  rw [HXY.out.2]
  have hb13 := hb12.trans (hb3.mono hb12.size)
  clear hb1 hb2 hb12 hb3
  have hown0 : (w3.alloc (.cells #[] 9)).ownsRow w.heap.size 9 1 (.slice (some ⟨w3.heap.size, 0, none⟩) 0 0) 0 [] := World.ownsRow_made _ _ _ hb13.size (by simp [maxLen]) (by simp)
  have hbA : Below w.heap.size w (w3.alloc (.cells #[] 9)) := hb13.alloc hb13.size _
  go_wp2_with (first
    | (at_builtin; refine push_many rfl (.tmp 24) (.tmp 25) 22 rfl w.heap.size 9 (.string ⟨#[]⟩) 1 16 Try.underlying22 HI.out rfl (by decide) _ _ _ _ A n c (strs l) rfl hown0 rfl (ha.below hbA) HA.out.1 (strs_one l) (by omega) (by omega) hbA.size ?_; intro v' w4 hown4 hb4)
    | (at_builtin; refine push_many rfl (.tmp 26) (.tmp 27) 22 rfl w.heap.size 9 (.string ⟨#[]⟩) 1 16 Try.underlying22 HI.out rfl (by decide) _ _ _ _ B m d (strs k) rfl hown4 rfl (hb.below (hbA.trans hb4)) HA.out.2 (strs_one k) (by omega) (by omega) (hbA.trans hb4).size ?_; intro v'' w5 hown5 hb5))
  have hown6 : w5.ownsRow w.heap.size 9 1 v'' (n + m) (strs (l ++ k)) := by rw [strs_append]; simpa using hown5
  obtain ⟨A5, c5, hv5⟩ : ∃ A c, v'' = .slice A (n + m) c := by
    rcases hown6.2 with ⟨h1, h2⟩ | ⟨g, cap, cur, h1, _⟩
    · exact ⟨none, 0, by rw [h1, h2]⟩
    · exact ⟨_, cap, h1⟩
  rw [hv5] at hown6
  rw [hv5]
  have hr6 := Rd.own hown6
  clear hown6 hown5 hown4 hown0 hv5
  have hbF := (hbA.trans hb4).trans hb5
  clear hbA hb4 hb5 hb13
  have hxy : (x == y) = decide (l = k) := by rw [← HP.out.2.1, HXY.out.1, HXY.out.2]
  obtain ⟨β, hβ⟩ : ∃ β, decide (l = k) = β := ⟨_, rfl⟩
  rw [hβ] at hxy
  have Hβ := Lib.hid hβ; clear hβ
  have hββ : (β != β) = false := by simp
  (with_reducible refine (same_any A B n m c d l k _ (ha.below hbF) (hb.below hbF) (by omega) (by omega)).mono ?_)
  rintro en w6 ⟨rfl, q, rfl⟩
  rw [Hβ.out]
  replace hr6 := hr6.drewN q
  replace hbF := below_drewN hbF q
  go_wp2_with fail
  (with_reducible refine (row_any A5 (n + m) c5 (l ++ k) _ hr6 (by omega) (by rw [HP.out.2.2.2]; omega)).mono ?_)
  rintro en w7 ⟨v, rfl, rfl, hb7⟩
  rw [HP.out.2.2.1, HXY.out.1, HXY.out.2]
  have hbG := hbF.trans (hb7.mono hbF.size)
  by_cases hx0 : x = []
  · have hl0 : l = [] := Pl.rowB_nil l (by rw [HXY.out.1, hx0])
    have hn0 : n = 0 := by have h1 := ha.len1; rw [strs_len, hl0] at h1; simpa using h1.symm
    subst hx0 hn0
    go_wp2_with fail
    go_ret
    exact ⟨_, rfl, rfl, hbG⟩
  · have hxp : 0 < x.length := List.length_pos_iff.2 hx0
    have hxn : ((x.length : Int) == 0) = false := by simp; omega
    have hcutj : cut % x.length < x.length := Nat.mod_lt _ hxp
    obtain ⟨j, hj⟩ : ∃ j, cut % x.length = j := ⟨_, rfl⟩
    rw [hj] at hcutj
    have hji : (cut : Int) % x.length = j := by rw [← hj]; simp
    have HX := Lib.hid hx0; clear hx0
    have HJ := Lib.hid hj; clear hj
    have htx := Pl.texts_cut l j j [] HP.out.1 (by rw [HXY.out.1]; exact hcutj) (Nat.le_refl _)
    rw [HXY.out.1] at htx
    have hlenj : (x.take j).length = j := by rw [List.length_take]; omega
    obtain ⟨t, ht⟩ : ∃ t, x.take j = t := ⟨_, rfl⟩
    rw [ht] at htx hlenj
    have hte : Pl.texts t = Pl.textsA j t [] := by unfold Pl.texts; rw [hlenj]
    have htl : t.length ≤ 10000 := by omega
    have HT := Lib.hid hlenj; clear hlenj
    rcases htx with htx | ⟨l', htx, hlt⟩
    · have h1 : Pl.texts t = ([], 4) := by rw [hte, htx]
      have H1 := Lib.hid h1; clear h1 hte htx
      go_wp2_with fail
      (with_reducible refine (texts_at t [] 4 H1.out _ (by omega)).mono ?_)
      rintro en w8 ⟨A8, c8, rfl, -, -, hb8⟩
      go_wp2_with fail
      go_ret
      exact ⟨_, rfl, rfl, hbG.trans (hb8.mono hbG.size)⟩
    · have h1 : Pl.texts t = (l', 0) := by rw [hte, htx]; simp
      have hln : l'.length < n := by have h2 := ha.len1; rw [strs_len] at h2; omega
      have H1 := Lib.hid h1; clear h1 hte htx hlt
      go_wp2_with fail
      (with_reducible refine (texts_at t l' 0 H1.out _ (by omega)).mono ?_)
      rintro en w8 ⟨A8, c8, rfl, -, -, hb8⟩
      go_wp2_with fail
      go_ret
      exact ⟨_, rfl, rfl, hbG.trans (hb8.mono hbG.size)⟩

set_option maxRecDepth 100000 in
theorem numApart_lifted (os : Os) (started : os.Started) (H : Type) (enc : TypeId × Value → H) :
    ReturnsInHanded {} Try.checked os 5 .any (Rows.numApartSpec.pre6 enc Try.prog Try.f5 Rows.numApartRow.domain false) (Rows.numApartSpec.post enc Try.prog Try.f5 false true false false) := by
  refine returnsInHanded_of_change_sized (C := Try.checked) own started (by kernel_rfl) Try.func5
    (ChangeSpec.witness6 (enc := enc) (C := Try.checked) false ⟨#[], #[.slice none 0 0, .slice none 0 0, .int .u16 0], []⟩ 8 (by kernel_rfl) (by kernel_rfl) (by kernel_rfl) (by kernel_rfl)) ?_
  intro W base args ds gs before hval0 hW hcnd hsz0 _
  have hval : ∀ (j : Nat) t v, Try.f5.params[j]? = some t → args[j]? = some v → Value.okWide Try.prog W .any base t v := hval0
  have hW' := hW
  obtain ⟨p, q, hA0, hV, rfl, hfz, hnd⟩ := hW
  have hA : DataW.TrodAll enc Try.prog W 0 (fun _ => true) true Try.f5.params.toList args.toList ds p := hA0
  have hsz : (DataW.weightsEach Try.prog (Try.f5.params.toList ++ Rows.numApartSpec.plain.varTypes Try.prog) (ds ++ gs)).all (· ≤ reachBytes) = true := hsz0
  rw [Try.params5] at hA hval hsz
  obtain ⟨v0, vs0, d0, ds0, p0, q0, hargs, rfl, rfl, h0, r0⟩ := trodAll_cons hA
  obtain ⟨v1, vs1, d1, ds1, p1, q1, rfl, rfl, rfl, h1, r1⟩ := trodAll_cons r0
  obtain ⟨v2, vs2, d2, ds2, p2, q2, rfl, rfl, rfl, h2, r2⟩ := trodAll_cons r1
  obtain ⟨rfl, rfl, rfl⟩ := trodAll_nil r2
  obtain rfl : args = #[v0, v1, v2] := by cases args; simp_all
  obtain ⟨rfl, rfl⟩ := trodVars_none hV
  have k0 := h0
  have lt0 : ∀ x ∈ p0, x.block < W.heap.size := by obtain ⟨m, hm⟩ := k0; exact DataW.trod_lt m _ _ _ hm
  have hz0 : ∀ m ∈ d0.weights Try.prog 22, m ≤ reachBytes := fun m hm => by
    have h1 := List.all_eq_true.1 hsz m (DataW.weights_mem_each (j := 0) rfl rfl m hm)
    simpa using h1
  obtain ⟨A0, n0, c0, l0, rfl, eA0, eB0, eC0, eD0, eE0, eF0⟩ := open_strs (hval 0 22 v0 rfl rfl) h0 hz0
  have k1 := h1
  have lt1 : ∀ x ∈ p1, x.block < W.heap.size := by obtain ⟨m, hm⟩ := k1; exact DataW.trod_lt m _ _ _ hm
  have hz1 : ∀ m ∈ d1.weights Try.prog 22, m ≤ reachBytes := fun m hm => by
    have h1 := List.all_eq_true.1 hsz m (DataW.weights_mem_each (j := 1) rfl rfl m hm)
    simpa using h1
  obtain ⟨A1, n1, c1, l1, rfl, eA1, eB1, eC1, eD1, eE1, eF1⟩ := open_strs (hval 1 22 v1 rfl rfl) h1 hz1
  have k2 := h2
  have lt2 : ∀ x ∈ p2, x.block < W.heap.size := by obtain ⟨m, hm⟩ := k2; exact DataW.trod_lt m _ _ _ hm
  have hz2 : ∀ m ∈ d2.weights Try.prog 32, m ≤ reachBytes := fun m hm => by
    have h1 := List.all_eq_true.1 hsz m (DataW.weights_mem_each (j := 2) rfl rfl m hm)
    simpa using h1
  obtain ⟨x2, rfl, eA2⟩ := open_u16 (hval 2 32 v2 rfl rfl) h2 hz2
  clear hA0 hval0 hsz0
  refine (numApart_walk A0 n0 c0 l0 A1 n1 c1 l1 x2 W eA0 (Nat.le_trans eD0 reach_le) (fun s hs => Nat.le_trans (eE0 s hs) reach_le) eF0 eA1 (Nat.le_trans eD1 reach_le) (fun s hs => Nat.le_trans (eE1 s hs) reach_le) eF1 eA2).mono fun e W' ⟨v, he, hv, bel⟩ => ?_
  subst he hv
  exact ⟨_, rfl, _, _, _, [], _, [], hW', trodAll_mk1 (shut_bool Try.underlying4 _), (trodAll_cons_mk (Below.trod laidOut (by kernel_rfl) (of_decide_eq_true (by kernel_rfl)) k0 bel lt0) (trodAll_cons_mk (Below.trod laidOut (by kernel_rfl) (of_decide_eq_true (by kernel_rfl)) k1 bel lt1) (trodAll_cons_mk (Below.trod laidOut (by kernel_rfl) (of_decide_eq_true (by kernel_rfl)) k2 bel lt2) trodAll_mk0))), rfl, bel.frame _, fun h => by cases h⟩

theorem numApart_holds : Rows.NumApartSaid :=
  OpenClaim.holds_of_wide 5 Try.f5 rfl rfl rfl rfl rfl rfl rfl ⟨rfl, rfl, rfl, rfl, rfl⟩ rfl rfl rfl rfl rfl (by kernel_rfl) Try.func5 (by kernel_rfl)
    (of_decide_eq_true (by kernel_rfl)) (by unfold Func.isWrapper; first | (rw [if_pos (by decide +kernel)]; kernel_rfl) | (rw [if_neg (by decide +kernel)]; exact ⟨rfl, rfl⟩))
    (fun os started H enc _ => numApart_lifted os started H enc)
#print axioms numApart_holds
end Go.Proofs.Ytplhmhclcfclhaa
