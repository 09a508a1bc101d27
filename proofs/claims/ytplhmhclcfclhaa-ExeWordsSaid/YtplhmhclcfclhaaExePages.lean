/- ExePages: for every program the statement returns true, and nothing that was there has turned. No condition. -/
import Derived.Test.YtplhmhclcfclhaaExeLays
import Derived.Test.YtplhmhclcfclhaaPagesPlain
namespace Go.Proofs.Ytplhmhclcfclhaa
open Go.ChangeShapes Go.WideShapes Go.ChangeAt Go.RowKit
set_option linter.unusedVariables false
attribute [local go_sem] ba_get ba_cut ba_add

theorem quiet_retA {P : Program} {f : FuncId} {args : Array Value} {w : World} {a n : Nat} {v : Value} (h : Calls P f args (w.drewN (a + n)) (Ret v (w.drewN (a + n)))) :
    Calls P f args (w.drewN (a + n)) fun e w'' => e = .returned v ∧ ∃ m, w'' = w.drewN (a + m) :=
  h.mono fun _ _ ⟨he, hm⟩ => ⟨he, n, hm.symm⟩
theorem chk_pages {x : Pl.Exe} (h : Pl.chk x = 0) : Pl.PagesOk x (Pl.lays x) := by
  obtain ⟨g1, g2, g3, g4, g5, g6, g7, g8⟩ := chk_ok h
  refine Pl.pagesOk x g3 ?_
  unfold Pl.pagesN at g8
  unfold Pl.pgs
  omega

set_option maxRecDepth 100000 in
set_option maxHeartbeats 1000000 in
theorem exePages_walk (A : Option Addr) (c : Nat) (x : Pl.Exe) (w : World) (ha : Rd w 1 A x.text.length (u32s x.text)) (hx : ExeOk x) (ht : ∀ y ∈ x.text, y < 4294967296) :
    Calls Try.prog 9 #[exeV A c x] w (RetB (fun v _ => v = .bool true) w) := by
  have hgr := great_any A c x
  have hrc := rcheck_any A c x
  have hla := lay_any A c x
  obtain ⟨k, hk⟩ : ∃ k, Pl.chk x = k := ⟨_, rfl⟩
  have hpo : k = 0 → Pl.PagesOk x (Pl.lays x) := fun h => chk_pages (hk.trans h)
  have hck0 : k = 0 → x.text.length ≤ 448 ∧ 0 ≤ x.room ∧ x.room ≤ 1792 ∧ x.data.length ≤ 1792 := fun h => by
    obtain ⟨g1, g2, g3, g4, g5, -, -, -⟩ := chk_ok (hk.trans h)
    exact ⟨g2, g3, g4, g5⟩
  obtain ⟨L, hL⟩ : ∃ L, Pl.lays x = L := ⟨_, rfl⟩
  have hlo : k = 0 → ∀ v W, LayOut x v W → ∃ A c, v = .tuple #[.slice A L.length c, .int .i64 0] ∧ Rd W 3 A L.length (layCs L) := by
    intro h0 v W h
    unfold LayOut at h
    rw [hk, h0] at h
    simp only [if_true, hL] at h
    exact h
  rw [hL] at hpo
  rw [hk] at hrc
  obtain ⟨gb, hgb⟩ : ∃ g, great x = g := ⟨_, rfl⟩
  have hu := fun i h => u32s_get x.text i h
  obtain ⟨t, d, room, entry⟩ := x
  have hev : exeV A c ⟨t, d, room, entry⟩ = .agg #[.slice A t.length c, .string ⟨d.toArray⟩, .int .i64 room, .int .u32 (entry : Int)] := rfl
  rw [hev] at hgr hla hrc ⊢
  rw [hgb] at hgr
  simp only at hck0
  have HF := Lib.hid (And.intro hgr (And.intro hla (And.intro hrc (And.intro hlo (And.intro hx ht))))); clear hgr hla hrc hlo hx ht hL hk hgb hev
  have HP := Lib.hid (And.intro hpo hu); clear hpo hu
  simp only at ha
  obtain ⟨n, hn⟩ : ∃ n, t.length = n := ⟨_, rfl⟩
  rw [hn] at ha hck0 ⊢
  have HN := Lib.hid hn; clear hn
  have hnn : n ≤ 140737488355328 := by rw [← HN.out]; exact HF.out.2.2.2.2.1.n
  go_enter Try.func9, Try.ntmps9
  go_wp2_with fail
  have hq := HF.out.1 (w.alloc (.cells #[.slice A n c, .string ⟨d.toArray⟩, .int .i64 room, .int .u32 (entry : Int)] 43)) HF.out.2.2.2.2.1.n
  rw [HN.out] at hq
  (with_reducible refine Calls.mono hq ?_)
  rintro e w1 ⟨v, rfl, rfl, hb1⟩
  clear hq
  have hbw1 : Below w.heap.size w w1 := ((Below.refl _ _).alloc (Nat.le_refl _) _).trans (hb1.mono (by simp))
  have hbox := (Box4.new w (.slice A n c) (.string ⟨d.toArray⟩) (.int .i64 room) (.int .u32 (entry : Int)) 43).keep hb1 (by simp)
  have hsz : w.heap.size < w1.heap.size := by have := hb1.size; simp at this; omega
  have ha1 := ha.below hbw1
  clear hb1
  cases gb
  · obtain ⟨hc0, hc1, hc2, hc3⟩ := id hbox
    go_wp2_with fail
    have hq := HF.out.2.2.1 w1 HF.out.2.2.2.2.1
    rw [HN.out] at hq
    (with_reducible refine Calls.mono hq ?_)
    rintro e w2 ⟨v, rfl, rfl, hb2⟩
    clear hq hc0 hc1 hc2 hc3
    have hbox2 := hbox.keep hb2 hsz
    have hsz2 : w.heap.size < w2.heap.size := Nat.lt_of_lt_of_le hsz hb2.size
    have hbw2 := hbw1.trans (hb2.mono hbw1.size)
    have ha2 := ha1.below hb2
    clear hbox hsz hbw1 ha1 hb2
    by_cases hk0 : k = 0
    · have hkk : ((k : Int) != 0) = false := by subst hk0; rfl
      obtain ⟨hc0, hc1, hc2, hc3⟩ := id hbox2
      go_wp2_with fail
      have hq := HF.out.2.1 w2 HF.out.2.2.2.2.1 (by rw [HN.out]; exact ha2) HF.out.2.2.2.2.2
      rw [HN.out] at hq
      (with_reducible refine Calls.mono hq ?_)
      rintro e w3 ⟨v, rfl, hlo, hb3⟩
      clear hq hc0 hc1 hc2 hc3
      obtain ⟨A3, c3, rfl, hr3⟩ := HF.out.2.2.2.1 hk0 _ _ hlo
      clear hlo
      obtain ⟨hc0, hc1, hc2, hc3⟩ := hbox2.keep hb3 hsz2
      have hbw3 := hbw2.trans (hb3.mono hbw2.size)
      have ha3 := ha2.below hb3
      clear hbox2 hsz2 hbw2 ha2 hb3
      have HO := Lib.hid (HP.out.1 hk0)
      obtain ⟨g1, g2, g3, g4⟩ := hck0 hk0
      clear hck0
      have hL15 : L.length ≤ 15 := HO.out.len
      go_wp2_with fail
      go_loopw [5, 6, 7] (fun s5 s6 i wr => ∃ (j q : Nat), j ≤ L.length ∧ s5 = .string ⟨(Pl.textOf (L.take j)).toArray⟩ ∧ s6 = .string ⟨(Pl.dataOf (L.take j)).toArray⟩ ∧ i = .int .i64 j ∧ wr = w3.drewN q) (fun _ _ i _ => L.length - (intOf i).toNat)
      case atStart => exact ⟨0, 0, by omega, rfl, rfl, rfl, rfl⟩
      case round =>
        obtain ⟨j, q, hj, rfl, rfl, rfl, rfl⟩ := hrel
        obtain ⟨hTl, hDl⟩ := Pl.take_le L HO.out.page j hj
        by_cases hlt : j < L.length
        · have hst := Pl.textOf_take L j hlt
          have hsd := Pl.dataOf_take L j hlt
          have hpg := Pl.mem_at L _ HO.out.page j hlt
          obtain ⟨T, hT⟩ : ∃ T, Pl.textOf (L.take j) = T := ⟨_, rfl⟩
          obtain ⟨D, hD⟩ : ∃ D, Pl.dataOf (L.take j) = D := ⟨_, rfl⟩
          rw [hT] at hst hTl ⊢
          rw [hD] at hsd hDl ⊢
          clear hT hD
          have hup : ∀ i, i < j → ∀ h, (L[i]'h).at_ < L[j].at_ := fun i hi h => HO.out.up i j h hlt hi
          have hrr := hr3
          obtain ⟨b3, o3, rfl, -, p30, p31, p32⟩ := hr3.lay rfl hlt
          obtain ⟨⟨la, ld, lw⟩, hlj⟩ : ∃ y, L[j] = y := ⟨_, rfl⟩
          rw [hlj] at p30 p31 p32 hst hsd hpg hup
          simp only at p30 p31 p32 hst hsd hpg hup
          clear hlj
          have HS := Lib.hid (And.intro hst hsd); clear hst hsd
          have hne : ((ld.length : Int) != 128) = false := by rw [hpg]; rfl
          have hTD : ¬ 9223372036854775807 < T.length + ld.length := by omega
          have hDD : ¬ 9223372036854775807 < D.length + ld.length := by omega
          clear hpg
          by_cases hj0 : j = 0
          · have hj0' : decide ((0 : Int) < (j : Int)) = false := by subst hj0; rfl
            have hj0'' : decide (0 < j) = false := by subst hj0; rfl
            clear hj0
            go_wp2_with fail
            go_quiet (fail)
            cases lw
            · go_wp2_with fail
              go_roundw
              case rel => exact ⟨j + 1, _, by omega, by rw [HS.out.1]; rfl, by rw [HS.out.2]; simp, by go_num, rfl⟩
              case measure => simp [intOf]; omega
            · go_wp2_with fail
              go_roundw
              case rel => exact ⟨j + 1, _, by omega, by rw [HS.out.1]; simp, by rw [HS.out.2]; rfl, by go_num, rfl⟩
              case measure => simp [intOf]; omega
          · obtain ⟨i, rfl⟩ : ∃ i, j = i + 1 := ⟨j - 1, by omega⟩
            have hj0' : decide ((0 : Int) < ((i + 1 : Nat) : Int)) = true := decide_eq_true (by omega)
            obtain ⟨b4, o4, he4, -, p40, -, -⟩ := hrr.lay rfl (i := i) (by omega)
            cases he4
            have hle : decide (la ≤ (L[i]'(by omega)).at_) = false := decide_eq_false (Int.not_le.2 (hup i (by omega) (by omega)))
            obtain ⟨lp, hlp⟩ : ∃ y, (L[i]'(by omega)).at_ = y := ⟨_, rfl⟩
            rw [hlp] at p40 hle
            clear hlp hup
            go_wp2_with fail
            go_quiet (fail)
            cases lw
            · go_wp2_with fail
              go_roundw
              case rel => exact ⟨i + 1 + 1, _, by omega, by rw [HS.out.1]; rfl, by rw [HS.out.2]; simp, by go_num, rfl⟩
              case measure => simp [intOf]; omega
            · go_wp2_with fail
              go_roundw
              case rel => exact ⟨i + 1 + 1, _, by omega, by rw [HS.out.1]; simp, by rw [HS.out.2]; rfl, by go_num, rfl⟩
              case measure => simp [intOf]; omega
        · obtain rfl : j = L.length := by omega
          rw [List.take_length] at hTl hDl ⊢
          have ht1 := HO.out.t1
          have ht2 := HO.out.t2
          have hd1 := HO.out.d1
          have HW := Lib.hid (And.intro HO.out.word (And.intro HO.out.data HO.out.rest))
          simp only [HN.out] at ht1 ht2 hd1
          obtain ⟨T, hT⟩ : ∃ T, Pl.textOf L = T := ⟨_, rfl⟩
          obtain ⟨D, hD⟩ : ∃ D, Pl.dataOf L = D := ⟨_, rfl⟩
          have HTD := Lib.hid (And.intro hT hD)
          rw [hT] at hTl ht1 ht2 ⊢
          rw [hD] at hDl hd1 ⊢
          clear hT hD
          have m1 : decide ((T.length : Int) < 4 * (n : Int)) = false := decide_eq_false (by omega)
          have m2 : decide (4 * (n : Int) + 128 ≤ (T.length : Int)) = false := decide_eq_false (by omega)
          have m3 : decide ((D.length : Int) < (d.length : Int) + room + 128) = false := decide_eq_false (by omega)
          have hwt : ∀ (i : Nat), i < n → ∃ y : Nat, y < 4294967296 ∧ (u32s t)[i]? = some (.int .u32 (y : Int)) ∧ Pl.getN (((T.drop (4 * i)).take 4).take 8) = y := by
            intro i hi
            have hi' : i < t.length := by rw [HN.out]; exact hi
            refine ⟨t[i], HF.out.2.2.2.2.2 _ (List.getElem_mem hi'), HP.out.2 i hi', ?_⟩
            rw [← HTD.out.1, HW.out.1 i hi', Pl.getN_word _ (HF.out.2.2.2.2.2 _ (List.getElem_mem hi'))]
          have hdd : (D.take d.length) = d := by rw [← HTD.out.2]; exact HW.out.2.1
          have hre : ∀ (i : Nat) (h : i < (T.drop (4 * n) ++ D.drop d.length).length), (T.drop (4 * n) ++ D.drop d.length)[i] = 0 := by
            rw [← HTD.out.1, ← HTD.out.2, ← HN.out]; exact HW.out.2.2
          have HDD := Lib.hid hdd; clear hdd
          have HR := Lib.hid (And.intro hwt hre); clear hwt hre HW HTD
          obtain ⟨w4, hw4⟩ : ∃ w4, w3.drewN q = w4 := ⟨_, rfl⟩
          have ha4 := ha3.drewN q
          have hbw4 := below_drewN hbw3 q
          have hd0 : (w3.drewN q).cell? ⟨w.heap.size, 0, none⟩ = some (.slice A n c) := hc0
          have hd1 : (w3.drewN q).cell? ⟨w.heap.size, 1, none⟩ = some (.string ⟨d.toArray⟩) := hc1
          have hd2 : (w3.drewN q).cell? ⟨w.heap.size, 2, none⟩ = some (.int .i64 room) := hc2
          rw [hw4] at ha4 hbw4 hd0 hd1 hd2 ⊢
          clear hw4 hc0 hc1 hc2 hc3 ha3 hbw3 hr3
          go_wp2_with fail
          go_loopw [8] (fun i wr => ∃ (j q : Nat), j ≤ n ∧ i = .int .i64 j ∧ wr = w4.drewN q) (fun i _ => n - (intOf i).toNat)
          case atStart => exact ⟨0, 0, by omega, rfl, rfl⟩
          case round =>
            obtain ⟨j, q, hj, rfl, rfl⟩ := hrel
            by_cases hlt : j < n
            · obtain ⟨y, hy, hu, hg⟩ := HR.out.1 j hlt
              obtain ⟨b, o, rfl, -, pc⟩ := ha4.at1 hlt
              rw [hu] at pc
              have hgg : ∀ w, Calls Try.prog 23 #[.string ⟨((T.drop (4 * j)).take 4).toArray⟩] w (Ret (.int .u64 (y : Int)) w) := by
                intro w
                have := get_any ((T.drop (4 * j)).take 4) (by rw [List.length_take]; omega) w
                rw [hg] at this
                exact this
              have HG := Lib.hid hgg; clear hgg hg
              have hyy : ((y : Int) != (y : Int)) = false := by simp
              have hw1 : IntKind.u64.wrap (y : Int) = y := by unfold IntKind.wrap; simp [IntKind.bits, IntKind.signed]; omega
              have hs1 : IntKind.i64.wrap (4 * (j : Int)) = 4 * (j : Int) := by unfold IntKind.wrap; simp [IntKind.bits, IntKind.signed]; omega
              have hs2 : IntKind.i64.wrap (4 * (j : Int) + 4) = 4 * (j : Int) + 4 := by unfold IntKind.wrap; simp [IntKind.bits, IntKind.signed]; omega
              have hs3 : (4 * (j : Int)).toNat = 4 * j := by omega
              have hs4 : (4 * (j : Int) + 4).toNat = 4 * j + 4 := by omega
              have hs5 : 4 * j + 4 ≤ T.length := by omega
              have hs6 : 4 * (j : Int) + 4 ≤ (T.length : Int) := by omega
              have hs7 : (0 : Int) ≤ 4 * (j : Int) := by omega
              have hs8 : 4 * j + 4 - 4 * j = 4 := by omega
              have hs9 : 4 * (j : Int) ≤ 4 * (j : Int) + 4 := by omega
              have hs10 : (0 : Int) ≤ 4 * (j : Int) + 4 := by omega
              have hs11 : ¬ (4 * (j : Int) + 4 < 4 * (j : Int)) := by omega
              have hs12 : ¬ ((T.length : Int) < 4 * (j : Int) + 4) := by omega
              have hs13 : 4 * j ≤ 4 * j + 4 := by omega
              go_wp2_with fail
              go_quiet ((go_at_call 23; (with_reducible refine quiet_retA (HG.out _))))
              go_wp2_with fail
              go_roundw
              case rel => exact ⟨j + 1, _, by omega, by go_num, rfl⟩
              case measure => simp [intOf]; omega
            · have hdd := HDD.out
              have hs1 : IntKind.i64.wrap (4 * (n : Int)) = 4 * (n : Int) := by unfold IntKind.wrap; simp [IntKind.bits, IntKind.signed]; omega
              have hs3 : (4 * (n : Int)).toNat = 4 * n := by omega
              have hs6 : 4 * (n : Int) ≤ (T.length : Int) := by omega
              have hs9 : d.length ≤ D.length := by omega
              go_wp2_with fail
              go_quiet (fail)
              go_wp2_with fail
              go_quiet (fail)
              go_wp2_with fail
              rw [List.take_of_length_le (by rw [List.length_drop]; omega), List.take_of_length_le (by rw [List.length_drop]; omega)]
              have hRl : (T.drop (4 * n) ++ D.drop d.length).length ≤ 10000 := by rw [List.length_append, List.length_drop, List.length_drop]; omega
              obtain ⟨R, hR⟩ : ∃ R, T.drop (4 * n) ++ D.drop d.length = R := ⟨_, rfl⟩
              have hre : ∀ (i : Nat) (h : i < R.length), R[i] = 0 := by subst hR; exact HR.out.2
              have HE := Lib.hid hre; clear hre
              rw [hR] at hRl ⊢
              clear hR HR hdd hd0 hd1 hd2
              go_loop [10] (fun i => ∃ (j : Nat), j ≤ R.length ∧ i = .int .i64 j) (fun i => R.length - (intOf i).toNat)
              case atStart => exact ⟨0, by omega, rfl⟩
              case round =>
                obtain ⟨j, hj, rfl⟩ := hrel
                by_cases hlt : j < R.length
                · have hr0 := HE.out j hlt
                  go_wp2_with fail
                  go_round
                  case rel => exact ⟨j + 1, by omega, by go_num⟩
                  case measure => simp [intOf]; omega
                · go_wp2_with fail
                  (with_reducible refine (awake_any _).mono ?_)
                  rintro e w5 ⟨v, rfl, rfl, hb5⟩
                  go_wp2_with fail
                  go_ret
                  refine ⟨_, rfl, rfl, Below.trans ?_ (hb5.mono ?_)⟩
                  · exact below_drewN hbw4 _
                  · exact (below_drewN hbw4 _).size
    · have hkk : ((k : Int) != 0) = true := by simp; omega
      go_wp2_with fail
      (with_reducible refine (awake_any _).mono ?_)
      rintro e w3 ⟨v, rfl, rfl, hb3⟩
      go_wp2_with fail
      go_ret
      exact ⟨_, rfl, rfl, hbw2.trans (hb3.mono hbw2.size)⟩
  · go_wp2_with fail
    (with_reducible refine (awake_any _).mono ?_)
    rintro e w2 ⟨v, rfl, rfl, hb2⟩
    go_wp2_with fail
    go_ret
    exact ⟨_, rfl, rfl, hbw1.trans (hb2.mono hbw1.size)⟩

set_option maxRecDepth 100000 in
theorem exePages_lifted (os : Os) (started : os.Started) (H : Type) (enc : TypeId × Value → H) :
    ReturnsInHanded {} Try.checked os 9 .any (Rows.exePagesSpec.pre6 enc Try.prog Try.f9 Rows.exePagesRow.domain false) (Rows.exePagesSpec.post enc Try.prog Try.f9 false true false false) := by
  refine returnsInHanded_of_change_sized (C := Try.checked) own started (by kernel_rfl) Try.func9
    (ChangeSpec.witness6 (enc := enc) (C := Try.checked) false ⟨#[], #[.agg #[.slice none 0 0, .string ⟨#[]⟩, .int .i64 0, .int .u32 0]], []⟩ 8 (by kernel_rfl) (by kernel_rfl) (by kernel_rfl) (by kernel_rfl)) ?_
  intro W base args ds gs before hval0 hW hcnd hsz0 _
  have hval : ∀ (j : Nat) t v, Try.f9.params[j]? = some t → args[j]? = some v → Value.okWide Try.prog W .any base t v := hval0
  have hW' := hW
  obtain ⟨p, q, hA0, hV, rfl, hfz, hnd⟩ := hW
  have hA : DataW.TrodAll enc Try.prog W 0 (fun _ => true) true Try.f9.params.toList args.toList ds p := hA0
  have hsz : (DataW.weightsEach Try.prog (Try.f9.params.toList ++ Rows.exePagesSpec.plain.varTypes Try.prog) (ds ++ gs)).all (· ≤ reachBytes) = true := hsz0
  rw [Try.params9] at hA hval hsz
  obtain ⟨v0, vs0, d0, ds0, p0, q0, hargs, rfl, rfl, h0, r0⟩ := trodAll_cons hA
  obtain ⟨rfl, rfl, rfl⟩ := trodAll_nil r0
  obtain rfl : args = #[v0] := by cases args; simp_all
  obtain ⟨rfl, rfl⟩ := trodVars_none hV
  have k0 := h0
  have lt0 : ∀ x ∈ p0, x.block < W.heap.size := by obtain ⟨m, hm⟩ := k0; exact DataW.trod_lt m _ _ _ hm
  have hz0 : ∀ m ∈ d0.weights Try.prog 43, m ≤ reachBytes := fun m hm => by
    have h1 := List.all_eq_true.1 hsz m (DataW.weights_mem_each (j := 0) rfl rfl m hm)
    simpa using h1
  obtain ⟨A0, c0, x0, rfl, eA0, eB0, eC0⟩ := open_exe (hval 0 43 v0 rfl rfl) h0 hz0
  clear hA0 hval0 hsz0
  refine (exePages_walk A0 c0 x0 W eA0 eB0 eC0).mono fun e W' ⟨v, he, hv, bel⟩ => ?_
  subst he hv
  exact ⟨_, rfl, _, _, _, [], _, [], hW', trodAll_mk1 (shut_bool Try.underlying4 _), (trodAll_cons_mk (Below.trod laidOut (by kernel_rfl) (of_decide_eq_true (by kernel_rfl)) k0 bel lt0) trodAll_mk0), rfl, bel.frame _, fun h => by cases h⟩

theorem exePages_holds : Rows.ExePagesSaid :=
  OpenClaim.holds_of_wide 9 Try.f9 rfl rfl rfl rfl rfl rfl rfl ⟨rfl, rfl, rfl, rfl, rfl⟩ rfl rfl rfl rfl rfl (by kernel_rfl) Try.func9 (by kernel_rfl)
    (of_decide_eq_true (by kernel_rfl)) (by unfold Func.isWrapper; first | (rw [if_pos (by decide +kernel)]; kernel_rfl) | (rw [if_neg (by decide +kernel)]; exact ⟨rfl, rfl⟩))
    (fun os started H enc _ => exePages_lifted os started H enc)
#print axioms exePages_holds
end Go.Proofs.Ytplhmhclcfclhaa
