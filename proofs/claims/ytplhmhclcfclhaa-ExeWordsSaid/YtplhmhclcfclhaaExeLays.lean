/- ExeLays: for every program the statement returns true, and nothing that was there has turned. No condition. -/
import Derived.Test.YtplhmhclcfclhaaLayW4
import Derived.Test.YtplhmhclcfclhaaOpenE
namespace Go.Proofs.Ytplhmhclcfclhaa
open Go.ChangeShapes Go.WideShapes Go.ChangeAt Go.RowKit
set_option linter.unusedVariables false

theorem layCs_get (L : List Pl.Lay) (i : Nat) (h : i < L.length) : (layCs L)[i * 3]? = some (.int .i64 L[i].at_) ∧ (layCs L)[i * 3 + 1]? = some (.string ⟨L[i].data.toArray⟩) ∧ (layCs L)[i * 3 + 2]? = some (.bool L[i].write) := by
  have e : layCs L = (L.map layC).flatten := by simp [layCs, List.flatMap_def]
  have hk : ∀ x ∈ L.map layC, x.length = 3 := by
    intro x hx
    obtain ⟨y, _, rfl⟩ := List.mem_map.1 hx
    rfl
  have h' : i < (L.map layC).length := by simpa using h
  have g := fun j (hj : j < 3) => flatten_get 3 (L.map layC) hk i j h' hj
  rw [e]
  refine ⟨?_, ?_, ?_⟩
  · have := g 0 (by omega); simpa [layC] using this
  · have := g 1 (by omega); simpa [layC] using this
  · have := g 2 (by omega); simpa [layC] using this
theorem Rd.lay {w : World} {A : Option Addr} {n : Nat} {L : List Pl.Lay} (h : Rd w 3 A n (layCs L)) (hn : L.length = n) {i : Nat} (hi : i < n) :
    ∃ b off, A = some ⟨b, off, none⟩ ∧ b < w.heap.size ∧ w.cell? ⟨b, off + i * 3, none⟩ = some (.int .i64 (L[i]'(by omega)).at_) ∧ w.cell? ⟨b, off + i * 3 + 1, none⟩ = some (.string ⟨(L[i]'(by omega)).data.toArray⟩) ∧ w.cell? ⟨b, off + i * 3 + 2, none⟩ = some (.bool (L[i]'(by omega)).write) := by
  obtain ⟨b, off, rfl, hb, hc⟩ := h.all (by omega)
  have hl := layCs_len L
  obtain ⟨g0, g1, g2⟩ := layCs_get L i (by omega)
  refine ⟨b, off, rfl, hb, ?_, ?_, ?_⟩
  · rw [hc (i * 3) (by omega), g0]
  · rw [Nat.add_assoc, hc (i * 3 + 1) (by omega), g1]
  · rw [Nat.add_assoc, hc (i * 3 + 2) (by omega), g2]

set_option maxRecDepth 100000 in
set_option maxHeartbeats 1000000 in
theorem exeLays_walk (A : Option Addr) (c : Nat) (x : Pl.Exe) (w : World) (ha : Rd w 1 A x.text.length (u32s x.text)) (hx : ExeOk x) (ht : ∀ y ∈ x.text, y < 4294967296) :
    Calls Try.prog 8 #[exeV A c x] w (RetB (fun v _ => v = .bool true) w) := by
  have hgr := great_any A c x
  have hla := lay_any A c x
  have hrl := rLay_any A c x
  have hlk : (if Pl.chk x = 0 then Pl.lays x else []).length ≤ 1000 := by
    split
    · next h =>
      obtain ⟨g1, g2, g3, g4, g5, -, -, -⟩ := chk_ok h
      unfold Pl.lays
      rw [List.length_append, Pl.spread_len, Pl.spread_len]
      unfold Pl.pgs
      simp; omega
    · simp
  obtain ⟨L, hL⟩ : ∃ L, (if Pl.chk x = 0 then Pl.lays x else []) = L := ⟨_, rfl⟩
  obtain ⟨k, hk⟩ : ∃ k, Pl.chk x = k := ⟨_, rfl⟩
  have hlo : ∀ v W, LayOut x v W → ∃ A c, v = .tuple #[.slice A L.length c, .int .i64 (k : Int)] ∧ Rd W 3 A L.length (layCs L) := by
    intro v W h
    unfold LayOut at h
    rw [hL, hk] at h
    exact h
  rw [hL] at hlk
  obtain ⟨gb, hgb⟩ : ∃ g, great x = g := ⟨_, rfl⟩
  obtain ⟨t, d, room, entry⟩ := x
  have hev : exeV A c ⟨t, d, room, entry⟩ = .agg #[.slice A t.length c, .string ⟨d.toArray⟩, .int .i64 room, .int .u32 (entry : Int)] := rfl
  rw [hev] at hgr hla hrl ⊢
  rw [hgb] at hgr
  have HF := Lib.hid (And.intro hgr (And.intro hla (And.intro hrl (And.intro hlo (And.intro hx ht))))); clear hgr hla hrl hlo hx ht hL hk hgb hev
  simp only at ha
  obtain ⟨n, hn⟩ : ∃ n, t.length = n := ⟨_, rfl⟩
  rw [hn] at ha ⊢
  have HN := Lib.hid hn; clear hn
  have hnn : n ≤ 140737488355328 := by rw [← HN.out]; exact HF.out.2.2.2.2.1.n
  go_enter Try.func8, Try.ntmps8
  go_wp2_with fail
  have hq := HF.out.1 (w.alloc (.cells #[.slice A n c, .string ⟨d.toArray⟩, .int .i64 room, .int .u32 (entry : Int)] 43)) HF.out.2.2.2.2.1.n
  rw [HN.out] at hq
  (with_reducible refine Calls.mono hq ?_)
  rintro e w1 ⟨v, rfl, rfl, hb1⟩
  clear hq
  have hbw1 : Below w.heap.size w w1 := ((Below.refl _ _).alloc (Nat.le_refl _) _).trans (hb1.mono (by simp))
  have hbox := (Box4.new w (.slice A n c) (.string ⟨d.toArray⟩) (.int .i64 room) (.int .u32 (entry : Int)) 43).keep hb1 (by simp)
  have hsz : w.heap.size < w1.heap.size := by have := hb1.size; simp at this; omega
  have ha1 := ha.below hbw1
  clear hb1
  cases gb
  · have hbox' := hbox
    obtain ⟨hc0, hc1, hc2, hc3⟩ := hbox'
    go_wp2_with fail
    have hq := HF.out.2.1 w1 HF.out.2.2.2.2.1 (by rw [HN.out]; exact ha1) HF.out.2.2.2.2.2
    rw [HN.out] at hq
    (with_reducible refine Calls.mono hq ?_)
    rintro e w2 ⟨v, rfl, hlo2, hb2⟩
    clear hq hc0 hc1 hc2 hc3
    obtain ⟨A2, c2, rfl, hr2⟩ := HF.out.2.2.2.1 _ _ hlo2
    clear hlo2
    obtain ⟨hc0, hc1, hc2, hc3⟩ := hbox.keep hb2 hsz
    go_wp2_with fail
    have hq := HF.out.2.2.1 w2 HF.out.2.2.2.2.1 (by rw [HN.out]; exact ha1.below hb2) HF.out.2.2.2.2.2
    rw [HN.out] at hq
    (with_reducible refine Calls.mono hq ?_)
    rintro e w3 ⟨v, rfl, hlo3, hb3⟩
    clear hq hc0 hc1 hc2 hc3
    obtain ⟨A3, c3, rfl, hr3⟩ := HF.out.2.2.2.1 _ _ hlo3
    clear hlo3
    have hr23 := hr2.below hb3
    have hbw3 : Below w.heap.size w w3 := (hbw1.trans (hb2.mono hbw1.size)).trans (hb3.mono (hbw1.trans (hb2.mono hbw1.size)).size)
    clear hb2 hb3 hr2 hbox ha1 hbw1
    have hkk : ((k : Int) != k) = false := by simp
    have hLL : ((L.length : Int) != L.length) = false := by simp
    go_wp2_with fail
    go_loopw [7] (fun i wr => ∃ (j q : Nat), j ≤ L.length ∧ i = .int .i64 j ∧ wr = w3.drewN q) (fun i _ => L.length - (intOf i).toNat)
    case atStart => exact ⟨0, 0, by omega, rfl, rfl⟩
    case round =>
      obtain ⟨j, q, hj, rfl, rfl⟩ := hrel
      by_cases hlt : j < L.length
      · obtain ⟨b2, o2, rfl, -, p20, p21, p22⟩ := hr23.lay rfl hlt
        obtain ⟨b3, o3, rfl, -, p30, p31, p32⟩ := hr3.lay rfl hlt
        obtain ⟨⟨la, ld, lw⟩, hlj⟩ : ∃ y, L[j] = y := ⟨_, rfl⟩
        rw [hlj] at p20 p21 p22 p30 p31 p32
        simp only at p20 p21 p22 p30 p31 p32
        clear hlj
        go_wp2_with fail
        go_quiet (fail)
        go_wp2_with fail
        go_roundw
        case rel => exact ⟨j + 1, _, by omega, by go_num, rfl⟩
        case measure => simp [intOf]; omega
      · go_wp2_with fail
        (with_reducible refine (awake_any _).mono ?_)
        rintro e w4 ⟨v, rfl, rfl, hb4⟩
        go_wp2_with fail
        go_ret
        exact ⟨_, rfl, rfl, (below_drewN hbw3 q).trans (hb4.mono (below_drewN hbw3 q).size)⟩
  · go_wp2_with fail
    (with_reducible refine (awake_any _).mono ?_)
    rintro e w2 ⟨v, rfl, rfl, hb2⟩
    go_wp2_with fail
    go_ret
    exact ⟨_, rfl, rfl, hbw1.trans (hb2.mono hbw1.size)⟩

set_option maxRecDepth 100000 in
theorem exeLays_lifted (os : Os) (started : os.Started) (H : Type) (enc : TypeId × Value → H) :
    ReturnsInHanded {} Try.checked os 8 .any (Rows.exeLaysSpec.pre6 enc Try.prog Try.f8 Rows.exeLaysRow.domain false) (Rows.exeLaysSpec.post enc Try.prog Try.f8 false true false false) := by
  refine returnsInHanded_of_change_sized (C := Try.checked) own started (by kernel_rfl) Try.func8
    (ChangeSpec.witness6 (enc := enc) (C := Try.checked) false ⟨#[], #[.agg #[.slice none 0 0, .string ⟨#[]⟩, .int .i64 0, .int .u32 0]], []⟩ 8 (by kernel_rfl) (by kernel_rfl) (by kernel_rfl) (by kernel_rfl)) ?_
  intro W base args ds gs before hval0 hW hcnd hsz0 _
  have hval : ∀ (j : Nat) t v, Try.f8.params[j]? = some t → args[j]? = some v → Value.okWide Try.prog W .any base t v := hval0
  have hW' := hW
  obtain ⟨p, q, hA0, hV, rfl, hfz, hnd⟩ := hW
  have hA : DataW.TrodAll enc Try.prog W 0 (fun _ => true) true Try.f8.params.toList args.toList ds p := hA0
  have hsz : (DataW.weightsEach Try.prog (Try.f8.params.toList ++ Rows.exeLaysSpec.plain.varTypes Try.prog) (ds ++ gs)).all (· ≤ reachBytes) = true := hsz0
  rw [Try.params8] at hA hval hsz
  obtain ⟨v0, vs0, d0, ds0, p0, q0, hargs, rfl, rfl, h0, r0⟩ := trodAll_cons hA
  obtain ⟨rfl, rfl, rfl⟩ := trodAll_nil r0
  obtain rfl : args = #[v0] := by cases args; simp_all
  obtain ⟨rfl, rfl⟩ := trodVars_none hV
  have k0 := h0
  have lt0 : ∀ x ∈ p0, x.block < W.heap.size := by obtain ⟨m, hm⟩ := k0; exact DataW.trod_lt m _ _ _ hm
  have hz0 : ∀ m ∈ d0.weights Try.prog 43, m ≤ reachBytes := fun m hm => by
    have h1 := List.all_eq_true.1 hsz m (DataW.weights_mem_each (j := 0) rfl rfl m hm)
    simpa using h1
  obtain ⟨A0, c0, x0, rfl, eA0, eB0, eC0⟩ := open_exe (hval 0 43 v0 rfl rfl) h0 hz0
  clear hA0 hval0 hsz0
  refine (exeLays_walk A0 c0 x0 W eA0 eB0 eC0).mono fun e W' ⟨v, he, hv, bel⟩ => ?_
  subst he hv
  exact ⟨_, rfl, _, _, _, [], _, [], hW', trodAll_mk1 (shut_bool Try.underlying4 _), (trodAll_cons_mk (Below.trod laidOut (by kernel_rfl) (of_decide_eq_true (by kernel_rfl)) k0 bel lt0) trodAll_mk0), rfl, bel.frame _, fun h => by cases h⟩

theorem exeLays_holds : Rows.ExeLaysSaid :=
  OpenClaim.holds_of_wide 8 Try.f8 rfl rfl rfl rfl rfl rfl rfl ⟨rfl, rfl, rfl, rfl, rfl⟩ rfl rfl rfl rfl rfl (by kernel_rfl) Try.func8 (by kernel_rfl)
    (of_decide_eq_true (by kernel_rfl)) (by unfold Func.isWrapper; first | (rw [if_pos (by decide +kernel)]; kernel_rfl) | (rw [if_neg (by decide +kernel)]; exact ⟨rfl, rfl⟩))
    (fun os started H enc _ => exeLays_lifted os started H enc)
#print axioms exeLays_holds
end Go.Proofs.Ytplhmhclcfclhaa
