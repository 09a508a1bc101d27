/- Of unlike snapshots of one machine that aren't held no more are kept than the four numbers are together. For every policy and all snapshots. -/
import Derived.Test.YtmncgnmgdkdhaaaGreatDoorPolLaid
import Derived.Test.YtmncgnmgdkdhaaaGreatDoorShaped
import Derived.Test.YtmncgnmgdkdhaaaGreatDoorTie
import Derived.Test.YtmncgnmgdkdhaaaGreatDoorCards
import Derived.Test.YtmncgnmgdkdhaaaGreatDoorPolFm
namespace Go.Proofs.YtmncgnmgdkdhaaaGreatDoor
open Go.ChangeShapes Go.WideShapes Go.ChangeAt Go.RowKit Go.Maps
set_option linter.unusedVariables false
set_option linter.unusedSimpArgs false
/-- A pair of a snapshot that the policy keeps. -/
def OkF (p : Pl.Pol) (l : List Pl.Rf) (m : List UInt8) (q : Int × Int) : Prop := ∃ x ∈ l, x.m = m ∧ q = (x.t, x.n) ∧ Pl.keptAny p l x = true
theorem keepX_at (p : Pl.Pol) (l : List Pl.Rf) (now : Int) (j : Nat) (hj : j < l.length) : (Pl.keepD p l now).getD j false = keepF p l now (l.getD j default) := by
  rw [keepD_map, List.getD_eq_getElem?_getD, List.getElem?_map, List.getElem?_eq_getElem hj, List.getD_eq_getElem?_getD, List.getElem?_eq_getElem hj]; rfl
theorem few_ok {p : Pl.Pol} {l : List Pl.Rf} {now : Int} (hp : Pl.polE p = 0) {j : Nat} (hj : j < l.length) (hk : (Pl.keepD p l now).getD j false = true) (ht : (l.getD j default).til ≤ now) : OkF p l (l.getD j default).m ((l.getD j default).t, (l.getD j default).n) := by
  rw [keepX_at _ _ _ _ hj] at hk
  refine ⟨_, Pl.getD_mem l j hj, rfl, rfl, ?_⟩
  unfold keepF at hk
  rw [hp, decide_eq_false (show ¬ now < (l.getD j default).til by omega)] at hk
  simpa using hk
theorem eql_some (b : Nat) (w : World) : (binOp .eql 42 (.map (some b)) (.map none)).run Tryz.prog w = .ok (.bool false) w := by kernel_rfl
theorem eql_nil (w : World) : (binOp .eql 42 (.map none) (.map none)).run Tryz.prog w = .ok (.bool true) w := by kernel_rfl
theorem below_row {w w' : World} {M g : Nat} (hg : w.grownBy w' (some g)) (hM : M ≤ w.heap.size) (hg2 : M ≤ g) : Below M w w' :=
  (Below.refl M w).grown hg hM (fun k hk => by injection hk with hk; omega)
theorem few_bound {p : Pl.Pol} {l : List Pl.Rf} (hp : Pl.polE p = 0) {m : List UInt8} {Q : List (Int × Int)} (hnd : Q.Nodup) (hQ : ∀ q ∈ Q, OkF p l m q) : (Q.length : Int) ≤ p.d + p.w + p.mo + p.y := by
  obtain ⟨h1, h2, h3, h4⟩ := Pl.polE_fit hp
  exact Pl.few_all hp ⟨h1.1, h2.1, h3.1, h4.1⟩ Q hnd (fun q hq => hQ q hq)
set_option maxRecDepth 100000 in
set_option maxHeartbeats 8000000 in
theorem policyFew_walk (p : Pl.Pol) (s : Value) (l : List Pl.Rf) (w : World) (hpi : I64 p.d ∧ I64 p.w ∧ I64 p.mo ∧ I64 p.y) (hs : RfsIn w s l) (hv : VPol w) :
    Calls Tryz.prog 5 #[polV p, s] w (RetB (fun v _ => v = .bool true) w) := by
  have hal := fun W h => alive_any W h
  have hgr := fun W h => great49_any s l W h
  have hkp := fun W h2 h3 h4 => keep_in p l 9000000000000000000 s W h2 h3 h4
  have hck := fun W => pcheck_any p W
  obtain ⟨A, c, rfl, hr, hA0, hbig, hfit⟩ := id hs
  have hpv : polV p = .agg #[.int .i64 p.d, .int .i64 p.w, .int .i64 p.mo, .int .i64 p.y] := rfl
  rw [hpv] at hck ⊢
  obtain ⟨n, hn⟩ : ∃ n, l.length = n := ⟨_, rfl⟩
  rw [hn] at hgr hr hs hbig hkp ⊢
  have hnb : n ≤ 140737488355328 := by omega
  obtain ⟨G, hG⟩ : ∃ G, Pl.great49 l = G := ⟨_, rfl⟩
  rw [hG] at hgr
  obtain ⟨E, hE⟩ : ∃ E, Pl.polE p = E := ⟨_, rfl⟩
  rw [hE] at hck
  obtain ⟨K, hK⟩ : ∃ K, Pl.keepD p l 9000000000000000000 = K := ⟨_, rfl⟩
  have hKl : K.length = n := by rw [← hK, Pl.keepD_len]; exact hn
  rw [hK] at hkp
  have hok := fun (hp0 : Pl.polE p = 0) (j : Nat) (hj : j < l.length) hk ht => few_ok (p := p) (l := l) (now := 9000000000000000000) hp0 (j := j) hj hk ht
  rw [hK] at hok
  have HH := Lib.hid (And.intro hal (And.intro hgr (And.intro hkp (And.intro hs (And.intro hfit (And.intro hn (And.intro hG (And.intro hv (And.intro hck (And.intro hE (And.intro hKl hok)))))))))))
  clear hal hgr hkp hs hfit hG hv hpv hr hA0 hpi hbig hn hck hE hK hKl hok
  go_enter Tryz.func5, Tryz.ntmps5
  go_wp2_with fail
  generalize hV : World.alloc w _ = V
  have hbV : Below w.heap.size w V := by rw [← hV]; exact (Below.refl _ _).alloc (Nat.le_refl _) _
  have h1 : V.heap[w.heap.size]? = some (.cells #[.int .i64 p.d, .int .i64 p.w, .int .i64 p.mo, .int .i64 p.y] 23 (0, 0)) := by rw [← hV]; exact heap_alloc_new w _
  have hpo : PoBox w.heap.size p V := ⟨cell_row V _ 0 _ _ h1, cell_row V _ 1 _ _ h1, cell_row V _ 2 _ _ h1, cell_row V _ 3 _ _ h1⟩
  have hszV := blk_lt h1
  clear hV h1
  refine (HH.out.1 _ (VPol.keep HH.out.2.2.2.2.2.2.2.1 hbV (Nat.le_refl _))).mono ?_
  rintro e w1 ⟨v, rfl, rfl, hb1⟩
  replace hpo := hpo.below hb1
  replace hbV := hbV.trans (hb1.mono hbV.size)
  replace hszV := Nat.lt_of_lt_of_le hszV hb1.size
  clear hb1
  go_wp2_with fail
  refine (HH.out.2.1 _ (HH.out.2.2.2.1.keep hbV (Nat.le_refl _))).mono ?_
  rintro e w2 ⟨v, rfl, rfl, hb2⟩
  replace hpo := hpo.below hb2
  replace hbV := hbV.trans (hb2.mono hbV.size)
  replace hszV := Nat.lt_of_lt_of_le hszV hb2.size
  clear hb2
  cases hGe : G
  rotate_left
  · rw [if_pos rfl]
    clear hpo
    go_wp2_with fail
    go_ret
    exact ⟨_, rfl, rfl, hbV⟩
  rw [if_neg (by simp)]
  have hl50 : l.length ≤ 50 := Pl.great49_few (HH.out.2.2.2.2.2.2.1.trans hGe)
  have hn50 : n ≤ 50 := by rw [← HH.out.2.2.2.2.2.1]; exact hl50
  clear hGe hl50
  have x0 := hpo.c0
  have x1 := hpo.c1
  have x2 := hpo.c2
  have x3 := hpo.c3
  go_wp2_with fail
  refine (HH.out.2.2.2.2.2.2.2.2.1 _).mono ?_
  rintro e w3 ⟨v, rfl, rfl, hb3⟩
  replace hpo := hpo.below hb3
  replace hbV := hbV.trans (hb3.mono hbV.size)
  replace hszV := Nat.lt_of_lt_of_le hszV hb3.size
  clear hb3 x0 x1 x2 x3
  by_cases hE0 : E = 0
  rotate_left
  · have hne : ((E : Int) != 0) = true := by rw [bne_iff_ne]; omega
    clear hpo hE0
    go_wp2_with fail
    go_ret
    exact ⟨_, rfl, rfl, hbV⟩
  subst hE0
  have x0 := hpo.c0
  have x1 := hpo.c1
  have x2 := hpo.c2
  have x3 := hpo.c3
  go_wp2_with fail
  have hr1 : Rd w3 5 A n (rfCs l) := by
    obtain ⟨A', c', e, hr1, -⟩ := HH.out.2.2.2.1.keep hbV (Nat.le_refl _)
    injection e with e1 e2 e3
    subst e1 e3
    rw [HH.out.2.2.2.2.2.1] at hr1; exact hr1
  refine (HH.out.2.2.1 _ (by omega) ⟨_, _, rfl, hr1⟩ HH.out.2.2.2.2.1).mono ?_
  rintro e w4 ⟨v, rfl, ⟨bk, rfl, -, hka⟩, hb4⟩
  replace hpo := hpo.below hb4
  replace hbV := hbV.trans (hb4.mono hbV.size)
  replace hszV := Nat.lt_of_lt_of_le hszV hb4.size
  clear hb4 x0 x1 x2 x3 hr1
  have hmm := @run_makeMap Tryz.prog
  go_upto_region 9 with (fail)
  have hF := Few.made w4 (OkF p l)
  have hbW : Below w4.heap.size w4 (w4.alloc (.map #[] 0)) := (Below.refl _ _).alloc (Nat.le_refl _) _
  replace hpo := hpo.below hbW
  replace hbV := hbV.trans (hbW.mono hbV.size)
  have hbk := blk_lt hka
  replace hka := (hbW.block _ hbk).trans hka
  have hMs : w4.heap.size < (w4.alloc (.map #[] 0)).heap.size := by simp
  clear hbW
  generalize hM : w4.heap.size = M at hF hszV hbk hMs ⊢
  generalize w4.alloc (.map #[] 0) = V5 at hF hpo hbV hka hMs ⊢
  clear hM
  have hMw : w.heap.size ≤ M := by omega
  go_wp2_with fail
  go_loopw [32] (fun iv wq => ∃ (k : Nat) (ps : List (List UInt8 × Nat)), k ≤ n ∧ iv = .int .i64 k ∧ Few wq M ps (2 * k) (OkF p l) ∧ wq.heap[bk]? = some (.cells (bools K).toArray 4 (0, 0)) ∧ PoBox w.heap.size p wq ∧ Below w.heap.size w wq ∧ M < wq.heap.size) (fun iv _ => n - (intOf iv).toNat)
  case atStart => exact ⟨0, [], by omega, rfl, hF, hka, hpo, hbV, hMs⟩
  case round =>
    clear hF hka hpo hbV hMs
    obtain ⟨k, ps, hk, rfl, hF, hka, hpo, hbV, hMs⟩ := hrel
    by_cases hkn : k < n
    · have hr1 : Rd wr 5 A n (rfCs l) := by
        obtain ⟨A', c', e, hr1, -⟩ := HH.out.2.2.2.1.keep hbV (Nat.le_refl _)
        injection e with e1 e2 e3
        subst e1 e3
        rw [HH.out.2.2.2.2.2.1] at hr1; exact hr1
      obtain ⟨b, off, hA, hbw, hrf⟩ := hr1.rf HH.out.2.2.2.2.2.1 hkn
      subst hA
      obtain ⟨x, hx⟩ : ∃ x, l.getD k default = x := ⟨_, rfl⟩
      obtain ⟨c0, c1, c2, c3, c4⟩ := hrf x hx
      have hkl : k < l.length := by rw [HH.out.2.2.2.2.2.1]; exact hkn
      have hxf := HH.out.2.2.2.2.1 x (by rw [← hx]; exact Pl.getD_mem l k hkl)
      have hokx := HH.out.2.2.2.2.2.2.2.2.2.2.2 HH.out.2.2.2.2.2.2.2.2.2.1 k hkl
      rw [hx] at hokx
      obtain ⟨fk, hfk⟩ : ∃ f, K.getD k false = f := ⟨_, rfl⟩
      have hgk := bools_get K k (by rw [HH.out.2.2.2.2.2.2.2.2.2.2.1]; exact hkn)
      rw [hfk] at hokx hgk
      have k0 : (0 : Int) ≤ (k : Int) := by omega
      have k1 : (k : Int) < (n : Int) := by omega
      obtain ⟨xm, xn, xt, xnm, xtil⟩ := x
      obtain ⟨⟨hxt, hxn, -⟩, hxm, -⟩ := hxf
      dsimp only at c0 c1 c2 c3 c4 hokx hxt hxn hxm
      have HR := Lib.hid (And.intro hF (And.intro hka (And.intro hpo (And.intro hbV (And.intro hMs (And.intro hokx (And.intro hgk (And.intro hxt (And.intro hxn hxm)))))))))
      clear hF hka hpo hbV hMs hokx hgk hxt hxn hxm hrf hx hr1 hbw hkl hfk
      go_upto_region 12 with (fail)
      generalize hV : World.alloc wr _ = V
      have hz : V.heap[wr.heap.size]? = some (.cells #[.string ⟨xm.toArray⟩, .int .i64 xn, .int .i64 xt, .string ⟨xnm.toArray⟩, .int .i64 xtil] 39 (0, 0)) := by rw [← hV]; exact heap_alloc_new wr _
      have hbW : Below wr.heap.size wr V := by rw [← hV]; exact (Below.refl _ _).alloc (Nat.le_refl _) _
      have hF := HR.out.1.below hbW
      have hka := (hbW.block _ (blk_lt HR.out.2.1)).trans HR.out.2.1
      have hpo := HR.out.2.2.1.below hbW
      have hbV := HR.out.2.2.2.1.trans (hbW.mono HR.out.2.2.2.1.size)
      have hMs := Nat.lt_of_lt_of_le HR.out.2.2.2.2.1 hbW.size
      have hMx := HR.out.2.2.2.2.1
      clear hV hbW c0 c1 c2 c3 c4
      generalize wr.heap.size = Bx at hz hMx ⊢
      have hlk := hF.out.look HR.out.2.2.2.2.2.2.2.2.2
      have e0 : V.cell? ⟨Bx, 0, none⟩ = some (.string ⟨xm.toArray⟩) := cell_row V _ 0 _ _ hz
      have hB2 := HR.out.2.2.2.2.2.2.1
      have hes := eql_some
      have hen := eql_nil
      cases hl : ps.lookup xm with
      | none =>
        rw [hl] at hlk
        obtain ⟨w', hup, hF2, hg2, hl2⟩ := hF.add HR.out.2.2.2.2.2.2.2.2.2 hl (by omega)
        have hb2 : Below M V w' := below_row hg2 (by omega) (Nat.le_refl _)
        have hbx := blk_lt hz
        have hz2 : w'.heap[Bx]? = some (.cells #[.string ⟨xm.toArray⟩, .int .i64 xn, .int .i64 xt, .string ⟨xnm.toArray⟩, .int .i64 xtil] 39 (0, 0)) := (hg2.block Bx hbx (by simp; omega)).trans hz
        have hka2 := (hb2.block _ hbk).trans hka
        have hpo2 := hpo.keep hb2 hszV
        have hbV2 := hbV.trans (hb2.mono hMw)
        have hMs2 := Nat.lt_of_lt_of_le hMs hb2.size
        have e0a : (V.alloc (.map #[] 0)).cell? ⟨Bx, 0, none⟩ = some (.string ⟨xm.toArray⟩) := (World.cell?_alloc_lt _ _ _ hbx).trans e0
        clear hF hka hpo hbV hg2 hb2 hz
        generalize hps : (xm, V.heap.size) :: ps = ps2 at hF2 hl2
        go_upto_region 14 with (fail)
        generalize V.heap.size = b2 at hl2
        clear hup hlk e0 e0a hps hMs hl hbx
        have ck : w'.cell? ⟨bk, k, none⟩ = some (.bool fk) := by rw [cell_row w' bk k _ _ hka2]; exact hB2
        have c4 : w'.cell? ⟨Bx, 4, none⟩ = some (.int .i64 xtil) := cell_row w' _ 4 _ _ hz2
        have c0 : w'.cell? ⟨Bx, 0, none⟩ = some (.string ⟨xm.toArray⟩) := cell_row w' _ 0 _ _ hz2
        have c1 : w'.cell? ⟨Bx, 1, none⟩ = some (.int .i64 xn) := cell_row w' _ 1 _ _ hz2
        have c2 : w'.cell? ⟨Bx, 2, none⟩ = some (.int .i64 xt) := cell_row w' _ 2 _ _ hz2
        have hok2 := HR.out.2.2.2.2.2.1
        have fin : ∀ (V' : World), Few V' M ps2 (2 * (k + 1)) (OkF p l) → Below M w' V' → (∃ (k_1 : Nat) (ps_1 : List (List UInt8 × Nat)), k_1 ≤ n ∧ Value.int .i64 ((k : Int) + 1) = .int .i64 k_1 ∧ Few V' M ps_1 (2 * k_1) (OkF p l) ∧ V'.heap[bk]? = some (.cells (bools K).toArray 4 (0, 0)) ∧ PoBox w.heap.size p V' ∧ Below w.heap.size w V' ∧ M < V'.heap.size) ∧ n - (intOf (.int .i64 ((k : Int) + 1))).toNat < n - (intOf (.int .i64 (k : Int))).toNat := fun V' h1 h2 =>
          ⟨⟨k + 1, ps2, by omega, by rw [Int.natCast_add]; rfl, h1, (h2.block _ hbk).trans hka2, hpo2.keep h2 hszV, hbV2.trans (h2.mono hMw), Nat.lt_of_lt_of_le hMs2 h2.size⟩, by simp [intOf]; omega⟩
        have HF := Lib.hid (And.intro fin (And.intro hF2 (And.intro hok2 hl2)))
        clear fin hok2 hz2 hka2 hpo2 hbV2 hl2
        cases fk
        · clear hF2
          go_wp2_with fail
          exact HF.out.1 _ (HF.out.2.1.mono (by omega)) (Below.refl _ _)
        · by_cases ht : xtil ≤ 9000000000000000000
          · have hlk2 := hF2.out.look HR.out.2.2.2.2.2.2.2.2.2
            rw [HF.out.2.2.2] at hlk2
            obtain ⟨wz, hup2, hF3, hg3⟩ := hF2.put HF.out.2.2.2 (q := (xt, xn)) HR.out.2.2.2.2.2.2.2.1 HR.out.2.2.2.2.2.2.2.2.1 (HF.out.2.2.1 rfl ht) (by omega)
            have hMb := (hF2.inn _ _ HF.out.2.2.2).1
            have hbz := below_row (M := M) hg3 (by omega) (by omega)
            replace hup2 : (Instr.mapUpdate 42 (.map (some b2)) (.agg #[.int .i64 xt, .int .i64 xn]) (.bool true)).run Tryz.prog w' = .ok () wz := hup2
            clear hF2 hg3
            go_wp2_with fail
            exact HF.out.1 _ (hF3.mono (by omega)) hbz
          · clear hF2
            go_wp2_with fail
            exact HF.out.1 _ (HF.out.2.1.mono (by omega)) (Below.refl _ _)
      | some b2 =>
        rw [hl] at hlk
        have hF2 : Few V M ps (2 * k + 1) (OkF p l) := hF.mono (by omega)
        go_upto_region 14 with (fail)
        clear hlk e0 hF
        have hz2 := hz
        have hka2 := hka
        have hpo2 := hpo
        have hbV2 := hbV
        have hl2 := hl
        have hMs2 := hMs
        clear hz hka hpo hbV hl hMs
        have ck : V.cell? ⟨bk, k, none⟩ = some (.bool fk) := by rw [cell_row V bk k _ _ hka2]; exact hB2
        have c4 : V.cell? ⟨Bx, 4, none⟩ = some (.int .i64 xtil) := cell_row V _ 4 _ _ hz2
        have c0 : V.cell? ⟨Bx, 0, none⟩ = some (.string ⟨xm.toArray⟩) := cell_row V _ 0 _ _ hz2
        have c1 : V.cell? ⟨Bx, 1, none⟩ = some (.int .i64 xn) := cell_row V _ 1 _ _ hz2
        have c2 : V.cell? ⟨Bx, 2, none⟩ = some (.int .i64 xt) := cell_row V _ 2 _ _ hz2
        have hok2 := HR.out.2.2.2.2.2.1
        have fin : ∀ (V' : World), Few V' M ps (2 * (k + 1)) (OkF p l) → Below M V V' → (∃ (k_1 : Nat) (ps_1 : List (List UInt8 × Nat)), k_1 ≤ n ∧ Value.int .i64 ((k : Int) + 1) = .int .i64 k_1 ∧ Few V' M ps_1 (2 * k_1) (OkF p l) ∧ V'.heap[bk]? = some (.cells (bools K).toArray 4 (0, 0)) ∧ PoBox w.heap.size p V' ∧ Below w.heap.size w V' ∧ M < V'.heap.size) ∧ n - (intOf (.int .i64 ((k : Int) + 1))).toNat < n - (intOf (.int .i64 (k : Int))).toNat := fun V' h1 h2 =>
          ⟨⟨k + 1, ps, by omega, by rw [Int.natCast_add]; rfl, h1, (h2.block _ hbk).trans hka2, hpo2.keep h2 hszV, hbV2.trans (h2.mono hMw), Nat.lt_of_lt_of_le hMs2 h2.size⟩, by simp [intOf]; omega⟩
        have HF := Lib.hid (And.intro fin (And.intro hF2 (And.intro hok2 hl2)))
        clear fin hok2 hz2 hka2 hpo2 hbV2 hl2
        cases fk
        · clear hF2
          go_wp2_with fail
          exact HF.out.1 _ (HF.out.2.1.mono (by omega)) (Below.refl _ _)
        · by_cases ht : xtil ≤ 9000000000000000000
          · have hlk2 := hF2.out.look HR.out.2.2.2.2.2.2.2.2.2
            rw [HF.out.2.2.2] at hlk2
            obtain ⟨wz, hup2, hF3, hg3⟩ := hF2.put HF.out.2.2.2 (q := (xt, xn)) HR.out.2.2.2.2.2.2.2.1 HR.out.2.2.2.2.2.2.2.2.1 (HF.out.2.2.1 rfl ht) (by omega)
            have hMb := (hF2.inn _ _ HF.out.2.2.2).1
            have hbz := below_row (M := M) hg3 (by omega) (by omega)
            replace hup2 : (Instr.mapUpdate 42 (.map (some b2)) (.agg #[.int .i64 xt, .int .i64 xn]) (.bool true)).run Tryz.prog V = .ok () wz := hup2
            clear hF2 hg3
            go_wp2_with fail
            exact HF.out.1 _ (hF3.mono (by omega)) hbz
          · clear hF2
            go_wp2_with fail
            exact HF.out.1 _ (HF.out.2.1.mono (by omega)) (Below.refl _ _)
    · obtain rfl : k = n := by omega
      obtain ⟨D, hown, -, hspec⟩ := hF.out
      have hinn := hF.inn
      obtain ⟨f1, f2, f3, f4⟩ := Pl.polE_fit HH.out.2.2.2.2.2.2.2.2.2.1
      have u1 : IntKind.i64.wrap (p.d + p.w) = p.d + p.w := IntWalk.i64_in _ (by omega)
      have u2 : IntKind.i64.wrap (p.d + p.w + p.mo) = p.d + p.w + p.mo := IntWalk.i64_in _ (by omega)
      have u3 : IntKind.i64.wrap (p.d + p.w + p.mo + p.y) = p.d + p.w + p.mo + p.y := IntWalk.i64_in _ (by omega)
      clear hF f1 f2 f3 f4
      have HSP := Lib.hid (And.intro hspec hinn); clear hspec hinn
      go_wp2_with (at_range; refine wpList_range_own _ rfl _ 41 rfl 9 42 law_str Tryz.underlying41 RM M (2 * k) _ rfl hown ?_; intro w0 hrg0 hg0 hs0)
      go_frame
      have hb0 : Below wr.heap.size wr w0 := ⟨hg0.os, hg0.tape, hg0.output, hg0.size, fun j hj => hg0.block j hj (by simp)⟩
      have hpo0 := hpo.below hb0
      have hbV0 := hbV.trans (hb0.mono hbV.size)
      have hinn : ∀ m b, ps.lookup m = some b → b < wr.heap.size ∧ ∃ Q, SetP w0 b Q (2 * k) ∧ Q.Nodup ∧ ∀ q ∈ Q, OkF p l m q := fun m b hl => by
        obtain ⟨-, h2, Q, h3, h4⟩ := HSP.out.2 m b hl
        exact ⟨h2, Q, h3.grown hg0 (by simp), h4⟩
      obtain ⟨r, hr⟩ : ∃ r, wr.heap.size = r := ⟨_, rfl⟩
      rw [hr] at hrg0 hinn hMs
      have hrw : w.heap.size ≤ r := by omega
      rw [hr]
      have HI := Lib.hid (And.intro hrg0 (And.intro hinn (And.intro hpo0 hbV0))); clear hrg0 hinn hpo0 hbV0 hb0 hpo hbV hka hg0 hs0 hown hr
      go_loopw [10] (fun _ wq => ∃ (left : Lit → Bool) (cnt : Nat), wq.ranges Tryz.prog 9 RM M r (2 * k) D left cnt ∧ (∀ m b, ps.lookup m = some b → b < r ∧ ∃ Q, SetP wq b Q (2 * k) ∧ Q.Nodup ∧ ∀ q ∈ Q, OkF p l m q) ∧ PoBox w.heap.size p wq ∧ Below w.heap.size w wq) (fun _ wq => wq.rangeLeft M r)
      case atStart => exact ⟨_, _, HI.out.1, HI.out.2.1, HI.out.2.2.1, HI.out.2.2.2⟩
      case round =>
        obtain ⟨left, cnt, hrg, hinn, hpo, hbV⟩ := hrel
        clear HI
        go_wp2_with (at_next; refine wpList_next_ranges (α := ByteArray) (β := Option Nat) _ rfl _ rfl 9 law_str RM Value.string Value.map (fun key kl h => by obtain ⟨s, h1, _⟩ := WideMaps.string_of_keyOf Tryz.underlying9 h; exact ⟨s, h1⟩) (fun v y h => RM_inv h) M r (2 * k) _ _ _ rfl hrg ?_ ?_)
        · intro _ hl0
          clear hinn hpo hrg hl0
          go_wp2_with fail
          go_ret
          exact ⟨_, rfl, rfl, hbV⟩
        · intro x c' kl y yp v1 cnt1 hkey hlk hR hat hrg1 hlt hg1 hs1 hen
          obtain ⟨s', e1, rfl, _⟩ := WideMaps.string_of_keyOf Tryz.underlying9 hkey
          obtain ⟨b2, hlb, rfl⟩ : ∃ b2, ps.lookup x.data.toList = some b2 ∧ c' = some b2 := by
            injection e1 with e1
            subst e1
            cases hl : ps.lookup x.data.toList with
            | none =>
              have h1 := hat (.lit (.bool true))
              have h2 := hat (.lit (.bool false))
              rw [HSP.out.1, hl] at h1 h2
              dsimp only at h1 h2
              rw [← h1] at h2
              cases h2
            | some b2 =>
              have h1 := hat .nil
              rw [HSP.out.1, hl] at h1
              dsimp only at h1
              subst h1
              exact ⟨b2, rfl, RM_some hR⟩
          obtain ⟨hbr, Q, hset, hnd, hQ⟩ := hinn _ _ hlb
          have hbound := few_bound HH.out.2.2.2.2.2.2.2.2.2.1 hnd hQ
          have hlen := fun ty => (hset.grown hg1 (by simp; omega)).len ty
          have hb1 : Below w.heap.size v1 v1 := Below.refl _ _
          have hbw1 : Below w.heap.size w v1 := hbV.grown hg1 hbV.size (fun j hj => by injection hj with hj; omega)
          have hpo1 : PoBox w.heap.size p v1 := by
            have hbr1 : Below r wr v1 := (Below.refl r wr).grown hg1 (by have := hrg.lt; omega) (fun j hj => by injection hj with hj; omega)
            exact hpo.keep hbr1 (by omega)
          have hinn1 : ∀ m b, ps.lookup m = some b → b < r ∧ ∃ Q, SetP v1 b Q (2 * k) ∧ Q.Nodup ∧ ∀ q ∈ Q, OkF p l m q := fun m b hl => by
            obtain ⟨h2, Q, h3, h4⟩ := hinn m b hl
            exact ⟨h2, Q, h3.grown hg1 (by simp; omega), h4⟩
          have hgt : decide (p.d + p.w + p.mo + p.y < (Q.length : Int)) = false := decide_eq_false (by omega)
          have x0 := hpo1.c0
          have x1 := hpo1.c1
          have x2 := hpo1.c2
          have x3 := hpo1.c3
          have HZ := Lib.hid (And.intro hrg1 (And.intro hinn1 (And.intro hpo1 (And.intro hbw1 hlt))))
          clear hrg1 hinn1 hpo1 hbw1 hlt hb1 hset hnd hQ hinn hpo hbV hbound hat hR hkey hlk hlb e1 hg1 hs1 hbr
          go_wp2_with fail
          exact ⟨⟨_, cnt1, HZ.out.1, HZ.out.2.1, HZ.out.2.2.1, HZ.out.2.2.2.1⟩, by rw [HZ.out.1.left_eq, hrg.left_eq]; exact HZ.out.2.2.2.2⟩
-- FRAME
set_option maxRecDepth 100000 in
theorem policyFew_lifted (os : Os) (started : os.Started) (H : Type) (enc : TypeId × Value → H) :
    ReturnsInHanded {} Tryz.checked os 5 .any (fun w args => (Rows.policyFewSpec.pre enc Tryz.prog Tryz.f5 [] false w args ∧ laidMetH Tryz.prog tabs7 w) ∧ sizedMet enc Tryz.prog Tryz.f5 (OpenSpec.ofChange Rows.policyFewSpec) false w args) (Rows.policyFewSpec.post enc Tryz.prog Tryz.f5 false true false false) := by
  refine handed_and_shaped (C := Tryz.checked) (X := fun w _ => laidMetH Tryz.prog tabs7 w) (fun _ _ _ hh h => h.of_heap hh) own started (by kernel_rfl) Tryz.func5
    (ChangeSpec.witness_shaped (enc := enc) (C := Tryz.checked) (os := os) (X := fun w _ => laidMetH Tryz.prog tabs7 w) false (World.laidAll Tryz.prog os tabs7) #[.agg #[.int .i64 0, .int .i64 0, .int .i64 0, .int .i64 0], .slice none 0 0] 8 (World.laidAll_os _ _ _) (door_shaped7 os) (by kernel_rfl) (by kernel_rfl) (by kernel_rfl) (door_met7 os _)) ?_
  intro W base args ds gs before hval0 hW hcnd hsz0 hL hsh _
  have hvars := vpol_of7 hL hsh
  have hval : ∀ (j : Nat) t v, Tryz.f5.params[j]? = some t → args[j]? = some v → Value.okWide Tryz.prog W .any base t v := hval0
  have hW' := hW
  obtain ⟨p, q, hA0, hV, rfl, hfz, hnd⟩ := hW
  have hA : DataW.TrodAll enc Tryz.prog W 0 (fun _ => true) true Tryz.f5.params.toList args.toList ds p := hA0
  have hsz : (DataW.weightsEach Tryz.prog (Tryz.f5.params.toList ++ Rows.policyFewSpec.plain.varTypes Tryz.prog) (ds ++ gs)).all (· ≤ reachBytes) = true := hsz0
  rw [Tryz.params5] at hA hval hsz
  obtain ⟨v0, vs0, d0, ds0, p0, q0, hargs, rfl, rfl, h0, r0⟩ := trodAll_cons hA
  obtain ⟨v1, vs1, d1, ds1, p1, q1, rfl, rfl, rfl, h1, r1⟩ := trodAll_cons r0
  obtain ⟨rfl, rfl, rfl⟩ := trodAll_nil r1
  obtain rfl : args = #[v0, v1] := by cases args; simp_all
  obtain ⟨rfl, rfl⟩ := trodVars_none hV
  have k0 := h0
  have lt0 : ∀ x ∈ p0, x.block < W.heap.size := by obtain ⟨m, hm⟩ := k0; exact DataW.trod_lt m _ _ _ hm
  have hz0 : ∀ m ∈ d0.weights Tryz.prog 23, m ≤ reachBytes := fun m hm => by
    have h1 := List.all_eq_true.1 hsz m (DataW.weights_mem_each (j := 0) rfl rfl m hm)
    simpa using h1
  obtain ⟨q0, rfl, eA0⟩ := open_pol (hval 0 23 v0 rfl rfl) h0 hz0
  have k1 := h1
  have lt1 : ∀ x ∈ p1, x.block < W.heap.size := by obtain ⟨m, hm⟩ := k1; exact DataW.trod_lt m _ _ _ hm
  have hz1 : ∀ m ∈ d1.weights Tryz.prog 32, m ≤ reachBytes := fun m hm => by
    have h1 := List.all_eq_true.1 hsz m (DataW.weights_mem_each (j := 1) rfl rfl m hm)
    simpa using h1
  obtain ⟨l1, eA1⟩ := open_rfs (hval 1 32 v1 rfl rfl) h1 hz1
  clear hA0 hval0 hsz0
  refine (policyFew_walk q0 v1 l1 W eA0 eA1 hvars).mono fun e W' ⟨v, he, hv, bel⟩ => ?_
  subst he hv
  exact ⟨_, rfl, _, _, _, [], _, [], hW', trodAll_mk1 (shut_bool Tryz.underlying4 _), (trodAll_cons_mk (Below.trod laidOut (by kernel_rfl) (of_decide_eq_true (by kernel_rfl)) k0 bel lt0) (trodAll_cons_mk (Below.trod laidOut (by kernel_rfl) (of_decide_eq_true (by kernel_rfl)) k1 bel lt1) trodAll_mk0)), rfl, bel.frame _, fun h => by cases h⟩

theorem policyFew_row : Rows.PolicyFewSaid :=
  OpenClaim.holds_of_wide 5 Tryz.f5 rfl rfl rfl rfl rfl rfl rfl ⟨rfl, rfl, rfl, rfl, rfl⟩ rfl rfl rfl rfl rfl (by kernel_rfl) Tryz.func5 (by kernel_rfl)
    (of_decide_eq_true (by kernel_rfl)) (by unfold Func.isWrapper; first | (rw [if_pos (by decide +kernel)]; kernel_rfl) | (rw [if_neg (by decide +kernel)]; exact ⟨rfl, rfl⟩))
    (fun os started H enc _ => policyFew_lifted os started H enc)

theorem policyFew_holds : Rows.PolicyFewCardSaid :=
  Claim7.holds_tied_plain_at .later [] [.data, .data, .data, .data, .sentinel, .sentinel, .pinned] true (true, "02b003ade427d62ed0908f33fa3ad860fd25ad3502c2ef17bff12e515b4c93bc") true
    policyFew_row (fun _ h => by cases h) (by kernel_rfl) (fun _ h => by cases h) policyFew_row_tie rfl ⟨rfl, rfl⟩ (by kernel_rfl) rfl
    (fun f fn hf hfn => by
      obtain rfl : f = 5 := Option.some.inj ((show Tryz.prog.funcNamed "hibernacle/hibernaclelaw49.PolicyFew" = some 5 by kernel_rfl).symm.trans hf) |>.symm
      obtain rfl : fn = Tryz.f5 := (Option.some.inj (Tryz.func5.symm.trans hfn)).symm
      exact ⟨by kernel_rfl, fun j t ht => by
        rw [Tryz.params5] at ht
        rcases j with _ | _ | _ | _ | j
        all_goals first
          | (simp at ht; done)
          | (have h3 := Option.some.inj ht; subst h3; exact (show Tryz.prog.wantsStandIn _ = false by kernel_rfl))⟩)
    (by kernel_rfl)
#print axioms policyFew_holds
end Go.Proofs.YtmncgnmgdkdhaaaGreatDoor
