/- The walk of hold.Set: a snapshot is held, for longer. -/
import Derived.Test.YteamkiblogbfmaaHoldW3
import Derived.Test.YteamkiblogbfmaaHoldW2
namespace Go.Proofs.Yteamkiblogbfmaa
open Go.RowKit
set_option linter.unusedVariables false
set_option linter.unusedSimpArgs false
/-- What Set returns. -/
def SetOut (R : Pl.Rt) (m : List UInt8) (n til : Int) (v : Value) (w' : World) : Prop := ∃ rv, v = .tuple #[rv, .int .i64 (Pl.setE R m n til)] ∧ RootV (Pl.setR R m n til) rv w'
/-- What hold.Set returns: all its lists are rows of its own. -/
def RtOwn (R : Pl.Rt) (B : Nat) (rv : Value) (w' : World) : Prop := ∃ s p c sv, rv = rtV R s p c ∧ CpAt R B s p c sv w'
def SetOwn (R : Pl.Rt) (m : List UInt8) (n til : Int) (B : Nat) (v : Value) (w' : World) : Prop := ∃ rv, v = .tuple #[rv, .int .i64 (Pl.setE R m n til)] ∧ RtOwn (Pl.setR R m n til) B rv w'
theorem own_type_ne {w : World} {b1 b2 : Nat} {e1 e2 : TypeId} {k1 k2 n1 n2 : Nat} {v1 v2 : Value} {x1 x2 : List Value} (h1 : w.ownsRow b1 e1 k1 v1 n1 x1) (h2 : w.ownsRow b2 e2 k2 v2 n2 x2) (he : e1 ≠ e2) {g : Nat} (hg : v1.ownBlock = some g) : v2.ownBlock ≠ some g := by
  intro h
  rcases h1.2 with ⟨rfl, -⟩ | ⟨q1, _, _, rfl, -, a1, -⟩
  · simp [Value.ownBlock] at hg
  rcases h2.2 with ⟨rfl, -⟩ | ⟨q2, _, _, rfl, -, a2, -⟩
  · simp [Value.ownBlock] at h
  simp [Value.ownBlock] at hg h
  subst hg h
  rw [a1] at a2
  injection a2 with a2
  injection a2 with _ a2
  exact he a2
theorem hold1_len (l : List Pl.Rf) (i : Nat) (til : Int) : (Pl.hold1 l i til).length = l.length := by simp [Pl.hold1]
theorem rfCs_hold (l : List Pl.Rf) (i : Nat) (til : Int) (hi : i < l.length) : (rfCs l).set (i * 5 + 4) (.int .i64 til) = rfCs (Pl.hold1 l i til) := by
  have hl := rfCs_len l
  have hl2 := rfCs_len (Pl.hold1 l i til)
  rw [hold1_len] at hl2
  refine List.ext_getElem? fun q => ?_
  rw [List.getElem?_set, hl]
  rcases Nat.lt_or_ge q (l.length * 5) with hq | hq
  · have hq2 : q / 5 < l.length := by omega
    have hm : q % 5 < 5 := Nat.mod_lt _ (by omega)
    have a := rfCs_get l (q / 5) (q % 5) hq2 hm
    have b := rfCs_get (Pl.hold1 l i til) (q / 5) (q % 5) (by rw [hold1_len]; exact hq2) hm
    rw [show q / 5 * 5 + q % 5 = q by omega] at a b
    rw [a, b]
    by_cases hiq : i = q / 5
    · subst hiq
      have e : (Pl.hold1 l (q / 5) til)[q / 5]'(by rw [hold1_len]; exact hq2) = { l[q / 5] with til := til } := by
        unfold Pl.hold1
        rw [List.getElem_set_self, List.getD_eq_getElem?_getD, List.getElem?_eq_getElem hq2]; rfl
      rw [e]
      by_cases h4 : q % 5 = 4
      · rw [if_pos (by omega), if_pos (by omega), h4]; rfl
      · rw [if_neg (by omega)]
        generalize q % 5 = r at hm h4
        match r, hm, h4 with
        | 0, _, _ => rfl
        | 1, _, _ => rfl
        | 2, _, _ => rfl
        | 3, _, _ => rfl
        | 4, _, h4 => exact absurd rfl h4
    · have e : (Pl.hold1 l i til)[q / 5]'(by rw [hold1_len]; exact hq2) = l[q / 5] := by
        unfold Pl.hold1
        rw [List.getElem_set_ne hiq]
      rw [e, if_neg (by omega)]
  · rw [if_neg (by omega), List.getElem?_eq_none (by omega), List.getElem?_eq_none (by omega)]
theorem CpAt.but {R : Pl.Rt} {B : Nat} {s p c : Value} {sv : List Value} {w w' : World} (h : CpAt R B s p c sv w) {g : Nat} (hk : ∀ i, i < w.heap.size → i ≠ g → w'.heap[i]? = w.heap[i]?) (hg : g < B) : CpAt R B s p c sv w' :=
  ⟨own_but h.s hk hg, h.len, own_but h.p hk hg, fun q x s hx hs => own_but (h.pl q x s hx hs) hk hg, own_but h.c hk hg⟩
theorem CpAt.rt {R : Pl.Rt} {B : Nat} {s p c : Value} {sv : List Value} {w : World} (h : CpAt R B s p c sv w) : RtAt w R s p c :=
  ⟨SlV.own h.s, PkV.own h.len h.p (fun q x s hx hs => SlV.own (h.pl q x s hx hs)), SlV.own h.c⟩
theorem CpAt.weak {R : Pl.Rt} {B B' : Nat} {s p c : Value} {sv : List Value} {w : World} (h : CpAt R B s p c sv w) (hB : B' ≤ B) : CpAt R B' s p c sv w :=
  ⟨own_weak h.s hB, h.len, own_weak h.p hB, fun q x s hx hs => own_weak (h.pl q x s hx hs) hB, own_weak h.c hB⟩
theorem CpAt.zero (w : World) (B : Nat) : CpAt Pl.Rt.zero B (.slice none 0 0) (.slice none 0 0) (.slice none 0 0) [] w :=
  ⟨World.ownsRow_nil _ _ _ _, rfl, World.ownsRow_nil _ _ _ _, (fun q x s hx => by simp [Pl.Rt.zero] at hx), World.ownsRow_nil _ _ _ _⟩
theorem CpAt.below {R : Pl.Rt} {B : Nat} {s p c : Value} {sv : List Value} {w w' : World} (h : CpAt R B s p c sv w) (hb : Below w.heap.size w w') : CpAt R B s p c sv w' :=
  ⟨own_below h.s hb, h.len, own_below h.p hb, fun q x s hx hs => own_below (h.pl q x s hx hs) hb, own_below h.c hb⟩
theorem RtOwn.root {R : Pl.Rt} {B : Nat} {v : Value} {w : World} (h : RtOwn R B v w) : RootV R v w := by
  obtain ⟨s, p, c, sv, h1, h2⟩ := h
  exact ⟨s, p, c, h1, h2.rt⟩
theorem ne_root {w : World} {b k n B : Nat} {e : TypeId} {v : Value} {xs : List Value} {C : Array Value} (h : w.ownsRow b e k v n xs) (he : e ≠ 28) (hC : w.heap[B]? = some (.cells C 28 (0, 0))) : v.ownBlock ≠ some B := by
  intro eq
  rcases h.2 with ⟨rfl, -⟩ | ⟨g, cap, cur, rfl, -, hg, -⟩
  · simp [Value.ownBlock] at eq
  · simp [Value.ownBlock] at eq
    subst eq
    rw [hg] at hC
    injection hC with hC
    injection hC with _ hC
    exact he hC
/-- A root's box is written: rows of one's own are as they were. -/
theorem CpAt.boxed {R : Pl.Rt} {B g : Nat} {s p c : Value} {sv : List Value} {w w' : World} {C : Array Value} (h : CpAt R B s p c sv w) (hg : w.heap[g]? = some (.cells C 28 (0, 0))) (hk : ∀ i, i < w.heap.size → i ≠ g → w'.heap[i]? = w.heap[i]?) : CpAt R B s p c sv w' :=
  ⟨own_but' h.s hk (ne_root h.s (by decide) hg), h.len, own_but' h.p hk (ne_root h.p (by decide) hg), fun q x s hx hs => own_but' (h.pl q x s hx hs) hk (ne_root (h.pl q x s hx hs) (by decide) hg), own_but' h.c hk (ne_root h.c (by decide) hg)⟩
theorem CpAt.hold {R : Pl.Rt} {B g n k : Nat} {p c : Value} {sv : List Value} {w : World} (h : CpAt R B (.slice (some ⟨g, 0, none⟩) n k) p c sv w) (hn : n = R.l.length) (i : Nat) (hi : i < n) (til : Int) :
    CpAt { R with l := Pl.hold1 R.l i til } B (.slice (some ⟨g, 0, none⟩) n k) p c sv (w.setCell ⟨g, i * 5 + 4, none⟩ (.int .i64 til)) := by
  subst hn
  have hst := (h.s.stored (i * 5 + 4) (.int .i64 til)).1
  rw [rfCs_hold R.l i til hi] at hst
  have hk := set_but w g (i * 5 + 4) (.int .i64 til)
  have hb : (Value.slice (some ⟨g, 0, none⟩) R.l.length k).ownBlock = some g := rfl
  refine ⟨?_, h.len, own_but' h.p hk (own_type_ne h.s h.p (by decide) hb), fun q x s hx hs => own_but' (h.pl q x s hx hs) hk (own_type_ne h.s (h.pl q x s hx hs) (by decide) hb), own_but' h.c hk (own_type_ne h.s h.c (by decide) hb)⟩
  simp only [hold1_len]
  exact hst
/-- The zero root's cells. -/
def rtZ : List Value := [.int .i64 0, .int .i64 0, .slice none 0 0, .slice none 0 0, .int .i64 0, .int .i64 0, .int .i64 0, .int .i64 0, .slice none 0 0]
theorem results_row2 {fn : Func} {tmps : Array Value} {w : World} {a b B : Nat} {T : TypeId} {cs : List Value} {d : TypeDesc} (hf : fn.results = #[.cell a T, .tmp b]) (ha : tmps[a]?.getD undef = .pointer (some ⟨B, 0, none⟩)) (hc : w.rangeAt B 0 cs) (hu : Try.prog.underlying T = some d) (hd : d.isRow = true) (hi : (Try.prog.info? T).map (·.size) = some cs.length) :
    (results fn tmps).run Try.prog w = .ok (.tuple #[.agg cs.toArray, tmps.getD b undef]) w := by
  have h := run_loadVar_mid (P := Try.prog) w B 0 T cs d hc hu hd hi
  simp [results, hf, ha, asAddr, h, Sem.run_bind]
theorem fiV_neg {l : List Pl.Rf} {m : List UInt8} {n : Int} (h : l.length ≤ Pl.fi l m n) : fiV l m n = -1 := by unfold fiV; rw [if_pos h]
theorem fiV_pos {l : List Pl.Rf} {m : List UInt8} {n : Int} (h : ¬ l.length ≤ Pl.fi l m n) : fiV l m n = (Pl.fi l m n : Int) := by unfold fiV; rw [if_neg h]
theorem build_rt (w : World) : (Instr.build 28 #[]).run Try.prog w = .ok (.agg rtZ.toArray) w := run_build w 28 _ _ (by kernel_rfl)
/-- The zero root, as an opaque list. -/
structure ZRt (Z : List Value) : Prop where
  eq : Z = rtZ
theorem ZRt.one {Z : List Value} (h : ZRt Z) : Z.toArray.all (·.oneCell') = true := by
  rw [h.eq]
  exact all_oneCell_toArray fun v hv => by
    simp only [rtZ, List.mem_cons, List.not_mem_nil, or_false] at hv
    rcases hv with rfl | rfl | rfl | rfl | rfl | rfl | rfl | rfl | rfl <;> rfl
theorem ZRt.info {Z : List Value} (h : ZRt Z) : (Try.prog.info? 28).map (·.size) = some Z.length := by rw [h.eq]; exact info_root
theorem ZRt.infoa {Z : List Value} (h : ZRt Z) : (Try.prog.info? 28).map (·.size) = some Z.toArray.size := by rw [h.eq]; exact info_root
theorem ZRt.build {Z : List Value} (h : ZRt Z) {ops : Array Oper} {rest : List Oper} {op : Oper} {a : Act} {w : World} {Q : Exit → Act → World → Prop} (hgd : op.guard = none) (ho : op.op = .build 28 #[])
    (hh : wpList Try.prog ops Q rest (a.put op.dst (.agg Z.toArray)) w) : wpList Try.prog ops Q (op :: rest) a w := by
  rw [h.eq] at hh
  exact wpList_plain hgd fun _ hK => by
    unfold Oper.wp execOp
    simp only [ho, Array.map_empty, Sem.run_bind, build_rt, Result.andThen_ok, Sem.run_pure]
    exact hK _ _ hh
set_option maxRecDepth 100000 in
set_option maxHeartbeats 4000000 in
theorem set_own (R : Pl.Rt) (s p c : Value) (m : List UInt8) (n til : Int) (w : World) (hok : RtOk R) (h : RtAt w R s p c) : Calls Try.prog 12 #[rtV R s p c, .string ⟨m.toArray⟩, .int .i64 n, .int .i64 til] w (RetB (SetOwn R m n til w.heap.size) w) := by
  have hfind := fun W (hb : Below w.heap.size w W) => find_any R s p c m n W (by have := hok.l; omega) (h.below hb)
  have hcopy := fun W (hb : Below w.heap.size w W) => copy_any R s p c W hok (h.below hb)
  obtain ⟨E, hE⟩ : ∃ E, E = Pl.setE R m n til := ⟨_, rfl⟩
  obtain ⟨R', hR'⟩ : ∃ R', R' = Pl.setR R m n til := ⟨_, rfl⟩
  have hout : SetOwn R m n til w.heap.size = fun v w' => ∃ rv, v = .tuple #[rv, .int .i64 E] ∧ RtOwn R' w.heap.size rv w' := by rw [hE, hR']; rfl
  rw [hout]
  obtain ⟨r0, hr0⟩ : ∃ x, x = R.n := ⟨_, rfl⟩
  obtain ⟨r1, hr1⟩ : ∃ x, x = R.now := ⟨_, rfl⟩
  obtain ⟨r2, hr2⟩ : ∃ x, x = R.p.d := ⟨_, rfl⟩
  obtain ⟨r3, hr3⟩ : ∃ x, x = R.p.w := ⟨_, rfl⟩
  obtain ⟨r4, hr4⟩ : ∃ x, x = R.p.mo := ⟨_, rfl⟩
  obtain ⟨r5, hr5⟩ : ∃ x, x = R.p.y := ⟨_, rfl⟩
  have hV : ∀ s p c, rtV R s p c = .agg #[.int .i64 r0, .int .i64 r1, s, p, .int .i64 r2, .int .i64 r3, .int .i64 r4, .int .i64 r5, c] := by
    intro s p c; rw [hr0, hr1, hr2, hr3, hr4, hr5]; rfl
  rw [hV] at hfind hcopy ⊢
  obtain ⟨hs, hp, hc⟩ := h
  obtain ⟨A0, k0, rfl, hrd0, hn0⟩ := hs
  obtain ⟨sv0, -, ⟨A1, k1, rfl, -, -⟩, -⟩ := hp
  obtain ⟨A2, k2, rfl, -, -⟩ := hc
  obtain ⟨N, hN⟩ : ∃ N, N = R.l.length := ⟨_, rfl⟩
  rw [← hN] at hfind hcopy hrd0 ⊢
  obtain ⟨N1, hN1⟩ : ∃ N, N = R.pk.length := ⟨_, rfl⟩
  obtain ⟨N2, hN2⟩ : ∃ N, N = R.ch.length := ⟨_, rfl⟩
  rw [← hN1, ← hN2] at hfind hcopy ⊢
  obtain ⟨F, hF⟩ : ∃ F, F = fiV R.l m n := ⟨_, rfl⟩
  rw [← hF] at hfind
  have HH := Lib.hid (And.intro hfind (And.intro hcopy (And.intro hE (And.intro hR' (And.intro hV (And.intro hN (And.intro hF (And.intro hrd0 hr1))))))))
  clear hfind hcopy hE hR' hV hr0 hr2 hr3 hr4 hr5 hN hN1 hN2 hF hrd0 hn0 hout hr1
  obtain ⟨Z, hZ⟩ : ∃ Z, ZRt Z := ⟨_, ⟨rfl⟩⟩
  go_enter Try.func12, Try.ntmps12
  go_upto_region 1 with (fail)
  generalize hW : World.alloc (World.alloc w _) _ = W
  have hbW : Below w.heap.size w W := by rw [← hW]; exact ((Below.refl _ _).alloc (Nat.le_refl _) _).alloc (by simp) _
  have hx : W.heap[w.heap.size]? = some (.cells #[.int .i64 r0, .int .i64 r1, .slice A0 N k0, .slice A1 N1 k1, .int .i64 r2, .int .i64 r3, .int .i64 r4, .int .i64 r5, .slice A2 N2 k2] 28 (0, 0)) := by rw [← hW]; exact (Below.heap_alloc _ _ _ (by simp)).trans (heap_alloc_new w _)
  have hz : W.heap[w.heap.size + 1]? = some (.cells rtZ.toArray 28 (0, 0)) := by rw [← hW]; exact heap_alloc_2 w _ _
  have hsz := blk_lt hz
  obtain ⟨L, hL⟩ : ∃ L : List Value, L = [.int .i64 r0, .int .i64 r1, .slice A0 N k0, .slice A1 N1 k1, .int .i64 r2, .int .i64 r3, .int .i64 r4, .int .i64 r5, .slice A2 N2 k2] := ⟨_, rfl⟩
  have hx : W.heap[w.heap.size]? = some (.cells L.toArray 28 (0, 0)) := by rw [hL]; exact hx
  have hif : (Try.prog.info? 28).map (·.size) = some L.length := by rw [hL]; exact info_root
  have HW := Lib.hid (And.intro hbW (And.intro hx hz)); clear hbW hx hz hW
  go_wp2_with (with_reducible refine wpList_load_mid rfl 28 _ rfl w.heap.size 0 rfl L _ (range_rowd HW.out.2.1) Try.underlying28 rfl hif ?_)
  refine (HH.out.1 W HW.out.1).mono ?_
  rintro e w1 ⟨v1, rfl, rfl, hb1⟩
  have hx1 := (hb1.block _ (by omega)).trans HW.out.2.1
  have hz1 := (hb1.block _ hsz).trans HW.out.2.2
  have hbw := HW.out.1.trans (hb1.mono HW.out.1.size)
  clear hx hb1 HW
  have hsz := blk_lt hz1
  have hx1' := hx1
  rw [hL] at hx1'
  have x1 : w1.cell? ⟨w.heap.size, 1, none⟩ = some (.int .i64 r1) := cell_row w1 _ 1 _ _ hx1'
  have x2 : w1.cell? ⟨w.heap.size, 2, none⟩ = some (.slice A0 N k0) := cell_row w1 _ 2 _ _ hx1'
  have hTZ : w1.there (w.heap.size + 1) 0 Z.toArray.size := there_rowd hz1 (by rw [hZ.eq]; exact Nat.le_refl _)
  have hTZ' : w1.there (w.heap.size + 1) 0 Z.length := by rw [List.size_toArray] at hTZ; exact hTZ
  have H1 := Lib.hid (And.intro hx1 (And.intro hz1 (And.intro hbw hL))); clear hx1 hz1 hbw hx1' hL
  have hz0 : World.rangeAt (w1.setCells (w.heap.size + 1) 0 Z) (w.heap.size + 1) 0 Z := World.rangeAt_setCells_same _ _ _ _ hTZ'
  have hbz : Below w.heap.size w (w1.setCells (w.heap.size + 1) 0 Z) := H1.out.2.2.1.trans (Lib.below_setCells_w (Nat.le_succ _) _ _ _)
  by_cases c1 : R.l.length ≤ Pl.fi R.l m n
  · have hF : F = -1 := by rw [HH.out.2.2.2.2.2.2.1, fiV_neg c1]
    have hE : E = 9 := by rw [HH.out.2.2.1]; unfold Pl.setE; rw [if_pos c1]
    have hR : R' = Pl.Rt.zero := by rw [HH.out.2.2.2.1]; unfold Pl.setR; rw [← HH.out.2.2.1, hE, if_neg (by decide)]
    subst hF hE hR
    go_wp2_with (first | (with_reducible refine hZ.build rfl rfl ?_) | (with_reducible refine wpList_store_mid rfl 28 _ _ rfl (w.heap.size + 1) 0 Z.toArray rfl rfl hTZ hZ.infoa hZ.one ?_))
    refine bodyPost_ret (results_row2 (cs := Z) rfl rfl hz0 Try.underlying28 rfl hZ.info) rfl ?_
    exact ⟨_, rfl, ⟨_, rfl, by rw [hZ.eq]; exact ⟨_, _, _, _, rfl, CpAt.zero _ _⟩⟩, hbz⟩
  · obtain ⟨i, hi⟩ : ∃ i, i = Pl.fi R.l m n := ⟨_, rfl⟩
    have hF : F = (i : Int) := by rw [HH.out.2.2.2.2.2.2.1, fiV_pos c1, hi]
    have hiN : i < N := by rw [HH.out.2.2.2.2.2.1, hi]; omega
    have hSE : E = if til ≤ r1 then 1 else if til < (R.l.getD i default).til then 20 else 0 := by
      rw [HH.out.2.2.1, hi, HH.out.2.2.2.2.2.2.2.2]; unfold Pl.setE; rw [if_neg c1]
    have hSR : R' = if E = 0 then { R with l := Pl.hold1 R.l i til } else Pl.Rt.zero := by
      rw [HH.out.2.2.2.1, HH.out.2.2.1, hi]; rfl
    subst hF
    obtain ⟨b, off, rfl, hbb, hrf⟩ := HH.out.2.2.2.2.2.2.2.1.rf HH.out.2.2.2.2.2.1.symm hiN
    obtain ⟨y, hy⟩ : ∃ y, R.l.getD i default = y := ⟨_, rfl⟩
    obtain ⟨-, -, -, -, q4⟩ := hrf y hy
    rw [hy] at hSE
    have y4 := (H1.out.2.2.1.cell (p := ⟨b, off + i * 5 + 4, none⟩) hbb).trans q4
    obtain ⟨yt, hyt⟩ : ∃ t, t = y.til := ⟨_, rfl⟩
    rw [← hyt] at y4 hSE
    have i0 : ¬ (i : Int) < 0 := by omega
    have i0' : (0 : Int) ≤ (i : Int) := by omega
    have i1 : (i : Int) < (N : Int) := by omega
    have HS := Lib.hid (And.intro hi (And.intro hy hok))
    clear hrf q4 hyt hi hy hok c1
    by_cases c2 : til ≤ r1
    · rw [if_pos c2] at hSE
      rw [hSE, if_neg (by decide)] at hSR
      subst hSE hSR
      go_wp2_with (first | (with_reducible refine hZ.build rfl rfl ?_) | (with_reducible refine wpList_store_mid rfl 28 _ _ rfl (w.heap.size + 1) 0 Z.toArray rfl rfl hTZ hZ.infoa hZ.one ?_))
      refine bodyPost_ret (results_row2 (cs := Z) rfl rfl hz0 Try.underlying28 rfl hZ.info) rfl ?_
      exact ⟨_, rfl, ⟨_, rfl, by rw [hZ.eq]; exact ⟨_, _, _, _, rfl, CpAt.zero _ _⟩⟩, hbz⟩
    · rw [if_neg c2] at hSE
      by_cases c3 : til < yt
      · rw [if_pos c3] at hSE
        rw [hSE, if_neg (by decide)] at hSR
        subst hSE hSR
        go_wp2_with (first | (with_reducible refine hZ.build rfl rfl ?_) | (with_reducible refine wpList_store_mid rfl 28 _ _ rfl (w.heap.size + 1) 0 Z.toArray rfl rfl hTZ hZ.infoa hZ.one ?_))
        refine bodyPost_ret (results_row2 (cs := Z) rfl rfl hz0 Try.underlying28 rfl hZ.info) rfl ?_
        exact ⟨_, rfl, ⟨_, rfl, by rw [hZ.eq]; exact ⟨_, _, _, _, rfl, CpAt.zero _ _⟩⟩, hbz⟩
      · rw [if_neg c3] at hSE
        rw [hSE, if_pos rfl] at hSR
        subst hSE
        have HR := Lib.hid hSR; clear hSR
        clear hif
        go_upto_region 8 with (fail)
        have hif : (Try.prog.info? 28).map (·.size) = some L.length := by rw [H1.out.2.2.2]; exact info_root
        go_wp2_with (with_reducible refine wpList_load_mid rfl 28 _ rfl w.heap.size 0 rfl L _ (range_rowd H1.out.1) Try.underlying28 rfl hif ?_)
        have hcp : Calls Try.prog 23 #[.agg L.toArray] w1 (RetB (CopyOut R w1.heap.size) w1) := by rw [H1.out.2.2.2]; exact HH.out.2.1 w1 H1.out.2.2.1
        refine hcp.mono ?_
        rintro e w2 ⟨v2, rfl, ⟨s2, p2, ch2, sv2, rfl, hcp2⟩, hb2⟩
        clear hcp hif hbz hz0 hTZ' x1 x2 y4
        have hx2 := (hb2.block _ (by omega)).trans H1.out.1
        have hz2 := (hb2.block _ hsz).trans H1.out.2.1
        have hbw2 := H1.out.2.2.1.trans (hb2.mono H1.out.2.2.1.size)
        obtain ⟨g, k, rfl⟩ : ∃ g k, s2 = .slice (some ⟨g, 0, none⟩) N k := by
          have h := hcp2.s
          rw [← HH.out.2.2.2.2.2.1] at h
          rcases h.2 with ⟨-, h0⟩ | ⟨g, cap, cur, h1, -⟩
          · omega
          · exact ⟨g, cap, h1⟩
        obtain ⟨L2, hL2⟩ : ∃ L2 : List Value, L2 = [.int .i64 r0, .int .i64 r1, .slice (some ⟨g, 0, none⟩) N k, p2, .int .i64 r2, .int .i64 r3, .int .i64 r4, .int .i64 r5, ch2] := ⟨_, rfl⟩
        have hv : rtV R (.slice (some ⟨g, 0, none⟩) N k) p2 ch2 = .agg L2.toArray := by rw [HH.out.2.2.2.2.1, hL2]
        rw [hv]
        have hl9 : L2.length = 9 := by rw [hL2]; rfl
        have hone : L2.toArray.all (·.oneCell') = true := all_oneCell_toArray (by
          rw [hL2]; intro v hv
          simp only [List.mem_cons, List.not_mem_nil, or_false] at hv
          rcases hv with rfl | rfl | rfl | rfl | rfl | rfl | rfl | rfl | rfl
          · rfl
          · rfl
          · rfl
          · exact (SlV.own hcp2.p).one
          · rfl
          · rfl
          · rfl
          · rfl
          · exact (SlV.own hcp2.c).one)
        have hT2 : w2.there w.heap.size 0 L2.toArray.size := there_rowd hx2 (by rw [List.size_toArray, List.size_toArray, hl9, H1.out.2.2.2]; exact Nat.le_refl _)
        have hi2 : (Try.prog.info? 28).map (·.size) = some L2.toArray.size := by rw [List.size_toArray, hl9]; exact info_root
        have hil2 : (Try.prog.info? 28).map (·.size) = some L2.length := by rw [hl9]; exact info_root
        have H2 := Lib.hid (And.intro hx2 (And.intro hz2 (And.intro hbw2 (And.intro hcp2 (And.intro hL2 hv))))); clear hx2 hz2 hbw2 hcp2 hL2 hv
        go_upto_region 9 with (with_reducible refine wpList_store_mid rfl 28 _ _ rfl w.heap.size 0 L2.toArray rfl rfl hT2 hi2 hone ?_)
        generalize hW3 : World.setCells w2 _ _ _ = W3
        have hx3 : W3.heap[w.heap.size]? = some (.cells L2.toArray 28 (0, 0)) := by rw [← hW3]; exact heap_setCells_all H2.out.1 (by rw [hl9, H1.out.2.2.2]; rfl)
        have hbut : ∀ k, k < w2.heap.size → k ≠ w.heap.size → W3.heap[k]? = w2.heap[k]? := fun k hk hne => by rw [← hW3]; exact World.heap_setCells_other w2 _ _ _ hk hne
        have hz3 := (hbut (w.heap.size + 1) (blk_lt H2.out.2.1) (by omega)).trans H2.out.2.1
        have hc3 := H2.out.2.2.2.1.but hbut (by omega)
        have hbw3 : Below w.heap.size w W3 := by rw [← hW3]; exact H2.out.2.2.1.trans (Lib.below_setCells_w (Nat.le_refl _) _ _ _)
        clear hW3 hbut hT2
        have hx3' := hx3
        rw [H2.out.2.2.2.2.1] at hx3'
        have x2 : W3.cell? ⟨w.heap.size, 2, none⟩ = some (.slice (some ⟨g, 0, none⟩) N k) := cell_row W3 _ 2 _ _ hx3'
        have hown := hc3.s
        rw [← HH.out.2.2.2.2.2.1] at hown
        have hil : i < R.l.length := by rw [← HH.out.2.2.2.2.2.1]; exact hiN
        have y4 : W3.cell? ⟨g, i * 5 + 4, none⟩ = some (.int .i64 (R.l[i]'hil).til) := by rw [hown.cellAt _ (by omega), rfCs_get R.l i 4 hil (by omega)]; rfl
        have f4 := hown.frozenAt (i * 5 + 4)
        have hgl : w1.heap.size ≤ g := (hown.lt g rfl).1
        have H3 := Lib.hid (And.intro hx3 (And.intro hz3 (And.intro hc3 hbw3))); clear hx3 hz3 hc3 hbw3 hx3' hown
        go_upto_region 10 with (fail)
        generalize hW4 : World.setCell W3 _ _ = W4
        have hx4 : W4.heap[w.heap.size]? = some (.cells L2.toArray 28 (0, 0)) := by rw [← hW4]; exact (Below.heap_setCell _ _ _ _ (by simp; omega)).trans H3.out.1
        have hz4 : W4.heap[w.heap.size + 1]? = some (.cells rtZ.toArray 28 (0, 0)) := by rw [← hW4]; exact (Below.heap_setCell _ _ _ _ (by simp; omega)).trans H3.out.2.1
        have hc4 := H3.out.2.2.1.hold HH.out.2.2.2.2.2.1 i hiN til
        rw [hW4] at hc4
        have hbw4 : Below w.heap.size w W4 := by rw [← hW4]; exact H3.out.2.2.2.setCell (by show w.heap.size ≤ g; omega) _
        clear hW4 x2 y4 f4
        have hTW : W4.there (w.heap.size + 1) 0 L2.toArray.size := there_rowd hz4 (by rw [List.size_toArray, hl9]; exact Nat.le_refl _)
        have hTL : W4.there (w.heap.size + 1) 0 L2.length := by rw [List.size_toArray] at hTW; exact hTW
        have H4 := Lib.hid (And.intro hc4 hbw4); clear hc4 hbw4
        have hz4l := blk_lt hz4
        have hsv : w.heap.size + 1 < w1.heap.size := hsz
        clear hz4
        go_wp2_with (first | (with_reducible refine wpList_load_mid rfl 28 _ rfl w.heap.size 0 rfl L2 _ (range_rowd hx4) Try.underlying28 rfl hil2 ?_) | (with_reducible refine wpList_store_mid rfl 28 _ _ rfl (w.heap.size + 1) 0 L2.toArray rfl rfl hTW hi2 hone ?_))
        refine bodyPost_ret (results_row2 (cs := L2) rfl rfl (World.rangeAt_setCells_same _ _ _ _ hTL) Try.underlying28 rfl hil2) rfl ?_
        refine ⟨_, rfl, ⟨_, rfl, ?_⟩, H4.out.2.trans (Lib.below_setCells_w (Nat.le_succ _) _ _ _)⟩
        rw [HR.out]
        refine ⟨_, _, _, _, ?_, (H4.out.1.but (fun k hk hne => World.heap_setCells_other W4 _ _ _ hk hne) hsz).weak H1.out.2.2.1.size⟩
        rw [← H2.out.2.2.2.2.2]; rfl
theorem set_any (R : Pl.Rt) (s p c : Value) (m : List UInt8) (n til : Int) (w : World) (hok : RtOk R) (h : RtAt w R s p c) : Calls Try.prog 12 #[rtV R s p c, .string ⟨m.toArray⟩, .int .i64 n, .int .i64 til] w (RetB (SetOut R m n til) w) := by
  refine (set_own R s p c m n til w hok h).mono ?_
  rintro e w' ⟨v, h1, ⟨rv, h2, h3⟩, h4⟩
  exact ⟨v, h1, ⟨rv, h2, h3.root⟩, h4⟩
end Go.Proofs.Yteamkiblogbfmaa
