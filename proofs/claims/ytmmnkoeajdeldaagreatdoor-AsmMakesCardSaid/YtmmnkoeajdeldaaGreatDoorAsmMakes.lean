/- The document's Make (chapter 11). Printed by genmake11.py. AsmMakes: the program of any text, or why, and at which line, it has none, is the document's. (LAY8) -/
import Derived.Test.YtmmnkoeajdeldaaGreatDoorRH12
import Derived.Test.YtmmnkoeajdeldaaGreatDoorAsS
import Derived.Test.YtmmnkoeajdeldaaGreatDoorShaped
import Derived.Test.YtmmnkoeajdeldaaGreatDoorTie
import Derived.Test.YtmmnkoeajdeldaaGreatDoorCards
import Derived.Test.YtmmnkoeajdeldaaGreatDoorAsLaid
namespace Go.Proofs.YtmmnkoeajdeldaaGreatDoor
open Go.RowKit
set_option linter.unusedVariables false
set_option linter.unusedSimpArgs false
attribute [local go_sem] ba_get ba_cut ba_add
/-- The program of a text, or the error and its line. -/
def RMk (R : Except (Nat × Nat) Pl.Exe) (v : Value) (w' : World) : Prop := ∃ tA c, v = .tuple #[xeV tA c (Pl.resE R).1, .int .i64 ((Pl.resE R).2.1 : Int), .int .i64 ((Pl.resE R).2.2 : Int)] ∧ Rd w' 1 tA (Pl.resE R).1.text.length (w32s (Pl.resE R).1.text)
theorem info_exe : (Tryz.prog.info? 26).map (·.size) = some 4 := by kernel_rfl
theorem resultsA3 {fn : Func} {tmps : Array Value} {w : World} {a b c B : Nat} {T : TypeId} {cs : List Value} {d : TypeDesc} (hf : fn.results = #[.cell a T, .tmp b, .tmp c]) (ha : tmps[a]?.getD undef = .pointer (some ⟨B, 0, none⟩)) (hc : w.rangeAt B 0 cs) (hu : Tryz.prog.underlying T = some d) (hd : d.isRow = true) (hi : (Tryz.prog.info? T).map (·.size) = some cs.length) {x y : Value} (hx : tmps.getD b undef = x) (hy : tmps.getD c undef = y) :
    (results fn tmps).run Tryz.prog w = .ok (.tuple #[.agg cs.toArray, x, y]) w := by
  have h := run_loadVar_mid (P := Tryz.prog) w B 0 T cs d hc hu hd hi
  subst hx hy
  simp [results, hf, ha, asAddr, h]
/-- The boxes at the start: the result, and nothing. -/
structure MkI (w W : World) (B : Nat) : Prop where
  z0 : W.heap[B]? = some (.cells #[.slice none 0 0, .string ⟨#[]⟩, .int .i64 0, .int .u32 0] 26 (0, 0))
  z1 : W.heap[B + 1]? = some (.cells #[.slice none 0 0, .string ⟨#[]⟩, .int .i64 0, .int .u32 0] 26 (0, 0))
  bel : Below B w W
  hi : B + 2 ≤ W.heap.size
theorem MkI.call {w W W' : World} {B : Nat} (h : MkI w W B) (hb : Below W.heap.size W W') : MkI w W' B := ⟨(hb.block _ (blk_lt h.z0)).trans h.z0, (hb.block _ (blk_lt h.z1)).trans h.z1, h.bel.trans (hb.mono (by have := h.hi; omega)), Nat.le_trans h.hi hb.size⟩
theorem MkI.far {w W W' : World} {B D : Nat} (h : MkI w W B) (hb : Below D W W') (hD : B + 2 ≤ D) : MkI w W' B := ⟨(hb.block _ (by omega)).trans h.z0, (hb.block _ (by omega)).trans h.z1, h.bel.trans (hb.mono (by omega)), Nat.le_trans h.hi hb.size⟩
theorem MkI.drew {w W : World} {B : Nat} (h : MkI w W B) : MkI w W.drew B := ⟨h.z0, h.z1, h.bel.drew, h.hi⟩
/-- The box of the program while it is made, and its words. -/
structure MI (l : List Pl.It) (W : World) (E tl : Nat) (tA : Option Addr) (tc en : Nat) (w2 : World) (T : List Nat) : Prop where
  z : W.heap[E]? = some (.cells #[.slice tA tl tc, .string ⟨#[]⟩, .int .i64 0, .int .u32 (en : Int)] 26 (0, 0))
  own : W.ownsRow (E + 1) 24 1 (.slice tA tl tc) tl (w32s T)
  bel : Below E w2 W
  hi : E + 1 ≤ W.heap.size
theorem MI.drew {l : List Pl.It} {W : World} {E tl : Nat} {tA : Option Addr} {tc en : Nat} {w2 : World} {T : List Nat} (h : MI l W E tl tA tc en w2 T) : MI l W.drew E tl tA tc en w2 T := ⟨h.z, own_heap h.own fun _ _ _ => rfl, h.bel.drew, h.hi⟩
theorem MI.call {l : List Pl.It} {W W' : World} {E tl : Nat} {tA : Option Addr} {tc en : Nat} {w2 : World} {T : List Nat} (h : MI l W E tl tA tc en w2 T) (hb : Below W.heap.size W W') : MI l W' E tl tA tc en w2 T := ⟨(hb.block _ (blk_lt h.z)).trans h.z, own_below h.own hb, h.bel.trans (hb.mono (by have := h.hi; omega)), Nat.le_trans h.hi hb.size⟩
theorem MI.setN {l : List Pl.It} {W : World} {E tl : Nat} {tA : Option Addr} {tc en : Nat} {w2 : World} {T : List Nat} (h : MI l W E tl tA tc en w2 T) (n : Nat) {v : Int} (hv : v = (n : Int)) : MI l (W.setCell ⟨E, 3, none⟩ (.int .u32 v)) E tl tA tc n w2 T := by
  subst hv
  exact ⟨by rw [set_at W E 3 _ _ _ h.z]; rfl, own_heap h.own fun G hG _ => Below.heap_setCell _ _ _ _ (by show G ≠ E; omega), h.bel.setCell (by show E ≤ E; omega) _, by simp [World.setCell]; exact h.hi⟩
theorem MI.push {l : List Pl.It} {W W' : World} {E tl m : Nat} {tA A' : Option Addr} {tc c' en : Nat} {w2 : World} {T ws : List Nat} (h : MI l W E tl tA tc en w2 T) (hb : Below (E + 1) W W') (ho : W'.ownsRow (E + 1) 24 1 (.slice A' (tl + m) c') (tl + m) (w32s T ++ w32s ws)) : MI l (W'.setCell ⟨E, 0, none⟩ (.slice A' (tl + m) c')) E (tl + m) A' c' en w2 (T ++ ws) :=
  ⟨by rw [set_at W' E 0 _ _ _ ((hb.block _ (by omega)).trans h.z)]; rfl, own_heap (by rw [w32_app]; exact ho) fun G hG _ => Below.heap_setCell _ _ _ _ (by show G ≠ E; omega), (h.bel.trans (hb.mono (by omega))).setCell (by show E ≤ E; omega) _, by simp [World.setCell]; exact Nat.le_trans h.hi hb.size⟩
theorem textF_cons (all : List Pl.It) (i : Nat) (t : List Nat) (en : Nat) (x : Pl.It) (r : List Pl.It) : Pl.textF all i t en (x :: r) = match Pl.wordsD all x (4 * t.length) with
    | .error e => .error (e, i + 1)
    | .ok w => Pl.textF all (i + 1) (t ++ w) (if x.kind = 1 ∧ x.name = Pl.wStart then 4 * t.length else en) r := rfl
/-- The four cells of a program are stored into the result's box. -/
theorem exe4_heap {W : World} {B : Nat} {o0 o1 o2 o3 : Value} (h : W.heap[B]? = some (.cells #[o0, o1, o2, o3] 26 (0, 0))) (v0 v1 v2 v3 : Value) : ((((W.setCell ⟨B, 0, none⟩ v0).setCell ⟨B, 1, none⟩ v1).setCell ⟨B, 2, none⟩ v2).setCell ⟨B, 3, none⟩ v3).heap[B]? = some (.cells #[v0, v1, v2, v3] 26 (0, 0)) := by
  rw [set_at _ B 3 _ _ _ (set_at _ B 2 _ _ _ (set_at _ B 1 _ _ _ (set_at _ B 0 _ _ _ h)))]; rfl
theorem exe4_below {w W : World} {B : Nat} (h : Below B w W) (v0 v1 v2 v3 : Value) : Below B w ((((W.setCell ⟨B, 0, none⟩ v0).setCell ⟨B, 1, none⟩ v1).setCell ⟨B, 2, none⟩ v2).setCell ⟨B, 3, none⟩ v3) :=
  (((h.setCell (p := ⟨B, 0, none⟩) (Nat.le_refl _) _).setCell (p := ⟨B, 1, none⟩) (Nat.le_refl _) _).setCell (p := ⟨B, 2, none⟩) (Nat.le_refl _) _).setCell (p := ⟨B, 3, none⟩) (Nat.le_refl _) _
theorem none_ret {fn : Func} {a : Act} {w W : World} {B p q r : Nat} (e ln : Nat) (hf : fn.results = #[.cell p 26, .tmp q, .tmp r]) (ha : a.tmps[p]?.getD undef = .pointer (some ⟨B, 0, none⟩)) (hx : a.tmps.getD q undef = .int .i64 (e : Int)) (hy : a.tmps.getD r undef = .int .i64 (ln : Int)) (h : MkI w W B) (hB : w.heap.size = B) {R : Except (Nat × Nat) Pl.Exe} (hR : R = .error (e, ln)) (hd : a.defers = [] := by rfl) :
    bodyPost Tryz.prog fn (RetB (RMk R) w) .ret a ((((W.setCell ⟨B, 0, none⟩ (.slice none 0 0)).setCell ⟨B, 1, none⟩ (.string ⟨#[]⟩)).setCell ⟨B, 2, none⟩ (.int .i64 0)).setCell ⟨B, 3, none⟩ (.int .u32 0)) := by
  subst hR
  refine bodyPost_ret (resultsA3 (cs := [.slice none 0 0, .string ⟨#[]⟩, .int .i64 0, .int .u32 0]) hf ha (rangeA (exe4_heap h.z0 _ _ _ _)) Tryz.underlying26 rfl info_exe hx hy) hd ⟨_, rfl, ⟨none, 0, rfl, Rd.nil⟩, by rw [hB]; exact exe4_below h.bel _ _ _ _⟩
theorem push_sl {P : Program} {ops : Array Oper} {rest : List Oper} {o : Oper} {a : Act} {Q : Exit → Act → World → Prop} (hgd : o.guard = none) (s x : Operand) (t : TypeId)
    (ho : o.op = .call { callee := .builtin .append, args := #[s, x], argTypes := #[t, t] })
    (base : Nat) (e : TypeId) (z : Value) (k bytes : Nat) (ht : P.underlying t = some (.slice e)) (hi : (P.info? e).map (fun i => (i.zero, i.size, i.bytes)) = some (some z, k, bytes)) (hzs : z.cells.size = k) (hk : 0 < k)
    (w : World) (v : Value) (n : Nat) (xs : List Value) (A : Option Addr) (m c : Nat) (ys : List Value) (hs : a.eval s = v) (hown : w.ownsRow base e k v n xs) (hx : a.eval x = .slice A m c) (hr : Rd w k A m ys) (hnil : A = none → c = 0) (h1 : ∀ u ∈ ys, u.oneCell' = true)
    (hbytes : (n + m) * bytes ≤ 140737488355328) (hb0 : 1 ≤ bytes) (hbase : base ≤ w.heap.size)
    (h : ∀ A' c' w', w'.ownsRow base e k (.slice A' (n + m) c') (n + m) (xs ++ ys) → Below base w w' → wpList P ops Q rest (a.put o.dst (.slice A' (n + m) c')) w') : wpList P ops Q (o :: rest) a w := by
  refine push_many hgd s x t ho base e z k bytes ht hi hzs hk w v n xs A m c ys hs hown hx hr hnil h1 hbytes hb0 hbase ?_
  intro v' w' h2 h3
  obtain ⟨A', c', rfl⟩ := own_form' h2
  exact h A' c' w' h2 h3
theorem w32_one (l : List Nat) : ∀ u ∈ w32s l, u.oneCell' = true := by
  intro u hu
  simp only [w32s, List.mem_map] at hu
  obtain ⟨n, _, rfl⟩ := hu
  rfl
theorem info_u32z : (Tryz.prog.info? 24).map (fun i => (i.zero, i.size, i.bytes)) = some (some (.int .u32 0), 1, 4) := by kernel_rfl
theorem own_nilU (w : World) (base : Nat) (e : TypeId) (k : Nat) : w.ownsRow base e k (.slice none 0 0) 0 [] := ⟨by simp, .inl ⟨rfl, rfl⟩⟩
set_option maxRecDepth 100000 in
set_option maxHeartbeats 16000000 in
theorem rmake_any (t : List UInt8) (w : World) (ht : t.length ≤ 140737488355328) : Calls Tryz.prog 10 #[.string ⟨t.toArray⟩] w (RetB (RMk (Pl.mkD t)) w) := by
  obtain ⟨R, hR⟩ : ∃ R, Pl.mkD t = R := ⟨_, rfl⟩
  rw [hR]
  unfold Pl.mkD at hR
  obtain ⟨B, hB⟩ : ∃ B, w.heap.size = B := ⟨_, rfl⟩
  go_enter Tryz.func10, Tryz.ntmps10
  go_upto_region 2 with (fail)
  generalize hW : World.alloc (World.alloc w _) _ = W
  have hI : MkI w W B := by
    refine ⟨?_, ?_, ?_, ?_⟩
    · rw [← hW, ← hB, Below.heap_alloc _ _ _ (by simp)]; exact heap_alloc_new _ _
    · rw [← hW, ← hB]; exact heap_alloc_2 _ _ _
    · rw [← hW, ← hB]; exact ((Below.refl _ _).alloc (Nat.le_refl _) _).alloc (by simp) _
    · rw [← hW, ← hB]; simp
  have HI := Lib.hid hI
  clear hW hI
  by_cases h1 : 65536 < t.length
  · rw [if_pos h1] at hR
    have HR := Lib.hid (show R = .error (6, 0) from hR.symm)
    clear hR
    obtain ⟨a0, a1, a2, a3⟩ := xeA_cells HI.out.z0
    obtain ⟨e0, e1, e2, e3⟩ := xeA_cells HI.out.z1
    have f0 := frozen_of W B 0 _ _ HI.out.z0
    have f1 := frozen_of W B 1 _ _ HI.out.z0
    have f2 := frozen_of W B 2 _ _ HI.out.z0
    have f3 := frozen_of W B 3 _ _ HI.out.z0
    go_wp2_with fail
    exact none_ret 6 0 rfl rfl rfl rfl (HI.out) hB HR.out
  rw [if_neg h1] at hR
  go_wp2_with fail
  (with_reducible refine (lines_any t _ (by omega)).mono ?_)
  rintro y w1 ⟨A, c, rfl, hown, hb1⟩
  have HI1 := Lib.hid (HI.out.call hb1)
  have hrl := Rd.own hown
  have hls := Pl.line_small t
  obtain ⟨L, hLe⟩ : ∃ L, Pl.linesD t = L := ⟨_, rfl⟩
  rw [hLe] at hR hrl hls
  rw [hLe]
  clear hown hb1 hLe
  have HL := Lib.hid (And.intro hrl hls)
  clear hrl hls
  obtain ⟨n, hn⟩ : ∃ n, L.length = n := ⟨_, rfl⟩
  rw [hn] at hR HL ⊢
  by_cases h2 : 400 < n
  · rw [if_pos h2] at hR
    have HR := Lib.hid (show R = .error (6, 0) from hR.symm)
    clear hR
    obtain ⟨a0, a1, a2, a3⟩ := xeA_cells HI1.out.z0
    obtain ⟨e0, e1, e2, e3⟩ := xeA_cells HI1.out.z1
    have f0 := frozen_of w1 B 0 _ _ HI1.out.z0
    have f1 := frozen_of w1 B 1 _ _ HI1.out.z0
    have f2 := frozen_of w1 B 2 _ _ HI1.out.z0
    have f3 := frozen_of w1 B 3 _ _ HI1.out.z0
    go_wp2_with fail
    exact none_ret 6 0 rfl rfl rfl rfl (HI1.out) hB HR.out
  rw [if_neg h2] at hR
  have hit := ritems_any A c L w1 (by rw [hn]; exact HL.out.1) (by omega) (fun s hs => by have := HL.out.2 s hs; omega)
  have hal := fun l h => Pl.items_all L 0 [] l h (fun s hs => by have := HL.out.2 s hs; omega) (fun x hx => by cases hx)
  rw [hn] at hit
  obtain ⟨E, hE⟩ : ∃ E, Pl.itemsF 0 [] L = E := ⟨_, rfl⟩
  have HEZ := Lib.hid (fun e ln => Pl.items_err L 0 [] e ln)
  rw [hE] at hR hit hal HEZ
  have HIT := Lib.hid hit
  clear hit hE
  go_wp2_with fail
  (with_reducible refine HIT.out.mono ?_)
  rintro y w2 ⟨v, rfl, hq, hb2⟩
  have HI2 := Lib.hid (HI1.out.call hb2)
  clear hb2 HIT
  cases E with
  | error e =>
    obtain ⟨ee, el⟩ := e
    obtain ⟨qA, qn, qc, rfl⟩ := hq
    have HR := Lib.hid (show R = .error (ee, el) from hR.symm)
    have hez := HEZ.out ee el rfl
    have e0 : ((ee : Int) != 0) = true := by rw [bne_iff_ne]; omega
    clear hez hal
    dsimp only
    obtain ⟨a0, a1, a2, a3⟩ := xeA_cells HI2.out.z0
    obtain ⟨e0, e1, e2, e3⟩ := xeA_cells HI2.out.z1
    have f0 := frozen_of w2 B 0 _ _ HI2.out.z0
    have f1 := frozen_of w2 B 1 _ _ HI2.out.z0
    have f2 := frozen_of w2 B 2 _ _ HI2.out.z0
    have f3 := frozen_of w2 B 3 _ _ HI2.out.z0
    go_wp2_with fail
    exact none_ret ee el rfl rfl rfl rfl (HI2.out) hB HR.out
  | ok l =>
    obtain ⟨lA, lc, rfl, hrI⟩ := hq
    dsimp only at hR
    obtain ⟨hok, hll⟩ := hal l rfl
    clear hal
    have hll2 : l.length = n := by rw [hll]; simp [hn]
    rw [hll2]
    rw [hll2] at hrI
    obtain ⟨RR, hRR⟩ : ∃ z, Pl.textF l 0 [] 0 l = z := ⟨_, rfl⟩
    rw [hRR] at hR
    have hl4 : n ≤ 400 := by omega
    have hwo := fun x hx (at' : Nat) W (hb : Below w2.heap.size w2 W) (hat : at' ≤ 100000) => rwords_any lA lc l x at' W (by rw [hll2]; exact hrI.below hb) (by omega) (fun y hy => (hok y hy).s) (fun y hy => (hok y hy).n7) (hok x hx) hat
    have hda := fun W (hb : Below w2.heap.size w2 W) => rdata_any lA lc l W (by rw [hll2]; exact hrI.below hb) (by omega) (fun y hy => (hok y hy).s) (fun y hy => (hok y hy).n7)
    have hdb := Pl.dataD_bd l (by omega) (fun y hy => (hok y hy).s) (fun y hy => (hok y hy).n7)
    rw [hll2] at hwo hda
    have HX := Lib.hid (And.intro hrI (And.intro hwo (And.intro hda (And.intro hdb (And.intro hll2 hRR)))))
    have HR := Lib.hid hR
    clear hrI hwo hda hdb hRR hR hok hll HEZ
    go_upto_region 11 with (fail)
    obtain ⟨E, hE⟩ : ∃ E, w2.heap.size = E := ⟨_, rfl⟩
    generalize hV : World.alloc w2 _ = V
    have hzE : V.heap[E]? = some (.cells #[.slice none 0 0, .string ⟨#[]⟩, .int .i64 0, .int .u32 0] 26 (0, 0)) := by rw [← hV, ← hE]; exact heap_alloc_new _ _
    have hbV : Below E w2 V := by rw [← hV, ← hE]; exact (Below.refl _ _).alloc (Nat.le_refl _) _
    have hBE : B + 2 ≤ E := by rw [← hE]; exact HI2.out.hi
    have hszV : E + 1 ≤ V.heap.size := by rw [← hV, ← hE]; simp
    have HV := Lib.hid (And.intro hzE (And.intro hbV hszV))
    have HE := Lib.hid hE
    simp only [hE]
    clear hV hzE hbV hE hszV
    go_wp2_with fail
    go_loopw [11] (fun i wr => ∃ (k tl : Nat) (T : List Nat) (en : Nat) (tA : Option Addr) (tc : Nat), k ≤ n ∧ i = .int .i64 (k : Int) ∧ tl ≤ 2 * k ∧ en ≤ 10000 ∧ T.length = tl ∧ Hid (MI l wr E tl tA tc en w2 T) ∧ Hid (Pl.textF l k T en (l.drop k) = RR)) (fun i _ => n - (intOf i).toNat)
    case atStart => exact ⟨0, 0, [], 0, none, 0, by omega, rfl, by omega, by omega, rfl, Lib.hid ⟨HV.out.1, own_nilU _ _ _ _, HV.out.2.1, HV.out.2.2⟩, Lib.hid (by rw [List.drop_zero]; exact HX.out.2.2.2.2.2)⟩
    case round =>
      obtain ⟨k, tl, T, en, tA, tc, hk, rfl, htl, hen, hTl, HM, HK⟩ := hrel
      have HI3 := Lib.hid (HI2.out.far HM.out.bel (by omega))
      by_cases hkn : k < n
      · have hkl : k < l.length := by have := HX.out.2.2.2.2.1; omega
        obtain ⟨b, off, rfl, hbl, hit⟩ := its_all (by rw [HX.out.2.2.2.2.1]; exact HX.out.1) (by omega)
        have HIT := Lib.hid (fun W hW => hit W hW k hkl)
        have hKF := HK.out
        rw [List.drop_eq_getElem_cons hkl, textF_cons] at hKF
        have hwo := HX.out.2.1 l[k] (List.getElem_mem hkl)
        obtain ⟨x, hx⟩ : ∃ x, l[k] = x := ⟨_, rfl⟩
        rw [hx] at HIT hKF hwo
        have hwo2 : ∀ W, Below w2.heap.size w2 W → Calls Tryz.prog 32 #[.slice (some ⟨b, off, none⟩) n lc, itV x, .int .i64 (4 * (tl : Int))] W (RetB (WdR (Pl.wordsD l x (4 * T.length))) W) := fun W hb => by
          have h := hwo (4 * T.length) W hb (by omega)
          rw [show ((4 * T.length : Nat) : Int) = 4 * (tl : Int) by omega] at h
          exact h
        have hwl := Pl.wordsD_len2 l x (4 * T.length)
        have hwe := Pl.words_err l x (4 * T.length)
        have hw1 := Pl.wordsD_one l x (4 * T.length)
        obtain ⟨WE, hWE⟩ : ∃ z, Pl.wordsD l x (4 * T.length) = z := ⟨_, rfl⟩
        rw [hWE] at hKF hwo2 hwl hwe hw1
        have HW1 := Lib.hid hw1
        rw [itVa] at hwo2
        have HW := Lib.hid (And.intro hwo2 (And.intro hwl hwe))
        have HKF := Lib.hid hKF
        clear hit hx HK hKF hwo hwo2 hwl hwe hWE hw1
        have hSS : ∀ W, Below E w2 W → W.heap[E]? = some (.cells #[.slice tA tl tc, .string ⟨#[]⟩, .int .i64 0, .int .u32 (en : Int)] 26 (0, 0)) → (W.cell? ⟨b, off + k * 10, none⟩ = some (.int .i64 (x.kind : Int)) ∧ W.cell? ⟨b, off + k * 10 + 1, none⟩ = some (.string ⟨x.name.toArray⟩) ∧ W.cell? ⟨b, off + k * 10 + 2, none⟩ = some (.int .u8 (x.x.op : Int)) ∧ W.cell? ⟨b, off + k * 10 + 3, none⟩ = some (.int .u8 (x.x.a : Int)) ∧ W.cell? ⟨b, off + k * 10 + 4, none⟩ = some (.int .u8 (x.x.b : Int)) ∧ W.cell? ⟨b, off + k * 10 + 5, none⟩ = some (.int .u8 (x.x.c : Int)) ∧ W.cell? ⟨b, off + k * 10 + 6, none⟩ = some (.int .i32 x.x.imm) ∧ W.cell? ⟨b, off + k * 10 + 7, none⟩ = some (.int .i64 x.n) ∧ W.cell? ⟨b, off + k * 10 + 8, none⟩ = some (.string ⟨x.s.toArray⟩) ∧ W.cell? ⟨b, off + k * 10 + 9, none⟩ = some (.int .i64 (x.e : Int)) ∧ W.cell? ⟨E, 0, none⟩ = some (.slice tA tl tc)) := fun W hW hz => by
          obtain ⟨y0, y1, y2, y3, y4, y5, y6, y7, y8, y9⟩ := HIT.out W (by rw [HE.out]; exact hW)
          exact ⟨y0, y1, y2, y3, y4, y5, y6, y7, y8, y9, (xeA_cells hz).1⟩
        have HSS := Lib.hid hSS
        clear hSS
        have hm4 : IntKind.i64.wrap (4 * (tl : Int)) = 4 * (tl : Int) := IntWalk.i64_in _ (by omega)
        have HMd := Lib.hid HM.out.drew
        go_upto_region 14 with (fail)
        refine wp_region_held_drew (S := (fun W => W.cell? ⟨b, off + k * 10, none⟩ = some (.int .i64 (x.kind : Int)) ∧ W.cell? ⟨b, off + k * 10 + 1, none⟩ = some (.string ⟨x.name.toArray⟩) ∧ W.cell? ⟨b, off + k * 10 + 2, none⟩ = some (.int .u8 (x.x.op : Int)) ∧ W.cell? ⟨b, off + k * 10 + 3, none⟩ = some (.int .u8 (x.x.a : Int)) ∧ W.cell? ⟨b, off + k * 10 + 4, none⟩ = some (.int .u8 (x.x.b : Int)) ∧ W.cell? ⟨b, off + k * 10 + 5, none⟩ = some (.int .u8 (x.x.c : Int)) ∧ W.cell? ⟨b, off + k * 10 + 6, none⟩ = some (.int .i32 x.x.imm) ∧ W.cell? ⟨b, off + k * 10 + 7, none⟩ = some (.int .i64 x.n) ∧ W.cell? ⟨b, off + k * 10 + 8, none⟩ = some (.string ⟨x.s.toArray⟩) ∧ W.cell? ⟨b, off + k * 10 + 9, none⟩ = some (.int .i64 (x.e : Int)) ∧ W.cell? ⟨E, 0, none⟩ = some (.slice tA tl tc))) (by kernel_rfl) (by exact HSS.out _ HMd.out.bel HMd.out.z) (fun hHeld => ?_)
        refine wpAnyH_take (i := 0) (v := ?_) rfl (by kernel_rfl) (by kernel_rfl) (by kernel_rfl) (fun _ _ _ h => h) (Or.inl ⟨by kernel_rfl, ?_⟩) hHeld ?_
        rotate_left
        · (intro w' hSw; obtain ⟨hS0, hS1, hS2, hS3, hS4, hS5, hS6, hS7, hS8, hS9, hS10⟩ := hSw; go_simp; try with_reducible rfl)
        simp only [Act.put, lay8]
        refine wpAnyH_take (i := 1) (v := ?_) rfl (by kernel_rfl) (by kernel_rfl) (by kernel_rfl) (fun _ _ _ h => h) (Or.inl ⟨by kernel_rfl, ?_⟩) hHeld ?_
        rotate_left
        · (intro w' hSw; obtain ⟨hS0, hS1, hS2, hS3, hS4, hS5, hS6, hS7, hS8, hS9, hS10⟩ := hSw; go_simp; try with_reducible rfl)
        simp only [Act.put, lay8]
        refine wpAnyH_take (i := 2) (v := ?_) rfl (by kernel_rfl) (by kernel_rfl) (by kernel_rfl) (fun _ _ _ h => h) (Or.inl ⟨by kernel_rfl, ?_⟩) hHeld ?_
        rotate_left
        · (intro w' hSw; obtain ⟨hS0, hS1, hS2, hS3, hS4, hS5, hS6, hS7, hS8, hS9, hS10⟩ := hSw; go_simp; try with_reducible rfl)
        simp only [Act.put, lay8]
        refine wpAnyH_take (i := 3) (v := ?_) rfl (by kernel_rfl) (by kernel_rfl) (by kernel_rfl) (fun _ _ _ h => h) (Or.inl ⟨by kernel_rfl, ?_⟩) hHeld ?_
        rotate_left
        · (intro w' hSw; obtain ⟨hS0, hS1, hS2, hS3, hS4, hS5, hS6, hS7, hS8, hS9, hS10⟩ := hSw; go_simp; try with_reducible rfl)
        simp only [Act.put, lay8]
        refine wpAnyH_take (i := 4) (v := ?_) rfl (by kernel_rfl) (by kernel_rfl) (by kernel_rfl) (fun _ _ _ h => h) (Or.inl ⟨by kernel_rfl, ?_⟩) hHeld ?_
        rotate_left
        · (intro w' hSw; obtain ⟨hS0, hS1, hS2, hS3, hS4, hS5, hS6, hS7, hS8, hS9, hS10⟩ := hSw; go_simp; try with_reducible rfl)
        simp only [Act.put, lay8]
        refine wpAnyH_take (i := 5) (v := ?_) rfl (by kernel_rfl) (by kernel_rfl) (by kernel_rfl) (fun _ _ _ h => h) (Or.inl ⟨by kernel_rfl, ?_⟩) hHeld ?_
        rotate_left
        · (intro w' hSw; obtain ⟨hS0, hS1, hS2, hS3, hS4, hS5, hS6, hS7, hS8, hS9, hS10⟩ := hSw; go_simp; try with_reducible rfl)
        simp only [Act.put, lay8]
        refine wpAnyH_take (i := 6) (v := ?_) rfl (by kernel_rfl) (by kernel_rfl) (by kernel_rfl) (fun _ _ _ h => h) (Or.inl ⟨by kernel_rfl, ?_⟩) hHeld ?_
        rotate_left
        · (intro w' hSw; obtain ⟨hS0, hS1, hS2, hS3, hS4, hS5, hS6, hS7, hS8, hS9, hS10⟩ := hSw; go_simp; try with_reducible rfl)
        simp only [Act.put, lay8]
        refine wpAnyH_take (i := 7) (v := ?_) rfl (by kernel_rfl) (by kernel_rfl) (by kernel_rfl) (fun _ _ _ h => h) (Or.inl ⟨by kernel_rfl, ?_⟩) hHeld ?_
        rotate_left
        · (intro w' hSw; obtain ⟨hS0, hS1, hS2, hS3, hS4, hS5, hS6, hS7, hS8, hS9, hS10⟩ := hSw; go_simp; try with_reducible rfl)
        simp only [Act.put, lay8]
        refine wpAnyH_take (i := 8) (v := ?_) rfl (by kernel_rfl) (by kernel_rfl) (by kernel_rfl) (fun _ _ _ h => h) (Or.inl ⟨by kernel_rfl, ?_⟩) hHeld ?_
        rotate_left
        · (intro w' hSw; obtain ⟨hS0, hS1, hS2, hS3, hS4, hS5, hS6, hS7, hS8, hS9, hS10⟩ := hSw; go_simp; try with_reducible rfl)
        simp only [Act.put, lay8]
        refine wpAnyH_ready (rs := [9]) (by kernel_rfl) (by simp) (AllReadyH.cons rfl (fun K hK => ?_) AllReadyH.nil)
        go_simp
        (with_reducible refine (HW.out.1 _ (by rw [HE.out]; exact HMd.out.bel)).mono ?_)
        rintro yy w4 ⟨v, rfl, hq, hb4⟩
        have HM4 := Lib.hid (HMd.out.call hb4)
        have HI4 := Lib.hid (HI3.out.drew.call hb4)
        clear hb4
        cases WE with
        | error e =>
          obtain ⟨qA, qm, qc, rfl⟩ := hq
          have he0 := HW.out.2.2 e rfl
          have ee : ((e : Int) != 0) = true := by rw [bne_iff_ne]; omega
          have hRe : RR = .error (e, k + 1) := HKF.out.symm
          have HRe := Lib.hid (show R = .error (e, k + 1) from by rw [← HR.out, hRe])
          clear hRe he0
          refine hK.out _ _ (by exact HSS.out _ HM4.out.bel HM4.out.z) (fun hHeld => ?_)
          clear hK K
          (try simp only [Act.put, lay8])
          refine wpAnyH_take (i := 10) (v := ?_) rfl (by kernel_rfl) (by kernel_rfl) (by kernel_rfl) (fun _ _ _ h => h) (Or.inl ⟨by kernel_rfl, ?_⟩) hHeld ?_
          rotate_left
          · (intro w' hSw; obtain ⟨hS0, hS1, hS2, hS3, hS4, hS5, hS6, hS7, hS8, hS9, hS10⟩ := hSw; go_simp; try with_reducible rfl)
          simp only [Act.put, lay8]
          refine wpAnyH_take (i := 11) (v := ?_) rfl (by kernel_rfl) (by kernel_rfl) (by kernel_rfl) (fun _ _ _ h => h) (Or.inl ⟨by kernel_rfl, ?_⟩) hHeld ?_
          rotate_left
          · (intro w' hSw; obtain ⟨hS0, hS1, hS2, hS3, hS4, hS5, hS6, hS7, hS8, hS9, hS10⟩ := hSw; go_simp; try with_reducible rfl)
          simp only [Act.put, lay8]
          refine wpAnyH_take (i := 12) (v := ?_) rfl (by kernel_rfl) (by kernel_rfl) (by kernel_rfl) (fun _ _ _ h => h) (Or.inl ⟨by kernel_rfl, ?_⟩) hHeld ?_
          rotate_left
          · (intro w' hSw; obtain ⟨hS0, hS1, hS2, hS3, hS4, hS5, hS6, hS7, hS8, hS9, hS10⟩ := hSw; go_simp; try with_reducible rfl)
          simp only [Act.put, lay8]
          refine wpAnyH_take (i := 13) (v := ?_) rfl (by kernel_rfl) (by kernel_rfl) (by kernel_rfl) (fun _ _ _ h => h) (Or.inl ⟨by kernel_rfl, ?_⟩) hHeld ?_
          rotate_left
          · (intro w' hSw; obtain ⟨hS0, hS1, hS2, hS3, hS4, hS5, hS6, hS7, hS8, hS9, hS10⟩ := hSw; go_simp; try with_reducible rfl)
          simp only [Act.put, lay8]
          refine wpAnyH_take (i := 14) (v := ?_) rfl (by kernel_rfl) (by kernel_rfl) (by kernel_rfl) (fun _ _ _ h => h) (Or.inl ⟨by kernel_rfl, ?_⟩) hHeld ?_
          rotate_left
          · (intro w' hSw; obtain ⟨hS0, hS1, hS2, hS3, hS4, hS5, hS6, hS7, hS8, hS9, hS10⟩ := hSw; go_simp; try with_reducible rfl)
          simp only [Act.put, lay8]
          refine wpAnyH_done (by kernel_rfl) ?_ _
          obtain ⟨a0, a1, a2, a3⟩ := xeA_cells HI4.out.z0
          obtain ⟨e0, e1, e2, e3⟩ := xeA_cells HI4.out.z1
          have f0 := frozen_of w4 B 0 _ _ HI4.out.z0
          have f1 := frozen_of w4 B 1 _ _ HI4.out.z0
          have f2 := frozen_of w4 B 2 _ _ HI4.out.z0
          have f3 := frozen_of w4 B 3 _ _ HI4.out.z0
          go_wp2_with fail
          exact none_ret e (k+1) rfl rfl rfl rfl (HI4.out) hB HRe.out
        | ok ws =>
          obtain ⟨wA, wc, rfl, hrw, hnil⟩ := hq
          have hwl := HW.out.2.1 ws rfl
          obtain ⟨m, hm⟩ : ∃ m, ws.length = m := ⟨_, rfl⟩
          rw [hm] at hwl hrw
          simp only [hm]
          have HRw := Lib.hid (And.intro hrw (And.intro hnil hm))
          clear hrw hnil hm
          refine hK.out _ _ (by exact HSS.out _ HM4.out.bel HM4.out.z) (fun hHeld => ?_)
          clear hK K
          (try simp only [Act.put, lay8])
          refine wpAnyH_take (i := 10) (v := ?_) rfl (by kernel_rfl) (by kernel_rfl) (by kernel_rfl) (fun _ _ _ h => h) (Or.inl ⟨by kernel_rfl, ?_⟩) hHeld ?_
          rotate_left
          · (intro w' hSw; obtain ⟨hS0, hS1, hS2, hS3, hS4, hS5, hS6, hS7, hS8, hS9, hS10⟩ := hSw; go_simp; try with_reducible rfl)
          simp only [Act.put, lay8]
          refine wpAnyH_take (i := 11) (v := ?_) rfl (by kernel_rfl) (by kernel_rfl) (by kernel_rfl) (fun _ _ _ h => h) (Or.inl ⟨by kernel_rfl, ?_⟩) hHeld ?_
          rotate_left
          · (intro w' hSw; obtain ⟨hS0, hS1, hS2, hS3, hS4, hS5, hS6, hS7, hS8, hS9, hS10⟩ := hSw; go_simp; try with_reducible rfl)
          simp only [Act.put, lay8]
          refine wpAnyH_take (i := 12) (v := ?_) rfl (by kernel_rfl) (by kernel_rfl) (by kernel_rfl) (fun _ _ _ h => h) (Or.inl ⟨by kernel_rfl, ?_⟩) hHeld ?_
          rotate_left
          · (intro w' hSw; obtain ⟨hS0, hS1, hS2, hS3, hS4, hS5, hS6, hS7, hS8, hS9, hS10⟩ := hSw; go_simp; try with_reducible rfl)
          simp only [Act.put, lay8]
          refine wpAnyH_take (i := 13) (v := ?_) rfl (by kernel_rfl) (by kernel_rfl) (by kernel_rfl) (fun _ _ _ h => h) (Or.inl ⟨by kernel_rfl, ?_⟩) hHeld ?_
          rotate_left
          · (intro w' hSw; obtain ⟨hS0, hS1, hS2, hS3, hS4, hS5, hS6, hS7, hS8, hS9, hS10⟩ := hSw; go_simp; try with_reducible rfl)
          simp only [Act.put, lay8]
          refine wpAnyH_take (i := 14) (v := ?_) rfl (by kernel_rfl) (by kernel_rfl) (by kernel_rfl) (fun _ _ _ h => h) (Or.inl ⟨by kernel_rfl, ?_⟩) hHeld ?_
          rotate_left
          · (intro w' hSw; obtain ⟨hS0, hS1, hS2, hS3, hS4, hS5, hS6, hS7, hS8, hS9, hS10⟩ := hSw; go_simp; try with_reducible rfl)
          simp only [Act.put, lay8]
          refine wpAnyH_done (by kernel_rfl) ?_ _
          obtain ⟨i0, i1, i2, i3, i4, i5, i6, i7, i8, i9⟩ := HIT.out w4 (by rw [HE.out]; exact HM4.out.bel)
          obtain ⟨e0, e1, e2, e3⟩ := xeA_cells HM4.out.z
          have ef3 := frozen_of w4 E 3 _ _ HM4.out.z
          have hKF := HKF.out
          dsimp only at hKF
          by_cases hst : x.kind = 1 ∧ x.name = Pl.wStart
          · rw [if_pos hst] at hKF
            obtain ⟨g1, g2⟩ := hst
            have k1 : ((x.kind : Int) == 1) = true := by rw [beq_iff_eq]; omega
            have en1 : (x.name == [115, 116, 97, 114, 116]) = true := by rw [g2]; rfl
            have hKF2 : Pl.textF l (k + 1) (T ++ ws) (4 * tl) (l.drop (k + 1)) = RR := by rw [← hTl]; exact hKF
            have HKF2 := Lib.hid hKF2
            have hwu : IntKind.u32.wrap (4 * (tl : Int)) = 4 * (tl : Int) := by rw [IntKind.wrap_u32]; omega
            clear hKF hKF2 g2
            have G1 := Lib.hid g1
            clear g1
            go_upto_region 19 with (fail)
            generalize hV : World.setCell _ _ _ = W5
            have HM5 := Lib.hid (show MI l W5 E tl tA tc (4 * tl) w2 T from by rw [← hV]; exact HM4.out.setN (4 * tl) (by omega))
            have hrd5 : Rd W5 1 wA m (w32s ws) := by
              have h1 := HW1.out G1.out
              injection h1 with h1
              have h2 := HRw.out.2.2
              subst h1
              obtain rfl : 0 = m := h2
              exact Rd.zero
            clear hV e0 e1 e2 e3 ef3 i0 i1 i2 i3 i4 i5 i6 i7 i8 i9
            have HRd := Lib.hid hrd5
            clear hrd5
            obtain ⟨q0, q1, q2, q3⟩ := xeA_cells HM5.out.z
            have hsz := HM5.out.hi
            have hzE := HM5.out.z
            go_wp2_with (at_builtin; refine push_sl rfl (.tmp 84) (.tmp 85) 23 rfl (E + 1) 24 (.int .u32 0) 1 4 Tryz.underlying23 info_u32z rfl (by decide) W5 (.slice tA tl tc) _ _ wA m wc (w32s ws) rfl HM5.out.own rfl HRd.out HRw.out.2.1 (w32_one ws) (by omega) (by decide) hsz ?_; intro A1 c1 w7 hown1 hb7; have hz7 := (hb7.block E (by omega)).trans hzE; have q70 : w7.cell? ⟨E, 0, none⟩ = some (.slice tA tl tc) := (by rw [cell_row _ _ _ _ _ hz7]; rfl); have qf7 := frozen_of w7 E 0 _ _ hz7; have HP := Lib.hid (And.intro hown1 hb7); clear hown1 hb7)
            refine ⟨⟨k + 1, tl + m, T ++ ws, (4*tl), A1, c1, by omega, ret_i (by omega), by omega, by omega, by rw [List.length_append, HRw.out.2.2]; omega, Lib.hid (HM5.out.push HP.out.2 HP.out.1), Lib.hid HKF2.out⟩, by simp only [intOf]; omega⟩
          · rw [if_neg hst] at hKF
            have HKF2 := Lib.hid hKF
            clear hKF
            by_cases g1 : x.kind = 1
            · have k1 : ((x.kind : Int) == 1) = true := by rw [beq_iff_eq]; omega
              have hne : ¬ x.name = [115, 116, 97, 114, 116] := fun h => hst ⟨g1, h⟩
              have en1 : (x.name == [115, 116, 97, 114, 116]) = false := beq_eq_false_iff_ne.2 hne
              clear hst hne g1 ef3
              go_upto_region 19 with (fail)
              have HM5 := HM4
              clear e0 e1 e2 e3 i0 i1 i2 i3 i4 i5 i6 i7 i8 i9
              obtain ⟨q0, q1, q2, q3⟩ := xeA_cells HM5.out.z
              have hsz := HM5.out.hi
              have hzE := HM5.out.z
              go_wp2_with (at_builtin; refine push_sl rfl (.tmp 84) (.tmp 85) 23 rfl (E + 1) 24 (.int .u32 0) 1 4 Tryz.underlying23 info_u32z rfl (by decide) w4 (.slice tA tl tc) _ _ wA m wc (w32s ws) rfl HM5.out.own rfl HRw.out.1 HRw.out.2.1 (w32_one ws) (by omega) (by decide) hsz ?_; intro A1 c1 w7 hown1 hb7; have hz7 := (hb7.block E (by omega)).trans hzE; have q70 : w7.cell? ⟨E, 0, none⟩ = some (.slice tA tl tc) := (by rw [cell_row _ _ _ _ _ hz7]; rfl); have qf7 := frozen_of w7 E 0 _ _ hz7; have HP := Lib.hid (And.intro hown1 hb7); clear hown1 hb7)
              refine ⟨⟨k + 1, tl + m, T ++ ws, en, A1, c1, by omega, ret_i (by omega), by omega, by omega, by rw [List.length_append, HRw.out.2.2]; omega, Lib.hid (HM5.out.push HP.out.2 HP.out.1), Lib.hid HKF2.out⟩, by simp only [intOf]; omega⟩
            · have k1 : ((x.kind : Int) == 1) = false := by rw [beq_eq_false_iff_ne]; omega
              clear hst g1 ef3
              go_upto_region 19 with (fail)
              have HM5 := HM4
              clear e0 e1 e2 e3 i0 i1 i2 i3 i4 i5 i6 i7 i8 i9
              obtain ⟨q0, q1, q2, q3⟩ := xeA_cells HM5.out.z
              have hsz := HM5.out.hi
              have hzE := HM5.out.z
              go_wp2_with (at_builtin; refine push_sl rfl (.tmp 84) (.tmp 85) 23 rfl (E + 1) 24 (.int .u32 0) 1 4 Tryz.underlying23 info_u32z rfl (by decide) w4 (.slice tA tl tc) _ _ wA m wc (w32s ws) rfl HM5.out.own rfl HRw.out.1 HRw.out.2.1 (w32_one ws) (by omega) (by decide) hsz ?_; intro A1 c1 w7 hown1 hb7; have hz7 := (hb7.block E (by omega)).trans hzE; have q70 : w7.cell? ⟨E, 0, none⟩ = some (.slice tA tl tc) := (by rw [cell_row _ _ _ _ _ hz7]; rfl); have qf7 := frozen_of w7 E 0 _ _ hz7; have HP := Lib.hid (And.intro hown1 hb7); clear hown1 hb7)
              refine ⟨⟨k + 1, tl + m, T ++ ws, en, A1, c1, by omega, ret_i (by omega), by omega, by omega, by rw [List.length_append, HRw.out.2.2]; omega, Lib.hid (HM5.out.push HP.out.2 HP.out.1), Lib.hid HKF2.out⟩, by simp only [intOf]; omega⟩
      · have hKF := HK.out
        rw [List.drop_eq_nil_of_le (by have := HX.out.2.2.2.2.1; omega)] at hKF
        have hRe : RR = .ok (T, en) := hKF.symm
        obtain ⟨Da, hDa⟩ : ∃ z, Pl.dataD l = z := ⟨_, rfl⟩
        have hRR := HR.out
        rw [hRe] at hRR
        dsimp only at hRR
        rw [hDa] at hRR
        have hda := HX.out.2.2.1 wr (by rw [HE.out]; exact HM.out.bel)
        have hdb := HX.out.2.2.2.1
        rw [hDa] at hda hdb
        have HD := Lib.hid hda
        have HRR := Lib.hid hRR
        obtain ⟨d1, d2, -, -⟩ := hdb
        have hd3 : Da.s.length ≤ 140000000 := by omega
        clear hKF hRe hDa hRR hda HK
        go_wp2_with fail
        (with_reducible refine HD.out.mono ?_)
        rintro yy w5 ⟨v, rfl, ⟨gA, gc, rfl, hrg⟩, hb5⟩
        have HM5 := Lib.hid (HM.out.call hb5)
        have HI5 := Lib.hid (HI3.out.call hb5)
        clear hb5 hrg HD
        go_upto_region 21 with (fail)
        obtain ⟨G, hG⟩ : ∃ G, w5.heap.size = G := ⟨_, rfl⟩
        generalize hV : World.alloc w5 _ = V6
        have hzG : V6.heap[G]? = some (.cells (daL Da.s (.slice gA n gc) Da.e).toArray 76 (0, 0)) := by rw [← hV, ← hG]; exact heap_alloc_new _ _
        have hbV : Below w5.heap.size w5 V6 := by rw [← hV]; exact (Below.refl _ _).alloc (Nat.le_refl _) _
        have hGE : E < G := by have := blk_lt HM5.out.z; omega
        have HM6 := Lib.hid (HM5.out.call hbV).drew
        have HB6 := Lib.hid (HI5.out.call hbV).bel
        have HI6 := Lib.hid (HI5.out.call hbV).drew
        have HG6 := Lib.hid (show V6.drew.heap[G]? = _ from hzG)
        have g0 : V6.drew.cell? ⟨G, 0, none⟩ = some (.string ⟨Da.s.toArray⟩) := by rw [cell_row _ G 0 _ _ HG6.out]; rfl
        have g2 : V6.drew.cell? ⟨G, 2, none⟩ = some (.int .i64 (Da.e : Int)) := by rw [cell_row _ G 2 _ _ HG6.out]; rfl
        have ef1 := frozen_of _ E 1 _ _ HM6.out.z
        have ef2 := frozen_of _ E 2 _ _ HM6.out.z
        obtain ⟨e0, e1, e2, e3⟩ := xeA_cells HM6.out.z
        have hsub : IntKind.i64.wrap ((Da.e : Int) - (Da.s.length : Int)) = (Da.e : Int) - (Da.s.length : Int) := IntWalk.i64_in _ (by omega)
        have hne : E ≠ G := by omega
        have hne2 : G ≠ E := by omega
        simp only [hG]
        clear hV hzG hbV hG
        refine wp_region_held_drew (S := (fun W => W.cell? ⟨G, 0, none⟩ = some (.string ⟨Da.s.toArray⟩) ∧ W.cell? ⟨G, 2, none⟩ = some (.int .i64 (Da.e : Int)))) (by kernel_rfl) (by exact ⟨g0, g2⟩) (fun hHeld => ?_)
        refine wpAnyH_take (i := 0) (v := ?_) rfl (by kernel_rfl) (by kernel_rfl) (by kernel_rfl) (fun _ _ _ h => h) (Or.inl ⟨by kernel_rfl, ?_⟩) hHeld ?_
        rotate_left
        · (intro w' hSw; obtain ⟨hS0, hS1⟩ := hSw; go_simp; try with_reducible rfl)
        simp only [Act.put, lay8]
        refine wpAnyH_take (i := 1) (v := ?_) rfl (by kernel_rfl) (by kernel_rfl) (by kernel_rfl) (fun _ _ _ h => h) (Or.inl ⟨by kernel_rfl, ?_⟩) hHeld ?_
        rotate_left
        · (intro w' hSw; obtain ⟨hS0, hS1⟩ := hSw; go_simp; try with_reducible rfl)
        simp only [Act.put, lay8]
        refine wpAnyH_take (i := 2) (v := ?_) rfl (by kernel_rfl) (by kernel_rfl) (by kernel_rfl) (fun _ _ _ h => h) (Or.inl ⟨by kernel_rfl, ?_⟩) hHeld ?_
        rotate_left
        · (intro w' hSw; obtain ⟨hS0, hS1⟩ := hSw; go_simp; try with_reducible rfl)
        simp only [Act.put, lay8]
        refine wpAnyH_take (i := 3) (v := ?_) rfl (by kernel_rfl) (by kernel_rfl) (by kernel_rfl) (fun _ _ _ h => h) (Or.inl ⟨by kernel_rfl, ?_⟩) hHeld ?_
        rotate_left
        · (intro w' hSw; obtain ⟨hS0, hS1⟩ := hSw; go_simp; try with_reducible rfl)
        simp only [Act.put, lay8]
        refine wpAnyH_take (i := 4) (v := ?_) rfl (by kernel_rfl) (by kernel_rfl) (by kernel_rfl) (fun _ _ _ h => h) (Or.inl ⟨by kernel_rfl, ?_⟩) hHeld ?_
        rotate_left
        · (intro w' hSw; obtain ⟨hS0, hS1⟩ := hSw; go_simp; try with_reducible rfl)
        simp only [Act.put, lay8]
        refine wpAnyH_take (i := 5) (v := ?_) rfl (by kernel_rfl) (by kernel_rfl) (by kernel_rfl) (fun _ _ _ h => h) (Or.inl ⟨by kernel_rfl, ?_⟩) hHeld ?_
        rotate_left
        · (intro w' hSw; obtain ⟨hS0, hS1⟩ := hSw; go_simp; try with_reducible rfl)
        simp only [Act.put, lay8]
        refine wpAnyH_take (i := 6) (v := ?_) rfl (by kernel_rfl) (by kernel_rfl) (by kernel_rfl) (fun _ _ _ h => h) (Or.inl ⟨by kernel_rfl, ?_⟩) hHeld ?_
        rotate_left
        · (intro w' hSw; obtain ⟨hS0, hS1⟩ := hSw; go_simp; try with_reducible rfl)
        simp only [Act.put, lay8]
        refine wpAnyH_take (i := 7) (v := ?_) rfl (by kernel_rfl) (by kernel_rfl) (by kernel_rfl) (fun _ _ _ h => h) (Or.inl ⟨by kernel_rfl, ?_⟩) hHeld ?_
        rotate_left
        · (intro w' hSw; obtain ⟨hS0, hS1⟩ := hSw; go_simp; try with_reducible rfl)
        simp only [Act.put, lay8]
        refine wpAnyH_take (i := 8) (v := ?_) rfl (by kernel_rfl) (by kernel_rfl) (by kernel_rfl) (fun _ _ _ h => h) (Or.inl ⟨by kernel_rfl, ?_⟩) hHeld ?_
        rotate_left
        · (intro w' hSw; obtain ⟨hS0, hS1⟩ := hSw; go_simp; try with_reducible rfl)
        simp only [Act.put, lay8]
        refine wpAnyH_ready (rs := [9]) (by kernel_rfl) (by simp) (AllReadyH.cons rfl (fun K hK => ?_) AllReadyH.nil)
        go_simp
        generalize hV7 : World.drew (World.setCell _ _ _) = W7
        have hz7 : W7.heap[E]? = some (.cells #[.slice tA tl tc, .string ⟨Da.s.toArray⟩, .int .i64 0, .int .u32 (en : Int)] 26 (0, 0)) := by
          rw [← hV7]; exact set_at V6 E 1 _ _ _ (show V6.heap[E]? = _ from HM6.out.z)
        have hG7 : W7.heap[G]? = some (.cells (daL Da.s (.slice gA n gc) Da.e).toArray 76 (0, 0)) := by
          rw [← hV7]; exact (Below.heap_setCell V6 _ _ _ (by exact hne2)).trans HG6.out
        have h70 : ∀ K, K ≠ E → W7.heap[K]? = V6.heap[K]? := fun K hK => by rw [← hV7]; exact Below.heap_setCell V6 _ _ _ (by exact hK)
        have hb7 : Below B w W7 := by rw [← hV7]; exact (HB6.out.setCell (p := ⟨E, 1, none⟩) (by show B ≤ E; omega) _).drew
        have HG7 := Lib.hid (And.intro hz7 (And.intro hG7 (And.intro h70 hb7)))
        clear hV7 e0 e1 e2 e3 ef1 ef2 g0 g2 hz7 hG7 h70 hb7
        have g0 : W7.cell? ⟨G, 0, none⟩ = some (.string ⟨Da.s.toArray⟩) := by rw [cell_row _ G 0 _ _ HG7.out.2.1]; rfl
        have g2 : W7.cell? ⟨G, 2, none⟩ = some (.int .i64 (Da.e : Int)) := by rw [cell_row _ G 2 _ _ HG7.out.2.1]; rfl
        obtain ⟨e0, e1, e2, e3⟩ := xeA_cells HG7.out.1
        have ef2 := frozen_of _ E 2 _ _ HG7.out.1
        refine hK.out _ _ (by exact ⟨g0, g2⟩) (fun hHeld => ?_)
        clear hK K
        (try simp only [Act.put, lay8])
        refine wpAnyH_take (i := 10) (v := ?_) rfl (by kernel_rfl) (by kernel_rfl) (by kernel_rfl) (fun _ _ _ h => h) (Or.inl ⟨by kernel_rfl, ?_⟩) hHeld ?_
        rotate_left
        · (intro w' hSw; obtain ⟨hS0, hS1⟩ := hSw; go_simp; try with_reducible rfl)
        simp only [Act.put, lay8]
        refine wpAnyH_ready (rs := [11]) (by kernel_rfl) (by simp) (AllReadyH.cons rfl (fun K hK => ?_) AllReadyH.nil)
        go_simp
        generalize hV8 : World.setCell _ _ _ = W8
        have hz8 : W8.heap[E]? = some (.cells #[.slice tA tl tc, .string ⟨Da.s.toArray⟩, .int .i64 ((Da.e : Int) - (Da.s.length : Int)), .int .u32 (en : Int)] 26 (0, 0)) := by
          rw [← hV8]; exact set_at W7 E 2 _ _ _ HG7.out.1
        have hG8 : W8.heap[G]? = some (.cells (daL Da.s (.slice gA n gc) Da.e).toArray 76 (0, 0)) := by
          rw [← hV8]; exact (Below.heap_setCell W7 _ _ _ (by exact hne2)).trans HG7.out.2.1
        have h80 : ∀ K, K ≠ E → W8.heap[K]? = V6.heap[K]? := fun K hK => by rw [← hV8]; exact (Below.heap_setCell W7 _ _ _ (by exact hK)).trans (HG7.out.2.2.1 K hK)
        have hb8 : Below B w W8 := by rw [← hV8]; exact HG7.out.2.2.2.setCell (p := ⟨E, 2, none⟩) (by show B ≤ E; omega) _
        have HG8 := Lib.hid (And.intro hz8 (And.intro hG8 (And.intro h80 hb8)))
        clear hV8 e0 e1 e2 e3 ef2 g0 g2 hz8 hG8 h80 hb8
        have g0 : W8.cell? ⟨G, 0, none⟩ = some (.string ⟨Da.s.toArray⟩) := by rw [cell_row _ G 0 _ _ HG8.out.2.1]; rfl
        have g2 : W8.cell? ⟨G, 2, none⟩ = some (.int .i64 (Da.e : Int)) := by rw [cell_row _ G 2 _ _ HG8.out.2.1]; rfl
        refine hK.out _ _ (by exact ⟨g0, g2⟩) (fun hHeld => ?_)
        clear hK K
        (try simp only [Act.put, lay8])
        refine wpAnyH_done (by kernel_rfl) ?_ _
        clear hHeld g0 g2
        obtain ⟨e0, e1, e2, e3⟩ := xeA_cells HG8.out.1
        have hzB : W8.heap[B]? = some (.cells #[.slice none 0 0, .string ⟨#[]⟩, .int .i64 0, .int .u32 0] 26 (0, 0)) := (HG8.out.2.2.1 B (by omega)).trans HI6.out.z0
        obtain ⟨a0, a1, a2, a3⟩ := xeA_cells hzB
        have f0 := frozen_of W8 B 0 _ _ hzB
        have f1 := frozen_of W8 B 1 _ _ hzB
        have f2 := frozen_of W8 B 2 _ _ hzB
        have f3 := frozen_of W8 B 3 _ _ hzB
        have HzB := Lib.hid hzB
        have hneB : B ≠ E := by omega
        clear hzB
        go_wp2_with fail
        refine bodyPost_ret (resultsA3 (cs := [.slice tA tl tc, .string ⟨Da.s.toArray⟩, .int .i64 ((Da.e : Int) - (Da.s.length : Int)), .int .u32 (en : Int)]) rfl rfl (rangeA (exe4_heap HzB.out _ _ _ _)) Tryz.underlying26 rfl info_exe rfl rfl) rfl ⟨_, rfl, ⟨tA, tc, ?_, ?_⟩, by rw [hB]; exact exe4_below HG8.out.2.2.2 _ _ _ _⟩
        · rw [← HRR.out]
          dsimp only [Pl.resE]
          unfold xeV
          dsimp only
          rw [hTl]
          rfl
        · rw [← HRR.out]
          dsimp only [Pl.resE]
          rw [hTl]
          refine Rd.own (own_heap HM6.out.own fun K hK _ => ?_)
          rw [Below.heap_setCell _ _ _ _ (by show K ≠ B; omega), Below.heap_setCell _ _ _ _ (by show K ≠ B; omega), Below.heap_setCell _ _ _ _ (by show K ≠ B; omega), Below.heap_setCell _ _ _ _ (by show K ≠ B; omega)]
          exact HG8.out.2.2.1 K (by omega)
end Go.Proofs.YtmmnkoeajdeldaaGreatDoor
namespace Go.Proofs.YtmmnkoeajdeldaaGreatDoor
open Go.ChangeShapes Go.WideShapes Go.ChangeAt Go.RowKit
set_option linter.unusedVariables false
set_option linter.unusedSimpArgs false
attribute [local go_sem] ba_get ba_cut ba_add
theorem mk_tlen (t : List UInt8) : (Pl.resE (Pl.mkP t)).1.text.length ≤ 1000 := by
  cases h : Pl.mkP t with
  | error e => exact of_decide_eq_true rfl
  | ok Y => exact (Pl.mk_ok h).t
set_option maxRecDepth 100000 in
set_option maxHeartbeats 16000000 in
theorem asmMakes_walk (t : List UInt8) (w : World) (ht : t.length ≤ 140737488355328) (hv : VLaw w) :
    Calls Tryz.prog 3 #[.string ⟨t.toArray⟩] w (RetB (fun v _ => v = .bool true) w) := by
  have HW := Lib.hid hv
  clear hv
  by_cases h1 : 1500 < t.length ∧ t.length ≤ 65536
  · obtain ⟨g1, g2⟩ := h1
    go_enter Tryz.func3, Tryz.ntmps3
    go_wp2_with fail
    refine (fixed_any _ HW.out.asm).mono ?_
    rintro y w3 ⟨v, rfl, rfl, hb3⟩
    go_wp2_with fail
    go_ret
    exact ⟨_, rfl, rfl, hb3⟩
  have hrm := fun W => rmake_any t W ht
  simp only [← Pl.mk_eq] at hrm
  unfold RMk at hrm
  have htl := mk_tlen t
  have hmk := make_any t w ht HW.out.asm
  obtain ⟨P, hP⟩ : ∃ P, Pl.mkP t = P := ⟨_, rfl⟩
  rw [hP] at htl hmk
  simp only [hP] at hrm
  have HM := Lib.hid hmk
  have HR := Lib.hid hrm
  clear hmk hrm hP
  have h2 : t.length ≤ 1500 ∨ 65536 < t.length := by omega
  clear h1
  rcases h2 with g | g
  all_goals
    go_enter Tryz.func3, Tryz.ntmps3
    go_wp2_with fail
    (with_reducible refine HM.out.mono ?_)
    rintro y w1 hq
    obtain ⟨tA, c1, rfl, hr1, hl1, hb1⟩ := hq.val
    obtain ⟨⟨X, e, ln⟩, hRE⟩ : ∃ q, Pl.resE P = q := ⟨_, rfl⟩
    simp only [hRE] at HR htl hr1 hl1 ⊢
    have hv1 := HW.out.below hb1
    obtain ⟨tx, dx, rx, ex⟩ := X
    have hsm : ∀ W tB cB, Below w1.heap.size w1 W → Rd W 1 tB tx.length (w32s tx) → Calls Tryz.prog 11 #[xeV tA c1 ⟨tx, dx, rx, ex⟩, xeV tB cB ⟨tx, dx, rx, ex⟩] W (RetB (fun v _ => v = .bool true) W) := fun W tB cB hb h => by
      have h2 := same11_any ⟨tx, dx, rx, ex⟩ ⟨tx, dx, rx, ex⟩ tA tB c1 cB W (hr1.below hb) h (by dsimp only at htl ⊢; omega) (by dsimp only at htl ⊢; omega)
      rw [show sameE ⟨tx, dx, rx, ex⟩ ⟨tx, dx, rx, ex⟩ = true from decide_eq_true ⟨rfl, rfl, rfl, rfl⟩] at h2
      exact h2
    have eX : ∀ A' c', xeV A' c' ⟨tx, dx, rx, ex⟩ = .agg #[.slice A' tx.length c', .string ⟨dx.toArray⟩, .int .i64 rx, .int .u32 (ex : Int)] := fun _ _ => rfl
    simp only [eX] at HR hsm ⊢
    obtain ⟨nx, hnx⟩ : ∃ z, tx.length = z := ⟨_, rfl⟩
    simp only [hnx] at HR hsm ⊢
    have HS := Lib.hid hsm
    have H1 := Lib.hid (And.intro hb1 hv1)
    clear hq hRE hr1 hl1 htl hsm eX hnx hb1 hv1
    go_upto_region 4 with (fail)
    obtain ⟨B0, hB0⟩ : ∃ B, w1.heap.size = B := ⟨_, rfl⟩
    generalize hw2 : World.alloc w1 _ = w2
    have hz2 : w2.heap[B0]? = some (.cells #[.slice tA nx c1, .string ⟨dx.toArray⟩, .int .i64 rx, .int .u32 (ex : Int)] 26 (0, 0)) := by rw [← hw2, ← hB0]; exact heap_alloc_new _ _
    have hb2 : Below w1.heap.size w1 w2 := by rw [← hw2]; exact (Below.refl _ _).alloc (Nat.le_refl _) _
    simp only [hB0]
    have H2 := Lib.hid (And.intro hz2 (And.intro hb2 (H1.out.1.trans (hb2.mono H1.out.1.size))))
    clear hw2 hz2 hb2 hB0
    go_wp2_with fail
    (with_reducible refine (HR.out _).mono ?_)
    rintro y w3 ⟨v, rfl, ⟨tB, c3, rfl, hr3⟩, hb3⟩
    have H3 := Lib.hid (And.intro ((hb3.block B0 (blk_lt H2.out.1)).trans H2.out.1) (And.intro hr3 (And.intro (H2.out.2.1.trans (hb3.mono H2.out.2.1.size)) (H2.out.2.2.trans (hb3.mono H2.out.2.2.size)))))
    clear hb3 hr3
    go_upto_region 5 with (fail)
    obtain ⟨B1, hB1⟩ : ∃ B, w3.heap.size = B := ⟨_, rfl⟩
    generalize hw4 : World.alloc w3 _ = w4
    have hz4 : w4.heap[B1]? = some (.cells #[.slice tB nx c3, .string ⟨dx.toArray⟩, .int .i64 rx, .int .u32 (ex : Int)] 26 (0, 0)) := by rw [← hw4, ← hB1]; exact heap_alloc_new _ _
    have hb4 : Below w3.heap.size w3 w4 := by rw [← hw4]; exact (Below.refl _ _).alloc (Nat.le_refl _) _
    simp only [hB1]
    have H4 := Lib.hid (And.intro ((hb4.block B0 (blk_lt H3.out.1)).trans H3.out.1) (And.intro hz4 (And.intro (H3.out.2.1.below hb4) (And.intro (H3.out.2.2.1.trans (hb4.mono H3.out.2.2.1.size)) (H3.out.2.2.2.trans (hb4.mono H3.out.2.2.2.size))))))
    clear hw4 hz4 hb4 hB1
    have hv4 : VLaw w4 := HW.out.below H4.out.2.2.2.2
    go_wp2_with fail
    refine (fixed_any _ hv4.asm).mono ?_
    rintro y w5 ⟨v, rfl, rfl, hb5⟩
    have hz50 := (hb5.block B0 (blk_lt H4.out.1)).trans H4.out.1
    have hz51 := (hb5.block B1 (blk_lt H4.out.2.1)).trans H4.out.2.1
    have H5 := Lib.hid (And.intro (H4.out.2.2.1.below hb5) (And.intro (H4.out.2.2.2.1.trans (hb5.mono H4.out.2.2.2.1.size)) (H4.out.2.2.2.2.trans (hb5.mono H4.out.2.2.2.2.size))))
    clear hb5 hv4
    obtain ⟨x0, x1, x2, x3⟩ := xeA_cells hz50
    obtain ⟨y0, y1, y2, y3⟩ := xeA_cells hz51
    clear hz50 hz51
    go_wp2_with fail
    (with_reducible refine (HS.out w5 tB c3 H5.out.2.1 H5.out.1).mono ?_)
    rintro y w6 ⟨v, rfl, rfl, hb6⟩
    have H6 := Lib.hid (H5.out.2.2.trans (hb6.mono H5.out.2.2.size))
    clear x0 x1 x2 x3 y0 y1 y2 y3 hb6
    go_wp2_with fail
    go_ret
    exact ⟨_, rfl, (by simp), H6.out⟩
-- FRAME
set_option maxRecDepth 100000 in
theorem asmMakes_lifted (os : Os) (started : os.Started) (H : Type) (enc : TypeId × Value → H) :
    ReturnsInHanded {} Tryz.checked os 3 .any (fun w args => (Rows.asmMakesSpec.pre enc Tryz.prog Tryz.f3 [] false w args ∧ laidMetH Tryz.prog tabs8 w) ∧ sizedMet enc Tryz.prog Tryz.f3 (OpenSpec.ofChange Rows.asmMakesSpec) false w args) (Rows.asmMakesSpec.post enc Tryz.prog Tryz.f3 false true false false) := by
  refine handed_and_shaped (C := Tryz.checked) (X := fun w _ => laidMetH Tryz.prog tabs8 w) (fun _ _ _ hh h => h.of_heap hh) own started (by kernel_rfl) Tryz.func3
    (ChangeSpec.witness_shaped (enc := enc) (C := Tryz.checked) (os := os) (X := fun w _ => laidMetH Tryz.prog tabs8 w) false (World.laidAll Tryz.prog os tabs8) #[.string ⟨#[]⟩] 8 (World.laidAll_os _ _ _) (door_shaped8 os) (by kernel_rfl) (by kernel_rfl) (by kernel_rfl) (door_met8 os _)) ?_
  intro W base args ds gs before hval0 hW hcnd hsz0 hL hsh _
  have hvars := vlaw_of8 hL hsh
  have hval : ∀ (j : Nat) t v, Tryz.f3.params[j]? = some t → args[j]? = some v → Value.okWide Tryz.prog W .any base t v := hval0
  have hW' := hW
  obtain ⟨p, q, hA0, hV, rfl, hfz, hnd⟩ := hW
  have hA : DataW.TrodAll enc Tryz.prog W 0 (fun _ => true) true Tryz.f3.params.toList args.toList ds p := hA0
  have hsz : (DataW.weightsEach Tryz.prog (Tryz.f3.params.toList ++ Rows.asmMakesSpec.plain.varTypes Tryz.prog) (ds ++ gs)).all (· ≤ reachBytes) = true := hsz0
  rw [Tryz.params3] at hA hval hsz
  obtain ⟨v0, vs0, d0, ds0, p0, q0, hargs, rfl, rfl, h0, r0⟩ := trodAll_cons hA
  obtain ⟨rfl, rfl, rfl⟩ := trodAll_nil r0
  obtain rfl : args = #[v0] := by cases args; simp_all
  obtain ⟨rfl, rfl⟩ := trodVars_none hV
  have k0 := h0
  have lt0 : ∀ x ∈ p0, x.block < W.heap.size := by obtain ⟨m, hm⟩ := k0; exact DataW.trod_lt m _ _ _ hm
  have hz0 : ∀ m ∈ d0.weights Tryz.prog 9, m ≤ reachBytes := fun m hm => by
    have h1 := List.all_eq_true.1 hsz m (DataW.weights_mem_each (j := 0) rfl rfl m hm)
    simpa using h1
  obtain ⟨l0, rfl, eA0⟩ := open_str (hval 0 9 v0 rfl rfl) h0 hz0
  clear hA0 hval0 hsz0
  refine (asmMakes_walk l0 W (Nat.le_trans eA0 reach_le) hvars).mono fun e W' ⟨v, he, hv, bel⟩ => ?_
  subst he hv
  exact ⟨_, rfl, _, _, _, [], _, [], hW', trodAll_mk1 (shut_bool Tryz.underlying4 _), (trodAll_cons_mk (Below.trod laidOut (by kernel_rfl) (of_decide_eq_true (by kernel_rfl)) k0 bel lt0) trodAll_mk0), rfl, bel.frame _, fun h => by cases h⟩

theorem asmMakes_row : Rows.AsmMakesSaid :=
  OpenClaim.holds_of_wide 3 Tryz.f3 rfl rfl rfl rfl rfl rfl rfl ⟨rfl, rfl, rfl, rfl, rfl⟩ rfl rfl rfl rfl rfl (by kernel_rfl) Tryz.func3 (by kernel_rfl)
    (of_decide_eq_true (by kernel_rfl)) (by unfold Func.isWrapper; first | (rw [if_pos (by decide +kernel)]; kernel_rfl) | (rw [if_neg (by decide +kernel)]; exact ⟨rfl, rfl⟩))
    (fun os started H enc _ => asmMakes_lifted os started H enc)

theorem asmMakes_holds : Rows.AsmMakesCardSaid :=
  Claim7.holds_tied_plain_at .later [] [.data, .data, .data, .data, .sentinel, .sentinel, .data, .pinned] true (true, "818a6ed589f336af0c0d102f47932e8562c39db2379b8541c17b0339f756e312") true
    asmMakes_row (fun _ h => by cases h) (by kernel_rfl) (fun _ h => by cases h) asmMakes_row_tie rfl ⟨rfl, rfl⟩ (by kernel_rfl) rfl
    (fun f fn hf hfn => by
      obtain rfl : f = 3 := Option.some.inj ((show Tryz.prog.funcNamed "hibernacle/hibernaclelaw11.AsmMakes" = some 3 by kernel_rfl).symm.trans hf) |>.symm
      obtain rfl : fn = Tryz.f3 := (Option.some.inj (Tryz.func3.symm.trans hfn)).symm
      exact ⟨by kernel_rfl, fun j t ht => by
        rw [Tryz.params3] at ht
        rcases j with _ | _ | _ | _ | j
        all_goals first
          | (simp at ht; done)
          | (have h3 := Option.some.inj ht; subst h3; exact (show Tryz.prog.wantsStandIn _ = false by kernel_rfl))⟩)
    (by kernel_rfl)
#print axioms asmMakes_holds
end Go.Proofs.YtmmnkoeajdeldaaGreatDoor
