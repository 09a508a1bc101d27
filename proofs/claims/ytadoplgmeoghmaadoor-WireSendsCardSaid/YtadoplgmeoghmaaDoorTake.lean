/- A range over a function whose body leaves by one exit in its first round; loads and stores of long rows within a fence. The walk of session's Take, where the message's number is the channel's. -/
import Derived.RangeFuncNested
import Derived.RangeFuncBound
import Derived.RangeFuncCalls
import Derived.RangeFuncLeaves
import Derived.WalkKit
import Derived.OwnWalkIn
import Derived.TacticsInMore
import Derived.LoopNIn
import Derived.LoopIn
import Derived.Deep.MidRow
import Derived.Test.YtadoplgmeoghmaaDoorSend
import Derived.Test.YtadoplgmeoghmaaDoorGetW
import Derived.Test.YtadoplgmeoghmaaDoorNumW1
namespace Go.Proofs.YtadoplgmeoghmaaDoor
open Go Go.RowKit
section
variable {F : Fence} {n : Nat} {P : Program}
theorem wpListIn_load_mid {ops : Array Oper} {rest : List Oper} {op : Oper} {a : Act} {w : World} {Q : Exit → Act → World → Prop} (hgd : op.guard = none) (ty : TypeId) (x : Operand) (ho : op.op = .load ty x)
    (b o : Nat) (hx : a.eval x = .pointer (some ⟨b, o, none⟩)) (cs : List Value) (d : TypeDesc) (hc : w.rangeAt b o cs)
    (hu : P.underlying ty = some d) (hd : d.isRow = true) (hi : (P.info? ty).map (·.size) = some cs.length)
    (h : wpListIn F n P ops Q rest (a.put op.dst (.agg cs.toArray)) w) : wpListIn F n P ops Q (op :: rest) a w := by
  refine wpListIn_plain hgd fun K hK => ?_
  unfold Oper.wpIn
  refine ⟨?_, ?_⟩
  · simp [Oper.about, ho]
  · rw [Oper.semAt_plain F _ _ (by rw [ho]; intro c hc'; cases hc')]
    unfold execOp
    simp only [ho, hx, Instr.loadAt, Instr.sureAddr, Sem.run_bind, Sem.run_pure, Result.andThen_ok, run_loadVar_mid w b o ty cs d hc hu hd hi]
    exact hK _ _ h
theorem wpListIn_store_mid {ops : Array Oper} {rest : List Oper} {op : Oper} {a : Act} {w : World} {Q : Exit → Act → World → Prop} (hgd : op.guard = none) (ty : TypeId) (x y : Operand) (ho : op.op = .store ty x y)
    (b o : Nat) (cells : Array Value) (hx : a.eval x = .pointer (some ⟨b, o, none⟩)) (hy : a.eval y = .agg cells)
    (ht : w.there b o cells.size) (hi : (P.info? ty).map (·.size) = some cells.size) (h1 : cells.all (·.oneCell') = true)
    (h : wpListIn F n P ops Q rest (a.put op.dst undef) (w.setCells b o cells.toList)) : wpListIn F n P ops Q (op :: rest) a w := by
  refine wpListIn_plain hgd fun K hK => ?_
  unfold Oper.wpIn
  refine ⟨?_, ?_⟩
  · simp [Oper.about, ho]
  · rw [Oper.semAt_plain F _ _ (by rw [ho]; intro c hc'; cases hc')]
    unfold execOp
    simp only [ho, hx, hy, Instr.storeAt, Instr.sureAddr, Sem.run_bind, Sem.run_pure, Result.andThen_ok, run_storeVar_mid w b o ty cells ht hi h1]
    exact hK _ _ h
/-- No panic is let through: for a region that draws its order in a function whose panics are told by its temporaries. -/
def NoPanic (Q : Exit → Act → World → Prop) : Exit → Act → World → Prop
  | .panic _, _, _ => False
  | e, a, w => Q e a w
theorem wp_nopanic {c : Code} {Q : Exit → Act → World → Prop} {a : Act} {w : World} (h : c.wp P (NoPanic Q) a w) : c.wp P Q a w :=
  Code.wp_mono (fun e a w q => by cases e <;> first | exact q | exact q.elim) h
theorem wpIn_name {c : Code} {Q : Exit → Act → World → Prop} {t : Array Value} {ds : List Deferred} {w : World} (h : ∀ T, T = t → c.wpIn F n P Q { tmps := T, defers := ds } w) : c.wpIn F n P Q { tmps := t, defers := ds } w := h t rfl
theorem wpIn_rangeFunc_once {g : Operand} {ps : Array Tmp} {assign body : Code} {Q : Exit → Act → World → Prop} {a : Act} {w : World}
    (hro : F.round = none) (h1 : 1 ≤ n) {gf : Nat} {lb : Array Value} (hg : a.eval g = .func (.func gf) #[] lb) (hFg : F.fn gf) (eg : ∀ args w, (callFunc gf args).run P w = .ok (.enter gf args) w)
    (xs : Array Value) (hps : xs.size = ps.size) (id : Nat)
    (hseq : ∀ (l : Nat) (W : World) (Jx : World → Prop), Below w.heap.size w W → YieldAt F (n - 1 - 1) P l xs W (fun e W' => e = .returned (.bool false) ∧ Jx W') →
      CallsIn F (n - 1) P gf (#[.func (.yield l) #[] #[]] ++ lb) W (fun e W' => (∃ v, e = .returned v) ∧ Jx W'))
    (Ax : Act → World → Prop) (Ix : World → Prop)
    (hAx : ∀ (a' : Act) (W : World) (l : Nat) (o o' : Obj), w.heap.size ≤ l → W.heap[l]? = some o → o.isCells = false → Ax a' W → Ax a' (W.putObj l o'))
    (hIx : ∀ (W : World) (l : Nat) (o o' : Obj), w.heap.size ≤ l → W.heap[l]? = some o → o.isCells = false → Ix W → Ix (W.putObj l o'))
    (hassign : ∀ (l : Nat) (W : World) (K : Act → World → Prop), Below w.heap.size w W → (∀ a' W', KeepsFrom w.heap.size W W' → Ax a' W' → K a' W') →
      assign.wpIn (F.inRound l) (n - 1 - 1) P (Exit.then K (fun _ _ _ => False)) { tmps := (ps.zip xs).foldl (fun t (p, v) => t.setIfInBounds p v) a.tmps, defers := [] } W)
    (hbody : ∀ (l : Nat) (a' : Act) (W : World), Ax a' W → body.wpIn (F.inRound l) (n - 1 - 1) P (fun e _ W' => e = .exit id ∧ KeepsFrom w.heap.size W W' ∧ Ix W') a' W)
    (hstop : ∀ (W : World), Ix W → W.heap[w.heap.size]? = some (.deferred (some [])) → (Code.exit id).wpIn F n P Q { a with defers := { target := .collected w.heap.size, args := #[] } :: a.defers } W) :
    (Code.rangeFunc g ps assign body).wpIn F n P Q a w := by
  refine wpIn_rangeFunc ?_
  intro fn hfn
  rw [hro]
  obtain ⟨rec, hrec⟩ : ∃ rec : LoopState → Option Code → Loop, rec = fun st pe => { state := st, pending := pe, fn, tmps := a.tmps, params := ps, assign, body, defers := w.heap.size } := ⟨_, rfl⟩
  obtain ⟨W1, hW1⟩ : ∃ W1, (w.alloc (.deferred (some []))).alloc (.loop (rec .ready none)) = W1 := ⟨_, rfl⟩
  have hL1 : W1.heap[w.heap.size + 1]? = some (.loop (rec .ready none)) := by
    rw [← hW1]; have := World.alloc_heap_new (w.alloc (.deferred (some []))) (.loop (rec .ready none)); rwa [World.size_alloc] at this
  have hK1 : W1.heap[w.heap.size]? = some (.deferred (some [])) := by
    rw [← hW1]; exact (Below.heap_alloc _ _ _ (by simp)).trans (World.alloc_heap_new w _)
  have hb1 : Below w.heap.size w W1 := by
    rw [← hW1]; exact ((Below.refl _ w).alloc (Nat.le_refl _) _).alloc (by simp) _
  refine ⟨w.heap.size + 1, [{ target := .collected w.heap.size, args := #[] }], W1, { target := .fn (.func gf) lb, args := #[.func (.yield (w.heap.size + 1)) #[] #[]] }, W1, gf,
    #[.func (.yield (w.heap.size + 1)) #[] #[]] ++ lb, W1, ?_, ?_, ?_, ?_, fun _ => h1, ?_⟩
  · rw [← hW1, hrec]; exact run_enterLoop_outer _ _ _ _ _
  · simp only [resolve, hg]
    simp [go_sem]
  · intro f' hf'; simp [Target.leads] at hf'; subst hf'; exact hFg
  · simp [invoke, go_sem, eg]
  · refine (hseq (w.heap.size + 1) W1 (fun W => Ix W ∧ W.heap[w.heap.size + 1]? = some (.loop (rec .done (some (.exit id)))) ∧ W.heap[w.heap.size]? = some (.deferred (some []))) hb1 ?_).mono ?_
    · have hlt : w.heap.size + 1 < W1.heap.size := (Array.getElem?_eq_some_iff.1 hL1).1
      have hy := run_yield (P := P) (args := xs) hL1 (by rw [hrec]; exact hps)
      rw [hrec] at hy
      refine ⟨fn, _, assign, body, hy, roundIn_of_wpIn hfn (hassign _ W1 _ hb1 ?_)⟩
      clear hy
      intro a' Wa hkfa hax
      have hl := hkfa.same _ _ (by omega) hL1 rfl
      have hk := hkfa.same _ _ (Nat.le_refl _) hK1 rfl
      have hlt : w.heap.size + 1 < Wa.heap.size := (Array.getElem?_eq_some_iff.1 hl).1
      refine ⟨_, run_beginRound hl (by rw [hrec]), ?_⟩
      have hl2 : (Wa.putObj (w.heap.size + 1) (.loop { rec .ready none with state := .busy })).heap[w.heap.size + 1]? = some (.loop { rec .ready none with state := .busy }) := World.putObj_heap_same hlt
      have hk2 : (Wa.putObj (w.heap.size + 1) (.loop { rec .ready none with state := .busy })).heap[w.heap.size]? = some (.deferred (some [])) := (World.putObj_heap_other (by omega)).trans hk
      refine wpIn_mono (hbody _ a' _ (hAx a' _ _ _ _ (by omega) hl rfl hax)) ?_
      rintro e a3 W3 ⟨rfl, hk3, hi3⟩
      have hl3 := hk3.same _ _ (by omega) hl2 rfl
      have hr := run_endRound (P := P) (some (.exit id)) hl3
      have hlt3 := (Array.getElem?_eq_some_iff.1 hl3).1
      have hkk := hk3.same _ _ (Nat.le_refl _) hk2 rfl
      rw [hrec] at hr hl3 ⊢
      refine ⟨_, _, hr, rfl, hIx _ _ _ _ (by omega) hl3 rfl hi3, World.putObj_heap_same hlt3, (World.putObj_heap_other (by omega)).trans hkk⟩
    · rintro e W2 ⟨⟨v, rfl⟩, hi, hl, hk⟩
      exact ⟨some (.exit id), _, by have := run_endLoop (P := P) hl (by rw [hrec]; simp); rw [hrec] at this; exact this, hstop _ (hIx _ _ _ _ (by omega) hl rfl hi) ((World.putObj_heap_other (by omega)).trans hk)⟩
end
end Go.Proofs.YtadoplgmeoghmaaDoor
namespace Go.Proofs.YtadoplgmeoghmaaDoor
open Go.RowKit
set_option linter.unusedVariables false
set_option linter.unusedSimpArgs false
attribute [local go_sem] Oper.semAt_some
set_option maxRecDepth 1000000 in
set_option maxHeartbeats 4000000 in
theorem behind_any (kL : List Value) (w : World) :
    Calls Tryd.prog 25 #[.agg kL.toArray] w (fun e w' => e = .returned (.func (.func 50) #[] #[.pointer (some ⟨w.heap.size, 0, none⟩)]) ∧ w' = w.alloc (.cells kL.toArray 24)) := by
  go_enter Tryd.func25, Tryd.ntmps25
  go_wp2_with fail
  go_ret
  exact ⟨rfl, rfl⟩
set_option maxRecDepth 1000000 in
set_option maxHeartbeats 4000000 in
theorem behind1_once (n : Nat) (hn : 1 ≤ n) (l B : Nat) (kL : List Value) (hk : kL.length = 32) (Jx : World → Prop) (W : World) (hB : W.heap[B]? = some (.cells kL.toArray 24 (0, 0)))
    (hY : YieldAt Fence.wide (n - 1) Tryd.prog l #[.int .u64 0, .agg kL.toArray] W fun e W' => e = .returned (.bool false) ∧ Jx W') :
    CallsIn Fence.wide n Tryd.prog 50 #[.func (.yield l) #[] #[], .pointer (some ⟨B, 0, none⟩)] W fun e W' => (∃ v, e = .returned v) ∧ Jx W' := by
  refine callsIn_of_wp Tryd.func50 rfl trivial ?_ rfl
  simp only [Tryd.ntmps50, List.size_toArray, List.length_cons, List.length_nil, Nat.reduceAdd, Nat.reduceSub, Array.replicate_succ, Array.replicate_zero, List.push_toArray, List.append_toArray, List.nil_append, List.cons_append]
  obtain ⟨fn, tmps, assign, body, hy, hR⟩ := hY
  gi_wp2
  gi_loopw [3] (fun i wr => i = .int .u64 0 ∧ wr = W) (fun _ _ => 0)
  case atStart => exact ⟨rfl, rfl⟩
  case round =>
    obtain ⟨rfl, rfl⟩ := hrel
    gi_wp2_with (with_reducible refine wpListIn_load_mid rfl 24 _ rfl B 0 rfl kL _ (rangeL hB) Tryd.underlying24 rfl (by rw [hk]; exact info_k) ?_)
    refine hR.mono ?_
    rintro e W3 ⟨rfl, hJ⟩
    gi_wp2
    go_end0
    exact ⟨⟨_, rfl⟩, hJ⟩
/-- What stands about the loop over the keys behind a key. -/
structure TkF (w W : World) (C R N K1 b off : Nat) (m : List UInt8) (n : Nat) (kL : List Value) (box : List UInt8) : Prop where
  bel : Below w.heap.size w W
  a : W.cell? ⟨C, 0, none⟩ = some (.string ⟨m.toArray⟩)
  n1 : W.cell? ⟨C, 1, none⟩ = some (.int .u64 (n : Int))
  r : W.heap[R]? = some (.cells noCh.toArray 26 (0, 0))
  v : VHash W
  nb : W.heap[N]? = some (.cells #[.int .u64 (n : Int)] 22 (0, 0))
  k : W.heap[K1]? = some (.cells kL.toArray 24 (0, 0))
  x : W.cell? ⟨b, off + 2, none⟩ = some (.string ⟨box.toArray⟩)
theorem TkF.grown {w W W' : World} {C R N K1 b off : Nat} {m : List UInt8} {n : Nat} {kL : List Value} {box : List UInt8} (h : TkF w W C R N K1 b off m n kL box) {r : Option Nat} (hg : W.grownBy W' r) {L : Nat} (hr : ∀ j, r = some j → L ≤ j) (hC : C < L) (hR : R < L) (hN : N < L) (hK : K1 < L) (hb : b < L) (hw : w.heap.size ≤ L) (hvl : 2 ≤ L) : TkF w W' C R N K1 b off m n kL box := by
  have ne : ∀ i, i < L → some i ≠ r := fun i hi e => by have := hr i e.symm; omega
  refine ⟨h.bel.grown hg h.bel.size (fun j e => Nat.le_trans hw (hr j e)), hg.cell h.a (ne _ hC), hg.cell h.n1 (ne _ hC), (hg.block _ (blk_lt h.r) (ne _ hR)).trans h.r, ?_, (hg.block _ (blk_lt h.nb) (ne _ hN)).trans h.nb, (hg.block _ (blk_lt h.k) (ne _ hK)).trans h.k, hg.cell h.x (ne _ hb)⟩
  exact h.v.grown hg (ne _ (Nat.lt_of_lt_of_le (by decide) hvl)) (ne _ (Nat.lt_of_lt_of_le (by decide) hvl))
/-- What Take reads behind the loop. -/
structure TkS (W : World) (C N K1 b off : Nat) (m : List UInt8) (n : Nat) (kL : List Value) (box : List UInt8) : Prop where
  k : W.rangeAt K1 0 kL
  a : W.cell? ⟨C, 0, none⟩ = some (.string ⟨m.toArray⟩)
  nb : W.cell? ⟨N, 0, none⟩ = some (.int .u64 (n : Int))
  x : W.cell? ⟨b, off + 2, none⟩ = some (.string ⟨box.toArray⟩)
theorem TkS.keep {W W' : World} {C N K1 b off : Nat} {m : List UInt8} {n : Nat} {kL : List Value} {box : List UInt8} (h : TkS W C N K1 b off m n kL box) {L : Nat} (hb : Below L W W') (hC : C < L) (hN : N < L) (hK : K1 < L) (hB : b < L) : TkS W' C N K1 b off m n kL box :=
  ⟨h.k.keep hb hK, (hb.cell (p := ⟨C, 0, none⟩) hC).trans h.a, (hb.cell (p := ⟨N, 0, none⟩) hN).trans h.nb, (hb.cell (p := ⟨b, off + 2, none⟩) hB).trans h.x⟩
theorem TkS.drew {W : World} {C N K1 b off : Nat} {m : List UInt8} {n : Nat} {kL : List Value} {box : List UInt8} (h : TkS W C N K1 b off m n kL box) : TkS W.drew C N K1 b off m n kL box := ⟨h.k, h.a, h.nb, h.x⟩
/-- What Take tells of a message that fits. -/
def takeV (m : List UInt8) (n : Nat) (k data : List UInt8) : Value := .tuple #[.agg (chL m (n + 1) (Pl.nextK k)).toArray, .string ⟨data.toArray⟩, .int .i64 0]
set_option maxRecDepth 1000000 in
set_option maxHeartbeats 8000000 in
theorem take_good (m : List UInt8) (n : Nat) (k frame data q box : List UInt8) (hk : k.length = 32) (hm : m.length ≤ 1099511627776) (hf : frame.length ≤ 1099511627776) (hT : Pl.texts frame = ([m, q, box], 0)) (hq : q.length = 8) (hg : Pl.getN q = n) (hbx : box.length ≤ 1099511627776) (hn : n < 18446744073709551615)
    (ho : openV (Pl.keyedB k [Pl.tSend]) (Pl.headN m n) box = .tuple #[.string ⟨data.toArray⟩, .int .i64 0]) (w : World) (hv : VHash w) :
    Calls Tryd.prog 8 #[.agg (chL m n k).toArray, .string ⟨frame.toArray⟩] w (fun x w' => x = .returned (takeV m n k data) ∧ Below w.heap.size w w') := by
  refine (callsIn_wide (n := 3)).1 ?_
  refine callsIn_of_wp_marks Tryd.func8 rfl trivial ?_ rfl
  simp only [Tryd.ntmps8, List.size_toArray, List.length_cons, List.length_nil, Nat.reduceAdd, Nat.reduceSub, Array.replicate_succ, Array.replicate_zero, List.push_toArray, List.append_toArray, List.nil_append, List.cons_append]
  refine wpIn_wide.2 ?_
  go_upto_region 1 with (fail)
  generalize hX : (w.alloc _).alloc _ = X
  have HB := Lib.hid (show Below w.heap.size w X by rw [← hX]; exact ((Below.refl _ _).alloc (Nat.le_refl _) _).alloc (by simp) _)
  have HC := Lib.hid (show X.heap[w.heap.size]? = some (.cells (chL m n k).toArray 26 (0, 0)) by rw [← hX]; exact (Below.heap_alloc _ _ _ (by simp)).trans (heap_alloc_new w _))
  have HR := Lib.hid (show X.heap[w.heap.size + 1]? = some (.cells noCh.toArray 26 (0, 0)) by rw [← hX]; exact heap_alloc_2 w _ _)
  have HV := Lib.hid (hv.below HB.out)
  clear hX hv
  obtain ⟨C, hCe⟩ : ∃ K, w.heap.size = K := ⟨_, rfl⟩
  obtain ⟨R, hRe⟩ : ∃ K, C + 1 = K := ⟨_, rfl⟩
  rw [hCe] at HC HR ⊢
  rw [hRe] at HR ⊢
  have k0 : w.heap.size ≤ R := by omega
  have k1 : C < R := by omega
  clear hRe
  have HCe := Lib.hid hCe
  clear hCe
  have HTx := Lib.hid (texts_any frame X hf)
  rw [hT] at HTx
  go_wp2_with fail
  with_reducible refine HTx.out.mono ?_
  rintro _ W1 ⟨v, rfl, ⟨sv, rfl, hown⟩, hb⟩
  obtain ⟨A, c, rfl⟩ := own_form' hown
  have hrd := Rd.own hown
  obtain ⟨b, off, rfl, hbl, hcl⟩ := hrd.at1 (i := 0) (show 0 < 3 by decide)
  have x0 : W1.cell? ⟨b, off, none⟩ = some (.string ⟨m.toArray⟩) := hcl
  have hbR : R < b := Nat.lt_of_lt_of_le (blk_lt HR.out) (hown.lt b rfl).1
  obtain ⟨b', off', hbe, -, hcl1⟩ := hrd.at1 (i := 1) (show 1 < 3 by decide)
  cases hbe
  have x1 : W1.cell? ⟨b, off + 1, none⟩ = some (.string ⟨q.toArray⟩) := hcl1
  obtain ⟨b', off', hbe, -, hcl2⟩ := hrd.at1 (i := 2) (show 2 < 3 by decide)
  cases hbe
  have x2 : W1.cell? ⟨b, off + 2, none⟩ = some (.string ⟨box.toArray⟩) := hcl2
  have HB1 := Lib.hid (HB.out.trans (hb.mono HB.out.size))
  have HC1 := Lib.hid ((hb.block _ (blk_lt HC.out)).trans HC.out)
  have HR1 := Lib.hid ((hb.block _ (blk_lt HR.out)).trans HR.out)
  have HV1 := Lib.hid (HV.out.below hb)
  have X2 := Lib.hid x2
  clear hcl hcl1 hcl2 hrd hown hb HB HC HR HV HTx x2
  have hl3 : ([m, q, box] : List (List UInt8)).length = 3 := rfl
  simp only [List.length_cons, List.length_nil, Nat.zero_add, Nat.reduceAdd]
  clear hl3
  have hq8 : ((q.length : Int) != 8) = false := by simp; omega
  have hgq : Pl.getN (q.take 8) = n := by rw [List.take_of_length_le (by omega)]; exact hg
  have hget := get_any q (by omega) W1
  rw [hgq] at hget
  have HGt := Lib.hid hget
  have HQ8 := Lib.hid hq
  clear hget hgq hg hq
  go_wp2_with fail
  with_reducible refine HGt.out.mono ?_
  rintro _ _ ⟨rfl, rfl⟩
  have hch1 := ChS.of HC1.out
  have HCl := Lib.hid (blk_lt HC1.out)
  have HRl := Lib.hid (blk_lt HR1.out)
  have HBl := Lib.hid hbl
  have X0 := Lib.hid x0
  clear x1 hq8 HGt x0
  go_upto_region 7 with (fail)
  have hnb2 : (W1.alloc (.cells #[.int .u64 (n : Int)] 22)).heap[W1.heap.size]? = some (.cells #[.int .u64 (n : Int)] 22 (0, 0)) := heap_alloc_new W1 _
  generalize hY : W1.alloc _ = Y
  rw [hY] at hnb2
  have hby : Below W1.heap.size W1 Y := by rw [← hY]; exact (Below.refl _ _).alloc (Nat.le_refl _) _
  have HB2 := Lib.hid (HB1.out.trans (hby.mono HB1.out.size))
  have HC2 := Lib.hid ((hby.block _ (blk_lt HC1.out)).trans HC1.out)
  have HR2 := Lib.hid ((hby.block _ (blk_lt HR1.out)).trans HR1.out)
  have HV2 := Lib.hid (HV1.out.below hby)
  have hx0 := (hby.cell (p := ⟨b, off, none⟩) HBl.out).trans X0.out
  have hx2 := (hby.cell (p := ⟨b, off + 2, none⟩) HBl.out).trans X2.out
  have hNl : C < W1.heap.size := HCl.out
  have hRl : R < W1.heap.size := HRl.out
  have hBl : b < W1.heap.size := HBl.out
  obtain ⟨N, hN⟩ : ∃ N, W1.heap.size = N := ⟨_, rfl⟩
  rw [hN] at hnb2 hNl hRl hBl ⊢
  have HNb := Lib.hid (show Y.heap[N]? = some (.cells #[.int .u64 (n : Int)] 22 (0, 0)) from hnb2)
  have HX0 := Lib.hid hx0
  have HX2 := Lib.hid hx2
  clear hnb2 hY hby hN HB1 HC1 HR1 HV1 HCl HRl HBl X0 X2 hch1 hx0 hx2 hbl
  have hch2 := ChS.of HC2.out
  have hcN : Y.cell? ⟨N, 0, none⟩ = some (.int .u64 (n : Int)) := by rw [cell_row Y N 0 _ _ HNb.out]; rfl
  refine wp_nopanic ?_
  refine wp_region_held_drew (S := (fun w' => w'.cell? ⟨b, off, none⟩ = some (.string ⟨m.toArray⟩) ∧ w'.cell? ⟨C, 0, none⟩ = some (.string ⟨m.toArray⟩))) (by kernel_rfl) (by exact ⟨HX0.out, hch2.a⟩) (fun hHeld => ?_)
  refine wpAnyH_take (i := 0) (v := ?_) rfl (by kernel_rfl) (by kernel_rfl) (by kernel_rfl) (fun _ _ _ h => h) (Or.inl ⟨by kernel_rfl, ?_⟩) hHeld ?_
  rotate_left
  · (intro w' hSw; (try dsimp only at hSw); (try obtain ⟨hS0, hS1⟩ := hSw); go_simp; try with_reducible rfl)
  simp only [Act.put, List.setIfInBounds_toArray, List.set_cons_zero, List.set_cons_succ, List.getElem_toArray, List.getElem_cons_succ, List.getElem_cons_zero]
  refine wpAnyH_take (i := 1) (v := ?_) rfl (by kernel_rfl) (by kernel_rfl) (by kernel_rfl) (fun _ _ _ h => h) (Or.inl ⟨by kernel_rfl, ?_⟩) hHeld ?_
  rotate_left
  · (intro w' hSw; (try dsimp only at hSw); (try obtain ⟨hS0, hS1⟩ := hSw); go_simp; try with_reducible rfl)
  simp only [Act.put, List.setIfInBounds_toArray, List.set_cons_zero, List.set_cons_succ, List.getElem_toArray, List.getElem_cons_succ, List.getElem_cons_zero]
  refine wpAnyH_take (i := 2) (v := ?_) rfl (by kernel_rfl) (by kernel_rfl) (by kernel_rfl) (fun _ _ _ h => h) (Or.inl ⟨by kernel_rfl, ?_⟩) hHeld ?_
  rotate_left
  · (intro w' hSw; (try dsimp only at hSw); (try obtain ⟨hS0, hS1⟩ := hSw); go_simp; try with_reducible rfl)
  simp only [Act.put, List.setIfInBounds_toArray, List.set_cons_zero, List.set_cons_succ, List.getElem_toArray, List.getElem_cons_succ, List.getElem_cons_zero]
  refine wpAnyH_take (i := 3) (v := ?_) rfl (by kernel_rfl) (by kernel_rfl) (by kernel_rfl) (fun _ _ _ h => h) (Or.inl ⟨by kernel_rfl, ?_⟩) hHeld ?_
  rotate_left
  · (intro w' hSw; (try dsimp only at hSw); (try obtain ⟨hS0, hS1⟩ := hSw); go_simp; try with_reducible rfl)
  simp only [Act.put, List.setIfInBounds_toArray, List.set_cons_zero, List.set_cons_succ, List.getElem_toArray, List.getElem_cons_succ, List.getElem_cons_zero]
  refine wpAnyH_take (i := 4) (v := ?_) rfl (by kernel_rfl) (by kernel_rfl) (by kernel_rfl) (fun _ _ _ h => h) (Or.inl ⟨by kernel_rfl, ?_⟩) hHeld ?_
  rotate_left
  · (intro w' hSw; (try dsimp only at hSw); (try obtain ⟨hS0, hS1⟩ := hSw); go_simp; try with_reducible rfl)
  simp only [Act.put, List.setIfInBounds_toArray, List.set_cons_zero, List.set_cons_succ, List.getElem_toArray, List.getElem_cons_succ, List.getElem_cons_zero]
  refine wpAnyH_take (i := 5) (v := ?_) rfl (by kernel_rfl) (by kernel_rfl) (by kernel_rfl) (fun _ _ _ h => h) (Or.inl ⟨by kernel_rfl, ?_⟩) hHeld ?_
  rotate_left
  · (intro w' hSw; (try dsimp only at hSw); (try obtain ⟨hS0, hS1⟩ := hSw); go_simp; try with_reducible rfl)
  simp only [Act.put, List.setIfInBounds_toArray, List.set_cons_zero, List.set_cons_succ, List.getElem_toArray, List.getElem_cons_succ, List.getElem_cons_zero]
  refine wpAnyH_take (i := 6) (v := ?_) rfl (by kernel_rfl) (by kernel_rfl) (by kernel_rfl) (fun _ _ _ h => h) (Or.inl ⟨by kernel_rfl, ?_⟩) hHeld ?_
  rotate_left
  · (intro w' hSw; (try dsimp only at hSw); (try obtain ⟨hS0, hS1⟩ := hSw); go_simp; try with_reducible rfl)
  simp only [Act.put, List.setIfInBounds_toArray, List.set_cons_zero, List.set_cons_succ, List.getElem_toArray, List.getElem_cons_succ, List.getElem_cons_zero]
  refine wpAnyH_done (by kernel_rfl) ?_ _
  simp only [NoPanic]
  clear hHeld
  obtain ⟨Z, hZ⟩ : ∃ Z, Y.drew = Z := ⟨_, rfl⟩
  have HB3 := Lib.hid (show Below w.heap.size w Z by rw [← hZ]; exact HB2.out.drew)
  have HC3 := Lib.hid (show Z.heap[C]? = some (.cells (chL m n k).toArray 26 (0, 0)) by rw [← hZ]; exact HC2.out)
  have HR3 := Lib.hid (show Z.heap[R]? = some (.cells noCh.toArray 26 (0, 0)) by rw [← hZ]; exact HR2.out)
  have HV3 := Lib.hid (show VHash Z by rw [← hZ]; exact ⟨HV2.out.e, HV2.out.r⟩)
  have HN3 := Lib.hid (show Z.heap[N]? = some (.cells #[.int .u64 (n : Int)] 22 (0, 0)) by rw [← hZ]; exact HNb.out)
  have HX3 := Lib.hid (show Z.cell? ⟨b, off + 2, none⟩ = some (.string ⟨box.toArray⟩) by rw [← hZ]; exact HX2.out)
  rw [hZ]
  clear hZ HB2 HC2 HR2 HV2 HNb HX0 HX2 hch2 hcN
  have hch := ChS.of HC3.out
  have hc1 := hch.b
  have hcN : Z.cell? ⟨N, 0, none⟩ = some (.int .u64 (n : Int)) := by rw [cell_row Z N 0 _ _ HN3.out]; rfl
  have f2 : ((n : Int) == 18446744073709551615) = false := by simp; omega
  have f3 : IntKind.u64.wrap ((n : Int) - (n : Int)) = 0 := by rw [Int.sub_self]; decide
  go_upto_region 13 with (fail)
  obtain ⟨kL, hkL⟩ : ∃ L, u8s k = L := ⟨_, rfl⟩
  have HkL := Lib.hid (show kL.length = 32 by rw [← hkL, u8s_len, hk])
  have HkL1 := Lib.hid (show kL.toArray.all (·.oneCell') = true by rw [← hkL]; exact all_oneCell_toArray (u8s_one _))
  rw [hkL] at hch
  have HkE := Lib.hid hkL
  clear hkL hc1 hcN
  have HZ := Lib.hid (show (Z.alloc (.cells #[.int .u8 0, .int .u8 0, .int .u8 0, .int .u8 0, .int .u8 0, .int .u8 0, .int .u8 0, .int .u8 0, .int .u8 0, .int .u8 0, .int .u8 0, .int .u8 0, .int .u8 0, .int .u8 0, .int .u8 0, .int .u8 0, .int .u8 0, .int .u8 0, .int .u8 0, .int .u8 0, .int .u8 0, .int .u8 0, .int .u8 0, .int .u8 0, .int .u8 0, .int .u8 0, .int .u8 0, .int .u8 0, .int .u8 0, .int .u8 0, .int .u8 0, .int .u8 0] 24)).heap[Z.heap.size]? = some (.cells (u8s (List.replicate 32 0)).toArray 24 (0, 0)) from heap_alloc_new Z _)
  have HTH := Lib.hid (thereL (n := kL.toArray.size) HZ.out (by rw [List.size_toArray, HkL.out]; simp [u8s_len]))
  have HCh := Lib.hid hch
  clear hch
  go_upto_region 14 with (first
    | (with_reducible refine wpList_load_mid rfl 24 _ rfl C 2 rfl kL _ HCh.out.k Tryd.underlying24 rfl (by rw [HkL.out]; exact info_k) ?_)
    | (with_reducible refine wpList_store_mid rfl 24 _ _ rfl Z.heap.size 0 kL.toArray rfl rfl HTH.out (by rw [List.size_toArray, HkL.out]; exact info_k) HkL1.out ?_))
  generalize hY : (Z.alloc _).setCells _ _ _ = Y
  have HKb := Lib.hid (show Y.heap[Z.heap.size]? = some (.cells kL.toArray 24 (0, 0)) by rw [← hY]; exact heap_setCells_all (vs := kL) HZ.out (by rw [HkL.out]; simp [u8s_len]))
  have hby : Below Z.heap.size Z Y := by rw [← hY]; exact ((Below.refl _ _).alloc (Nat.le_refl _) _).trans (Lib.below_setCells_w (Nat.le_refl _) _ _ _)
  have HB4 := Lib.hid (HB3.out.trans (hby.mono HB3.out.size))
  have HC4 := Lib.hid ((hby.block _ (blk_lt HC3.out)).trans HC3.out)
  have HR4 := Lib.hid ((hby.block _ (blk_lt HR3.out)).trans HR3.out)
  have HV4 := Lib.hid (HV3.out.below hby)
  have HN4 := Lib.hid ((hby.block _ (blk_lt HN3.out)).trans HN3.out)
  have HX4 := Lib.hid ((hby.cell (p := ⟨b, off + 2, none⟩) (Nat.lt_trans hBl (blk_lt HN3.out))).trans HX3.out)
  have hch4 := HCh.out.keep hby (blk_lt HC3.out)
  have hNK : N < Z.heap.size := blk_lt HN3.out
  obtain ⟨K1, hK1⟩ : ∃ K, Z.heap.size = K := ⟨_, rfl⟩
  rw [hK1] at HKb hNK ⊢
  clear hY hby hK1 HZ HTH HCh HB3 HC3 HR3 HV3 HN3 HX3
  simp only [Act.put]
  go_wp2_with (with_reducible refine wpList_load_mid rfl 24 _ rfl C 2 rfl kL _ hch4.k Tryd.underlying24 rfl (by rw [HkL.out]; exact info_k) ?_)
  with_reducible refine (behind_any kL Y).mono ?_
  rintro _ _ ⟨rfl, rfl⟩
  have hbx0 := (Below.refl Y.heap.size Y).alloc (Nat.le_refl _) (.cells kL.toArray 24)
  have HBb := Lib.hid (show (Y.alloc (.cells kL.toArray 24)).heap[Y.heap.size]? = some (.cells kL.toArray 24 (0, 0)) from heap_alloc_new Y _)
  go_wp2_with fail
  have hF0 : TkF w (Y.alloc (.cells kL.toArray 24)) C R N K1 b off m n kL box := ⟨HB4.out.trans (hbx0.mono HB4.out.size), (hch4.keep hbx0 (blk_lt HC4.out)).a, (hch4.keep hbx0 (blk_lt HC4.out)).b, (hbx0.block _ (blk_lt HR4.out)).trans HR4.out, HV4.out.below hbx0, (hbx0.block _ (blk_lt HN4.out)).trans HN4.out, (hbx0.block _ (blk_lt HKb.out)).trans HKb.out, (hbx0.cell (p := ⟨b, off + 2, none⟩) (Nat.lt_trans hBl (blk_lt HN4.out))).trans HX4.out⟩
  obtain ⟨V0, hV0⟩ : ∃ V, Y.alloc (.cells kL.toArray 24) = V := ⟨_, rfl⟩
  rw [hV0] at hF0 HBb ⊢
  have HK1l := Lib.hid (show K1 < V0.heap.size from blk_lt hF0.k)
  have HVl := Lib.hid (show 2 ≤ V0.heap.size from hF0.v.r.lt)
  have HWl := Lib.hid (show w.heap.size ≤ V0.heap.size from hF0.bel.size)
  clear hV0 hbx0 HB4 HC4 HR4 HV4 HN4 HX4 HKb hch4
  refine (wpIn_wide (n := 3)).1 ?_
  refine wpIn_name (fun T hT => ?_)
  refine wpIn_rangeFunc_once rfl (by decide) (gf := 50) (lb := #[.pointer (some ⟨Y.heap.size, 0, none⟩)]) (by rw [hT]; rfl) trivial (enters_of Tryd.func50 (by kernel_rfl) rfl) #[.int .u64 0, .agg kL.toArray] rfl 1
    (fun l W Jx hb hY => behind1_once 2 (by decide) l Y.heap.size kL HkL.out Jx W ((hb.block _ (blk_lt HBb.out)).trans HBb.out) hY)
    (fun a' W => ∃ Bx, V0.heap.size ≤ Bx ∧ W.heap[Bx]? = some (.cells kL.toArray 24 (0, 0)) ∧ a' = { tmps := (((T.setIfInBounds 68 (.int .u64 0)).setIfInBounds 69 (.agg kL.toArray)).setIfInBounds 11 (.int .u64 0)).setIfInBounds 12 (.pointer (some ⟨Bx, 0, none⟩)), defers := [] } ∧ TkF w W C R N K1 b off m n kL box)
    (fun W => TkF w W C R N K1 b off m n kL box) ?ax ?ix ?assign ?body ?stop
  case ax =>
    rintro a' W l o o' hl ho hc ⟨Bx, h1, h2, h3, h4⟩
    refine ⟨Bx, h1, (World.putObj_heap_other (fun e => ?_)).trans h2, h3, h4.grown (grownBy_putObj' W l o') (L := V0.heap.size) (fun j e => by cases e; exact hl) (by have := HK1l.out; omega) (by have := HK1l.out; omega) (by have := HK1l.out; omega) HK1l.out (by have := HK1l.out; omega) HWl.out HVl.out⟩
    subst e
    rw [h2] at ho
    cases ho
    cases hc
  case ix =>
    intro W l o o' hl ho hc h4
    exact h4.grown (grownBy_putObj' W l o') (L := V0.heap.size) (fun j e => by cases e; exact hl) (by have := HK1l.out; omega) (by have := HK1l.out; omega) (by have := HK1l.out; omega) HK1l.out (by have := HK1l.out; omega) HWl.out HVl.out
  case assign =>
    intro l W K hb hK
    have hFW : TkF w W C R N K1 b off m n kL box := hF0.grown (r := none) ⟨hb.os, hb.tape, hb.output, hb.size, fun i hi _ => hb.block i hi⟩ (L := V0.heap.size) (fun j e => by cases e) (by have := HK1l.out; omega) (by have := HK1l.out; omega) (by have := HK1l.out; omega) HK1l.out (by have := HK1l.out; omega) HWl.out HVl.out
    have HZ := Lib.hid (show (W.alloc (.cells #[.int .u8 0, .int .u8 0, .int .u8 0, .int .u8 0, .int .u8 0, .int .u8 0, .int .u8 0, .int .u8 0, .int .u8 0, .int .u8 0, .int .u8 0, .int .u8 0, .int .u8 0, .int .u8 0, .int .u8 0, .int .u8 0, .int .u8 0, .int .u8 0, .int .u8 0, .int .u8 0, .int .u8 0, .int .u8 0, .int .u8 0, .int .u8 0, .int .u8 0, .int .u8 0, .int .u8 0, .int .u8 0, .int .u8 0, .int .u8 0, .int .u8 0, .int .u8 0] 24)).heap[W.heap.size]? = some (.cells (u8s (List.replicate 32 0)).toArray 24 (0, 0)) from heap_alloc_new W _)
    have HTH := Lib.hid (thereL (n := kL.toArray.size) HZ.out (by rw [List.size_toArray, HkL.out]; simp [u8s_len]))
    have HK := Lib.hid hK
    have HFW := Lib.hid hFW
    have HF0 := Lib.hid hF0
    have HT := Lib.hid hT
    clear hK hFW hF0
    rw [hT]
    clear hT
    gi_wp2_with (with_reducible refine wpListIn_store_mid rfl 24 _ _ rfl W.heap.size 0 kL.toArray rfl rfl HTH.out (by rw [List.size_toArray, HkL.out]; exact info_k) HkL1.out ?_)
    have hgr : W.grownBy ((W.alloc (.cells #[.int .u8 0, .int .u8 0, .int .u8 0, .int .u8 0, .int .u8 0, .int .u8 0, .int .u8 0, .int .u8 0, .int .u8 0, .int .u8 0, .int .u8 0, .int .u8 0, .int .u8 0, .int .u8 0, .int .u8 0, .int .u8 0, .int .u8 0, .int .u8 0, .int .u8 0, .int .u8 0, .int .u8 0, .int .u8 0, .int .u8 0, .int .u8 0, .int .u8 0, .int .u8 0, .int .u8 0, .int .u8 0, .int .u8 0, .int .u8 0, .int .u8 0, .int .u8 0] 24)).setCells W.heap.size 0 kL) none := by
      have hbb := ((Below.refl W.heap.size W).alloc (Nat.le_refl _) (.cells #[.int .u8 0, .int .u8 0, .int .u8 0, .int .u8 0, .int .u8 0, .int .u8 0, .int .u8 0, .int .u8 0, .int .u8 0, .int .u8 0, .int .u8 0, .int .u8 0, .int .u8 0, .int .u8 0, .int .u8 0, .int .u8 0, .int .u8 0, .int .u8 0, .int .u8 0, .int .u8 0, .int .u8 0, .int .u8 0, .int .u8 0, .int .u8 0, .int .u8 0, .int .u8 0, .int .u8 0, .int .u8 0, .int .u8 0, .int .u8 0, .int .u8 0, .int .u8 0] 24)).trans (Lib.below_setCells_w (Nat.le_refl _) kL 0 _)
      exact ⟨hbb.os, hbb.tape, hbb.output, hbb.size, fun i hi _ => hbb.block i hi⟩
    refine HK.out _ _ ((KeepsOthers.of_grownBy hgr (fun j o e => by cases e)).from _) ⟨W.heap.size, hb.size, heap_setCells_all (vs := kL) HZ.out (by rw [HkL.out]; simp [u8s_len]), by rw [HT.out]; rfl, HFW.out.grown hgr (L := V0.heap.size) (fun j e => by cases e) (by have := HK1l.out; omega) (by have := HK1l.out; omega) (by have := HK1l.out; omega) HK1l.out (by have := HK1l.out; omega) HWl.out HVl.out⟩
  case body =>
    rintro l a' W ⟨Bx, h1, h2, rfl, h4⟩
    have HT := Lib.hid hT
    have HF0 := Lib.hid hF0
    have H2 := Lib.hid h2
    have H4 := Lib.hid h4
    have q1 : W.cell? ⟨C, 1, none⟩ = some (.int .u64 (n : Int)) := h4.n1
    have q2 : W.cell? ⟨N, 0, none⟩ = some (.int .u64 (n : Int)) := by rw [cell_row W N 0 _ _ h4.nb]; rfl
    have HTH := Lib.hid (thereL (n := kL.toArray.size) h4.k (by exact Nat.le_refl _))
    rw [hT]
    clear hT hF0 h2 h4
    simp only [List.setIfInBounds_toArray, List.set_cons_zero, List.set_cons_succ]
    gi_wp2_with (first
      | (with_reducible refine wpListIn_load_mid rfl 24 _ rfl Bx 0 rfl kL _ (rangeL H2.out) Tryd.underlying24 rfl (by rw [HkL.out]; exact info_k) ?_)
      | (with_reducible refine wpListIn_store_mid rfl 24 _ _ rfl K1 0 kL.toArray rfl rfl HTH.out (by rw [List.size_toArray, HkL.out]; exact info_k) HkL1.out ?_))
    have hgr := grown_cells K1 kL 0 W
    have hcl : K1 ≠ C := by omega
    refine ⟨(KeepsOthers.of_grownBy hgr (fun j o e ho => by cases e; rw [H4.out.k] at ho; cases ho; rfl)).from _, H4.out.bel.trans (Lib.below_setCells_w (by omega) kL 0 W), hgr.cell H4.out.a (by simp; omega), hgr.cell H4.out.n1 (by simp; omega), (hgr.block _ (blk_lt H4.out.r) (by simp; omega)).trans H4.out.r, ?_, (hgr.block _ (blk_lt H4.out.nb) (by simp; omega)).trans H4.out.nb, heap_setCells_all (vs := kL) H4.out.k rfl, hgr.cell H4.out.x (by simp; omega)⟩
    exact H4.out.v.beside H4.out.k (by rw [List.size_toArray, HkL.out]; decide) (by rw [List.size_toArray, HkL.out]; decide) hgr
  case stop =>
    intro W h4 hD
    rw [hT]
    clear hT
    have HF0 := Lib.hid hF0
    have H4 := Lib.hid h4
    have HD := Lib.hid hD
    clear hF0 h4 hD
    obtain ⟨kr, hkr⟩ : ∃ z, Pl.keyedB k [Pl.tSend] = z := ⟨_, rfl⟩
    have hkrl : kr.length = 32 := by rw [← hkr]; exact Pl.keyedB_len _ _
    obtain ⟨sL, hsL⟩ : ∃ L, u8s kr = L := ⟨_, rfl⟩
    have HKd := Lib.hid (fun A W hA hv => keyed_1 k hk A Pl.tSend (by decide) W hA hv)
    rw [HkE.out, hkr, hsL] at HKd
    obtain ⟨hd_, hhd⟩ : ∃ z, Pl.headN m n = z := ⟨_, rfl⟩
    have hhdl : hd_.length ≤ 4398046511104 := by
      have h1 := Pl.lenB_len m.length
      have h2 := Pl.lenB_len (Pl.putB n 8).length
      have h3 := Pl.putB_len n 8
      rw [← hhd]; unfold Pl.headN; simp [Pl.rowB]; omega
    have HH := Lib.hid (fun W => head_any m n (by omega) W)
    rw [hhd] at HH
    have HO := Lib.hid (fun W hv => Open_any kr hd_ box hkrl hhdl hbx W hv)
    rw [hkr, hhd] at ho
    rw [hsL, ho] at HO
    obtain ⟨kn, hkn⟩ : ∃ z, Pl.nextK k = z := ⟨_, rfl⟩
    have hknl : kn.length = 32 := by rw [← hkn]; exact Pl.keyedB_len _ _
    have HNx := Lib.hid (fun W hv => Next_any k hk W hv)
    rw [HkE.out, hkn] at HNx
    obtain ⟨n1, hn1⟩ : ∃ n1, n + 1 = n1 := ⟨_, rfl⟩
    have en : IntKind.u64.wrap ((n : Int) + 1) = (n1 : Int) := by rw [IntKind.wrap_u64]; omega
    have HBc := Lib.hid (build_ch m n1 kn hknl)
    obtain ⟨L, hL⟩ : ∃ L, chL m n1 kn = L := ⟨_, rfl⟩
    have HLl := Lib.hid (show L.length = 34 by rw [← hL]; exact chL_len hknl)
    have HL1 := Lib.hid (show L.toArray.all (·.oneCell') = true by rw [← hL]; exact all_oneCell_toArray (chL_one _ _ _))
    have HV := Lib.hid (show takeV m n k data = .tuple #[.agg L.toArray, .string ⟨data.toArray⟩, .int .i64 0] by unfold takeV; rw [hkn, hn1, hL])
    obtain ⟨knL, hknL⟩ : ∃ L, u8s kn = L := ⟨_, rfl⟩
    rw [hL, hknL] at HBc
    rw [hknL] at HNx
    clear hkr hsL hhd hkn hn1 hL hknL hhdl hkrl hknl ho
    have hS := (show TkS W C N K1 b off m n kL box from ⟨rangeL H4.out.k, H4.out.a, by rw [cell_row W N 0 _ _ H4.out.nb]; rfl, H4.out.x⟩).drew
    have HKW := Lib.hid (blk_lt H4.out.k)
    gi_wp2
    go_upto_region 19 with (fail)
    refine wp_nopanic ?_
    refine wp_region_held_drew (S := (fun w' => TkS w' C N K1 b off m n kL box)) (by kernel_rfl) (by exact hS) (fun hHeld => ?_)
    refine wpAnyH_take (i := 3) (v := ?_) rfl (by kernel_rfl) (by kernel_rfl) (by kernel_rfl) (fun _ _ _ h => h) (Or.inl ⟨by kernel_rfl, ?_⟩) hHeld ?_
    rotate_left
    · (intro w' hSw; obtain ⟨hS0, hS1, hS2, hS3⟩ := hSw; go_simp; try with_reducible rfl)
    simp only [Act.put, List.setIfInBounds_toArray, List.set_cons_zero, List.set_cons_succ, List.getElem_toArray, List.getElem_cons_succ, List.getElem_cons_zero]
    refine wpAnyH_take (i := 4) (v := ?_) rfl (by kernel_rfl) (by kernel_rfl) (by kernel_rfl) (fun _ _ _ h => h) (Or.inl ⟨by kernel_rfl, ?_⟩) hHeld ?_
    rotate_left
    · (intro w' hSw; obtain ⟨hS0, hS1, hS2, hS3⟩ := hSw; go_simp; try with_reducible rfl)
    simp only [Act.put, List.setIfInBounds_toArray, List.set_cons_zero, List.set_cons_succ, List.getElem_toArray, List.getElem_cons_succ, List.getElem_cons_zero]
    refine wpAnyH_take (i := 5) (v := ?_) rfl (by kernel_rfl) (by kernel_rfl) (by kernel_rfl) (fun _ _ _ h => h) (Or.inl ⟨by kernel_rfl, ?_⟩) hHeld ?_
    rotate_left
    · (intro w' hSw; obtain ⟨hS0, hS1, hS2, hS3⟩ := hSw; go_simp; try with_reducible rfl)
    simp only [Act.put, List.setIfInBounds_toArray, List.set_cons_zero, List.set_cons_succ, List.getElem_toArray, List.getElem_cons_succ, List.getElem_cons_zero]
    refine wpAnyH_take (i := 7) (v := ?_) rfl (by kernel_rfl) (by kernel_rfl) (by kernel_rfl) (fun _ _ _ h => h) (Or.inl ⟨by kernel_rfl, ?_⟩) hHeld ?_
    rotate_left
    · (intro w' hSw; obtain ⟨hS0, hS1, hS2, hS3⟩ := hSw; go_simp; try with_reducible rfl)
    simp only [Act.put, List.setIfInBounds_toArray, List.set_cons_zero, List.set_cons_succ, List.getElem_toArray, List.getElem_cons_succ, List.getElem_cons_zero]
    refine wpAnyH_take (i := 8) (v := ?_) rfl (by kernel_rfl) (by kernel_rfl) (by kernel_rfl) (fun _ _ _ h => h) (Or.inl ⟨by kernel_rfl, ?_⟩) hHeld ?_
    rotate_left
    · (intro w' hSw; obtain ⟨hS0, hS1, hS2, hS3⟩ := hSw; go_simp; try with_reducible rfl)
    simp only [Act.put, List.setIfInBounds_toArray, List.set_cons_zero, List.set_cons_succ, List.getElem_toArray, List.getElem_cons_succ, List.getElem_cons_zero]
    refine wpAnyH_take (i := 9) (v := ?_) rfl (by kernel_rfl) (by kernel_rfl) (by kernel_rfl) (fun _ _ _ h => h) (Or.inl ⟨by kernel_rfl, ?_⟩) hHeld ?_
    rotate_left
    · (intro w' hSw; obtain ⟨hS0, hS1, hS2, hS3⟩ := hSw; go_simp; try with_reducible rfl)
    simp only [Act.put, List.setIfInBounds_toArray, List.set_cons_zero, List.set_cons_succ, List.getElem_toArray, List.getElem_cons_succ, List.getElem_cons_zero]
    refine wpAnyH_take (i := 0) (v := .agg (kL).toArray) rfl (by kernel_rfl) (by kernel_rfl) (by kernel_rfl) (fun _ _ _ h => h) (yieldsIf_load_mid (by kernel_rfl) 24 _ rfl (K1) (0) rfl kL _ (fun _ h => h.k) Tryd.underlying24 rfl (by rw [HkL.out]; exact info_k)) hHeld ?_
    simp only [Act.put, List.setIfInBounds_toArray, List.set_cons_zero, List.set_cons_succ, List.getElem_toArray, List.getElem_cons_succ, List.getElem_cons_zero]
    obtain ⟨D, hDe⟩ : ∃ D, V0.heap.size = D := ⟨_, rfl⟩
    have HwD := Lib.hid (show w.heap.size ≤ D by rw [← hDe]; exact HWl.out)
    have HKD := Lib.hid (show K1 < D by rw [← hDe]; exact HK1l.out)
    rw [hDe] at HD ⊢
    clear hDe
    obtain ⟨X0, hX0⟩ : ∃ Z, W.drew = Z := ⟨_, rfl⟩
    have HB0 := Lib.hid (show Below w.heap.size w X0 by rw [← hX0]; exact H4.out.bel.drew)
    have HR0 := Lib.hid (show X0.heap[R]? = some (.cells noCh.toArray 26 (0, 0)) by rw [← hX0]; exact H4.out.r)
    have HV0 := Lib.hid (show VHash X0 by rw [← hX0]; exact ⟨H4.out.v.e, H4.out.v.r⟩)
    have HD0 := Lib.hid (show X0.heap[D]? = some (.deferred (some [])) by rw [← hX0]; exact HD.out)
    have hKX : K1 < X0.heap.size := by rw [← hX0]; exact HKW.out
    rw [hX0] at hHeld hS ⊢
    clear hX0 HD H4 HF0 HKW
    refine wpAnyH_ready (rs := [1]) (by kernel_rfl) (by simp) (AllReadyH.cons rfl (fun K hK => ?_) AllReadyH.nil)
    go_simp
    have hb := (Below.refl X0.heap.size X0).alloc (Nat.le_refl _) (.cells #[.string ⟨#[115, 101, 110, 100]⟩] 9)
    have HC1 := Lib.hid (HKd.out X0.heap.size _ (heap_alloc_new X0 (.cells #[.string ⟨#[115, 101, 110, 100]⟩] 9)) (HV0.out.below hb))
    have HE1 := Lib.hid hb
    clear hb
    refine hK.out _ _ (by exact hS.keep HE1.out (by omega) (by omega) hKX (by omega)) (fun hHeld => ?_)
    clear hK K
    (try simp only [Act.put, List.setIfInBounds_toArray, List.set_cons_zero, List.set_cons_succ, List.getElem_toArray, List.getElem_cons_succ, List.getElem_cons_zero])
    refine wpAnyH_ready (rs := [2]) (by kernel_rfl) (by simp) (AllReadyH.cons rfl (fun K hK => ?_) AllReadyH.nil)
    go_simp
    with_reducible refine HC1.out.mono ?_
    rintro _ X2 ⟨rfl, hb⟩
    have HE2 := Lib.hid (HE1.out.trans (hb.mono HE1.out.size))
    have HC2 := Lib.hid (HH.out X2)
    clear hb HC1 HE1
    refine hK.out _ _ (by exact hS.keep HE2.out (by omega) (by omega) hKX (by omega)) (fun hHeld => ?_)
    clear hK K
    (try simp only [Act.put, List.setIfInBounds_toArray, List.set_cons_zero, List.set_cons_succ, List.getElem_toArray, List.getElem_cons_succ, List.getElem_cons_zero])
    refine wpAnyH_ready (rs := [6]) (by kernel_rfl) (by simp) (AllReadyH.cons rfl (fun K hK => ?_) AllReadyH.nil)
    go_simp
    with_reducible refine HC2.out.mono ?_
    rintro _ X3 ⟨rfl, hb⟩
    have HE3 := Lib.hid (HE2.out.trans (hb.mono HE2.out.size))
    have HC3 := Lib.hid (HO.out X3 (HV0.out.below HE3.out))
    clear hb HC2 HE2
    refine hK.out _ _ (by exact hS.keep HE3.out (by omega) (by omega) hKX (by omega)) (fun hHeld => ?_)
    clear hK K
    (try simp only [Act.put, List.setIfInBounds_toArray, List.set_cons_zero, List.set_cons_succ, List.getElem_toArray, List.getElem_cons_succ, List.getElem_cons_zero])
    refine wpAnyH_ready (rs := [10]) (by kernel_rfl) (by simp) (AllReadyH.cons rfl (fun K hK => ?_) AllReadyH.nil)
    go_simp
    with_reducible refine HC3.out.mono ?_
    rintro _ X4 ⟨rfl, hb⟩
    have HE4 := Lib.hid (HE3.out.trans (hb.mono HE3.out.size))
    clear hb HC3 HE3
    have hS4 := hS.keep HE4.out (by omega) (by omega) hKX (by omega)
    refine hK.out _ _ hS4 (fun hHeld => ?_)
    clear hK K
    (try simp only [Act.put, List.setIfInBounds_toArray, List.set_cons_zero, List.set_cons_succ, List.getElem_toArray, List.getElem_cons_succ, List.getElem_cons_zero])
    refine wpAnyH_take (i := 11) (v := ?_) rfl (by kernel_rfl) (by kernel_rfl) (by kernel_rfl) (fun _ _ _ h => h) (Or.inl ⟨by kernel_rfl, ?_⟩) hHeld ?_
    rotate_left
    · (intro w' hSw; (try dsimp only at hSw); go_simp; try with_reducible rfl)
    simp only [Act.put, List.setIfInBounds_toArray, List.set_cons_zero, List.set_cons_succ, List.getElem_toArray, List.getElem_cons_succ, List.getElem_cons_zero]
    refine wpAnyH_take (i := 12) (v := ?_) rfl (by kernel_rfl) (by kernel_rfl) (by kernel_rfl) (fun _ _ _ h => h) (Or.inl ⟨by kernel_rfl, ?_⟩) hHeld ?_
    rotate_left
    · (intro w' hSw; (try dsimp only at hSw); go_simp; try with_reducible rfl)
    simp only [Act.put, List.setIfInBounds_toArray, List.set_cons_zero, List.set_cons_succ, List.getElem_toArray, List.getElem_cons_succ, List.getElem_cons_zero]
    refine wpAnyH_take (i := 13) (v := ?_) rfl (by kernel_rfl) (by kernel_rfl) (by kernel_rfl) (fun _ _ _ h => h) (Or.inl ⟨by kernel_rfl, ?_⟩) hHeld ?_
    rotate_left
    · (intro w' hSw; (try dsimp only at hSw); go_simp; try with_reducible rfl)
    simp only [Act.put, List.setIfInBounds_toArray, List.set_cons_zero, List.set_cons_succ, List.getElem_toArray, List.getElem_cons_succ, List.getElem_cons_zero]
    refine wpAnyH_take (i := 14) (v := ?_) rfl (by kernel_rfl) (by kernel_rfl) (by kernel_rfl) (fun _ _ _ h => h) (Or.inl ⟨by kernel_rfl, ?_⟩) hHeld ?_
    rotate_left
    · (intro w' hSw; (try dsimp only at hSw); go_simp; try with_reducible rfl)
    simp only [Act.put, List.setIfInBounds_toArray, List.set_cons_zero, List.set_cons_succ, List.getElem_toArray, List.getElem_cons_succ, List.getElem_cons_zero]
    refine wpAnyH_take (i := 15) (v := ?_) rfl (by kernel_rfl) (by kernel_rfl) (by kernel_rfl) (fun _ _ _ h => h) (Or.inl ⟨by kernel_rfl, ?_⟩) hHeld ?_
    rotate_left
    · (intro w' hSw; (try dsimp only at hSw); go_simp; try with_reducible rfl)
    simp only [Act.put, List.setIfInBounds_toArray, List.set_cons_zero, List.set_cons_succ, List.getElem_toArray, List.getElem_cons_succ, List.getElem_cons_zero]
    refine wpAnyH_done (by kernel_rfl) ?_ _
    simp only [NoPanic]
    clear hHeld
    have HB4 := Lib.hid (HB0.out.trans (HE4.out.mono HB0.out.size))
    have HR4 := Lib.hid ((HE4.out.block _ (blk_lt HR0.out)).trans HR0.out)
    have HV4 := Lib.hid (HV0.out.below HE4.out)
    have HD4 := Lib.hid ((HE4.out.block _ (blk_lt HD0.out)).trans HD0.out)
    have hKX4 : K1 < X4.heap.size := Nat.lt_of_lt_of_le hKX HE4.out.size
    clear HE4 HR0 HV0 HD0 HB0 hKX hS
    have hS5 := hS4.drew
    clear hS4
    go_upto_region 22 with (fail)
    refine wp_nopanic ?_
    refine wp_region_held_drew (S := (fun w' => TkS w' C N K1 b off m n kL box)) (by kernel_rfl) (by exact hS5) (fun hHeld => ?_)
    refine wpAnyH_take (i := 0) (v := ?_) rfl (by kernel_rfl) (by kernel_rfl) (by kernel_rfl) (fun _ _ _ h => h) (Or.inl ⟨by kernel_rfl, ?_⟩) hHeld ?_
    rotate_left
    · (intro w' hSw; obtain ⟨hS0, hS1, hS2, hS3⟩ := hSw; go_simp; try with_reducible rfl)
    simp only [Act.put, List.setIfInBounds_toArray, List.set_cons_zero, List.set_cons_succ, List.getElem_toArray, List.getElem_cons_succ, List.getElem_cons_zero]
    refine wpAnyH_take (i := 1) (v := ?_) rfl (by kernel_rfl) (by kernel_rfl) (by kernel_rfl) (fun _ _ _ h => h) (Or.inl ⟨by kernel_rfl, ?_⟩) hHeld ?_
    rotate_left
    · (intro w' hSw; obtain ⟨hS0, hS1, hS2, hS3⟩ := hSw; go_simp; try with_reducible rfl)
    simp only [Act.put, List.setIfInBounds_toArray, List.set_cons_zero, List.set_cons_succ, List.getElem_toArray, List.getElem_cons_succ, List.getElem_cons_zero]
    refine wpAnyH_take (i := 2) (v := ?_) rfl (by kernel_rfl) (by kernel_rfl) (by kernel_rfl) (fun _ _ _ h => h) (Or.inl ⟨by kernel_rfl, ?_⟩) hHeld ?_
    rotate_left
    · (intro w' hSw; obtain ⟨hS0, hS1, hS2, hS3⟩ := hSw; go_simp; try with_reducible rfl)
    simp only [Act.put, List.setIfInBounds_toArray, List.set_cons_zero, List.set_cons_succ, List.getElem_toArray, List.getElem_cons_succ, List.getElem_cons_zero]
    refine wpAnyH_take (i := 3) (v := ?_) rfl (by kernel_rfl) (by kernel_rfl) (by kernel_rfl) (fun _ _ _ h => h) (Or.inl ⟨by kernel_rfl, ?_⟩) hHeld ?_
    rotate_left
    · (intro w' hSw; obtain ⟨hS0, hS1, hS2, hS3⟩ := hSw; go_simp; try with_reducible rfl)
    simp only [Act.put, List.setIfInBounds_toArray, List.set_cons_zero, List.set_cons_succ, List.getElem_toArray, List.getElem_cons_succ, List.getElem_cons_zero]
    refine wpAnyH_take (i := 7) (v := ?_) rfl (by kernel_rfl) (by kernel_rfl) (by kernel_rfl) (fun _ _ _ h => h) (Or.inl ⟨by kernel_rfl, ?_⟩) hHeld ?_
    rotate_left
    · (intro w' hSw; obtain ⟨hS0, hS1, hS2, hS3⟩ := hSw; go_simp; try with_reducible rfl)
    simp only [Act.put, List.setIfInBounds_toArray, List.set_cons_zero, List.set_cons_succ, List.getElem_toArray, List.getElem_cons_succ, List.getElem_cons_zero]
    refine wpAnyH_take (i := 4) (v := .agg (kL).toArray) rfl (by kernel_rfl) (by kernel_rfl) (by kernel_rfl) (fun _ _ _ h => h) (yieldsIf_load_mid (by kernel_rfl) 24 _ rfl (K1) (0) rfl kL _ (fun _ h => h.k) Tryd.underlying24 rfl (by rw [HkL.out]; exact info_k)) hHeld ?_
    simp only [Act.put, List.setIfInBounds_toArray, List.set_cons_zero, List.set_cons_succ, List.getElem_toArray, List.getElem_cons_succ, List.getElem_cons_zero]
    obtain ⟨Z0, hZ0⟩ : ∃ Z, X4.drew = Z := ⟨_, rfl⟩
    have HB8 := Lib.hid (show Below w.heap.size w Z0 by rw [← hZ0]; exact HB4.out.drew)
    have HR8 := Lib.hid (show Z0.heap[R]? = some (.cells noCh.toArray 26 (0, 0)) by rw [← hZ0]; exact HR4.out)
    have HV8 := Lib.hid (show VHash Z0 by rw [← hZ0]; exact ⟨HV4.out.e, HV4.out.r⟩)
    have HD8 := Lib.hid (show Z0.heap[D]? = some (.deferred (some [])) by rw [← hZ0]; exact HD4.out)
    have hKX8 : K1 < Z0.heap.size := by rw [← hZ0]; exact hKX4
    rw [hZ0] at hHeld hS5 ⊢
    clear hZ0 HB4 HR4 HV4 HD4 hKX4
    have HC7 := Lib.hid (HNx.out Z0 HV8.out)
    refine wpAnyH_ready (rs := [5]) (by kernel_rfl) (by simp) (AllReadyH.cons rfl (fun K hK => ?_) AllReadyH.nil)
    go_simp
    with_reducible refine HC7.out.mono ?_
    rintro _ Z1 ⟨rfl, hb⟩
    have HB9 := Lib.hid (HB8.out.trans (hb.mono HB8.out.size))
    have HR9 := Lib.hid ((hb.block _ (blk_lt HR8.out)).trans HR8.out)
    have HD9 := Lib.hid ((hb.block _ (blk_lt HD8.out)).trans HD8.out)
    have hS9 := hS5.keep hb (by omega) (by omega) hKX8 (by omega)
    clear hb HC7 HB8 HR8 HV8 HD8 hKX8 hS5
    refine hK.out _ _ hS9 (fun hHeld => ?_)
    clear hK K
    (try simp only [Act.put, List.setIfInBounds_toArray, List.set_cons_zero, List.set_cons_succ, List.getElem_toArray, List.getElem_cons_succ, List.getElem_cons_zero])
    refine wpAnyH_take (i := 6) (v := .agg L.toArray) rfl (by kernel_rfl) (by kernel_rfl) (by kernel_rfl) (fun _ _ _ h => h) (Or.inl ⟨by kernel_rfl, ?_⟩) hHeld ?_
    · intro w' _
      exact exec_build3 HBc.out rfl rfl rfl rfl w'
    simp only [Act.put, List.setIfInBounds_toArray, List.set_cons_zero, List.set_cons_succ, List.getElem_toArray, List.getElem_cons_succ, List.getElem_cons_zero]
    have HTH := Lib.hid (thereL (n := L.toArray.size) HR9.out (by rw [List.size_toArray, HLl.out]; exact Nat.le_refl _))
    have HFn := Lib.hid (heap_setCells_all (vs := L) HR9.out (by rw [HLl.out]; rfl))
    have HBn := Lib.hid (show Below w.heap.size w (Z1.setCells R 0 L) from HB9.out.trans (Lib.below_setCells_w k0 L 0 Z1))
    have hgr := grown_cells R L 0 Z1
    have HDn := Lib.hid ((hgr.block _ (blk_lt HD9.out) (by simp; have := HKD.out; omega)).trans HD9.out)
    have hSn : TkS (Z1.setCells R 0 L) C N K1 b off m n kL box := ⟨hS9.k.grown hgr (by simp; omega), hgr.cell hS9.a (by simp; omega), hgr.cell hS9.nb (by simp; omega), hgr.cell hS9.x (by simp; omega)⟩
    refine wpAnyH_ready (rs := [8]) (by kernel_rfl) (by simp) (AllReadyH.cons rfl (fun K hK => ?_) AllReadyH.nil)
    refine wp_store_mid 26 _ _ rfl R 0 L.toArray rfl rfl HTH.out (by rw [List.size_toArray, HLl.out]; exact info_ch) HL1.out ?_
    refine hK.out _ _ hSn (fun hHeld => ?_)
    clear hK K
    (try simp only [Act.put, List.setIfInBounds_toArray, List.set_cons_zero, List.set_cons_succ, List.getElem_toArray, List.getElem_cons_succ, List.getElem_cons_zero])
    refine wpAnyH_take (i := 9) (v := ?_) rfl (by kernel_rfl) (by kernel_rfl) (by kernel_rfl) (fun _ _ _ h => h) (Or.inl ⟨by kernel_rfl, ?_⟩) hHeld ?_
    rotate_left
    · (intro w' hSw; (try dsimp only at hSw); go_simp; try with_reducible rfl)
    simp only [Act.put, List.setIfInBounds_toArray, List.set_cons_zero, List.set_cons_succ, List.getElem_toArray, List.getElem_cons_succ, List.getElem_cons_zero]
    refine wpAnyH_take (i := 10) (v := ?_) rfl (by kernel_rfl) (by kernel_rfl) (by kernel_rfl) (fun _ _ _ h => h) (Or.inl ⟨by kernel_rfl, ?_⟩) hHeld ?_
    rotate_left
    · (intro w' hSw; (try dsimp only at hSw); go_simp; try with_reducible rfl)
    simp only [Act.put, List.setIfInBounds_toArray, List.set_cons_zero, List.set_cons_succ, List.getElem_toArray, List.getElem_cons_succ, List.getElem_cons_zero]
    refine wpAnyH_done (by kernel_rfl) ?_ _
    simp only [NoPanic]
    go_wp2_with fail
    refine ⟨by simp, .inl ⟨_, _, rfl, run_takeDeferred HDn.out, ?_⟩⟩
    have hrg : ((Z1.setCells R 0 L).putObj D (.deferred none)).rangeAt R 0 L := fun j v hj => cell_kept (rangeL HFn.out j v hj) (grownBy_putObj' _ D (.deferred none)) (fun r e => by cases e; exact ⟨_, HDn.out, rfl⟩)
    have hbb : Below w.heap.size w ((Z1.setCells R 0 L).putObj D (.deferred none)) := HBn.out.trans (belowK_b (w := w) (Nat.le_refl _) (Z1.setCells R 0 L) D _ _ HwD.out HDn.out rfl rfl)
    exact ⟨.tuple #[.agg L.toArray, .string ⟨data.toArray⟩, .int .i64 0], results_cst rfl rfl hrg Tryd.underlying26 rfl (by rw [HLl.out]; exact info_ch) rfl rfl, by rw [HV.out], hbb⟩
end Go.Proofs.YtadoplgmeoghmaaDoor
