/- Read and Vote under a name that may not be. The walk of spread's Read under a name that may be. -/
import Derived.Test.YtdnebgilkfafhaaGreatDoorSpG1
import Derived.Test.YtdnebgilkfafhaaGreatDoorSpW5
import Derived.Test.YtdnebgilkfafhaaGreatDoorSpF1
import Derived.Test.YtdnebgilkfafhaaGreatDoorSpJ1
namespace Go.Proofs.YtdnebgilkfafhaaGreatDoor
open Go.RowKit
set_option linter.unusedVariables false
set_option linter.unusedSimpArgs false
attribute [local go_sem] ba_get ba_cut ba_add
def ReadOut (b : Nat) (S : Nat → Pl.Shelf) (n : Int) (d : List UInt8) (e : Nat) (v : Value) (w : World) : Prop := ∃ X, v = .tuple #[.agg (stoL S X n).toArray, .string ⟨d.toArray⟩, .int .i64 (e : Int)] ∧ StF b w S X
theorem results_stt {fn : Func} {tmps : Array Value} {w : World} {a b c B : Nat} {L : List Value} {v u : Value} (hf : fn.results = #[.cell a 33, .tmp b, .tmp c]) (ha : tmps[a]?.getD undef = .pointer (some ⟨B, 0, none⟩)) (hv : tmps.getD b undef = v) (hu : tmps.getD c undef = u) (hc : w.rangeAt B 0 L) (hl : (Tryz.prog.info? 33).map (·.size) = some L.length) :
    (results fn tmps).run Tryz.prog w = .ok (.tuple #[.agg L.toArray, v, u]) w := by
  have h := run_loadVar_mid (P := Tryz.prog) w B 0 33 L _ hc Tryz.underlying33 rfl hl
  rw [← hv, ← hu]
  simp [results, hf, ha, asAddr, h, Sem.run_bind]
set_option maxRecDepth 100000 in
set_option maxHeartbeats 4000000 in
theorem sread_bad (S : Nat → Pl.Shelf) (X : Nat → ShX) (n : Int) (nm : List UInt8) (w : World) (hok : StOk w S X) (hfit : FitS S) (hbad : Pl.okName nm = false) :
    Calls Tryz.prog 14 #[.agg (stoL S X n).toArray, .string ⟨nm.toArray⟩] w (RetB (ReadOut w.heap.size S n [] 7) w) := by
  have hmay := fun W => smayName_any nm W
  rw [hbad] at hmay
  obtain ⟨N, hN⟩ : ∃ N, w.heap.size = N := ⟨_, rfl⟩
  have hco := fun W (h : StOk W S X) => scopied_any S X n W h hfit
  obtain ⟨L, hL⟩ : ∃ L, stoL S X n = L := ⟨_, rfl⟩
  rw [hL] at hco ⊢
  have hiL : (Tryz.prog.info? 33).map (·.size) = some L.length := by rw [← hL]; exact info_sto
  have HH := Lib.hid (And.intro hmay (And.intro hco (And.intro hL (And.intro hok hiL))))
  clear hmay hco hL hok hiL hbad
  go_enter Tryz.func14, Tryz.ntmps14
  go_upto_region 1 with (fail)
  rw [zero_sto]
  generalize hV : World.alloc _ (.cells (stoL (fun _ => Pl.noSh) (fun _ => ⟨none, 0, none, 0⟩) 0).toArray 33) = V
  have hVa : allocs w [.cells L.toArray 33, .cells (stoL (fun _ => Pl.noSh) (fun _ => ⟨none, 0, none, 0⟩) 0).toArray 33] = V := hV
  have hbV : Below N w V := by rw [← hVa]; exact allocs_below w _ N (by omega)
  have hsV : V.heap.size = N + 2 := by rw [← hVa, allocs_size, hN]; simp only [List.length_cons, List.length_nil]
  have h0 : StBx N S X n V := by unfold StBx; rw [HH.out.2.2.1]; exact allocs_at hVa hN 0 rfl
  have h2 : StBx (N + 1) (fun _ => Pl.noSh) (fun _ => ⟨none, 0, none, 0⟩) 0 V := allocs_at hVa hN 1 rfl
  have hrg : V.rangeAt N 0 L := by rw [← HH.out.2.2.1]; exact h0.range
  have HB := Lib.hid (And.intro hrg (And.intro h2 hbV))
  clear hV hVa hrg h0 h2 hbV
  go_wp2_with fail
  (with_reducible refine (HH.out.1 V).mono ?_)
  rintro _ w1 ⟨rfl, rfl⟩
  go_wp2_with first
    | with_reducible refine wpList_load_mid rfl 33 _ rfl N 0 rfl L _ HB.out.1 Tryz.underlying33 rfl HH.out.2.2.2.2 ?_
  (with_reducible refine (HH.out.2.1 V (HH.out.2.2.2.1.below (by rw [hN]; exact HB.out.2.2))).mono ?_)
  rintro _ w2 ⟨v, rfl, ⟨X2, rfl, hst2⟩, hb2⟩
  obtain ⟨L2, hL2⟩ : ∃ L2, stoL S X2 n = L2 := ⟨_, rfl⟩
  rw [hL2]
  have h22 := HB.out.2.1.keep hb2
  have hT : w2.there (N + 1) 0 L2.toArray.size := thereL h22 (by rw [← hL2]; exact Nat.le_refl 11)
  have hi2 : (Tryz.prog.info? 33).map (·.size) = some L2.toArray.size := by rw [List.size_toArray, ← hL2]; exact info_sto
  have hi2' : (Tryz.prog.info? 33).map (·.size) = some L2.length := by rw [← hL2]; exact info_sto
  have ho2 : ∀ v ∈ L2, v.oneCell' = true := by rw [← hL2]; exact stoL_one _ X2 _
  have HC := Lib.hid (And.intro hT (And.intro hi2 (And.intro ho2 (And.intro hi2' (And.intro hL2 (And.intro hst2 (And.intro h22 hb2)))))))
  clear hT hi2 ho2 hi2' hL2 hst2 h22 hb2
  go_wp2_with first
    | with_reducible refine wpList_store_mid rfl 33 _ _ rfl (N + 1) 0 L2.toArray rfl rfl HC.out.1 HC.out.2.1 (all_oneCell_toArray HC.out.2.2.1) ?_
  have hst3 : StF N (w2.setCells (N + 1) 0 L2) S X2 := (HC.out.2.2.2.2.2.1.weak (b' := N) (by omega)).kpt (HC.out.2.2.2.2.2.2.1.kpts L2)
  refine bodyPost_ret (v := .tuple #[.agg L2.toArray, .string ⟨#[]⟩, .int .i64 7]) (results_stt (B := N + 1) rfl rfl rfl rfl (World.rangeAt_setCells_same _ _ _ _ (by have := HC.out.1; simpa using this)) HC.out.2.2.2.1) rfl ?_
  exact ⟨_, rfl, ⟨X2, by rw [HC.out.2.2.2.2.1]; rfl, by rw [hN]; exact hst3⟩, by rw [hN]; exact (HB.out.2.2.trans (HC.out.2.2.2.2.2.2.2.mono (by omega))).trans (Lib.below_setCells_w (by omega) L2 0 w2)⟩
set_option maxRecDepth 100000 in
set_option maxHeartbeats 4000000 in
theorem svote_bad (S : Nat → Pl.Shelf) (X : Nat → ShX) (n : Int) (nm : List UInt8) (w : World) (hok : StOk w S X) (hfit : FitS S) (hbad : Pl.okName nm = false) :
    Calls Tryz.prog 18 #[.agg (stoL S X n).toArray, .string ⟨nm.toArray⟩] w (RetB (ReadOut w.heap.size S n [] 7) w) := by
  have hmay := fun W => smayName_any nm W
  rw [hbad] at hmay
  obtain ⟨N, hN⟩ : ∃ N, w.heap.size = N := ⟨_, rfl⟩
  have hco := fun W (h : StOk W S X) => scopied_any S X n W h hfit
  obtain ⟨L, hL⟩ : ∃ L, stoL S X n = L := ⟨_, rfl⟩
  rw [hL] at hco ⊢
  have hiL : (Tryz.prog.info? 33).map (·.size) = some L.length := by rw [← hL]; exact info_sto
  have HH := Lib.hid (And.intro hmay (And.intro hco (And.intro hL (And.intro hok hiL))))
  clear hmay hco hL hok hiL hbad
  go_enter Tryz.func18, Tryz.ntmps18
  go_upto_region 1 with (fail)
  rw [zero_sto]
  generalize hV : World.alloc _ (.cells (stoL (fun _ => Pl.noSh) (fun _ => ⟨none, 0, none, 0⟩) 0).toArray 33) = V
  have hVa : allocs w [.cells L.toArray 33, .cells (stoL (fun _ => Pl.noSh) (fun _ => ⟨none, 0, none, 0⟩) 0).toArray 33] = V := hV
  have hbV : Below N w V := by rw [← hVa]; exact allocs_below w _ N (by omega)
  have hsV : V.heap.size = N + 2 := by rw [← hVa, allocs_size, hN]; simp only [List.length_cons, List.length_nil]
  have h0 : StBx N S X n V := by unfold StBx; rw [HH.out.2.2.1]; exact allocs_at hVa hN 0 rfl
  have h2 : StBx (N + 1) (fun _ => Pl.noSh) (fun _ => ⟨none, 0, none, 0⟩) 0 V := allocs_at hVa hN 1 rfl
  have hrg : V.rangeAt N 0 L := by rw [← HH.out.2.2.1]; exact h0.range
  have HB := Lib.hid (And.intro hrg (And.intro h2 hbV))
  clear hV hVa hrg h0 h2 hbV
  go_wp2_with fail
  (with_reducible refine (HH.out.1 V).mono ?_)
  rintro _ w1 ⟨rfl, rfl⟩
  go_wp2_with first
    | with_reducible refine wpList_load_mid rfl 33 _ rfl N 0 rfl L _ HB.out.1 Tryz.underlying33 rfl HH.out.2.2.2.2 ?_
  (with_reducible refine (HH.out.2.1 V (HH.out.2.2.2.1.below (by rw [hN]; exact HB.out.2.2))).mono ?_)
  rintro _ w2 ⟨v, rfl, ⟨X2, rfl, hst2⟩, hb2⟩
  obtain ⟨L2, hL2⟩ : ∃ L2, stoL S X2 n = L2 := ⟨_, rfl⟩
  rw [hL2]
  have h22 := HB.out.2.1.keep hb2
  have hT : w2.there (N + 1) 0 L2.toArray.size := thereL h22 (by rw [← hL2]; exact Nat.le_refl 11)
  have hi2 : (Tryz.prog.info? 33).map (·.size) = some L2.toArray.size := by rw [List.size_toArray, ← hL2]; exact info_sto
  have hi2' : (Tryz.prog.info? 33).map (·.size) = some L2.length := by rw [← hL2]; exact info_sto
  have ho2 : ∀ v ∈ L2, v.oneCell' = true := by rw [← hL2]; exact stoL_one _ X2 _
  have HC := Lib.hid (And.intro hT (And.intro hi2 (And.intro ho2 (And.intro hi2' (And.intro hL2 (And.intro hst2 (And.intro h22 hb2)))))))
  clear hT hi2 ho2 hi2' hL2 hst2 h22 hb2
  go_wp2_with first
    | with_reducible refine wpList_store_mid rfl 33 _ _ rfl (N + 1) 0 L2.toArray rfl rfl HC.out.1 HC.out.2.1 (all_oneCell_toArray HC.out.2.2.1) ?_
  have hst3 : StF N (w2.setCells (N + 1) 0 L2) S X2 := (HC.out.2.2.2.2.2.1.weak (b' := N) (by omega)).kpt (HC.out.2.2.2.2.2.2.1.kpts L2)
  refine bodyPost_ret (v := .tuple #[.agg L2.toArray, .string ⟨#[]⟩, .int .i64 7]) (results_stt (B := N + 1) rfl rfl rfl rfl (World.rangeAt_setCells_same _ _ _ _ (by have := HC.out.1; simpa using this)) HC.out.2.2.2.1) rfl ?_
  exact ⟨_, rfl, ⟨X2, by rw [HC.out.2.2.2.2.1]; rfl, by rw [hN]; exact hst3⟩, by rw [hN]; exact (HB.out.2.2.trans (HC.out.2.2.2.2.2.2.2.mono (by omega))).trans (Lib.below_setCells_w (by omega) L2 0 w2)⟩
end Go.Proofs.YtdnebgilkfafhaaGreatDoor
namespace Go.Proofs.YtdnebgilkfafhaaGreatDoor
open Go.RowKit
set_option linter.unusedVariables false
set_option linter.unusedSimpArgs false
attribute [local go_sem] ba_get ba_cut ba_add
theorem push_k8 {P : Program} {ops : Array Oper} {rest : List Oper} {o : Oper} {a : Act} {Q : Exit → Act → World → Prop} (hgd : o.guard = none) (s x : Operand) (t : TypeId)
    (ho : o.op = .call { callee := .builtin .append, args := #[s, x], argTypes := #[t, t] })
    (base : Nat) (e : TypeId) (z : Value) (k bytes : Nat) (ht : P.underlying t = some (.slice e)) (hi : (P.info? e).map (fun i => (i.zero, i.size, i.bytes)) = some (some z, k, bytes)) (hzs : z.cells.size = k) (hk : 0 < k)
    (w : World) (v : Value) (n : Nat) (xs ys : List Value) (hyl : ys.length = k) (hs : a.eval s = v) (hown : w.ownsRow base e k v n xs) (hx : a.eval x = .slice (some ⟨w.heap.size, 0, none⟩) 1 1) (h1 : ∀ u ∈ ys, u.oneCell' = true)
    (hbytes : (n + 1) * bytes ≤ 140737488355328) (hb0 : 1 ≤ bytes) (hbase : base ≤ w.heap.size)
    (h : ∀ A' c' w', w'.ownsRow base e k (.slice A' (n + 1) c') (n + 1) (xs ++ ys) → Below base w w' → wpList P ops Q rest (a.put o.dst (.slice A' (n + 1) c')) w') : wpList P ops Q (o :: rest) a (w.alloc (.cells ys.toArray e)) := by
  have hr : Rd (w.alloc (.cells ys.toArray e)) k (some ⟨w.heap.size, 0, none⟩) 1 ys :=
    ⟨by omega, fun _ => ⟨w.heap.size, 0, rfl, by simp, fun j hj => by rw [cell_row _ _ (0 + j) _ _ (heap_alloc_new _ _)]; simp⟩⟩
  have hb : Below w.heap.size w (w.alloc (.cells ys.toArray e)) := (Below.refl _ _).alloc (Nat.le_refl _) _
  refine push_many hgd s x t ho base e z k bytes ht hi hzs hk _ v n xs _ 1 1 ys hs (own_below hown hb) hx hr (fun h => by cases h) h1 hbytes hb0 (Nat.le_trans hbase hb.size) ?_
  intro v' w' h2 h3
  obtain ⟨A', c', rfl⟩ := own_form' h2
  exact h A' c' w' h2 ((hb.mono hbase).trans h3)
def ansD : Option (List UInt8) → List UInt8
  | none => []
  | some d => d
def ansE (e : Nat) : Option (List UInt8) → Nat
  | none => e
  | some _ => 0
theorem fitsF_len (nm : List UInt8) : ∀ (l : List Pl.Told) (n : Nat), (Pl.fitsF nm l n).length ≤ l.length
  | [], _ => Nat.le_refl _
  | t :: r, n => by
    have ih := fitsF_len nm r (n + 1)
    rw [Pl.fitsF, List.length_append, List.length_cons]
    cases Pl.fitT nm n t <;> simp <;> omega
theorem fits_ok (nm : List UInt8) (t : Nat → Pl.Told) : FitsOk (Pl.fitsP nm ((List.range 5).map t)) := by
  refine ⟨Nat.le_trans (fitsF_len _ _ _) (by simp), Pl.fitsF_rise _ _ _, fun x hx => ?_⟩
  obtain ⟨k, hk, h⟩ := Pl.fitsF_mem _ _ _ _ hx
  obtain ⟨h1, h2, _, h4⟩ := Pl.fitT_is h
  have hk5 : k < 5 := by simpa using hk
  exact ⟨by omega, by omega, h2, h4⟩
abbrev zT : Array Value := #[.string ⟨#[]⟩, .int .i64 0, .bool false, .string ⟨#[]⟩, .int .i64 0, .bool false, .string ⟨#[]⟩, .int .i64 0, .bool false, .string ⟨#[]⟩, .int .i64 0, .bool false, .string ⟨#[]⟩, .int .i64 0, .bool false]
theorem info_fit32 : (Tryz.prog.info? 83).map (fun i => (i.zero, i.size, i.bytes)) = some (some (.agg #[.int .i64 0, .string ⟨#[]⟩, .int .i64 0, .string ⟨#[]⟩]), 4, 48) := by kernel_rfl
/-- What stands in memory behind getAll's answer. -/
structure RdM (N Tq : Nat) (S' : Nat → Pl.Shelf) (X' : Nat → ShX) (L2 LT : List Value) (W : World) : Prop where
  t : W.heap[N]? = some (.cells L2.toArray 33 (0, 0))
  r : W.heap[N + 1]? = some (.cells (stoL (fun _ => Pl.noSh) (fun _ => ⟨none, 0, none, 0⟩) 0).toArray 33 (0, 0))
  q : W.heap[Tq]? = some (.cells LT.toArray 78 (0, 0))
theorem RdM.keep {N Tq : Nat} {S' : Nat → Pl.Shelf} {X' : Nat → ShX} {L2 LT : List Value} {W W' : World} (h : RdM N Tq S' X' L2 LT W) (hb : Below W.heap.size W W') : RdM N Tq S' X' L2 LT W' := ⟨heap_keep h.t hb, heap_keep h.r hb, heap_keep h.q hb⟩
set_option maxRecDepth 100000 in
set_option maxHeartbeats 8000000 in
theorem sread_good (S : Nat → Pl.Shelf) (X : Nat → ShX) (n : Int) (hn : Pl.I64 n) (nm : List UInt8) (w : World) (hok : StOk w S X) (hfit : FitS S) (hgood : Pl.okName nm = true) (hv : VSp w) (hto : ∀ i, i < 5 → (getTo nm S n i).data.length ≤ 1000000) :
    Calls Tryz.prog 14 #[.agg (stoL S X n).toArray, .string ⟨nm.toArray⟩] w (RetB (fun v w' => ReadOut w.heap.size (getSh nm S n) (Pl.leftAt n 5) (ansD (Pl.joinedP (Pl.fitsP nm ((List.range 5).map (getTo nm S n))))) (ansE (Pl.whyE ((List.range 5).map (getTo nm S n))) (Pl.joinedP (Pl.fitsP nm ((List.range 5).map (getTo nm S n))))) v w') w) := by
  have hmay := fun W => smayName_any nm W
  rw [hgood] at hmay
  obtain ⟨N, hN⟩ : ∃ N, w.heap.size = N := ⟨_, rfl⟩
  have hget := fun W (h : StOk W S X) => getAll_any S X n hn W h hfit nm
  obtain ⟨S', hS'⟩ : ∃ S', getSh nm S n = S' := ⟨_, rfl⟩
  obtain ⟨t, ht⟩ : ∃ t, getTo nm S n = t := ⟨_, rfl⟩
  obtain ⟨m', hm'⟩ : ∃ m', Pl.leftAt n 5 = m' := ⟨_, rfl⟩
  rw [hS', ht, hm'] at hget
  rw [hS', ht, hm']
  rw [ht] at hto
  obtain ⟨R, hR⟩ : ∃ R, Pl.fitsP nm ((List.range 5).map t) = R := ⟨_, rfl⟩
  obtain ⟨e9, he9⟩ : ∃ e9, Pl.whyE ((List.range 5).map t) = e9 := ⟨_, rfl⟩
  rw [hR, he9]
  have HR0 := Lib.hid (show ([] : List Pl.Fit5) ++ Pl.fitsF nm (tolFrom t 0) 0 = R from hR)
  have HR9 := Lib.hid he9
  have HRk := Lib.hid (show FitsOk R by rw [← hR]; exact fits_ok nm t)
  clear hR he9 hS' ht hm'
  obtain ⟨L, hL⟩ : ∃ L, stoL S X n = L := ⟨_, rfl⟩
  rw [hL] at hget ⊢
  have hiL : (Tryz.prog.info? 33).map (·.size) = some L.length := by rw [← hL]; exact info_sto
  have HH := Lib.hid (And.intro hmay (And.intro hget (And.intro hL (And.intro hok (And.intro hiL (And.intro hv hto))))))
  clear hmay hget hL hok hiL hgood hv hto
  go_enter Tryz.func14, Tryz.ntmps14
  go_upto_region 1 with (fail)
  rw [zero_sto]
  generalize hV : World.alloc _ (.cells (stoL (fun _ => Pl.noSh) (fun _ => ⟨none, 0, none, 0⟩) 0).toArray 33) = V
  have hVa : allocs w [.cells L.toArray 33, .cells (stoL (fun _ => Pl.noSh) (fun _ => ⟨none, 0, none, 0⟩) 0).toArray 33] = V := hV
  have hbV : Below N w V := by rw [← hVa]; exact allocs_below w _ N (by omega)
  have hsV : V.heap.size = N + 2 := by rw [← hVa, allocs_size, hN]; simp only [List.length_cons, List.length_nil]
  have h0 : StBx N S X n V := by unfold StBx; rw [HH.out.2.2.1]; exact allocs_at hVa hN 0 rfl
  have h2 : StBx (N + 1) (fun _ => Pl.noSh) (fun _ => ⟨none, 0, none, 0⟩) 0 V := allocs_at hVa hN 1 rfl
  have hrg : V.rangeAt N 0 L := by rw [← HH.out.2.2.1]; exact h0.range
  have HB := Lib.hid (And.intro hrg (And.intro h0 (And.intro h2 hbV)))
  clear hV hVa hrg h0 h2 hbV
  go_upto_region 3 with (with_reducible refine (HH.out.1 V).mono ?_)
  rintro _ w1 ⟨rfl, rfl⟩
  go_upto_region 4 with first
    | with_reducible refine wpList_load_mid rfl 33 _ rfl N 0 rfl L _ HB.out.1 Tryz.underlying33 rfl HH.out.2.2.2.2.1 ?_
    | (with_reducible refine (HH.out.2.1 V (HH.out.2.2.2.1.below (by rw [hN]; exact HB.out.2.2.2))).mono ?_)
  rintro _ w2 ⟨v, rfl, ⟨X2, rfl, hst2⟩, hb2⟩
  have hto := HH.out.2.2.2.2.2.2
  obtain ⟨L2, hL2⟩ : ∃ L2, stoL S' X2 m' = L2 := ⟨_, rfl⟩
  obtain ⟨LT, hLT⟩ : ∃ LT, tolL t = LT := ⟨_, rfl⟩
  rw [hL2, hLT]
  have hi2 : (Tryz.prog.info? 33).map (·.size) = some L2.toArray.size := by rw [List.size_toArray, ← hL2]; exact info_sto
  have hi2' : (Tryz.prog.info? 33).map (·.size) = some L2.length := by rw [← hL2]; exact info_sto
  have ho2 : ∀ v ∈ L2, v.oneCell' = true := by rw [← hL2]; exact stoL_one _ X2 _
  have hit : (Tryz.prog.info? 78).map (·.size) = some LT.toArray.size := by rw [List.size_toArray, ← hLT]; exact info_tol
  have hit' : (Tryz.prog.info? 78).map (·.size) = some LT.length := by rw [← hLT]; exact info_tol
  have hot' : ∀ v ∈ LT, v.oneCell' = true := by rw [← hLT]; exact tolL_one _
  have hl2 : L2.length = 11 := by rw [← hL2]; rfl
  have hlt : LT.length = 15 := by rw [← hLT]; rfl
  have hbA : Below w2.heap.size w2 (w2.alloc (.cells zT 78)) := (Below.refl _ _).alloc (Nat.le_refl _) _
  have h0A : StBx N S X n (w2.alloc (.cells zT 78)) := (HB.out.2.1.keep hb2).keep hbA
  have h1A : StBx (N + 1) (fun _ => Pl.noSh) (fun _ => ⟨none, 0, none, 0⟩) 0 (w2.alloc (.cells zT 78)) := (HB.out.2.2.1.keep hb2).keep hbA
  have hqA : (w2.alloc (.cells zT 78)).heap[w2.heap.size]? = some (.cells zT 78 (0, 0)) := heap_alloc_new _ _
  have hs2 : N + 2 ≤ w2.heap.size := by have := hb2.size; omega
  have hTa : (w2.alloc (.cells zT 78)).there N 0 L2.toArray.size := thereL h0A (by rw [List.size_toArray, hl2]; exact Nat.le_refl 11)
  have hsA := blk_lt hqA
  have h0B : ((w2.alloc (.cells zT 78)).setCells N 0 L2).heap[N]? = some (.cells L2.toArray 33 (0, 0)) := heap_setCells_all h0A (by rw [hl2]; rfl)
  have hoB : ∀ g, g ≠ N → g < (w2.alloc (.cells zT 78)).heap.size → ((w2.alloc (.cells zT 78)).setCells N 0 L2).heap[g]? = (w2.alloc (.cells zT 78)).heap[g]? := fun g hg hs => World.heap_setCells_other _ _ _ _ hs hg
  have hqB := (hoB w2.heap.size (by omega) hsA).trans hqA
  have h1B := (hoB (N + 1) (by omega) (by omega)).trans h1A
  have hTb : ((w2.alloc (.cells zT 78)).setCells N 0 L2).there w2.heap.size 0 LT.toArray.size := thereL hqB (by rw [List.size_toArray, hlt]; exact Nat.le_refl 15)
  have hsB := blk_lt hqB
  have hqC : (((w2.alloc (.cells zT 78)).setCells N 0 L2).setCells w2.heap.size 0 LT).heap[w2.heap.size]? = some (.cells LT.toArray 78 (0, 0)) := heap_setCells_all (C := zT.toList) hqB (by rw [hlt]; rfl)
  have hoC : ∀ g, g ≠ w2.heap.size → g < ((w2.alloc (.cells zT 78)).setCells N 0 L2).heap.size → (((w2.alloc (.cells zT 78)).setCells N 0 L2).setCells w2.heap.size 0 LT).heap[g]? = ((w2.alloc (.cells zT 78)).setCells N 0 L2).heap[g]? := fun g hg hs => World.heap_setCells_other _ _ _ _ hs hg
  have h0C := (hoC N (by omega) (by omega)).trans h0B
  have h1C := (hoC (N + 1) (by omega) (by omega)).trans h1B
  have hbw : Below N w (((w2.alloc (.cells zT 78)).setCells N 0 L2).setCells w2.heap.size 0 LT) := ((((HB.out.2.2.2.trans (hb2.mono (by omega))).trans (hbA.mono (by omega)))).trans (Lib.below_setCells_w (Nat.le_refl N) L2 0 _)).trans (Lib.below_setCells_w (by omega) LT 0 _)
  have hstC : StF N (((w2.alloc (.cells zT 78)).setCells N 0 L2).setCells w2.heap.size 0 LT) S' X2 := (hst2.weak (b' := N) (by omega)).kpt (((KpT.below hbA).trans (h0A.kpts L2)).trans (KpT.sets hqB (by decide) (by decide) 0 LT))
  have HG := Lib.hid (And.intro hTa (And.intro hTb (And.intro ho2 (And.intro hot' (And.intro hi2 (And.intro hit (And.intro hi2' hit')))))))
  have HC := Lib.hid (And.intro (And.intro hbw hstC) (RdM.mk (S' := S') (X' := X2) h0C h1C hqC))
  have HE := Lib.hid (And.intro hL2 (And.intro hLT (And.intro hl2 hto)))
  clear hTa hTb ho2 hot' hi2 hit hi2' hit' hbw hstC h0C h1C hqC hoC hoB hsA hsB h0A h1A hqA h0B h1B hqB hL2 hLT hl2 hlt hto hb2 hbA hst2
  go_upto_region 4 with first
    | with_reducible refine wpList_store_mid rfl 33 _ _ rfl N 0 L2.toArray rfl rfl HG.out.1 HG.out.2.2.2.2.1 (all_oneCell_toArray HG.out.2.2.1) ?_
    | with_reducible refine wpList_store_mid rfl 78 _ _ rfl w2.heap.size 0 LT.toArray rfl rfl HG.out.2.1 HG.out.2.2.2.2.2.1 (all_oneCell_toArray HG.out.2.2.2.1) ?_
  obtain ⟨Tq, hTq⟩ : ∃ Tq, w2.heap.size = Tq := ⟨_, rfl⟩
  rw [hTq] at HC
  simp only [hTq]
  obtain ⟨W3, hW3⟩ : ∃ W3, World.setCells (World.setCells (w2.alloc (.cells zT 78)) N 0 L2) Tq 0 LT = W3 := ⟨_, rfl⟩
  rw [hW3] at HC
  try simp only [hW3]
  have hNT : N + 2 ≤ Tq := by omega
  have hitq := HG.out.2.2.2.2.2.2.2
  have hi2q := HG.out.2.2.2.2.2.2.1
  have HI := Lib.hid (And.intro hitq hi2q)
  clear hTq hW3 HG hs2 HB hsV hitq hi2q
  have hrq : W3.rangeAt Tq 0 LT := rangeL HC.out.2.q
  go_upto_region 6 with (with_reducible refine wpList_load_mid rfl 78 _ rfl Tq 0 rfl LT _ hrq Tryz.underlying78 rfl HI.out.1 ?_)
  clear hrq
  obtain ⟨Q, hQ⟩ : ∃ Q, W3.heap.size = Q := ⟨_, rfl⟩
  have hTqQ : Tq < Q := by rw [← hQ]; exact blk_lt HC.out.2.q
  go_loopw [8, 27] (fun fv iv wr => ∃ (k m : Nat) (out : List Pl.Fit5) (fA : Option Addr) (fc : Nat), k ≤ 5 ∧ m ≤ k ∧ out.length = m ∧ iv = .int .i64 (k : Int) ∧ fv = .slice fA m fc ∧ Hid (out ++ Pl.fitsF nm (tolFrom t k) k = R) ∧ Hid (wr.ownsRow Q 83 4 (.slice fA m fc) m (fitsC out)) ∧ Hid (Below Q W3 wr)) (fun _ iv _ => 5 - (intOf iv).toNat)
  case atStart => exact ⟨0, 0, [], none, 0, by omega, by omega, rfl, rfl, rfl, HR0, Lib.hid ⟨by simp [fitsC], .inl ⟨rfl, rfl⟩⟩, Lib.hid (Below.refl _ _)⟩
  case round =>
    obtain ⟨k, m, out, fA, fc, hk, hmk, hol, rfl, rfl, HF, HO, HW⟩ := hrel
    by_cases hk5 : k < 5
    · have hidx := fun W => index_tol t hk5 W
      rw [HE.out.2.1] at hidx
      have hst := HF.out
      rw [tolFrom_step t hk5] at hst
      simp only [Pl.fitsF] at hst
      have htl := HE.out.2.2.2 k hk5
      obtain ⟨⟨td, te, tg⟩, htk⟩ : ∃ x, t k = x := ⟨_, rfl⟩
      rw [htk] at hidx hst htl
      simp only [Pl.fitT] at hidx hst htl
      have HST := Lib.hid (And.intro hst htl)
      clear hst htl htk
      obtain ⟨T, hT⟩ : ∃ T, wr.heap.size = T := ⟨_, rfl⟩
      go_upto_region 8 with (fail)
      generalize hW : World.alloc wr _ = W
      have hzW : W.heap[T]? = some (.cells #[.string ⟨td.toArray⟩, .int .i64 (te : Int), .bool tg] 77 (0, 0)) := by rw [← hW, ← hT]; exact heap_alloc_new _ _
      have hbr : Below wr.heap.size wr W := by rw [← hW]; exact (Below.refl _ _).alloc (Nat.le_refl _) _
      have hbW : Below Q W3 W := HW.out.trans (hbr.mono (by rw [← hQ]; exact HW.out.size))
      have hoW := own_below HO.out hbr
      have t0 : W.cell? ⟨T, 0, none⟩ = some (.string ⟨td.toArray⟩) := by rw [cell_row W T 0 _ _ hzW]; rfl
      have t1 : W.cell? ⟨T, 1, none⟩ = some (.int .i64 (te : Int)) := by rw [cell_row W T 1 _ _ hzW]; rfl
      have H1 := Lib.hid (And.intro hbW hoW)
      try simp only [hT]
      clear hW hzW hbr hbW hoW hT hidx
      have hsw3 : N ≤ Q := by omega
      by_cases h0 : te = 0
      · have h01 : ((te : Int) != 0) = false := by rw [h0]; rfl
        have hst := HST.out.1
        rw [if_pos h0] at hst
        have hfit := sfit_any nm td k hk5 W HST.out.2 (HH.out.2.2.2.2.2.1.below (by rw [hN]; exact HC.out.1.1.trans (H1.out.1.mono hsw3)))
        obtain ⟨F, hF⟩ : ∃ F, Pl.fitP nm k td = F := ⟨_, rfl⟩
        rw [hF] at hfit hst
        clear h0 hF
        have hsQ := H1.out.1.size
        cases F with
        | none =>
          unfold fitV at hfit
          have HF1 := Lib.hid hfit
          have HN := Lib.hid (show out ++ Pl.fitsF nm (tolFrom t (k + 1)) (k + 1) = R by simpa using hst)
          clear hfit hst
          go_upto_region 10 with (with_reducible refine HF1.out.mono ?_)
          rintro _ W5 ⟨v, rfl, rfl, hb5⟩
          have H5 := Lib.hid (And.intro (H1.out.1.trans (hb5.mono (by omega))) (own_below H1.out.2 hb5))
          clear hb5 t0 t1
          go_upto_region 10 with (fail)
          generalize hW6 : World.alloc W5 _ = W6
          have hb6 : Below W5.heap.size W5 W6 := by rw [← hW6]; exact (Below.refl _ _).alloc (Nat.le_refl _) _
          have H6 := Lib.hid (And.intro (H5.out.1.trans (hb6.mono (by have := H5.out.1.size; omega))) (own_below H5.out.2 hb6))
          clear hW6 hb6
          go_wp2_with fail
          go_roundw
          case rel => exact ⟨k + 1, m, out, fA, fc, by omega, by omega, hol, ret_i (by omega), rfl, HN, Lib.hid H6.out.2, Lib.hid H6.out.1⟩
          case measure => simp only [intOf]; omega
        | some x =>
          unfold fitV fitC at hfit
          have HF1 := Lib.hid hfit
          have HN := Lib.hid (show (out ++ [x]) ++ Pl.fitsF nm (tolFrom t (k + 1)) (k + 1) = R by simpa using hst)
          clear hfit hst
          go_upto_region 10 with (with_reducible refine HF1.out.mono ?_)
          rintro _ W5 ⟨v, rfl, rfl, hb5⟩
          have H5 := Lib.hid (And.intro (H1.out.1.trans (hb5.mono (by omega))) (own_below H1.out.2 hb5))
          clear hb5 t0 t1
          go_upto_region 10 with (fail)
          obtain ⟨U, hU⟩ : ∃ U, W5.heap.size = U := ⟨_, rfl⟩
          generalize hW6 : World.alloc W5 _ = W6
          have hzU : W6.heap[U]? = some (.cells #[.int .i64 (x.size : Int), .string ⟨x.sum.toArray⟩, .int .i64 (x.i : Int), .string ⟨x.data.toArray⟩] 83 (0, 0)) := by rw [← hW6, ← hU]; exact heap_alloc_new _ _
          have hb6 : Below W5.heap.size W5 W6 := by rw [← hW6]; exact (Below.refl _ _).alloc (Nat.le_refl _) _
          have H6 := Lib.hid (And.intro (H5.out.1.trans (hb6.mono (by have := H5.out.1.size; omega))) (own_below H5.out.2 hb6))
          have u0 : W6.cell? ⟨U, 0, none⟩ = some (.int .i64 (x.size : Int)) := by rw [cell_row W6 U 0 _ _ hzU]; rfl
          have u1 : W6.cell? ⟨U, 1, none⟩ = some (.string ⟨x.sum.toArray⟩) := by rw [cell_row W6 U 1 _ _ hzU]; rfl
          have u2 : W6.cell? ⟨U, 2, none⟩ = some (.int .i64 (x.i : Int)) := by rw [cell_row W6 U 2 _ _ hzU]; rfl
          have u3 : W6.cell? ⟨U, 3, none⟩ = some (.string ⟨x.data.toArray⟩) := by rw [cell_row W6 U 3 _ _ hzU]; rfl
          try simp only [hU]
          clear hW6 hb6 hzU hU
          have hs6 : Q ≤ W6.heap.size := by have := H6.out.1.size; omega
          go_wp2_with (at_builtin; refine push_k8 rfl (.tmp 43) (.tmp 45) 81 rfl Q 83 (.agg #[.int .i64 0, .string ⟨#[]⟩, .int .i64 0, .string ⟨#[]⟩]) 4 48 Tryz.underlying81 info_fit32 rfl (by decide) W6 _ _ _ (fitC x) rfl rfl H6.out.2 rfl (fit_one x) (by omega) (by decide) hs6 ?_; intro A1 c1 w7 hown1 hb7; have HP := Lib.hid (And.intro hown1 hb7); clear hown1 hb7)
          exact ⟨⟨k + 1, m + 1, out ++ [x], A1, c1, by omega, by omega, by simp [hol], ret_i (by omega), rfl, HN, Lib.hid (by rw [show fitsC (out ++ [x]) = fitsC out ++ fitC x by simp [fitsC]]; exact HP.out.1), Lib.hid (H6.out.1.trans HP.out.2)⟩, by simp only [intOf]; omega⟩
      · have h01 : ((te : Int) != 0) = true := by simp; omega
        have HN := Lib.hid (show out ++ Pl.fitsF nm (tolFrom t (k + 1)) (k + 1) = R by have h := HST.out.1; rw [if_neg h0] at h; simpa using h)
        clear h0
        go_wp2_with fail
        go_roundw
        case rel => exact ⟨k + 1, m, out, fA, fc, by omega, by omega, hol, ret_i (by omega), rfl, HN, Lib.hid H1.out.2, Lib.hid H1.out.1⟩
        case measure => simp only [intOf]; omega
    · obtain rfl : k = 5 := by omega
      have hRo : out = R := by have h := HF.out; rw [tolFrom_end] at h; simpa [Pl.fitsF] using h
      have HRo := Lib.hid hRo
      clear hRo
      go_upto_region 13 with (fail)
      have hokf : FitsOk out := by rw [HRo.out]; exact HRk.out
      have hsr := HW.out.size
      have hsw3 : N ≤ Q := by omega
      have hjn := sjoined_any fA m fc out hol hokf wr (Rd.own HO.out) (HH.out.2.2.2.2.2.1.below (by rw [hN]; exact HC.out.1.1.trans (HW.out.mono (by omega))))
      rw [HRo.out] at hjn
      obtain ⟨J, hJ⟩ : ∃ J, Pl.joinedP R = J := ⟨_, rfl⟩
      have HJ := Lib.hid hJ
      rw [hJ] at hjn
      clear hJ hokf
      have h3 : RdM N Tq S' X2 L2 LT wr := HC.out.2.keep (by rw [hQ]; exact HW.out)
      cases J with
      | none =>
        unfold joinV at hjn
        have HJn := Lib.hid hjn
        clear hjn
        go_upto_region 14 with (with_reducible refine HJn.out.mono ?_)
        rintro _ W5 ⟨v, rfl, rfl, hb5⟩
        have h5 := h3.keep hb5
        have hbw5 : Below N w W5 := ((HC.out.1.1.trans (HW.out.mono hsw3)).trans (hb5.mono (by omega)))
        have hst5 : StF N W5 S' X2 := (HC.out.1.2.kpt (KpT.below (by rw [hQ]; exact HW.out))).kpt (KpT.below hb5)
        have hl2 := HE.out.2.2.1
        have hi2' := HI.out.2
        have hit' := HI.out.1
        have H5 := Lib.hid (And.intro h5 (And.intro hbw5 hst5))
        clear hb5 h3 h5 hbw5 hst5
        go_upto_region 16 with (fail)
        have hwhy := swhy_any t W5.drew
        rw [HE.out.2.1, HR9.out] at hwhy
        have HY := Lib.hid hwhy
        clear hwhy
        refine wp_region_held_drew (S := (fun w' => w'.rangeAt N 0 L2 ∧ w'.rangeAt Tq 0 LT)) (by kernel_rfl) (by exact ⟨rangeL H5.out.1.t, rangeL H5.out.1.q⟩) (fun hHeld => ?_)
        refine wpAnyH_take (i := 0) (v := .agg (L2).toArray) rfl (by kernel_rfl) (by kernel_rfl) (by kernel_rfl) (fun _ _ _ h => h) (yieldsIf_load_mid (by kernel_rfl) 33 _ rfl (N) (0) rfl L2 _ (fun _ h => h.1) Tryz.underlying33 rfl hi2') hHeld ?_
        simp only [Act.put, lay9]
        refine wpAnyH_take (i := 1) (v := .agg (LT).toArray) rfl (by kernel_rfl) (by kernel_rfl) (by kernel_rfl) (fun _ _ _ h => h) (yieldsIf_load_mid (by kernel_rfl) 78 _ rfl (Tq) (0) rfl LT _ (fun _ h => h.2) Tryz.underlying78 rfl hit') hHeld ?_
        simp only [Act.put, lay9]
        refine wpAnyH_ready (rs := [2]) (by kernel_rfl) (by simp) (AllReadyH.cons rfl (fun K hK => ?_) AllReadyH.nil)
        go_simp
        (with_reducible refine HY.out.mono ?_)
        rintro _ W6 ⟨v, rfl, rfl, hb6⟩
        have hb56 : Below W5.heap.size W5 W6 := (Below.refl _ _).drew.trans hb6
        have h6 := H5.out.1.keep hb56
        have H6 := Lib.hid (And.intro h6 (And.intro (H5.out.2.1.trans (hb56.mono (by have := H5.out.2.1.size; omega))) (H5.out.2.2.kpt (KpT.below hb56))))
        refine hK.out _ _ ⟨rangeL h6.t, rangeL h6.q⟩ (fun hHeld => ?_)
        clear hK K
        (try simp only [Act.put, lay9])
        clear h6 hb56 hb6
        refine wpAnyH_ready (rs := [3]) (by kernel_rfl) (by simp) (AllReadyH.cons rfl (fun K hK => ?_) AllReadyH.nil)
        have hT6 : W6.there (N + 1) 0 L2.toArray.size := thereL H6.out.1.r (by rw [List.size_toArray, hl2]; exact Nat.le_refl 11)
        have hi6 : (Tryz.prog.info? 33).map (·.size) = some L2.toArray.size := by rw [List.size_toArray]; exact hi2'
        have ho6 : ∀ v ∈ L2, v.oneCell' = true := by rw [← HE.out.1]; exact stoL_one _ X2 _
        refine wp_store_mid 33 _ _ rfl (N + 1) 0 L2.toArray rfl rfl hT6 hi6 (all_oneCell_toArray ho6) ?_
        have hbs := blk_lt H6.out.1.q
        have hoS : ∀ g, g ≠ N + 1 → g < W6.heap.size → (World.setCells W6 (N + 1) 0 L2).heap[g]? = W6.heap[g]? := fun g hg hs => World.heap_setCells_other W6 _ _ _ hs hg
        have ht7 := (hoS N (by omega) (by omega)).trans H6.out.1.t
        have hq7 := (hoS Tq (by omega) (by omega)).trans H6.out.1.q
        have hr7 : (World.setCells W6 (N + 1) 0 L2).rangeAt (N + 1) 0 L2 := World.rangeAt_setCells_same _ _ _ _ (by simpa using hT6)
        have hst7 : StF N (World.setCells W6 (N + 1) 0 L2) S' X2 := H6.out.2.2.kpt (StBx.kpts H6.out.1.r L2)
        have hb7 : Below N w (World.setCells W6 (N + 1) 0 L2) := H6.out.2.1.trans (Lib.below_setCells_w (by omega) L2 0 W6)
        refine hK.out _ _ ⟨rangeL ht7, rangeL hq7⟩ (fun hHeld => ?_)
        clear hK K
        (try simp only [Act.put, lay9])
        refine tk 4 (v := ?_) rfl ?_ hHeld ?_
        rotate_left
        · (intro w' hSw; (try dsimp only at hSw); go_simp; try with_reducible rfl)
        simp only [Act.put, lay9]
        refine tk 5 (v := ?_) rfl ?_ hHeld ?_
        rotate_left
        · (intro w' hSw; (try dsimp only at hSw); go_simp; try with_reducible rfl)
        simp only [Act.put, lay9]
        refine wpAnyH_done (by kernel_rfl) ?_ _
        clear hHeld
        go_wp2_with fail
        refine bodyPost_ret (v := .tuple #[.agg L2.toArray, .string ⟨#[]⟩, .int .i64 (e9 : Int)]) (results_stt (B := N + 1) rfl rfl rfl rfl hr7 hi2') rfl ?_
        refine ⟨_, rfl, ?_, by rw [hN]; exact hb7⟩
        rw [HJ.out, hN]
        exact ⟨X2, by rw [HE.out.1]; rfl, hst7⟩
      | some d =>
        unfold joinV at hjn
        have HJn := Lib.hid hjn
        clear hjn
        go_upto_region 14 with (with_reducible refine HJn.out.mono ?_)
        rintro _ W5 ⟨v, rfl, rfl, hb5⟩
        have h5 := h3.keep hb5
        have hbw5 : Below N w W5 := ((HC.out.1.1.trans (HW.out.mono hsw3)).trans (hb5.mono (by omega)))
        have hst5 : StF N W5 S' X2 := (HC.out.1.2.kpt (KpT.below (by rw [hQ]; exact HW.out))).kpt (KpT.below hb5)
        have hl2 := HE.out.2.2.1
        have hi2' := HI.out.2
        have hi5 : (Tryz.prog.info? 33).map (·.size) = some L2.toArray.size := by rw [List.size_toArray]; exact hi2'
        have hT5 : W5.there (N + 1) 0 L2.toArray.size := thereL h5.r (by rw [List.size_toArray, hl2]; exact Nat.le_refl 11)
        have ho5 : ∀ v ∈ L2, v.oneCell' = true := by rw [← HE.out.1]; exact stoL_one _ X2 _
        have hr5 := rangeL h5.t
        have H5 := Lib.hid (And.intro h5 (And.intro hbw5 (And.intro hst5 (And.intro hi5 (And.intro hT5 (And.intro ho5 hr5))))))
        clear hb5 h3 h5 hbw5 hst5 hi5 hT5 ho5 hr5
        go_wp2_with first
          | with_reducible refine wpList_load_mid rfl 33 _ rfl N 0 rfl L2 _ H5.out.2.2.2.2.2.2 Tryz.underlying33 rfl hi2' ?_
          | with_reducible refine wpList_store_mid rfl 33 _ _ rfl (N + 1) 0 L2.toArray rfl rfl H5.out.2.2.2.2.1 H5.out.2.2.2.1 (all_oneCell_toArray H5.out.2.2.2.2.2.1) ?_
        refine bodyPost_ret (v := .tuple #[.agg L2.toArray, .string ⟨d.toArray⟩, .int .i64 0]) (results_stt (B := N + 1) rfl rfl rfl rfl (World.rangeAt_setCells_same _ _ _ _ (by simpa using H5.out.2.2.2.2.1)) hi2') rfl ?_
        refine ⟨_, rfl, ?_, by rw [hN]; exact H5.out.2.1.trans (Lib.below_setCells_w (by omega) L2 0 W5)⟩
        rw [HJ.out, hN]
        exact ⟨X2, by rw [HE.out.1]; rfl, H5.out.2.2.1.kpt (StBx.kpts H5.out.1.r L2)⟩
end Go.Proofs.YtdnebgilkfafhaaGreatDoor
