/- The assembler takes a line in (printed by genas5.py). -/
import Derived.Test.YtmmnkoeajdeldaaGreatDoorAsX4
namespace Go.Proofs.YtmmnkoeajdeldaaGreatDoor
open Go.RowKit Go.Maps Go.WideMaps
set_option linter.unusedVariables false
set_option linter.unusedSimpArgs false
attribute [local go_sem] ba_get ba_cut ba_add fld_k fld_s fld_n
theorem zero_fn (w : World) : (zeroValue 1).run Tryz.prog w = .ok .nilFunc w := by kernel_rfl
def fnV (f A : Nat) : Value := .func (.func f) #[.pointer (some ⟨A, 0, none⟩)] #[]
/-- The lines' words, and who takes each in. -/
def asY (A : Nat) : List (List UInt8 × Value) := [(Pl.wLi, fnV 57 A), (Pl.wLa, fnV 58 A), (Pl.wRaw, fnV 59 A), (Pl.wText, fnV 60 A), (Pl.wWord, fnV 61 A), (Pl.wRoom, fnV 62 A)]
/-- The bounds under which a line is taken in. -/
structure StOk (S : Pl.St) : Prop where
  pcs : S.pcs.length ≤ 900000
  data : S.data.length ≤ 900000000
  rooms : S.rooms.length ≤ 900000
  names : S.names.length ≤ 900000
structure TksOk (l : List Pl.Tk) : Prop where
  s : ∀ t ∈ l, t.s.length ≤ 1000000 ∧ True
  n : ∀ t ∈ l, -9223372036854775808 ≤ t.n ∧ t.n ≤ 9223372036854775807
theorem LnQ.from {w w1 w2 : World} {H A ln : Nat} {Z : AsV} {Y : List (List UInt8 × Value)} {v : Value} {E : Except Nat Pl.St} {x : Ending} (h : LnK w w1 H A Z.n) (k : LnQ w1 H A ln { Z with r := v } Y E x w2) : LnQ w H A ln Z Y E x w2 := ⟨h.trans k.1, k.2⟩
theorem OpTab.line {w w' : World} {H A N : Nat} (h : OpTab w) (hk : LnK w w' H A N) (h0 : 0 < H) (h1 : 0 ≠ A) (h2 : 0 ≠ N) : OpTab w' :=
  ⟨fun j v hv => by rw [World.cell?_of_block (a := ⟨0, 0 + j, none⟩) (hk.block _ h0 h1 h2)]; exact h.at_ j v hv, Nat.lt_of_lt_of_le h.lt hk.size⟩
theorem op_le {s : List UInt8} : ∀ {l : List (List UInt8)} {i op : Nat}, Pl.opF s l i = some op → i ≤ op ∧ op < i + l.length
  | [], _, _, h => by cases h
  | a :: r, i, op, h => by
    simp only [Pl.opF] at h
    split at h
    · cases h; simp
    · have := op_le h
      simp; omega
set_option maxRecDepth 100000 in
set_option maxHeartbeats 2000000 in
theorem take_nil (H A M ln : Nat) (S : Pl.St) (Z : AsV) (l : List Pl.Tk) (w : World) (hA : AsAt w H A ln S Z (asY A)) (hT : TkAt w A M Z.r l) (hM : M ≤ w.heap.size) (hN : StOk S) (hl : TksOk l) (hO : OpTab w) (hg : 0 < A ∧ 0 < Z.n) (h0 : l = []) :
    Calls Tryz.prog 28 #[.pointer (some ⟨A, 0, none⟩)] w (LnQ w H A ln Z (asY A) (.ok S)) := by
  obtain ⟨q, n, c, hZ, hn, hnc, hR, hq⟩ := hT.is_
  have h1 := hA.box.c1
  rw [hZ] at h1
  have hAl := hA.box.lt
  subst h0
  simp only [List.length_nil] at hn
  subst hn
  have HA := Lib.hid hA
  clear hA hT hZ hq hR
  go_enter Tryz.func28, Tryz.ntmps28
  go_wp2_with fail
  refine bodyPost_ret (v := .tuple #[]) (results_none rfl _ _ _) rfl ?_
  exact ⟨LnK.refl _ _ _ _, rfl, Z, rfl, rfl, rfl, HA.out⟩
set_option maxRecDepth 100000 in
set_option maxHeartbeats 2000000 in
theorem take_name (H A M ln : Nat) (S : Pl.St) (Z : AsV) (l : List Pl.Tk) (w : World) (hA : AsAt w H A ln S Z (asY A)) (hT : TkAt w A M Z.r l) (hM : M ≤ w.heap.size) (hN : StOk S) (hl : TksOk l) (hO : OpTab w) (hg : 0 < A ∧ 0 < Z.n) (a b : Pl.Tk) (h0 : l = [a, b]) (ha : a.k = 0) (hb : b.k = 3) :
    Calls Tryz.prog 28 #[.pointer (some ⟨A, 0, none⟩)] w (LnQ w H A ln Z (asY A) (Pl.nameP a.s 0 S.pcs.length S)) := by
  obtain ⟨q, n, c, hZ, hn, hnc, hR, hq⟩ := hT.is_
  have h1 := hA.box.c1
  rw [hZ] at h1
  have hAl := hA.box.lt
  subst h0
  obtain ⟨B, off, rfl, hb0, k0, k1, k2, hR1⟩ := hR.tk hn.symm rfl
  obtain ⟨B', off', he, hb1, m0, m1, m2, hR2⟩ := Rd.tk (l := [b]) (n := 1) (by simpa using hR1) rfl rfl
  injection he with he
  injection he with e1 e2 e3
  subst e1 e2
  simp only [List.length_cons, List.length_nil] at hn
  subst hn
  rw [ha] at k0
  rw [hb] at m0
  have k0' : w.cell? ⟨B, off, none⟩ = some (.int .i64 0) := k0
  have m0' : w.cell? ⟨B, off + 3, none⟩ = some (.int .i64 3) := m0
  have hrow := hA.pcs
  obtain ⟨oA, oc, hoe⟩ := own_form' hrow
  have h2 : w.cell? ⟨A, 2, none⟩ = some (.slice oA S.pcs.length oc) := by rw [← hoe]; exact hA.box.c2
  have HA := Lib.hid (hA.new (Below.refl _ _).drew)
  have HK0 := Lib.hid (LnK.low (H := H) (A := A) (N := Z.n) ((Below.refl w.heap.size w).drew) hA.hi)
  have hsl := (hl.s a (by simp)).1
  have hpl := hN.names
  clear hA hT hZ hq hR hR1 hR2 hrow k0 m0 m1 m2 k2 ha hb hO hN hl
  go_enter Tryz.func28, Tryz.ntmps28
  go_upto_region 2 with (fail)
  have HC := Lib.hid (name_any H A ln S Z (asY A) a.s 0 S.pcs.length 0 _ rfl rfl w.drew HA.out hsl (by omega))
  refine wp_regionL 13 (fun w' => w'.cell? ⟨A, 1, none⟩ = some (.slice (some ⟨B, off, none⟩) 2 c) ∧ w'.cell? ⟨B, off + 1, none⟩ = some (.string ⟨a.s.toArray⟩) ∧ w'.cell? ⟨A, 2, none⟩ = some (.slice oA S.pcs.length oc)) (by kernel_rfl) (by exact ⟨h1, k1, h2⟩) (fun hHeld => ?_)
  refine takeL (i := 0) (v := ?_) rfl (by kernel_rfl) (by kernel_rfl) (by kernel_rfl) (by kernel_rfl) (by kernel_rfl) (by decide) (fun _ _ _ h => h) (Or.inl ⟨by kernel_rfl, ?_⟩) hHeld ?_
  rotate_left
  · (intro w' hSw; (try dsimp only at hSw); obtain ⟨hS0, hS1, hS2⟩ := hSw; go_simp; try with_reducible rfl)
  simp only [Act.put, List.setIfInBounds_toArray, List.set_cons_zero, List.set_cons_succ, List.getElem_toArray, List.getElem_cons_succ, List.getElem_cons_zero]
  refine takeL (i := 1) (v := ?_) rfl (by kernel_rfl) (by kernel_rfl) (by kernel_rfl) (by kernel_rfl) (by kernel_rfl) (by decide) (fun _ _ _ h => h) (Or.inl ⟨by kernel_rfl, ?_⟩) hHeld ?_
  rotate_left
  · (intro w' hSw; (try dsimp only at hSw); obtain ⟨hS0, hS1, hS2⟩ := hSw; go_simp; try with_reducible rfl)
  simp only [Act.put, List.setIfInBounds_toArray, List.set_cons_zero, List.set_cons_succ, List.getElem_toArray, List.getElem_cons_succ, List.getElem_cons_zero]
  refine takeL (i := 2) (v := ?_) rfl (by kernel_rfl) (by kernel_rfl) (by kernel_rfl) (by kernel_rfl) (by kernel_rfl) (by decide) (fun _ _ _ h => h) (Or.inl ⟨by kernel_rfl, ?_⟩) hHeld ?_
  rotate_left
  · (intro w' hSw; (try dsimp only at hSw); obtain ⟨hS0, hS1, hS2⟩ := hSw; go_simp; try with_reducible rfl)
  simp only [Act.put, List.setIfInBounds_toArray, List.set_cons_zero, List.set_cons_succ, List.getElem_toArray, List.getElem_cons_succ, List.getElem_cons_zero]
  refine takeL (i := 3) (v := ?_) rfl (by kernel_rfl) (by kernel_rfl) (by kernel_rfl) (by kernel_rfl) (by kernel_rfl) (by decide) (fun _ _ _ h => h) (Or.inl ⟨by kernel_rfl, ?_⟩) hHeld ?_
  rotate_left
  · (intro w' hSw; (try dsimp only at hSw); obtain ⟨hS0, hS1, hS2⟩ := hSw; go_simp; try with_reducible rfl)
  simp only [Act.put, List.setIfInBounds_toArray, List.set_cons_zero, List.set_cons_succ, List.getElem_toArray, List.getElem_cons_succ, List.getElem_cons_zero]
  refine takeL (i := 4) (v := ?_) rfl (by kernel_rfl) (by kernel_rfl) (by kernel_rfl) (by kernel_rfl) (by kernel_rfl) (by decide) (fun _ _ _ h => h) (Or.inl ⟨by kernel_rfl, ?_⟩) hHeld ?_
  rotate_left
  · (intro w' hSw; (try dsimp only at hSw); obtain ⟨hS0, hS1, hS2⟩ := hSw; go_simp; try with_reducible rfl)
  simp only [Act.put, List.setIfInBounds_toArray, List.set_cons_zero, List.set_cons_succ, List.getElem_toArray, List.getElem_cons_succ, List.getElem_cons_zero]
  refine takeL (i := 5) (v := ?_) rfl (by kernel_rfl) (by kernel_rfl) (by kernel_rfl) (by kernel_rfl) (by kernel_rfl) (by decide) (fun _ _ _ h => h) (Or.inl ⟨by kernel_rfl, ?_⟩) hHeld ?_
  rotate_left
  · (intro w' hSw; (try dsimp only at hSw); obtain ⟨hS0, hS1, hS2⟩ := hSw; go_simp; try with_reducible rfl)
  simp only [Act.put, List.setIfInBounds_toArray, List.set_cons_zero, List.set_cons_succ, List.getElem_toArray, List.getElem_cons_succ, List.getElem_cons_zero]
  refine takeL (i := 6) (v := ?_) rfl (by kernel_rfl) (by kernel_rfl) (by kernel_rfl) (by kernel_rfl) (by kernel_rfl) (by decide) (fun _ _ _ h => h) (Or.inl ⟨by kernel_rfl, ?_⟩) hHeld ?_
  rotate_left
  · (intro w' hSw; (try dsimp only at hSw); obtain ⟨hS0, hS1, hS2⟩ := hSw; go_simp; try with_reducible rfl)
  simp only [Act.put, List.setIfInBounds_toArray, List.set_cons_zero, List.set_cons_succ, List.getElem_toArray, List.getElem_cons_succ, List.getElem_cons_zero]
  refine takeL (i := 7) (v := ?_) rfl (by kernel_rfl) (by kernel_rfl) (by kernel_rfl) (by kernel_rfl) (by kernel_rfl) (by decide) (fun _ _ _ h => h) (Or.inl ⟨by kernel_rfl, ?_⟩) hHeld ?_
  rotate_left
  · (intro w' hSw; (try dsimp only at hSw); obtain ⟨hS0, hS1, hS2⟩ := hSw; go_simp; try with_reducible rfl)
  simp only [Act.put, List.setIfInBounds_toArray, List.set_cons_zero, List.set_cons_succ, List.getElem_toArray, List.getElem_cons_succ, List.getElem_cons_zero]
  refine takeL (i := 8) (v := ?_) rfl (by kernel_rfl) (by kernel_rfl) (by kernel_rfl) (by kernel_rfl) (by kernel_rfl) (by decide) (fun _ _ _ h => h) (Or.inl ⟨by kernel_rfl, ?_⟩) hHeld ?_
  rotate_left
  · (intro w' hSw; (try dsimp only at hSw); obtain ⟨hS0, hS1, hS2⟩ := hSw; go_simp; try with_reducible rfl)
  simp only [Act.put, List.setIfInBounds_toArray, List.set_cons_zero, List.set_cons_succ, List.getElem_toArray, List.getElem_cons_succ, List.getElem_cons_zero]
  refine takeL (i := 9) (v := ?_) rfl (by kernel_rfl) (by kernel_rfl) (by kernel_rfl) (by kernel_rfl) (by kernel_rfl) (by decide) (fun _ _ _ h => h) (Or.inl ⟨by kernel_rfl, ?_⟩) hHeld ?_
  rotate_left
  · (intro w' hSw; (try dsimp only at hSw); obtain ⟨hS0, hS1, hS2⟩ := hSw; go_simp; try with_reducible rfl)
  simp only [Act.put, List.setIfInBounds_toArray, List.set_cons_zero, List.set_cons_succ, List.getElem_toArray, List.getElem_cons_succ, List.getElem_cons_zero]
  refine takeL (i := 10) (v := ?_) rfl (by kernel_rfl) (by kernel_rfl) (by kernel_rfl) (by kernel_rfl) (by kernel_rfl) (by decide) (fun _ _ _ h => h) (Or.inl ⟨by kernel_rfl, ?_⟩) hHeld ?_
  rotate_left
  · (intro w' hSw; (try dsimp only at hSw); obtain ⟨hS0, hS1, hS2⟩ := hSw; go_simp; try with_reducible rfl)
  simp only [Act.put, List.setIfInBounds_toArray, List.set_cons_zero, List.set_cons_succ, List.getElem_toArray, List.getElem_cons_succ, List.getElem_cons_zero]
  refine takeL (i := 11) (v := ?_) rfl (by kernel_rfl) (by kernel_rfl) (by kernel_rfl) (by kernel_rfl) (by kernel_rfl) (by decide) (fun _ _ _ h => h) (Or.inl ⟨by kernel_rfl, ?_⟩) hHeld ?_
  rotate_left
  · (intro w' hSw; (try dsimp only at hSw); obtain ⟨hS0, hS1, hS2⟩ := hSw; go_simp; try with_reducible rfl)
  simp only [Act.put, List.setIfInBounds_toArray, List.set_cons_zero, List.set_cons_succ, List.getElem_toArray, List.getElem_cons_succ, List.getElem_cons_zero]
  refine takeL (i := 12) (v := ?_) rfl (by kernel_rfl) (by kernel_rfl) (by kernel_rfl) (by kernel_rfl) (by kernel_rfl) (by decide) (fun _ _ _ h => h) (Or.inl ⟨by kernel_rfl, ?_⟩) hHeld ?_
  rotate_left
  · (intro w' hSw; (try dsimp only at hSw); obtain ⟨hS0, hS1, hS2⟩ := hSw; go_simp; try with_reducible rfl)
  simp only [Act.put, List.setIfInBounds_toArray, List.set_cons_zero, List.set_cons_succ, List.getElem_toArray, List.getElem_cons_succ, List.getElem_cons_zero]
  refine readyL (rs := [13]) (by kernel_rfl) (by simp) (ReadyL.last rfl (fun K hK => ?_))
  go_simp
  (with_reducible refine HC.out.mono ?_)
  rintro x w2 ⟨hk, h⟩
  rcases hE : Pl.nameP a.s 0 S.pcs.length S with e | S1
  · rw [hE] at h
    obtain rfl := h
    exact ⟨rfl, HK0.out.trans hk, rfl⟩
  rw [hE] at h
  obtain ⟨rfl, hA2⟩ := h
  refine hK.out _ _ ?_
  clear hK K
  (try simp only [Act.put, List.setIfInBounds_toArray, List.set_cons_zero, List.set_cons_succ, List.getElem_toArray, List.getElem_cons_succ, List.getElem_cons_zero])
  refine doneL (by kernel_rfl) ?_ _
  have HF := Lib.hid (And.intro (HK0.out.trans hk) (And.intro hE hA2))
  clear hk hA2 hE h1 k1 h2 HC
  go_wp2_with fail
  refine bodyPost_ret (v := .tuple #[]) (results_none rfl _ _ _) rfl ?_
  unfold LnQ
  rw [HF.out.2.1]
  exact ⟨HF.out.1, rfl, Z, rfl, rfl, rfl, HF.out.2.2⟩
set_option maxRecDepth 100000 in
set_option maxHeartbeats 2000000 in
theorem take_far (H A M ln : Nat) (S : Pl.St) (Z : AsV) (l : List Pl.Tk) (w : World) (hA : AsAt w H A ln S Z (asY A)) (hT : TkAt w A M Z.r l) (hM : M ≤ w.heap.size) (hN : StOk S) (hl : TksOk l) (hO : OpTab w) (hg : 0 < A ∧ 0 < Z.n) (h2 : l.length ≠ 2) (h0 : l.length ≠ 0) :
    Calls Tryz.prog 28 #[.pointer (some ⟨A, 0, none⟩)] w (LnQ w H A ln Z (asY A) (Pl.lineP ln l S)) := by
  obtain ⟨q, n, c, hZ, hn, hnc, hR, hq⟩ := hT.is_
  have h1 := hA.box.c1
  rw [hZ] at h1
  have hAl := hA.box.lt
  have HA := Lib.hid hA
  have HT := Lib.hid hT
  obtain ⟨R, hRr⟩ : ∃ R, Pl.lineP ln l S = R := ⟨_, rfl⟩
  rw [hRr]
  have HR := Lib.hid hRr
  have e0 : ((n : Int) == 0) = false := by simp; omega
  have e2 : ((n : Int) == 2) = false := by simp; omega
  clear hn h0 h2
  clear hA hT hZ hq hR hRr
  have HC := Lib.hid (want_any A M ln _ 0 0 rfl l w HA.out.box HT.out)
  go_enter Tryz.func28, Tryz.ntmps28
  go_wp2_with fail
  (with_reducible refine HC.out.mono ?_)
  rintro x w1 ⟨hg1, h⟩
  have hr := HR.out
  unfold Pl.lineP at hr
  rcases hE : Pl.wantP 0 l with e | ⟨f, r⟩
  · rw [hE] at h hr
    obtain rfl := h
    subst hr
    exact ⟨rfl, LnK.box hg1 HA.out.hi, rfl⟩
  rw [hE] at h hr
  obtain ⟨rfl, v, hB1, hT1⟩ := h
  have HG1 := Lib.hid (LnK.box (N := Z.n) hg1 HA.out.hi)
  have HA1 := Lib.hid (HA.out.step hg1 hB1)
  have HT1 := Lib.hid hT1
  have HM1 : Hid (∀ x ∈ r, x ∈ l) := Lib.hid (want_mem hE).2
  have hfs := (hl.s f (want_mem hE).1).1
  have HR1 : Hid ((if f.s = Pl.wLi then Pl.liP ln r S else if f.s = Pl.wLa then Pl.laP ln r S else if f.s = Pl.wRaw then Pl.rawP ln r S else if f.s = Pl.wText then Pl.textP r S else if f.s = Pl.wWord then Pl.wordP4 r S else if f.s = Pl.wRoom then Pl.roomP r S else match Pl.opN f.s with | none => .error 3 | some op => Pl.insP ln op r S) = R) := Lib.hid hr
  have h7 := HA1.out.box.c7
  have hAl1 := HA1.out.box.lt
  have hlk := HA1.out.ways.look_ok Tryz.underlying62 (zero_fn w1) (m := f.s) (by omega)
  rw [show tkV f = .agg #[.int .i64 (f.k : Int), .string ⟨f.s.toArray⟩, .int .i64 f.n] from rfl]
  obtain ⟨s, hs⟩ : ∃ s, f.s = s := ⟨_, rfl⟩
  rw [hs] at HR1 hlk hfs ⊢
  clear hg1 hE hB1 hT1 hr HC hs h1 e0 e2 hAl
  by_cases hw0 : s = Pl.wLi
  · have hlv : lkV s (asY A) = some (fnV 57 A) := by rw [hw0]; rfl
    rw [hlv] at hlk
    unfold fnV at hlk
    simp only [Option.getD_some, Option.isSome_some] at hlk
    have HRw : Hid (Pl.liP ln r S = R) := Lib.hid (by rw [← HR1.out, if_pos hw0])
    have HC := Lib.hid (li_any H A M ln S _ (asY A) r w1 HA1.out HT1.out hN.pcs)
    clear HR1 hlv hw0
    go_wp2_with fail
    (with_reducible refine HC.out.mono ?_)
    rintro x w2 hq
    rw [HRw.out] at hq
    have hq1 := LnQ.from HG1.out hq
    rcases R with e | S1
    · obtain ⟨hk, rfl⟩ := hq1
      exact ⟨rfl, hk, rfl⟩
    · obtain ⟨hk, rfl, hz⟩ := hq1
      have HF := Lib.hid (And.intro hk hz)
      clear hk hz hq HC
      go_wp2_with fail
      refine bodyPost_ret (v := .tuple #[]) (results_none rfl _ _ _) rfl ?_
      exact ⟨HF.out.1, rfl, HF.out.2⟩
  by_cases hw1 : s = Pl.wLa
  · have hlv : lkV s (asY A) = some (fnV 58 A) := by rw [hw1]; rfl
    rw [hlv] at hlk
    unfold fnV at hlk
    simp only [Option.getD_some, Option.isSome_some] at hlk
    have HRw : Hid (Pl.laP ln r S = R) := Lib.hid (by rw [← HR1.out, if_neg hw0, if_pos hw1])
    have HC := Lib.hid (la_any H A M ln S _ (asY A) r w1 HA1.out HT1.out hN.pcs)
    clear HR1 hlv hw1
    go_wp2_with fail
    (with_reducible refine HC.out.mono ?_)
    rintro x w2 hq
    rw [HRw.out] at hq
    have hq1 := LnQ.from HG1.out hq
    rcases R with e | S1
    · obtain ⟨hk, rfl⟩ := hq1
      exact ⟨rfl, hk, rfl⟩
    · obtain ⟨hk, rfl, hz⟩ := hq1
      have HF := Lib.hid (And.intro hk hz)
      clear hk hz hq HC
      go_wp2_with fail
      refine bodyPost_ret (v := .tuple #[]) (results_none rfl _ _ _) rfl ?_
      exact ⟨HF.out.1, rfl, HF.out.2⟩
  by_cases hw2 : s = Pl.wRaw
  · have hlv : lkV s (asY A) = some (fnV 59 A) := by rw [hw2]; rfl
    rw [hlv] at hlk
    unfold fnV at hlk
    simp only [Option.getD_some, Option.isSome_some] at hlk
    have HRw : Hid (Pl.rawP ln r S = R) := Lib.hid (by rw [← HR1.out, if_neg hw0, if_neg hw1, if_pos hw2])
    have HC := Lib.hid (raw_any H A M ln S _ (asY A) r w1 HA1.out HT1.out (Nat.le_trans hM HG1.out.size) (Nat.le_trans hN.pcs (by omega)) (fun t ht => hl.n t (HM1.out t ht)))
    clear HR1 hlv hw2
    go_wp2_with fail
    (with_reducible refine HC.out.mono ?_)
    rintro x w2 hq
    rw [HRw.out] at hq
    have hq1 := LnQ.from HG1.out hq
    rcases R with e | S1
    · obtain ⟨hk, rfl⟩ := hq1
      exact ⟨rfl, hk, rfl⟩
    · obtain ⟨hk, rfl, hz⟩ := hq1
      have HF := Lib.hid (And.intro hk hz)
      clear hk hz hq HC
      go_wp2_with fail
      refine bodyPost_ret (v := .tuple #[]) (results_none rfl _ _ _) rfl ?_
      exact ⟨HF.out.1, rfl, HF.out.2⟩
  by_cases hw3 : s = Pl.wText
  · have hlv : lkV s (asY A) = some (fnV 60 A) := by rw [hw3]; rfl
    rw [hlv] at hlk
    unfold fnV at hlk
    simp only [Option.getD_some, Option.isSome_some] at hlk
    have HRw : Hid (Pl.textP r S = R) := Lib.hid (by rw [← HR1.out, if_neg hw0, if_neg hw1, if_neg hw2, if_pos hw3])
    have HC := Lib.hid (text_any H A M ln S _ (asY A) r w1 HA1.out HT1.out hN.data hN.names (fun t ht => hl.s t (HM1.out t ht)))
    clear HR1 hlv hw3
    go_wp2_with fail
    (with_reducible refine HC.out.mono ?_)
    rintro x w2 hq
    rw [HRw.out] at hq
    have hq1 := LnQ.from HG1.out hq
    rcases R with e | S1
    · obtain ⟨hk, rfl⟩ := hq1
      exact ⟨rfl, hk, rfl⟩
    · obtain ⟨hk, rfl, hz⟩ := hq1
      have HF := Lib.hid (And.intro hk hz)
      clear hk hz hq HC
      go_wp2_with fail
      refine bodyPost_ret (v := .tuple #[]) (results_none rfl _ _ _) rfl ?_
      exact ⟨HF.out.1, rfl, HF.out.2⟩
  by_cases hw4 : s = Pl.wWord
  · have hlv : lkV s (asY A) = some (fnV 61 A) := by rw [hw4]; rfl
    rw [hlv] at hlk
    unfold fnV at hlk
    simp only [Option.getD_some, Option.isSome_some] at hlk
    have HRw : Hid (Pl.wordP4 r S = R) := Lib.hid (by rw [← HR1.out, if_neg hw0, if_neg hw1, if_neg hw2, if_neg hw3, if_pos hw4])
    have HC := Lib.hid (number_any H A M ln S _ (asY A) r w1 HA1.out HT1.out hN.data hN.names (fun t ht => hl.s t (HM1.out t ht)))
    clear HR1 hlv hw4
    go_wp2_with fail
    (with_reducible refine HC.out.mono ?_)
    rintro x w2 hq
    rw [HRw.out] at hq
    have hq1 := LnQ.from HG1.out hq
    rcases R with e | S1
    · obtain ⟨hk, rfl⟩ := hq1
      exact ⟨rfl, hk, rfl⟩
    · obtain ⟨hk, rfl, hz⟩ := hq1
      have HF := Lib.hid (And.intro hk hz)
      clear hk hz hq HC
      go_wp2_with fail
      refine bodyPost_ret (v := .tuple #[]) (results_none rfl _ _ _) rfl ?_
      exact ⟨HF.out.1, rfl, HF.out.2⟩
  by_cases hw5 : s = Pl.wRoom
  · have hlv : lkV s (asY A) = some (fnV 62 A) := by rw [hw5]; rfl
    rw [hlv] at hlk
    unfold fnV at hlk
    simp only [Option.getD_some, Option.isSome_some] at hlk
    have HRw : Hid (Pl.roomP r S = R) := Lib.hid (by rw [← HR1.out, if_neg hw0, if_neg hw1, if_neg hw2, if_neg hw3, if_neg hw4, if_pos hw5])
    have HC := Lib.hid (room_any H A M ln S _ (asY A) r w1 HA1.out HT1.out hN.rooms hN.names (fun t ht => hl.s t (HM1.out t ht)))
    clear HR1 hlv hw5
    go_wp2_with fail
    (with_reducible refine HC.out.mono ?_)
    rintro x w2 hq
    rw [HRw.out] at hq
    have hq1 := LnQ.from HG1.out hq
    rcases R with e | S1
    · obtain ⟨hk, rfl⟩ := hq1
      exact ⟨rfl, hk, rfl⟩
    · obtain ⟨hk, rfl, hz⟩ := hq1
      have HF := Lib.hid (And.intro hk hz)
      clear hk hz hq HC
      go_wp2_with fail
      refine bodyPost_ret (v := .tuple #[]) (results_none rfl _ _ _) rfl ?_
      exact ⟨HF.out.1, rfl, HF.out.2⟩
  have hlv : lkV s (asY A) = none := by
    simp only [asY, lkV]
    rw [if_neg (fun e => hw0 e.symm), if_neg (fun e => hw1 e.symm), if_neg (fun e => hw2 e.symm), if_neg (fun e => hw3 e.symm), if_neg (fun e => hw4 e.symm), if_neg (fun e => hw5 e.symm)]
  rw [hlv] at hlk
  simp only [Option.getD_none, Option.isSome_none] at hlk
  have HRw : Hid ((match Pl.opN s with | none => .error 3 | some op => Pl.insP ln op r S) = R) := Lib.hid (by rw [← HR1.out, if_neg hw0, if_neg hw1, if_neg hw2, if_neg hw3, if_neg hw4, if_neg hw5])
  clear hw0 hw1 hw2 hw3 hw4 hw5 hlv HR1
  have HO1 := Lib.hid (op_any s (by omega) w1 (hO.line HG1.out (Nat.lt_trans hg.1 HA.out.lo) (by omega) (by omega)))
  have hop := fun op (h : Pl.opN s = some op) => op_le h
  obtain ⟨E, hE⟩ : ∃ E, Pl.opN s = E := ⟨_, rfl⟩
  rw [hE] at HO1 HRw hop
  clear hE
  rcases E with _ | op
  · have hr : R = .error 3 := HRw.out.symm
    unfold opV at HO1
    go_wp2_with fail
    (with_reducible refine HO1.out.mono ?_)
    rintro x w2 ⟨rfl, rfl⟩
    go_wp2_with fail
    (with_reducible refine (throw_any A ln _ 3 3 rfl _ HA1.out.box).mono ?_)
    rintro x w3 ⟨rfl, rfl⟩
    subst hr
    exact ⟨rfl, HG1.out, rfl⟩
  · have hop2 := hop op rfl
    rw [opNs_len] at hop2
    have ho1 := hop2.1
    have ho2 : op ≤ 31 := by omega
    clear hop hop2
    have HC := Lib.hid (instruction_any H A M ln op S _ (asY A) r w1 HA1.out HT1.out (Nat.le_trans hM HG1.out.size) hN.pcs ho1 ho2)
    have HRx : Hid (Pl.insP ln op r S = R) := Lib.hid HRw.out
    have hV : opV (some op) = .tuple #[.int .u8 (op : Int), .bool true] := rfl
    rw [hV] at HO1
    clear HRw hV
    go_wp2_with fail
    (with_reducible refine HO1.out.mono ?_)
    rintro x w2 ⟨rfl, rfl⟩
    go_wp2_with fail
    (with_reducible refine HC.out.mono ?_)
    rintro x w2 hq
    rw [HRx.out] at hq
    have hq1 := LnQ.from HG1.out hq
    rcases R with e | S1
    · obtain ⟨hk, rfl⟩ := hq1
      exact ⟨rfl, hk, rfl⟩
    · obtain ⟨hk, rfl, hz⟩ := hq1
      have HF := Lib.hid (And.intro hk hz)
      clear hk hz hq HC
      go_wp2_with fail
      refine bodyPost_end (results_none rfl _ _ _) rfl ?_
      exact ⟨HF.out.1, rfl, HF.out.2⟩
set_option maxRecDepth 100000 in
set_option maxHeartbeats 2000000 in
theorem take_two0 (H A M ln : Nat) (S : Pl.St) (Z : AsV) (l : List Pl.Tk) (w : World) (hA : AsAt w H A ln S Z (asY A)) (hT : TkAt w A M Z.r l) (hM : M ≤ w.heap.size) (hN : StOk S) (hl : TksOk l) (hO : OpTab w) (hg : 0 < A ∧ 0 < Z.n) (a b : Pl.Tk) (h0 : l = [a, b]) (ha : a.k ≠ 0) :
    Calls Tryz.prog 28 #[.pointer (some ⟨A, 0, none⟩)] w (LnQ w H A ln Z (asY A) (Pl.lineP ln l S)) := by
  obtain ⟨q, n, c, hZ, hn, hnc, hR, hq⟩ := hT.is_
  have h1 := hA.box.c1
  rw [hZ] at h1
  have hAl := hA.box.lt
  have HA := Lib.hid hA
  have HT := Lib.hid hT
  obtain ⟨R, hRr⟩ : ∃ R, Pl.lineP ln l S = R := ⟨_, rfl⟩
  rw [hRr]
  have HR := Lib.hid hRr
  have hR' := hR
  have hn' := hn
  rw [h0] at hR' hn'
  obtain ⟨B, off, rfl, hb0, k0, k1, k2, hR1⟩ := hR'.tk hn'.symm rfl
  obtain ⟨B', off', he, hb1, m0, m1, m2, hR2⟩ := Rd.tk (l := [b]) (n := 1) (by simpa using hR1) rfl rfl
  injection he with he
  injection he with e1 e2 e3
  subst e1 e2
  simp only [List.length_cons, List.length_nil] at hn'
  subst hn'
  have hk0 : ((a.k : Int) == 0) = false := by simp; omega
  clear ha
  clear hR' hR1 hR2 k1 k2 m1 m2 h0 hn e3
  clear hA hT hZ hq hR hRr
  have HC := Lib.hid (want_any A M ln _ 0 0 rfl l w HA.out.box HT.out)
  go_enter Tryz.func28, Tryz.ntmps28
  go_wp2_with fail
  (with_reducible refine HC.out.mono ?_)
  rintro x w1 ⟨hg1, h⟩
  have hr := HR.out
  unfold Pl.lineP at hr
  rcases hE : Pl.wantP 0 l with e | ⟨f, r⟩
  · rw [hE] at h hr
    obtain rfl := h
    subst hr
    exact ⟨rfl, LnK.box hg1 HA.out.hi, rfl⟩
  rw [hE] at h hr
  obtain ⟨rfl, v, hB1, hT1⟩ := h
  have HG1 := Lib.hid (LnK.box (N := Z.n) hg1 HA.out.hi)
  have HA1 := Lib.hid (HA.out.step hg1 hB1)
  have HT1 := Lib.hid hT1
  have HM1 : Hid (∀ x ∈ r, x ∈ l) := Lib.hid (want_mem hE).2
  have hfs := (hl.s f (want_mem hE).1).1
  have HR1 : Hid ((if f.s = Pl.wLi then Pl.liP ln r S else if f.s = Pl.wLa then Pl.laP ln r S else if f.s = Pl.wRaw then Pl.rawP ln r S else if f.s = Pl.wText then Pl.textP r S else if f.s = Pl.wWord then Pl.wordP4 r S else if f.s = Pl.wRoom then Pl.roomP r S else match Pl.opN f.s with | none => .error 3 | some op => Pl.insP ln op r S) = R) := Lib.hid hr
  have h7 := HA1.out.box.c7
  have hAl1 := HA1.out.box.lt
  have hlk := HA1.out.ways.look_ok Tryz.underlying62 (zero_fn w1) (m := f.s) (by omega)
  rw [show tkV f = .agg #[.int .i64 (f.k : Int), .string ⟨f.s.toArray⟩, .int .i64 f.n] from rfl]
  obtain ⟨s, hs⟩ : ∃ s, f.s = s := ⟨_, rfl⟩
  rw [hs] at HR1 hlk hfs ⊢
  clear hg1 hE hB1 hT1 hr HC hs h1 hAl k0 m0
  by_cases hw0 : s = Pl.wLi
  · have hlv : lkV s (asY A) = some (fnV 57 A) := by rw [hw0]; rfl
    rw [hlv] at hlk
    unfold fnV at hlk
    simp only [Option.getD_some, Option.isSome_some] at hlk
    have HRw : Hid (Pl.liP ln r S = R) := Lib.hid (by rw [← HR1.out, if_pos hw0])
    have HC := Lib.hid (li_any H A M ln S _ (asY A) r w1 HA1.out HT1.out hN.pcs)
    clear HR1 hlv hw0
    go_wp2_with fail
    (with_reducible refine HC.out.mono ?_)
    rintro x w2 hq
    rw [HRw.out] at hq
    have hq1 := LnQ.from HG1.out hq
    rcases R with e | S1
    · obtain ⟨hk, rfl⟩ := hq1
      exact ⟨rfl, hk, rfl⟩
    · obtain ⟨hk, rfl, hz⟩ := hq1
      have HF := Lib.hid (And.intro hk hz)
      clear hk hz hq HC
      go_wp2_with fail
      refine bodyPost_ret (v := .tuple #[]) (results_none rfl _ _ _) rfl ?_
      exact ⟨HF.out.1, rfl, HF.out.2⟩
  by_cases hw1 : s = Pl.wLa
  · have hlv : lkV s (asY A) = some (fnV 58 A) := by rw [hw1]; rfl
    rw [hlv] at hlk
    unfold fnV at hlk
    simp only [Option.getD_some, Option.isSome_some] at hlk
    have HRw : Hid (Pl.laP ln r S = R) := Lib.hid (by rw [← HR1.out, if_neg hw0, if_pos hw1])
    have HC := Lib.hid (la_any H A M ln S _ (asY A) r w1 HA1.out HT1.out hN.pcs)
    clear HR1 hlv hw1
    go_wp2_with fail
    (with_reducible refine HC.out.mono ?_)
    rintro x w2 hq
    rw [HRw.out] at hq
    have hq1 := LnQ.from HG1.out hq
    rcases R with e | S1
    · obtain ⟨hk, rfl⟩ := hq1
      exact ⟨rfl, hk, rfl⟩
    · obtain ⟨hk, rfl, hz⟩ := hq1
      have HF := Lib.hid (And.intro hk hz)
      clear hk hz hq HC
      go_wp2_with fail
      refine bodyPost_ret (v := .tuple #[]) (results_none rfl _ _ _) rfl ?_
      exact ⟨HF.out.1, rfl, HF.out.2⟩
  by_cases hw2 : s = Pl.wRaw
  · have hlv : lkV s (asY A) = some (fnV 59 A) := by rw [hw2]; rfl
    rw [hlv] at hlk
    unfold fnV at hlk
    simp only [Option.getD_some, Option.isSome_some] at hlk
    have HRw : Hid (Pl.rawP ln r S = R) := Lib.hid (by rw [← HR1.out, if_neg hw0, if_neg hw1, if_pos hw2])
    have HC := Lib.hid (raw_any H A M ln S _ (asY A) r w1 HA1.out HT1.out (Nat.le_trans hM HG1.out.size) (Nat.le_trans hN.pcs (by omega)) (fun t ht => hl.n t (HM1.out t ht)))
    clear HR1 hlv hw2
    go_wp2_with fail
    (with_reducible refine HC.out.mono ?_)
    rintro x w2 hq
    rw [HRw.out] at hq
    have hq1 := LnQ.from HG1.out hq
    rcases R with e | S1
    · obtain ⟨hk, rfl⟩ := hq1
      exact ⟨rfl, hk, rfl⟩
    · obtain ⟨hk, rfl, hz⟩ := hq1
      have HF := Lib.hid (And.intro hk hz)
      clear hk hz hq HC
      go_wp2_with fail
      refine bodyPost_ret (v := .tuple #[]) (results_none rfl _ _ _) rfl ?_
      exact ⟨HF.out.1, rfl, HF.out.2⟩
  by_cases hw3 : s = Pl.wText
  · have hlv : lkV s (asY A) = some (fnV 60 A) := by rw [hw3]; rfl
    rw [hlv] at hlk
    unfold fnV at hlk
    simp only [Option.getD_some, Option.isSome_some] at hlk
    have HRw : Hid (Pl.textP r S = R) := Lib.hid (by rw [← HR1.out, if_neg hw0, if_neg hw1, if_neg hw2, if_pos hw3])
    have HC := Lib.hid (text_any H A M ln S _ (asY A) r w1 HA1.out HT1.out hN.data hN.names (fun t ht => hl.s t (HM1.out t ht)))
    clear HR1 hlv hw3
    go_wp2_with fail
    (with_reducible refine HC.out.mono ?_)
    rintro x w2 hq
    rw [HRw.out] at hq
    have hq1 := LnQ.from HG1.out hq
    rcases R with e | S1
    · obtain ⟨hk, rfl⟩ := hq1
      exact ⟨rfl, hk, rfl⟩
    · obtain ⟨hk, rfl, hz⟩ := hq1
      have HF := Lib.hid (And.intro hk hz)
      clear hk hz hq HC
      go_wp2_with fail
      refine bodyPost_ret (v := .tuple #[]) (results_none rfl _ _ _) rfl ?_
      exact ⟨HF.out.1, rfl, HF.out.2⟩
  by_cases hw4 : s = Pl.wWord
  · have hlv : lkV s (asY A) = some (fnV 61 A) := by rw [hw4]; rfl
    rw [hlv] at hlk
    unfold fnV at hlk
    simp only [Option.getD_some, Option.isSome_some] at hlk
    have HRw : Hid (Pl.wordP4 r S = R) := Lib.hid (by rw [← HR1.out, if_neg hw0, if_neg hw1, if_neg hw2, if_neg hw3, if_pos hw4])
    have HC := Lib.hid (number_any H A M ln S _ (asY A) r w1 HA1.out HT1.out hN.data hN.names (fun t ht => hl.s t (HM1.out t ht)))
    clear HR1 hlv hw4
    go_wp2_with fail
    (with_reducible refine HC.out.mono ?_)
    rintro x w2 hq
    rw [HRw.out] at hq
    have hq1 := LnQ.from HG1.out hq
    rcases R with e | S1
    · obtain ⟨hk, rfl⟩ := hq1
      exact ⟨rfl, hk, rfl⟩
    · obtain ⟨hk, rfl, hz⟩ := hq1
      have HF := Lib.hid (And.intro hk hz)
      clear hk hz hq HC
      go_wp2_with fail
      refine bodyPost_ret (v := .tuple #[]) (results_none rfl _ _ _) rfl ?_
      exact ⟨HF.out.1, rfl, HF.out.2⟩
  by_cases hw5 : s = Pl.wRoom
  · have hlv : lkV s (asY A) = some (fnV 62 A) := by rw [hw5]; rfl
    rw [hlv] at hlk
    unfold fnV at hlk
    simp only [Option.getD_some, Option.isSome_some] at hlk
    have HRw : Hid (Pl.roomP r S = R) := Lib.hid (by rw [← HR1.out, if_neg hw0, if_neg hw1, if_neg hw2, if_neg hw3, if_neg hw4, if_pos hw5])
    have HC := Lib.hid (room_any H A M ln S _ (asY A) r w1 HA1.out HT1.out hN.rooms hN.names (fun t ht => hl.s t (HM1.out t ht)))
    clear HR1 hlv hw5
    go_wp2_with fail
    (with_reducible refine HC.out.mono ?_)
    rintro x w2 hq
    rw [HRw.out] at hq
    have hq1 := LnQ.from HG1.out hq
    rcases R with e | S1
    · obtain ⟨hk, rfl⟩ := hq1
      exact ⟨rfl, hk, rfl⟩
    · obtain ⟨hk, rfl, hz⟩ := hq1
      have HF := Lib.hid (And.intro hk hz)
      clear hk hz hq HC
      go_wp2_with fail
      refine bodyPost_ret (v := .tuple #[]) (results_none rfl _ _ _) rfl ?_
      exact ⟨HF.out.1, rfl, HF.out.2⟩
  have hlv : lkV s (asY A) = none := by
    simp only [asY, lkV]
    rw [if_neg (fun e => hw0 e.symm), if_neg (fun e => hw1 e.symm), if_neg (fun e => hw2 e.symm), if_neg (fun e => hw3 e.symm), if_neg (fun e => hw4 e.symm), if_neg (fun e => hw5 e.symm)]
  rw [hlv] at hlk
  simp only [Option.getD_none, Option.isSome_none] at hlk
  have HRw : Hid ((match Pl.opN s with | none => .error 3 | some op => Pl.insP ln op r S) = R) := Lib.hid (by rw [← HR1.out, if_neg hw0, if_neg hw1, if_neg hw2, if_neg hw3, if_neg hw4, if_neg hw5])
  clear hw0 hw1 hw2 hw3 hw4 hw5 hlv HR1
  have HO1 := Lib.hid (op_any s (by omega) w1 (hO.line HG1.out (Nat.lt_trans hg.1 HA.out.lo) (by omega) (by omega)))
  have hop := fun op (h : Pl.opN s = some op) => op_le h
  obtain ⟨E, hE⟩ : ∃ E, Pl.opN s = E := ⟨_, rfl⟩
  rw [hE] at HO1 HRw hop
  clear hE
  rcases E with _ | op
  · have hr : R = .error 3 := HRw.out.symm
    unfold opV at HO1
    go_wp2_with fail
    (with_reducible refine HO1.out.mono ?_)
    rintro x w2 ⟨rfl, rfl⟩
    go_wp2_with fail
    (with_reducible refine (throw_any A ln _ 3 3 rfl _ HA1.out.box).mono ?_)
    rintro x w3 ⟨rfl, rfl⟩
    subst hr
    exact ⟨rfl, HG1.out, rfl⟩
  · have hop2 := hop op rfl
    rw [opNs_len] at hop2
    have ho1 := hop2.1
    have ho2 : op ≤ 31 := by omega
    clear hop hop2
    have HC := Lib.hid (instruction_any H A M ln op S _ (asY A) r w1 HA1.out HT1.out (Nat.le_trans hM HG1.out.size) hN.pcs ho1 ho2)
    have HRx : Hid (Pl.insP ln op r S = R) := Lib.hid HRw.out
    have hV : opV (some op) = .tuple #[.int .u8 (op : Int), .bool true] := rfl
    rw [hV] at HO1
    clear HRw hV
    go_wp2_with fail
    (with_reducible refine HO1.out.mono ?_)
    rintro x w2 ⟨rfl, rfl⟩
    go_wp2_with fail
    (with_reducible refine HC.out.mono ?_)
    rintro x w2 hq
    rw [HRx.out] at hq
    have hq1 := LnQ.from HG1.out hq
    rcases R with e | S1
    · obtain ⟨hk, rfl⟩ := hq1
      exact ⟨rfl, hk, rfl⟩
    · obtain ⟨hk, rfl, hz⟩ := hq1
      have HF := Lib.hid (And.intro hk hz)
      clear hk hz hq HC
      go_wp2_with fail
      refine bodyPost_end (results_none rfl _ _ _) rfl ?_
      exact ⟨HF.out.1, rfl, HF.out.2⟩
set_option maxRecDepth 100000 in
set_option maxHeartbeats 2000000 in
theorem take_two1 (H A M ln : Nat) (S : Pl.St) (Z : AsV) (l : List Pl.Tk) (w : World) (hA : AsAt w H A ln S Z (asY A)) (hT : TkAt w A M Z.r l) (hM : M ≤ w.heap.size) (hN : StOk S) (hl : TksOk l) (hO : OpTab w) (hg : 0 < A ∧ 0 < Z.n) (a b : Pl.Tk) (h0 : l = [a, b]) (ha : a.k = 0) (hb : b.k ≠ 3) :
    Calls Tryz.prog 28 #[.pointer (some ⟨A, 0, none⟩)] w (LnQ w H A ln Z (asY A) (Pl.lineP ln l S)) := by
  obtain ⟨q, n, c, hZ, hn, hnc, hR, hq⟩ := hT.is_
  have h1 := hA.box.c1
  rw [hZ] at h1
  have hAl := hA.box.lt
  have HA := Lib.hid hA
  have HT := Lib.hid hT
  obtain ⟨R, hRr⟩ : ∃ R, Pl.lineP ln l S = R := ⟨_, rfl⟩
  rw [hRr]
  have HR := Lib.hid hRr
  have hR' := hR
  have hn' := hn
  rw [h0] at hR' hn'
  obtain ⟨B, off, rfl, hb0, k0, k1, k2, hR1⟩ := hR'.tk hn'.symm rfl
  obtain ⟨B', off', he, hb1, m0, m1, m2, hR2⟩ := Rd.tk (l := [b]) (n := 1) (by simpa using hR1) rfl rfl
  injection he with he
  injection he with e1 e2 e3
  subst e1 e2
  simp only [List.length_cons, List.length_nil] at hn'
  subst hn'
  have hk0 : ((a.k : Int) == 0) = true := by simp; omega
  have hm0 : ((b.k : Int) == 3) = false := by simp; omega
  clear ha hb
  clear hR' hR1 hR2 k1 k2 m1 m2 h0 hn e3
  clear hA hT hZ hq hR hRr
  have HC := Lib.hid (want_any A M ln _ 0 0 rfl l w HA.out.box HT.out)
  go_enter Tryz.func28, Tryz.ntmps28
  go_wp2_with fail
  (with_reducible refine HC.out.mono ?_)
  rintro x w1 ⟨hg1, h⟩
  have hr := HR.out
  unfold Pl.lineP at hr
  rcases hE : Pl.wantP 0 l with e | ⟨f, r⟩
  · rw [hE] at h hr
    obtain rfl := h
    subst hr
    exact ⟨rfl, LnK.box hg1 HA.out.hi, rfl⟩
  rw [hE] at h hr
  obtain ⟨rfl, v, hB1, hT1⟩ := h
  have HG1 := Lib.hid (LnK.box (N := Z.n) hg1 HA.out.hi)
  have HA1 := Lib.hid (HA.out.step hg1 hB1)
  have HT1 := Lib.hid hT1
  have HM1 : Hid (∀ x ∈ r, x ∈ l) := Lib.hid (want_mem hE).2
  have hfs := (hl.s f (want_mem hE).1).1
  have HR1 : Hid ((if f.s = Pl.wLi then Pl.liP ln r S else if f.s = Pl.wLa then Pl.laP ln r S else if f.s = Pl.wRaw then Pl.rawP ln r S else if f.s = Pl.wText then Pl.textP r S else if f.s = Pl.wWord then Pl.wordP4 r S else if f.s = Pl.wRoom then Pl.roomP r S else match Pl.opN f.s with | none => .error 3 | some op => Pl.insP ln op r S) = R) := Lib.hid hr
  have h7 := HA1.out.box.c7
  have hAl1 := HA1.out.box.lt
  have hlk := HA1.out.ways.look_ok Tryz.underlying62 (zero_fn w1) (m := f.s) (by omega)
  rw [show tkV f = .agg #[.int .i64 (f.k : Int), .string ⟨f.s.toArray⟩, .int .i64 f.n] from rfl]
  obtain ⟨s, hs⟩ : ∃ s, f.s = s := ⟨_, rfl⟩
  rw [hs] at HR1 hlk hfs ⊢
  clear hg1 hE hB1 hT1 hr HC hs h1 hAl k0 m0
  by_cases hw0 : s = Pl.wLi
  · have hlv : lkV s (asY A) = some (fnV 57 A) := by rw [hw0]; rfl
    rw [hlv] at hlk
    unfold fnV at hlk
    simp only [Option.getD_some, Option.isSome_some] at hlk
    have HRw : Hid (Pl.liP ln r S = R) := Lib.hid (by rw [← HR1.out, if_pos hw0])
    have HC := Lib.hid (li_any H A M ln S _ (asY A) r w1 HA1.out HT1.out hN.pcs)
    clear HR1 hlv hw0
    go_wp2_with fail
    (with_reducible refine HC.out.mono ?_)
    rintro x w2 hq
    rw [HRw.out] at hq
    have hq1 := LnQ.from HG1.out hq
    rcases R with e | S1
    · obtain ⟨hk, rfl⟩ := hq1
      exact ⟨rfl, hk, rfl⟩
    · obtain ⟨hk, rfl, hz⟩ := hq1
      have HF := Lib.hid (And.intro hk hz)
      clear hk hz hq HC
      go_wp2_with fail
      refine bodyPost_ret (v := .tuple #[]) (results_none rfl _ _ _) rfl ?_
      exact ⟨HF.out.1, rfl, HF.out.2⟩
  by_cases hw1 : s = Pl.wLa
  · have hlv : lkV s (asY A) = some (fnV 58 A) := by rw [hw1]; rfl
    rw [hlv] at hlk
    unfold fnV at hlk
    simp only [Option.getD_some, Option.isSome_some] at hlk
    have HRw : Hid (Pl.laP ln r S = R) := Lib.hid (by rw [← HR1.out, if_neg hw0, if_pos hw1])
    have HC := Lib.hid (la_any H A M ln S _ (asY A) r w1 HA1.out HT1.out hN.pcs)
    clear HR1 hlv hw1
    go_wp2_with fail
    (with_reducible refine HC.out.mono ?_)
    rintro x w2 hq
    rw [HRw.out] at hq
    have hq1 := LnQ.from HG1.out hq
    rcases R with e | S1
    · obtain ⟨hk, rfl⟩ := hq1
      exact ⟨rfl, hk, rfl⟩
    · obtain ⟨hk, rfl, hz⟩ := hq1
      have HF := Lib.hid (And.intro hk hz)
      clear hk hz hq HC
      go_wp2_with fail
      refine bodyPost_ret (v := .tuple #[]) (results_none rfl _ _ _) rfl ?_
      exact ⟨HF.out.1, rfl, HF.out.2⟩
  by_cases hw2 : s = Pl.wRaw
  · have hlv : lkV s (asY A) = some (fnV 59 A) := by rw [hw2]; rfl
    rw [hlv] at hlk
    unfold fnV at hlk
    simp only [Option.getD_some, Option.isSome_some] at hlk
    have HRw : Hid (Pl.rawP ln r S = R) := Lib.hid (by rw [← HR1.out, if_neg hw0, if_neg hw1, if_pos hw2])
    have HC := Lib.hid (raw_any H A M ln S _ (asY A) r w1 HA1.out HT1.out (Nat.le_trans hM HG1.out.size) (Nat.le_trans hN.pcs (by omega)) (fun t ht => hl.n t (HM1.out t ht)))
    clear HR1 hlv hw2
    go_wp2_with fail
    (with_reducible refine HC.out.mono ?_)
    rintro x w2 hq
    rw [HRw.out] at hq
    have hq1 := LnQ.from HG1.out hq
    rcases R with e | S1
    · obtain ⟨hk, rfl⟩ := hq1
      exact ⟨rfl, hk, rfl⟩
    · obtain ⟨hk, rfl, hz⟩ := hq1
      have HF := Lib.hid (And.intro hk hz)
      clear hk hz hq HC
      go_wp2_with fail
      refine bodyPost_ret (v := .tuple #[]) (results_none rfl _ _ _) rfl ?_
      exact ⟨HF.out.1, rfl, HF.out.2⟩
  by_cases hw3 : s = Pl.wText
  · have hlv : lkV s (asY A) = some (fnV 60 A) := by rw [hw3]; rfl
    rw [hlv] at hlk
    unfold fnV at hlk
    simp only [Option.getD_some, Option.isSome_some] at hlk
    have HRw : Hid (Pl.textP r S = R) := Lib.hid (by rw [← HR1.out, if_neg hw0, if_neg hw1, if_neg hw2, if_pos hw3])
    have HC := Lib.hid (text_any H A M ln S _ (asY A) r w1 HA1.out HT1.out hN.data hN.names (fun t ht => hl.s t (HM1.out t ht)))
    clear HR1 hlv hw3
    go_wp2_with fail
    (with_reducible refine HC.out.mono ?_)
    rintro x w2 hq
    rw [HRw.out] at hq
    have hq1 := LnQ.from HG1.out hq
    rcases R with e | S1
    · obtain ⟨hk, rfl⟩ := hq1
      exact ⟨rfl, hk, rfl⟩
    · obtain ⟨hk, rfl, hz⟩ := hq1
      have HF := Lib.hid (And.intro hk hz)
      clear hk hz hq HC
      go_wp2_with fail
      refine bodyPost_ret (v := .tuple #[]) (results_none rfl _ _ _) rfl ?_
      exact ⟨HF.out.1, rfl, HF.out.2⟩
  by_cases hw4 : s = Pl.wWord
  · have hlv : lkV s (asY A) = some (fnV 61 A) := by rw [hw4]; rfl
    rw [hlv] at hlk
    unfold fnV at hlk
    simp only [Option.getD_some, Option.isSome_some] at hlk
    have HRw : Hid (Pl.wordP4 r S = R) := Lib.hid (by rw [← HR1.out, if_neg hw0, if_neg hw1, if_neg hw2, if_neg hw3, if_pos hw4])
    have HC := Lib.hid (number_any H A M ln S _ (asY A) r w1 HA1.out HT1.out hN.data hN.names (fun t ht => hl.s t (HM1.out t ht)))
    clear HR1 hlv hw4
    go_wp2_with fail
    (with_reducible refine HC.out.mono ?_)
    rintro x w2 hq
    rw [HRw.out] at hq
    have hq1 := LnQ.from HG1.out hq
    rcases R with e | S1
    · obtain ⟨hk, rfl⟩ := hq1
      exact ⟨rfl, hk, rfl⟩
    · obtain ⟨hk, rfl, hz⟩ := hq1
      have HF := Lib.hid (And.intro hk hz)
      clear hk hz hq HC
      go_wp2_with fail
      refine bodyPost_ret (v := .tuple #[]) (results_none rfl _ _ _) rfl ?_
      exact ⟨HF.out.1, rfl, HF.out.2⟩
  by_cases hw5 : s = Pl.wRoom
  · have hlv : lkV s (asY A) = some (fnV 62 A) := by rw [hw5]; rfl
    rw [hlv] at hlk
    unfold fnV at hlk
    simp only [Option.getD_some, Option.isSome_some] at hlk
    have HRw : Hid (Pl.roomP r S = R) := Lib.hid (by rw [← HR1.out, if_neg hw0, if_neg hw1, if_neg hw2, if_neg hw3, if_neg hw4, if_pos hw5])
    have HC := Lib.hid (room_any H A M ln S _ (asY A) r w1 HA1.out HT1.out hN.rooms hN.names (fun t ht => hl.s t (HM1.out t ht)))
    clear HR1 hlv hw5
    go_wp2_with fail
    (with_reducible refine HC.out.mono ?_)
    rintro x w2 hq
    rw [HRw.out] at hq
    have hq1 := LnQ.from HG1.out hq
    rcases R with e | S1
    · obtain ⟨hk, rfl⟩ := hq1
      exact ⟨rfl, hk, rfl⟩
    · obtain ⟨hk, rfl, hz⟩ := hq1
      have HF := Lib.hid (And.intro hk hz)
      clear hk hz hq HC
      go_wp2_with fail
      refine bodyPost_ret (v := .tuple #[]) (results_none rfl _ _ _) rfl ?_
      exact ⟨HF.out.1, rfl, HF.out.2⟩
  have hlv : lkV s (asY A) = none := by
    simp only [asY, lkV]
    rw [if_neg (fun e => hw0 e.symm), if_neg (fun e => hw1 e.symm), if_neg (fun e => hw2 e.symm), if_neg (fun e => hw3 e.symm), if_neg (fun e => hw4 e.symm), if_neg (fun e => hw5 e.symm)]
  rw [hlv] at hlk
  simp only [Option.getD_none, Option.isSome_none] at hlk
  have HRw : Hid ((match Pl.opN s with | none => .error 3 | some op => Pl.insP ln op r S) = R) := Lib.hid (by rw [← HR1.out, if_neg hw0, if_neg hw1, if_neg hw2, if_neg hw3, if_neg hw4, if_neg hw5])
  clear hw0 hw1 hw2 hw3 hw4 hw5 hlv HR1
  have HO1 := Lib.hid (op_any s (by omega) w1 (hO.line HG1.out (Nat.lt_trans hg.1 HA.out.lo) (by omega) (by omega)))
  have hop := fun op (h : Pl.opN s = some op) => op_le h
  obtain ⟨E, hE⟩ : ∃ E, Pl.opN s = E := ⟨_, rfl⟩
  rw [hE] at HO1 HRw hop
  clear hE
  rcases E with _ | op
  · have hr : R = .error 3 := HRw.out.symm
    unfold opV at HO1
    go_wp2_with fail
    (with_reducible refine HO1.out.mono ?_)
    rintro x w2 ⟨rfl, rfl⟩
    go_wp2_with fail
    (with_reducible refine (throw_any A ln _ 3 3 rfl _ HA1.out.box).mono ?_)
    rintro x w3 ⟨rfl, rfl⟩
    subst hr
    exact ⟨rfl, HG1.out, rfl⟩
  · have hop2 := hop op rfl
    rw [opNs_len] at hop2
    have ho1 := hop2.1
    have ho2 : op ≤ 31 := by omega
    clear hop hop2
    have HC := Lib.hid (instruction_any H A M ln op S _ (asY A) r w1 HA1.out HT1.out (Nat.le_trans hM HG1.out.size) hN.pcs ho1 ho2)
    have HRx : Hid (Pl.insP ln op r S = R) := Lib.hid HRw.out
    have hV : opV (some op) = .tuple #[.int .u8 (op : Int), .bool true] := rfl
    rw [hV] at HO1
    clear HRw hV
    go_wp2_with fail
    (with_reducible refine HO1.out.mono ?_)
    rintro x w2 ⟨rfl, rfl⟩
    go_wp2_with fail
    (with_reducible refine HC.out.mono ?_)
    rintro x w2 hq
    rw [HRx.out] at hq
    have hq1 := LnQ.from HG1.out hq
    rcases R with e | S1
    · obtain ⟨hk, rfl⟩ := hq1
      exact ⟨rfl, hk, rfl⟩
    · obtain ⟨hk, rfl, hz⟩ := hq1
      have HF := Lib.hid (And.intro hk hz)
      clear hk hz hq HC
      go_wp2_with fail
      refine bodyPost_end (results_none rfl _ _ _) rfl ?_
      exact ⟨HF.out.1, rfl, HF.out.2⟩
theorem take_any (H A M ln : Nat) (S : Pl.St) (Z : AsV) (l : List Pl.Tk) (w : World) (hA : AsAt w H A ln S Z (asY A)) (hT : TkAt w A M Z.r l) (hM : M ≤ w.heap.size) (hN : StOk S) (hl : TksOk l) (hO : OpTab w) (hg : 0 < A ∧ 0 < Z.n) :
    Calls Tryz.prog 28 #[.pointer (some ⟨A, 0, none⟩)] w (LnQ w H A ln Z (asY A) (Pl.takeP ln l S)) := by
  rcases l with _ | ⟨a, _ | ⟨b, _ | ⟨d, r⟩⟩⟩
  · exact take_nil H A M ln S Z _ w hA hT hM hN hl hO hg rfl
  · exact take_far H A M ln S Z _ w hA hT hM hN hl hO hg (by simp) (by simp)
  · by_cases h : a.k = 0 ∧ b.k = 3
    · have e : Pl.takeP ln [a, b] S = Pl.nameP a.s 0 S.pcs.length S := by show (if _ then _ else _) = _; rw [if_pos h]
      rw [e]
      exact take_name H A M ln S Z _ w hA hT hM hN hl hO hg a b rfl h.1 h.2
    · have e : Pl.takeP ln [a, b] S = Pl.lineP ln [a, b] S := by show (if _ then _ else _) = _; rw [if_neg h]
      rw [e]
      by_cases ha : a.k = 0
      · exact take_two1 H A M ln S Z _ w hA hT hM hN hl hO hg a b rfl ha (fun hb => h ⟨ha, hb⟩)
      · exact take_two0 H A M ln S Z _ w hA hT hM hN hl hO hg a b rfl ha
  · exact take_far H A M ln S Z _ w hA hT hM hN hl hO hg (by simp) (by simp)
end Go.Proofs.YtmmnkoeajdeldaaGreatDoor
