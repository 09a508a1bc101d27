/- The assembler gives the rooms their addresses. The assembler's addresses, and the word of a piece. The assembler: what a name stands for. The assembler: the word of a piece. -/
import Derived.Test.YtmmnkoeajdeldaaGreatDoorAsX5
namespace Go.Proofs.YtmmnkoeajdeldaaGreatDoor
open Go.RowKit Go.Maps Go.WideMaps
set_option linter.unusedVariables false
set_option linter.unusedSimpArgs false
attribute [local go_sem] ba_get ba_cut ba_add fld_k fld_s fld_n
theorem AsAt.stepG {w w' : World} {H A ln ln' : Nat} {S : Pl.St} {Z Z' : AsV} {Y : List (List UInt8 × Value)} (h : AsAt w H A ln S Z Y) (hg : w.grownBy w' (some A)) (hb : AsB w' A ln' Z') (e1 : Z'.p = Z.p) (e2 : Z'.d = Z.d) (e3 : Z'.o = Z.o) (e4 : Z'.n = Z.n) (e5 : Z'.y = Z.y) : AsAt w' H A ln' S Z' Y := by
  have ho : ∀ (e : TypeId), e ≠ 64 → ∀ cur, w.heap[A]? ≠ some (.cells cur e (0, 0)) := fun e he cur hc => by
    rw [h.box.at_] at hc
    injection hc with hc
    injection hc with _ hc
    exact he hc.symm
  have hm : ∀ {M : Nat} {l : List (List UInt8 × Value)} {c : Nat}, MapV w M l c → some M ≠ some A := fun hM e => by
    obtain ⟨es, k, he⟩ := hM.at_
    injection e with e
    subst e
    rw [h.box.at_] at he
    injection he with he
    injection he
  exact ⟨hb, h.lo, Nat.le_trans h.hi hg.size, by rw [e1]; exact own_type h.pcs hg (ho _ (by decide)), by rw [e2]; exact own_type h.data hg (ho _ (by decide)), by rw [e3]; exact own_type h.rooms hg (ho _ (by decide)), by rw [e4]; exact h.names.grown hg (hm h.names), by rw [e4]; exact h.nlo, by rw [e5]; exact h.ways.grown hg (hm h.ways), by rw [e5]; exact h.ylo, by rw [e4, e5]; exact h.ny⟩
theorem up_le (n k : Nat) (hk : 0 < k) : n ≤ Pl.up n k ∧ Pl.up n k ≤ n + k := by
  unfold Pl.up
  have h1 := Nat.div_add_mod (n + k - 1) k
  have h2 := Nat.mod_lt (n + k - 1) hk
  rw [Nat.mul_comm] at h1
  omega
theorem dataAt_le {S : Pl.St} (h : StOk S) : Pl.dataAt S ≤ 4000000 := by
  have := up_le (4 * S.pcs.length) 128 (by decide)
  have := h.pcs
  unfold Pl.dataAt
  omega
set_option maxRecDepth 100000 in
theorem dataAt_any (H A ln : Nat) (S : Pl.St) (Z : AsV) (Y : List (List UInt8 × Value)) (w : World) (hA : AsAt w H A ln S Z Y) (hN : StOk S) : Calls Tryz.prog 108 #[.pointer (some ⟨A, 0, none⟩)] w (Ret (.int .i64 (Pl.dataAt S : Nat)) w) := by
  have hrow := hA.pcs
  obtain ⟨oA, oc, hoe⟩ := own_form' hrow
  have h2 := hA.box.c2
  rw [hoe] at h2
  have hp := hN.pcs
  have HU := Lib.hid (up128_any (4 * S.pcs.length) (4 * (S.pcs.length : Int)) (by omega) w (by omega))
  obtain ⟨R, hR⟩ : ∃ R, Pl.dataAt S = R := ⟨_, rfl⟩
  unfold Pl.dataAt at hR
  rw [hR] at HU
  rw [show Pl.dataAt S = R from hR]
  clear hA hrow hoe hN hR
  go_enter Tryz.func108, Tryz.ntmps108
  go_wp2_with fail
  (with_reducible refine HU.out.mono ?_)
  rintro e w1 ⟨rfl, rfl⟩
  go_wp2_with fail
  go_ret
  exact ⟨rfl, rfl⟩
theorem starts_at (e : Nat) (l : List Nat) (k : Nat) (hk : k < l.length) : Pl.startsP e (l.drop k) = (Pl.up e 4 :: (Pl.startsP (Pl.up e 4 + l[k]) (l.drop (k + 1))).1, (Pl.startsP (Pl.up e 4 + l[k]) (l.drop (k + 1))).2) := by
  rw [List.drop_eq_getElem_cons hk]; rfl
theorem own_base {w : World} {b b' : Nat} {e : TypeId} {k n : Nat} {v : Value} {xs : List Value} (h : w.ownsRow b e k v n xs) (hb : b' ≤ b) : w.ownsRow b' e k v n xs := by
  refine ⟨h.1, ?_⟩
  rcases h.2 with h2 | ⟨g, cap, cur, h1, h2, h3⟩
  · exact .inl h2
  · exact .inr ⟨g, cap, cur, h1, Nat.le_trans hb h2, h3⟩
/-- The names behind the rooms' addresses. -/
def RoomsQ (w : World) (H A ln : Nat) (S : Pl.St) (Z : AsV) (Y : List (List UInt8 × Value)) (x : Ending) (w' : World) : Prop :=
  x = .returned (.int .i64 (Pl.roomN S : Nat)) ∧ w.grownBy w' (some A) ∧ ∃ v, AsAt w' H A ln S { Z with s := v } Y ∧ w'.ownsRow H 3 1 v S.rooms.length (intC (Pl.startsP (Pl.behindP S) S.rooms).1)
/-- What was taken in keeps to these bounds. -/
structure StFin (S : Pl.St) : Prop where
  ok : StOk S
  rooms : ∀ n ∈ S.rooms, n ≤ 65536
  names : ∀ e ∈ S.names, Pl.lookN e.1 S.names = some e.2
theorem starts_le : ∀ (l : List Nat) (e : Nat), (∀ n ∈ l, n ≤ 65536) → (Pl.startsP e l).2 ≤ e + 65540 * l.length
  | [], e, _ => by simp [Pl.startsP]
  | n :: r, e, h => by
    have h1 := up_le e 4 (by decide)
    have h2 := starts_le r (Pl.up e 4 + n) (fun x hx => h x (List.mem_cons_of_mem _ hx))
    have h3 := h n (List.mem_cons_self ..)
    simp only [Pl.startsP, List.length_cons]
    omega
theorem starts_ge : ∀ (l : List Nat) (e : Nat), e ≤ (Pl.startsP e l).2
  | [], e => Nat.le_refl _
  | n :: r, e => by
    have h1 := up_le e 4 (by decide)
    have h2 := starts_ge r (Pl.up e 4 + n)
    simp only [Pl.startsP]
    omega
theorem starts_len : ∀ (l : List Nat) (e : Nat), (Pl.startsP e l).1.length = l.length
  | [], e => rfl
  | n :: r, e => by simp [Pl.startsP, starts_len r]
theorem grown_low {W0 w1 w2 : World} {A B0 : Nat} (h : W0.grownBy w1 (some A)) (hb : Below B0 w1 w2) (hB : W0.heap.size = B0) : W0.grownBy w2 (some A) :=
  ⟨hb.os.trans h.os, hb.tape.trans h.tape, hb.output.trans h.output, Nat.le_trans h.size hb.size, fun j hj hne => (hb.block j (by omega)).trans (h.block j hj hne)⟩
theorem grown_low' {W0 w1 w2 : World} {A B : Nat} (h : W0.grownBy w1 (some A)) (hb : Below B w1 w2) (hB : W0.heap.size ≤ B) : W0.grownBy w2 (some A) :=
  ⟨hb.os.trans h.os, hb.tape.trans h.tape, hb.output.trans h.output, Nat.le_trans h.size hb.size, fun j hj hne => (hb.block j (by omega)).trans (h.block j hj hne)⟩
theorem intC_app (a b : List Nat) : intC (a ++ b) = intC a ++ intC b := by simp [intC]
theorem look_mem {s : List UInt8} {p : Nat × Nat} : ∀ {l : List (List UInt8 × Nat × Nat)}, Pl.lookN s l = some p → (s, p) ∈ l
  | [], h => by cases h
  | (a, v) :: r, h => by
    simp only [Pl.lookN] at h
    split at h
    · next e => cases h; subst e; simp
    · exact List.mem_cons_of_mem _ (look_mem h)
set_option maxRecDepth 100000 in
set_option maxHeartbeats 2000000 in
theorem layRooms_any (H A ln : Nat) (S : Pl.St) (Z : AsV) (Y : List (List UInt8 × Value)) (w : World) (hA : AsAt w H A ln S Z Y) (hF : StFin S) (hs : Z.s = .slice none 0 0) : Calls Tryz.prog 69 #[.pointer (some ⟨A, 0, none⟩)] w (RoomsQ w H A ln S Z Y) := by
  have hd := dataAt_le hF.ok
  have hdl := hF.ok.data
  have hrl := hF.ok.rooms
  obtain ⟨D0, hD0⟩ : ∃ D0, Pl.dataAt S = D0 := ⟨_, rfl⟩
  have HD := Lib.hid (fun W hW => dataAt_any H A ln S Z Y W hW hF.ok)
  rw [hD0] at HD hd
  obtain ⟨dA, dc, hde⟩ := own_form' hA.data
  have h3 := hA.box.c3
  rw [hde] at h3
  have HF := Lib.hid hF
  have HA := Lib.hid (hA.new (Below.refl _ _).drew)
  have HW := Lib.hid ((Below.refl w.heap.size w).drew)
  have hs0 : w.drew.heap.size = w.heap.size := rfl
  have hhi := hA.hi
  obtain ⟨N, hN⟩ : ∃ N, S.data.length = N := ⟨_, rfl⟩
  rw [hN] at h3 hdl
  have HB : Hid (Pl.behindP S = D0 + N) := Lib.hid (by unfold Pl.behindP; rw [hD0, hN])
  have HS := Lib.hid hs
  clear hA hF hde hD0 hN hs
  go_enter Tryz.func69, Tryz.ntmps69
  go_upto_region 1 with (fail)
  have hwr : IntKind.i64.wrap ((D0 : Int) + (N : Int)) = (D0 : Int) + (N : Int) := IntWalk.i64_in _ (by omega)
  refine wp_regionL 8 (fun w' => w'.cell? ⟨A, 3, none⟩ = some (.slice dA N dc) ∧ w' = w.drew) (by kernel_rfl) (by exact ⟨h3, rfl⟩) (fun hHeld => ?_)
  refine takeL (i := 0) (v := ?_) rfl (by kernel_rfl) (by kernel_rfl) (by kernel_rfl) (by kernel_rfl) (by kernel_rfl) (by decide) (fun _ _ _ h => h) (Or.inl ⟨by kernel_rfl, ?_⟩) hHeld ?_
  rotate_left
  · (intro w' hSw; (try dsimp only at hSw); obtain ⟨hS0, hS1⟩ := hSw; go_simp; try with_reducible rfl)
  simp only [Act.put, List.setIfInBounds_toArray, List.set_cons_zero, List.set_cons_succ, List.getElem_toArray, List.getElem_cons_succ, List.getElem_cons_zero]
  refine takeL (i := 2) (v := ?_) rfl (by kernel_rfl) (by kernel_rfl) (by kernel_rfl) (by kernel_rfl) (by kernel_rfl) (by decide) (fun _ _ _ h => h) (Or.inl ⟨by kernel_rfl, ?_⟩) hHeld ?_
  rotate_left
  · (intro w' hSw; (try dsimp only at hSw); obtain ⟨hS0, hS1⟩ := hSw; go_simp; try with_reducible rfl)
  simp only [Act.put, List.setIfInBounds_toArray, List.set_cons_zero, List.set_cons_succ, List.getElem_toArray, List.getElem_cons_succ, List.getElem_cons_zero]
  refine takeL (i := 3) (v := ?_) rfl (by kernel_rfl) (by kernel_rfl) (by kernel_rfl) (by kernel_rfl) (by kernel_rfl) (by decide) (fun _ _ _ h => h) (Or.inl ⟨by kernel_rfl, ?_⟩) hHeld ?_
  rotate_left
  · (intro w' hSw; (try dsimp only at hSw); obtain ⟨hS0, hS1⟩ := hSw; go_simp; try with_reducible rfl)
  simp only [Act.put, List.setIfInBounds_toArray, List.set_cons_zero, List.set_cons_succ, List.getElem_toArray, List.getElem_cons_succ, List.getElem_cons_zero]
  refine takeL (i := 4) (v := ?_) rfl (by kernel_rfl) (by kernel_rfl) (by kernel_rfl) (by kernel_rfl) (by kernel_rfl) (by decide) (fun _ _ _ h => h) (Or.inl ⟨by kernel_rfl, ?_⟩) hHeld ?_
  rotate_left
  · (intro w' hSw; (try dsimp only at hSw); obtain ⟨hS0, hS1⟩ := hSw; go_simp; try with_reducible rfl)
  simp only [Act.put, List.setIfInBounds_toArray, List.set_cons_zero, List.set_cons_succ, List.getElem_toArray, List.getElem_cons_succ, List.getElem_cons_zero]
  refine takeL (i := 5) (v := ?_) rfl (by kernel_rfl) (by kernel_rfl) (by kernel_rfl) (by kernel_rfl) (by kernel_rfl) (by decide) (fun _ _ _ h => h) (Or.inl ⟨by kernel_rfl, ?_⟩) hHeld ?_
  rotate_left
  · (intro w' hSw; (try dsimp only at hSw); obtain ⟨hS0, hS1⟩ := hSw; go_simp; try with_reducible rfl)
  simp only [Act.put, List.setIfInBounds_toArray, List.set_cons_zero, List.set_cons_succ, List.getElem_toArray, List.getElem_cons_succ, List.getElem_cons_zero]
  refine takeL (i := 6) (v := ?_) rfl (by kernel_rfl) (by kernel_rfl) (by kernel_rfl) (by kernel_rfl) (by kernel_rfl) (by decide) (fun _ _ _ h => h) (Or.inl ⟨by kernel_rfl, ?_⟩) hHeld ?_
  rotate_left
  · (intro w' hSw; (try dsimp only at hSw); obtain ⟨hS0, hS1⟩ := hSw; go_simp; try with_reducible rfl)
  simp only [Act.put, List.setIfInBounds_toArray, List.set_cons_zero, List.set_cons_succ, List.getElem_toArray, List.getElem_cons_succ, List.getElem_cons_zero]
  refine stillL (i := 1) (v := (.int .i64 (D0 : Int))) rfl (by kernel_rfl) (by kernel_rfl) (by kernel_rfl) (by kernel_rfl) (by kernel_rfl) (by decide) (fun _ _ _ h => h) ⟨by rfl, _, _, fun w' hSw => ⟨?_, (HD.out w' (by rw [hSw.2]; exact HA.out))⟩⟩ hHeld ?_
  · (try dsimp only at hSw); go_simp; try with_reducible rfl
  simp only [Act.put, List.setIfInBounds_toArray, List.set_cons_zero, List.set_cons_succ, List.getElem_toArray, List.getElem_cons_succ, List.getElem_cons_zero]
  refine takeL (i := 7) (v := ?_) rfl (by kernel_rfl) (by kernel_rfl) (by kernel_rfl) (by kernel_rfl) (by kernel_rfl) (by decide) (fun _ _ _ h => h) (Or.inl ⟨by kernel_rfl, ?_⟩) hHeld ?_
  rotate_left
  · (intro w' hSw; (try dsimp only at hSw); obtain ⟨hS0, hS1⟩ := hSw; go_simp; try with_reducible rfl)
  simp only [Act.put, List.setIfInBounds_toArray, List.set_cons_zero, List.set_cons_succ, List.getElem_toArray, List.getElem_cons_succ, List.getElem_cons_zero]
  refine readyL (rs := [8]) (by kernel_rfl) (by simp) (ReadyL.last rfl (fun K hK => ?_))
  go_simp
  refine hK.out _ _ ?_
  clear hK K
  (try simp only [Act.put, List.setIfInBounds_toArray, List.set_cons_zero, List.set_cons_succ, List.getElem_toArray, List.getElem_cons_succ, List.getElem_cons_zero])
  refine doneL (by kernel_rfl) ?_ _
  clear hwr hHeld h3
  obtain ⟨W0, hW0⟩ : ∃ W0, w.drew = W0 := ⟨_, rfl⟩
  rw [hW0] at HA HW hs0 ⊢
  obtain ⟨B0, hB0⟩ : ∃ B0, W0.heap.size = B0 := ⟨_, rfl⟩
  have hHB : H ≤ B0 := by rw [← hB0, hs0]; exact hhi
  have hAB : A < B0 := by rw [← hB0]; exact HA.out.box.lt
  have hLk0 := Lib.hid (show w.grownBy W0 (some A) from ⟨HW.out.os, HW.out.tape, HW.out.output, HW.out.size, fun k hk _ => HW.out.block k hk⟩)
  clear hW0 hs0 hhi HW
  obtain ⟨rA, rc, hre⟩ := own_form' HA.out.rooms
  have hrow := HA.out.rooms
  rw [hre] at hrow
  have hRd := Rd.own hrow
  have hbA : ∀ x, rA = some x → x.block ≠ A := fun x hx e => by
    obtain ⟨cur, hc⟩ := own_blk hrow (g := x.block) (by rw [hx]; rfl)
    rw [e, HA.out.box.at_] at hc
    injection hc with hc
    injection hc with _ hc
    exact absurd hc (by decide)
  have h4 : W0.cell? ⟨A, 4, none⟩ = some (.slice rA S.rooms.length rc) := by rw [← hre]; exact HA.out.box.c4
  obtain ⟨R, hR⟩ : ∃ R, S.rooms.length = R := ⟨_, rfl⟩
  rw [hR] at h4 hrl hRd
  have HQ := Lib.hid (And.intro hR (And.intro hRd hbA))
  have HB0 := Lib.hid hB0
  clear hR hRd hbA hrow hre hB0
  have hAW : A < W0.heap.size := by rw [HB0.out]; exact hAB
  go_wp2_with fail
  go_loopw [4, 24] (fun e i wr => ∃ (k ek : Nat) (v : Value) (ss : List Nat), k ≤ R ∧ Hid (ss.length = k) ∧ ek ≤ D0 + N + 65540 * k ∧ D0 + N ≤ ek ∧ i = .int .i64 (k : Int) ∧ e = .int .i64 (ek : Int) ∧ W0.grownBy wr (some A) ∧ AsB wr A ln { Z with s := v } ∧ wr.ownsRow B0 3 1 v k (intC ss) ∧ Hid (Pl.startsP (D0 + N) S.rooms = (ss ++ (Pl.startsP ek (S.rooms.drop k)).1, (Pl.startsP ek (S.rooms.drop k)).2))) (fun _ i _ => R - (intOf i).toNat)
  case atStart => exact ⟨0, D0 + N, .slice none 0 0, [], by omega, Lib.hid rfl, by omega, by omega, rfl, by show Value.int .i64 _ = _; rw [Int.natCast_add], ⟨rfl, rfl, rfl, Nat.le_refl _, fun _ _ _ => rfl⟩, by rw [← HS.out]; exact HA.out.box, ⟨rfl, .inl ⟨rfl, rfl⟩⟩, Lib.hid rfl⟩
  case round =>
    obtain ⟨k, ek, v, ss, hk, hsl, hek, hek0, rfl, rfl, hg, hB, hown, HK⟩ := hrel
    obtain ⟨vA, vc, rfl⟩ := own_form' hown
    have hgs := hg.size
    have h5 := hB.c5
    have hf5 := hB.froz 5
    have hAr := hB.lt
    by_cases hkR : k < R
    · have hkl : k < S.rooms.length := by rw [HQ.out.1]; exact hkR
      obtain ⟨b, off, hbq, hbl, hbc⟩ := HQ.out.2.1.at1 hkR
      subst hbq
      have hbne := HQ.out.2.2 _ rfl
      have hcell : wr.cell? ⟨b, off + k, none⟩ = some (.int .i64 (S.rooms[k] : Int)) := by
        refine hg.cell (a := ⟨b, off + k, none⟩) ?_ (by simpa using hbne)
        rw [hbc]
        simp [intC, hkl]
      have hat := starts_at ek S.rooms k hkl
      have hm := HF.out.rooms S.rooms[k] (List.getElem_mem hkl)
      obtain ⟨m, hmm⟩ : ∃ m, S.rooms[k] = m := ⟨_, rfl⟩
      rw [hmm] at hcell hat hm
      have hup := up_le ek 4 (by decide)
      have HU := Lib.hid (fun W => up4_any ek (ek : Int) rfl W (by omega))
      obtain ⟨u, hu⟩ : ∃ u, Pl.up ek 4 = u := ⟨_, rfl⟩
      rw [hu] at hat hup HU
      have hbe : B0 ≤ wr.heap.size := by rw [← HB0.out]; exact hgs
      have HK2 : Hid (Pl.startsP (D0 + N) S.rooms = ((ss ++ [u]) ++ (Pl.startsP (u + m) (S.rooms.drop (k + 1))).1, (Pl.startsP (u + m) (S.rooms.drop (k + 1))).2)) := Lib.hid (by rw [HK.out, hat]; simp)
      have HN := Lib.hid (And.intro hg (And.intro hB hown))
      clear hat hmm hu HK hg hB hown hbc hbne
      go_wp2_with fail
      (with_reducible refine (HU.out _).mono ?_)
      rintro e w1 ⟨rfl, rfl⟩
      go_wp2_with (at_builtin; refine push_one rfl (.tmp 34) (.tmp 36) 60 rfl B0 3 (.int .i64 0) 8 Tryz.underlying60 info_int rfl wr _ _ _ (.int .i64 (u : Int)) rfl HN.out.2.2 rfl rfl (by omega) (by decide) hbe ?_; intro v2 w2 hown2 hb2; obtain ⟨vA2, vc2, rfl⟩ := own_form' hown2; have hbx := HN.out.2.1.below hb2 hAB; have h52 := hbx.c5; have hf52 := hbx.froz 5; have hA2 := hbx.lt; have HO := Lib.hid (And.intro hown2 (And.intro hb2 hbx)); clear hown2 hb2 hbx)
      refine ⟨⟨k + 1, u + m, .slice vA2 (k + 1) vc2, ss ++ [u], by omega, Lib.hid (by rw [List.length_append, hsl.out]; rfl), by omega, by omega, ret_i (by omega), ret_i (by omega), ?_, ?_, ?_, HK2⟩, by simp only [intOf]; omega⟩
      · exact (grown_low HN.out.1 HO.out.2.1 HB0.out).trans (grown_cell w2 A 5 _)
      · exact HO.out.2.2.set5 _
      · have h := AsAt.others (S := S) (Y := Y) HO.out.2.2 5 (.slice vA2 (k + 1) vc2) (by decide) HO.out.1
        rw [intC_app]
        exact h
    · have hkR2 : k = R := by omega
      have HKf : Hid ((Pl.startsP (D0 + N) S.rooms).1 = ss ∧ (Pl.startsP (D0 + N) S.rooms).2 = ek) := Lib.hid (by
        have h := HK.out
        rw [List.drop_eq_nil_of_le (by rw [HQ.out.1]; omega)] at h
        rw [h]
        simp [Pl.startsP])
      have hA1 := HA.out.stepG hg hB rfl rfl rfl rfl rfl
      have hnm := hA1.names
      have h6 := hA1.box.c6
      have HN := Lib.hid (And.intro hg (And.intro hA1 (And.intro hown hkR2)))
      clear hg hB hown hA1 HK hkR2
      obtain ⟨D, hmap, hI, hD⟩ := hnm
      have HDD := Lib.hid hD
      clear hD hI
      go_wp2_with (at_range; refine wpList_range_own _ rfl _ 61 rfl 9 129 lawT Tryz.underlying61 _ Z.n S.names.length _ rfl hmap ?_; intro w0 hrg0 hg0 hs0)
      obtain ⟨wo, rfl⟩ : ∃ wo, wo = wr := ⟨_, rfl⟩
      obtain ⟨B1, hB1⟩ : ∃ B1, wo.heap.size = B1 := ⟨_, rfl⟩
      have hb0 : Below B1 wo w0 := ⟨hg0.os, hg0.tape, hg0.output, hg0.size, fun j hj => hg0.block j (by omega) (by simp)⟩
      rw [hB1] at hrg0 hAr ⊢
      have hB0B1 : B0 ≤ B1 := by rw [← hB1, ← HB0.out]; exact hgs
      have HB1 := Lib.hid hB1
      have HR0 := Lib.hid (And.intro hrg0 hb0)
      have HFIN : Hid (∀ W, Below B1 wo W → w.grownBy W (some A) ∧ ∃ v, AsAt W H A ln S { Z with s := v } Y ∧ W.ownsRow H 3 1 v S.rooms.length (intC (Pl.startsP (Pl.behindP S) S.rooms).1)) := Lib.hid (by
        intro W hb
        have hb' : Below wo.heap.size wo W := by rw [HB1.out]; exact hb
        refine ⟨grown_low' (hLk0.out.trans HN.out.1) hb (Nat.le_trans (Nat.le_trans hLk0.out.size HN.out.1.size) (Nat.le_of_eq HB1.out)), _, HN.out.2.1.new hb', ?_⟩
        have h := own_base (own_below HN.out.2.2.1 hb') hHB
        rw [HB.out, HKf.out.1, HQ.out.1, ← HN.out.2.2.2]
        exact h)
      have hsub : IntKind.i64.wrap ((ek : Int) - ((D0 : Int) + (N : Int))) = (ek : Int) - ((D0 : Int) + (N : Int)) := IntWalk.i64_in _ (by omega)
      clear hmap hrg0 hg0 hs0 hb0 hgs h4 h5 hf5 h6 hAW hB1
      go_loopw [9] (fun _ wz => ∃ (left : Lit → Bool) (cnt : Nat), wz.ranges Tryz.prog 9 anyR Z.n B1 S.names.length D left cnt ∧ Below B1 wo wz ∧ Hid (∀ kl, left kl = true → has D kl = true) ∧ Hid (∀ m p, Pl.lookN m S.names = some p → left (.string m) = true ∨ p.1 ≠ 2)) (fun _ wz => wz.rangeLeft Z.n B1)
      case atStart => exact ⟨_, _, HR0.out.1, HR0.out.2, Lib.hid fun kl h => h, Lib.hid fun m p h => .inl (by rw [(HDD.out m).1, nmsV_look, h]; rfl)⟩
      case round =>
        obtain ⟨left, cnt, hrg, hbk, HLF, HSN⟩ := hrel
        go_wp2_with (at_next; refine wpList_next_ranges (α := ByteArray) (β := Value) _ rfl _ rfl 9 lawT anyR Value.string (fun v => v) (fun key kl h => by obtain ⟨s, h1, _⟩ := string_of_keyOf Tryz.underlying9 h; exact ⟨s, h1⟩) (fun v y h => ⟨v, rfl⟩) Z.n B1 S.names.length _ _ _ rfl hrg ?_ ?_)
        · intro _ hl0
          have hno : S.names.any (fun p => p.2.1 == 2) = false := by
            rw [List.any_eq_false]
            intro e he
            have h := (HSN.out e.1 e.2 (HF.out.names e he)).resolve_left (by rw [hl0]; decide)
            simpa using h
          have HR9 : Hid (Pl.roomN S = 0) := Lib.hid (by unfold Pl.roomN; rw [hno]; rfl)
          have HZ := Lib.hid hbk
          clear hno hl0 hbk hrg
          go_wp2_with fail
          go_ret
          exact ⟨by rw [HR9.out]; rfl, HFIN.out _ HZ.out⟩
        · intro x c kl y ps w4 cnt1 hkey hlk hR hat hrg1 hlt hg1 hs1 hen
          obtain ⟨s', e1, rfl, _⟩ := string_of_keyOf Tryz.underlying9 hkey
          cases e1
          obtain ⟨p, hp, rfl⟩ : ∃ p, Pl.lookN x.data.toList S.names = some p ∧ c = plV p := by
            have h1 := HLF.out _ hlk
            rw [(HDD.out _).1, nmsV_look] at h1
            obtain ⟨p, hp⟩ : ∃ p, Pl.lookN x.data.toList S.names = some p := by
              cases h : Pl.lookN x.data.toList S.names with
              | none => rw [h] at h1; cases h1
              | some p => exact ⟨p, rfl⟩
            refine ⟨p, hp, ?_⟩
            have h2 := hat (.lit (.int .i64 0))
            rw [(HDD.out _).2, nmsV_look, hp] at h2
            simp only [anyR, Option.some.injEq, Prod.mk.injEq] at hR
            rw [← hR.1] at h2
            simp only [Option.map_some, DataW.held.injEq] at h2
            exact h2.symm
          have hb4 : Below B1 wo w4 := hbk.grown hg1 (Nat.le_trans (Nat.le_of_eq HB1.out.symm) hbk.size) (fun j hj => by cases hj; exact Nat.le_refl _)
          obtain ⟨p1, p2⟩ := p
          unfold plV at hen ⊢
          have HLE := Lib.hid hrg.left_eq
          have HZ := Lib.hid (And.intro hrg1 (And.intro hb4 (And.intro hlt hp)))
          clear hkey hlk hR hat hrg1 hlt hg1 hs1 hb4 hp hbk hrg
          by_cases h2 : p1 = 2
          · subst h2
            have hany : S.names.any (fun p => p.2.1 == 2) = true := by
              rw [List.any_eq_true]
              exact ⟨_, look_mem HZ.out.2.2.2, rfl⟩
            have HR9 : Hid (Pl.roomN S = ek - (D0 + N)) := Lib.hid (by unfold Pl.roomN; rw [hany, if_pos rfl, HB.out, HKf.out.2])
            clear hany
            go_wp2_with fail
            go_ret
            refine ⟨?_, HFIN.out _ (HZ.out.2.1.alloc (Nat.le_trans (Nat.le_of_eq HB1.out.symm) HZ.out.2.1.size) _)⟩
            rw [HR9.out]
            show Ending.returned (.int .i64 ((ek : Int) - ((D0 : Int) + (N : Int)))) = _
            rw [show ((ek - (D0 + N) : Nat) : Int) = (ek : Int) - ((D0 : Int) + (N : Int)) by omega]
          · have e2 : ((p1 : Int) == 2) = false := by simp; omega
            have hnn : ∀ m p, Pl.lookN m S.names = some p → (left (.string m) && !(Lit.string m).sameKey (.string x.data.toList)) = true ∨ p.1 ≠ 2 := by
              intro m p hm
              by_cases hmx : m = x.data.toList
              · subst hmx
                rw [HZ.out.2.2.2] at hm
                cases hm
                exact .inr h2
              · rcases HSN.out m p hm with h | h
                · left
                  rw [h]
                  have : (Lit.string m).sameKey (.string x.data.toList) = false := by
                    simp [Lit.sameKey]
                    exact hmx
                  rw [this]; rfl
                · exact .inr h
            have HNN := Lib.hid hnn
            clear hnn h2
            go_wp2_with fail
            refine ⟨⟨_, _, HZ.out.1.alloc _, HZ.out.2.1.alloc (Nat.le_trans (Nat.le_of_eq HB1.out.symm) HZ.out.2.1.size) _, Lib.hid (fun z hz => HLF.out z (by simp only [Bool.and_eq_true] at hz; exact hz.1)), HNN⟩, ?_⟩
            rw [(HZ.out.1.alloc (.cells #[.int .i64 (p1 : Int), .int .i64 (p2 : Int)] 129)).left_eq, HLE.out]
            exact HZ.out.2.2.1
end Go.Proofs.YtmmnkoeajdeldaaGreatDoor
namespace Go.Proofs.YtmmnkoeajdeldaaGreatDoor
open Go.RowKit Go.Maps Go.WideMaps
set_option linter.unusedVariables false
set_option linter.unusedSimpArgs false
attribute [local go_sem] ba_get ba_cut ba_add fld_k fld_s fld_n
/-- The assembler behind the laying of the rooms. -/
structure FinAt (w : World) (H A ln : Nat) (S : Pl.St) (Z : AsV) (Y : List (List UInt8 × Value)) : Prop where
  at_ : AsAt w H A ln S Z Y
  st : w.ownsRow H 3 1 Z.s S.rooms.length (intC (Pl.startsP (Pl.behindP S) S.rooms).1)
theorem FinAt.new {w w' : World} {H A ln : Nat} {S : Pl.St} {Z : AsV} {Y : List (List UInt8 × Value)} (h : FinAt w H A ln S Z Y) (hb : Below w.heap.size w w') : FinAt w' H A ln S Z Y := ⟨h.at_.new hb, own_below h.st hb⟩
/-- A place of which the address may be asked. -/
structure PlOk (S : Pl.St) (v : Nat × Nat) : Prop where
  t : v.1 = 0 → v.2 ≤ 900000
  d : v.1 = 1 → v.2 ≤ 900000000
  r : v.1 ≠ 0 → v.1 ≠ 1 → v.2 < S.rooms.length
theorem addr_le {S : Pl.St} {v : Nat × Nat} (hF : StFin S) (h : PlOk S v) : Pl.addrP S v ≤ 100000000000 := by
  have hd := dataAt_le hF.ok
  have hdl := hF.ok.data
  have hrl := hF.ok.rooms
  unfold Pl.addrP
  by_cases h0 : v.1 = 0
  · rw [if_pos h0]; have := h.t h0; omega
  rw [if_neg h0]
  by_cases h1 : v.1 = 1
  · rw [if_pos h1]; have := h.d h1; omega
  rw [if_neg h1]
  have key : ∀ (l : List Nat) (e : Nat), ∀ x ∈ (Pl.startsP e l).1, x ≤ (Pl.startsP e l).2 := by
    intro l
    induction l with
    | nil => intro e x hx; cases hx
    | cons n r ih =>
      intro e x hx
      simp only [Pl.startsP, List.mem_cons] at hx ⊢
      rcases hx with rfl | hx
      · have := starts_ge r (Pl.up e 4 + n); omega
      · exact ih _ x hx
  have hl := starts_le S.rooms (Pl.behindP S) hF.rooms
  have hlen := starts_len S.rooms (Pl.behindP S)
  have hv := h.r h0 h1
  rw [List.getD_eq_getElem?_getD, List.getElem?_eq_getElem (by omega), Option.getD_some]
  have := key S.rooms (Pl.behindP S) _ (List.getElem_mem (by omega : v.2 < (Pl.startsP (Pl.behindP S) S.rooms).1.length))
  unfold Pl.behindP at *
  omega
set_option maxRecDepth 100000 in
set_option maxHeartbeats 2000000 in
theorem address_any (H A ln : Nat) (S : Pl.St) (Z : AsV) (Y : List (List UInt8 × Value)) (v : Nat × Nat) (w : World) (hA : FinAt w H A ln S Z Y) (hF : StFin S) (hv : PlOk S v) : Calls Tryz.prog 71 #[.pointer (some ⟨A, 0, none⟩), plV v] w (RetB (fun x _ => x = .int .i64 (Pl.addrP S v : Nat)) w) := by
  obtain ⟨R, hR⟩ : ∃ R, Pl.addrP S v = R := ⟨_, rfl⟩
  rw [hR]
  have hRl : R ≤ 100000000000 := by rw [← hR]; exact addr_le hF hv
  unfold Pl.addrP at hR
  obtain ⟨p, q⟩ := v
  simp only at hR
  have hd := dataAt_le hF.ok
  unfold plV
  have hAl := hA.at_.box.lt
  have HD := Lib.hid (fun W hW => dataAt_any H A ln S Z Y W hW hF.ok)
  have HA := Lib.hid hA
  have HF := Lib.hid hF
  have hv0 := hv.t
  have hv1 := hv.d
  have hv2 := hv.r
  simp only at hv0 hv1 hv2
  obtain ⟨D0, hD0⟩ : ∃ D0, Pl.dataAt S = D0 := ⟨_, rfl⟩
  rw [hD0] at hR HD hd
  clear hA hF hD0 hv
  by_cases h0 : p = 0
  · subst h0
    rw [if_pos rfl] at hR
    have hq := hv0 rfl
    have HR := Lib.hid hR
    clear hR hv0 hv1 hv2
    go_enter Tryz.func71, Tryz.ntmps71
    go_wp2_with fail
    go_ret
    refine ⟨_, rfl, ?_, (Below.refl _ _).alloc (Nat.le_refl _) _⟩
    rw [← HR.out]
    show Value.int .i64 (4 * (q : Int)) = _
    rw [Int.natCast_mul]
    rfl
  rw [if_neg h0] at hR
  have e0 : ((p : Int) == 0) = false := by simp; omega
  by_cases h1 : p = 1
  · subst h1
    rw [if_pos rfl] at hR
    have hq := hv1 rfl
    have HR := Lib.hid hR
    clear hR hv0 hv1 hv2 h0 e0
    go_enter Tryz.func71, Tryz.ntmps71
    go_upto_region 5 with (fail)
    generalize hW : w.alloc _ = W
    obtain ⟨B, hB⟩ : ∃ B, w.heap.size = B := ⟨_, rfl⟩
    have hz : W.heap[B]? = some (.cells #[.int .i64 ((1 : Nat) : Int), .int .i64 (q : Int)] 129 (0, 0)) := by rw [← hW, ← hB]; exact heap_alloc_new _ _
    have hb : Below w.heap.size w W := by rw [← hW]; exact (Below.refl _ _).alloc (Nat.le_refl _) _
    have hc : W.drew.cell? ⟨B, 1, none⟩ = some (.int .i64 (q : Int)) := by rw [cell_row W.drew B 1 _ _ hz]; rfl
    have HA1 := Lib.hid ((HA.out.new hb).new (Below.refl _ _).drew)
    have HB := Lib.hid hb.drew
    rw [hB] at hAl ⊢
    clear hW hz hb
    have hwr : IntKind.i64.wrap ((D0 : Int) + (q : Int)) = (D0 : Int) + (q : Int) := IntWalk.i64_in _ (by omega)
    refine wp_regionL 5 (fun w' => w'.cell? ⟨B, 1, none⟩ = some (.int .i64 (q : Int)) ∧ w' = W.drew) (by kernel_rfl) (by exact ⟨hc, rfl⟩) (fun hHeld => ?_)
    refine takeL (i := 0) (v := ?_) rfl (by kernel_rfl) (by kernel_rfl) (by kernel_rfl) (by kernel_rfl) (by kernel_rfl) (by decide) (fun _ _ _ h => h) (Or.inl ⟨by kernel_rfl, ?_⟩) hHeld ?_
    rotate_left
    · (intro w' hSw; (try dsimp only at hSw); obtain ⟨hS0, hS1⟩ := hSw; go_simp; try with_reducible rfl)
    simp only [Act.put, List.setIfInBounds_toArray, List.set_cons_zero, List.set_cons_succ, List.getElem_toArray, List.getElem_cons_succ, List.getElem_cons_zero]
    refine takeL (i := 2) (v := ?_) rfl (by kernel_rfl) (by kernel_rfl) (by kernel_rfl) (by kernel_rfl) (by kernel_rfl) (by decide) (fun _ _ _ h => h) (Or.inl ⟨by kernel_rfl, ?_⟩) hHeld ?_
    rotate_left
    · (intro w' hSw; (try dsimp only at hSw); obtain ⟨hS0, hS1⟩ := hSw; go_simp; try with_reducible rfl)
    simp only [Act.put, List.setIfInBounds_toArray, List.set_cons_zero, List.set_cons_succ, List.getElem_toArray, List.getElem_cons_succ, List.getElem_cons_zero]
    refine takeL (i := 3) (v := ?_) rfl (by kernel_rfl) (by kernel_rfl) (by kernel_rfl) (by kernel_rfl) (by kernel_rfl) (by decide) (fun _ _ _ h => h) (Or.inl ⟨by kernel_rfl, ?_⟩) hHeld ?_
    rotate_left
    · (intro w' hSw; (try dsimp only at hSw); obtain ⟨hS0, hS1⟩ := hSw; go_simp; try with_reducible rfl)
    simp only [Act.put, List.setIfInBounds_toArray, List.set_cons_zero, List.set_cons_succ, List.getElem_toArray, List.getElem_cons_succ, List.getElem_cons_zero]
    refine stillL (i := 1) (v := (.int .i64 (D0 : Int))) rfl (by kernel_rfl) (by kernel_rfl) (by kernel_rfl) (by kernel_rfl) (by kernel_rfl) (by decide) (fun _ _ _ h => h) ⟨by rfl, _, _, fun w' hSw => ⟨?_, (HD.out w' (by rw [hSw.2]; exact HA1.out.at_))⟩⟩ hHeld ?_
    · (try dsimp only at hSw); go_simp; try with_reducible rfl
    simp only [Act.put, List.setIfInBounds_toArray, List.set_cons_zero, List.set_cons_succ, List.getElem_toArray, List.getElem_cons_succ, List.getElem_cons_zero]
    refine takeL (i := 4) (v := ?_) rfl (by kernel_rfl) (by kernel_rfl) (by kernel_rfl) (by kernel_rfl) (by kernel_rfl) (by decide) (fun _ _ _ h => h) (Or.inl ⟨by kernel_rfl, ?_⟩) hHeld ?_
    rotate_left
    · (intro w' hSw; (try dsimp only at hSw); obtain ⟨hS0, hS1⟩ := hSw; go_simp; try with_reducible rfl)
    simp only [Act.put, List.setIfInBounds_toArray, List.set_cons_zero, List.set_cons_succ, List.getElem_toArray, List.getElem_cons_succ, List.getElem_cons_zero]
    refine readyL (rs := [5]) (by kernel_rfl) (by simp) (ReadyL.last rfl (fun K hK => ?_))
    go_simp
    refine hK.out _ _ ?_
    clear hK K
    (try simp only [Act.put, List.setIfInBounds_toArray, List.set_cons_zero, List.set_cons_succ, List.getElem_toArray, List.getElem_cons_succ, List.getElem_cons_zero])
    refine doneL (by kernel_rfl) ?_ _
    go_wp2_with fail
    go_ret
    refine ⟨_, rfl, ?_, HB.out⟩
    rw [← HR.out]
    show Value.int .i64 ((D0 : Int) + (q : Int)) = _
    rw [Int.natCast_add]
  · rw [if_neg h1] at hR
    have hq := hv2 h0 h1
    have e1 : ((p : Int) == 1) = false := by simp; omega
    obtain ⟨sA, sc, hse⟩ := own_form' HA.out.st
    have hRd := HA.out.st
    rw [hse] at hRd
    obtain ⟨b, off, hbq, hbl, hbc⟩ := (Rd.own hRd).at1 hq
    subst hbq
    have hlen := starts_len S.rooms (Pl.behindP S)
    have hcell : w.cell? ⟨b, off + q, none⟩ = some (.int .i64 (R : Int)) := by
      have hg : q < (Pl.startsP (Pl.behindP S) S.rooms).1.length := by rw [hlen]; exact hq
      have h2 : (Pl.startsP (Pl.behindP S) S.rooms).1[q]? = some ((Pl.startsP (Pl.behindP S) S.rooms).1[q]) := List.getElem?_eq_getElem hg
      rw [hbc, ← hR, List.getD_eq_getElem?_getD, h2, Option.getD_some]
      simp [intC, h2]
    have h5 : w.cell? ⟨A, 5, none⟩ = some (.slice (some ⟨b, off, none⟩) S.rooms.length sc) := by rw [← hse]; exact HA.out.at_.box.c5
    obtain ⟨n, hn⟩ : ∃ n, S.rooms.length = n := ⟨_, rfl⟩
    rw [hn] at h5 hq
    have hlt : (q : Int) < (n : Int) := by omega
    have hqi : (0 : Int) ≤ (q : Int) := by omega
    clear hR hRd hbc hlen hse hv0 hv1 hv2 h0 h1 hn
    go_enter Tryz.func71, Tryz.ntmps71
    go_upto_region 6 with (fail)
    generalize hW : w.alloc _ = W
    obtain ⟨B, hB⟩ : ∃ B, w.heap.size = B := ⟨_, rfl⟩
    have hz : W.heap[B]? = some (.cells #[.int .i64 (p : Int), .int .i64 (q : Int)] 129 (0, 0)) := by rw [← hW, ← hB]; exact heap_alloc_new _ _
    have hb : Below w.heap.size w W := by rw [← hW]; exact (Below.refl _ _).alloc (Nat.le_refl _) _
    have hc : W.drew.cell? ⟨B, 1, none⟩ = some (.int .i64 (q : Int)) := by rw [cell_row W.drew B 1 _ _ hz]; rfl
    have k5 : W.drew.cell? ⟨A, 5, none⟩ = _ := (hb.cell (p := ⟨A, 5, none⟩) hAl).trans h5
    have kb : W.drew.cell? ⟨b, off + q, none⟩ = _ := (hb.cell (p := ⟨b, off + q, none⟩) hbl).trans hcell
    have HB := Lib.hid hb.drew
    rw [hB] at hAl hbl ⊢
    clear hW hz hb h5 hcell
    refine wp_regionL 8 (fun w' => w'.cell? ⟨B, 1, none⟩ = some (.int .i64 (q : Int)) ∧ w'.cell? ⟨A, 5, none⟩ = some (.slice (some ⟨b, off, none⟩) n sc) ∧ w'.cell? ⟨b, off + q, none⟩ = some (.int .i64 (R : Int))) (by kernel_rfl) (by exact ⟨hc, k5, kb⟩) (fun hHeld => ?_)
    refine takeL (i := 0) (v := ?_) rfl (by kernel_rfl) (by kernel_rfl) (by kernel_rfl) (by kernel_rfl) (by kernel_rfl) (by decide) (fun _ _ _ h => h) (Or.inl ⟨by kernel_rfl, ?_⟩) hHeld ?_
    rotate_left
    · (intro w' hSw; (try dsimp only at hSw); obtain ⟨hS0, hS1, hS2⟩ := hSw; go_simp; try with_reducible rfl)
    simp only [Act.put, List.setIfInBounds_toArray, List.set_cons_zero, List.set_cons_succ, List.getElem_toArray, List.getElem_cons_succ, List.getElem_cons_zero]
    refine takeL (i := 1) (v := ?_) rfl (by kernel_rfl) (by kernel_rfl) (by kernel_rfl) (by kernel_rfl) (by kernel_rfl) (by decide) (fun _ _ _ h => h) (Or.inl ⟨by kernel_rfl, ?_⟩) hHeld ?_
    rotate_left
    · (intro w' hSw; (try dsimp only at hSw); obtain ⟨hS0, hS1, hS2⟩ := hSw; go_simp; try with_reducible rfl)
    simp only [Act.put, List.setIfInBounds_toArray, List.set_cons_zero, List.set_cons_succ, List.getElem_toArray, List.getElem_cons_succ, List.getElem_cons_zero]
    refine takeL (i := 2) (v := ?_) rfl (by kernel_rfl) (by kernel_rfl) (by kernel_rfl) (by kernel_rfl) (by kernel_rfl) (by decide) (fun _ _ _ h => h) (Or.inl ⟨by kernel_rfl, ?_⟩) hHeld ?_
    rotate_left
    · (intro w' hSw; (try dsimp only at hSw); obtain ⟨hS0, hS1, hS2⟩ := hSw; go_simp; try with_reducible rfl)
    simp only [Act.put, List.setIfInBounds_toArray, List.set_cons_zero, List.set_cons_succ, List.getElem_toArray, List.getElem_cons_succ, List.getElem_cons_zero]
    refine takeL (i := 3) (v := ?_) rfl (by kernel_rfl) (by kernel_rfl) (by kernel_rfl) (by kernel_rfl) (by kernel_rfl) (by decide) (fun _ _ _ h => h) (Or.inl ⟨by kernel_rfl, ?_⟩) hHeld ?_
    rotate_left
    · (intro w' hSw; (try dsimp only at hSw); obtain ⟨hS0, hS1, hS2⟩ := hSw; go_simp; try with_reducible rfl)
    simp only [Act.put, List.setIfInBounds_toArray, List.set_cons_zero, List.set_cons_succ, List.getElem_toArray, List.getElem_cons_succ, List.getElem_cons_zero]
    refine takeL (i := 4) (v := ?_) rfl (by kernel_rfl) (by kernel_rfl) (by kernel_rfl) (by kernel_rfl) (by kernel_rfl) (by decide) (fun _ _ _ h => h) (Or.inl ⟨by kernel_rfl, ?_⟩) hHeld ?_
    rotate_left
    · (intro w' hSw; (try dsimp only at hSw); obtain ⟨hS0, hS1, hS2⟩ := hSw; go_simp; try with_reducible rfl)
    simp only [Act.put, List.setIfInBounds_toArray, List.set_cons_zero, List.set_cons_succ, List.getElem_toArray, List.getElem_cons_succ, List.getElem_cons_zero]
    refine takeL (i := 5) (v := ?_) rfl (by kernel_rfl) (by kernel_rfl) (by kernel_rfl) (by kernel_rfl) (by kernel_rfl) (by decide) (fun _ _ _ h => h) (Or.inl ⟨by kernel_rfl, ?_⟩) hHeld ?_
    rotate_left
    · (intro w' hSw; (try dsimp only at hSw); obtain ⟨hS0, hS1, hS2⟩ := hSw; go_simp; try with_reducible rfl)
    simp only [Act.put, List.setIfInBounds_toArray, List.set_cons_zero, List.set_cons_succ, List.getElem_toArray, List.getElem_cons_succ, List.getElem_cons_zero]
    refine takeL (i := 6) (v := ?_) rfl (by kernel_rfl) (by kernel_rfl) (by kernel_rfl) (by kernel_rfl) (by kernel_rfl) (by decide) (fun _ _ _ h => h) (Or.inl ⟨by kernel_rfl, ?_⟩) hHeld ?_
    rotate_left
    · (intro w' hSw; (try dsimp only at hSw); obtain ⟨hS0, hS1, hS2⟩ := hSw; go_simp; try with_reducible rfl)
    simp only [Act.put, List.setIfInBounds_toArray, List.set_cons_zero, List.set_cons_succ, List.getElem_toArray, List.getElem_cons_succ, List.getElem_cons_zero]
    refine takeL (i := 7) (v := ?_) rfl (by kernel_rfl) (by kernel_rfl) (by kernel_rfl) (by kernel_rfl) (by kernel_rfl) (by decide) (fun _ _ _ h => h) (Or.inl ⟨by kernel_rfl, ?_⟩) hHeld ?_
    rotate_left
    · (intro w' hSw; (try dsimp only at hSw); obtain ⟨hS0, hS1, hS2⟩ := hSw; go_simp; try with_reducible rfl)
    simp only [Act.put, List.setIfInBounds_toArray, List.set_cons_zero, List.set_cons_succ, List.getElem_toArray, List.getElem_cons_succ, List.getElem_cons_zero]
    refine readyL (rs := [8]) (by kernel_rfl) (by simp) (ReadyL.last rfl (fun K hK => ?_))
    go_simp
    refine hK.out _ _ ?_
    clear hK K
    (try simp only [Act.put, List.setIfInBounds_toArray, List.set_cons_zero, List.set_cons_succ, List.getElem_toArray, List.getElem_cons_succ, List.getElem_cons_zero])
    refine doneL (by kernel_rfl) ?_ _
    go_wp2_with fail
    go_ret
    exact ⟨_, rfl, rfl, HB.out⟩
end Go.Proofs.YtmmnkoeajdeldaaGreatDoor
namespace Go.Proofs.YtmmnkoeajdeldaaGreatDoor
open Go.RowKit Go.Maps Go.WideMaps
set_option linter.unusedVariables false
set_option linter.unusedSimpArgs false
attribute [local go_sem] ba_get ba_cut ba_add fld_k fld_s fld_n
/-- A piece that may be. -/
structure PcOk (p : Pl.Pc) : Prop where
  op : p.x.op < 256
  a : p.x.a < 256
  b : p.x.b < 256
  c : p.x.c < 256
  lo : -2147483648 ≤ p.x.imm
  hi : p.x.imm ≤ 2147483647
  w : p.w < 4294967296
  nm : p.nm.length ≤ 1000000
  way : p.way ≤ 3
  line : p.line ≤ 1000000
def StandQ (w : World) (ln : Nat) (E : Except Nat Int) (x : Ending) (w' : World) : Prop := Below w.heap.size w w' ∧ match E with
  | .error e => Thrown e ln x
  | .ok n => x = .returned (.int .i32 n)
/-- The box of a piece. -/
def PB (W : World) (C : Nat) (p : Pl.Pc) : Prop := W.heap[C]? = some (.cells (pcL p).toArray 126 (0, 0))
section
variable {W W' : World} {C : Nat} {p : Pl.Pc}
theorem PB.below (h : PB W C p) {B : Nat} (hb : Below B W W') (hB : C < B) : PB W' C p := (hb.block _ hB).trans h
theorem PB.keep (h : PB W C p) (hb : Below W.heap.size W W') : PB W' C p := (hb.block _ (blk_lt h)).trans h
theorem PB.c (h : PB W C p) (i : Nat) : W.cell? ⟨C, i, none⟩ = (pcL p)[i]? := by rw [cell_row W C i _ _ h]; simp
theorem PB.c0 (h : PB W C p) : W.cell? ⟨C, 0, none⟩ = some (.int .i64 (p.line : Int)) := h.c 0
theorem PB.c1 (h : PB W C p) : W.cell? ⟨C, 1, none⟩ = some (.int .u8 (p.x.op : Int)) := h.c 1
theorem PB.c2 (h : PB W C p) : W.cell? ⟨C, 2, none⟩ = some (.int .u8 (p.x.a : Int)) := h.c 2
theorem PB.c3 (h : PB W C p) : W.cell? ⟨C, 3, none⟩ = some (.int .u8 (p.x.b : Int)) := h.c 3
theorem PB.c4 (h : PB W C p) : W.cell? ⟨C, 4, none⟩ = some (.int .u8 (p.x.c : Int)) := h.c 4
theorem PB.c5 (h : PB W C p) : W.cell? ⟨C, 5, none⟩ = some (.int .i32 p.x.imm) := h.c 5
theorem PB.c6 (h : PB W C p) : W.cell? ⟨C, 6, none⟩ = some (.bool p.raw) := h.c 6
theorem PB.c7 (h : PB W C p) : W.cell? ⟨C, 7, none⟩ = some (.int .u32 (p.w : Int)) := h.c 7
theorem PB.c8 (h : PB W C p) : W.cell? ⟨C, 8, none⟩ = some (.bool p.named) := h.c 8
theorem PB.c9 (h : PB W C p) : W.cell? ⟨C, 9, none⟩ = some (.string ⟨p.nm.toArray⟩) := h.c 9
theorem PB.c10 (h : PB W C p) : W.cell? ⟨C, 10, none⟩ = some (.int .i64 (p.way : Int)) := h.c 10
end
theorem i64_low16 (x : Nat) (hx : x < 4611686018427387904) : bits .and .i64 (x : Int) 65535 = ((x % 65536 : Nat) : Int) := by
  have hx2 : x &&& 65535 < 2 ^ 16 := Nat.and_lt_two_pow _ (by decide)
  have h1 : (BitVec.ofInt 64 (x : Int)).toNat = x := by
    rw [BitVec.ofInt_natCast, BitVec.toNat_ofNat]; exact Nat.mod_eq_of_lt (by omega)
  have h2 : (BitVec.ofInt 64 ((65535 : Nat) : Int)).toNat = 65535 := by
    rw [BitVec.ofInt_natCast, BitVec.toNat_ofNat]
  show IntKind.i64.wrap ((BitVec.ofInt 64 (x : Int) &&& BitVec.ofInt 64 ((65535 : Nat) : Int)).toNat : Int) = _
  rw [BitVec.toNat_and, h1, h2, IntKind.wrap_i64, show (65535 : Nat) = 2 ^ 16 - 1 from rfl, Nat.and_two_pow_sub_one_eq_mod]
  omega
set_option maxRecDepth 100000 in
set_option maxHeartbeats 2000000 in
theorem stands_any (H A ln : Nat) (S : Pl.St) (Z : AsV) (Y : List (List UInt8 × Value)) (p : Pl.Pc) (i : Nat) (w : World) (hA : FinAt w H A ln S Z Y) (hF : StFin S) (hp : PcOk p) (hi : i ≤ 900000) (hv : ∀ v, Pl.lookN p.nm S.names = some v → PlOk S v) : Calls Tryz.prog 109 #[.pointer (some ⟨A, 0, none⟩), .agg (pcL p).toArray, .int .i64 (i : Int)] w (StandQ w ln (Pl.standsP S p i)) := by
  have HA := Lib.hid hA
  have hAl := hA.at_.box.lt
  have hnl := hp.nm
  obtain ⟨R, hR⟩ : ∃ R, Pl.standsP S p i = R := ⟨_, rfl⟩
  rw [hR]
  have HR := Lib.hid hR
  obtain ⟨q1, q2, ok, hlk, hok0, hok1⟩ : ∃ (q1 q2 : Nat) (ok : Bool), (∀ U, FinAt U H A ln S Z Y → (Instr.lookup 61 (.map (some Z.n)) (.string ⟨p.nm.toArray⟩) true).run Tryz.prog U = .ok (.tuple #[.agg #[.int .i64 (q1 : Int), .int .i64 (q2 : Int)], .bool ok]) U) ∧ (ok = false → Pl.lookN p.nm S.names = none) ∧ (ok = true → Pl.lookN p.nm S.names = some (q1, q2)) := by
    cases h : Pl.lookN p.nm S.names with
    | none =>
      refine ⟨0, 0, false, fun U hU => ?_, fun _ => rfl, fun h => by cases h⟩
      have hl := hU.at_.names.look_ok Tryz.underlying61 (zero_pl U) (m := p.nm) (by omega)
      rw [nmsV_look, h] at hl
      exact hl
    | some v =>
      refine ⟨v.1, v.2, true, fun U hU => ?_, fun h => by (cases h), fun _ => rfl⟩
      have hl := hU.at_.names.look_ok Tryz.underlying61 (zero_pl U) (m := p.nm) (by omega)
      rw [nmsV_look, h] at hl
      exact hl
  obtain ⟨C, hC⟩ : ∃ C, w.heap.size = C := ⟨_, rfl⟩
  obtain ⟨L, hL⟩ : ∃ L, pcL p = L := ⟨_, rfl⟩
  rw [hL]
  have HL := Lib.hid hL
  have HK := Lib.hid (And.intro hlk (And.intro hok0 (And.intro hok1 hv)))
  have HP := Lib.hid (And.intro hF hp)
  clear hA hL hlk hok0 hok1 hv hR hp hF
  go_enter Tryz.func109, Tryz.ntmps109
  go_upto_region 1 with (fail)
  generalize hW : w.alloc _ = W
  have hz : PB W C p := by unfold PB; rw [HL.out, ← hW, ← hC]; exact heap_alloc_new _ _
  have hb : Below w.heap.size w W := by rw [← hW]; exact (Below.refl _ _).alloc (Nat.le_refl _) _
  have HA1 := Lib.hid ((HA.out.new hb).new (Below.refl _ _).drew)
  have hz0 : PB W.drew C p := hz
  have HB := Lib.hid hb.drew
  rw [hC] at hAl
  clear hW hb hz
  have HC := Lib.hid hC
  clear hC
  have SX : ∀ U, Below W.drew.heap.size W.drew U → U.cell? ⟨A, 6, none⟩ = some (.map (some Z.n)) ∧ U.cell? ⟨C, 9, none⟩ = some (.string ⟨p.nm.toArray⟩) ∧ (Instr.lookup 61 (.map (some Z.n)) (.string ⟨p.nm.toArray⟩) true).run Tryz.prog U = .ok (.tuple #[.agg #[.int .i64 (q1 : Int), .int .i64 (q2 : Int)], .bool ok]) U := fun U hU =>
    ⟨(HA1.out.new hU).at_.box.c6, (hz0.keep hU).c9, HK.out.1 U (HA1.out.new hU)⟩
  have s0 := SX W.drew (Below.refl _ _)
  have HS := Lib.hid SX
  clear SX
  refine wp_regionL 12 (fun w' => w'.cell? ⟨A, 6, none⟩ = some (.map (some Z.n)) ∧ w'.cell? ⟨C, 9, none⟩ = some (.string ⟨p.nm.toArray⟩) ∧ (Instr.lookup 61 (.map (some Z.n)) (.string ⟨p.nm.toArray⟩) true).run Tryz.prog w' = .ok (.tuple #[.agg #[.int .i64 (q1 : Int), .int .i64 (q2 : Int)], .bool ok]) w') (by kernel_rfl) (by exact s0) (fun hHeld => ?_)
  refine takeL (i := 0) (v := ?_) rfl (by kernel_rfl) (by kernel_rfl) (by kernel_rfl) (by kernel_rfl) (by kernel_rfl) (by decide) (fun _ _ _ h => h) (Or.inl ⟨by kernel_rfl, ?_⟩) hHeld ?_
  rotate_left
  · (intro w' hSw; (try dsimp only at hSw); obtain ⟨hS0, hS1, hS2⟩ := hSw; go_simp; try with_reducible rfl)
  simp only [Act.put, List.setIfInBounds_toArray, List.set_cons_zero, List.set_cons_succ, List.getElem_toArray, List.getElem_cons_succ, List.getElem_cons_zero]
  refine takeL (i := 1) (v := ?_) rfl (by kernel_rfl) (by kernel_rfl) (by kernel_rfl) (by kernel_rfl) (by kernel_rfl) (by decide) (fun _ _ _ h => h) (Or.inl ⟨by kernel_rfl, ?_⟩) hHeld ?_
  rotate_left
  · (intro w' hSw; (try dsimp only at hSw); obtain ⟨hS0, hS1, hS2⟩ := hSw; go_simp; try with_reducible rfl)
  simp only [Act.put, List.setIfInBounds_toArray, List.set_cons_zero, List.set_cons_succ, List.getElem_toArray, List.getElem_cons_succ, List.getElem_cons_zero]
  refine takeL (i := 2) (v := ?_) rfl (by kernel_rfl) (by kernel_rfl) (by kernel_rfl) (by kernel_rfl) (by kernel_rfl) (by decide) (fun _ _ _ h => h) (Or.inl ⟨by kernel_rfl, ?_⟩) hHeld ?_
  rotate_left
  · (intro w' hSw; (try dsimp only at hSw); obtain ⟨hS0, hS1, hS2⟩ := hSw; go_simp; try with_reducible rfl)
  simp only [Act.put, List.setIfInBounds_toArray, List.set_cons_zero, List.set_cons_succ, List.getElem_toArray, List.getElem_cons_succ, List.getElem_cons_zero]
  refine takeL (i := 3) (v := ?_) rfl (by kernel_rfl) (by kernel_rfl) (by kernel_rfl) (by kernel_rfl) (by kernel_rfl) (by decide) (fun _ _ _ h => h) (Or.inl ⟨by kernel_rfl, ?_⟩) hHeld ?_
  rotate_left
  · (intro w' hSw; (try dsimp only at hSw); obtain ⟨hS0, hS1, hS2⟩ := hSw; go_simp; try with_reducible rfl)
  simp only [Act.put, List.setIfInBounds_toArray, List.set_cons_zero, List.set_cons_succ, List.getElem_toArray, List.getElem_cons_succ, List.getElem_cons_zero]
  refine takeL (i := 4) (v := ?_) rfl (by kernel_rfl) (by kernel_rfl) (by kernel_rfl) (by kernel_rfl) (by kernel_rfl) (by decide) (fun _ _ _ h => h) (Or.inl ⟨by kernel_rfl, ?_⟩) hHeld ?_
  rotate_left
  · (intro w' hSw; (try dsimp only at hSw); obtain ⟨hS0, hS1, hS2⟩ := hSw; go_simp; try with_reducible rfl)
  simp only [Act.put, List.setIfInBounds_toArray, List.set_cons_zero, List.set_cons_succ, List.getElem_toArray, List.getElem_cons_succ, List.getElem_cons_zero]
  refine takeL (i := 5) (v := ?_) rfl (by kernel_rfl) (by kernel_rfl) (by kernel_rfl) (by kernel_rfl) (by kernel_rfl) (by decide) (fun _ _ _ h => h) (Or.inl ⟨by kernel_rfl, ?_⟩) hHeld ?_
  rotate_left
  · (intro w' hSw; (try dsimp only at hSw); obtain ⟨hS0, hS1, hS2⟩ := hSw; go_simp; try with_reducible rfl)
  simp only [Act.put, List.setIfInBounds_toArray, List.set_cons_zero, List.set_cons_succ, List.getElem_toArray, List.getElem_cons_succ, List.getElem_cons_zero]
  refine takeL (i := 6) (v := ?_) rfl (by kernel_rfl) (by kernel_rfl) (by kernel_rfl) (by kernel_rfl) (by kernel_rfl) (by decide) (fun _ _ _ h => h) (Or.inl ⟨by kernel_rfl, ?_⟩) hHeld ?_
  rotate_left
  · (intro w' hSw; (try dsimp only at hSw); obtain ⟨hS0, hS1, hS2⟩ := hSw; go_simp; try with_reducible rfl)
  simp only [Act.put, List.setIfInBounds_toArray, List.set_cons_zero, List.set_cons_succ, List.getElem_toArray, List.getElem_cons_succ, List.getElem_cons_zero]
  refine takeL (i := 7) (v := ?_) rfl (by kernel_rfl) (by kernel_rfl) (by kernel_rfl) (by kernel_rfl) (by kernel_rfl) (by decide) (fun _ _ _ h => h) (Or.inl ⟨by kernel_rfl, ?_⟩) hHeld ?_
  rotate_left
  · (intro w' hSw; (try dsimp only at hSw); obtain ⟨hS0, hS1, hS2⟩ := hSw; go_simp; try with_reducible rfl)
  simp only [Act.put, List.setIfInBounds_toArray, List.set_cons_zero, List.set_cons_succ, List.getElem_toArray, List.getElem_cons_succ, List.getElem_cons_zero]
  refine takeL (i := 8) (v := ?_) rfl (by kernel_rfl) (by kernel_rfl) (by kernel_rfl) (by kernel_rfl) (by kernel_rfl) (by decide) (fun _ _ _ h => h) (Or.inl ⟨by kernel_rfl, ?_⟩) hHeld ?_
  rotate_left
  · (intro w' hSw; (try dsimp only at hSw); obtain ⟨hS0, hS1, hS2⟩ := hSw; go_simp; try with_reducible rfl)
  simp only [Act.put, List.setIfInBounds_toArray, List.set_cons_zero, List.set_cons_succ, List.getElem_toArray, List.getElem_cons_succ, List.getElem_cons_zero]
  refine takeL (i := 9) (v := ?_) rfl (by kernel_rfl) (by kernel_rfl) (by kernel_rfl) (by kernel_rfl) (by kernel_rfl) (by decide) (fun _ _ _ h => h) (Or.inl ⟨by kernel_rfl, ?_⟩) hHeld ?_
  rotate_left
  · (intro w' hSw; (try dsimp only at hSw); obtain ⟨hS0, hS1, hS2⟩ := hSw; go_simp; try with_reducible rfl)
  simp only [Act.put, List.setIfInBounds_toArray, List.set_cons_zero, List.set_cons_succ, List.getElem_toArray, List.getElem_cons_succ, List.getElem_cons_zero]
  have hz1 := Lib.hid hz0
  obtain ⟨W0, hW0⟩ : ∃ W0, W.drew = W0 := ⟨_, rfl⟩
  rw [hW0] at HA1 HB hz1 HS ⊢
  clear s0 hHeld hz0 hW0
  obtain ⟨B, hB⟩ : ∃ B, W0.heap.size = B := ⟨_, rfl⟩
  refine readyL (rs := [10]) (by kernel_rfl) (by simp) (ReadyL.cons rfl (by decide) (fun K hK => ?_) ReadyL.nil)
  go_simp
  refine hK.out _ _ (by exact HS.out _ ((Below.refl _ _).alloc (Nat.le_refl _) _)) (fun hHeld => ?_)
  clear hK K
  (try simp only [Act.put, List.setIfInBounds_toArray, List.set_cons_zero, List.set_cons_succ, List.getElem_toArray, List.getElem_cons_succ, List.getElem_cons_zero])
  have hzz : (W0.alloc (.cells #[.int .i64 0, .int .i64 0] 129)).heap[B]? = some (.cells #[.int .i64 0, .int .i64 0] 129 (0, 0)) := by rw [← hB]; exact heap_alloc_new _ _
  have hbb : Below W0.heap.size W0 (W0.alloc (.cells #[.int .i64 0, .int .i64 0] 129)) := (Below.refl _ _).alloc (Nat.le_refl _) _
  obtain ⟨V, hV⟩ : ∃ V, W0.alloc (.cells #[.int .i64 0, .int .i64 0] 129) = V := ⟨_, rfl⟩
  rw [hV] at hzz hbb ⊢
  have z0 : V.cell? ⟨B, 0, none⟩ = some (.int .i64 0) := by rw [cell_row V B 0 _ _ hzz]; rfl
  have z1 : V.cell? ⟨B, 1, none⟩ = some (.int .i64 0) := by rw [cell_row V B 1 _ _ hzz]; rfl
  have y0 := frozen_of V B 0 _ _ hzz
  have y1 := frozen_of V B 1 _ _ hzz
  have HV := Lib.hid (And.intro hzz hbb)
  clear hzz hbb hV hHeld
  refine readyL (rs := [11]) (by kernel_rfl) (by simp) (ReadyL.cons rfl (by decide) (fun K hK => ?_) ReadyL.nil)
  go_simp
  obtain ⟨V2, hV2⟩ : ∃ V2, (V.setCell ⟨B, 0, none⟩ (.int .i64 (q1 : Int))).setCell ⟨B, 1, none⟩ (.int .i64 (q2 : Int)) = V2 := ⟨_, rfl⟩
  have hz2 : V2.heap[B]? = some (.cells #[.int .i64 (q1 : Int), .int .i64 (q2 : Int)] 129 (0, 0)) := by
    rw [← hV2, set_at _ B 1 _ _ _ (set_at V B 0 _ _ _ HV.out.1)]; rfl
  have hb2 : Below W0.heap.size W0 V2 := by
    rw [← hV2, hB]
    have hb := HV.out.2
    rw [hB] at hb
    exact (hb.setCell (p := ⟨B, 0, none⟩) (Nat.le_refl _) _).setCell (p := ⟨B, 1, none⟩) (Nat.le_refl _) _
  rw [hV2]
  clear z0 z1 y0 y1 hV2 HV
  refine hK.out _ _ (by exact HS.out _ hb2) (fun hHeld => ?_)
  clear hK K
  (try simp only [Act.put, List.setIfInBounds_toArray, List.set_cons_zero, List.set_cons_succ, List.getElem_toArray, List.getElem_cons_succ, List.getElem_cons_zero])
  refine readyL (rs := [12]) (by kernel_rfl) (by simp) (ReadyL.last rfl (fun K hK => ?_))
  go_simp
  refine hK.out _ _ ?_
  clear hK K
  (try simp only [Act.put, List.setIfInBounds_toArray, List.set_cons_zero, List.set_cons_succ, List.getElem_toArray, List.getElem_cons_succ, List.getElem_cons_zero])
  refine doneL (by kernel_rfl) ?_ _
  have HA2 := Lib.hid (HA1.out.new hb2)
  have hp2 := Lib.hid (hz1.out.keep hb2)
  have hbw : Below w.heap.size w V2 := HB.out.trans (hb2.mono HB.out.size)
  have HBw := Lib.hid hbw
  have z0 : V2.cell? ⟨B, 0, none⟩ = some (.int .i64 (q1 : Int)) := by rw [cell_row V2 B 0 _ _ hz2]; rfl
  have z1 : V2.cell? ⟨B, 1, none⟩ = some (.int .i64 (q2 : Int)) := by rw [cell_row V2 B 1 _ _ hz2]; rfl
  clear hz2 hb2 hbw HS hHeld HB HA1 hz1 hB
  have hr := HR.out
  unfold Pl.standsP at hr
  cases ok with
  | false =>
    rw [HK.out.2.1 rfl] at hr
    simp only at hr
    go_wp2_with fail
    (with_reducible refine (throw_any A ln _ 7 7 rfl _ HA2.out.at_.box).mono ?_)
    rintro e w4 ⟨rfl, rfl⟩
    subst hr
    exact ⟨rfl, HBw.out, rfl⟩
  | true =>
    have hlk := HK.out.2.2.1 rfl
    rw [hlk] at hr
    simp only at hr
    have hpk := HK.out.2.2.2 _ hlk
    have hle := addr_le HP.out.1 hpk
    have HC1 := Lib.hid (address_any H A ln S Z Y (q1, q2) V2 HA2.out HP.out.1 hpk)
    obtain ⟨a, ha⟩ : ∃ a, Pl.addrP S (q1, q2) = a := ⟨_, rfl⟩
    rw [ha] at hle hr HC1
    unfold plV at HC1
    have HR2 := Lib.hid hr
    clear hr hlk hpk ha
    go_wp2_with fail
    (with_reducible refine HC1.out.mono ?_)
    rintro e w3 ⟨v, rfl, rfl, hb3⟩
    have HA3 := Lib.hid (HA2.out.new hb3)
    have hp3 := hp2.out.keep hb3
    have HB3 := Lib.hid (HBw.out.trans (hb3.mono HBw.out.size))
    have k10 := hp3.c10
    have k1 := hp3.c1
    have k2 := hp3.c2
    have k3 := hp3.c3
    have k4 := hp3.c4
    have k5 := hp3.c5
    have hw := HP.out.2.way
    have HX : ∀ n, Hid (Calls Tryz.prog 107 #[.pointer (some ⟨A, 0, none⟩), insV p.x, .int .i64 n] w3 (FitQ w3 ln (Pl.fitP p.x n))) := fun n => Lib.hid (fit_any A ln _ p.x n w3 HA3.out.at_.box ⟨HP.out.2.op, HP.out.2.a, HP.out.2.b, HP.out.2.c⟩)
    unfold insV at HX
    have hfin : ∀ (n : Int) (x : Ending) (w4 : World), Pl.fitP p.x n = R → FitQ w3 ln (Pl.fitP p.x n) x w4 → StandQ w ln R x w4 := fun n x w4 hn hq => by
      rw [hn] at hq
      exact ⟨HB3.out.trans (hq.1.mono HB3.out.size), hq.2⟩
    have HFIN := Lib.hid hfin
    clear hfin hb3 hp3 HC1 z0 z1
    rcases (show p.way = 0 ∨ p.way = 1 ∨ p.way = 2 ∨ p.way = 3 by omega) with h0 | h0 | h0 | h0
    · have hr := HR2.out
      rw [h0] at hr k10
      replace k10 : w3.cell? ⟨C, 10, none⟩ = some (.int .i64 0) := k10
      have hr0 : Pl.fitP p.x ((a : Nat) : Int) = R := by simpa using hr
      have HR3 := Lib.hid hr0
      clear hr hr0 h0
      go_wp2_with fail
      (with_reducible refine (HX _).out.mono ?_)
      rintro x w4 hq
      have hz := HFIN.out _ _ _ HR3.out hq
      rcases R with e | n
      · obtain ⟨hb, rfl⟩ := hz
        exact ⟨rfl, hb, rfl⟩
      · obtain ⟨hb, rfl⟩ := hz
        have HZ := Lib.hid hb
        clear hb hq k1 k2 k3 k4 k5 k10
        go_wp2_with fail
        go_ret
        exact ⟨HZ.out, rfl⟩
    · have hr := HR2.out
      rw [h0] at hr k10
      replace k10 : w3.cell? ⟨C, 10, none⟩ = some (.int .i64 1) := k10
      have hr0 : Pl.fitP p.x ((a / 65536 : Nat) : Int) = R := by simpa using hr
      rw [show ((a / 65536 : Nat) : Int) = (a : Int) / 65536 by omega] at hr0
      have HR3 := Lib.hid hr0
      clear hr hr0 h0
      go_wp2_with fail
      (with_reducible refine (HX _).out.mono ?_)
      rintro x w4 hq
      have hz := HFIN.out _ _ _ HR3.out hq
      rcases R with e | n
      · obtain ⟨hb, rfl⟩ := hz
        exact ⟨rfl, hb, rfl⟩
      · obtain ⟨hb, rfl⟩ := hz
        have HZ := Lib.hid hb
        clear hb hq k1 k2 k3 k4 k5 k10
        go_wp2_with fail
        go_ret
        exact ⟨HZ.out, rfl⟩
    · have hr := HR2.out
      rw [h0] at hr k10
      replace k10 : w3.cell? ⟨C, 10, none⟩ = some (.int .i64 2) := k10
      have hr0 : Pl.fitP p.x ((a % 65536 : Nat) : Int) = R := by simpa using hr
      rw [show ((a % 65536 : Nat) : Int) = (a : Int) % 65536 by omega] at hr0
      have HR3 := Lib.hid hr0
      clear hr hr0 h0
      have hbits := i64_low16 a (by omega)
      go_wp2_with fail
      (with_reducible refine (HX _).out.mono ?_)
      rintro x w4 hq
      have hz := HFIN.out _ _ _ HR3.out hq
      rcases R with e | n
      · obtain ⟨hb, rfl⟩ := hz
        exact ⟨rfl, hb, rfl⟩
      · obtain ⟨hb, rfl⟩ := hz
        have HZ := Lib.hid hb
        clear hb hq k1 k2 k3 k4 k5 k10
        go_wp2_with fail
        go_ret
        exact ⟨HZ.out, rfl⟩
    · have hr := HR2.out
      rw [h0] at hr k10
      replace k10 : w3.cell? ⟨C, 10, none⟩ = some (.int .i64 3) := k10
      simp only [show ¬ (3 : Nat) = 1 by decide, show ¬ (3 : Nat) = 2 by decide, if_false, if_true] at hr
      obtain ⟨m, hm⟩ : ∃ m, ((a : Int) - 4 * ((i : Int) + 1)).tmod 4 = m := ⟨_, rfl⟩
      rw [hm] at hr
      by_cases hm0 : m = 0
      · have em : (m != 0) = false := by simp [hm0]
        rw [if_neg (by simp [hm0])] at hr
        have HR3 := Lib.hid hr
        clear hr h0 hm0
        go_wp2_with fail
        (with_reducible refine (HX _).out.mono ?_)
        rintro x w4 hq
        have hz := HFIN.out _ _ _ HR3.out hq
        rcases R with e | n
        · obtain ⟨hb, rfl⟩ := hz
          exact ⟨rfl, hb, rfl⟩
        · obtain ⟨hb, rfl⟩ := hz
          have HZ := Lib.hid hb
          clear hb hq k1 k2 k3 k4 k5 k10
          go_wp2_with fail
          go_ret
          exact ⟨HZ.out, rfl⟩
      · have em : (m != 0) = true := by simp [hm0]
        rw [if_pos hm0] at hr
        have HR3 := Lib.hid hr
        clear hr h0 hm0
        go_wp2_with fail
        (with_reducible refine (throw_any A ln _ 2 2 rfl _ HA3.out.at_.box).mono ?_)
        rintro e w4 ⟨rfl, rfl⟩
        rw [← HR3.out]
        exact ⟨rfl, HB3.out, rfl⟩
end Go.Proofs.YtmmnkoeajdeldaaGreatDoor
namespace Go.Proofs.YtmmnkoeajdeldaaGreatDoor
open Go.RowKit Go.Maps Go.WideMaps
set_option linter.unusedVariables false
set_option linter.unusedSimpArgs false
attribute [local go_sem] ba_get ba_cut ba_add fld_k fld_s fld_n
theorem fitP_ok {x : Pl.Ins} {m n : Int} (h : Pl.fitP x m = .ok n) : -2147483648 ≤ n ∧ n ≤ 2147483647 := by
  unfold Pl.fitP Pl.inP at h
  by_cases hm : m < -2147483648 ∨ 2147483647 < m
  · rw [if_pos hm] at h; cases h
  · rw [if_neg hm] at h
    change (if Pl.encE { x with imm := m } = 0 then Except.ok m else .error (Pl.encE { x with imm := m })) = .ok n at h
    split at h
    · cases h; omega
    · cases h
theorem stands_bd {S : Pl.St} {p : Pl.Pc} {i : Nat} {n : Int} (h : Pl.standsP S p i = .ok n) : -2147483648 ≤ n ∧ n ≤ 2147483647 := by
  unfold Pl.standsP at h
  split at h
  · cases h
  · split at h
    · exact fitP_ok h
    split at h
    · exact fitP_ok h
    split at h
    · split at h
      · cases h
      · exact fitP_ok h
    · exact fitP_ok h
/-- A piece's word was made: the line is the piece's. -/
def EncQ (w : World) (H A : Nat) (S : Pl.St) (Z : AsV) (Y : List (List UInt8 × Value)) (p : Pl.Pc) (E : Except Nat Nat) (x : Ending) (w' : World) : Prop :=
  w.grownBy w' (some A) ∧ match E with
    | .error e => Thrown e p.line x
    | .ok n => x = .returned (.int .u32 (n : Int)) ∧ FinAt w' H A p.line S Z Y
theorem FinAt.line {w w' : World} {H A ln ln' : Nat} {S : Pl.St} {Z : AsV} {Y : List (List UInt8 × Value)} (h : FinAt w H A ln S Z Y) (hg : w.grownBy w' (some A)) (hb : AsB w' A ln' Z) : FinAt w' H A ln' S Z Y :=
  ⟨h.at_.stepG hg hb rfl rfl rfl rfl rfl, own_type h.st hg fun cur hc => by
    rw [h.at_.box.at_] at hc
    injection hc with hc
    injection hc with _ hc
    exact absurd hc (by decide)⟩
/-- A block is turned that was made later than the assembler's. -/
theorem FinAt.beyond {w0 W W' : World} {H A ln0 ln C : Nat} {S : Pl.St} {Z : AsV} {Y : List (List UInt8 × Value)} (h0 : FinAt w0 H A ln0 S Z Y) (h : FinAt W H A ln S Z Y) (hg : W.grownBy W' (some C)) (hC : w0.heap.size ≤ C) : FinAt W' H A ln S Z Y := by
  have own : ∀ {e : TypeId} {k n : Nat} {v : Value} {xs : List Value}, w0.ownsRow H e k v n xs → v.ownBlock = none ∨ v.ownBlock ≠ some C := fun {e k n v xs} hr => by
    cases hv : v.ownBlock with
    | none => exact .inl rfl
    | some b => have := (hr.lt b hv).2; exact .inr (by simp; omega)
  have hA := h0.at_.box.lt
  have hn := h0.at_.names.lt
  have hy := h0.at_.ways.lt
  exact ⟨⟨h.at_.box.kept hg (by simp; omega), h.at_.lo, Nat.le_trans h.at_.hi hg.size, h.at_.pcs.kept hg (own h0.at_.pcs), h.at_.data.kept hg (own h0.at_.data), h.at_.rooms.kept hg (own h0.at_.rooms), h.at_.names.grown hg (by simp; omega), h.at_.nlo, h.at_.ways.grown hg (by simp; omega), h.at_.ylo, h.at_.ny⟩, h.st.kept hg (own h0.st)⟩
set_option maxRecDepth 100000 in
set_option maxHeartbeats 2000000 in
theorem encode_any (H A ln : Nat) (S : Pl.St) (Z : AsV) (Y : List (List UInt8 × Value)) (p : Pl.Pc) (i : Nat) (w : World) (hA : FinAt w H A ln S Z Y) (hF : StFin S) (hp : PcOk p) (hi : i ≤ 900000) (hv : ∀ v, Pl.lookN p.nm S.names = some v → PlOk S v) : Calls Tryz.prog 70 #[.pointer (some ⟨A, 0, none⟩), .agg (pcL p).toArray, .int .i64 (i : Int)] w (EncQ w H A S Z Y p (Pl.encP S p i)) := by
  have HA := Lib.hid hA
  have hAl := hA.at_.box.lt
  obtain ⟨R, hR⟩ : ∃ R, Pl.encP S p i = R := ⟨_, rfl⟩
  rw [hR]
  have HR := Lib.hid hR
  obtain ⟨C, hC⟩ : ∃ C, w.heap.size = C := ⟨_, rfl⟩
  obtain ⟨L, hL⟩ : ∃ L, pcL p = L := ⟨_, rfl⟩
  rw [hL]
  have HL := Lib.hid hL
  have HP := Lib.hid (And.intro hF (And.intro hp hv))
  clear hA hL hv hR hp hF
  go_enter Tryz.func70, Tryz.ntmps70
  go_upto_region 1 with (fail)
  generalize hW : w.alloc _ = W
  have hz : PB W C p := by unfold PB; rw [HL.out, ← hW, ← hC]; exact heap_alloc_new _ _
  have hb : Below w.heap.size w W := by rw [← hW]; exact (Below.refl _ _).alloc (Nat.le_refl _) _
  have HB := Lib.hid hb
  have HA1 := HA.out.new hb
  have k0 := hz.c0
  have hf0 := HA1.at_.box.froz 0
  have ha0 := HA1.at_.box.c0
  have hAW := HA1.at_.box.lt
  rw [hC] at hAl
  have hne : A ≠ C := by omega
  have HC0 := Lib.hid hC
  clear hW hb hC
  go_upto_region 2 with (fail)
  have hg0 := grown_cell W A 0 (.int .i64 (p.line : Int))
  have HA2 : FinAt (W.setCell ⟨A, 0, none⟩ (.int .i64 (p.line : Int))) H A p.line S Z Y := HA1.line hg0 (HA1.at_.box.set0 p.line)
  have hz2 : PB (W.setCell ⟨A, 0, none⟩ (.int .i64 (p.line : Int))) C p := (hg0.block C (blk_lt hz) (by simp; omega)).trans hz
  have hgw : w.grownBy (W.setCell ⟨A, 0, none⟩ (.int .i64 (p.line : Int))) (some A) := below_grown HB.out hg0
  obtain ⟨V, hV⟩ : ∃ V, W.setCell ⟨A, 0, none⟩ (.int .i64 (p.line : Int)) = V := ⟨_, rfl⟩
  rw [hV] at HA2 hz2 hgw ⊢
  clear k0 hf0 ha0 hAW HA1 hz hg0 hV HB
  have HV := Lib.hid (And.intro HA2 (And.intro hz2 hgw))
  have k1 := hz2.c1
  have k2 := hz2.c2
  have k3 := hz2.c3
  have k4 := hz2.c4
  have k5 := hz2.c5
  have k6 := hz2.c6
  have k7 := hz2.c7
  have k8 := hz2.c8
  clear HA2 hz2 hgw
  have hr := HR.out
  unfold Pl.encP at hr
  obtain ⟨raw, hraw⟩ : ∃ raw, p.raw = raw := ⟨_, rfl⟩
  rw [hraw] at hr k6
  cases raw with
  | true =>
    have HR2 := Lib.hid hr
    clear hr
    go_wp2_with fail
    go_ret
    rw [← HR2.out]
    exact ⟨HV.out.2.2, rfl, HV.out.1⟩
  | false =>
    simp only [Bool.false_eq_true, if_false] at hr
    obtain ⟨nmd, hnmd⟩ : ∃ nmd, p.named = nmd := ⟨_, rfl⟩
    rw [hnmd] at hr k8
    cases nmd with
    | false =>
      replace hr : (if Pl.encE p.x = 0 then Except.ok (Pl.wordOf p.x) else .error (Pl.encE p.x)) = R := hr
      have HR2 := Lib.hid hr
      have hok : Pl.InsOk p.x := ⟨HP.out.2.1.op, HP.out.2.1.a, HP.out.2.1.b, HP.out.2.1.c, HP.out.2.1.lo, HP.out.2.1.hi⟩
      have HE := Lib.hid (fun U => enc_any p.x U hok)
      clear hr hok
      go_wp2_with fail
      clear k1 k2 k3 k4 k5 k6 k7 k8
      refine (HE.out _).mono ?_
      rintro e w9 ⟨v, rfl, rfl, hb9⟩
      have HA9 := Lib.hid (HV.out.1.new hb9)
      have HG9 := Lib.hid (grown_new HV.out.2.2 (hb9.mono HV.out.2.2.size))
      obtain ⟨E, hE⟩ : ∃ E, Pl.encE p.x = E := ⟨_, rfl⟩
      obtain ⟨G, hG⟩ : ∃ G, Pl.wordOf p.x = G := ⟨_, rfl⟩
      have HR9 := HR2.out
      rw [hE, hG] at HR9
      have HR8 := Lib.hid HR9
      by_cases h0 : E = 0
      · have hV : encV p.x = .tuple #[.int .u32 (G : Int), .int .i64 0] := by rw [encV_ok (by rw [hE, h0]), hG]
        rw [hV]
        subst h0
        clear hE hG HR9 hV hb9
        go_wp2_with fail
        go_ret
        have hr9 := HR8.out
        simp only [if_true] at hr9
        rw [← hr9]
        exact ⟨HG9.out, rfl, HA9.out⟩
      · have hV : encV p.x = .tuple #[.int .u32 0, .int .i64 (E : Int)] := encV_err hE h0
        rw [hV]
        have hne0 : ((E : Int) != 0) = true := by simp; omega
        rw [if_neg h0] at HR9
        clear hE hG hV hb9 HR8
        go_wp2_with fail
        (with_reducible refine (throw_any A p.line _ E _ rfl _ HA9.out.at_.box).mono ?_)
        rintro e w10 ⟨rfl, rfl⟩
        subst HR9
        exact ⟨rfl, HG9.out, rfl⟩
    | true =>
      have k9 := HV.out.2.1.c9
      have k10 := HV.out.2.1.c10
      have k0 := HV.out.2.1.c0
      rw [← hraw] at k6
      rw [← hnmd] at k8
      have HS := Lib.hid (stands_any H A p.line S Z Y p i V HV.out.1 HP.out.1 HP.out.2.1 hi HP.out.2.2)
      obtain ⟨D, hD⟩ : ∃ D, Pl.standsP S p i = D := ⟨_, rfl⟩
      rw [hD] at HS
      have hbd := fun n (h : D = .ok n) => stands_bd (hD.trans h)
      simp only [if_true, hD] at hr
      clear hD
      have HRr := Lib.hid hr
      have HBD := Lib.hid hbd
      have hk6 : V.cell? ⟨C, 6, none⟩ = some (.bool false) := by rw [k6, hraw]
      have hk8 : V.cell? ⟨C, 8, none⟩ = some (.bool true) := by rw [k8, hnmd]
      have HRN := Lib.hid (And.intro hraw hnmd)
      clear hr hbd k6 k8 hraw hnmd
      go_wp2_with fail
      have hag : (Value.agg #[.int .i64 (p.line : Int), .int .u8 (p.x.op : Int), .int .u8 (p.x.a : Int), .int .u8 (p.x.b : Int), .int .u8 (p.x.c : Int), .int .i32 p.x.imm, .bool false, .int .u32 (p.w : Int), .bool true, .string ⟨p.nm.toArray⟩, .int .i64 (p.way : Int)]) = .agg (pcL p).toArray := by
        unfold pcL insL
        rw [HRN.out.1, HRN.out.2]
        rfl
      rw [hag]
      (with_reducible refine HS.out.mono ?_)
      rintro x w3 ⟨hb3, h⟩
      have HA3 := Lib.hid (HV.out.1.new hb3)
      have hz3 := HV.out.2.1.keep hb3
      have HG3 := Lib.hid (grown_new HV.out.2.2 (hb3.mono HV.out.2.2.size))
      rcases D with e | n
      · obtain rfl := h
        have hr := HRr.out
        subst hr
        exact ⟨rfl, HG3.out, rfl⟩
      obtain rfl := h
      obtain ⟨hn1, hn2⟩ := HBD.out n rfl
      have HR2 : Hid ((if Pl.encE { p.x with imm := n } = 0 then Except.ok (Pl.wordOf { p.x with imm := n }) else .error (Pl.encE { p.x with imm := n })) = R) := Lib.hid HRr.out
      have hok : Pl.InsOk { p.x with imm := n } := ⟨HP.out.2.1.op, HP.out.2.1.a, HP.out.2.1.b, HP.out.2.1.c, hn1, hn2⟩
      have HE := Lib.hid (fun U => enc_any { p.x with imm := n } U hok)
      clear k0 k1 k2 k3 k4 k5 hk6 k7 hk8 k9 k10 hb3 hok HS hag
      have j5 := hz3.c5
      have f5 := frozen_of w3 C 5 _ _ hz3
      have hC3 := blk_lt hz3
      have hg5 := grown_cell w3 C 5 (.int .i32 n)
      have HA4 : Hid (FinAt (w3.setCell ⟨C, 5, none⟩ (.int .i32 n)) H A p.line S Z Y) := Lib.hid (HA.out.beyond HA3.out hg5 (Nat.le_of_eq HC0.out))
      have hz4 : PB (w3.setCell ⟨C, 5, none⟩ (.int .i32 n)) C { p with x := { p.x with imm := n } } := by
        unfold PB
        rw [set_at w3 C 5 _ _ _ hz3]
        rfl
      have HG4 : Hid (w.grownBy (w3.setCell ⟨C, 5, none⟩ (.int .i32 n)) (some A)) := Lib.hid ⟨HG3.out.os, HG3.out.tape, HG3.out.output, by simpa [World.setCell] using HG3.out.size, fun k hk hne => (Below.heap_setCell _ _ _ _ (by show k ≠ C; have := HC0.out; omega)).trans (HG3.out.block k hk hne)⟩
      go_upto_region 6 with (fail)
      obtain ⟨U, hU⟩ : ∃ U, w3.setCell ⟨C, 5, none⟩ (.int .i32 n) = U := ⟨_, rfl⟩
      rw [hU] at HA4 hz4 HG4 ⊢
      clear j5 f5 hC3 hg5 hU hz3
      have k1 := hz4.c1
      have k2 := hz4.c2
      have k3 := hz4.c3
      have k4 := hz4.c4
      have k5 := hz4.c5
      clear hz4
      go_wp2_with fail
      clear k1 k2 k3 k4 k5
      refine (HE.out _).mono ?_
      rintro e w9 ⟨v, rfl, rfl, hb9⟩
      have HA9 := Lib.hid (HA4.out.new hb9)
      have HG9 := Lib.hid (grown_new HG4.out (hb9.mono HG4.out.size))
      obtain ⟨E, hE⟩ : ∃ E, Pl.encE { p.x with imm := n } = E := ⟨_, rfl⟩
      obtain ⟨G, hG⟩ : ∃ G, Pl.wordOf { p.x with imm := n } = G := ⟨_, rfl⟩
      have HR9 := HR2.out
      rw [hE, hG] at HR9
      have HR8 := Lib.hid HR9
      by_cases h0 : E = 0
      · have hV : encV { p.x with imm := n } = .tuple #[.int .u32 (G : Int), .int .i64 0] := by rw [encV_ok (by rw [hE, h0]), hG]
        rw [hV]
        subst h0
        clear hE hG HR9 hV hb9
        go_wp2_with fail
        go_ret
        have hr9 := HR8.out
        simp only [if_true] at hr9
        rw [← hr9]
        exact ⟨HG9.out, rfl, HA9.out⟩
      · have hV : encV { p.x with imm := n } = .tuple #[.int .u32 0, .int .i64 (E : Int)] := encV_err hE h0
        rw [hV]
        have hne0 : ((E : Int) != 0) = true := by simp; omega
        rw [if_neg h0] at HR9
        clear hE hG hV hb9 HR8
        go_wp2_with fail
        (with_reducible refine (throw_any A p.line _ E _ rfl _ HA9.out.at_.box).mono ?_)
        rintro e w10 ⟨rfl, rfl⟩
        subst HR9
        exact ⟨rfl, HG9.out, rfl⟩
end Go.Proofs.YtmmnkoeajdeldaaGreatDoor
