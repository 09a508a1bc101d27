/- The assembler: the program of all lines. -/
import Derived.Test.YtmmnkoeajdeldaaGreatDoorAsX6
import Derived.Deep.DeepCutAuto
namespace Go.Proofs.YtmmnkoeajdeldaaGreatDoor
open Go.RowKit Go.Maps Go.WideMaps
set_option linter.unusedVariables false
set_option linter.unusedSimpArgs false
attribute [local go_sem] ba_get ba_cut ba_add fld_k fld_s fld_n
/-- Words as cells; a program as a value. -/
def w32s (l : List Nat) : List Value := l.map fun n : Nat => .int .u32 (n : Int)
def xeV (A : Option Addr) (c : Nat) (x : Pl.Exe) : Value := .agg #[.slice A x.text.length c, .string ⟨x.data.toArray⟩, .int .i64 x.room, .int .u32 (x.entry : Int)]
theorem own_same {w w' : World} {base : Nat} {e : TypeId} {k n : Nat} {v : Value} {xs : List Value} (h : w.ownsRow base e k v n xs) (hs : ∀ b, v.ownBlock = some b → w'.heap[b]? = w.heap[b]?) : w'.ownsRow base e k v n xs := by
  refine ⟨h.1, ?_⟩
  rcases h.2 with h2 | ⟨g, cap, cur, rfl, h2, h3, h4⟩
  · exact .inl h2
  · exact .inr ⟨g, cap, cur, rfl, h2, (hs g rfl).trans h3, h4⟩
/-- What was made later than the assembler may be turned. -/
theorem FinAt.low {w0 W W' : World} {H A ln0 ln B : Nat} {S : Pl.St} {Z : AsV} {Y : List (List UInt8 × Value)} (h0 : FinAt w0 H A ln0 S Z Y) (h : FinAt W H A ln S Z Y) (hb : Below B W W') (hB : w0.heap.size ≤ B) : FinAt W' H A ln S Z Y := by
  have own : ∀ {e : TypeId} {k n : Nat} {v : Value} {xs : List Value}, w0.ownsRow H e k v n xs → ∀ b, v.ownBlock = some b → W'.heap[b]? = W.heap[b]? := fun {e k n v xs} hr b hv => hb.block b (Nat.lt_of_lt_of_le (hr.lt b hv).2 hB)
  have hA := h0.at_.box.lt
  have hn := h0.at_.names.lt
  have hy := h0.at_.ways.lt
  exact ⟨⟨h.at_.box.below hb (by omega), h.at_.lo, Nat.le_trans h.at_.hi hb.size, own_same h.at_.pcs (own h0.at_.pcs), own_same h.at_.data (own h0.at_.data), own_same h.at_.rooms (own h0.at_.rooms), h.at_.names.same (hb.block _ (by omega)), h.at_.nlo, h.at_.ways.same (hb.block _ (by omega)), h.at_.ylo, h.at_.ny⟩, own_same h.st (own h0.st)⟩
theorem FinAt.typed {w w' : World} {H A ln : Nat} {S : Pl.St} {Z : AsV} {Y : List (List UInt8 × Value)} (h : FinAt w H A ln S Z Y) {B : Nat} (hg : w.grownBy w' (some B)) {C : Array Value} {T : TypeId} (hB : w.heap[B]? = some (.cells C T (0, 0)))
    (t1 : T ≠ 64) (t2 : T ≠ 126) (t3 : T ≠ 5) (t4 : T ≠ 3) : FinAt w' H A ln S Z Y :=
  ⟨h.at_.typed hg hB t1 t2 t3 t4, own_type h.st hg fun cur hc => by
    rw [hB] at hc
    injection hc with hc
    injection hc with _ hc
    exact t4 hc⟩
/-- All that was taken in, as it has to be. -/
structure StAll (S : Pl.St) : Prop where
  fin : StFin S
  pcs : ∀ p ∈ S.pcs, PcOk p
  places : ∀ s v, Pl.lookN s S.names = some v → PlOk S v
/-- The program, or what is thrown. -/
def ProgQ (w : World) (H A : Nat) (Z : AsV) (E : Except (Nat × Nat) Pl.Exe) (x : Ending) (w' : World) : Prop :=
  LnK w w' H A Z.n ∧ match E with
    | .error e => Thrown e.1 e.2 x
    | .ok X => ∃ tA c, x = .returned (xeV tA c X) ∧ w'.ownsRow w.heap.size 24 1 (.slice tA X.text.length c) X.text.length (w32s X.text)
theorem pcsC_get (l : List Pl.Pc) : ∀ (k j : Nat) (hk : k < l.length) (hj : j < 11), (pcsC l)[k * 11 + j]? = (pcL l[k])[j]? := by
  induction l with
  | nil => intro k j hk; simp at hk
  | cons p r ih =>
    intro k j hk hj
    have e : pcsC (p :: r) = pcL p ++ pcsC r := rfl
    rw [e]
    cases k with
    | zero => rw [List.getElem?_append_left (by rw [pcL_len]; omega)]; simp
    | succ k =>
      rw [List.getElem?_append_right (by rw [pcL_len]; omega), pcL_len, show (k + 1) * 11 + j - 11 = k * 11 + j by omega]
      exact ih k j (by simpa using hk) hj
theorem Rd.pc {w : World} {A : Option Addr} {n : Nat} {l : List Pl.Pc} (h : Rd w 11 A n (pcsC l)) (hn : l.length = n) {k : Nat} (hk : k < l.length) : ∃ b off, A = some ⟨b, off, none⟩ ∧ b < w.heap.size ∧ w.rangeAt b (off + k * 11) (pcL l[k]) := by
  obtain ⟨b, off, rfl, hb, hc⟩ := h.all (by omega)
  refine ⟨b, off, rfl, hb, fun j v hv => ?_⟩
  have hj : j < 11 := by
    rcases Nat.lt_or_ge j 11 with h' | h'
    · exact h'
    · rw [List.getElem?_eq_none (by rw [pcL_len]; omega)] at hv; cases hv
  have hg := pcsC_get l k j hk hj
  rw [Nat.add_assoc, hc (k * 11 + j) (by rw [pcsC_len]; omega), hg]
  exact hv
theorem words_at (S : Pl.St) (k : Nat) (l : List Pl.Pc) (hk : k < l.length) : Pl.wordsP S k (l.drop k) = match Pl.encP S l[k] k with
    | .error e => .error (e, l[k].line)
    | .ok w => match Pl.wordsP S (k + 1) (l.drop (k + 1)) with
      | .error e => .error e
      | .ok r => .ok (w :: r) := by
  rw [List.drop_eq_getElem_cons hk]; rfl
def joinW (ws : List Nat) : Except (Nat × Nat) (List Nat) → Except (Nat × Nat) (List Nat)
  | .error e => .error e
  | .ok l => .ok (ws ++ l)
theorem joinW_step (S : Pl.St) (k : Nat) (l : List Pl.Pc) (hk : k < l.length) (ws : List Nat) : joinW ws (Pl.wordsP S k (l.drop k)) = match Pl.encP S l[k] k with
    | .error e => .error (e, l[k].line)
    | .ok w => joinW (ws ++ [w]) (Pl.wordsP S (k + 1) (l.drop (k + 1))) := by
  rw [words_at S k l hk]
  cases Pl.encP S l[k] k with
  | error e => rfl
  | ok w =>
    simp only
    cases Pl.wordsP S (k + 1) (l.drop (k + 1)) with
    | error e => rfl
    | ok r => simp [joinW]
theorem info_exe4 : (Tryz.prog.info? 26).map (·.size) = some 4 := by kernel_rfl
theorem info_u32w : (Tryz.prog.info? 24).map (fun i => (i.zero, i.size, i.bytes)) = some (some (.int .u32 0), 1, 4) := by kernel_rfl
def zPc : Array Value := #[.int .i64 0, .int .u8 0, .int .u8 0, .int .u8 0, .int .u8 0, .int .i32 0, .bool false, .int .u32 0, .bool false, .string ⟨#[]⟩, .int .i64 0]
theorem w32_app (a b : List Nat) : w32s (a ++ b) = w32s a ++ w32s b := by simp [w32s]
/-- The box of a program that is being made. -/
def XB (W : World) (C : Nat) (v : Value) (d : List UInt8) (r : Int) (e : Int) : Prop := W.heap[C]? = some (.cells #[v, .string ⟨d.toArray⟩, .int .i64 r, .int .u32 e] 26 (0, 0))
set_option maxRecDepth 100000 in
set_option maxHeartbeats 2000000 in
theorem program_any (H A ln : Nat) (S : Pl.St) (Z : AsV) (Y : List (List UInt8 × Value)) (w : World) (hA : AsAt w H A ln S Z Y) (hS : StAll S) (hs : Z.s = .slice none 0 0) : Calls Tryz.prog 29 #[.pointer (some ⟨A, 0, none⟩)] w (ProgQ w H A Z (Pl.progP S)) := by
  have hAl := hA.box.lt
  have HA := Lib.hid hA
  have HS := Lib.hid hS
  have Hs := Lib.hid hs
  obtain ⟨R, hR⟩ : ∃ R, Pl.progP S = R := ⟨_, rfl⟩
  rw [hR]
  have HR := Lib.hid hR
  clear hA hS hs hR
  go_enter Tryz.func29, Tryz.ntmps29
  go_upto_region 1 with (fail)
  generalize hW : w.alloc _ = W
  obtain ⟨B, hB⟩ : ∃ B, w.heap.size = B := ⟨_, rfl⟩
  have hz : W.heap[B]? = some (.cells #[.slice none 0 0, .string ⟨#[]⟩, .int .i64 0, .int .u32 0] 26 (0, 0)) := by rw [← hW, ← hB]; exact heap_alloc_new _ _
  have hb : Below w.heap.size w W := by rw [← hW]; exact (Below.refl _ _).alloc (Nat.le_refl _) _
  have HA1 := Lib.hid (HA.out.new hb)
  have HW := Lib.hid (And.intro hz hb)
  have hWB : B < W.heap.size := blk_lt hz
  rw [hB] at hAl ⊢
  clear hW hz hb
  have hHB : H ≤ B := by rw [← hB]; exact HA.out.hi
  have HBw := Lib.hid hB
  clear hB
  go_cut [3] from 8 to 16 (fun s3 wx => ∃ (C : Nat) (Z' : AsV), s3 = .pointer (some ⟨C, 0, none⟩) ∧ B < C ∧ Z'.n = Z.n ∧ Z'.y = Z.y ∧ FinAt wx H A ln S Z' Y ∧ XB wx C (.slice none 0 0) S.data (Pl.roomN S : Nat) 0 ∧ LnK W wx H A Z.n ∧ wx.heap[B]? = W.heap[B]?)
  case first =>
    have hcv := own_conv HA1.out.data
    obtain ⟨dA, dc, hde⟩ := own_form' HA1.out.data
    have SX : ∀ (U : World) (Z1 : AsV) (l1 : Nat), Z1.d = Z.d → AsAt U H A l1 S Z1 Y → U.cell? ⟨A, 3, none⟩ = some (.slice dA S.data.length dc) ∧ (convert 59 9 (.slice dA S.data.length dc)).run Tryz.prog U = .ok (.string ⟨S.data.toArray⟩) U := fun U Z1 l1 hZ hU => by
      have h1 := hU.box.c3
      have h2 := own_conv hU.data
      rw [hZ, hde] at h1 h2
      exact ⟨h1, h2⟩
    have hd := HA1.out.new (Below.refl _ _).drew
    have s0 := SX _ _ _ rfl hd
    have HX := Lib.hid (And.intro SX hd)
    clear hcv hde SX hd
    refine wp_regionL 9 (fun w' => w'.cell? ⟨A, 3, none⟩ = some (.slice dA S.data.length dc) ∧ (convert 59 9 (.slice dA S.data.length dc)).run Tryz.prog w' = .ok (.string ⟨S.data.toArray⟩) w') (by kernel_rfl) (by exact s0) (fun hHeld => ?_)
    refine takeL (i := 0) (v := ?_) rfl (by kernel_rfl) (by kernel_rfl) (by kernel_rfl) (by kernel_rfl) (by kernel_rfl) (by decide) (fun _ _ _ h => h) (Or.inl ⟨by kernel_rfl, ?_⟩) hHeld ?_
    rotate_left
    · (intro w' hSw; (try dsimp only at hSw); obtain ⟨hS0, hS1⟩ := hSw; go_simp; try with_reducible rfl)
    simp only [Act.put, List.setIfInBounds_toArray, List.set_cons_zero, List.set_cons_succ, List.getElem_toArray, List.getElem_cons_succ, List.getElem_cons_zero]
    refine takeL (i := 2) (v := ?_) rfl (by kernel_rfl) (by kernel_rfl) (by kernel_rfl) (by kernel_rfl) (by kernel_rfl) (by decide) (fun _ _ _ h => h) (Or.inl ⟨by kernel_rfl, ?_⟩) hHeld ?_
    rotate_left
    · (intro w' hSw; (try dsimp only at hSw); obtain ⟨hS0, hS1⟩ := hSw; go_simp; try with_reducible rfl)
    simp only [Act.put, List.setIfInBounds_toArray, List.set_cons_zero, List.set_cons_succ, List.getElem_toArray, List.getElem_cons_succ, List.getElem_cons_zero]
    refine takeL (i := 3) (v := ?_) rfl (by kernel_rfl) (by kernel_rfl) (by kernel_rfl) (by kernel_rfl) (by kernel_rfl) (by decide) (fun _ _ _ h => h) (Or.inl ⟨by kernel_rfl, ?_⟩) hHeld ?_
    rotate_left
    · (intro w' hSw; (try dsimp only at hSw); obtain ⟨hS0, hS1⟩ := hSw; go_simp; try with_reducible rfl)
    simp only [Act.put, List.setIfInBounds_toArray, List.set_cons_zero, List.set_cons_succ, List.getElem_toArray, List.getElem_cons_succ, List.getElem_cons_zero]
    refine takeL (i := 4) (v := ?_) rfl (by kernel_rfl) (by kernel_rfl) (by kernel_rfl) (by kernel_rfl) (by kernel_rfl) (by decide) (fun _ _ _ h => h) (Or.inl ⟨by kernel_rfl, ?_⟩) hHeld ?_
    rotate_left
    · (intro w' hSw; (try dsimp only at hSw); obtain ⟨hS0, hS1⟩ := hSw; go_simp; try with_reducible rfl)
    simp only [Act.put, List.setIfInBounds_toArray, List.set_cons_zero, List.set_cons_succ, List.getElem_toArray, List.getElem_cons_succ, List.getElem_cons_zero]
    refine takeL (i := 5) (v := ?_) rfl (by kernel_rfl) (by kernel_rfl) (by kernel_rfl) (by kernel_rfl) (by kernel_rfl) (by decide) (fun _ _ _ h => h) (Or.inl ⟨by kernel_rfl, ?_⟩) hHeld ?_
    rotate_left
    · (intro w' hSw; (try dsimp only at hSw); obtain ⟨hS0, hS1⟩ := hSw; go_simp; try with_reducible rfl)
    simp only [Act.put, List.setIfInBounds_toArray, List.set_cons_zero, List.set_cons_succ, List.getElem_toArray, List.getElem_cons_succ, List.getElem_cons_zero]
    refine takeL (i := 6) (v := ?_) rfl (by kernel_rfl) (by kernel_rfl) (by kernel_rfl) (by kernel_rfl) (by kernel_rfl) (by decide) (fun _ _ _ h => h) (Or.inl ⟨by kernel_rfl, ?_⟩) hHeld ?_
    rotate_left
    · (intro w' hSw; (try dsimp only at hSw); obtain ⟨hS0, hS1⟩ := hSw; go_simp; try with_reducible rfl)
    simp only [Act.put, List.setIfInBounds_toArray, List.set_cons_zero, List.set_cons_succ, List.getElem_toArray, List.getElem_cons_succ, List.getElem_cons_zero]
    obtain ⟨W0, hW0⟩ : ∃ W0, W.drew = W0 := ⟨_, rfl⟩
    have hL0 : LnK W W0 H A Z.n := by rw [← hW0]; exact ⟨rfl, rfl, rfl, Nat.le_refl _, fun _ _ _ _ => rfl⟩
    have hB0 : W0.heap[B]? = W.heap[B]? := by rw [← hW0]; rfl
    have hs0 : B < W0.heap.size := by rw [← hW0]; exact hWB
    rw [hW0] at HX s0 ⊢
    clear hHeld s0 hW0
    have HL0 := Lib.hid (And.intro hL0 hB0)
    clear hL0 hB0
    refine readyL (rs := [1, 8]) (by kernel_rfl) (by simp) (ReadyL.cons rfl (by decide) (fun K hK => ?_) (ReadyL.cons rfl (by decide) (fun K hK => ?_) ReadyL.nil))
    · skip
      go_simp
      (with_reducible refine (layRooms_any H A ln S Z Y _ HX.out.2 HS.out.fin Hs.out).mono ?_)
      rintro x W1 ⟨rfl, hk, v1, hA1, ho1⟩
      have s1 := HX.out.1 W1 { Z with s := v1 } ln rfl hA1
      have HY := Lib.hid (And.intro hk (And.intro hA1 ho1))
      clear hk hA1 ho1
      refine hK.out _ _ (by exact s1) (fun hHeld => ?_)
      clear hK K
      (try simp only [Act.put, List.setIfInBounds_toArray, List.set_cons_zero, List.set_cons_succ, List.getElem_toArray, List.getElem_cons_succ, List.getElem_cons_zero])
      clear s1
      refine takeL (i := 7) (v := ?_) rfl (by kernel_rfl) (by kernel_rfl) (by kernel_rfl) (by kernel_rfl) (by kernel_rfl) (by decide) (fun _ _ _ h => h) (Or.inl ⟨by kernel_rfl, ?_⟩) hHeld ?_
      rotate_left
      · (intro w' hSw; (try dsimp only at hSw); obtain ⟨hS0, hS1⟩ := hSw; go_simp; try with_reducible rfl)
      simp only [Act.put, List.setIfInBounds_toArray, List.set_cons_zero, List.set_cons_succ, List.getElem_toArray, List.getElem_cons_succ, List.getElem_cons_zero]
      refine readyL (rs := [8]) (by kernel_rfl) (by simp) (ReadyL.cons rfl (by decide) (fun K hK => ?_) ReadyL.nil)
      go_simp
      have hA2 := HY.out.2.1.new (w' := W1.alloc (.cells #[.slice none 0 0, .string ⟨#[]⟩, .int .i64 0, .int .u32 0] 26)) ((Below.refl _ _).alloc (Nat.le_refl _) _)
      have s2 := HX.out.1 _ { Z with s := v1 } ln rfl hA2
      clear hA2
      refine hK.out _ _ (by exact s2) (fun hHeld => ?_)
      clear hK K
      (try simp only [Act.put, List.setIfInBounds_toArray, List.set_cons_zero, List.set_cons_succ, List.getElem_toArray, List.getElem_cons_succ, List.getElem_cons_zero])
      clear s2
      refine readyL (rs := [9]) (by kernel_rfl) (by simp) (ReadyL.last rfl (fun K hK => ?_))
      go_simp
      refine hK.out _ _ ?_
      clear hK K
      (try simp only [Act.put, List.setIfInBounds_toArray, List.set_cons_zero, List.set_cons_succ, List.getElem_toArray, List.getElem_cons_succ, List.getElem_cons_zero])
      refine doneL (by kernel_rfl) ?_ _
      obtain ⟨W2, hW2⟩ : ∃ W2, W1.alloc (.cells #[.slice none 0 0, .string ⟨S.data.toArray⟩, .int .i64 ((Pl.roomN S : Nat) : Int), .int .u32 0] 26) = W2 := ⟨_, rfl⟩
      have hb2 : Below W1.heap.size W1 W2 := by rw [← hW2]; exact (Below.refl _ _).alloc (Nat.le_refl _) _
      have hx2 : XB W2 W1.heap.size (.slice none 0 0) S.data (Pl.roomN S : Nat) 0 := by unfold XB; rw [← hW2]; exact heap_alloc_new _ _
      rw [hW2]
      clear hW2
      go_wp2_with fail
      go_meet
      case rel =>
        have hBW1 : B < W1.heap.size := Nat.lt_of_lt_of_le hs0 HY.out.1.size
        have hf := FinAt.new ⟨HY.out.2.1, HY.out.2.2⟩ hb2
        have hLW := (HL0.out.1.trans (LnK.box HY.out.1 HX.out.2.hi)).trans (LnK.low hb2 HY.out.2.1.hi)
        exact ⟨W1.heap.size, { Z with s := v1 }, rfl, hBW1, rfl, rfl, hf, hx2, hLW, (hb2.block B hBW1).trans ((HY.out.1.block B hs0 (by simp; omega)).trans HL0.out.2)⟩
    · skip
      go_simp
      have hA2 := HX.out.2.new (w' := W0.alloc (.cells #[.slice none 0 0, .string ⟨#[]⟩, .int .i64 0, .int .u32 0] 26)) ((Below.refl _ _).alloc (Nat.le_refl _) _)
      have s2 := HX.out.1 _ Z ln rfl hA2
      refine hK.out _ _ (by exact s2) (fun hHeld => ?_)
      clear hK K
      (try simp only [Act.put, List.setIfInBounds_toArray, List.set_cons_zero, List.set_cons_succ, List.getElem_toArray, List.getElem_cons_succ, List.getElem_cons_zero])
      clear s2
      obtain ⟨V, hV⟩ : ∃ V, W0.alloc (.cells #[.slice none 0 0, .string ⟨#[]⟩, .int .i64 0, .int .u32 0] 26) = V := ⟨_, rfl⟩
      obtain ⟨C, hC⟩ : ∃ C, W0.heap.size = C := ⟨_, rfl⟩
      have hz : V.heap[C]? = some (.cells #[.slice none 0 0, .string ⟨#[]⟩, .int .i64 0, .int .u32 0] 26 (0, 0)) := by rw [← hV, ← hC]; exact heap_alloc_new _ _
      have hbV : Below C W0 V := by rw [← hV, ← hC]; exact (Below.refl _ _).alloc (Nat.le_refl _) _
      rw [hV] at hA2 hHeld
      rw [hV, hC]
      rw [hC] at hs0
      have HY := Lib.hid (And.intro hz (And.intro hbV hA2))
      clear hz hbV hA2 hV hC
      refine readyL (rs := [1]) (by kernel_rfl) (by simp) (ReadyL.cons rfl (by decide) (fun K hK => ?_) ReadyL.nil)
      go_simp
      (with_reducible refine (layRooms_any H A ln S Z Y _ HY.out.2.2 HS.out.fin Hs.out).mono ?_)
      rintro x W1 ⟨rfl, hk, v1, hA1, ho1⟩
      have s1 := HX.out.1 W1 { Z with s := v1 } ln rfl hA1
      have HZ := Lib.hid (And.intro hk (And.intro hA1 ho1))
      clear hk hA1 ho1
      refine hK.out _ _ (by exact s1) (fun hHeld => ?_)
      clear hK K
      (try simp only [Act.put, List.setIfInBounds_toArray, List.set_cons_zero, List.set_cons_succ, List.getElem_toArray, List.getElem_cons_succ, List.getElem_cons_zero])
      clear s1
      refine takeL (i := 7) (v := ?_) rfl (by kernel_rfl) (by kernel_rfl) (by kernel_rfl) (by kernel_rfl) (by kernel_rfl) (by decide) (fun _ _ _ h => h) (Or.inl ⟨by kernel_rfl, ?_⟩) hHeld ?_
      rotate_left
      · (intro w' hSw; (try dsimp only at hSw); obtain ⟨hS0, hS1⟩ := hSw; go_simp; try with_reducible rfl)
      simp only [Act.put, List.setIfInBounds_toArray, List.set_cons_zero, List.set_cons_succ, List.getElem_toArray, List.getElem_cons_succ, List.getElem_cons_zero]
      have hz1 := (HZ.out.1.block C (blk_lt HY.out.1) (by simp; omega)).trans HY.out.1
      have j0 : W1.cell? ⟨C, 0, none⟩ = some (.slice none 0 0) := by rw [cell_row W1 C 0 _ _ hz1]; rfl
      have j1 : W1.cell? ⟨C, 1, none⟩ = some (.string ⟨#[]⟩) := by rw [cell_row W1 C 1 _ _ hz1]; rfl
      have j2 : W1.cell? ⟨C, 2, none⟩ = some (.int .i64 0) := by rw [cell_row W1 C 2 _ _ hz1]; rfl
      have j3 : W1.cell? ⟨C, 3, none⟩ = some (.int .u32 0) := by rw [cell_row W1 C 3 _ _ hz1]; rfl
      have i0 := frozen_of W1 C 0 _ _ hz1
      have i1 := frozen_of W1 C 1 _ _ hz1
      have i2 := frozen_of W1 C 2 _ _ hz1
      have i3 := frozen_of W1 C 3 _ _ hz1
      refine readyL (rs := [9]) (by kernel_rfl) (by simp) (ReadyL.last rfl (fun K hK => ?_))
      go_simp
      refine hK.out _ _ ?_
      clear hK K
      (try simp only [Act.put, List.setIfInBounds_toArray, List.set_cons_zero, List.set_cons_succ, List.getElem_toArray, List.getElem_cons_succ, List.getElem_cons_zero])
      refine doneL (by kernel_rfl) ?_ _
      have hg2 : W1.grownBy ((((W1.setCell ⟨C, 0, none⟩ (.slice none 0 0)).setCell ⟨C, 1, none⟩ (.string ⟨S.data.toArray⟩)).setCell ⟨C, 2, none⟩ (.int .i64 ((Pl.roomN S : Nat) : Int))).setCell ⟨C, 3, none⟩ (.int .u32 0)) (some C) := (((grown_cell _ _ _ _).trans (grown_cell _ _ _ _)).trans (grown_cell _ _ _ _)).trans (grown_cell _ _ _ _)
      obtain ⟨W2, hW2⟩ : ∃ W2, (((W1.setCell ⟨C, 0, none⟩ (.slice none 0 0)).setCell ⟨C, 1, none⟩ (.string ⟨S.data.toArray⟩)).setCell ⟨C, 2, none⟩ (.int .i64 ((Pl.roomN S : Nat) : Int))).setCell ⟨C, 3, none⟩ (.int .u32 0) = W2 := ⟨_, rfl⟩
      have hx2 : XB W2 C (.slice none 0 0) S.data (Pl.roomN S : Nat) 0 := by
        unfold XB
        rw [← hW2, set_at _ C 3 _ _ _ (set_at _ C 2 _ _ _ (set_at _ C 1 _ _ _ (set_at W1 C 0 _ _ _ hz1)))]
        rfl
      rw [hW2] at hg2 ⊢
      clear hW2 j0 j1 j2 j3 i0 i1 i2 i3
      go_wp2_with fail
      go_meet
      case rel =>
        have hf := FinAt.typed ⟨HZ.out.2.1, HZ.out.2.2⟩ hg2 hz1 (by decide) (by decide) (by decide) (by decide)
        have hCV := blk_lt HY.out.1
        have hHV := HY.out.2.2.hi
        have hk2 : LnK W1 W2 H A Z.n := LnK.grown hg2 (Nat.le_trans hHV HZ.out.1.size) (fun g hg => by cases hg; omega)
        have hBC : B < V.heap.size := Nat.lt_trans hs0 hCV
        exact ⟨C, { Z with s := v1 }, rfl, hs0, rfl, rfl, hf, hx2, ((HL0.out.1.trans (LnK.low HY.out.2.1 (by omega))).trans (LnK.box HZ.out.1 hHV)).trans hk2, (hg2.block B (Nat.lt_of_lt_of_le hBC HZ.out.1.size) (by simp; omega)).trans ((HZ.out.1.block B hBC (by simp; omega)).trans ((HY.out.2.1.block B hs0).trans HL0.out.2))⟩
  case rest =>
    obtain ⟨C, Z', rfl, hBC, hn', hy', hf0, hx0, hL0, hB0⟩ := hcut
    obtain ⟨w1, rfl⟩ : ∃ w1, w1 = wc := ⟨_, rfl⟩
    have HLw := Lib.hid (LnK.low (H := H) (A := A) (N := Z.n) HW.out.2 HA.out.hi)
    have hAC : A < C := by omega
    have hw1 : A < w1.heap.size := hf0.at_.box.lt
    obtain ⟨pA, pc, hpe⟩ := own_form' hf0.at_.pcs
    have hp2 := hf0.at_.box.c2
    rw [hpe] at hp2
    obtain ⟨n, hn⟩ : ∃ n, S.pcs.length = n := ⟨_, rfl⟩
    rw [hn] at hp2
    have hnl : n ≤ 900000 := by rw [← hn]; exact HS.out.fin.ok.pcs
    have hCl := blk_lt hx0
    obtain ⟨D1, hD1⟩ : ∃ D1, w1.heap.size = D1 := ⟨_, rfl⟩
    rw [hD1] at hCl
    have HP := Lib.hid (And.intro hn hpe)
    have HF := Lib.hid (And.intro hf0 (And.intro hx0 (And.intro hL0 (And.intro hB0 hD1))))
    have HZ := Lib.hid (And.intro hn' hy')
    clear hn hpe hf0 hx0 hL0 hB0 hn' hy' hD1
    go_wp2_with fail
    go_loopw [21] (fun i wr => ∃ (k lk : Nat) (ws : List Nat) (v : Value), k ≤ n ∧ i = .int .i64 (k : Int) ∧ FinAt wr H A lk S Z' Y ∧ XB wr C v S.data (Pl.roomN S : Nat) 0 ∧ wr.ownsRow D1 24 1 v k (w32s ws) ∧ Hid (ws.length = k) ∧ LnK w1 wr H A Z.n ∧ wr.heap[B]? = w1.heap[B]? ∧ D1 ≤ wr.heap.size ∧ Hid (joinW ws (Pl.wordsP S k (S.pcs.drop k)) = Pl.wordsP S 0 S.pcs)) (fun i _ => n - (intOf i).toNat)
    case atStart => exact ⟨0, ln, [], .slice none 0 0, by omega, rfl, HF.out.1, HF.out.2.1, ⟨rfl, .inl ⟨rfl, rfl⟩⟩, Lib.hid rfl, LnK.refl _ _ _ _, rfl, Nat.le_of_eq HF.out.2.2.2.2.symm, Lib.hid (by rw [List.drop_zero]; cases Pl.wordsP S 0 S.pcs <;> rfl)⟩
    case round =>
      obtain ⟨k, lk, ws, v, hk, rfl, hf, hx, hown, hwl, hL, hBB, hDs, HK⟩ := hrel
      obtain ⟨vA, vc, rfl⟩ := own_form' hown
      by_cases hkn : k < n
      · have hkl : k < S.pcs.length := by rw [HP.out.1]; exact hkn
        have hRd := hf.at_.pcs
        rw [HP.out.2] at hRd
        obtain ⟨b, off, hbq, hbl, hrng⟩ := (Rd.own hRd).pc rfl hkl
        subst hbq
        obtain ⟨p, hp⟩ : ∃ p, S.pcs[k] = p := ⟨_, rfl⟩
        have hstep := joinW_step S k S.pcs hkl ws
        rw [hp] at hrng hstep
        have hpok := HS.out.pcs p (by rw [← hp]; exact List.getElem_mem hkl)
        obtain ⟨L, hL'⟩ : ∃ L, pcL p = L := ⟨_, rfl⟩
        have hLl : L.length = 11 := by rw [← hL']; rfl
        have hL1 := pcL_one p
        rw [hL'] at hrng hL1
        have hi1 : (Tryz.prog.info? 126).map (·.size) = some L.length := by rw [hLl]; exact info_pc
        have hi2 : (Tryz.prog.info? 126).map (·.size) = some L.toArray.size := by rw [List.size_toArray, hLl]; exact info_pc
        have hT : (wr.alloc (.cells zPc 126)).there wr.heap.size 0 L.toArray.size := thereA (heap_alloc_new _ _) (by rw [List.size_toArray, hLl]; exact Nat.le_refl _)
        unfold zPc at hT
        have HE := Lib.hid (fun U l1 hU => encode_any H A l1 S Z' Y p k U hU HS.out.fin hpok (by omega) (fun v hv => HS.out.places _ v hv))
        have HI := Lib.hid (And.intro hrng (And.intro hi1 (And.intro hi2 (And.intro hT (And.intro (all_oneCell_toArray hL1) (And.intro hL' hLl))))))
        have HN := Lib.hid (And.intro hf (And.intro hx (And.intro hown (And.intro hL (And.intro hBB hstep)))))
        have hwr := hf.at_.box.lt
        clear hRd hp hpok hL' hLl hL1 hi1 hi2 hrng hT hf hx hown hL hBB hstep hp2
        go_upto_region 5 with (first | (with_reducible refine wpList_load_mid rfl 126 (.tmp 24) rfl b _ rfl L _ HI.out.1 Tryz.underlying126 rfl HI.out.2.1 ?_) | (with_reducible refine wpList_store_mid rfl 126 (.tmp 5) (.tmp 25) rfl wr.heap.size 0 L.toArray rfl rfl HI.out.2.2.2.1 HI.out.2.2.1 HI.out.2.2.2.2.1 ?_))
        obtain ⟨V, hV⟩ : ∃ V, (wr.alloc (.cells zPc 126)).setCells wr.heap.size 0 L = V := ⟨_, rfl⟩
        obtain ⟨G, hG⟩ : ∃ G, wr.heap.size = G := ⟨_, rfl⟩
        have hzV : V.heap[G]? = some (.cells L.toArray 126 (0, 0)) := by
          rw [← hV, ← hG]
          exact heap_setCells_all (C := zPc.toList) (heap_alloc_new _ _) (by rw [HI.out.2.2.2.2.2.2]; rfl)
        have hbV : Below wr.heap.size wr V := by
          rw [← hV]
          exact ((Below.refl _ _).alloc (Nat.le_refl _) _).trans (Lib.below_setCells_w (Nat.le_refl _) _ _ _)
        have hCG : C < G := by omega
        have hfV := HN.out.1.new hbV
        have hxV : XB V C (.slice vA k vc) S.data (Pl.roomN S : Nat) 0 := (hbV.block C (by omega)).trans HN.out.2.1
        have howV := own_below HN.out.2.2.1 hbV
        have hLV : LnK w1 V H A Z.n := HN.out.2.2.2.1.trans (LnK.low hbV HN.out.1.at_.hi)
        have hBV : V.heap[B]? = w1.heap[B]? := (hbV.block B (by omega)).trans HN.out.2.2.2.2.1
        have hGV := blk_lt hzV
        rw [show (wr.alloc (.cells #[.int .i64 0, .int .u8 0, .int .u8 0, .int .u8 0, .int .u8 0, .int .i32 0, .bool false, .int .u32 0, .bool false, .string ⟨#[]⟩, .int .i64 0] 126)).setCells wr.heap.size 0 L.toArray.toList = V from hV]
        obtain ⟨V0, hV0⟩ : ∃ V0, V.drew = V0 := ⟨_, rfl⟩
        have hbd : Below V.heap.size V V0 := by rw [← hV0]; exact (Below.refl _ _).drew
        have hf0 := hfV.new hbd
        have hx0 : XB V0 C (.slice vA k vc) S.data (Pl.roomN S : Nat) 0 := (hbd.block C (by omega)).trans hxV
        have ho0 := own_below howV hbd
        have hz0 : V0.heap[G]? = some (.cells L.toArray 126 (0, 0)) := (hbd.block G hGV).trans hzV
        have hL0' : LnK w1 V0 H A Z.n := hLV.trans (LnK.low hbd hfV.at_.hi)
        have hB0' : V0.heap[B]? = w1.heap[B]? := (hbd.block B (by omega)).trans hBV
        have hD0 : D1 ≤ V0.heap.size := Nat.le_trans (Nat.le_trans hDs hbV.size) hbd.size
        have s0 : V.drew.cell? ⟨C, 0, none⟩ = some (.slice vA k vc) ∧ V.drew.rangeAt G 0 L := by
          rw [hV0]
          exact ⟨by rw [cell_row V0 C 0 _ _ hx0]; rfl, rangeA hz0⟩
        have HM := Lib.hid (And.intro hf0 (And.intro hx0 (And.intro ho0 (And.intro hz0 (And.intro hL0' hB0')))))
        have HNs := Lib.hid HN.out.2.2.2.2.2
        rw [hG]
        clear hzV hbV hfV hxV howV hLV hBV hGV hV hf0 hx0 ho0 hz0 hL0' hB0' hbd HN
        have hi1 := HI.out.2.1
        refine wp_regionL 9 (fun w' => w'.cell? ⟨C, 0, none⟩ = some (.slice vA k vc) ∧ w'.rangeAt G 0 L) (by kernel_rfl) (by exact s0) (fun hHeld => ?_)
        refine takeL (i := 0) (v := ?_) rfl (by kernel_rfl) (by kernel_rfl) (by kernel_rfl) (by kernel_rfl) (by kernel_rfl) (by decide) (fun _ _ _ h => h) (Or.inl ⟨by kernel_rfl, ?_⟩) hHeld ?_
        rotate_left
        · (intro w' hSw; (try dsimp only at hSw); obtain ⟨hS0, hS1⟩ := hSw; go_simp; try with_reducible rfl)
        simp only [Act.put, List.setIfInBounds_toArray, List.set_cons_zero, List.set_cons_succ, List.getElem_toArray, List.getElem_cons_succ, List.getElem_cons_zero]
        refine takeL (i := 1) (v := ?_) rfl (by kernel_rfl) (by kernel_rfl) (by kernel_rfl) (by kernel_rfl) (by kernel_rfl) (by decide) (fun _ _ _ h => h) (Or.inl ⟨by kernel_rfl, ?_⟩) hHeld ?_
        rotate_left
        · (intro w' hSw; (try dsimp only at hSw); obtain ⟨hS0, hS1⟩ := hSw; go_simp; try with_reducible rfl)
        simp only [Act.put, List.setIfInBounds_toArray, List.set_cons_zero, List.set_cons_succ, List.getElem_toArray, List.getElem_cons_succ, List.getElem_cons_zero]
        refine takeL (i := 2) (v := ?_) rfl (by kernel_rfl) (by kernel_rfl) (by kernel_rfl) (by kernel_rfl) (by kernel_rfl) (by decide) (fun _ _ _ h => h) (Or.inl ⟨by kernel_rfl, ?_⟩) hHeld ?_
        rotate_left
        · (intro w' hSw; (try dsimp only at hSw); obtain ⟨hS0, hS1⟩ := hSw; go_simp; try with_reducible rfl)
        simp only [Act.put, List.setIfInBounds_toArray, List.set_cons_zero, List.set_cons_succ, List.getElem_toArray, List.getElem_cons_succ, List.getElem_cons_zero]
        refine takeL (i := 3) (v := .agg (L).toArray) rfl (by kernel_rfl) (by kernel_rfl) (by kernel_rfl) (by kernel_rfl) (by kernel_rfl) (by decide) (fun _ _ _ h => h) (yieldsIf_load_mid (by kernel_rfl) 126 _ rfl (G) (0) rfl L _ (fun _ h => h.2) Tryz.underlying126 rfl hi1) hHeld ?_
        simp only [Act.put, List.setIfInBounds_toArray, List.set_cons_zero, List.set_cons_succ, List.getElem_toArray, List.getElem_cons_succ, List.getElem_cons_zero]
        refine takeL (i := 4) (v := ?_) rfl (by kernel_rfl) (by kernel_rfl) (by kernel_rfl) (by kernel_rfl) (by kernel_rfl) (by decide) (fun _ _ _ h => h) (Or.inl ⟨by kernel_rfl, ?_⟩) hHeld ?_
        rotate_left
        · (intro w' hSw; (try dsimp only at hSw); obtain ⟨hS0, hS1⟩ := hSw; go_simp; try with_reducible rfl)
        simp only [Act.put, List.setIfInBounds_toArray, List.set_cons_zero, List.set_cons_succ, List.getElem_toArray, List.getElem_cons_succ, List.getElem_cons_zero]
        rw [hV0] at s0 hHeld ⊢
        clear hV0
        refine readyL (rs := [5]) (by kernel_rfl) (by simp) (ReadyL.cons rfl (by decide) (fun K hK => ?_) ReadyL.nil)
        go_simp
        have HC := HE.out V0 lk HM.out.1
        rw [HI.out.2.2.2.2.2.1] at HC
        (with_reducible refine HC.mono ?_)
        rintro x w5 ⟨hg5, h⟩
        have hst := HNs.out
        obtain ⟨E, hE⟩ : ∃ E, Pl.encP S p k = E := ⟨_, rfl⟩
        rw [hE] at h hst
        rcases E with e | u
        · obtain rfl := h
          have hr := HR.out
          unfold Pl.progP at hr
          rw [← HK.out, hst] at hr
          simp only at hr
          subst hr
          exact ⟨rfl, ((HLw.out.trans HF.out.2.2.1).trans HM.out.2.2.2.2.1).trans (LnK.box hg5 HM.out.1.at_.hi), rfl⟩
        obtain ⟨rfl, hf5⟩ := h
        have hx5 : XB w5 C (.slice vA k vc) S.data (Pl.roomN S : Nat) 0 := (hg5.block C (blk_lt HM.out.2.1) (by simp; omega)).trans HM.out.2.1
        have hz5 := (hg5.block G (blk_lt HM.out.2.2.2.1) (by simp; omega)).trans HM.out.2.2.2.1
        have ho5 := own_type HM.out.2.2.1 hg5 (fun cur hc => by
          rw [HM.out.1.at_.box.at_] at hc
          injection hc with hc
          injection hc with _ hc
          exact absurd hc (by decide))
        have hL5 := HM.out.2.2.2.2.1.trans (LnK.box (N := Z.n) hg5 HM.out.1.at_.hi)
        have hB5 := (hg5.block B (by omega) (by simp; omega)).trans HM.out.2.2.2.2.2
        have hD5 := Nat.le_trans hD0 hg5.size
        have hC5 : C < w5.heap.size := blk_lt hx5
        have s5 : w5.cell? ⟨C, 0, none⟩ = some (.slice vA k vc) ∧ w5.rangeAt G 0 L := ⟨by rw [cell_row w5 C 0 _ _ hx5]; rfl, rangeA hz5⟩
        have HK2 : Hid (joinW (ws ++ [u]) (Pl.wordsP S (k + 1) (S.pcs.drop (k + 1))) = Pl.wordsP S 0 S.pcs) := Lib.hid (by rw [← HK.out, hst])
        have H5 := Lib.hid (And.intro hf5 (And.intro hx5 (And.intro hz5 (And.intro ho5 (And.intro hL5 hB5)))))
        clear hf5 hx5 hz5 ho5 hL5 hB5 hst hE hg5 HC HNs
        refine hK.out _ _ (by exact s5) (fun hHeld => ?_)
        clear hK K
        (try simp only [Act.put, List.setIfInBounds_toArray, List.set_cons_zero, List.set_cons_succ, List.getElem_toArray, List.getElem_cons_succ, List.getElem_cons_zero])
        refine readyL (rs := [6]) (by kernel_rfl) (by simp) (ReadyL.cons rfl (by decide) (fun K hK => ?_) ReadyL.nil)
        go_simp
        obtain ⟨w6, hw6⟩ : ∃ w6, w5.alloc (.cells #[.int .u32 (u : Int)] 24) = w6 := ⟨_, rfl⟩
        have hb6 : Below w5.heap.size w5 w6 := by rw [← hw6]; exact (Below.refl _ _).alloc (Nat.le_refl _) _
        have hu6 : w6.cell? ⟨w5.heap.size, 0 + 0, none⟩ = some (.int .u32 (u : Int)) := by rw [← hw6, cell_row _ _ _ _ _ (heap_alloc_new _ _)]; rfl
        have hUl : w5.heap.size < w6.heap.size := by rw [← hw6]; simp
        rw [hw6]
        have hf6 := H5.out.1.new hb6
        have hx6 : XB w6 C (.slice vA k vc) S.data (Pl.roomN S : Nat) 0 := (hb6.block C hC5).trans H5.out.2.1
        have hz6 := (hb6.block G (blk_lt H5.out.2.2.1)).trans H5.out.2.2.1
        have ho6 := own_below H5.out.2.2.2.1 hb6
        have hL6 := H5.out.2.2.2.2.1.trans (LnK.low (N := Z.n) (A := A) hb6 H5.out.1.at_.hi)
        have hB6 := (hb6.block B (by omega)).trans H5.out.2.2.2.2.2
        have hD6 := Nat.le_trans hD5 hb6.size
        have s6 : w6.cell? ⟨C, 0, none⟩ = some (.slice vA k vc) ∧ w6.rangeAt G 0 L := ⟨by rw [cell_row w6 C 0 _ _ hx6]; rfl, rangeA hz6⟩
        have H6 := Lib.hid (And.intro hf6 (And.intro hx6 (And.intro hz6 (And.intro ho6 (And.intro hL6 hB6)))))
        clear hf6 hx6 hz6 ho6 hL6 hB6 hw6 hb6 s5
        refine hK.out _ _ (by exact s6) (fun hHeld => ?_)
        clear hK K
        (try simp only [Act.put, List.setIfInBounds_toArray, List.set_cons_zero, List.set_cons_succ, List.getElem_toArray, List.getElem_cons_succ, List.getElem_cons_zero])
        refine readyL (rs := [7]) (by kernel_rfl) (by simp) (ReadyL.cons rfl (by decide) (fun K hK => ?_) ReadyL.nil)
        have hRu : Rd w6 1 (some ⟨w5.heap.size, 0, none⟩) 1 [.int .u32 (u : Int)] := ⟨rfl, fun _ => ⟨_, 0, rfl, hUl, fun j hj => by
          have : j = 0 := by simp at hj; exact hj
          subst this
          exact hu6⟩⟩
        refine step_push_a rfl (.tmp 27) (.tmp 32) 23 rfl D1 24 (.int .u32 0) 1 4 Tryz.underlying23 info_u32w rfl (by decide) w6 _ k _ (some ⟨w5.heap.size, 0, none⟩) 1 1 [.int .u32 (u : Int)] rfl H6.out.2.2.2.1 rfl hRu (by intro h; cases h) (by intro v hv; simp at hv; subst hv; rfl) (by omega) (by decide) hD6 ?_
        intro v7 w7 ho7 hb7 hblk7
        obtain ⟨vA7, vc7, rfl⟩ := own_form' ho7
        have hf7 := HF.out.1.low H6.out.1 hb7 (Nat.le_of_eq HF.out.2.2.2.2)
        have hx7 : XB w7 C (.slice vA k vc) S.data (Pl.roomN S : Nat) 0 := (hb7.block C hCl).trans H6.out.2.1
        have hL7 := H6.out.2.2.2.2.1.trans (LnK.low (N := Z.n) (A := A) hb7 (by omega))
        have hB7 := (hb7.block B (by omega)).trans H6.out.2.2.2.2.2
        have hD7 := Nat.le_trans hD6 hb7.size
        have hnG : (Value.slice vA k vc).ownBlock ≠ some G := fun e => by
          obtain ⟨cur, hc⟩ := own_blk H6.out.2.2.2.1 e
          rw [H6.out.2.2.1] at hc
          injection hc with hc
          injection hc with _ hc
          exact absurd hc (by decide)
        have hz7 := (hblk7 G (blk_lt H6.out.2.2.1) hnG).trans H6.out.2.2.1
        have s7 : w7.cell? ⟨C, 0, none⟩ = some (.slice vA k vc) ∧ w7.rangeAt G 0 L := ⟨by rw [cell_row w7 C 0 _ _ hx7]; rfl, rangeA hz7⟩
        have fC := frozen_of w7 C 0 _ _ hx7
        have hC7 : C < w7.heap.size := blk_lt hx7
        have H7 := Lib.hid (And.intro hf7 (And.intro hx7 (And.intro ho7 (And.intro hL7 (And.intro hB7 hD7)))))
        clear hf7 hx7 ho7 hL7 hB7 hD7 hz7 hnG hblk7 hb7 hRu hu6 hUl s6
        refine hK.out _ _ (by exact s7) (fun hHeld => ?_)
        clear hK K
        (try simp only [Act.put, List.setIfInBounds_toArray, List.set_cons_zero, List.set_cons_succ, List.getElem_toArray, List.getElem_cons_succ, List.getElem_cons_zero])
        refine takeL (i := 8) (v := ?_) rfl (by kernel_rfl) (by kernel_rfl) (by kernel_rfl) (by kernel_rfl) (by kernel_rfl) (by decide) (fun _ _ _ h => h) (Or.inl ⟨by kernel_rfl, ?_⟩) hHeld ?_
        rotate_left
        · (intro w' hSw; (try dsimp only at hSw); go_simp; try with_reducible rfl)
        simp only [Act.put, List.setIfInBounds_toArray, List.set_cons_zero, List.set_cons_succ, List.getElem_toArray, List.getElem_cons_succ, List.getElem_cons_zero]
        refine readyL (rs := [9]) (by kernel_rfl) (by simp) (ReadyL.last rfl (fun K hK => ?_))
        go_simp
        refine hK.out _ _ ?_
        clear hK K
        (try simp only [Act.put, List.setIfInBounds_toArray, List.set_cons_zero, List.set_cons_succ, List.getElem_toArray, List.getElem_cons_succ, List.getElem_cons_zero])
        refine doneL (by kernel_rfl) ?_ _
        have hg8 := grown_cell w7 C 0 (.slice vA7 (k + 1) vc7)
        have hf8 := H7.out.1.typed hg8 H7.out.2.1 (by decide) (by decide) (by decide) (by decide)
        have hx8 : XB (w7.setCell ⟨C, 0, none⟩ (.slice vA7 (k + 1) vc7)) C (.slice vA7 (k + 1) vc7) S.data (Pl.roomN S : Nat) 0 := by
          unfold XB
          rw [set_at w7 C 0 _ _ _ H7.out.2.1]
          rfl
        have ho8 := own_type H7.out.2.2.1 hg8 (fun cur hc => by
          rw [H7.out.2.1] at hc
          injection hc with hc
          injection hc with _ hc
          exact absurd hc (by decide))
        have hL8 := H7.out.2.2.2.1.trans (LnK.grown (N := Z.n) (A := A) hg8 (by have := H7.out.2.2.2.2.2; omega) (fun g hg => by cases hg; omega))
        have hB8 := (hg8.block B (by omega) (by simp; omega)).trans H7.out.2.2.2.2.1
        have hD8 := Nat.le_trans H7.out.2.2.2.2.2 hg8.size
        have H8 := Lib.hid (And.intro hf8 (And.intro hx8 (And.intro ho8 (And.intro hL8 (And.intro hB8 hD8)))))
        clear hg8 hf8 hx8 ho8 hL8 hB8 hD8 s7
        go_wp2_with fail
        refine ⟨⟨k + 1, p.line, ws ++ [u], .slice vA7 (k + 1) vc7, by omega, ret_i (by omega), H8.out.1, H8.out.2.1, by rw [w32_app]; exact H8.out.2.2.1, Lib.hid (by rw [List.length_append, hwl.out]; rfl), H8.out.2.2.2.1, H8.out.2.2.2.2.1, H8.out.2.2.2.2.2, HK2⟩, by simp only [intOf]; omega⟩
      · have hkn2 : k = n := by omega
        have HKf : Hid (Pl.wordsP S 0 S.pcs = .ok ws) := Lib.hid (by
          have h := HK.out
          rw [List.drop_eq_nil_of_le (by rw [HP.out.1]; omega)] at h
          rw [← h]
          simp [Pl.wordsP, joinW])
        have HN := Lib.hid (And.intro hf (And.intro hx (And.intro hown (And.intro hL hBB))))
        have h6 := hf.at_.box.c6
        have hAr := hf.at_.box.lt
        have hlk := hf.at_.names.look_ok Tryz.underlying61 (zero_pl wr) (m := Pl.wStart) (by decide)
        rw [nmsV_look] at hlk
        clear hf hx hown hL hBB HK
        rw [HZ.out.1] at h6 hlk
        obtain ⟨v, hv⟩ : ∃ v, Pl.lookN Pl.wStart S.names = v := ⟨_, rfl⟩
        rw [hv] at hlk
        unfold Pl.wStart at hlk
        have HV := Lib.hid hv
        clear hv
        have hwl2 : ws.length = n := by rw [hwl.out, hkn2]
        have HKN := Lib.hid (And.intro hkn2 hwl2)
        have x0 : wr.cell? ⟨C, 0, none⟩ = some (.slice vA k vc) := by rw [cell_row wr C 0 _ _ HN.out.2.1]; rfl
        have x1 : wr.cell? ⟨C, 1, none⟩ = some (.string ⟨S.data.toArray⟩) := by rw [cell_row wr C 1 _ _ HN.out.2.1]; rfl
        have x2 : wr.cell? ⟨C, 2, none⟩ = some (.int .i64 ((Pl.roomN S : Nat) : Int)) := by rw [cell_row wr C 2 _ _ HN.out.2.1]; rfl
        have x3 : wr.cell? ⟨C, 3, none⟩ = some (.int .u32 0) := by rw [cell_row wr C 3 _ _ HN.out.2.1]; rfl
        have hzB : wr.heap[B]? = some (.cells #[.slice none 0 0, .string ⟨#[]⟩, .int .i64 0, .int .u32 0] 26 (0, 0)) := HN.out.2.2.2.2.trans (HF.out.2.2.2.1.trans HW.out.1)
        have y0 : wr.cell? ⟨B, 0, none⟩ = some (.slice none 0 0) := by rw [cell_row wr B 0 _ _ hzB]; rfl
        have y1 : wr.cell? ⟨B, 1, none⟩ = some (.string ⟨#[]⟩) := by rw [cell_row wr B 1 _ _ hzB]; rfl
        have y2 : wr.cell? ⟨B, 2, none⟩ = some (.int .i64 0) := by rw [cell_row wr B 2 _ _ hzB]; rfl
        have y3 : wr.cell? ⟨B, 3, none⟩ = some (.int .u32 0) := by rw [cell_row wr B 3 _ _ hzB]; rfl
        have g0 := frozen_of wr B 0 _ _ hzB
        have g1 := frozen_of wr B 1 _ _ hzB
        have g2 := frozen_of wr B 2 _ _ hzB
        have g3 := frozen_of wr B 3 _ _ hzB
        have hBl := blk_lt hzB
        have hCl2 : C < wr.heap.size := by omega
        have HZB := Lib.hid hzB
        clear hzB hkn2 hwl2 hk
        -- whatever was made beside: the result
        have HFIN : Hid (∀ (U Wf0 Wf : World) (e : Nat), Below wr.heap.size wr U ∨ (∃ U1, Below wr.heap.size wr U1 ∧ U1.grownBy U (some C)) → U.heap[B]? = wr.heap[B]? → (((U.setCell ⟨B, 0, none⟩ (.slice vA k vc)).setCell ⟨B, 1, none⟩ (.string ⟨S.data.toArray⟩)).setCell ⟨B, 2, none⟩ (.int .i64 ((Pl.roomN S : Nat) : Int))).setCell ⟨B, 3, none⟩ (.int .u32 (e : Int)) = Wf0 → Below Wf0.heap.size Wf0 Wf → Pl.entryN S = e →
            Wf.heap[B]? = some (.cells [.slice vA k vc, .string ⟨S.data.toArray⟩, .int .i64 ((Pl.roomN S : Nat) : Int), .int .u32 (e : Int)].toArray 26 (0, 0)) ∧ ProgQ w H A Z R (.returned (.agg [.slice vA k vc, .string ⟨S.data.toArray⟩, .int .i64 ((Pl.roomN S : Nat) : Int), .int .u32 (e : Int)].toArray)) Wf) := by
          intro U Wf0 Wf e hU hUB hW' hbf hen
          have hzU := hUB.trans HZB.out
          have hgB : U.grownBy Wf0 (some B) := by
            rw [← hW']
            exact (((grown_cell _ _ _ _).trans (grown_cell _ _ _ _)).trans (grown_cell _ _ _ _)).trans (grown_cell _ _ _ _)
          have hHw := HN.out.1.at_.hi
          have hUo : LnK wr U H A Z.n ∧ U.ownsRow D1 24 1 (.slice vA k vc) k (w32s ws) := by
            rcases hU with hU | ⟨U1, h1, h2⟩
            · exact ⟨LnK.low hU hHw, own_below HN.out.2.2.1 hU⟩
            · have hx1 : XB U1 C (.slice vA k vc) S.data (Pl.roomN S : Nat) 0 := (h1.block C hCl2).trans HN.out.2.1
              refine ⟨(LnK.low h1 hHw).trans (LnK.grown h2 (Nat.le_trans hHw h1.size) (fun g hg => by cases hg; omega)), own_type (own_below HN.out.2.2.1 h1) h2 fun cur hc => ?_⟩
              rw [hx1] at hc
              injection hc with hc
              injection hc with _ hc
              exact absurd hc (by decide)
          refine ⟨?_, ((((HLw.out.trans HF.out.2.2.1).trans HN.out.2.2.2.1).trans hUo.1).trans (LnK.grown hgB (Nat.le_trans hHw hUo.1.size) (fun g hg => by cases hg; omega))).trans (LnK.low hbf (Nat.le_trans (Nat.le_trans hHw hUo.1.size) hgB.size)), ?_⟩
          · rw [hbf.block B (by have := blk_lt hzU; have := hgB.size; omega), ← hW', set_at _ B 3 _ _ _ (set_at _ B 2 _ _ _ (set_at _ B 1 _ _ _ (set_at U B 0 _ _ _ hzU)))]
            rfl
          · rw [← HR.out]
            unfold Pl.progP
            rw [HKf.out, hen]
            refine ⟨vA, vc, ?_, ?_⟩
            · unfold xeV
              simp only [hwl.out]
            · have ho := own_base (own_below (own_type hUo.2 hgB fun cur hc => by
                rw [hzU] at hc
                injection hc with hc
                injection hc with _ hc
                exact absurd hc (by decide)) hbf) (b' := w.heap.size) (by rw [HBw.out]; omega)
              simp only [hwl.out]
              exact ho
        rcases v with _ | ⟨q1, q2⟩
        · simp only [Option.map_none, Option.getD_none, Option.isSome_none] at hlk
          have hen : Hid (Pl.entryN S = 0) := Lib.hid (by unfold Pl.entryN; rw [HV.out])
          go_wp2_with fail
          generalize hWf : World.setCell (World.setCell (World.setCell (World.setCell _ _ _) _ _) _ _) _ _ = Wf0
          have hfin := HFIN.out wr Wf0 (Wf0.alloc (.cells #[.int .i64 0, .int .i64 0] 129)) 0 (.inl (Below.refl _ _)) rfl hWf ((Below.refl _ _).alloc (Nat.le_refl _) _) hen.out
          refine bodyPost_ret (v := .agg [.slice vA k vc, .string ⟨S.data.toArray⟩, .int .i64 ((Pl.roomN S : Nat) : Int), .int .u32 0].toArray) (resultsA (cs := [.slice vA k vc, .string ⟨S.data.toArray⟩, .int .i64 ((Pl.roomN S : Nat) : Int), .int .u32 0]) rfl rfl (rangeA hfin.1) Tryz.underlying26 rfl info_exe4) rfl hfin.2
        · simp only [Option.map_some, Option.getD_some, Option.isSome_some, plV] at hlk
          by_cases hq : q1 = 0
          · subst hq
            have hpk := HS.out.places _ _ HV.out
            have hle : 4 * q2 ≤ 3600000 := by have := hpk.t rfl; simp only at this; omega
            have hen : Hid (Pl.entryN S = 4 * q2) := Lib.hid (by unfold Pl.entryN Pl.addrP; rw [HV.out]; simp)
            have HCA : Hid (∀ U, FinAt U H A lk S Z' Y → Calls Tryz.prog 71 #[.pointer (some ⟨A, 0, none⟩), .agg #[.int .i64 0, .int .i64 (q2 : Int)]] U (RetB (fun x _ => x = .int .i64 (4 * (q2 : Int))) U)) := Lib.hid fun U hU => by
              have h := address_any H A lk S Z' Y (0, q2) U hU HS.out.fin hpk
              have ha : Pl.addrP S (0, q2) = 4 * q2 := by unfold Pl.addrP; simp
              rw [ha, Int.natCast_mul] at h
              exact h
            clear hpk
            go_wp2_with fail
            obtain ⟨U, hU⟩ : ∃ U, wr.alloc (.cells #[.int .i64 0, .int .i64 (q2 : Int)] 129) = U := ⟨_, rfl⟩
            have hbU : Below wr.heap.size wr U := by rw [← hU]; exact (Below.refl _ _).alloc (Nat.le_refl _) _
            rw [hU]
            (with_reducible refine (HCA.out U (HN.out.1.new hbU)).mono ?_)
            rintro e U1 ⟨v, rfl, rfl, hb1⟩
            have hbU1 := hbU.trans (hb1.mono hbU.size)
            have hxU : XB U1 C (.slice vA k vc) S.data (Pl.roomN S : Nat) 0 := (hbU1.block C hCl2).trans HN.out.2.1
            have hzU : U1.heap[B]? = _ := (hbU1.block B hBl).trans HZB.out
            have x0 : U1.cell? ⟨C, 0, none⟩ = some (.slice vA k vc) := by rw [cell_row U1 C 0 _ _ hxU]; rfl
            have x1 : U1.cell? ⟨C, 1, none⟩ = some (.string ⟨S.data.toArray⟩) := by rw [cell_row U1 C 1 _ _ hxU]; rfl
            have x2 : U1.cell? ⟨C, 2, none⟩ = some (.int .i64 ((Pl.roomN S : Nat) : Int)) := by rw [cell_row U1 C 2 _ _ hxU]; rfl
            have x3 : U1.cell? ⟨C, 3, none⟩ = some (.int .u32 0) := by rw [cell_row U1 C 3 _ _ hxU]; rfl
            have y0 : U1.cell? ⟨B, 0, none⟩ = some (.slice none 0 0) := by rw [cell_row U1 B 0 _ _ hzU]; rfl
            have y1 : U1.cell? ⟨B, 1, none⟩ = some (.string ⟨#[]⟩) := by rw [cell_row U1 B 1 _ _ hzU]; rfl
            have y2 : U1.cell? ⟨B, 2, none⟩ = some (.int .i64 0) := by rw [cell_row U1 B 2 _ _ hzU]; rfl
            have y3 : U1.cell? ⟨B, 3, none⟩ = some (.int .u32 0) := by rw [cell_row U1 B 3 _ _ hzU]; rfl
            have g0 := frozen_of U1 B 0 _ _ hzU
            have g1 := frozen_of U1 B 1 _ _ hzU
            have g2 := frozen_of U1 B 2 _ _ hzU
            have g3 := frozen_of U1 B 3 _ _ hzU
            have fC := frozen_of U1 C 3 _ _ hxU
            have hBU := blk_lt hzU
            have hCU := blk_lt hxU
            have HU := Lib.hid (And.intro hbU1 (And.intro hxU hzU))
            clear hbU1 hxU hzU hb1 hbU hU
            go_wp2_with fail
            generalize hWf : World.setCell (World.setCell (World.setCell (World.setCell _ _ _) _ _) _ _) _ _ = Wf0
            rw [show (4 : Int) * (q2 : Int) = ((4 * q2 : Nat) : Int) by omega] at hWf
            have hfin := HFIN.out (U1.setCell ⟨C, 3, none⟩ (.int .u32 ((4 * q2 : Nat) : Int))) Wf0 Wf0 (4 * q2) (.inr ⟨U1, HU.out.1, grown_cell _ _ _ _⟩) ((Below.heap_setCell _ _ _ _ (by show B ≠ C; omega)).trans (HU.out.1.block B hBl)) hWf (Below.refl _ _) hen.out
            refine bodyPost_ret (v := .agg [.slice vA k vc, .string ⟨S.data.toArray⟩, .int .i64 ((Pl.roomN S : Nat) : Int), .int .u32 ((4 * q2 : Nat) : Int)].toArray) (resultsA (cs := [.slice vA k vc, .string ⟨S.data.toArray⟩, .int .i64 ((Pl.roomN S : Nat) : Int), .int .u32 ((4 * q2 : Nat) : Int)]) rfl rfl (rangeA hfin.1) Tryz.underlying26 rfl info_exe4) rfl hfin.2
          · have eq0 : ((q1 : Int) == 0) = false := by simp; omega
            have hen : Hid (Pl.entryN S = 0) := Lib.hid (by unfold Pl.entryN; rw [HV.out]; simp [hq])
            clear hq
            go_wp2_with fail
            generalize hWf : World.setCell (World.setCell (World.setCell (World.setCell _ _ _) _ _) _ _) _ _ = Wf0
            have hfin := HFIN.out wr Wf0 (Wf0.alloc (.cells #[.int .i64 (q1 : Int), .int .i64 (q2 : Int)] 129)) 0 (.inl (Below.refl _ _)) rfl hWf ((Below.refl _ _).alloc (Nat.le_refl _) _) hen.out
            refine bodyPost_ret (v := .agg [.slice vA k vc, .string ⟨S.data.toArray⟩, .int .i64 ((Pl.roomN S : Nat) : Int), .int .u32 0].toArray) (resultsA (cs := [.slice vA k vc, .string ⟨S.data.toArray⟩, .int .i64 ((Pl.roomN S : Nat) : Int), .int .u32 0]) rfl rfl (rangeA hfin.1) Tryz.underlying26 rfl info_exe4) rfl hfin.2
end Go.Proofs.YtmmnkoeajdeldaaGreatDoor
