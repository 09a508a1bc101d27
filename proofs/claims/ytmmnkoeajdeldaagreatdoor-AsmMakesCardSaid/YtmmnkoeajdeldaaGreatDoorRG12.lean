/- The document's data (chapter 11). The document's data (chapter 11): the walk. Printed by gendata.py. The document's address of a name (chapter 11). The document's words of a line (chapter 11). Printed by genwords.py. The document's items of all lines (chapter 11). Printed by genitems.py. Plain Lean: what is known of the items of all lines. No program in sight. (LAY8) -/
import Derived.Test.YtmmnkoeajdeldaaGreatDoorRB11
import Derived.Test.YtmmnkoeajdeldaaGreatDoorHeldL
import Derived.Test.YtmmnkoeajdeldaaGreatDoorAsX1
import Derived.Test.YtmmnkoeajdeldaaGreatDoorAsXa
import Derived.Test.YtmmnkoeajdeldaaGreatDoorRz11
namespace Go.Proofs.YtmmnkoeajdeldaaGreatDoor
open Go.RowKit
set_option linter.unusedVariables false
set_option linter.unusedSimpArgs false
attribute [local go_sem] ba_get ba_cut ba_add
def ints (l : List Nat) : List Value := l.map fun n : Nat => .int .i64 (n : Int)
theorem ints_snoc (l : List Nat) (n : Nat) : ints (l ++ [n]) = ints l ++ [.int .i64 (n : Int)] := by simp [ints]
theorem ints_len (l : List Nat) : (ints l).length = l.length := by simp [ints]
theorem info_data : (Tryz.prog.info? 76).map (·.size) = some 4 := by kernel_rfl
/-- A row of the call's own stays so, whatever was turned below its base. -/
theorem own_heap {base : Nat} {e : TypeId} {k n : Nat} {v : Value} {xs : List Value} {w w' : World} (h : w.ownsRow base e k v n xs) (hh : ∀ G, base ≤ G → G < w.heap.size → w'.heap[G]? = w.heap[G]?) : w'.ownsRow base e k v n xs := by
  obtain ⟨h1, h2⟩ := h
  refine ⟨h1, ?_⟩
  rcases h2 with h2 | ⟨g, cap, cur, hv, hbg, hg, h3, h4, h5, h6⟩
  · exact .inl h2
  · exact .inr ⟨g, cap, cur, hv, hbg, (hh g hbg (blk_lt hg)).trans hg, h3, h4, h5, h6⟩
/-- The box of the data, and the row of where each line's begin, while they are made. -/
structure DaI (w W : World) (B : Nat) (S : List UInt8) (v : Value) (e : Int) (xs : List Nat) : Prop where
  z1 : W.heap[B + 1]? = some (.cells #[.string ⟨S.toArray⟩, v, .int .i64 e, .bool false] 76 (0, 0))
  z0 : W.heap[B]? = some (.cells #[.string ⟨#[]⟩, .slice none 0 0, .int .i64 0, .bool false] 76 (0, 0))
  own : W.ownsRow (B + 2) 3 1 v xs.length (ints xs)
  bel : Below B w W
  hi : B + 2 ≤ W.heap.size
theorem DaI.drew {w W : World} {B : Nat} {S : List UInt8} {v : Value} {e : Int} {xs : List Nat} (h : DaI w W B S v e xs) : DaI w W.drew B S v e xs := ⟨h.z1, h.z0, own_heap h.own fun _ _ _ => rfl, h.bel.drew, h.hi⟩
theorem DaI.call {w W W' : World} {B : Nat} {S : List UInt8} {v : Value} {e : Int} {xs : List Nat} (h : DaI w W B S v e xs) (hb : Below W.heap.size W W') : DaI w W' B S v e xs :=
  ⟨(hb.block _ (blk_lt h.z1)).trans h.z1, (hb.block _ (blk_lt h.z0)).trans h.z0, own_below h.own hb, h.bel.trans (hb.mono (by have := h.hi; omega)), Nat.le_trans h.hi hb.size⟩
theorem DaI.setS {w W : World} {B : Nat} {S : List UInt8} {v : Value} {e : Int} {xs : List Nat} (h : DaI w W B S v e xs) (S' : List UInt8) : DaI w (W.setCell ⟨B + 1, 0, none⟩ (.string ⟨S'.toArray⟩)) B S' v e xs :=
  ⟨by rw [set_at W (B + 1) 0 _ _ _ h.z1]; rfl, (Below.heap_setCell _ _ _ _ (by show B ≠ B + 1; omega)).trans h.z0, own_heap h.own fun G hG _ => Below.heap_setCell _ _ _ _ (by show G ≠ B + 1; omega), h.bel.setCell (by show B ≤ B + 1; omega) _, by simp [World.setCell]; exact h.hi⟩
theorem DaI.setE {w W : World} {B : Nat} {S : List UInt8} {v : Value} {e : Int} {xs : List Nat} (h : DaI w W B S v e xs) (e' : Int) : DaI w (W.setCell ⟨B + 1, 2, none⟩ (.int .i64 e')) B S v e' xs :=
  ⟨by rw [set_at W (B + 1) 2 _ _ _ h.z1]; rfl, (Below.heap_setCell _ _ _ _ (by show B ≠ B + 1; omega)).trans h.z0, own_heap h.own fun G hG _ => Below.heap_setCell _ _ _ _ (by show G ≠ B + 1; omega), h.bel.setCell (by show B ≤ B + 1; omega) _, by simp [World.setCell]; exact h.hi⟩
theorem DaI.push {w W W' : World} {B : Nat} {S : List UInt8} {v v' : Value} {e : Int} {xs : List Nat} (h : DaI w W B S v e xs) (x : Nat) (hb : Below (B + 2) W W') (ho : W'.ownsRow (B + 2) 3 1 v' (xs.length + 1) (ints xs ++ [.int .i64 (x : Int)])) : DaI w (W'.setCell ⟨B + 1, 1, none⟩ v') B S v' e (xs ++ [x]) :=
  ⟨by rw [set_at W' (B + 1) 1 _ _ _ ((hb.block _ (by omega)).trans h.z1)]; rfl, (Below.heap_setCell _ _ _ _ (by show B ≠ B + 1; omega)).trans ((hb.block _ (by omega)).trans h.z0),
    own_heap (by rw [ints_snoc, List.length_append]; exact ho) fun G hG _ => Below.heap_setCell _ _ _ _ (by show G ≠ B + 1; omega), (h.bel.trans (hb.mono (by omega))).setCell (by show B ≤ B + 1; omega) _, by simp [World.setCell]; exact Nat.le_trans h.hi hb.size⟩
theorem DaI.cells {w W : World} {B : Nat} {S : List UInt8} {v : Value} {e : Int} {xs : List Nat} (h : DaI w W B S v e xs) : (W.cell? ⟨B + 1, 0, none⟩ = some (.string ⟨S.toArray⟩) ∧ W.cell? ⟨B + 1, 1, none⟩ = some v ∧ W.cell? ⟨B + 1, 2, none⟩ = some (.int .i64 e) ∧ W.cell? ⟨B + 1, 3, none⟩ = some (.bool false)) ∧ ∀ j, W.frozen? ⟨B + 1, j, none⟩ = false :=
  ⟨⟨by rw [cell_row W (B + 1) 0 _ _ h.z1]; rfl, by rw [cell_row W (B + 1) 1 _ _ h.z1]; rfl, by rw [cell_row W (B + 1) 2 _ _ h.z1]; rfl, by rw [cell_row W (B + 1) 3 _ _ h.z1]; rfl⟩, fun j => frozen_of W (B + 1) j _ _ h.z1⟩
/-- An element of the row: where it lies. -/
theorem DaI.at_ {w W : World} {B n c : Nat} {A : Option Addr} {S : List UInt8} {e : Int} {xs : List Nat} (h : DaI w W B S (.slice A n c) e xs) (k : Nat) (hk : k < xs.length) : ∃ g, A = some ⟨g, 0, none⟩ ∧ B + 2 ≤ g ∧ n = xs.length ∧ W.cell? ⟨g, k, none⟩ = some (.int .i64 (xs[k] : Int)) ∧ W.frozen? ⟨g, k, none⟩ = false ∧ ∀ y : Nat, DaI w (W.setCell ⟨g, k, none⟩ (.int .i64 (y : Int))) B S (.slice A n c) e (xs.set k y) := by
  obtain ⟨h1, h2⟩ := h.own
  rcases h2 with ⟨_, h0⟩ | ⟨g, cap, cur, hv, hbg, hg, h3, h4, h5, h6⟩
  · omega
  · cases hv
    rw [Nat.mul_one] at h6
    have hc : W.cell? ⟨g, k, none⟩ = some (.int .i64 (xs[k] : Int)) := by
      rw [cell_row W g k _ _ hg]
      have h7 := congrArg (·[k]?) h6
      simp only [List.getElem?_take, if_pos hk, ints, List.getElem?_map, List.getElem?_eq_getElem hk, Option.map_some] at h7
      rw [← Array.getElem?_toList]; exact h7
    refine ⟨g, rfl, hbg, rfl, hc, frozen_of W g k _ _ hg, fun y => ⟨?_, ?_, ?_, ?_, ?_⟩⟩
    · exact (Below.heap_setCell _ _ _ _ (by show B + 1 ≠ g; omega)).trans h.z1
    · exact (Below.heap_setCell _ _ _ _ (by show B ≠ g; omega)).trans h.z0
    · refine ⟨by simp [ints], .inr ⟨g, _, cur.setIfInBounds k (.int .i64 (y : Int)), by simp, hbg, set_at W g k _ _ _ hg, by simpa using h3, h4, by simpa using h5, ?_⟩⟩
      rw [Nat.mul_one, List.length_set, Array.toList_setIfInBounds, List.take_set, h6]
      simp [ints, List.map_set]
    · exact h.bel.setCell (by show B ≤ g; omega) _
    · simp [World.setCell]; exact h.hi
end Go.Proofs.YtmmnkoeajdeldaaGreatDoor
namespace Go.Proofs.YtmmnkoeajdeldaaGreatDoor
open Go.RowKit
set_option linter.unusedVariables false
set_option linter.unusedSimpArgs false
attribute [local go_sem] ba_get ba_cut ba_add
theorem made_rep8 (z : Value) (n : Nat) : madeCells #[z] n = (List.replicate n z).toArray := by
  apply Array.ext
  · simp [madeCells]
  · intro i h1 h2
    have : i % 1 = 0 := by omega
    simp [madeCells, this]
theorem mk8 (k : Nat) (hk : k ≤ 1000) (W : World) : (Instr.makeSlice 59 (.int .i64 (k : Int)) (.int .i64 (k : Int))).run Tryz.prog W = .ok (.slice (some ⟨W.heap.size, 0, none⟩) k k) (W.alloc (.cells (List.replicate k (.int .u8 0)).toArray 5)) := by
  rw [← made_rep8]
  exact run_make_row' 59 5 (.int .u8 0) 1 Tryz.underlying59 info_u8b rfl .i64 .i64 k (by omega) (by omega) W
theorem zero_conv (W : World) (k : Nat) : (convert 59 9 (.slice (some ⟨W.heap.size, 0, none⟩) k k)).run Tryz.prog (W.alloc (.cells (List.replicate k (.int .u8 0)).toArray 5)) = .ok (.string ⟨(List.replicate k (0 : UInt8)).toArray⟩) (W.alloc (.cells (List.replicate k (.int .u8 0)).toArray 5)) := by
  refine bytes_conv _ W.heap.size 0 k k (List.replicate k 0) (by simp) fun j hj => ?_
  rw [Nat.zero_add, cell_row _ W.heap.size j _ _ (heap_alloc_new _ _)]
  simp at hj
  simp [hj]
theorem zero_convd (W : World) (k : Nat) : (convert 59 9 (.slice (some ⟨W.heap.size, 0, none⟩) k k)).run Tryz.prog (W.alloc (.cells (Array.replicate k (.int .u8 0)) 5)).drew = .ok (.string ⟨(List.replicate k (0 : UInt8)).toArray⟩) (W.alloc (.cells (Array.replicate k (.int .u8 0)) 5)).drew := by
  refine bytes_conv _ W.heap.size 0 k k (List.replicate k 0) (by simp) fun j hj => ?_
  rw [Nat.zero_add, cell_row (W.alloc (.cells (Array.replicate k (.int .u8 0)) 5)).drew W.heap.size j (Array.replicate k (.int .u8 0)) 5 (heap_alloc_new W _)]
  simp at hj
  simp [hj]
theorem roomsF_cons (x : Pl.It) (r : List Pl.It) (i e : Nat) (A : List Nat) : Pl.roomsF (x :: r) i e A = if x.kind = 7 then Pl.roomsF r (i + 1) (Pl.up e 4 + x.n.toNat) (A.set i (Pl.up e 4)) else Pl.roomsF r (i + 1) e A := rfl
def daL (S : List UInt8) (v : Value) (e : Nat) : List Value := [.string ⟨S.toArray⟩, v, .int .i64 (e : Int), .bool false]
theorem dataF_cons (x : Pl.It) (r : List Pl.It) (S : List UInt8) (A : List Nat) : Pl.dataF (x :: r) S A = Pl.dataF r ((if x.kind = 6 then S ++ List.replicate (Pl.up S.length 4 - S.length) 0 else S) ++ (if x.kind = 5 then x.s else if x.kind = 6 then Pl.putB (Pl.u32N x.n) 4 else [])) (A ++ [(if x.kind = 6 then S ++ List.replicate (Pl.up S.length 4 - S.length) 0 else S).length]) := rfl
set_option maxRecDepth 100000 in
set_option maxHeartbeats 16000000 in
theorem rdata_any (A : Option Addr) (c : Nat) (l : List Pl.It) (w : World) (hr : Rd w 10 A l.length (itsC l)) (hl : l.length ≤ 1000) (hs : ∀ x ∈ l, x.s.length ≤ 65536) (hn : ∀ x ∈ l, x.kind = 7 → 0 ≤ x.n ∧ x.n ≤ 65536) :
    Calls Tryz.prog 33 #[.slice A l.length c] w (RetB (fun v w' => ∃ aA ac, v = .agg #[.string ⟨(Pl.dataD l).s.toArray⟩, .slice aA l.length ac, .int .i64 ((Pl.dataD l).e : Int), .bool false] ∧ Rd w' 1 aA l.length (ints (Pl.dataD l).a)) w) := by
  obtain ⟨F, hF⟩ : ∃ F, Pl.dataF l [] [] = F := ⟨_, rfl⟩
  have hb32 := fun x W => rbytes32_any x W
  have HL := Lib.hid (And.intro hr (And.intro hs (And.intro hn (And.intro hF hb32))))
  clear hr hs hn hF hb32
  obtain ⟨n, hn⟩ : ∃ n, l.length = n := ⟨_, rfl⟩
  rw [hn] at hl ⊢
  obtain ⟨B, hB⟩ : ∃ B, w.heap.size = B := ⟨_, rfl⟩
  go_enter Tryz.func33, Tryz.ntmps33
  go_upto_region 2 with (fail)
  generalize hW : World.alloc (World.alloc w _) _ = W
  have hI : DaI w W B [] (.slice none 0 0) 0 [] := by
    refine ⟨?_, ?_, ⟨rfl, .inl ⟨rfl, rfl⟩⟩, ?_, ?_⟩
    · rw [← hW, ← hB]; exact heap_alloc_2 _ _ _
    · rw [← hW, ← hB, Below.heap_alloc _ _ _ (by simp)]; exact heap_alloc_new _ _
    · rw [← hW, ← hB]; exact ((Below.refl _ _).alloc (Nat.le_refl _) _).alloc (by simp) _
    · rw [← hW, ← hB]; simp
  have HI := Lib.hid hI
  clear hW hI
  go_wp2_with fail
  go_loopw [4] (fun i wr => ∃ (k : Nat) (S : List UInt8) (Al : List Nat) (v : Value), k ≤ n ∧ i = .int .i64 (k : Int) ∧ Al.length = k ∧ True ∧ S.length ≤ 70000 * k ∧ Hid (DaI w wr B S v 0 Al) ∧ Hid (Pl.dataF (l.drop k) S Al = F)) (fun i _ => n - (intOf i).toNat)
  case atStart => exact ⟨0, [], [], .slice none 0 0, by omega, rfl, rfl, trivial, by simp, HI, Lib.hid (by rw [List.drop_zero]; exact HL.out.2.2.2.1)⟩
  case round =>
    obtain ⟨k, S, Al, v, hk, rfl, hAl, -, hS, HD, HK⟩ := hrel
    have hown := HD.out.own
    rw [hAl] at hown
    obtain ⟨aA, ac, rfl⟩ := own_form' hown
    clear hown
    by_cases hkn : k < n
    · have hkl : k < l.length := by omega
      obtain ⟨b, off, rfl, hbl, hit⟩ := its_all HL.out.1 (by omega)
      have HIT := Lib.hid (fun W hW => hit W hW k hkl)
      have hsx := HL.out.2.1 l[k] (List.getElem_mem hkl)
      have hKF := HK.out
      rw [List.drop_eq_getElem_cons hkl, dataF_cons] at hKF
      obtain ⟨x, hx⟩ : ∃ x, l[k] = x := ⟨_, rfl⟩
      rw [hx] at HIT hsx hKF
      clear hit hx HK
      obtain ⟨i0, i1, i2, i3, i4, i5, i6, i7, i8, i9⟩ := HIT.out wr (by rw [hB]; exact HD.out.bel)
      by_cases h6 : x.kind = 6
      · have e6 : ((x.kind : Int) == 6) = true := by rw [beq_iff_eq]; omega
        rw [if_pos h6, if_neg (by omega), if_pos h6] at hKF
        obtain ⟨q, hq⟩ : ∃ q, Pl.up S.length 4 - S.length = q := ⟨_, rfl⟩
        have hup : Pl.up S.length 4 = S.length + q := by have : S.length ≤ Pl.up S.length 4 := by unfold Pl.up; omega
                                                         omega
        have hq4 : q ≤ 3 := by rw [← hq]; unfold Pl.up; omega
        rw [hq] at hKF
        have hfo : ∀ W, Calls Tryz.prog 46 #[.int .i64 (S.length : Int)] W (Ret (.int .i64 ((S.length : Int) + (q : Int))) W) := fun W => by
          have h := four11_any S.length _ rfl W (by omega)
          rw [hup] at h
          simpa using h
        have HFo := Lib.hid hfo
        clear hfo hup hq
        have hsub : IntKind.i64.wrap ((S.length : Int) + (q : Int) - (S.length : Int)) = (q : Int) := by rw [IntKind.wrap_i64]; omega
        obtain ⟨⟨q0, q1, q2, q3⟩, hqf⟩ := HD.out.cells
        have qf0 := hqf 0
        clear hqf
        go_upto_region 6 with (fail)
        have hmk := mk8 q (by omega)
        have hzc := zero_convd wr q
        obtain ⟨Z, hZ⟩ : ∃ Z, List.replicate q (0 : UInt8) = Z := ⟨_, rfl⟩
        have hZl : Z.length = q := by rw [← hZ]; simp
        rw [hZ] at hzc hKF
        have hcat : ¬ 9223372036854775807 < S.length + Z.length := by omega
        have hcat2 : ¬ 9223372036854775807 < S.length + q := by omega
        refine wp_regionL 14 (fun W => W.cell? ⟨B + 1, 0, none⟩ = some (.string ⟨S.toArray⟩)) (by kernel_rfl) (by exact q0) (fun hHeld => ?_)
        refine takeL (i := 0) (v := ?_) rfl (by kernel_rfl) (by kernel_rfl) (by kernel_rfl) (by kernel_rfl) (by kernel_rfl) (by decide) (fun _ _ _ h => h) (Or.inl ⟨by kernel_rfl, ?_⟩) hHeld ?_
        rotate_left
        · (intro w' hSw; (try dsimp only at hSw); go_simp; try with_reducible rfl)
        simp only [Act.put, lay8]
        refine takeL (i := 1) (v := ?_) rfl (by kernel_rfl) (by kernel_rfl) (by kernel_rfl) (by kernel_rfl) (by kernel_rfl) (by decide) (fun _ _ _ h => h) (Or.inl ⟨by kernel_rfl, ?_⟩) hHeld ?_
        rotate_left
        · (intro w' hSw; (try dsimp only at hSw); go_simp; try with_reducible rfl)
        simp only [Act.put, lay8]
        refine takeL (i := 2) (v := ?_) rfl (by kernel_rfl) (by kernel_rfl) (by kernel_rfl) (by kernel_rfl) (by kernel_rfl) (by decide) (fun _ _ _ h => h) (Or.inl ⟨by kernel_rfl, ?_⟩) hHeld ?_
        rotate_left
        · (intro w' hSw; (try dsimp only at hSw); go_simp; try with_reducible rfl)
        simp only [Act.put, lay8]
        refine takeL (i := 3) (v := ?_) rfl (by kernel_rfl) (by kernel_rfl) (by kernel_rfl) (by kernel_rfl) (by kernel_rfl) (by decide) (fun _ _ _ h => h) (Or.inl ⟨by kernel_rfl, ?_⟩) hHeld ?_
        rotate_left
        · (intro w' hSw; (try dsimp only at hSw); go_simp; try with_reducible rfl)
        simp only [Act.put, lay8]
        refine takeL (i := 4) (v := ?_) rfl (by kernel_rfl) (by kernel_rfl) (by kernel_rfl) (by kernel_rfl) (by kernel_rfl) (by decide) (fun _ _ _ h => h) (Or.inl ⟨by kernel_rfl, ?_⟩) hHeld ?_
        rotate_left
        · (intro w' hSw; (try dsimp only at hSw); go_simp; try with_reducible rfl)
        simp only [Act.put, lay8]
        refine stillL (i := 5) (v := (.int .i64 ((S.length : Int) + (q : Int)))) rfl (by kernel_rfl) (by kernel_rfl) (by kernel_rfl) (by kernel_rfl) (by kernel_rfl) (by decide) (fun _ _ _ h => h) ⟨by rfl, _, _, fun w' hSw => ⟨?_, (HFo.out w')⟩⟩ hHeld ?_
        · (try dsimp only at hSw); go_simp; try with_reducible rfl
        simp only [Act.put, lay8]
        refine takeL (i := 6) (v := ?_) rfl (by kernel_rfl) (by kernel_rfl) (by kernel_rfl) (by kernel_rfl) (by kernel_rfl) (by decide) (fun _ _ _ h => h) (Or.inl ⟨by kernel_rfl, ?_⟩) hHeld ?_
        rotate_left
        · (intro w' hSw; (try dsimp only at hSw); go_simp; try with_reducible rfl)
        simp only [Act.put, lay8]
        refine takeL (i := 7) (v := ?_) rfl (by kernel_rfl) (by kernel_rfl) (by kernel_rfl) (by kernel_rfl) (by kernel_rfl) (by decide) (fun _ _ _ h => h) (Or.inl ⟨by kernel_rfl, ?_⟩) hHeld ?_
        rotate_left
        · (intro w' hSw; (try dsimp only at hSw); go_simp; try with_reducible rfl)
        simp only [Act.put, lay8]
        refine takeL (i := 8) (v := ?_) rfl (by kernel_rfl) (by kernel_rfl) (by kernel_rfl) (by kernel_rfl) (by kernel_rfl) (by decide) (fun _ _ _ h => h) (Or.inl ⟨by kernel_rfl, ?_⟩) hHeld ?_
        rotate_left
        · (intro w' hSw; (try dsimp only at hSw); go_simp; try with_reducible rfl)
        simp only [Act.put, lay8]
        refine takeL (i := 9) (v := ?_) rfl (by kernel_rfl) (by kernel_rfl) (by kernel_rfl) (by kernel_rfl) (by kernel_rfl) (by decide) (fun _ _ _ h => h) (Or.inl ⟨by kernel_rfl, ?_⟩) hHeld ?_
        rotate_left
        · (intro w' hSw; (try dsimp only at hSw); go_simp; try with_reducible rfl)
        simp only [Act.put, lay8]
        have HDa := Lib.hid (HD.out.call ((Below.refl _ _).alloc (Nat.le_refl _) (.cells (Array.replicate q (.int .u8 0)) 5)))
        refine readyL (rs := [10]) (by kernel_rfl) (by simp) (ReadyL.cons rfl (by decide) (fun K hK => ?_) ReadyL.nil)
        go_simp
        refine hK.out _ _ (by exact HDa.out.cells.1.1) (fun hHeld => ?_)
        clear hK K
        (try simp only [Act.put, lay8])
        refine readyL (rs := [11]) (by kernel_rfl) (by simp) (ReadyL.cons rfl (by decide) (fun K hK => ?_) ReadyL.nil)
        go_simp
        refine hK.out _ _ (by exact HDa.out.cells.1.1) (fun hHeld => ?_)
        clear hK K
        (try simp only [Act.put, lay8])
        refine takeL (i := 12) (v := ?_) rfl (by kernel_rfl) (by kernel_rfl) (by kernel_rfl) (by kernel_rfl) (by kernel_rfl) (by decide) (fun _ _ _ h => h) (Or.inl ⟨by kernel_rfl, ?_⟩) hHeld ?_
        rotate_left
        · (intro w' hSw; (try dsimp only at hSw); go_simp; try with_reducible rfl)
        simp only [Act.put, lay8]
        refine takeL (i := 13) (v := ?_) rfl (by kernel_rfl) (by kernel_rfl) (by kernel_rfl) (by kernel_rfl) (by kernel_rfl) (by decide) (fun _ _ _ h => h) (Or.inl ⟨by kernel_rfl, ?_⟩) hHeld ?_
        rotate_left
        · (intro w' hSw; (try dsimp only at hSw); go_simp; try with_reducible rfl)
        simp only [Act.put, lay8]
        have qg0 := HDa.out.cells.2 0
        refine readyL (rs := [14]) (by kernel_rfl) (by simp) (ReadyL.last rfl (fun K hK => ?_))
        go_simp
        refine hK.out _ _ ?_
        clear hK K
        (try simp only [Act.put, lay8])
        refine doneL (by kernel_rfl) ?_ _
        generalize hV : World.drew (World.setCell _ _ _) = W6
        have HW6 := Lib.hid (show DaI w W6 B (S ++ Z) _ 0 Al from by rw [← hV]; exact (HDa.out.setS _).drew)
        clear hV q0 q1 q2 q3 qf0 qg0 HDa HFo hzc hmk hcat hcat2 hsub hZ
        obtain ⟨S1, hS1⟩ : ∃ T, S ++ Z = T := ⟨_, rfl⟩
        have hS1l : S1.length ≤ 70000 * k + 3 := by rw [← hS1, List.length_append, hZl]; omega
        rw [hS1] at hKF HW6
        clear hS1 hZl i0 i1 i2 i3 i4 i5 i6 i7 i8 i9
        go_upto_region 7 with (fail)
        obtain ⟨⟨q0, q1, q2, q3⟩, hqf⟩ := HW6.out.cells
        have qf1 := hqf 1
        have hhi := HW6.out.hi
        have hz1 := HW6.out.z1
        clear hqf
        go_upto_region 8 with (at_builtin; refine push_k rfl (.tmp 34) (.tmp 38) 60 rfl (B + 2) 3 (.int .i64 0) 1 8 Tryz.underlying60 info_int rfl (by decide) W6 (.slice aA k ac) _ _ [.int .i64 (S1.length : Int)] rfl rfl HW6.out.own rfl (by intro u hu; simp at hu; subst hu; rfl) (by omega) (by decide) hhi ?_; intro A1 c1 w7 hown1 hb1; have hz7 := (hb1.block (B + 1) (by omega)).trans hz1; have q71 : w7.cell? ⟨B + 1, 1, none⟩ = some (.slice aA k ac) := (by rw [cell_row _ _ _ _ _ hz7]; rfl); have qf7 := frozen_of w7 (B + 1) 1 _ _ hz7; have HP := Lib.hid (And.intro hown1 hb1); clear hown1 hb1)
        rename Hid (World.ownsRow _ _ _ _ (.slice _ _ _) _ _ ∧ Below _ _ _) => HP
        have hpu := HW6.out.push _ HP.out.2 HP.out.1
        simp only [hAl] at hpu ⊢
        generalize hV : World.setCell _ _ _ = W8 at hpu ⊢
        have HW8 := Lib.hid hpu
        clear hV hpu q0 q1 q2 q3 qf1 hhi hz1 HP
        obtain ⟨j0, j1, j2, j3, j4, j5, j6, j7, j8, j9⟩ := HIT.out W8 (by rw [hB]; exact HW8.out.bel)
        have e5 : ((x.kind : Int) == 5) = false := by rw [beq_eq_false_iff_ne]; omega
        obtain ⟨⟨q0, q1, q2, q3⟩, hqf⟩ := HW8.out.cells
        clear hqf
        obtain ⟨P, hP⟩ : ∃ P, Pl.putB (Pl.u32N x.n) 4 = P := ⟨_, rfl⟩
        have hPl : P.length ≤ 4 := by rw [← hP]; simp [Pl.putB]
        have HB4 := Lib.hid (HL.out.2.2.2.2 x.n)
        rw [hP] at HB4 hKF
        have hcat : ¬ 9223372036854775807 < S1.length + P.length := by omega
        clear hP
        go_upto_region 11 with (fail)
        have hWd : DaI w W8.drew B S1 _ 0 (Al ++ [S1.length]) := HW8.out.drew
        have HWd := Lib.hid hWd
        clear hWd
        refine wp_regionL 10 (fun W => W.cell? ⟨B + 1, 0, none⟩ = some (.string ⟨S1.toArray⟩) ∧ W.cell? ⟨b, off + k * 10 + 7, none⟩ = some (.int .i64 x.n)) (by kernel_rfl) (by exact ⟨q0, j7⟩) (fun hHeld => ?_)
        refine takeL (i := 0) (v := ?_) rfl (by kernel_rfl) (by kernel_rfl) (by kernel_rfl) (by kernel_rfl) (by kernel_rfl) (by decide) (fun _ _ _ h => h) (Or.inl ⟨by kernel_rfl, ?_⟩) hHeld ?_
        rotate_left
        · (intro w' hSw; (try dsimp only at hSw); obtain ⟨hS0, hS1⟩ := hSw; go_simp; try with_reducible rfl)
        simp only [Act.put, lay8]
        refine takeL (i := 1) (v := ?_) rfl (by kernel_rfl) (by kernel_rfl) (by kernel_rfl) (by kernel_rfl) (by kernel_rfl) (by decide) (fun _ _ _ h => h) (Or.inl ⟨by kernel_rfl, ?_⟩) hHeld ?_
        rotate_left
        · (intro w' hSw; (try dsimp only at hSw); obtain ⟨hS0, hS1⟩ := hSw; go_simp; try with_reducible rfl)
        simp only [Act.put, lay8]
        refine takeL (i := 2) (v := ?_) rfl (by kernel_rfl) (by kernel_rfl) (by kernel_rfl) (by kernel_rfl) (by kernel_rfl) (by decide) (fun _ _ _ h => h) (Or.inl ⟨by kernel_rfl, ?_⟩) hHeld ?_
        rotate_left
        · (intro w' hSw; (try dsimp only at hSw); obtain ⟨hS0, hS1⟩ := hSw; go_simp; try with_reducible rfl)
        simp only [Act.put, lay8]
        refine takeL (i := 3) (v := ?_) rfl (by kernel_rfl) (by kernel_rfl) (by kernel_rfl) (by kernel_rfl) (by kernel_rfl) (by decide) (fun _ _ _ h => h) (Or.inl ⟨by kernel_rfl, ?_⟩) hHeld ?_
        rotate_left
        · (intro w' hSw; (try dsimp only at hSw); obtain ⟨hS0, hS1⟩ := hSw; go_simp; try with_reducible rfl)
        simp only [Act.put, lay8]
        refine takeL (i := 4) (v := ?_) rfl (by kernel_rfl) (by kernel_rfl) (by kernel_rfl) (by kernel_rfl) (by kernel_rfl) (by decide) (fun _ _ _ h => h) (Or.inl ⟨by kernel_rfl, ?_⟩) hHeld ?_
        rotate_left
        · (intro w' hSw; (try dsimp only at hSw); obtain ⟨hS0, hS1⟩ := hSw; go_simp; try with_reducible rfl)
        simp only [Act.put, lay8]
        refine takeL (i := 5) (v := ?_) rfl (by kernel_rfl) (by kernel_rfl) (by kernel_rfl) (by kernel_rfl) (by kernel_rfl) (by decide) (fun _ _ _ h => h) (Or.inl ⟨by kernel_rfl, ?_⟩) hHeld ?_
        rotate_left
        · (intro w' hSw; (try dsimp only at hSw); obtain ⟨hS0, hS1⟩ := hSw; go_simp; try with_reducible rfl)
        simp only [Act.put, lay8]
        refine takeL (i := 6) (v := ?_) rfl (by kernel_rfl) (by kernel_rfl) (by kernel_rfl) (by kernel_rfl) (by kernel_rfl) (by decide) (fun _ _ _ h => h) (Or.inl ⟨by kernel_rfl, ?_⟩) hHeld ?_
        rotate_left
        · (intro w' hSw; (try dsimp only at hSw); obtain ⟨hS0, hS1⟩ := hSw; go_simp; try with_reducible rfl)
        simp only [Act.put, lay8]
        refine readyL (rs := [7]) (by kernel_rfl) (by simp) (ReadyL.cons rfl (by decide) (fun K hK => ?_) ReadyL.nil)
        go_simp
        (with_reducible refine (HB4.out _).mono ?_)
        rintro y W9 ⟨v, rfl, rfl, hb9⟩
        have HW9 := Lib.hid (HWd.out.call hb9)
        clear hb9 j0 j1 j2 j3 j4 j5 j6 j7 j8 j9 q0 q1 q2 q3
        obtain ⟨j0, j1, j2, j3, j4, j5, j6, j7, j8, j9⟩ := HIT.out W9 (by rw [hB]; exact HW9.out.bel)
        have q0 := HW9.out.cells.1.1
        have qf0 := HW9.out.cells.2 0
        refine hK.out _ _ (by exact ⟨q0, j7⟩) (fun hHeld => ?_)
        clear hK K
        (try simp only [Act.put, lay8])
        refine takeL (i := 8) (v := ?_) rfl (by kernel_rfl) (by kernel_rfl) (by kernel_rfl) (by kernel_rfl) (by kernel_rfl) (by decide) (fun _ _ _ h => h) (Or.inl ⟨by kernel_rfl, ?_⟩) hHeld ?_
        rotate_left
        · (intro w' hSw; (try dsimp only at hSw); obtain ⟨hS0, hS1⟩ := hSw; go_simp; try with_reducible rfl)
        simp only [Act.put, lay8]
        refine takeL (i := 9) (v := ?_) rfl (by kernel_rfl) (by kernel_rfl) (by kernel_rfl) (by kernel_rfl) (by kernel_rfl) (by decide) (fun _ _ _ h => h) (Or.inl ⟨by kernel_rfl, ?_⟩) hHeld ?_
        rotate_left
        · (intro w' hSw; (try dsimp only at hSw); obtain ⟨hS0, hS1⟩ := hSw; go_simp; try with_reducible rfl)
        simp only [Act.put, lay8]
        refine readyL (rs := [10]) (by kernel_rfl) (by simp) (ReadyL.last rfl (fun K hK => ?_))
        go_simp
        refine hK.out _ _ ?_
        clear hK K
        (try simp only [Act.put, lay8])
        refine doneL (by kernel_rfl) ?_ _
        generalize hV : World.setCell _ _ _ = W10
        have HW10 := Lib.hid (show DaI w W10 B (S1 ++ P) _ 0 (Al ++ [S1.length]) from by rw [← hV]; exact HW9.out.setS _)
        clear hV
        go_wp2_with fail
        exact ⟨⟨k + 1, S1 ++ P, Al ++ [S1.length], _, by omega, ret_i (by omega), by simp; omega, trivial, by simp; omega, HW10, Lib.hid hKF⟩, by simp only [intOf]; omega⟩
      have e6 : ((x.kind : Int) == 6) = false := by rw [beq_eq_false_iff_ne]; omega
      rw [if_neg h6, if_neg h6] at hKF
      go_upto_region 7 with (fail)
      obtain ⟨⟨q0, q1, q2, q3⟩, hqf⟩ := HD.out.cells
      have qf1 := hqf 1
      have hhi := HD.out.hi
      have hz1 := HD.out.z1
      clear hqf
      go_upto_region 8 with (at_builtin; refine push_k rfl (.tmp 34) (.tmp 38) 60 rfl (B + 2) 3 (.int .i64 0) 1 8 Tryz.underlying60 info_int rfl (by decide) wr (.slice aA k ac) _ _ [.int .i64 (S.length : Int)] rfl rfl HD.out.own rfl (by intro u hu; simp at hu; subst hu; rfl) (by omega) (by decide) hhi ?_; intro A1 c1 w7 hown1 hb1; have hz7 := (hb1.block (B + 1) (by omega)).trans hz1; have q71 : w7.cell? ⟨B + 1, 1, none⟩ = some (.slice aA k ac) := (by rw [cell_row _ _ _ _ _ hz7]; rfl); have qf7 := frozen_of w7 (B + 1) 1 _ _ hz7; have HP := Lib.hid (And.intro hown1 hb1); clear hown1 hb1)
      rename Hid (World.ownsRow _ _ _ _ (.slice _ _ _) _ _ ∧ Below _ _ _) => HP
      have hpu := HD.out.push _ HP.out.2 HP.out.1
      simp only [hAl] at hpu ⊢
      generalize hV : World.setCell _ _ _ = W8 at hpu ⊢
      have HW8 := Lib.hid hpu
      clear hV hpu q0 q1 q2 q3 qf1 hhi hz1 HP
      obtain ⟨j0, j1, j2, j3, j4, j5, j6, j7, j8, j9⟩ := HIT.out W8 (by rw [hB]; exact HW8.out.bel)
      by_cases h5 : x.kind = 5
      · have e5 : ((x.kind : Int) == 5) = true := by rw [beq_iff_eq]; omega
        rw [if_pos h5] at hKF
        obtain ⟨⟨q0, q1, q2, q3⟩, hqf⟩ := HW8.out.cells
        have qf0 := hqf 0
        have hcat : ¬ 9223372036854775807 < S.length + x.s.length := by omega
        clear hqf
        go_upto_region 9 with (fail)
        refine wp_regionL 9 (fun W => W.cell? ⟨B + 1, 0, none⟩ = some (.string ⟨S.toArray⟩) ∧ W.cell? ⟨b, off + k * 10 + 8, none⟩ = some (.string ⟨x.s.toArray⟩)) (by kernel_rfl) (by exact ⟨q0, j8⟩) (fun hHeld => ?_)
        refine takeL (i := 0) (v := ?_) rfl (by kernel_rfl) (by kernel_rfl) (by kernel_rfl) (by kernel_rfl) (by kernel_rfl) (by decide) (fun _ _ _ h => h) (Or.inl ⟨by kernel_rfl, ?_⟩) hHeld ?_
        rotate_left
        · (intro w' hSw; (try dsimp only at hSw); obtain ⟨hS0, hS1⟩ := hSw; go_simp; try with_reducible rfl)
        simp only [Act.put, lay8]
        refine takeL (i := 1) (v := ?_) rfl (by kernel_rfl) (by kernel_rfl) (by kernel_rfl) (by kernel_rfl) (by kernel_rfl) (by decide) (fun _ _ _ h => h) (Or.inl ⟨by kernel_rfl, ?_⟩) hHeld ?_
        rotate_left
        · (intro w' hSw; (try dsimp only at hSw); obtain ⟨hS0, hS1⟩ := hSw; go_simp; try with_reducible rfl)
        simp only [Act.put, lay8]
        refine takeL (i := 2) (v := ?_) rfl (by kernel_rfl) (by kernel_rfl) (by kernel_rfl) (by kernel_rfl) (by kernel_rfl) (by decide) (fun _ _ _ h => h) (Or.inl ⟨by kernel_rfl, ?_⟩) hHeld ?_
        rotate_left
        · (intro w' hSw; (try dsimp only at hSw); obtain ⟨hS0, hS1⟩ := hSw; go_simp; try with_reducible rfl)
        simp only [Act.put, lay8]
        refine takeL (i := 3) (v := ?_) rfl (by kernel_rfl) (by kernel_rfl) (by kernel_rfl) (by kernel_rfl) (by kernel_rfl) (by decide) (fun _ _ _ h => h) (Or.inl ⟨by kernel_rfl, ?_⟩) hHeld ?_
        rotate_left
        · (intro w' hSw; (try dsimp only at hSw); obtain ⟨hS0, hS1⟩ := hSw; go_simp; try with_reducible rfl)
        simp only [Act.put, lay8]
        refine takeL (i := 4) (v := ?_) rfl (by kernel_rfl) (by kernel_rfl) (by kernel_rfl) (by kernel_rfl) (by kernel_rfl) (by decide) (fun _ _ _ h => h) (Or.inl ⟨by kernel_rfl, ?_⟩) hHeld ?_
        rotate_left
        · (intro w' hSw; (try dsimp only at hSw); obtain ⟨hS0, hS1⟩ := hSw; go_simp; try with_reducible rfl)
        simp only [Act.put, lay8]
        refine takeL (i := 5) (v := ?_) rfl (by kernel_rfl) (by kernel_rfl) (by kernel_rfl) (by kernel_rfl) (by kernel_rfl) (by decide) (fun _ _ _ h => h) (Or.inl ⟨by kernel_rfl, ?_⟩) hHeld ?_
        rotate_left
        · (intro w' hSw; (try dsimp only at hSw); obtain ⟨hS0, hS1⟩ := hSw; go_simp; try with_reducible rfl)
        simp only [Act.put, lay8]
        refine takeL (i := 6) (v := ?_) rfl (by kernel_rfl) (by kernel_rfl) (by kernel_rfl) (by kernel_rfl) (by kernel_rfl) (by decide) (fun _ _ _ h => h) (Or.inl ⟨by kernel_rfl, ?_⟩) hHeld ?_
        rotate_left
        · (intro w' hSw; (try dsimp only at hSw); obtain ⟨hS0, hS1⟩ := hSw; go_simp; try with_reducible rfl)
        simp only [Act.put, lay8]
        refine takeL (i := 7) (v := ?_) rfl (by kernel_rfl) (by kernel_rfl) (by kernel_rfl) (by kernel_rfl) (by kernel_rfl) (by decide) (fun _ _ _ h => h) (Or.inl ⟨by kernel_rfl, ?_⟩) hHeld ?_
        rotate_left
        · (intro w' hSw; (try dsimp only at hSw); obtain ⟨hS0, hS1⟩ := hSw; go_simp; try with_reducible rfl)
        simp only [Act.put, lay8]
        refine takeL (i := 8) (v := ?_) rfl (by kernel_rfl) (by kernel_rfl) (by kernel_rfl) (by kernel_rfl) (by kernel_rfl) (by decide) (fun _ _ _ h => h) (Or.inl ⟨by kernel_rfl, ?_⟩) hHeld ?_
        rotate_left
        · (intro w' hSw; (try dsimp only at hSw); obtain ⟨hS0, hS1⟩ := hSw; go_simp; try with_reducible rfl)
        simp only [Act.put, lay8]
        refine readyL (rs := [9]) (by kernel_rfl) (by simp) (ReadyL.last rfl (fun K hK => ?_))
        go_simp
        refine hK.out _ _ ?_
        clear hK K
        (try simp only [Act.put, lay8])
        refine doneL (by kernel_rfl) ?_ _
        generalize hV : World.drew (World.setCell _ _ _) = W9
        have HW9 := Lib.hid (show DaI w W9 B (S ++ x.s) _ 0 (Al ++ [S.length]) from by rw [← hV]; exact (HW8.out.setS _).drew)
        clear hV q0 q1 q2 q3 qf0 j0 j1 j2 j3 j4 j5 j6 j7 j8 j9
        obtain ⟨j0, j1, j2, j3, j4, j5, j6, j7, j8, j9⟩ := HIT.out W9 (by rw [hB]; exact HW9.out.bel)
        go_wp2_with fail
        exact ⟨⟨k + 1, S ++ x.s, Al ++ [S.length], _, by omega, ret_i (by omega), by simp; omega, trivial, by simp; omega, HW9, Lib.hid hKF⟩, by simp only [intOf]; omega⟩
      · have e5 : ((x.kind : Int) == 5) = false := by rw [beq_eq_false_iff_ne]; omega
        rw [if_neg h5] at hKF
        rw [List.append_nil] at hKF
        go_wp2_with fail
        exact ⟨⟨k + 1, S, Al ++ [S.length], _, by omega, ret_i (by omega), by simp; omega, trivial, by omega, HW8, Lib.hid hKF⟩, by simp only [intOf]; omega⟩
    · have hke : k = n := by omega
      subst hke
      have hKF := HK.out
      rw [List.drop_eq_nil_of_le (by omega)] at hKF
      have HF := Lib.hid (show (S, Al) = F from hKF)
      obtain ⟨⟨q0, q1, q2, q3⟩, hqf⟩ := HD.out.cells
      have qf2 := hqf 2
      clear hKF HK hqf
      go_upto_region 13 with (fail)
      generalize hV : World.setCell _ _ _ = V
      have HV := Lib.hid (show DaI w V B S _ (S.length : Int) Al from by rw [← hV]; exact HD.out.setE _)
      clear hV q0 q1 q2 q3 qf2 HD
      obtain ⟨RR, hRR⟩ : ∃ z, Pl.roomsF l 0 S.length Al = z := ⟨_, rfl⟩
      have HRR := Lib.hid hRR
      clear hRR
      go_wp2_with fail
      go_loopw [5] (fun i wr2 => ∃ (j e : Nat) (Bl : List Nat), j ≤ k ∧ i = .int .i64 (j : Int) ∧ Bl.length = k ∧ e ≤ 70000000 + 70000 * j ∧ Hid (DaI w wr2 B S (.slice aA k ac) (e : Int) Bl) ∧ Hid (Pl.roomsF (l.drop j) j e Bl = RR)) (fun i _ => k - (intOf i).toNat)
      case atStart => exact ⟨0, S.length, Al, by omega, rfl, hAl, by omega, HV, Lib.hid (by rw [List.drop_zero]; exact HRR.out)⟩
      case round =>
        obtain ⟨j, e, Bl, hj, rfl, hBl, he, HE, HK⟩ := hrel
        by_cases hjk : j < k
        · have hjl : j < l.length := by omega
          obtain ⟨b, off, rfl, hbl, hit⟩ := its_all HL.out.1 (by omega)
          have HIT := Lib.hid (fun W hW => hit W hW j hjl)
          have hn7 := HL.out.2.2.1 l[j] (List.getElem_mem hjl)
          have hKF := HK.out
          rw [List.drop_eq_getElem_cons hjl, roomsF_cons] at hKF
          obtain ⟨x, hx⟩ : ∃ x, l[j] = x := ⟨_, rfl⟩
          rw [hx] at HIT hn7 hKF
          clear hit hx HK
          obtain ⟨i0, i1, i2, i3, i4, i5, i6, i7, i8, i9⟩ := HIT.out wr (by rw [hB]; exact HE.out.bel)
          by_cases h7 : x.kind = 7
          · have e7 : ((x.kind : Int) == 7) = true := by rw [beq_iff_eq]; omega
            obtain ⟨hx0, hx1⟩ := hn7 h7
            obtain ⟨m, hm⟩ : ∃ m : Nat, x.n = (m : Int) := ⟨x.n.toNat, by omega⟩
            rw [if_pos h7, show x.n.toNat = m by omega] at hKF
            have hm1 : m ≤ 65536 := by omega
            have hfo := fun W => four11_any e _ rfl W (by omega)
            obtain ⟨u, hu⟩ : ∃ u, Pl.up e 4 = u := ⟨_, rfl⟩
            have hue : u ≤ e + 3 := by rw [← hu]; unfold Pl.up; omega
            rw [hu] at hfo hKF
            have HFo := Lib.hid hfo
            have HKF := Lib.hid hKF
            obtain ⟨g, rfl, hg, -, ha, hfa, hset⟩ := HE.out.at_ j (by omega)
            have HSt := Lib.hid hset
            obtain ⟨⟨q0, q1, q2, q3⟩, -⟩ := HE.out.cells
            clear hfo hu hKF hset hx0 hx1
            go_upto_region 17 with (fail)
            refine wp_regionL 7 (fun W => W.cell? ⟨B + 1, 1, none⟩ = some (.slice (some ⟨g, 0, none⟩) k ac) ∧ W.cell? ⟨B + 1, 2, none⟩ = some (.int .i64 (e : Int))) (by kernel_rfl) (by exact ⟨q1, q2⟩) (fun hHeld => ?_)
            refine takeL (i := 0) (v := ?_) rfl (by kernel_rfl) (by kernel_rfl) (by kernel_rfl) (by kernel_rfl) (by kernel_rfl) (by decide) (fun _ _ _ h => h) (Or.inl ⟨by kernel_rfl, ?_⟩) hHeld ?_
            rotate_left
            · (intro w' hSw; (try dsimp only at hSw); obtain ⟨hS0, hS1⟩ := hSw; go_simp; try with_reducible rfl)
            simp only [Act.put, lay8]
            refine takeL (i := 1) (v := ?_) rfl (by kernel_rfl) (by kernel_rfl) (by kernel_rfl) (by kernel_rfl) (by kernel_rfl) (by decide) (fun _ _ _ h => h) (Or.inl ⟨by kernel_rfl, ?_⟩) hHeld ?_
            rotate_left
            · (intro w' hSw; (try dsimp only at hSw); obtain ⟨hS0, hS1⟩ := hSw; go_simp; try with_reducible rfl)
            simp only [Act.put, lay8]
            refine takeL (i := 2) (v := ?_) rfl (by kernel_rfl) (by kernel_rfl) (by kernel_rfl) (by kernel_rfl) (by kernel_rfl) (by decide) (fun _ _ _ h => h) (Or.inl ⟨by kernel_rfl, ?_⟩) hHeld ?_
            rotate_left
            · (intro w' hSw; (try dsimp only at hSw); obtain ⟨hS0, hS1⟩ := hSw; go_simp; try with_reducible rfl)
            simp only [Act.put, lay8]
            refine takeL (i := 3) (v := ?_) rfl (by kernel_rfl) (by kernel_rfl) (by kernel_rfl) (by kernel_rfl) (by kernel_rfl) (by decide) (fun _ _ _ h => h) (Or.inl ⟨by kernel_rfl, ?_⟩) hHeld ?_
            rotate_left
            · (intro w' hSw; (try dsimp only at hSw); obtain ⟨hS0, hS1⟩ := hSw; go_simp; try with_reducible rfl)
            simp only [Act.put, lay8]
            refine takeL (i := 4) (v := ?_) rfl (by kernel_rfl) (by kernel_rfl) (by kernel_rfl) (by kernel_rfl) (by kernel_rfl) (by decide) (fun _ _ _ h => h) (Or.inl ⟨by kernel_rfl, ?_⟩) hHeld ?_
            rotate_left
            · (intro w' hSw; (try dsimp only at hSw); obtain ⟨hS0, hS1⟩ := hSw; go_simp; try with_reducible rfl)
            simp only [Act.put, lay8]
            refine stillL (i := 5) (v := (.int .i64 (u : Int))) rfl (by kernel_rfl) (by kernel_rfl) (by kernel_rfl) (by kernel_rfl) (by kernel_rfl) (by decide) (fun _ _ _ h => h) ⟨by rfl, _, _, fun w' hSw => ⟨?_, (HFo.out w')⟩⟩ hHeld ?_
            · (try dsimp only at hSw); go_simp; try with_reducible rfl
            simp only [Act.put, lay8]
            refine takeL (i := 6) (v := ?_) rfl (by kernel_rfl) (by kernel_rfl) (by kernel_rfl) (by kernel_rfl) (by kernel_rfl) (by decide) (fun _ _ _ h => h) (Or.inl ⟨by kernel_rfl, ?_⟩) hHeld ?_
            rotate_left
            · (intro w' hSw; (try dsimp only at hSw); obtain ⟨hS0, hS1⟩ := hSw; go_simp; try with_reducible rfl)
            simp only [Act.put, lay8]
            refine readyL (rs := [7]) (by kernel_rfl) (by simp) (ReadyL.last rfl (fun K hK => ?_))
            go_simp
            refine hK.out _ _ ?_
            clear hK K
            (try simp only [Act.put, lay8])
            refine doneL (by kernel_rfl) ?_ _
            generalize hV : World.drew (World.setCell _ _ _) = W5
            have HW5 := Lib.hid (show DaI w W5 B S _ (e : Int) (Bl.set j u) from by rw [← hV]; exact (HSt.out u).drew)
            clear hV q0 q1 q2 q3 ha hfa i0 i1 i2 i3 i4 i5 i6 i7 i8 i9 HSt
            obtain ⟨i0, i1, i2, i3, i4, i5, i6, i7, i8, i9⟩ := HIT.out W5 (by rw [hB]; exact HW5.out.bel)
            obtain ⟨g2, hge, -, -, ha, -, -⟩ := HW5.out.at_ j (by rw [List.length_set]; omega)
            cases hge
            rw [List.getElem_set_self] at ha
            obtain ⟨⟨q0, q1, q2, q3⟩, hqf⟩ := HW5.out.cells
            have qf2 := hqf 2
            rw [hm] at i7
            have hsum : IntKind.i64.wrap ((u : Int) + (m : Int)) = (u : Int) + (m : Int) := IntWalk.i64_in _ (by omega)
            clear hqf
            go_upto_region 18 with (fail)
            refine wp_regionL 12 (fun W => W.cell? ⟨B + 1, 1, none⟩ = some (.slice (some ⟨g, 0, none⟩) k ac) ∧ W.cell? ⟨g, j, none⟩ = some (.int .i64 (u : Int)) ∧ W.cell? ⟨b, off + j * 10 + 7, none⟩ = some (.int .i64 (m : Int))) (by kernel_rfl) (by exact ⟨q1, ha, i7⟩) (fun hHeld => ?_)
            refine takeL (i := 0) (v := ?_) rfl (by kernel_rfl) (by kernel_rfl) (by kernel_rfl) (by kernel_rfl) (by kernel_rfl) (by decide) (fun _ _ _ h => h) (Or.inl ⟨by kernel_rfl, ?_⟩) hHeld ?_
            rotate_left
            · (intro w' hSw; (try dsimp only at hSw); obtain ⟨hS0, hS1, hS2⟩ := hSw; go_simp; try with_reducible rfl)
            simp only [Act.put, lay8]
            refine takeL (i := 1) (v := ?_) rfl (by kernel_rfl) (by kernel_rfl) (by kernel_rfl) (by kernel_rfl) (by kernel_rfl) (by decide) (fun _ _ _ h => h) (Or.inl ⟨by kernel_rfl, ?_⟩) hHeld ?_
            rotate_left
            · (intro w' hSw; (try dsimp only at hSw); obtain ⟨hS0, hS1, hS2⟩ := hSw; go_simp; try with_reducible rfl)
            simp only [Act.put, lay8]
            refine takeL (i := 2) (v := ?_) rfl (by kernel_rfl) (by kernel_rfl) (by kernel_rfl) (by kernel_rfl) (by kernel_rfl) (by decide) (fun _ _ _ h => h) (Or.inl ⟨by kernel_rfl, ?_⟩) hHeld ?_
            rotate_left
            · (intro w' hSw; (try dsimp only at hSw); obtain ⟨hS0, hS1, hS2⟩ := hSw; go_simp; try with_reducible rfl)
            simp only [Act.put, lay8]
            refine takeL (i := 3) (v := ?_) rfl (by kernel_rfl) (by kernel_rfl) (by kernel_rfl) (by kernel_rfl) (by kernel_rfl) (by decide) (fun _ _ _ h => h) (Or.inl ⟨by kernel_rfl, ?_⟩) hHeld ?_
            rotate_left
            · (intro w' hSw; (try dsimp only at hSw); obtain ⟨hS0, hS1, hS2⟩ := hSw; go_simp; try with_reducible rfl)
            simp only [Act.put, lay8]
            refine takeL (i := 4) (v := ?_) rfl (by kernel_rfl) (by kernel_rfl) (by kernel_rfl) (by kernel_rfl) (by kernel_rfl) (by decide) (fun _ _ _ h => h) (Or.inl ⟨by kernel_rfl, ?_⟩) hHeld ?_
            rotate_left
            · (intro w' hSw; (try dsimp only at hSw); obtain ⟨hS0, hS1, hS2⟩ := hSw; go_simp; try with_reducible rfl)
            simp only [Act.put, lay8]
            refine takeL (i := 5) (v := ?_) rfl (by kernel_rfl) (by kernel_rfl) (by kernel_rfl) (by kernel_rfl) (by kernel_rfl) (by decide) (fun _ _ _ h => h) (Or.inl ⟨by kernel_rfl, ?_⟩) hHeld ?_
            rotate_left
            · (intro w' hSw; (try dsimp only at hSw); obtain ⟨hS0, hS1, hS2⟩ := hSw; go_simp; try with_reducible rfl)
            simp only [Act.put, lay8]
            refine takeL (i := 6) (v := ?_) rfl (by kernel_rfl) (by kernel_rfl) (by kernel_rfl) (by kernel_rfl) (by kernel_rfl) (by decide) (fun _ _ _ h => h) (Or.inl ⟨by kernel_rfl, ?_⟩) hHeld ?_
            rotate_left
            · (intro w' hSw; (try dsimp only at hSw); obtain ⟨hS0, hS1, hS2⟩ := hSw; go_simp; try with_reducible rfl)
            simp only [Act.put, lay8]
            refine takeL (i := 7) (v := ?_) rfl (by kernel_rfl) (by kernel_rfl) (by kernel_rfl) (by kernel_rfl) (by kernel_rfl) (by decide) (fun _ _ _ h => h) (Or.inl ⟨by kernel_rfl, ?_⟩) hHeld ?_
            rotate_left
            · (intro w' hSw; (try dsimp only at hSw); obtain ⟨hS0, hS1, hS2⟩ := hSw; go_simp; try with_reducible rfl)
            simp only [Act.put, lay8]
            refine takeL (i := 8) (v := ?_) rfl (by kernel_rfl) (by kernel_rfl) (by kernel_rfl) (by kernel_rfl) (by kernel_rfl) (by decide) (fun _ _ _ h => h) (Or.inl ⟨by kernel_rfl, ?_⟩) hHeld ?_
            rotate_left
            · (intro w' hSw; (try dsimp only at hSw); obtain ⟨hS0, hS1, hS2⟩ := hSw; go_simp; try with_reducible rfl)
            simp only [Act.put, lay8]
            refine takeL (i := 9) (v := ?_) rfl (by kernel_rfl) (by kernel_rfl) (by kernel_rfl) (by kernel_rfl) (by kernel_rfl) (by decide) (fun _ _ _ h => h) (Or.inl ⟨by kernel_rfl, ?_⟩) hHeld ?_
            rotate_left
            · (intro w' hSw; (try dsimp only at hSw); obtain ⟨hS0, hS1, hS2⟩ := hSw; go_simp; try with_reducible rfl)
            simp only [Act.put, lay8]
            refine takeL (i := 10) (v := ?_) rfl (by kernel_rfl) (by kernel_rfl) (by kernel_rfl) (by kernel_rfl) (by kernel_rfl) (by decide) (fun _ _ _ h => h) (Or.inl ⟨by kernel_rfl, ?_⟩) hHeld ?_
            rotate_left
            · (intro w' hSw; (try dsimp only at hSw); obtain ⟨hS0, hS1, hS2⟩ := hSw; go_simp; try with_reducible rfl)
            simp only [Act.put, lay8]
            refine takeL (i := 11) (v := ?_) rfl (by kernel_rfl) (by kernel_rfl) (by kernel_rfl) (by kernel_rfl) (by kernel_rfl) (by decide) (fun _ _ _ h => h) (Or.inl ⟨by kernel_rfl, ?_⟩) hHeld ?_
            rotate_left
            · (intro w' hSw; (try dsimp only at hSw); obtain ⟨hS0, hS1, hS2⟩ := hSw; go_simp; try with_reducible rfl)
            simp only [Act.put, lay8]
            refine readyL (rs := [12]) (by kernel_rfl) (by simp) (ReadyL.last rfl (fun K hK => ?_))
            go_simp
            refine hK.out _ _ ?_
            clear hK K
            (try simp only [Act.put, lay8])
            refine doneL (by kernel_rfl) ?_ _
            generalize hV : World.drew (World.setCell _ _ _) = W6
            have HW6 := Lib.hid (show DaI w W6 B S _ ((u + m : Nat) : Int) (Bl.set j u) from by rw [← hV, show ((u + m : Nat) : Int) = (u : Int) + (m : Int) by omega]; exact (HW5.out.setE _).drew)
            clear hV q0 q1 q2 q3 ha i0 i1 i2 i3 i4 i5 i6 i7 i8 i9
            go_wp2_with fail
            exact ⟨⟨j + 1, u + m, Bl.set j u, by omega, ret_i (by omega), by simp; omega, by omega, HW6, HKF⟩, by simp only [intOf]; omega⟩
          · have e7 : ((x.kind : Int) == 7) = false := by rw [beq_eq_false_iff_ne]; omega
            rw [if_neg h7] at hKF
            have HKF := Lib.hid hKF
            clear hKF
            go_wp2_with fail
            exact ⟨⟨j + 1, e, Bl, by omega, ret_i (by omega), hBl, by omega, HE, HKF⟩, by simp only [intOf]; omega⟩
        · have hKF := HK.out
          rw [List.drop_eq_nil_of_le (by omega)] at hKF
          have HR2 := Lib.hid (show (Bl, e) = RR from hKF)
          obtain ⟨⟨q0, q1, q2, q3⟩, -⟩ := HE.out.cells
          have y0 : wr.cell? ⟨B, 0, none⟩ = some (.string ⟨#[]⟩) := by rw [cell_row wr B 0 _ _ HE.out.z0]; rfl
          have y1 : wr.cell? ⟨B, 1, none⟩ = some (.slice none 0 0) := by rw [cell_row wr B 1 _ _ HE.out.z0]; rfl
          have y2 : wr.cell? ⟨B, 2, none⟩ = some (.int .i64 0) := by rw [cell_row wr B 2 _ _ HE.out.z0]; rfl
          have y3 : wr.cell? ⟨B, 3, none⟩ = some (.bool false) := by rw [cell_row wr B 3 _ _ HE.out.z0]; rfl
          have f0 := frozen_of wr B 0 _ _ HE.out.z0
          have f1 := frozen_of wr B 1 _ _ HE.out.z0
          have f2 := frozen_of wr B 2 _ _ HE.out.z0
          have f3 := frozen_of wr B 3 _ _ HE.out.z0
          have hne : B ≠ B + 1 := by omega
          clear hKF HK
          go_wp2_with fail
          generalize hV : World.setCell (World.setCell _ _ _) _ _ = V9
          have hzV : V9.heap[B]? = some (.cells (daL S (.slice aA k ac) e).toArray 76 (0, 0)) := by
            rw [← hV, set_at _ B 3 _ _ _ (set_at _ B 2 _ _ _ (set_at _ B 1 _ _ _ (set_at _ B 0 _ _ _ HE.out.z0)))]; rfl
          have hbV : Below B w V9 := by
            rw [← hV]
            exact (((HE.out.bel.setCell (p := ⟨B, 0, none⟩) (Nat.le_refl _) _).setCell (p := ⟨B, 1, none⟩) (Nat.le_refl _) _).setCell (p := ⟨B, 2, none⟩) (Nat.le_refl _) _).setCell (p := ⟨B, 3, none⟩) (Nat.le_refl _) _
          have hoV : V9.ownsRow (B + 2) 3 1 (.slice aA k ac) Bl.length (ints Bl) := by
            rw [← hV]
            refine own_heap HE.out.own fun G hG _ => ?_
            rw [Below.heap_setCell _ _ _ _ (by show G ≠ B; omega), Below.heap_setCell _ _ _ _ (by show G ≠ B; omega), Below.heap_setCell _ _ _ _ (by show G ≠ B; omega), Below.heap_setCell _ _ _ _ (by show G ≠ B; omega)]
          refine bodyPost_ret (resultsA (cs := daL S (.slice aA k ac) e) rfl rfl (rangeA hzV) Tryz.underlying76 rfl info_data) rfl ⟨_, rfl, ⟨aA, ac, ?_, ?_⟩, by rw [hB]; exact hbV⟩
          · have hd : Pl.dataD l = ⟨S, Bl, e⟩ := by
              unfold Pl.dataD
              rw [HL.out.2.2.2.1, ← HF.out]
              dsimp only
              rw [HRR.out, ← HR2.out]
            rw [hd]; rfl
          · have hd : Pl.dataD l = ⟨S, Bl, e⟩ := by
              unfold Pl.dataD
              rw [HL.out.2.2.2.1, ← HF.out]
              dsimp only
              rw [HRR.out, ← HR2.out]
            rw [hd]
            rw [hBl] at hoV
            exact Rd.own hoV
end Go.Proofs.YtmmnkoeajdeldaaGreatDoor
namespace Go.Proofs.YtmmnkoeajdeldaaGreatDoor.Pl
theorem dataF_bd : ∀ (l : List It) (S : List UInt8) (A : List Nat) (M : Nat), (∀ x ∈ l, x.s.length ≤ 65536) → S.length ≤ M → (∀ a ∈ A, a ≤ M) → (dataF l S A).1.length ≤ M + 70000 * l.length ∧ ∀ a ∈ (dataF l S A).2, a ≤ M + 70000 * l.length
  | [], S, A, M, _, h1, h2 => ⟨by simpa [dataF] using h1, by simpa [dataF] using h2⟩
  | x :: r, S, A, M, hs, h1, h2 => by
    have hx := hs x (by simp)
    simp only [dataF]
    obtain ⟨T, hT⟩ : ∃ T, (if x.kind = 6 then S ++ List.replicate (up S.length 4 - S.length) 0 else S) = T := ⟨_, rfl⟩
    have hTl : T.length ≤ M + 3 := by
      rw [← hT]
      have hu : up S.length 4 ≤ S.length + 3 := by unfold up; omega
      split
      · simp; omega
      · omega
    rw [hT]
    have hp : (putB (u32N x.n) 4).length = 4 := by simp [putB]
    have h := dataF_bd r (T ++ (if x.kind = 5 then x.s else if x.kind = 6 then putB (u32N x.n) 4 else [])) (A ++ [T.length]) (M + 70000) (fun y hy => hs y (List.mem_cons_of_mem _ hy)) (by
      rw [List.length_append]
      split
      · omega
      · split
        · omega
        · simp; omega) (fun a ha => by
      rcases List.mem_append.1 ha with g | g
      · have := h2 a g; omega
      · simp at g; omega)
    refine ⟨?_, fun a ha => ?_⟩
    · have := h.1; simp only [List.length_cons]; omega
    · have := h.2 a ha; simp only [List.length_cons]; omega
theorem roomsF_bd : ∀ (l : List It) (i e : Nat) (A : List Nat) (M : Nat), (∀ x ∈ l, x.kind = 7 → 0 ≤ x.n ∧ x.n ≤ 65536) → e ≤ M → (∀ a ∈ A, a ≤ M) → (roomsF l i e A).2 ≤ M + 70000 * l.length ∧ (∀ a ∈ (roomsF l i e A).1, a ≤ M + 70000 * l.length) ∧ (roomsF l i e A).1.length = A.length
  | [], i, e, A, M, _, h1, h2 => ⟨by simpa [roomsF] using h1, by simpa [roomsF] using h2, rfl⟩
  | x :: r, i, e, A, M, hn, h1, h2 => by
    have hx := hn x (by simp)
    have hr : ∀ y ∈ r, y.kind = 7 → 0 ≤ y.n ∧ y.n ≤ 65536 := fun y hy => hn y (List.mem_cons_of_mem _ hy)
    have hu : up e 4 ≤ e + 3 := by unfold up; omega
    simp only [roomsF]
    split
    · next h7 =>
      obtain ⟨g0, g1⟩ := hx h7
      have h := roomsF_bd r (i + 1) (up e 4 + x.n.toNat) (A.set i (up e 4)) (M + 70000) hr (by omega) (fun a ha => by
        rcases List.mem_or_eq_of_mem_set ha with g | g
        · have := h2 a g; omega
        · omega)
      refine ⟨?_, fun a ha => ?_, by rw [h.2.2, List.length_set]⟩
      · have := h.1; simp only [List.length_cons]; omega
      · have := h.2.1 a ha; simp only [List.length_cons]; omega
    · have h := roomsF_bd r (i + 1) e A M hr h1 h2
      refine ⟨?_, fun a ha => ?_, h.2.2⟩
      · have := h.1; simp only [List.length_cons]; omega
      · have := h.2.1 a ha; simp only [List.length_cons]; omega
theorem dataF_len : ∀ (l : List It) (S : List UInt8) (A : List Nat), (dataF l S A).2.length = A.length + l.length
  | [], S, A => by simp [dataF]
  | x :: r, S, A => by simp only [dataF]; rw [dataF_len r]; simp; omega
theorem dataD_bd (l : List It) (hl : l.length ≤ 1000) (hs : ∀ x ∈ l, x.s.length ≤ 65536) (hn : ∀ x ∈ l, x.kind = 7 → 0 ≤ x.n ∧ x.n ≤ 65536) : (dataD l).s.length ≤ 70000000 ∧ (dataD l).e ≤ 140000000 ∧ (∀ a ∈ (dataD l).a, a ≤ 140000000) ∧ (dataD l).a.length = l.length := by
  have h1 := dataF_bd l [] [] 0 hs (by simp) (by simp)
  have h2 := roomsF_bd l 0 (dataF l [] []).1.length (dataF l [] []).2 70000000 hn (by omega) (fun a ha => by have := h1.2 a ha; omega)
  have h3 := dataF_len l [] []
  refine ⟨by show (dataF l [] []).1.length ≤ _; omega, by show (roomsF l 0 (dataF l [] []).1.length (dataF l [] []).2).2 ≤ _; omega, fun a ha => ?_, ?_⟩
  · have := h2.2.1 a ha; omega
  · show (roomsF l 0 (dataF l [] []).1.length (dataF l [] []).2).1.length = _
    rw [h2.2.2, h3]; simp
end Go.Proofs.YtmmnkoeajdeldaaGreatDoor.Pl
namespace Go.Proofs.YtmmnkoeajdeldaaGreatDoor
open Go.RowKit
set_option linter.unusedVariables false
set_option linter.unusedSimpArgs false
attribute [local go_sem] ba_get ba_cut ba_add
def addrV (o : Option Nat) : Int := match o with | none => -1 | some n => (n : Int)
set_option maxRecDepth 100000 in
set_option maxHeartbeats 16000000 in
theorem raddr_any (A : Option Addr) (c : Nat) (l : List Pl.It) (nm : List UInt8) (w : World) (hr : Rd w 10 A l.length (itsC l)) (hl : l.length ≤ 1000) (hs : ∀ x ∈ l, x.s.length ≤ 65536) (hn7 : ∀ x ∈ l, x.kind = 7 → 0 ≤ x.n ∧ x.n ≤ 65536) :
    Calls Tryz.prog 75 #[.slice A l.length c, .string ⟨nm.toArray⟩] w (RetB (fun v _ => v = .int .i64 (addrV (Pl.addrD l nm))) w) := by
  obtain ⟨R, hR⟩ : ∃ R, Pl.addrD l nm = R := ⟨_, rfl⟩
  rw [hR]
  unfold Pl.addrD at hR
  have hda := rdata_any A c l w hr hl hs hn7
  have hbd := Pl.dataD_bd l hl hs hn7
  have hba := fun W hb => rbase_any A c l W (hr.below hb) (by omega)
  have hbb : Pl.baseD l ≤ 100000 := by
    have : ∀ r : List Pl.It, Pl.sumW r ≤ 2 * r.length := by
      intro r; induction r with
      | nil => simp [Pl.sumW]
      | cons x r ih => have := wordsOfD_le x; simp only [Pl.sumW, List.length_cons]; omega
    have := this l
    unfold Pl.baseD Pl.up; omega
  have hgi := fun x W => rgives_any x W
  have hwo := fun x W => rwordsOf_any x W
  simp only [itVa] at hgi hwo
  obtain ⟨bs, hbs⟩ : ∃ z, Pl.baseD l = z := ⟨_, rfl⟩
  rw [hbs] at hba hbb
  obtain ⟨Da, hDa⟩ : ∃ z, Pl.dataD l = z := ⟨_, rfl⟩
  rw [hDa] at hda hbd
  have HL := Lib.hid (And.intro hr (And.intro hda (And.intro hbd (And.intro hba (And.intro hgi (And.intro hwo (And.intro hbs hDa)))))))
  have HR := Lib.hid hR
  clear hr hda hbd hba hgi hwo hbs hDa hR hs hn7
  obtain ⟨n, hn⟩ : ∃ n, l.length = n := ⟨_, rfl⟩
  rw [hn] at hl HL ⊢
  go_enter Tryz.func75, Tryz.ntmps75
  go_wp2_with fail
  (with_reducible refine HL.out.2.1.mono ?_)
  rintro y w1 ⟨v, rfl, ⟨aA, ac, rfl, hra⟩, hb1⟩
  obtain ⟨D, hD⟩ : ∃ D, w1.heap.size = D := ⟨_, rfl⟩
  have HA := Lib.hid (And.intro hra hb1)
  clear hra hb1
  go_upto_region 2 with (fail)
  generalize hV : World.alloc w1 _ = V
  have hzD : V.heap[D]? = some (.cells (daL Da.s (.slice aA n ac) Da.e).toArray 76 (0, 0)) := by rw [← hV, ← hD]; exact heap_alloc_new _ _
  have hbV : Below w1.heap.size w1 V := by rw [← hV]; exact (Below.refl _ _).alloc (Nat.le_refl _) _
  have HV := Lib.hid (And.intro hzD (And.intro (HA.out.1.below hbV) (HA.out.2.trans (hbV.mono HA.out.2.size))))
  clear hV hzD hbV
  go_wp2_with fail
  go_loopw [6, 7] (fun v i wr => ∃ (k a : Nat), k ≤ n ∧ v = .int .i64 (a : Int) ∧ i = .int .i64 (k : Int) ∧ a ≤ 8 * k ∧ Hid (Below V.heap.size V wr) ∧ Hid (Pl.addrF l nm (l.drop k) k a = R)) (fun _ i _ => n - (intOf i).toNat)
  case atStart => exact ⟨0, 0, by omega, rfl, rfl, by omega, Lib.hid (Below.refl _ _), Lib.hid (by rw [List.drop_zero]; exact HR.out)⟩
  case round =>
    obtain ⟨k, a, hk, rfl, rfl, ha, HB, HK⟩ := hrel
    by_cases hkn : k < n
    · have hkl : k < l.length := by omega
      obtain ⟨b, off, rfl, hbl, hit⟩ := its_all (by rw [hn]; exact HL.out.1) (by omega)
      have HIT := Lib.hid (fun W hW => hit W hW k hkl)
      have hKF := HK.out
      rw [List.drop_eq_getElem_cons hkl, Pl.addrF] at hKF
      have hgi := fun W => HL.out.2.2.2.2.1 l[k] W
      have hwo := fun W => HL.out.2.2.2.2.2.1 l[k] W
      have hw2 := wordsOfD_le l[k]
      obtain ⟨x, hx⟩ : ∃ x, l[k] = x := ⟨_, rfl⟩
      rw [hx] at HIT hKF hgi hwo hw2
      obtain ⟨gv, hgv⟩ : ∃ z, x.gives = z := ⟨_, rfl⟩
      obtain ⟨u, hu⟩ : ∃ z, Pl.wordsOfD x = z := ⟨_, rfl⟩
      rw [hgv] at hKF hgi
      rw [hu] at hKF hwo hw2
      have HG := Lib.hid (And.intro hgi hwo)
      have HW := Lib.hid (HV.out.2.2.trans (HB.out.mono HV.out.2.2.size))
      obtain ⟨i0, i1, i2, i3, i4, i5, i6, i7, i8, i9⟩ := HIT.out wr HW.out
      clear hit hx HK hgv hu hgi hwo
      go_wp2_with fail
      (with_reducible refine (HG.out.1 _).mono ?_)
      rintro y w2 ⟨v, rfl, rfl, hb2⟩
      have HB2 := Lib.hid (HB.out.trans (hb2.mono HB.out.size))
      have HW2 := Lib.hid (HW.out.trans (hb2.mono HW.out.size))
      clear i0 i1 i2 i3 i4 i5 i6 i7 i8 i9 hb2
      obtain ⟨i0, i1, i2, i3, i4, i5, i6, i7, i8, i9⟩ := HIT.out w2 HW2.out
      by_cases hm : gv = true ∧ x.name = nm
      · obtain ⟨rfl, hmn⟩ := hm
        rw [if_pos (by rw [hmn]; simp)] at hKF
        rw [hmn] at i1
        clear hmn
        by_cases h1 : x.kind = 1
        · have e1 : ((x.kind : Int) == 1) = true := by rw [beq_iff_eq]; omega
          rw [if_pos h1] at hKF
          have HN := Lib.hid hKF
          clear hKF h1
          go_wp2_with fail
          go_ret
          refine ⟨_, rfl, ?_, HW2.out⟩
          rw [← HN.out]
          rfl
        · have e1 : ((x.kind : Int) == 1) = false := by rw [beq_eq_false_iff_ne]; omega
          rw [if_neg h1] at hKF
          have hal := HL.out.2.2.1.2.2.2
          have hka : k < Da.a.length := by omega
          have hgd : Da.a.getD k 0 = Da.a[k] := by rw [List.getD_eq_getElem?_getD, List.getElem?_eq_getElem hka]; rfl
          have hbk := HL.out.2.2.1.2.2.1 Da.a[k] (List.getElem_mem hka)
          rw [HL.out.2.2.2.2.2.2.2, HL.out.2.2.2.2.2.2.1, hgd] at hKF
          obtain ⟨g, o, hge, hgl, hgc⟩ := (HV.out.2.1.below HB2.out).at1 hkn
          have hic : (ints Da.a)[k]? = some (.int .i64 (Da.a[k] : Int)) := by simp [ints, hka]
          rw [hic] at hgc
          obtain ⟨ak, hak⟩ : ∃ z, Da.a[k] = z := ⟨_, rfl⟩
          rw [hak] at hKF hgc hbk
          have HN := Lib.hid hKF
          have hzD := (HB2.out.block D (blk_lt HV.out.1)).trans HV.out.1
          subst hge
          have d1 : w2.cell? ⟨D, 1, none⟩ = some (.slice (some ⟨g, o, none⟩) n ac) := by rw [cell_row w2 D 1 _ _ hzD]; rfl
          have hsum : IntKind.i64.wrap ((bs : Int) + (ak : Int)) = (bs : Int) + (ak : Int) := IntWalk.i64_in _ (by omega)
          have HZD := Lib.hid (And.intro hzD (And.intro hgc hgl))
          clear hKF hal hgd hic hak hzD h1
          go_upto_region 9 with (fail)
          refine wp_region_held_drew (S := (fun W => W.cell? ⟨D, 1, none⟩ = some (.slice (some ⟨g, o, none⟩) n ac) ∧ W.cell? ⟨g, o + k, none⟩ = some (.int .i64 (ak : Int)))) (by kernel_rfl) (by exact ⟨d1, hgc⟩) (fun hHeld => ?_)
          refine wpAnyH_take (i := 0) (v := ?_) rfl (by kernel_rfl) (by kernel_rfl) (by kernel_rfl) (fun _ _ _ h => h) (Or.inl ⟨by kernel_rfl, ?_⟩) hHeld ?_
          rotate_left
          · (intro w' hSw; obtain ⟨hS0, hS1⟩ := hSw; go_simp; try with_reducible rfl)
          simp only [Act.put, lay8]
          refine wpAnyH_take (i := 2) (v := ?_) rfl (by kernel_rfl) (by kernel_rfl) (by kernel_rfl) (fun _ _ _ h => h) (Or.inl ⟨by kernel_rfl, ?_⟩) hHeld ?_
          rotate_left
          · (intro w' hSw; obtain ⟨hS0, hS1⟩ := hSw; go_simp; try with_reducible rfl)
          simp only [Act.put, lay8]
          refine wpAnyH_take (i := 3) (v := ?_) rfl (by kernel_rfl) (by kernel_rfl) (by kernel_rfl) (fun _ _ _ h => h) (Or.inl ⟨by kernel_rfl, ?_⟩) hHeld ?_
          rotate_left
          · (intro w' hSw; obtain ⟨hS0, hS1⟩ := hSw; go_simp; try with_reducible rfl)
          simp only [Act.put, lay8]
          refine wpAnyH_take (i := 4) (v := ?_) rfl (by kernel_rfl) (by kernel_rfl) (by kernel_rfl) (fun _ _ _ h => h) (Or.inl ⟨by kernel_rfl, ?_⟩) hHeld ?_
          rotate_left
          · (intro w' hSw; obtain ⟨hS0, hS1⟩ := hSw; go_simp; try with_reducible rfl)
          simp only [Act.put, lay8]
          refine wpAnyH_take (i := 5) (v := ?_) rfl (by kernel_rfl) (by kernel_rfl) (by kernel_rfl) (fun _ _ _ h => h) (Or.inl ⟨by kernel_rfl, ?_⟩) hHeld ?_
          rotate_left
          · (intro w' hSw; obtain ⟨hS0, hS1⟩ := hSw; go_simp; try with_reducible rfl)
          simp only [Act.put, lay8]
          refine wpAnyH_take (i := 6) (v := ?_) rfl (by kernel_rfl) (by kernel_rfl) (by kernel_rfl) (fun _ _ _ h => h) (Or.inl ⟨by kernel_rfl, ?_⟩) hHeld ?_
          rotate_left
          · (intro w' hSw; obtain ⟨hS0, hS1⟩ := hSw; go_simp; try with_reducible rfl)
          simp only [Act.put, lay8]
          refine wpAnyH_ready (rs := [1]) (by kernel_rfl) (by simp) (AllReadyH.cons rfl (fun K hK => ?_) AllReadyH.nil)
          go_simp
          (with_reducible refine (HL.out.2.2.2.1 _ HW2.out.drew).mono ?_)
          rintro y w3 ⟨v, rfl, rfl, hb3⟩
          have d3 : w3.cell? ⟨D, 1, none⟩ = some (.slice (some ⟨g, o, none⟩) n ac) := by rw [cell_row w3 D 1 _ _ ((hb3.block D (blk_lt HZD.out.1)).trans HZD.out.1)]; rfl
          have g3 : w3.cell? ⟨g, o + k, none⟩ = some (.int .i64 (ak : Int)) := by
            have h := HZD.out.2.1
            unfold World.cell? at h ⊢
            rw [hb3.block g HZD.out.2.2]; exact h
          have HW3 := Lib.hid (HW2.out.drew.trans (hb3.mono HW2.out.drew.size))
          refine hK.out _ _ (by exact ⟨d3, g3⟩) (fun hHeld => ?_)
          clear hK K
          (try simp only [Act.put, lay8])
          refine wpAnyH_take (i := 7) (v := ?_) rfl (by kernel_rfl) (by kernel_rfl) (by kernel_rfl) (fun _ _ _ h => h) (Or.inl ⟨by kernel_rfl, ?_⟩) hHeld ?_
          rotate_left
          · (intro w' hSw; obtain ⟨hS0, hS1⟩ := hSw; go_simp; try with_reducible rfl)
          simp only [Act.put, lay8]
          refine wpAnyH_take (i := 8) (v := ?_) rfl (by kernel_rfl) (by kernel_rfl) (by kernel_rfl) (fun _ _ _ h => h) (Or.inl ⟨by kernel_rfl, ?_⟩) hHeld ?_
          rotate_left
          · (intro w' hSw; obtain ⟨hS0, hS1⟩ := hSw; go_simp; try with_reducible rfl)
          simp only [Act.put, lay8]
          (try simp only [List.getElem_toArray, List.getElem_cons_succ, List.getElem_cons_zero])
          refine wpAnyH_done (by kernel_rfl) ?_ _
          go_wp2_with fail
          go_ret
          refine ⟨_, rfl, ?_, HW3.out⟩
          rw [← HN.out]
          exact ret_i (by show (bs : Int) + (ak : Int) = ((bs + ak : Nat) : Int); omega)
      · have hc : ¬ ((gv && (x.name == nm)) = true) := fun h => hm (by simpa using h)
        rw [if_neg hc] at hKF
        have HN := Lib.hid hKF
        have hmul : IntKind.i64.wrap (4 * (u : Int)) = 4 * (u : Int) := IntWalk.i64_in _ (by omega)
        clear hKF
        cases gv with
        | true =>
          have hne : ¬ x.name = nm := fun h => hm ⟨rfl, h⟩
          have en : (x.name == nm) = false := beq_eq_false_iff_ne.2 hne
          clear hm hc hne
          go_wp2_with fail
          (with_reducible refine (HG.out.2 _).mono ?_)
          rintro y w3 ⟨v, rfl, rfl, hb3⟩
          have HB3 := Lib.hid (HB2.out.trans (hb3.mono HB2.out.size))
          clear i0 i1 i2 i3 i4 i5 i6 i7 i8 i9 hb3
          go_wp2_with fail
          exact ⟨⟨k + 1, a + 4 * u, by omega, ret_i (by omega), ret_i (by omega), by omega, HB3, Lib.hid HN.out⟩, by simp only [intOf]; omega⟩
        | false =>
          clear hm hc
          go_wp2_with fail
          (with_reducible refine (HG.out.2 _).mono ?_)
          rintro y w3 ⟨v, rfl, rfl, hb3⟩
          have HB3 := Lib.hid (HB2.out.trans (hb3.mono HB2.out.size))
          clear i0 i1 i2 i3 i4 i5 i6 i7 i8 i9 hb3
          go_wp2_with fail
          exact ⟨⟨k + 1, a + 4 * u, by omega, ret_i (by omega), ret_i (by omega), by omega, HB3, Lib.hid HN.out⟩, by simp only [intOf]; omega⟩
    · have hRn : R = none := by
        rw [← HK.out, List.drop_eq_nil_of_le (by omega)]; rfl
      have HN := Lib.hid hRn
      have HW := Lib.hid (HV.out.2.2.trans (HB.out.mono HV.out.2.2.size))
      clear hRn HK
      go_wp2_with fail
      go_ret
      refine ⟨_, rfl, ?_, HW.out⟩
      rw [HN.out]
      rfl
end Go.Proofs.YtmmnkoeajdeldaaGreatDoor
namespace Go.Proofs.YtmmnkoeajdeldaaGreatDoor.Pl
theorem addrF_bd2 (all : List It) (nm : List UInt8) (M : Nat) (hM : ∀ i, baseD all + (dataD all).a.getD i 0 ≤ M) : ∀ (l : List It) (i a n : Nat), a + 8 * l.length ≤ M → addrF all nm l i a = some n → n ≤ M
  | [], i, a, n, _, h => by cases h
  | x :: r, i, a, n, ha, h => by
    have hw : wordsOfD x ≤ 2 := by unfold wordsOfD; (repeat' split) <;> omega
    rw [addrF] at h
    simp only [List.length_cons] at ha
    split at h
    · split at h
      · cases h; omega
      · cases h; exact hM i
    · exact addrF_bd2 all nm M hM r (i + 1) (a + 4 * wordsOfD x) n (by omega) h
theorem addrD_bd2 (l : List It) (nm : List UInt8) (hl : l.length ≤ 1000) (hs : ∀ x ∈ l, x.s.length ≤ 65536) (hn : ∀ x ∈ l, x.kind = 7 → 0 ≤ x.n ∧ x.n ≤ 65536) {n : Nat} (h : addrD l nm = some n) : n ≤ 150000000 := by
  have hb := dataD_bd l hl hs hn
  have hbb : baseD l ≤ 100000 := by
    have : ∀ r : List It, sumW r ≤ 2 * r.length := by
      intro r; induction r with
      | nil => simp [sumW]
      | cons x r ih => have hw : wordsOfD x ≤ 2 := (by unfold wordsOfD; (repeat' split) <;> omega); simp only [sumW, List.length_cons]; omega
    have := this l
    unfold baseD up; omega
  refine addrF_bd2 l nm 150000000 (fun i => ?_) l 0 0 n (by omega) h
  have : (dataD l).a.getD i 0 ≤ 140000000 := by
    rw [List.getD_eq_getElem?_getD]
    rcases Nat.lt_or_ge i (dataD l).a.length with g | g
    · rw [List.getElem?_eq_getElem g]; exact hb.2.2.1 _ (List.getElem_mem g)
    · rw [List.getElem?_eq_none g]; simp
  omega
/-- What is known of an item. -/
structure ItOk2 (x : It) : Prop where
  op : x.x.op < 256
  a : x.x.a < 256
  b : x.x.b < 256
  c : x.x.c < 256
  i0 : -2147483648 ≤ x.x.imm
  i1 : x.x.imm ≤ 2147483647
  s : x.s.length ≤ 65536
  n7 : x.kind = 7 → 0 ≤ x.n ∧ x.n ≤ 65536
end Go.Proofs.YtmmnkoeajdeldaaGreatDoor.Pl
