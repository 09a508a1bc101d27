/- The walk of num.length: what the Go text returns is Pl.lenOf, and the world is as it was. Condition: the text is no longer than a Go string may be. The walk of num.Texts. The walks of the reference's Same, length, Row, of the statements' long. The walks of the reference's length and Row. -/
import Derived.Test.YtdnebgilkfafhaaGreatDoorBase
import Derived.Test.YtdnebgilkfafhaaGreatDoorNumPlain
import Derived.Deep.QuietTactic
import Derived.BigQuiet
import Derived.Deep.RegionWith
import Derived.Deep.RegionHeld3
namespace Go.Proofs.YtdnebgilkfafhaaGreatDoor
open Go.RowKit
attribute [local go_sem] ba_get

def len3 (r : Nat × Nat × Nat) : Value := .tuple #[.int .i64 r.1, .int .i64 r.2.1, .int .i64 r.2.2]
theorem len3_mk {r : Nat × Nat × Nat} {a b c : Nat} (h : r = (a, b, c)) : len3 r = .tuple #[.int .i64 a, .int .i64 b, .int .i64 c] := by subst h; rfl

set_option maxRecDepth 100000 in
set_option maxHeartbeats 400000 in
theorem length_any (l : List UInt8) (w : World) (hs : l.length ≤ 9223372036854775807) :
    Calls Tryz.prog 115 #[.string ⟨l.toArray⟩] w (Ret (len3 (Pl.lenOf l 0 0)) w) := by
  obtain ⟨r, hr⟩ : ∃ r, Pl.lenOf l 0 0 = r := ⟨_, rfl⟩
  rw [hr]
  have Hr := Lib.hid hr
  clear hr
  go_enter Tryz.func115, Tryz.ntmps115
  go_wp2
  go_loop [5, 10] (fun n i => ∃ (k m : Nat), k ≤ l.length ∧ i = .int .i64 k ∧ n = .int .i64 m ∧ k < 4 ∧ Hid (m < 128 ^ k ∧ Pl.lenOf (l.drop k) k m = r)) (fun _ i => l.length - (intOf i).toNat)
  case atStart => exact ⟨0, 0, Nat.zero_le _, rfl, rfl, by omega, ⟨by omega, Hr⟩⟩
  case round =>
    obtain ⟨k, m, hk, rfl, rfl, hk4, H⟩ := hrel
    by_cases hlt : k < l.length
    · obtain ⟨c, hc⟩ : ∃ c, l[k] = c := ⟨_, rfl⟩
      have hstep := Pl.lenOf_step l k m hlt
      rw [hc, H.out.2] at hstep
      have ho := Pl.or_len m k c hk4 H.out.1
      have hnx := Pl.or_len_lt m k c.toNat H.out.1
      have HS := Lib.hid (And.intro hstep (And.intro ho hnx)); clear hstep ho hnx H
      by_cases h1 : 128 ≤ (c.toNat : Int)
      · have h1' : ¬ (c.toNat : Int) < 128 := by omega
        by_cases h3 : k = 3
        · subst h3
          go_wp2
          go_ret3
          obtain ⟨hstep, -, -⟩ := HS.out
          rw [if_pos (by simp; omega)] at hstep
          exact ⟨by rw [len3_mk hstep]; rfl, rfl⟩
        · have h3' : ((k : Int) == 3) = false := by simp; omega
          go_wp2
          go_round
          case rel =>
            obtain ⟨hstep, ho, hnx⟩ := HS.out
            rw [if_neg (by omega), if_pos (by omega)] at hstep
            exact ⟨k + 1, _, by omega, by go_num, by rw [ho], by omega, ⟨hnx, hstep.symm⟩⟩
          case measure => simp [intOf]; omega
      · have h1' : (c.toNat : Int) < 128 := by omega
        obtain rfl | rfl | rfl | rfl : k = 0 ∨ k = 1 ∨ k = 2 ∨ k = 3 := by omega
        all_goals by_cases h0 : c.toNat = 0
        all_goals go_wp2
        all_goals go_ret3
        all_goals obtain ⟨hstep, ho, -⟩ := HS.out
        all_goals rw [if_neg (by omega), if_neg (by omega)] at hstep
        all_goals first | rw [if_neg (by omega)] at hstep | rw [if_pos (by omega)] at hstep
        all_goals refine ⟨?_, rfl⟩
        all_goals rw [len3_mk hstep]
        all_goals first | rfl | (simp [h0] at ho ⊢; done) | (simp [h0] at ho ⊢; exact ho) | (simp [h0] at ho ⊢; omega)
    · go_wp2
      go_ret3
      have := H.out.2
      rw [Pl.lenOf_end _ _ _ (by omega)] at this
      subst this
      exact ⟨rfl, rfl⟩

theorem length_at (l : List UInt8) (n u e : Nat) (h : Pl.lenOf l 0 0 = (n, u, e)) (w : World) (hs : l.length ≤ 9223372036854775807) :
    Calls Tryz.prog 115 #[.string ⟨l.toArray⟩] w (Ret (.tuple #[.int .i64 n, .int .i64 u, .int .i64 e]) w) := by
  have := length_any l w hs
  rw [h] at this; exact this
end Go.Proofs.YtdnebgilkfafhaaGreatDoor
namespace Go.Proofs.YtdnebgilkfafhaaGreatDoor
open Go.RowKit
attribute [local go_sem] ba_get ba_cut
attribute [local go_sem] List.drop_zero Nat.sub_zero

/-- A slice of the call's own that reads as texts, and an error beside it. -/
def TextsOut (B : Nat) (r : List (List UInt8) × Nat) (v : Value) (w : World) : Prop := ∃ sv, v = .tuple #[sv, .int .i64 (r.2 : Int)] ∧ w.ownsRow B 9 1 sv r.1.length (strs r.1)

set_option maxRecDepth 100000 in
set_option maxHeartbeats 400000 in
theorem texts_any (b0 : List UInt8) (w : World) (hs : b0.length ≤ 1099511627776) :
    Calls Tryz.prog 79 #[.string ⟨b0.toArray⟩] w (RetB (TextsOut w.heap.size (Pl.texts b0)) w) := by
  obtain ⟨r, hr⟩ : ∃ r, Pl.texts b0 = r := ⟨_, rfl⟩
  rw [hr]
  have Hr := Lib.hid hr
  clear hr
  have hin := info_str
  have HI := Lib.hid hin; clear hin
  go_enter Tryz.func79, Tryz.ntmps79
  go_wp2_with fail
  go_loopw [0, 4] (fun t v wr => ∃ (b : List UInt8) (acc : List (List UInt8)) (k : Nat), t = .string ⟨b.toArray⟩ ∧ b.length + acc.length ≤ b0.length ∧ wr.ownsRow w.heap.size 9 1 v acc.length (strs acc) ∧ Below w.heap.size w wr ∧ Hid (b.length ≤ k ∧ Pl.textsA k b acc = r)) (fun t _ _ => strLen t)
  case atStart => exact ⟨b0, [], b0.length, rfl, by simp, World.ownsRow_nil _ _ _ _, Below.refl _ _, ⟨Nat.le_refl _, Hr⟩⟩
  case round =>
    obtain ⟨b, acc, k, rfl, hle, hown, hbw, H⟩ := hrel
    by_cases hb0 : b.length = 0
    · obtain rfl : b = [] := List.eq_nil_of_length_eq_zero hb0
      go_wp2_with fail
      go_ret2
      have h1 := H.out.2
      rw [Pl.textsA_nil] at h1
      subst h1
      exact ⟨_, rfl, ⟨_, rfl, hown⟩, hbw⟩
    · have hbn : b ≠ [] := fun h => hb0 (by rw [h]; rfl)
      have HBN := Lib.hid hbn; clear hbn
      obtain ⟨⟨n, u, e⟩, hlr⟩ : ∃ x, Pl.lenOf b 0 0 = x := ⟨_, rfl⟩
      have hbd := Pl.lenOf_bd b 0 0 (by omega) (by omega)
      rw [hlr] at hbd
      simp only [Nat.zero_add] at hbd
      obtain ⟨hn, hu, hu4, he4, hu0⟩ := hbd
      have HLR := Lib.hid hlr; clear hlr
      by_cases he : e = 0
      · subst he
        have hu0' := hu0 rfl
        clear hu0
        obtain ⟨b1, hd1⟩ : ∃ b1, b.drop u = b1 := ⟨_, rfl⟩
        have hl1 : b1.length + u ≤ b.length ∧ b.length ≤ b1.length + u := by rw [← hd1]; simp; omega
        obtain ⟨hl1, hl1'⟩ := hl1
        have HD1 := Lib.hid hd1
        have hd1c : List.take (b.length - u) (List.drop u b) = b1 := by rw [cut_all]; exact hd1
        clear hd1
        have HST : Hid (r = Pl.textsA k b acc) := H.out.2.symm
        by_cases hsh : b1.length < n
        · go_wp2_with (go_at_call 115; (with_reducible refine (length_at b n u 0 HLR.out _ (by omega)).mono ?_); rintro e w' ⟨rfl, rfl⟩)
          go_ret2
          have h1 := H.out.2
          rw [Pl.textsA_short k b acc n u HBN.out H.out.1 HLR.out (by rw [HD1.out]; exact hsh)] at h1
          subst h1
          exact ⟨_, rfl, ⟨_, rfl, World.ownsRow_nil _ _ _ _⟩, hbw⟩
        · obtain ⟨x, hx⟩ : ∃ x, b1.take n = x := ⟨_, rfl⟩
          obtain ⟨b2, hd2⟩ : ∃ b2, b1.drop n = b2 := ⟨_, rfl⟩
          have hl2 : b2.length + n ≤ b1.length := by rw [← hd2]; simp; omega
          have HD2 := Lib.hid (And.intro hx hd2)
          have hd2c : List.take (b1.length - n) (List.drop n b1) = b2 := by rw [cut_all]; exact hd2
          clear hd2
          go_wp2_with (first
            | (go_at_call 115; (with_reducible refine (length_at b n u 0 HLR.out _ (by omega)).mono ?_); rintro e w' ⟨rfl, rfl⟩)
            | (at_builtin; refine push_one rfl (.tmp 27) (.tmp 31) 22 rfl w.heap.size 9 (.string ⟨#[]⟩) 16 Tryz.underlying22 HI.out rfl _ _ _ _ _ rfl hown rfl rfl (by omega) (by omega) hbw.size ?_; intro v' w1 hown1 hb1))
          go_roundw
          case rel =>
            refine ⟨b2, acc ++ [x], k - 1, rfl, by simp; omega, by rw [strs_snoc]; simpa using hown1, hbw.trans hb1, ?_, ?_⟩
            · have := H.out.1; omega
            · have h1 := H.out.2
              rw [Pl.textsA_more k b acc n u HBN.out H.out.1 HLR.out (by rw [HD1.out]; exact hsh), HD1.out, HD2.out.1, HD2.out.2] at h1
              exact h1
          case measure => simp [strLen, ByteArray.size]; omega
      · have he' : ((e : Int) != 0) = true := by rw [bne_iff_ne]; omega
        go_wp2_with (go_at_call 115; (with_reducible refine (length_at b n u e HLR.out _ (by omega)).mono ?_); rintro e w' ⟨rfl, rfl⟩)
        go_ret2
        have h1 := H.out.2
        rw [Pl.textsA_err k b acc n u e HBN.out H.out.1 HLR.out he] at h1
        subst h1
        exact ⟨_, rfl, ⟨_, rfl, World.ownsRow_nil _ _ _ _⟩, hbw⟩
end Go.Proofs.YtdnebgilkfafhaaGreatDoor
namespace Go.Proofs.YtdnebgilkfafhaaGreatDoor
open Go.RowKit
attribute [local go_sem] ba_get

/-- Drawn a few times, the world else as it was. -/
def RetQ (v : Value) (w : World) (e : Ending) (w' : World) : Prop := e = .returned v ∧ ∃ n, w' = w.drewN n

set_option maxRecDepth 100000 in
set_option maxHeartbeats 400000 in
theorem same_any (A B : Option Addr) (n m c d : Nat) (l k : List (List UInt8)) (w : World) (ha : Rd w 1 A n (strs l)) (hb : Rd w 1 B m (strs k)) (hn : n ≤ 9223372036854775807) (hm : m ≤ 9223372036854775807) :
    Calls Tryz.prog 30 #[.slice A n c, .slice B m d] w (RetQ (.bool (decide (l = k))) w) := by
  have hl := ha.len1; rw [strs_len] at hl
  have hk := hb.len1; rw [strs_len] at hk
  by_cases hnm : n = m
  · subst hnm
    have hnn : ((n : Int) != n) = false := by simp
    have HL := Lib.hid hl; clear hl
    have HK := Lib.hid hk; clear hk
    go_enter Tryz.func30, Tryz.ntmps30
    go_wp2
    go_loopw [13] (fun i wr => ∃ (j q : Nat), j ≤ n ∧ i = .int .i64 j ∧ wr = w.drewN q ∧ Hid (l.take j = k.take j)) (fun i _ => n - (intOf i).toNat)
    case atStart => exact ⟨0, 0, Nat.zero_le _, rfl, rfl, by simp [Hid]⟩
    case round =>
      obtain ⟨j, q, hj, rfl, rfl, H⟩ := hrel
      by_cases hlt : j < n
      · obtain ⟨b1, o1, rfl, -, hc1⟩ := ha.at1 hlt
        obtain ⟨b2, o2, rfl, -, hc2⟩ := hb.at1 hlt
        rw [strs_get l j (by rw [HL.out]; exact hlt)] at hc1
        rw [strs_get k j (by rw [HK.out]; exact hlt)] at hc2
        obtain ⟨x, hx⟩ : ∃ x, l[j]'(by rw [HL.out]; exact hlt) = x := ⟨_, rfl⟩
        obtain ⟨y, hy⟩ : ∃ y, k[j]'(by rw [HK.out]; exact hlt) = y := ⟨_, rfl⟩
        rw [hx] at hc1; rw [hy] at hc2
        have HX := Lib.hid hx; clear hx
        have HY := Lib.hid hy; clear hy
        go_wp2
        go_quiet (fail)
        go_wp2
        · go_ret
          rename_i hne
          have hne' : x ≠ y := by simpa using hne
          refine ⟨?_, _, World.drewN_drewN _ _ _⟩
          have : ¬ l = k := by
            rintro rfl
            exact hne' (HX.out.symm.trans HY.out)
          simp [this]
        · rename_i heq
          have heq' : x = y := by simpa using heq
          go_roundw
          case rel =>
            refine ⟨j + 1, _, by omega, by go_num, rfl, ?_⟩
            have h1 : j < l.length := by rw [HL.out]; exact hlt
            have h2 : j < k.length := by rw [HK.out]; exact hlt
            show List.take (j + 1) l = List.take (j + 1) k
            rw [List.take_succ_eq_append_getElem h1, List.take_succ_eq_append_getElem h2, H.out, HX.out, HY.out, heq']
          case measure => simp [intOf]; omega
      · go_wp2
        go_ret
        refine ⟨?_, _, rfl⟩
        have h1 := H.out
        rw [List.take_of_length_le (by rw [HL.out]; omega), List.take_of_length_le (by rw [HK.out]; omega)] at h1
        simp [h1]
  · have hnm' : ((n : Int) != m) = true := by rw [bne_iff_ne]; omega
    have HL := Lib.hid hl; clear hl
    have HK := Lib.hid hk; clear hk
    go_enter Tryz.func30, Tryz.ntmps30
    go_wp2
    go_ret
    refine ⟨?_, 0, rfl⟩
    have : ¬ l = k := by
      rintro rfl
      exact hnm (HL.out.symm.trans HK.out)
    simp [this]

/-- Are texts more than are looked at? -/
def sumLen : List (List UInt8) → Nat
  | [] => 0
  | s :: l => s.length + 1 + sumLen l
theorem sumLen_snoc (l : List (List UInt8)) (s : List UInt8) : sumLen (l ++ [s]) = sumLen l + (s.length + 1) := by
  induction l with
  | nil => simp [sumLen]
  | cons x l ih => simp [sumLen, ih]; omega
theorem sumLen_take (l : List (List UInt8)) (j : Nat) (h : j < l.length) : sumLen (l.take (j + 1)) = sumLen (l.take j) + (l[j].length + 1) := by
  rw [List.take_succ_eq_append_getElem h, sumLen_snoc]
theorem sumLen_le (l : List (List UInt8)) (j : Nat) : sumLen (l.take j) ≤ sumLen l := by
  induction l generalizing j with
  | nil => simp [sumLen]
  | cons x l ih => cases j <;> simp [sumLen]; exact ih _
theorem sumLen_length (l : List (List UInt8)) : l.length ≤ sumLen l := by
  induction l with
  | nil => simp [sumLen]
  | cons x l ih => simp [sumLen]; omega

end Go.Proofs.YtdnebgilkfafhaaGreatDoor
namespace Go.Proofs.YtdnebgilkfafhaaGreatDoor
open Go.RowKit
attribute [local go_sem] ba_get

theorem conv_byte (w : World) (b off c : Nat) (x : Int) (h : w.cell? ⟨b, off, none⟩ = some (.int .u8 x)) :
    (convert 138 9 (.slice (some ⟨b, off, none⟩) 1 c)).run Tryz.prog w = .ok (.string ⟨#[UInt8.ofNat x.toNat]⟩) w := by
  rw [run_convert_bytes_string w _ _ _ _ _ _ Tryz.underlying138 Tryz.underlying5 Tryz.underlying9]
  rw [run_bytesToString w ⟨b, off, none⟩ 1 c [x] ?_]
  · rfl
  · simp [loadCells, go_sem, h]
theorem cat_lists {P : Program} (w : World) (x y : List UInt8) (h : x.length + y.length ≤ 9223372036854775807) : (Op.stringOp .add ⟨x.toArray⟩ ⟨y.toArray⟩).run P w = .ok (.string ⟨(x ++ y).toArray⟩) w := by
  rw [run_string_add_sum w _ _ (by simpa [ByteArray.size] using h), ByteArray.mk_append_mk]
attribute [local go_sem] conv_byte
attribute [local go_sem] ba_add

theorem keep_new {w w' : World} {x : Value} {t : TypeId} {B : Nat} (hb : Below B (w.alloc (.cells #[x] t)).drew w') (hB : B = (w.alloc (.cells #[x] t)).drew.heap.size := by rfl) : w'.cell? ⟨w.heap.size, 0, none⟩ = some x := by
  subst hB
  refine (hb.cell (p := ⟨w.heap.size, 0, none⟩) (by simp)).trans ?_
  simp [go_sem]

set_option maxRecDepth 100000 in
set_option maxHeartbeats 400000 in
theorem rlength_any (k : Nat) : ∀ (n : Int) (w : World), 0 ≤ n → n ≤ k → n ≤ 4611686018427387904 →
    Calls Tryz.prog 137 #[.int .i64 n] w (RetB (fun v _ => v = .string ⟨(Pl.lenB n.toNat).toArray⟩) w) := by
  induction k with
  | zero =>
    intro n w h0 hk hn
    have hlt : n < 128 := by omega
    go_enter Tryz.func137, Tryz.ntmps137
    go_wp2_with fail
    go_ret
    exact ⟨_, rfl, by rw [Pl.lenB_lt _ (by omega)]; rfl, (Below.refl _ _).alloc (Nat.le_refl _) _⟩
  | succ k ih =>
    have IH := Lib.hid ih; clear ih
    intro n w h0 hk hn
    by_cases h : n < 128
    · go_enter Tryz.func137, Tryz.ntmps137
      go_wp2_with fail
      go_ret
      exact ⟨_, rfl, by rw [Pl.lenB_lt _ (by omega)]; rfl, (Below.refl _ _).alloc (Nat.le_refl _) _⟩
    · have e1 : IntKind.i64.wrap (n / 128) = n / 128 := IntWalk.i64_in _ (by omega)
      have e5 : n.tdiv 128 = n / 128 := Int.tdiv_eq_ediv_of_nonneg h0
      have e2 : n.tmod 128 = n % 128 := Int.tmod_eq_emod_of_nonneg h0
      have e3 : IntKind.i64.wrap (n % 128 + 128) = n % 128 + 128 := IntWalk.i64_in _ (by omega)
      have e4 : IntKind.u8.wrap (n % 128 + 128) = n % 128 + 128 := IntWalk.u8_in _ (by omega)
      have hx0 : 0 ≤ n / 128 := by omega
      have hx1 : n / 128 ≤ k := by omega
      have hx2 : n / 128 ≤ 4611686018427387904 := by omega
      have hcat : 1 + (Pl.lenB (n / 128).toNat).length ≤ 9223372036854775807 := by
        have := Pl.lenB_len (n / 128).toNat
        omega
      go_enter Tryz.func137, Tryz.ntmps137
      go_wp2_with fail
      go_region_with (go_at_call 137; (with_reducible refine (IH.out (n / 128) _ hx0 hx1 hx2).mono ?_); rintro e w' ⟨v, rfl, rfl, hb⟩; (try have hc := keep_new hb))
      all_goals go_wp2
      all_goals go_ret
      all_goals refine ⟨_, rfl, ?_, ?_⟩
      all_goals first
        | (show Value.string _ = Value.string _; rw [Pl.lenB_ge n.toNat (by omega), show n.toNat / 128 = (n / 128).toNat by omega, show n.toNat % 128 + 128 = (n % 128 + 128).toNat by omega])
        | exact (((Below.refl w.heap.size w).alloc (Nat.le_refl _) _).drew).trans (hb.mono (by simp))
        | exact ((Below.refl w.heap.size w).drew.trans hb).alloc hb.size _

set_option maxRecDepth 100000 in
set_option maxHeartbeats 400000 in
theorem rrow_any (A : Option Addr) (n c : Nat) (l : List (List UInt8)) (w : World) (ha : Rd w 1 A n (strs l)) (hn : n ≤ 9223372036854775807) (hb : (Pl.rowB l).length ≤ 140737488355328) :
    Calls Tryz.prog 94 #[.slice A n c] w (RetB (fun v _ => v = .string ⟨(Pl.rowB l).toArray⟩) w) := by
  have hl := ha.len1; rw [strs_len] at hl
  have HL := Lib.hid hl; clear hl
  have HB := Lib.hid hb; clear hb
  go_enter Tryz.func94, Tryz.ntmps94
  go_wp2_with fail
  go_loopw [3, 8] (fun t i wr => ∃ (j : Nat) (b : List UInt8), j ≤ n ∧ i = .int .i64 j ∧ t = .string ⟨b.toArray⟩ ∧ Below w.heap.size w wr ∧ Hid (Pl.rowB (l.take j) = b)) (fun _ i _ => n - (intOf i).toNat)
  case atStart => exact ⟨0, [], Nat.zero_le _, rfl, rfl, Below.refl _ _, by simp [Hid, Pl.rowB]⟩
  case round =>
    obtain ⟨j, b, hj, rfl, rfl, hbw, H⟩ := hrel
    by_cases hlt : j < n
    · have ha' := ha.below hbw
      obtain ⟨b1, o1, rfl, -, hc1⟩ := ha'.at1 hlt
      have hjl : j < l.length := by rw [HL.out]; exact hlt
      rw [strs_get l j hjl] at hc1
      have hst := Pl.rowB_take l j hjl
      have hle := Pl.rowB_take_le l (j + 1)
      rw [hst, H.out] at hle
      rw [H.out] at hst
      obtain ⟨x, hx⟩ : ∃ x, l[j] = x := ⟨_, rfl⟩
      rw [hx] at hc1 hst hle
      have hcat1 : b.length + ((Pl.lenB x.length).length + x.length) ≤ 9223372036854775807 := by
        have := HB.out
        simp at hle; omega
      have hcat2 : (Pl.lenB x.length).length + x.length ≤ 9223372036854775807 := by omega
      have hx47 : x.length ≤ 140737488355328 := by
        have := HB.out
        simp at hle; omega
      have HH := Lib.hid hst; clear hst hle hx hjl ha'
      go_wp2_with (go_at_call 137; (with_reducible refine (rlength_any x.length _ _ (by omega) (by omega) (by omega)).mono ?_); rintro e w1 ⟨v, rfl, rfl, hb1⟩; simp only [Int.toNat_natCast])
      go_roundw
      case rel => exact ⟨j + 1, b ++ (Pl.lenB x.length ++ x), by omega, by go_num, rfl, hbw.trans (hb1.mono hbw.size), HH.out⟩
      case measure => simp [intOf]; omega
    · go_wp2_with fail
      go_ret
      have h1 := H.out
      rw [List.take_of_length_le (by rw [HL.out]; omega)] at h1
      exact ⟨_, rfl, by rw [h1]; rfl, hbw⟩
end Go.Proofs.YtdnebgilkfafhaaGreatDoor
