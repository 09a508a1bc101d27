/- The walks of shelf.find and what it calls. -/
import Derived.Test.YtnapokalopcdkaaShW5
import Derived.Test.YtnapokalopcdkaaShOrd
import Derived.Lib.Bytealg
import Derived.Laws.Externs
namespace Go.Proofs.Ytnapokalopcdkaa
open Go.RowKit
set_option linter.unusedVariables false
set_option linter.unusedSimpArgs false

theorem run_cmp (a b : List UInt8) (w : World) : (callFunc 47 #[.string ⟨a.toArray⟩, .string ⟨b.toArray⟩]).run Try.prog w = .ok (.value (.int .i64 (Lib.compareBytes a b))) w := by
  rw [run_callFunc_extern Try.func47 (by kernel_rfl) (by kernel_rfl) (by kernel_rfl) (e := Extern.BytealgCompare.compare) (by kernel_rfl), Lib.run_compareString]
  rfl
set_option maxRecDepth 100000 in
theorem compareS_any (a b : List UInt8) (w : World) : Calls Try.prog 45 #[.string ⟨a.toArray⟩, .string ⟨b.toArray⟩] w (Ret (.int .i64 (Lib.compareBytes a b)) w) := by
  have hcmp := fun (w : World) => run_cmp a b w
  go_enter Try.func45, Try.ntmps45
  go_wp2_with fail
  go_ret
  exact ⟨rfl, rfl⟩
set_option maxRecDepth 100000 in
theorem compare_any (a b : List UInt8) (w : World) : Calls Try.prog 41 #[.string ⟨a.toArray⟩, .string ⟨b.toArray⟩] w (Ret (.int .i64 (Lib.compareBytes a b)) w) := by
  go_enter Try.func41, Try.ntmps41
  go_wp2_with fail
  (with_reducible refine (compareS_any _ _ _).mono ?_)
  rintro e w1 ⟨rfl, rfl⟩
  go_wp2_with fail
  go_ret
  exact ⟨rfl, rfl⟩
set_option maxRecDepth 100000 in
theorem find1_any (o : Pl.Obj) (b : List UInt8) (w : World) : Calls Try.prog 40 #[.agg #[.string ⟨o.name.toArray⟩, .string ⟨o.data.toArray⟩, .string ⟨o.was.toArray⟩, .bool o.had], .string ⟨b.toArray⟩] w (RetB (fun v _ => v = .int .i64 (Lib.compareBytes o.name b)) w) := by
  go_enter Try.func40, Try.ntmps40
  go_wp2_with fail
  (with_reducible refine (compare_any _ _ _).mono ?_)
  rintro e w1 ⟨rfl, rfl⟩
  go_wp2_with fail
  go_ret
  exact ⟨_, rfl, rfl, (Below.refl _ _).alloc (Nat.le_refl _) _⟩

def Lo (l : List Pl.Obj) (nm : List UInt8) (i : Nat) : Prop := ∀ k (h : k < l.length), k < i → Pl.less l[k].name nm = true
def Hi (l : List Pl.Obj) (nm : List UInt8) (i : Nat) : Prop := ∀ k (h : k < l.length), i ≤ k → Pl.less l[k].name nm = false
set_option maxRecDepth 100000 in
set_option maxHeartbeats 1000000 in
theorem search_any (A : Option Addr) (n c : Nat) (l : List Pl.Obj) (nm : List UInt8) (w : World) (hl : l.length = n) (hr : Rd w 4 A n (objCs l)) (hn : n ≤ 1000000) (hs : Pl.Rising l) :
    Calls Try.prog 39 #[.slice A n c, .string ⟨nm.toArray⟩, .func (.func 40) #[] #[]] w (RetB (fun v _ => ∃ (i : Nat) (f : Bool), v = .tuple #[.int .i64 (i : Int), .bool f] ∧ Pl.Found l nm i f) w) := by
  have HL := Lib.hid (And.intro hl hs); clear hl hs
  go_enter Try.func39, Try.ntmps39
  go_wp2_with fail
  go_loopw [9, 10] (fun x y wr => ∃ (i j : Nat), i ≤ j ∧ j ≤ n ∧ x = .int .i64 (i : Nat) ∧ y = .int .i64 (j : Nat) ∧ Below w.heap.size w wr ∧ Hid (Lo l nm i ∧ Hi l nm j)) (fun x y _ => (intOf y).toNat - (intOf x).toNat)
  case atStart => exact ⟨0, n, by omega, by omega, rfl, rfl, Below.refl _ _, fun k h hk => by omega, fun k h hk => by have := HL.out.1; omega⟩
  case round =>
    obtain ⟨i, j, hij, hjn, rfl, rfl, hbr, H⟩ := hrel
    by_cases hlt : i < j
    · obtain ⟨m, hm⟩ : ∃ m, (i + j) / 2 = m := ⟨_, rfl⟩
      have hmi : i ≤ m := by omega
      have hmj : m < j := by omega
      have hmI : ((i : Int) + (j : Int)) / 2 = (m : Int) := by omega
      have hml : m < l.length := by rw [HL.out.1]; omega
      obtain ⟨b, off, rfl, hltb, p0, p1, p2, p3⟩ := (hr.below hbr).obj HL.out.1 (i := m) (by omega)
      obtain ⟨o, ho⟩ : ∃ o, l[m] = o := ⟨_, rfl⟩
      rw [ho] at p0 p1 p2 p3
      obtain ⟨x, hx⟩ : ∃ x, Lib.compareBytes o.name nm = x := ⟨_, rfl⟩
      have hx1 := Pl.less_cmp o.name nm
      rw [hx] at hx1
      have hf1 := fun w => find1_any o nm w
      rw [hx] at hf1
      have HO := Lib.hid (And.intro ho (And.intro hx1 (And.intro hf1 hm))); clear ho hx hf1 hm
      have hx2 : x = -1 ∨ x = 0 ∨ x = 1 := HO.out.2.1.2.2
      clear hx1
      go_wp2_with fail
      (with_reducible refine (HO.out.2.2.1 _).mono ?_)
      rintro e w1 ⟨v, rfl, rfl, hb1⟩
      have hb01 := hbr.trans (hb1.mono hbr.size)
      by_cases hxn : x < 0
      · have hlm : Pl.less o.name nm = true := HO.out.2.1.1.2 (by omega)
        have hd : decide (x < 0) = true := decide_eq_true hxn
        go_wp2_with fail
        go_roundw
        case rel =>
          refine ⟨m + 1, j, by omega, by omega, by go_num, rfl, hb01, ?_, H.out.2⟩
          intro k hk hkm
          rcases Nat.lt_or_ge k m with h | h
          · exact Pl.less_trans (HL.out.2 k m hk hml h) (by rw [HO.out.1]; exact hlm)
          · obtain rfl : k = m := by omega
            rw [HO.out.1]; exact hlm
        case measure => simp [intOf]; omega
      · have hlm : Pl.less o.name nm = false := by
          cases h : Pl.less o.name nm
          · rfl
          · have := HO.out.2.1.1.1 h; omega
        have hd : decide (x < 0) = false := decide_eq_false hxn
        go_wp2_with fail
        go_roundw
        case rel =>
          refine ⟨i, m, by omega, by omega, rfl, rfl, hb01, H.out.1, ?_⟩
          intro k hk hkm
          rcases Nat.eq_or_lt_of_le hkm with rfl | h
          · rw [HO.out.1]; exact hlm
          · cases h' : Pl.less l[k].name nm
            · rfl
            · have := Pl.less_trans (HL.out.2 m k hml hk h) h'
              rw [HO.out.1, hlm] at this; cases this
        case measure => simp [intOf]; omega
    · obtain rfl : j = i := by omega
      by_cases hjn2 : j < n
      · have hjl : j < l.length := by rw [HL.out.1]; omega
        obtain ⟨b, off, rfl, hltb, p0, p1, p2, p3⟩ := (hr.below hbr).obj HL.out.1 (i := j) hjn2
        obtain ⟨o, ho⟩ : ∃ o, l[j] = o := ⟨_, rfl⟩
        rw [ho] at p0 p1 p2 p3
        obtain ⟨x, hx⟩ : ∃ x, Lib.compareBytes o.name nm = x := ⟨_, rfl⟩
        have hx1 := (Pl.less_cmp o.name nm).2.1
        rw [hx] at hx1
        have hf1 := fun w => find1_any o nm w
        rw [hx] at hf1
        have hfo : decide (x = 0) = decide (∃ h : j < l.length, l[j].name = nm) := by
          rw [Bool.eq_iff_iff]; simp only [decide_eq_true_eq]
          rw [← hx1, ← ho]
          exact ⟨fun h => ⟨hjl, h⟩, fun ⟨_, h⟩ => h⟩
        have HO := Lib.hid (And.intro hfo hf1); clear ho hx hf1 hx1 hfo
        go_wp2_with fail
        (with_reducible refine (HO.out.2 _).mono ?_)
        rintro e w1 ⟨v, rfl, rfl, hb1⟩
        go_wp2_with fail
        go_ret2
        refine ⟨_, rfl, ⟨j, decide (x = 0), ?_, by have := HL.out.1; omega, H.out.1, H.out.2, HO.out.1⟩, hbr.trans (hb1.mono hbr.size)⟩
        show Value.tuple #[Value.int .i64 (j : Int), Value.bool (x == 0)] = _
        congr 4
      · have hd : decide ((j : Int) < (n : Int)) = false := decide_eq_false (by omega)
        go_wp2_with fail
        go_ret2
        refine ⟨_, rfl, ⟨j, false, rfl, by have := HL.out.1; omega, H.out.1, H.out.2, ?_⟩, hbr⟩
        symm
        apply decide_eq_false
        rintro ⟨h, -⟩
        have := HL.out.1; omega
set_option maxRecDepth 100000 in
theorem find_any (A A' : Option Addr) (n c m c' : Nat) (l : List Pl.Obj) (nm : List UInt8) (w : World) (hl : l.length = n) (hr : Rd w 4 A n (objCs l)) (hn : n ≤ 1000000) (hs : Pl.Rising l) :
    Calls Try.prog 27 #[.agg #[.slice A n c, .slice A' m c'], .string ⟨nm.toArray⟩] w (RetB (fun v _ => ∃ (i : Nat) (f : Bool), v = .tuple #[.int .i64 (i : Int), .bool f] ∧ Pl.Found l nm i f) w) := by
  have hsr := fun w h => search_any A n c l nm w hl h hn hs
  have HS := Lib.hid hsr; clear hsr hl hs
  go_enter Try.func27, Try.ntmps27
  go_wp2_with fail
  (with_reducible refine (HS.out _ (by exact hr.alloc _)).mono ?_)
  rintro e w1 ⟨v, rfl, ⟨i, f, rfl, hf⟩, hb1⟩
  go_wp2_with fail
  go_ret2
  exact ⟨_, rfl, ⟨i, f, rfl, hf⟩, ((Below.refl _ _).alloc (Nat.le_refl _) _).trans (hb1.mono (by simp))⟩
end Go.Proofs.Ytnapokalopcdkaa
