/- The walk of the statements' numAlive: true. -/
import Derived.Test.YtommlolhpaeioaaDoorNumW4
import Derived.Test.YtommlolhpaeioaaDoorNumW6
import Derived.Test.YtommlolhpaeioaaDoorGetW
namespace Go.Proofs.YtommlolhpaeioaaDoor
open Go.RowKit

theorem texts_at (b0 : List UInt8) (l : List (List UInt8)) (e : Nat) (h : Pl.texts b0 = (l, e)) (w : World) (hs : b0.length ≤ 1099511627776) :
    Calls Tryd.prog 39 #[.string ⟨b0.toArray⟩] w fun en w' => ∃ A c, en = .returned (.tuple #[.slice A l.length c, .int .i64 e]) ∧ Rd w' 1 A l.length (strs l) ∧ w'.ownsRow w.heap.size 9 1 (.slice A l.length c) l.length (strs l) ∧ Below w.heap.size w w' := by
  refine (texts_any b0 w hs).mono ?_
  rintro en w' ⟨v, rfl, ⟨sv, rfl, hown⟩, hb⟩
  rw [h] at hown ⊢
  simp only at hown ⊢
  obtain ⟨A, c, hv⟩ : ∃ A c, sv = .slice A l.length c := by
    rcases hown.2 with ⟨h1, h2⟩ | ⟨g, cap, cur, h1, _⟩
    · exact ⟨none, 0, by rw [h1, h2]⟩
    · exact ⟨_, cap, h1⟩
  subst hv
  exact ⟨A, c, rfl, Rd.own hown, hown, hb⟩

theorem sumLen_mem (l : List (List UInt8)) (s : List UInt8) (h : s ∈ l) : s.length < sumLen l := by
  induction l with
  | nil => simp at h
  | cons x l ih =>
    simp only [sumLen]
    rcases List.mem_cons.1 h with rfl | h
    · omega
    · have := ih h; omega

theorem t1 : Pl.texts [2, 97, 98, 0] = ([[97, 98], []], 0) := by decide +kernel
theorem t2 : Pl.texts [128, 0] = ([], 3) := by decide +kernel
theorem t3 : Pl.rowB [[97, 98], []] = [2, 97, 98, 0] := by
  simp [Pl.rowB, Pl.lenB_lt]
theorem t4 : Pl.putB 258 3 = [2, 1, 0] := by decide +kernel

set_option maxRecDepth 100000 in
set_option maxHeartbeats 1000000 in
theorem alive_any (w : World) : Calls Tryd.prog 16 #[] w (RetB (fun v _ => v = .bool true) w) := by
  go_enter Tryd.func16, Tryd.ntmps16
  go_wp2_with fail
  (with_reducible refine (texts_at _ _ _ t1 _ (by decide)).mono ?_)
  rintro en w1 ⟨A, c, rfl, hr1, -, hb1⟩
  have HR := Lib.hid hr1; clear hr1
  go_wp2_with fail
  (with_reducible refine (texts_at _ _ _ t2 _ (by decide)).mono ?_)
  rintro en w2 ⟨A2, c2, rfl, -, -, hb2⟩
  go_wp2_with fail
  (with_reducible refine (row_any _ 2 2 [[97, 98], []] _ (Rd.new _ [.string ⟨#[97, 98]⟩, .string ⟨#[]⟩] _) (by omega) (by simp [sumLen])).mono ?_)
  rintro en w3 ⟨v, rfl, rfl, hb3⟩
  rw [t3]
  obtain ⟨b, off, rfl, hbw, hc⟩ := HR.out.all (by simp)
  have hb3' : Below w2.heap.size w2 w3 := ((Below.refl _ _).alloc (Nat.le_refl _) _).trans (hb3.mono (by simp))
  have hb13 : Below w1.heap.size w1 w3 := hb2.trans (hb3'.mono hb2.size)
  have hc0 : w3.cell? ⟨b, off, none⟩ = some (.string ⟨#[97, 98]⟩) := (hb13.cell (p := ⟨b, off, none⟩) hbw).trans (hc 0 (by simp [strs]))
  clear hc HR
  go_wp2_with fail
  (with_reducible refine (put_int 258 (by omega) 3 _).mono ?_)
  rintro en w4 ⟨v, rfl, rfl, hb4⟩
  rw [show putK 3 = 3 from rfl, show (258 : Int).toNat = 258 from rfl, t4]
  go_wp2_with fail
  go_ret
  exact ⟨_, rfl, rfl, (hb1.trans (hb13.mono hb1.size)).trans (hb4.mono ((hb1.trans (hb13.mono hb1.size)).size))⟩
end Go.Proofs.YtommlolhpaeioaaDoor
