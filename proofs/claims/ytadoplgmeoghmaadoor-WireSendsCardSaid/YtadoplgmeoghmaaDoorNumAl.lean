/- The walk of the statements' numAlive: true. -/
import Derived.Test.YtadoplgmeoghmaaDoorNumW4
import Derived.Test.YtadoplgmeoghmaaDoorNumW6
import Derived.Test.YtadoplgmeoghmaaDoorGetW
namespace Go.Proofs.YtadoplgmeoghmaaDoor
open Go.RowKit

theorem texts_at (b0 : List UInt8) (l : List (List UInt8)) (e : Nat) (h : Pl.texts b0 = (l, e)) (w : World) (hs : b0.length ≤ 1099511627776) :
    Calls Tryd.prog 23 #[.string ⟨b0.toArray⟩] w fun en w' => ∃ A c, en = .returned (.tuple #[.slice A l.length c, .int .i64 e]) ∧ Rd w' 1 A l.length (strs l) ∧ w'.ownsRow w.heap.size 9 1 (.slice A l.length c) l.length (strs l) ∧ Below w.heap.size w w' := by
  refine (texts_any b0 w hs).mono ?_
  rintro en w' ⟨v, rfl, ⟨sv, rfl, hown⟩, hb⟩
  rw [h] at hown ⊢
  simp only at hown ⊢
  obtain ⟨A, c, hv⟩ : ∃ A c, sv = .slice A l.length c := by
    rcases hown.2 with ⟨h1, h2⟩ | ⟨g, cap, cur, h1, _⟩
    · exact ⟨none, 0, by rw [h1, h2]⟩
    · exact ⟨_, cap, h1⟩
  subst hv
  exact ⟨A, c, rfl, Rd.own hown, hown, hb⟩

theorem sumLen_mem (l : List (List UInt8)) (s : List UInt8) (h : s ∈ l) : s.length < sumLen l := by
  induction l with
  | nil => simp at h
  | cons x l ih =>
    simp only [sumLen]
    rcases List.mem_cons.1 h with rfl | h
    · omega
    · have := ih h; omega

theorem t1 : Pl.texts [2, 97, 98, 0] = ([[97, 98], []], 0) := by decide +kernel
theorem t2 : Pl.texts [128, 0] = ([], 3) := by decide +kernel
theorem t3 : Pl.rowB [[97, 98], []] = [2, 97, 98, 0] := by
  simp [Pl.rowB, Pl.lenB_lt]
theorem t4 : Pl.putB 258 3 = [2, 1, 0] := by decide +kernel

end Go.Proofs.YtadoplgmeoghmaaDoor
