/- Policy.Keep's parts: the closure made, make of whole rows, the four kinds of period, the sort whatever the length. -/
import Derived.Test.YtmncgnmgdkdhaaaGreatDoorPolW1
import Derived.Test.YtmncgnmgdkdhaaaGreatDoorPolW3
import Derived.Test.YtmncgnmgdkdhaaaGreatDoorPolW4
import Derived.Test.YtmncgnmgdkdhaaaGreatDoorDayW7
namespace Go.Proofs.YtmncgnmgdkdhaaaGreatDoor
open Go.RowKit
set_option linter.unusedVariables false
set_option linter.unusedSimpArgs false
theorem made_repl (z : Value) (n : Nat) : madeCells #[z] n = (List.replicate n z).toArray := by
  apply Array.toList_inj.1
  rw [toList_madeCells_one]
/-- make of n zeros of one cell each. -/
theorem make_zeros {P : Program} (t e : TypeId) (z : Value) (bytes : Nat) (ht : P.underlying t = some (.slice e)) (hi : (P.info? e).map (fun i => (i.zero, i.size, i.bytes)) = some (some z, 1, bytes)) (hz : z.cells = #[z]) (n : Nat) (hb : bytes * n ≤ 281474976710656) (h63 : n ≤ 9223372036854775807) (W : World) :
    (Instr.makeSlice t (.int .i64 (n : Int)) (.int .i64 (n : Int))).run P W = .ok (.slice (some ⟨W.heap.size, 0, none⟩) n n) (W.alloc (.cells (List.replicate n z).toArray e)) := by
  obtain ⟨i0, hi0, hz0, hz1, hz2⟩ := info_parts hi
  have := run_make (P := P) W t e i0 z ht hi0 hz0 .i64 .i64 n n (by omega) (Int.le_refl _) (by rw [hz2]; have h : ((bytes * n : Nat) : Int) ≤ 281474976710656 := by omega
                                                                                               rwa [Int.natCast_mul] at h) (by omega)
  rw [this, hz, hz1, Nat.mul_one, Int.toNat_natCast, made_repl]
theorem info_bool1 : (Tryz.prog.info? 4).map (fun i => (i.zero, i.size, i.bytes)) = some (some (.bool false), 1, 1) := by kernel_rfl
theorem info_int1 : (Tryz.prog.info? 3).map (fun i => (i.zero, i.size, i.bytes)) = some (some (.int .i64 0), 1, 8) := by kernel_rfl
theorem bools_repl (n : Nat) : List.replicate n (Value.bool false) = bools (List.replicate n false) := by simp [bools]
theorem laterF_any (A : Option Addr) (n c : Nat) (w : World) : Calls Tryz.prog 30 #[.slice A n c] w (fun e w' => e = .returned (.func (.func 46) #[] #[.pointer (some ⟨w.heap.size, 0, none⟩)]) ∧ w' = w.alloc (.cells #[.slice A n c] 32)) := by
  go_enter Tryz.func30, Tryz.ntmps30
  go_wp2_with fail
  go_ret
  exact ⟨rfl, rfl⟩
/-- The function of a kind of period. -/
def perFn (k : Nat) : Nat := match k with | 0 => 31 | 1 => 32 | 2 => 33 | _ => 34
theorem per_enters (k : Nat) : ∀ args w, (callFunc (perFn k) args).run Tryz.prog w = .ok (.enter (perFn k) args) w := by
  unfold perFn
  split
  · exact enters_of Tryz.func31 (by kernel_rfl) rfl
  · exact enters_of Tryz.func32 (by kernel_rfl) rfl
  · exact enters_of Tryz.func33 (by kernel_rfl) rfl
  · exact enters_of Tryz.func34 (by kernel_rfl) rfl
theorem per_call (k : Nat) (a : Int) (w : World) (h0 : -9223372036854775808 ≤ a) (h1 : a ≤ 9223372036854775807) : Calls Tryz.prog (perFn k) #[.int .i64 a] w (fun e w' => e = .returned (.int .i64 (Pl.per k a)) ∧ Below w.heap.size w w') := by
  match k with
  | 0 => exact (day_any a h0 h1 w).mono fun _ _ ⟨he, n, hw⟩ => ⟨he, by rw [hw]; exact below_drewN (Below.refl _ _) n⟩
  | 1 => exact (week_any a h0 h1 w).mono fun _ _ ⟨he, n, hw⟩ => ⟨he, by rw [hw]; exact below_drewN (Below.refl _ _) n⟩
  | 2 => exact month_any a h0 h1 w
  | k + 3 => exact year_any a h0 h1 w
/-- The marks of the first k kinds. -/
def marksN (p : Pl.Pol) (l : List Pl.Rf) (g : List Nat) (K : List Bool) : Nat → List Bool
  | 0 => K
  | k + 1 => Pl.markF k l (p.num k) g [] (0, 0) (marksN p l g K k)
theorem marksN_4 (p : Pl.Pol) (l : List Pl.Rf) (g : List Nat) (K : List Bool) : marksN p l g K 4 = Pl.marks p l g K := rfl
theorem nums_num (p : Pl.Pol) (k : Nat) (hk : k < 4) : p.nums.getD k 0 = p.num k := by
  match k, hk with
  | 0, _ => rfl
  | 1, _ => rfl
  | 2, _ => rfl
  | 3, _ => rfl
theorem ord_nil : Pl.Ord [] [] := ⟨rfl, List.nodup_nil, by simp, by simp, List.Pairwise.nil, List.Pairwise.nil⟩
/-- The sort, whatever the length. -/
theorem sort_all (l : List Pl.Rf) (n : Nat) (hl : l.length = n) (hn : n ≤ 1000000) (B ob c cap : Nat) (A : Option Addr) (w : World) (hhead : w.cell? ⟨B, 0, none⟩ = some (.slice A n c)) (hr : Rd w 5 A n (rfCs l))
    (hBo : B ≠ ob) (hA : 0 < n → ∀ b off, A = some ⟨b, off, none⟩ → b ≠ ob) (hord : ∀ q, q < n → w.cell? ⟨ob, q, none⟩ = some (.int .i64 (q : Int)) ∧ w.frozen? ⟨ob, q, none⟩ = false) (hob : ob < w.heap.size) :
    Calls Tryz.prog 29 #[.slice (some ⟨ob, 0, none⟩) n cap, .func (.func 46) #[] #[.pointer (some ⟨B, 0, none⟩)]] w (fun e w' => e = .returned (.tuple #[]) ∧ ∃ o, Pl.Ord l o ∧ w.grownBy w' (some ob) ∧ ∀ q, q < n → w'.cell? ⟨ob, q, none⟩ = some (.int .i64 ((o.getD q 0 : Nat) : Int))) := by
  by_cases h0 : n = 0
  · subst h0
    obtain rfl := List.eq_nil_of_length_eq_zero hl
    have h := AnyF.slices_SortFunc_none { Tryz.sortI with } (some ⟨ob, 0, none⟩) cap (.func (.func 46) #[] #[.pointer (some ⟨B, 0, none⟩)]) w
    change Calls Tryz.prog 29 _ _ _ at h
    refine h.mono ?_
    rintro e w' ⟨rfl, rfl⟩
    exact ⟨rfl, [], ord_nil, World.grownBy.refl _ _, fun q hq => absurd hq (by omega)⟩
  · obtain ⟨b, off, rfl, hb, -⟩ := hr.2 (by omega)
    exact sort_any l n hl (by omega) hn B b off c ob cap w hhead hr hBo (hA (by omega) b off rfl) hord hob
end Go.Proofs.YtmncgnmgdkdhaaaGreatDoor
