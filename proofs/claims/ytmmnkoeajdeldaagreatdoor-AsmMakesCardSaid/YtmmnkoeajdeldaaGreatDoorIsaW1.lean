/- The walks of isa.fields, unsigned, fits, Enc. -/
import Derived.Test.YtmmnkoeajdeldaaGreatDoorIsaPlain
import Derived.Test.YtmmnkoeajdeldaaGreatDoorBase
namespace Go.Proofs.YtmmnkoeajdeldaaGreatDoor
open Go.RowKit
set_option linter.unusedVariables false

def fieldsV (k : Nat) : Value := .tuple #[.agg #[.bool (k == 1 || k == 2 || k == 4), .bool (k == 1 || k == 4), .bool (k == 1), .bool (k == 2 || k == 3 || k == 4)], .bool (k != 0)]
set_option maxRecDepth 100000 in
set_option maxHeartbeats 1000000 in
theorem fields_any (op : Nat) (w : World) (h : op < 256) : Calls Tryz.prog 34 #[.int .u8 (op : Int)] w (RetB (fun v _ => v = fieldsV (Pl.cls op)) w) := by
  have hc : (Pl.cls op = 0 ∧ (op < 1 ∨ 31 < op)) ∨ (Pl.cls op = 1 ∧ 1 ≤ op ∧ op ≤ 13) ∨ (Pl.cls op = 2 ∧ (op = 19 ∨ op = 29)) ∨ (Pl.cls op = 3 ∧ op = 31) ∨ (Pl.cls op = 4 ∧ 13 < op ∧ op < 31 ∧ op ≠ 19 ∧ op ≠ 29) := by
    unfold Pl.cls; (repeat' split) <;> omega
  obtain ⟨k, hk⟩ : ∃ k, Pl.cls op = k := ⟨_, rfl⟩
  rw [hk] at hc ⊢
  have HK := Lib.hid hk; clear hk
  have hc2 : (k = 0 ∧ (op < 1 ∨ 31 < op)) ∨ (k = 1 ∧ 1 ≤ op ∧ op ≤ 13) ∨ (k = 2 ∧ op = 19) ∨ (k = 2 ∧ op = 29) ∨ (k = 3 ∧ op = 31) ∨ (k = 4 ∧ 13 < op ∧ op < 31 ∧ ((op : Int) == 19) = false ∧ ((op : Int) == 29) = false) := by
    simp only [beq_eq_false_iff_ne]; omega
  clear hc
  rcases hc2 with ⟨rfl, h1⟩ | ⟨rfl, h1, h2⟩ | ⟨rfl, rfl⟩ | ⟨rfl, rfl⟩ | ⟨rfl, rfl⟩ | ⟨rfl, h1, h2, h3, h4⟩
  all_goals clear HK
  all_goals go_enter Tryz.func34, Tryz.ntmps34
  all_goals go_wp2_with fail
  all_goals try (exfalso; omega)
  all_goals first
    | (refine bodyPost_ret (v := fieldsV 0) ?_ rfl ⟨_, rfl, rfl, (Below.refl _ _).alloc (Nat.le_refl _) _⟩; simp [results, Tryz.results34, go_sem, fieldsV]; done)
    | (refine bodyPost_ret (v := fieldsV 1) ?_ rfl ⟨_, rfl, rfl, (Below.refl _ _).alloc (Nat.le_refl _) _⟩; simp [results, Tryz.results34, go_sem, fieldsV]; done)
    | (refine bodyPost_ret (v := fieldsV 2) ?_ rfl ⟨_, rfl, rfl, (Below.refl _ _).alloc (Nat.le_refl _) _⟩; simp [results, Tryz.results34, go_sem, fieldsV]; done)
    | (refine bodyPost_ret (v := fieldsV 3) ?_ rfl ⟨_, rfl, rfl, (Below.refl _ _).alloc (Nat.le_refl _) _⟩; simp [results, Tryz.results34, go_sem, fieldsV]; done)
    | (refine bodyPost_ret (v := fieldsV 4) ?_ rfl ⟨_, rfl, rfl, (Below.refl _ _).alloc (Nat.le_refl _) _⟩; simp [results, Tryz.results34, go_sem, fieldsV]; done)

set_option maxRecDepth 100000 in
set_option maxHeartbeats 1000000 in
theorem unsigned_any (op : Nat) (w : World) (h : op < 256) : Calls Tryz.prog 35 #[.int .u8 (op : Int)] w (Ret (.bool (Pl.usg op)) w) := by
  obtain ⟨k, hk⟩ : ∃ k, Pl.usg op = k := ⟨_, rfl⟩
  rw [hk]
  have HK := Lib.hid hk; clear hk
  go_enter Tryz.func35, Tryz.ntmps35
  go_wp2_with fail
  all_goals go_ret
  all_goals
    refine ⟨?_, rfl⟩
    show Ending.returned (Value.bool _) = Ending.returned (Value.bool _)
    congr 2
    rw [← HK.out]
    unfold Pl.usg
    rw [Bool.eq_iff_iff]
    simp
    omega

set_option maxRecDepth 100000 in
set_option maxHeartbeats 1000000 in
theorem fits_any (op : Nat) (n : Int) (w : World) (h : op < 256) : Calls Tryz.prog 78 #[.int .u8 (op : Int), .int .i32 n] w (Ret (.bool (Pl.fits op n)) w) := by
  obtain ⟨k, hk⟩ : ∃ k, Pl.fits op n = k := ⟨_, rfl⟩
  obtain ⟨u, hu⟩ : ∃ u, Pl.usg op = u := ⟨_, rfl⟩
  unfold Pl.fits at hk
  have hun := fun w => unsigned_any op w h
  rw [hu] at hk hun
  show Calls _ _ _ _ (Ret (.bool (if Pl.usg op then decide (0 ≤ n ∧ n ≤ 65535) else decide (-32768 ≤ n ∧ n ≤ 32767))) w)
  rw [hu, hk]
  have HK := Lib.hid (And.intro hk (And.intro hu hun)); clear hk hu hun
  go_enter Tryz.func78, Tryz.ntmps78
  go_wp2_with fail
  (with_reducible refine (HK.out.2.2 _).mono ?_)
  rintro e w1 ⟨rfl, rfl⟩
  cases u
  all_goals go_wp2_with fail
  all_goals go_ret
  all_goals
    refine ⟨?_, rfl⟩
    show Ending.returned (Value.bool _) = Ending.returned (Value.bool _)
    congr 2
    rw [← HK.out.1, Bool.eq_iff_iff]
    simp
    try omega

/-- An instruction as a value. -/
def insV (x : Pl.Ins) : Value := .agg #[.int .u8 (x.op : Int), .int .u8 (x.a : Int), .int .u8 (x.b : Int), .int .u8 (x.c : Int), .int .i32 x.imm]
def encV (x : Pl.Ins) : Value := .tuple #[.int .u32 (Pl.encW x : Int), .int .i64 (Pl.encE x : Int)]
theorem encV_err {x : Pl.Ins} {k : Nat} (h : Pl.encE x = k) (hk : k ≠ 0) : encV x = .tuple #[.int .u32 0, .int .i64 (k : Int)] := by
  unfold encV Pl.encW; rw [h, if_neg hk]; rfl
theorem encV_ok {x : Pl.Ins} (h : Pl.encE x = 0) : encV x = .tuple #[.int .u32 (Pl.wordOf x : Int), .int .i64 0] := by
  unfold encV Pl.encW; rw [h, if_pos rfl]; rfl
set_option maxRecDepth 100000 in
set_option maxHeartbeats 4000000 in
theorem enc_any (x : Pl.Ins) (w : World) (h : Pl.InsOk x) : Calls Tryz.prog 36 #[insV x] w (RetB (fun v _ => v = encV x) w) := by
  obtain ⟨k, hk⟩ : ∃ k, Pl.cls x.op = k := ⟨_, rfl⟩
  have hk5 := Pl.cls_lt x.op
  have hop : Pl.cls x.op ≠ 0 → x.op < 64 := by unfold Pl.cls; split <;> omega
  have hfl := fun w => fields_any x.op w h.op
  have hft := fun w => fits_any x.op x.imm w h.op
  obtain ⟨q, hq⟩ : ∃ q, Pl.fits x.op x.imm = q := ⟨_, rfl⟩
  have hE : Pl.encE x = if k = 0 then 16 else if 15 < x.a ∨ 15 < x.b ∨ 15 < x.c then 1 else if Pl.over k x.a x.b x.c x.imm then 1 else if k ≠ 1 ∧ q = false then 2 else 0 := by
    unfold Pl.encE
    rw [hk, hq]
  rw [hk] at hfl hk5 hop
  rw [hq] at hft
  obtain ⟨op, a, b, c, imm⟩ := x
  obtain ⟨h1, h2, h3, h4, h5, h6⟩ := h
  unfold insV
  simp only at h1 h2 h3 h4 h5 h6 hfl hft hE hop ⊢
  have HK := Lib.hid (And.intro hfl (And.intro hft hE)); clear hfl hft hE hk hq
  go_enter Tryz.func36, Tryz.ntmps36
  go_wp2_with fail
  (with_reducible refine (HK.out.1 _).mono ?_)
  rintro e w1 ⟨v, rfl, rfl, hb1⟩
  have hbw1 : Below w.heap.size w w1 := ((Below.refl _ _).alloc (Nat.le_refl _) _).trans (hb1.mono (by simp))
  have hcl : ∀ i, w1.cell? ⟨w.heap.size, i, none⟩ = (#[.int .u8 (op : Int), .int .u8 (a : Int), .int .u8 (b : Int), .int .u8 (c : Int), .int .i32 imm] : Array Value)[i]? := by
    intro i
    rw [hb1.cell (p := ⟨w.heap.size, i, none⟩) (by simp)]
    exact World.cell?_alloc_new _ _ _ _
  have hs1 : w.heap.size < w1.heap.size := by have := hb1.size; simp at this; omega
  have c0 : w1.cell? ⟨w.heap.size, 0, none⟩ = some (.int .u8 (op : Int)) := hcl 0
  have c1 : w1.cell? ⟨w.heap.size, 1, none⟩ = some (.int .u8 (a : Int)) := hcl 1
  have c2 : w1.cell? ⟨w.heap.size, 2, none⟩ = some (.int .u8 (b : Int)) := hcl 2
  have c3 : w1.cell? ⟨w.heap.size, 3, none⟩ = some (.int .u8 (c : Int)) := hcl 3
  have c4 : w1.cell? ⟨w.heap.size, 4, none⟩ = some (.int .i32 imm) := hcl 4
  clear hcl hb1
  obtain rfl | rfl | rfl | rfl | rfl : k = 0 ∨ k = 1 ∨ k = 2 ∨ k = 3 ∨ k = 4 := by omega
  · have hE := HK.out.2.2
    rw [if_pos rfl] at hE
    have hE2 := Lib.hid hE; clear hE
    simp only [fieldsV]
    go_wp2_with fail
    go_ret2
    exact ⟨_, rfl, (encV_err hE2.out (by decide)).symm, hbw1.alloc hbw1.size _⟩
  all_goals replace hop := hop (by decide)
  all_goals simp only [fieldsV]
  all_goals go_wp2_with fail
  all_goals try (with_reducible refine (HK.out.2.1 _).mono ?_)
  all_goals try (rintro e w2 ⟨rfl, rfl⟩; cases q)
  all_goals try go_wp2_with fail
  all_goals go_ret2
  all_goals simp only [bne_iff_ne, ne_eq, bne_eq_false_iff_eq] at *
  all_goals
    refine ⟨_, rfl, ?_, hbw1.alloc hbw1.size _⟩
  all_goals first
    | (refine (encV_err (k := 1) ?_ (by decide)).symm
       rw [HK.out.2.2]; simp [Pl.over]; try ((repeat' split) <;> omega))
    | (refine (encV_err (k := 2) ?_ (by decide)).symm
       rw [HK.out.2.2]; simp [Pl.over]; try ((repeat' split) <;> omega))
    | (refine ((encV_ok ?_).trans ?_).symm
       · rw [HK.out.2.2]; simp [Pl.over]; try ((repeat' split) <;> omega)
       · rw [← Pl.word_bits op a b c imm (by omega) (by omega) (by omega) (by omega) (by omega)]
         first | rfl | (subst_vars; rfl))
end Go.Proofs.YtmmnkoeajdeldaaGreatDoor
