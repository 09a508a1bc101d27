/- The assembler's state as a whole; a name stands for a place. -/
import Derived.Test.YtmmnkoeajdeldaaGreatDoorAsW2
namespace Go.Proofs.YtmmnkoeajdeldaaGreatDoor
open Go.RowKit Go.Maps Go.WideMaps
set_option linter.unusedVariables false
set_option linter.unusedSimpArgs false
attribute [local go_sem] ba_get ba_cut ba_add fld_k fld_s fld_n
def u8C (l : List UInt8) : List Value := l.map fun c => .int .u8 (c.toNat : Int)
def intC (l : List Nat) : List Value := l.map fun (c : Nat) => .int .i64 (c : Int)
theorem own_type {w w' : World} {base : Nat} {e : TypeId} {k n : Nat} {v : Value} {xs : List Value} (h : w.ownsRow base e k v n xs) {g : Nat} (hg : w.grownBy w' (some g)) (ho : ∀ cur, w.heap[g]? ≠ some (.cells cur e (0, 0))) : w'.ownsRow base e k v n xs := by
  refine h.kept hg ?_
  rcases h.2 with ⟨rfl, _⟩ | ⟨b, cap, cur, rfl, _, hb, _⟩
  · exact .inl rfl
  · refine .inr fun e => ?_
    simp only [Value.ownBlock, Option.some.injEq] at e
    subst e
    exact ho _ hb
/-- The assembler, whole: its box at A, its rows in blocks from H on, its two maps. -/
structure AsAt (w : World) (H A ln : Nat) (S : Pl.St) (Z : AsV) (Y : List (List UInt8 × Value)) : Prop where
  box : AsB w A ln Z
  lo : A < H
  hi : H ≤ w.heap.size
  pcs : w.ownsRow H 126 11 Z.p S.pcs.length (pcsC S.pcs)
  data : w.ownsRow H 5 1 Z.d S.data.length (u8C S.data)
  rooms : w.ownsRow H 3 1 Z.o S.rooms.length (intC S.rooms)
  names : MapV w Z.n (nmsV S.names) S.names.length
  nlo : Z.n < H
  ways : MapV w Z.y Y 6
  ylo : Z.y < H
  ny : Z.n ≠ Z.y
/-- What a line may turn: the box, the names, and what lies in blocks from H on. -/
structure LnK (w w' : World) (H A N : Nat) : Prop where
  os : w'.os = w.os
  tape : w'.tape = w.tape
  output : w'.output = w.output
  size : w.heap.size ≤ w'.heap.size
  block : ∀ k, k < H → k ≠ A → k ≠ N → w'.heap[k]? = w.heap[k]?
theorem LnK.refl (w : World) (H A N : Nat) : LnK w w H A N := ⟨rfl, rfl, rfl, Nat.le_refl _, fun _ _ _ _ => rfl⟩
theorem LnK.trans {a b c : World} {H A N : Nat} (h : LnK a b H A N) (k : LnK b c H A N) : LnK a c H A N :=
  ⟨k.os.trans h.os, k.tape.trans h.tape, k.output.trans h.output, Nat.le_trans h.size k.size, fun i h1 h2 h3 => (k.block i h1 h2 h3).trans (h.block i h1 h2 h3)⟩
theorem LnK.grown {a b : World} {H A N : Nat} {r : Option Nat} (h : a.grownBy b r) (hH : H ≤ a.heap.size) (hr : ∀ g, r = some g → g = A ∨ g = N ∨ H ≤ g) : LnK a b H A N :=
  ⟨h.os, h.tape, h.output, h.size, fun k h1 h2 h3 => h.block k (by omega) fun e => by rcases hr k e.symm with e | e | e <;> omega⟩
/-- The state over a step that turns the box alone (to another rest), or a new block, or the names. -/
theorem AsAt.step {w w' : World} {H A ln : Nat} {S : Pl.St} {Z : AsV} {Y : List (List UInt8 × Value)} (h : AsAt w H A ln S Z Y) (hg : w.grownBy w' (some A)) {v : Value} (hb : AsB w' A ln { Z with r := v }) : AsAt w' H A ln S { Z with r := v } Y := by
  have ho : ∀ (e : TypeId), e ≠ 64 → ∀ cur, w.heap[A]? ≠ some (.cells cur e (0, 0)) := fun e he cur hc => by
    rw [h.box.at_] at hc
    injection hc with hc
    injection hc with _ hc
    exact he hc.symm
  have hm : ∀ {M : Nat} {l : List (List UInt8 × Value)} {c : Nat}, MapV w M l c → some M ≠ some A := fun hM e => by
    obtain ⟨es, k, he⟩ := hM.at_
    injection e with e
    subst e
    rw [h.box.at_] at he
    injection he with he
    injection he
  exact ⟨hb, h.lo, Nat.le_trans h.hi hg.size, own_type h.pcs hg (ho _ (by decide)), own_type h.data hg (ho _ (by decide)), own_type h.rooms hg (ho _ (by decide)), h.names.grown hg (hm h.names), h.nlo, h.ways.grown hg (hm h.ways), h.ylo, h.ny⟩
theorem AsAt.new {w w' : World} {H A ln : Nat} {S : Pl.St} {Z : AsV} {Y : List (List UInt8 × Value)} (h : AsAt w H A ln S Z Y) (hb : Below w.heap.size w w') : AsAt w' H A ln S Z Y := by
  have hg : w.grownBy w' none := ⟨hb.os, hb.tape, hb.output, hb.size, fun k hk _ => hb.block k hk⟩
  exact ⟨h.box.below hb h.box.lt, h.lo, Nat.le_trans h.hi hb.size, h.pcs.kept hg (by cases h.pcs.2 with | inl e => rw [e.1]; exact .inl rfl | inr e => obtain ⟨g, _, _, e, _⟩ := e; rw [e]; exact .inr (by simp [Value.ownBlock])),
    h.data.kept hg (by cases h.data.2 with | inl e => rw [e.1]; exact .inl rfl | inr e => obtain ⟨g, _, _, e, _⟩ := e; rw [e]; exact .inr (by simp [Value.ownBlock])),
    h.rooms.kept hg (by cases h.rooms.2 with | inl e => rw [e.1]; exact .inl rfl | inr e => obtain ⟨g, _, _, e, _⟩ := e; rw [e]; exact .inr (by simp [Value.ownBlock])),
    h.names.grown hg (by simp), h.nlo, h.ways.grown hg (by simp), h.ylo, h.ny⟩
theorem AsAt.named {w w' : World} {H A ln : Nat} {S : Pl.St} {Z : AsV} {Y : List (List UInt8 × Value)} (h : AsAt w H A ln S Z Y) (hg : w.grownBy w' (some Z.n)) {L : List (List UInt8 × Nat × Nat)} (hn : MapV w' Z.n (nmsV L) L.length) : AsAt w' H A ln { S with names := L } Z Y := by
  have ho : ∀ (e : TypeId) cur, w.heap[Z.n]? ≠ some (.cells cur e (0, 0)) := fun e cur hc => by
    obtain ⟨es, k, he⟩ := h.names.at_
    rw [he] at hc
    injection hc with hc
    injection hc
  have hA : some A ≠ some Z.n := fun e => by
    injection e with e
    exact ho 64 _ (by rw [← e]; exact h.box.at_)
  exact ⟨h.box.kept hg hA, h.lo, Nat.le_trans h.hi hg.size, own_type h.pcs hg (ho _), own_type h.data hg (ho _), own_type h.rooms hg (ho _), hn, h.nlo, h.ways.grown hg (by intro e; injection e with e; exact h.ny e.symm), h.ylo, h.ny⟩
def LnQ (w : World) (H A ln : Nat) (Z : AsV) (Y : List (List UInt8 × Value)) (E : Except Nat Pl.St) (x : Ending) (w' : World) : Prop :=
  LnK w w' H A Z.n ∧ match E with
    | .error e => Thrown e ln x
    | .ok S' => x = .returned (.tuple #[]) ∧ ∃ Z', Z'.n = Z.n ∧ Z'.y = Z.y ∧ Z'.s = Z.s ∧ AsAt w' H A ln S' Z' Y
theorem below_grown {w w1 w2 : World} {r : Option Nat} (hb : Below w.heap.size w w1) (hg : w1.grownBy w2 r) : w.grownBy w2 r :=
  ⟨hg.os.trans hb.os, hg.tape.trans hb.tape, hg.output.trans hb.output, Nat.le_trans hb.size hg.size, fun k hk hr => (hg.block k (Nat.lt_of_lt_of_le hk hb.size) hr).trans (hb.block k hk)⟩
theorem zero_pl (w : World) : (zeroValue 129).run Tryz.prog w = .ok (.agg #[.int .i64 0, .int .i64 0]) w := by kernel_rfl
set_option maxRecDepth 100000 in
theorem name_any (H A ln : Nat) (S : Pl.St) (Z : AsV) (Y : List (List UInt8 × Value)) (s : List UInt8) (q a : Nat) (qv av : Int) (hq : qv = (q : Int)) (ha : av = (a : Int)) (w : World) (hA : AsAt w H A ln S Z Y) (hs : s.length ≤ 1000000) (hN : S.names.length ≤ 1000000) :
    Calls Tryz.prog 65 #[.pointer (some ⟨A, 0, none⟩), .string ⟨s.toArray⟩, .int .i64 qv, .int .i64 av] w (fun x w' => LnK w w' H A Z.n ∧ match Pl.nameP s q a S with
      | .error e => Thrown e ln x
      | .ok S' => x = .returned (.tuple #[]) ∧ AsAt w' H A ln S' Z Y) := by
  subst hq ha
  have h6 := hA.box.c6
  have hAs := hA.box.lt
  have hl := hA.names.look_ok Tryz.underlying61 (zero_pl w) (m := s) (by omega)
  rw [nmsV_look] at hl
  have HA := Lib.hid hA
  by_cases hf : Pl.lookN s S.names = none
  · have hP : Pl.nameP s q a S = .ok { S with names := S.names ++ [(s, q, a)] } := by unfold Pl.nameP; rw [hf]; rfl
    rw [hP]
    rw [hf] at hl
    simp only [Option.map_none, Option.getD_none, Option.isSome_none] at hl
    have HF := Lib.hid hf
    clear hA hf hP
    go_enter Tryz.func65, Tryz.ntmps65
    go_upto_region 3 with (fail)
    generalize hW : w.alloc _ = W1
    have hb1 : Below w.heap.size w W1 := by rw [← hW]; exact (Below.refl _ _).alloc (Nat.le_refl _) _
    have HA1 := HA.out.new hb1
    have h61 := HA1.box.c6
    obtain ⟨W2, hrun, hm2, hg2⟩ := HA1.names.add Tryz.underlying61 (m := s) (by omega) (plV (q, a)) (by omega) (by rw [nmsV_look, HF.out]; rfl)
    have hm3 : MapV W2 Z.n (nmsV (S.names ++ [(s, q, a)])) (S.names ++ [(s, q, a)]).length := by rw [nmsV_app, List.length_append]; exact hm2
    have HX := Lib.hid (And.intro (below_grown hb1 hg2) (HA1.named hg2 hm3))
    unfold plV at hrun
    clear hW hb1 HA1 hm2 hg2 hm3 hl h6
    go_wp2_with fail
    refine bodyPost_end (results_none rfl _ _ _) rfl ?_
    exact ⟨LnK.grown HX.out.1 HA.out.hi (by intro g hg; injection hg with hg; exact .inr (.inl hg.symm)), rfl, HX.out.2⟩
  · obtain ⟨p, hp⟩ : ∃ p, Pl.lookN s S.names = some p := by cases h : Pl.lookN s S.names with | none => exact absurd h hf | some p => exact ⟨p, rfl⟩
    have hP : Pl.nameP s q a S = .error 8 := by unfold Pl.nameP; rw [hp]; rfl
    rw [hP]
    rw [hp] at hl
    simp only [Option.map_some, Option.getD_some, Option.isSome_some, plV] at hl
    clear hA hf hP hp
    go_enter Tryz.func65, Tryz.ntmps65
    go_wp2_with fail
    generalize hW : World.alloc _ _ = W1
    have hb1 : Below w.heap.size w W1 := by rw [← hW]; exact (Below.refl _ _).alloc (Nat.le_refl _) _
    have hg1 : w.grownBy W1 none := by rw [← hW]; exact World.grownBy_alloc _ _ _
    have HA1 := HA.out.new hb1
    (with_reducible refine (throw_any A ln _ 8 8 rfl _ HA1.box).mono ?_)
    rintro e w2 ⟨rfl, rfl⟩
    exact ⟨rfl, LnK.grown hg1 HA.out.hi (by intro g hg; cases hg), rfl⟩
end Go.Proofs.YtmmnkoeajdeldaaGreatDoor
