/- Plain Lean: what lines take in keeps to its bounds. -/
import Derived.Test.YtmmnkoeajdeldaaGreatDoorAsXb
namespace Go.Proofs.YtmmnkoeajdeldaaGreatDoor
open Go.RowKit
set_option linter.unusedVariables false
set_option linter.unusedSimpArgs false
open Pl in
theorem regF_some (s : List UInt8) : ∀ (f i j : Nat), regF s f i = some j → i ≤ j ∧ j < i + f ∧ s = 114 :: Lib.itoa (j : Int)
  | 0, i, j, h => by cases h
  | f + 1, i, j, h => by
    simp only [regF] at h
    split at h
    · next e => cases h; exact ⟨Nat.le_refl _, by omega, e⟩
    · have := regF_some s f (i + 1) j h
      exact ⟨by omega, by omega, this.2.2⟩
theorem rg_lt (l : List Pl.Tk) (i : Nat) : Pl.rg l i < 16 := by
  unfold Pl.rg
  cases h : Pl.regN (Pl.tg l i).s with
  | none => simp
  | some j => have := regF_some _ 16 0 j h; simp; omega
theorem u32N_lt (n : Int) : Pl.u32N n < 4294967296 := by unfold Pl.u32N; omega
theorem look_app (s : List UInt8) : ∀ (a b : List (List UInt8 × Nat × Nat)), Pl.lookN s (a ++ b) = match Pl.lookN s a with | some v => some v | none => Pl.lookN s b
  | [], b => rfl
  | (t, v) :: a, b => by
    simp only [List.cons_append, Pl.lookN]
    split
    · rfl
    · exact look_app s a b
/-- What k lines took in. -/
structure SInv (S : Pl.St) (k : Nat) : Prop where
  pcs : S.pcs.length ≤ 2 * k
  data : S.data.length ≤ 70000 * k
  rooms : S.rooms.length ≤ k
  names : S.names.length ≤ k
  rms : ∀ n ∈ S.rooms, n ≤ 65536
  uni : ∀ e ∈ S.names, Pl.lookN e.1 S.names = some e.2
  ok : ∀ p ∈ S.pcs, PcOk p
  pl : ∀ s v, Pl.lookN s S.names = some v → PlOk S v
theorem SInv.nil : SInv Pl.St.nil 0 := ⟨by simp [Pl.St.nil], by simp [Pl.St.nil], by simp [Pl.St.nil], by simp [Pl.St.nil], by simp [Pl.St.nil], by simp [Pl.St.nil], by simp [Pl.St.nil], fun s v h => by cases h⟩
theorem SInv.mono {S : Pl.St} {k m : Nat} (h : SInv S k) (hm : k ≤ m) : SInv S m := ⟨by have := h.pcs; omega, by have := h.data; omega, by have := h.rooms; omega, by have := h.names; omega, h.rms, h.uni, h.ok, h.pl⟩
theorem SInv.stOk {S : Pl.St} {k : Nat} (h : SInv S k) (hk : k ≤ 401) : StOk S := ⟨by have := h.pcs; omega, by have := h.data; omega, by have := h.rooms; omega, by have := h.names; omega⟩
theorem SInv.all {S : Pl.St} {k : Nat} (h : SInv S k) (hk : k ≤ 401) : StAll S := ⟨⟨h.stOk hk, h.rms, h.uni⟩, h.ok, h.pl⟩
theorem SInv.add {S : Pl.St} {k n : Nat} {p : Pl.Pc} (h : SInv S k) (hp : PcOk p) (hn : S.pcs.length + 1 ≤ 2 * n) (hkn : k ≤ n) : SInv (Pl.addP p S) n :=
  ⟨by simp [Pl.addP]; omega, by have := h.data; simp [Pl.addP]; omega, by have := h.rooms; simp [Pl.addP]; omega, by have := h.names; simp [Pl.addP]; omega, h.rms, h.uni, fun q hq => by
    simp only [Pl.addP, List.mem_append, List.mem_singleton] at hq
    rcases hq with hq | rfl
    · exact h.ok q hq
    · exact hp, fun s v hv => ⟨(h.pl s v hv).t, (h.pl s v hv).d, (h.pl s v hv).r⟩⟩
theorem nameP_spec {s : List UInt8} {o a : Nat} {S S1 : Pl.St} (h : Pl.nameP s o a S = .ok S1) : Pl.lookN s S.names = none ∧ S1 = { S with names := S.names ++ [(s, o, a)] } := by
  unfold Pl.nameP at h
  split at h
  · cases h
  · next hn =>
    cases h
    refine ⟨?_, rfl⟩
    cases hl : Pl.lookN s S.names with
    | none => rfl
    | some v => rw [hl] at hn; simp at hn
/-- A name more, and data and rooms. -/
theorem SInv.name {S S1 : Pl.St} {k : Nat} {s : List UInt8} {o a : Nat} (h : SInv S k) (hn : Pl.nameP s o a S = .ok S1) (d : List UInt8) (r : List Nat) (hd : (S.data ++ d).length ≤ 70000 * (k + 1)) (hr : (S.rooms ++ r).length ≤ k + 1) (hrm : ∀ n ∈ r, n ≤ 65536)
    (hv : PlOk { S with names := S.names ++ [(s, o, a)], data := S.data ++ d, rooms := S.rooms ++ r } (o, a)) : SInv { S1 with data := S.data ++ d, rooms := S.rooms ++ r } (k + 1) := by
  obtain ⟨hno, rfl⟩ := nameP_spec hn
  refine ⟨by have := h.pcs; show S.pcs.length ≤ _; omega, hd, hr, by have := h.names; simp; omega, fun n hm => ?_, fun e he => ?_, h.ok, fun t v ht => ?_⟩
  · simp only [List.mem_append] at hm
    rcases hm with hm | hm
    · exact h.rms n hm
    · exact hrm n hm
  · simp only [List.mem_append, List.mem_singleton] at he
    show Pl.lookN e.1 (S.names ++ [(s, o, a)]) = _
    rw [look_app]
    rcases he with he | rfl
    · rw [h.uni e he]
    · rw [hno]; simp [Pl.lookN]
  · change Pl.lookN t (S.names ++ [(s, o, a)]) = some v at ht
    rw [look_app] at ht
    cases hl : Pl.lookN t S.names with
    | some v' =>
      rw [hl] at ht
      cases ht
      have hp := h.pl t v hl
      exact ⟨hp.t, hp.d, fun h0 h1 => by have := hp.r h0 h1; simp; omega⟩
    | none =>
      rw [hl] at ht
      simp only [Pl.lookN] at ht
      split at ht
      · cases ht; exact hv
      · cases ht
theorem PcOk.I {ln : Nat} {x : Pl.Ins} (h1 : x.op < 256) (h2 : x.a < 256) (h3 : x.b < 256) (h4 : x.c < 256) (h5 : -2147483648 ≤ x.imm) (h6 : x.imm ≤ 2147483647) (hl : ln ≤ 1000000) : PcOk (Pl.pcI ln x) := ⟨h1, h2, h3, h4, h5, h6, of_decide_eq_true rfl, of_decide_eq_true rfl, of_decide_eq_true rfl, hl⟩
theorem PcOk.N {ln : Nat} {x : Pl.Ins} {s : List UInt8} {way : Nat} (h1 : x.op < 256) (h2 : x.a < 256) (h3 : x.b < 256) (h4 : x.c < 256) (h5 : -2147483648 ≤ x.imm) (h6 : x.imm ≤ 2147483647) (hs : s.length ≤ 1000000) (hw : way ≤ 3) (hl : ln ≤ 1000000) : PcOk (Pl.pcN ln x s way) := ⟨h1, h2, h3, h4, h5, h6, of_decide_eq_true rfl, hs, hw, hl⟩
theorem tg_s {l : List Pl.Tk} (h : TksOk l) (n : Nat) (hn : ∀ t ∈ l, t.s.length ≤ n) (i : Nat) : (Pl.tg l i).s.length ≤ n := by
  unfold Pl.tg
  rw [List.getD_eq_getElem?_getD]
  cases hl : l[i]? with
  | none => simp [Pl.tz]
  | some t => exact hn t (List.mem_of_getElem? hl)
theorem inP_ok {n lo hi : Int} {u : Unit} (h : Pl.inP n lo hi = .ok u) : lo ≤ n ∧ n ≤ hi := by
  unfold Pl.inP at h
  split at h
  · cases h
  · omega
theorem up4_le (n : Nat) : Pl.up n 4 - n ≤ 3 := by unfold Pl.up; omega
theorem bind_ok {ε α β : Type} {x : Except ε α} {f : α → Except ε β} {b : β} (h : (x >>= f) = .ok b) : ∃ a, x = .ok a ∧ f a = .ok b := by
  cases x with
  | error e => cases h
  | ok a => exact ⟨a, rfl, h⟩
theorem line_inv {ln k : Nat} {l : List Pl.Tk} {S S' : Pl.St} (hS : SInv S k) (hk : k ≤ 400) (hln : ln ≤ 1000000) (hl : TksOk l) (hs : ∀ t ∈ l, t.s.length ≤ 65536) (h : Pl.lineP ln l S = .ok S') : SInv S' (k + 1) := by
  have hp := hS.pcs
  have hd := hS.data
  have hro := hS.rooms
  have ts : ∀ i, (Pl.tg l i).s.length ≤ 65536 := fun i => tg_s hl 65536 hs i
  unfold Pl.lineP at h
  obtain ⟨⟨f, r⟩, hf, h⟩ := bind_ok h
  have hr : ∀ t ∈ r, t ∈ l := (want_mem hf).2
  have hrs : ∀ t ∈ r, t.s.length ≤ 65536 := fun t ht => hs t (hr t ht)
  have hrl : TksOk r := ⟨fun t ht => hl.s t (hr t ht), fun t ht => hl.n t (hr t ht)⟩
  have rs : ∀ i, (Pl.tg r i).s.length ≤ 65536 := fun i => tg_s hrl 65536 hrs i
  have r16 := fun i => rg_lt r i
  simp only at h
  split at h
  · rw [Pl.liP_eq] at h
    split at h
    · obtain ⟨u, -, h⟩ := bind_ok h
      cases h
      have hu := u32N_lt (Pl.tg r 2).n
      have := r16 0
      refine SInv.add (SInv.add (n := k + 1) hS (PcOk.I (of_decide_eq_true rfl) (by show Pl.rg r 0 < 256; omega) (of_decide_eq_true rfl) (of_decide_eq_true rfl) (by show _ ≤ ((Pl.u32N _ / 65536 : Nat) : Int); omega) (by show ((Pl.u32N _ / 65536 : Nat) : Int) ≤ _; omega) hln) (by omega) (by omega)) (PcOk.I (of_decide_eq_true rfl) (by show Pl.rg r 0 < 256; omega) (by show Pl.rg r 0 < 256; omega) (of_decide_eq_true rfl) (by show _ ≤ ((Pl.u32N _ % 65536 : Nat) : Int); omega) (by show ((Pl.u32N _ % 65536 : Nat) : Int) ≤ _; omega) hln) ?_ (Nat.le_refl _)
      simp [Pl.addP]; omega
    · cases h
  split at h
  · rw [Pl.laP_eq] at h
    split at h
    · cases h
      have := r16 0
      have := rs 2
      refine SInv.add (SInv.add (n := k + 1) hS (PcOk.N (of_decide_eq_true rfl) (by show Pl.rg r 0 < 256; omega) (of_decide_eq_true rfl) (of_decide_eq_true rfl) (of_decide_eq_true rfl) (of_decide_eq_true rfl) (by omega) (of_decide_eq_true rfl) hln) (by omega) (by omega)) (PcOk.N (of_decide_eq_true rfl) (by show Pl.rg r 0 < 256; omega) (by show Pl.rg r 0 < 256; omega) (of_decide_eq_true rfl) (of_decide_eq_true rfl) (of_decide_eq_true rfl) (by omega) (of_decide_eq_true rfl) hln) ?_ (Nat.le_refl _)
      simp [Pl.addP]; omega
    · cases h
  split at h
  · rw [Pl.rawP_eq] at h
    split at h
    · obtain ⟨u, -, h⟩ := bind_ok h
      cases h
      exact SInv.add hS ⟨of_decide_eq_true rfl, of_decide_eq_true rfl, of_decide_eq_true rfl, of_decide_eq_true rfl, of_decide_eq_true rfl, of_decide_eq_true rfl, u32N_lt _, of_decide_eq_true rfl, of_decide_eq_true rfl, hln⟩ (by omega) (by omega)
    · cases h
  split at h
  · rw [Pl.textP_eq] at h
    split at h
    · obtain ⟨S1, hn, h⟩ := bind_ok h
      cases h
      have hx := hS.name hn (Pl.tg r 1).s [] (by rw [List.length_append]; have := rs 1; omega) (by simp; omega) (by simp) ⟨fun h => by simp at h, fun _ => by show S.data.length ≤ _; omega, fun _ h => by simp at h⟩
      have e := (nameP_spec hn).2
      subst e
      simpa using hx
    · cases h
  split at h
  · rw [Pl.word_eq] at h
    split at h
    · obtain ⟨u, -, h⟩ := bind_ok h
      obtain ⟨S1, hn, h⟩ := bind_ok h
      cases h
      have hu := up4_le S.data.length
      have hx := hS.name hn (List.replicate (Pl.up S.data.length 4 - S.data.length) 0 ++ Pl.putB (Pl.u32N (Pl.tg r 1).n) 4) [] (by simp [Pl.putB]; omega) (by simp; omega) (by simp) ⟨fun h => by simp at h, fun _ => by show Pl.up S.data.length 4 ≤ _; omega, fun _ h => by simp at h⟩
      have e := (nameP_spec hn).2
      subst e
      simpa using hx
    · cases h
  split at h
  · rw [Pl.room_eq] at h
    split at h
    · obtain ⟨u, hin, h⟩ := bind_ok h
      obtain ⟨S1, hn, h⟩ := bind_ok h
      cases h
      have hi := inP_ok hin
      have hx := hS.name hn [] [(Pl.tg r 1).n.toNat] (by simp; omega) (by simp; omega) (by intro n hm; simp at hm; omega) ⟨fun h => by simp at h, fun h => by simp at h, fun _ _ => by simp⟩
      have e := (nameP_spec hn).2
      subst e
      simpa using hx
    · cases h
  split at h
  · cases h
  · next op hop =>
    have ho := op_le hop
    rw [opNs_len] at ho
    rw [Pl.insP_eq ln op r S ho.1 (by omega)] at h
    split at h
    · unfold Pl.finI at h
      have hx : (Pl.insI op (Pl.formN op) r).1.op < 256 ∧ (Pl.insI op (Pl.formN op) r).1.a < 256 ∧ (Pl.insI op (Pl.formN op) r).1.b < 256 ∧ (Pl.insI op (Pl.formN op) r).1.c < 256 ∧ (Pl.insI op (Pl.formN op) r).1.imm = 0 ∧ (Pl.insI op (Pl.formN op) r).2.s.length ≤ 65536 := by
        have a0 := r16 0
        have a2 := r16 2
        have a4 := r16 4
        have t0 := rs 0
        have t2 := rs 2
        have t4 := rs 4
        unfold Pl.insI
        (repeat' split) <;> (refine ⟨?_, ?_, ?_, ?_, ?_, ?_⟩) <;> first | rfl | (show op < 256; omega) | (show Pl.rg r 0 < 256; omega) | (show Pl.rg r 2 < 256; omega) | (show Pl.rg r 4 < 256; omega) | (show 0 < 256; decide) | exact t0 | exact t2 | exact t4 | (show ([] : List UInt8).length ≤ 65536; decide)
      obtain ⟨x1, x2, x3, x4, x5, x6⟩ := hx
      split at h
      · cases h
        exact SInv.add hS (PcOk.N x1 x2 x3 x4 (by rw [x5]; decide) (by rw [x5]; decide) (by omega) (by split <;> omega) hln) (by omega) (by omega)
      · obtain ⟨n, hn, h⟩ := bind_ok h
        cases h
        have hb := fitP_ok hn
        exact SInv.add hS (PcOk.I x1 x2 x3 x4 hb.1 hb.2 hln) (by omega) (by omega)
    · cases h
theorem take_inv {ln k : Nat} {l : List Pl.Tk} {S S' : Pl.St} (hS : SInv S k) (hk : k ≤ 400) (hln : ln ≤ 1000000) (hl : TksOk l) (hs : ∀ t ∈ l, t.s.length ≤ 65536) (h : Pl.takeP ln l S = .ok S') : SInv S' (k + 1) := by
  unfold Pl.takeP at h
  split at h
  · cases h; exact hS.mono (by omega)
  · next a b =>
    split at h
    · have hx := hS.name h [] [] (by have := hS.data; simp; omega) (by have := hS.rooms; simp; omega) (by simp) ⟨fun _ => by have := hS.pcs; show S.pcs.length ≤ _; omega, fun h => by simp at h, fun h => by simp at h⟩
      have e := (nameP_spec h).2
      subst e
      simpa using hx
    · exact line_inv hS hk hln hl hs h
  · exact line_inv hS hk hln hl hs h
end Go.Proofs.YtmmnkoeajdeldaaGreatDoor
