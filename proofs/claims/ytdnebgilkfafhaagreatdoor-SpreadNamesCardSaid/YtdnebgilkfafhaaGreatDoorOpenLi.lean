/- How lies (two shelves that are others, and their numbers) that came in are opened. -/
import Derived.Test.YtdnebgilkfafhaaGreatDoorOpenSh
import Derived.Test.YtdnebgilkfafhaaGreatDoorSpAl
namespace Go.Proofs.YtdnebgilkfafhaaGreatDoor
open Go.ChangeShapes Go.WideShapes Go.ChangeAt Go.RowKit Go.Deep Go.Joins
/-- Lies: which shelves are others, what they are, and where that lies. -/
structure Li where
  a : Nat
  b : Nat
  X : Pl.Shelf
  x : ShX
  Y : Pl.Shelf
  y : ShX
def Li.L (q : Li) : List Value := [.int .u8 (q.a : Int), .int .u8 (q.b : Int), .slice q.x.A q.X.objs.length q.x.c, .slice q.x.A' q.X.fates.length q.x.c', .slice q.y.A q.Y.objs.length q.y.c, .slice q.y.A' q.Y.fates.length q.y.c']
structure Li.Ok (q : Li) (w : World) : Prop where
  a : q.a < 256
  b : q.b < 256
  X : ShOk w q.X q.x
  Y : ShOk w q.Y q.y
  fX : Pl.FitG q.X.objs q.X.fates
  fY : Pl.FitG q.Y.objs q.Y.fates
section
variable {H : Type} {enc : TypeId × Value → H} {W : World} {base : Nat} {sp : Nat → Bool} {held : Bool}
set_option maxRecDepth 100000 in
theorem read_shelf (fuel : Nat) (cs : List Value) (x : DataW H × List MemPlace) (h : DataW.trod enc Tryz.prog W base sp held fuel 26 cs = some x) (hz : ∀ m ∈ x.1.weights Tryz.prog 26, m ≤ reachBytes) : ∃ (S : Pl.Shelf) (z : ShX), cs = shC S z ∧ ShOk W S z ∧ Pl.FitG S.objs S.fates := by
  have hl : cs.length = 2 := (struct_len Tryz.underlying26 h).trans (by kernel_rfl)
  match cs, hl with
  | [c0, c1], _ =>
    obtain ⟨n0, y0, h0, z0⟩ := struct_field Tryz.underlying26 h hz 0 _ rfl
    obtain ⟨n1, y1, h1, z1⟩ := struct_field Tryz.underlying26 h hz 1 _ rfl
    obtain ⟨A, len, c, L, hcs, hl, hk, hr, hc, hc', hb, hn, hL⟩ := open_elems (cs := [c0]) Tryz.underlying23 (k := 4) (by kernel_rfl) (by omega) ObjCell read_obj h0 z0
    obtain ⟨Y, rfl, hY⟩ := list_choose objC (fun o => o.name.length ≤ reachBytes ∧ o.data.length ≤ reachBytes ∧ o.was.length ≤ reachBytes) L hL
    obtain ⟨A', len', c2, L', hcs', hl', hk', hr', hd, hd', hb', hn', hL'⟩ := open_elems (cs := [c1]) Tryz.underlying24 (k := 1) (by kernel_rfl) (by omega) IntCell read_int h1 z1
    obtain ⟨F, rfl, -⟩ := list_choose (fun q : Int => [Value.int .i64 q]) (fun _ => True) L' hL'
    have e := flatten_one (fun q : Int => Value.int .i64 q) F
    rw [e] at hr'
    rw [List.length_map] at hl hl'
    simp only [List.cons.injEq, and_true] at hcs hcs'
    have e1 : Tryz.prog.bytesOf 49 = 56 := by kernel_rfl
    have e2 : Tryz.prog.bytesOf 3 = 8 := by kernel_rfl
    rw [e1] at hb
    rw [e2] at hb'
    have hR : reachBytes = 140737488351232 := rfl
    rw [hR] at hb hb'
    subst hcs hcs' hl hl'
    refine ⟨⟨Y, F⟩, ⟨A, c, A', c2⟩, rfl, ⟨⟨?_, hc, hc', hn⟩, ⟨hr', hd, hd', hn'⟩⟩, ⟨?_, ?_⟩⟩
    · rw [show objCs Y = (Y.map objC).flatten by simp [objCs, List.flatMap_def]]
      exact hr
    · show Y.length ≤ _
      omega
    · show F.length ≤ _
      omega
set_option maxRecDepth 100000 in
theorem open_lies {v : Value} {d : DataW H} {p : List MemPlace} {r : Reach} {b0 : Nat} (hv : Value.okWide Tryz.prog W r b0 28 v) (h : DataW.Trod enc Tryz.prog W base sp held 28 v d p)
    (hz : ∀ m ∈ d.weights Tryz.prog 28, m ≤ reachBytes) : ∃ q : Li, v = .agg q.L.toArray ∧ q.Ok W := by
  obtain ⟨ca, rfl, hsz⟩ := okWide_struct Tryz.underlying28 hv
  obtain ⟨fuel, hf⟩ := h
  obtain ⟨cs, hcs0⟩ : ∃ cs, ca.toList = cs := ⟨_, rfl⟩
  have hca : ca = cs.toArray := by rw [← hcs0]
  simp only [Value.cells] at hf
  rw [hcs0] at hf
  have hz' : ∀ m ∈ (d, p).1.weights Tryz.prog 28, m ≤ reachBytes := hz
  have hl : cs.length = 6 := (struct_len Tryz.underlying28 hf).trans (by kernel_rfl)
  match cs, hl with
  | [c0, c1, c2, c3, c4, c5], _ =>
    obtain ⟨n0, y0, h0, z0⟩ := struct_field Tryz.underlying28 hf hz' 0 _ rfl
    obtain ⟨n1, y1, h1, z1⟩ := struct_field Tryz.underlying28 hf hz' 1 _ rfl
    obtain ⟨n2, y2, h2, z2⟩ := struct_field Tryz.underlying28 hf hz' 2 _ rfl
    obtain ⟨n3, y3, h3, z3⟩ := struct_field Tryz.underlying28 hf hz' 3 _ rfl
    obtain ⟨i0, e0, -, w0⟩ := DataW.trod_int (cs := [c0]) Tryz.underlying5 h0
    obtain ⟨i1, e1, -, w1⟩ := DataW.trod_int (cs := [c1]) Tryz.underlying5 h1
    obtain ⟨X, zX, eX, oX, fX⟩ := read_shelf n2 [c2, c3] y2 h2 z2
    obtain ⟨Y, zY, eY, oY, fY⟩ := read_shelf n3 [c4, c5] y3 h3 z3
    obtain ⟨g1, g2⟩ := wf_bd w0
    obtain ⟨g3, g4⟩ := wf_bd w1
    have m1 : IntKind.u8.min = 0 := by decide
    have m2 : IntKind.u8.max = 255 := by decide
    rw [m1] at g1 g3
    rw [m2] at g2 g4
    obtain ⟨a, rfl⟩ : ∃ a : Nat, i0 = (a : Int) := ⟨i0.toNat, by omega⟩
    obtain ⟨b, rfl⟩ : ∃ b : Nat, i1 = (b : Int) := ⟨i1.toNat, by omega⟩
    unfold shC at eX eY
    simp only [List.cons.injEq, and_true] at e0 e1 eX eY
    obtain ⟨rfl, rfl⟩ := eX
    obtain ⟨rfl, rfl⟩ := eY
    subst e0 e1
    exact ⟨⟨a, b, X, zX, Y, zY⟩, by rw [hca]; rfl, ⟨by show a < 256; omega, by show b < 256; omega, oX, oY, fX, fY⟩⟩
end
end Go.Proofs.YtdnebgilkfafhaaGreatDoor
