/- The walks of the document's digest, raw, Insert, Names: digests out of bytes, their bytes, names put in. -/
import Derived.Test.YtadoplgmeoghmaaDoorHexW
import Derived.Test.YtadoplgmeoghmaaDoorMfChk
import Derived.Test.YtadoplgmeoghmaaDoorMfNm
namespace Go.Proofs.YtadoplgmeoghmaaDoor
open Go.RowKit
set_option linter.unusedVariables false
set_option linter.unusedSimpArgs false
attribute [local go_sem] ba_get ba_cut ba_add
theorem results_dig1 {fn : Func} {tmps : Array Value} {w : World} {a B : Nat} {cs : List Value} (hf : fn.results = #[.cell a 29]) (ha : tmps[a]?.getD undef = .pointer (some ⟨B, 0, none⟩)) (hc : w.rangeAt B 0 cs) (hl : cs.length = 32) :
    (results fn tmps).run Tryd.prog w = .ok (.agg cs.toArray) w := by
  have h := run_loadVar_mid (P := Tryd.prog) w B 0 29 cs _ hc Tryd.underlying29 rfl (by rw [hl]; exact info_dig)
  simp [results, hf, ha, asAddr, h, Sem.run_bind]
end Go.Proofs.YtadoplgmeoghmaaDoor
