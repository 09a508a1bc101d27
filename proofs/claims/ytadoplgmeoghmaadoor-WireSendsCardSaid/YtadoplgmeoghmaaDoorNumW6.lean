/- The walk of the reference's Texts. -/
import Derived.Test.YtadoplgmeoghmaaDoorNumW1
namespace Go.Proofs.YtadoplgmeoghmaaDoor
open Go.RowKit
attribute [local go_sem] ba_get ba_cut
attribute [local go_sem] cut_all List.drop_zero Nat.sub_zero

end Go.Proofs.YtadoplgmeoghmaaDoor
