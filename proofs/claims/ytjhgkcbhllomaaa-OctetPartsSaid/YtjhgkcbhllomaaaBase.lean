/- Closed facts on the element types, and small words, for all hand-proved contracts of this seat. -/
import Derived.Test.YtjhgkcbhllomaaaProg
import Derived.KernelRfl
import Derived.WalkKit
import Derived.OpenShut
import Derived.Test.YtjhgkcbhllomaaaWMore
namespace Go.Proofs
theorem Try.info_u8 : (Try.prog.info? 5).map (fun i => (i.zero, i.size, i.bytes)) = some (some (.int .u8 0), 1, 1) := by kernel_rfl
theorem Try.info_str : (Try.prog.info? 9).map (fun i => (i.zero, i.size, i.bytes)) = some (some (.string ⟨#[]⟩), 1, 16) := by kernel_rfl
theorem Try.info_int : (Try.prog.info? 3).map (fun i => (i.zero, i.size, i.bytes)) = some (some (.int .i64 0), 1, 8) := by kernel_rfl
end Go.Proofs
namespace Go.Proofs.Ytjhgkcbhllomaaa
open Go.RowKit
theorem wf_u64_lo {n : Int} (h : (Lit.int .u64 n).wf = true) : 0 ≤ n := (bounds_u64 h).1
theorem wf_i64_lo {n : Int} (h : (Lit.int .i64 n).wf = true) : -9223372036854775808 ≤ n := (bounds_i64 h).1
theorem wf_i64_hi {n : Int} (h : (Lit.int .i64 n).wf = true) : n ≤ 9223372036854775807 := (bounds_i64 h).2
end Go.Proofs.Ytjhgkcbhllomaaa
