/- The reference of mark: open. (short) The reference of mark: prolog, piece. (short) The reference of mark: faults, DocRead. (short) -/
import Derived.Test.YtanncakdlflopaaGreatDoorMarkT
import Derived.Test.YtanncakdlflopaaGreatDoorMarkUW
import Derived.Test.YtanncakdlflopaaGreatDoorMarkP
namespace Go.Proofs.YtanncakdlflopaaGreatDoor
open Go.RowKit
set_option linter.unusedVariables false
set_option linter.unusedSimpArgs false
set_option maxRecDepth 100000

end Go.Proofs.YtanncakdlflopaaGreatDoor

namespace Go.Proofs.YtanncakdlflopaaGreatDoor
open Go.RowKit
set_option linter.unusedVariables false
set_option linter.unusedSimpArgs false
set_option maxRecDepth 100000

end Go.Proofs.YtanncakdlflopaaGreatDoor

namespace Go.Proofs.YtanncakdlflopaaGreatDoor
open Go.RowKit
set_option linter.unusedVariables false
set_option linter.unusedSimpArgs false
set_option maxRecDepth 100000

theorem dupA_next {l : List AtD} {k : Nat} {a : AtD} (h : l[k]? = some a) : dupA (l.take (k + 1)) = (dupA (l.take k) || (l.take k).any fun b => a.1.toList == b.1.toList) := by
 rw [List.take_add_one, h]
 exact dupA_snoc _ _

theorem pro_le {S : ByteArray} {k : Nat} (h : prologF S = some k) : k ≤ S.size := by
 unfold prologF at h
 split at h
 ·cases h; omega
 rename_i h0
 split at h
 ·cases h
 split at h
 ·cases h
 rename_i n hn
 simp only [Option.some.injEq] at h
 have h5 : 5 ≤ S.size := by have := atP_le (t := [60, 63, 120, 109, 108]) (Nat.zero_le _) (by simpa using h0); simpa using this
 have h6 := blkE_le h5
 have h7 := fndL_le (by simp) hn
 rw [List.length_drop, size_list] at h7
 simp only [List.length_cons, List.length_nil] at h7
 omega
end Go.Proofs.YtanncakdlflopaaGreatDoor
