/- The tables' facts of this seat, each closed by the kernel. Written by a program of this session (tab.py). No condition. -/
import Derived.Test.YtkgmgnjgplabhaaEng4
import Derived.Test.YtkgmgnjgplabhaaProg
namespace Go.Proofs.Ytkgmgnjgplabhaa
open Go Go.Eng

instance u3 : UT Try.prog 3 (.int .i64) := ⟨Try.underlying3⟩
instance u4 : UT Try.prog 4 (.bool) := ⟨Try.underlying4⟩
instance u5 : UT Try.prog 5 (.int .u8) := ⟨Try.underlying5⟩
instance u9 : UT Try.prog 9 (.string) := ⟨Try.underlying9⟩
instance u22 : UT Try.prog 22 (.pointer 57) := ⟨Try.underlying22⟩
instance u25 : UT Try.prog 25 (.int .i64) := ⟨Try.underlying25⟩
instance u29 : UT Try.prog 29 (.pointer 60) := ⟨Try.underlying29⟩
instance u33 : UT Try.prog 33 (.slice 39) := ⟨Try.underlying33⟩
instance u35 : UT Try.prog 35 (.slice 5) := ⟨Try.underlying35⟩
instance u50 : UT Try.prog 50 (.int .u32) := ⟨Try.underlying50⟩
instance u65 : UT Try.prog 65 (.array 4 5) := ⟨Try.underlying65⟩
instance u67 : UT Try.prog 67 (.int .u64) := ⟨Try.underlying67⟩
instance l3 : L1 Try.prog 3 := ⟨fun _ _ => by kernel_rfl⟩
instance l4 : L1 Try.prog 4 := ⟨fun _ _ => by kernel_rfl⟩
instance l9 : L1 Try.prog 9 := ⟨fun _ _ => by kernel_rfl⟩
instance l35 : L1 Try.prog 35 := ⟨fun _ _ => by kernel_rfl⟩
instance n39 : LN Try.prog 39 3 := ⟨fun _ _ => by kernel_rfl⟩
instance s3 : SN Try.prog 3 1 := ⟨fun _ _ _ => by kernel_rfl⟩
instance s4 : SN Try.prog 4 1 := ⟨fun _ _ _ => by kernel_rfl⟩
instance s5 : SN Try.prog 5 1 := ⟨fun _ _ _ => by kernel_rfl⟩
instance s35 : SN Try.prog 35 1 := ⟨fun _ _ _ => by kernel_rfl⟩
instance z5 : SZ Try.prog 5 1 := ⟨fun _ => by kernel_rfl⟩
instance z39 : SZ Try.prog 39 3 := ⟨fun _ => by kernel_rfl⟩
instance f37_0 : FA Try.prog 37 0 0 := ⟨fun _ _ _ => by kernel_rfl⟩
instance f37_1 : FA Try.prog 37 1 1 := ⟨fun _ _ _ => by kernel_rfl⟩
instance f39_0 : FA Try.prog 39 0 0 := ⟨fun _ _ _ => by kernel_rfl⟩
instance f39_1 : FA Try.prog 39 1 1 := ⟨fun _ _ _ => by kernel_rfl⟩
instance f39_2 : FA Try.prog 39 2 2 := ⟨fun _ _ _ => by kernel_rfl⟩
instance f46_0 : FA Try.prog 46 0 0 := ⟨fun _ _ _ => by kernel_rfl⟩
instance f46_1 : FA Try.prog 46 1 1 := ⟨fun _ _ _ => by kernel_rfl⟩
instance f46_2 : FA Try.prog 46 2 2 := ⟨fun _ _ _ => by kernel_rfl⟩
instance f57_0 : FA Try.prog 57 0 0 := ⟨fun _ _ _ => by kernel_rfl⟩
instance f57_1 : FA Try.prog 57 1 1 := ⟨fun _ _ _ => by kernel_rfl⟩
instance f57_2 : FA Try.prog 57 2 2 := ⟨fun _ _ _ => by kernel_rfl⟩
instance f60_0 : FA Try.prog 60 0 0 := ⟨fun _ _ _ => by kernel_rfl⟩
instance f60_1 : FA Try.prog 60 1 1 := ⟨fun _ _ _ => by kernel_rfl⟩
instance f60_2 : FA Try.prog 60 2 2 := ⟨fun _ _ _ => by kernel_rfl⟩
instance a65 : ZV Try.prog 65 #[(.int .u8 0), (.int .u8 0), (.int .u8 0), (.int .u8 0)] := ⟨fun _ => by kernel_rfl⟩
instance e5 : Elem Try.prog 5 1 1 := elem_of (z := (.int .u8 0)) (by rfl) (by kernel_rfl)
end Go.Proofs.Ytkgmgnjgplabhaa
