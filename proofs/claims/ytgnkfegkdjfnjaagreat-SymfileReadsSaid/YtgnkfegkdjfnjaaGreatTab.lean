/- The tables' facts of this seat, each closed by the kernel. Written by a program of this session (tab.py). No condition. -/
import Derived.Test.YtgnkfegkdjfnjaaGreatEng11
import Derived.Test.YtgnkfegkdjfnjaaGreatProg
namespace Go.Proofs.YtgnkfegkdjfnjaaGreat
open Go Go.Eng

instance u3 : UT Tryz.prog 3 (.int .i64) := ⟨Tryz.underlying3⟩
instance u4 : UT Tryz.prog 4 (.bool) := ⟨Tryz.underlying4⟩
instance u5 : UT Tryz.prog 5 (.int .u8) := ⟨Tryz.underlying5⟩
instance u9 : UT Tryz.prog 9 (.string) := ⟨Tryz.underlying9⟩
instance u21 : UT Tryz.prog 21 (.int .i32) := ⟨Tryz.underlying21⟩
instance u23 : UT Tryz.prog 23 (.int .u32) := ⟨Tryz.underlying23⟩
instance u24 : UT Tryz.prog 24 (.slice 48) := ⟨Tryz.underlying24⟩
instance u25 : UT Tryz.prog 25 (.slice 52) := ⟨Tryz.underlying25⟩
instance u26 : UT Tryz.prog 26 (.slice 58) := ⟨Tryz.underlying26⟩
instance u29 : UT Tryz.prog 29 (.int .i64) := ⟨Tryz.underlying29⟩
instance u42 : UT Tryz.prog 42 (.pointer 80) := ⟨Tryz.underlying42⟩
instance u49 : UT Tryz.prog 49 (.slice 86) := ⟨Tryz.underlying49⟩
instance u50 : UT Tryz.prog 50 (.slice 88) := ⟨Tryz.underlying50⟩
instance u71 : UT Tryz.prog 71 (.pointer 96) := ⟨Tryz.underlying71⟩
instance u94 : UT Tryz.prog 94 (.slice 5) := ⟨Tryz.underlying94⟩
instance u97 : UT Tryz.prog 97 (.array 4 5) := ⟨Tryz.underlying97⟩
instance u111 : UT Tryz.prog 111 (.int .u64) := ⟨Tryz.underlying111⟩
instance u114 : UT Tryz.prog 114 (.slice 3) := ⟨Tryz.underlying114⟩
instance l3 : L1 Tryz.prog 3 := ⟨fun _ _ => by kernel_rfl⟩
instance l4 : L1 Tryz.prog 4 := ⟨fun _ _ => by kernel_rfl⟩
instance l5 : L1 Tryz.prog 5 := ⟨fun _ _ => by kernel_rfl⟩
instance l9 : L1 Tryz.prog 9 := ⟨fun _ _ => by kernel_rfl⟩
instance l23 : L1 Tryz.prog 23 := ⟨fun _ _ => by kernel_rfl⟩
instance l24 : L1 Tryz.prog 24 := ⟨fun _ _ => by kernel_rfl⟩
instance l25 : L1 Tryz.prog 25 := ⟨fun _ _ => by kernel_rfl⟩
instance l26 : L1 Tryz.prog 26 := ⟨fun _ _ => by kernel_rfl⟩
instance l42 : L1 Tryz.prog 42 := ⟨fun _ _ => by kernel_rfl⟩
instance l49 : L1 Tryz.prog 49 := ⟨fun _ _ => by kernel_rfl⟩
instance l50 : L1 Tryz.prog 50 := ⟨fun _ _ => by kernel_rfl⟩
instance l60 : L1 Tryz.prog 60 := ⟨fun _ _ => by kernel_rfl⟩
instance l94 : L1 Tryz.prog 94 := ⟨fun _ _ => by kernel_rfl⟩
instance n28 : LN Tryz.prog 28 5 := ⟨fun _ _ => by kernel_rfl⟩
instance n48 : LN Tryz.prog 48 2 := ⟨fun _ _ => by kernel_rfl⟩
instance n52 : LN Tryz.prog 52 10 := ⟨fun _ _ => by kernel_rfl⟩
instance n56 : LN Tryz.prog 56 3 := ⟨fun _ _ => by kernel_rfl⟩
instance n58 : LN Tryz.prog 58 7 := ⟨fun _ _ => by kernel_rfl⟩
instance n86 : LN Tryz.prog 86 3 := ⟨fun _ _ => by kernel_rfl⟩
instance n88 : LN Tryz.prog 88 2 := ⟨fun _ _ => by kernel_rfl⟩
instance n106 : LN Tryz.prog 106 2 := ⟨fun _ _ => by kernel_rfl⟩
instance n110 : LN Tryz.prog 110 3 := ⟨fun _ _ => by kernel_rfl⟩
instance s3 : SN Tryz.prog 3 1 := ⟨fun _ _ _ => by kernel_rfl⟩
instance s4 : SN Tryz.prog 4 1 := ⟨fun _ _ _ => by kernel_rfl⟩
instance s5 : SN Tryz.prog 5 1 := ⟨fun _ _ _ => by kernel_rfl⟩
instance s9 : SN Tryz.prog 9 1 := ⟨fun _ _ _ => by kernel_rfl⟩
instance s23 : SN Tryz.prog 23 1 := ⟨fun _ _ _ => by kernel_rfl⟩
instance s24 : SN Tryz.prog 24 1 := ⟨fun _ _ _ => by kernel_rfl⟩
instance s25 : SN Tryz.prog 25 1 := ⟨fun _ _ _ => by kernel_rfl⟩
instance s26 : SN Tryz.prog 26 1 := ⟨fun _ _ _ => by kernel_rfl⟩
instance s28 : SN Tryz.prog 28 5 := ⟨fun _ _ _ => by kernel_rfl⟩
instance s42 : SN Tryz.prog 42 1 := ⟨fun _ _ _ => by kernel_rfl⟩
instance s48 : SN Tryz.prog 48 2 := ⟨fun _ _ _ => by kernel_rfl⟩
instance s49 : SN Tryz.prog 49 1 := ⟨fun _ _ _ => by kernel_rfl⟩
instance s50 : SN Tryz.prog 50 1 := ⟨fun _ _ _ => by kernel_rfl⟩
instance s52 : SN Tryz.prog 52 10 := ⟨fun _ _ _ => by kernel_rfl⟩
instance s56 : SN Tryz.prog 56 3 := ⟨fun _ _ _ => by kernel_rfl⟩
instance s58 : SN Tryz.prog 58 7 := ⟨fun _ _ _ => by kernel_rfl⟩
instance s86 : SN Tryz.prog 86 3 := ⟨fun _ _ _ => by kernel_rfl⟩
instance s88 : SN Tryz.prog 88 2 := ⟨fun _ _ _ => by kernel_rfl⟩
instance s94 : SN Tryz.prog 94 1 := ⟨fun _ _ _ => by kernel_rfl⟩
instance s106 : SN Tryz.prog 106 2 := ⟨fun _ _ _ => by kernel_rfl⟩
instance s110 : SN Tryz.prog 110 3 := ⟨fun _ _ _ => by kernel_rfl⟩
instance z3 : SZ Tryz.prog 3 1 := ⟨fun _ => by kernel_rfl⟩
instance z5 : SZ Tryz.prog 5 1 := ⟨fun _ => by kernel_rfl⟩
instance z48 : SZ Tryz.prog 48 2 := ⟨fun _ => by kernel_rfl⟩
instance z52 : SZ Tryz.prog 52 10 := ⟨fun _ => by kernel_rfl⟩
instance z58 : SZ Tryz.prog 58 7 := ⟨fun _ => by kernel_rfl⟩
instance z86 : SZ Tryz.prog 86 3 := ⟨fun _ => by kernel_rfl⟩
instance z88 : SZ Tryz.prog 88 2 := ⟨fun _ => by kernel_rfl⟩
instance f28_0 : FA Tryz.prog 28 0 0 := ⟨fun _ _ _ => by kernel_rfl⟩
instance f28_1 : FA Tryz.prog 28 1 1 := ⟨fun _ _ _ => by kernel_rfl⟩
instance f28_2 : FA Tryz.prog 28 2 2 := ⟨fun _ _ _ => by kernel_rfl⟩
instance f28_3 : FA Tryz.prog 28 3 3 := ⟨fun _ _ _ => by kernel_rfl⟩
instance f28_4 : FA Tryz.prog 28 4 4 := ⟨fun _ _ _ => by kernel_rfl⟩
instance f48_0 : FA Tryz.prog 48 0 0 := ⟨fun _ _ _ => by kernel_rfl⟩
instance f48_1 : FA Tryz.prog 48 1 1 := ⟨fun _ _ _ => by kernel_rfl⟩
instance f52_0 : FA Tryz.prog 52 0 0 := ⟨fun _ _ _ => by kernel_rfl⟩
instance f52_1 : FA Tryz.prog 52 1 1 := ⟨fun _ _ _ => by kernel_rfl⟩
instance f52_2 : FA Tryz.prog 52 2 2 := ⟨fun _ _ _ => by kernel_rfl⟩
instance f52_3 : FA Tryz.prog 52 3 3 := ⟨fun _ _ _ => by kernel_rfl⟩
instance f52_4 : FA Tryz.prog 52 4 4 := ⟨fun _ _ _ => by kernel_rfl⟩
instance f52_5 : FA Tryz.prog 52 5 5 := ⟨fun _ _ _ => by kernel_rfl⟩
instance f52_6 : FA Tryz.prog 52 6 6 := ⟨fun _ _ _ => by kernel_rfl⟩
instance f52_7 : FA Tryz.prog 52 7 7 := ⟨fun _ _ _ => by kernel_rfl⟩
instance f52_8 : FA Tryz.prog 52 8 8 := ⟨fun _ _ _ => by kernel_rfl⟩
instance f52_9 : FA Tryz.prog 52 9 9 := ⟨fun _ _ _ => by kernel_rfl⟩
instance f56_0 : FA Tryz.prog 56 0 0 := ⟨fun _ _ _ => by kernel_rfl⟩
instance f56_1 : FA Tryz.prog 56 1 1 := ⟨fun _ _ _ => by kernel_rfl⟩
instance f56_2 : FA Tryz.prog 56 2 2 := ⟨fun _ _ _ => by kernel_rfl⟩
instance f58_0 : FA Tryz.prog 58 0 0 := ⟨fun _ _ _ => by kernel_rfl⟩
instance f58_1 : FA Tryz.prog 58 1 1 := ⟨fun _ _ _ => by kernel_rfl⟩
instance f58_2 : FA Tryz.prog 58 2 2 := ⟨fun _ _ _ => by kernel_rfl⟩
instance f58_3 : FA Tryz.prog 58 3 3 := ⟨fun _ _ _ => by kernel_rfl⟩
instance f58_4 : FA Tryz.prog 58 4 6 := ⟨fun _ _ _ => by kernel_rfl⟩
instance f62_0 : FA Tryz.prog 62 0 0 := ⟨fun _ _ _ => by kernel_rfl⟩
instance f62_1 : FA Tryz.prog 62 1 1 := ⟨fun _ _ _ => by kernel_rfl⟩
instance f62_2 : FA Tryz.prog 62 2 2 := ⟨fun _ _ _ => by kernel_rfl⟩
instance f64_0 : FA Tryz.prog 64 0 0 := ⟨fun _ _ _ => by kernel_rfl⟩
instance f80_0 : FA Tryz.prog 80 0 0 := ⟨fun _ _ _ => by kernel_rfl⟩
instance f80_1 : FA Tryz.prog 80 1 1 := ⟨fun _ _ _ => by kernel_rfl⟩
instance f80_2 : FA Tryz.prog 80 2 2 := ⟨fun _ _ _ => by kernel_rfl⟩
instance f86_0 : FA Tryz.prog 86 0 0 := ⟨fun _ _ _ => by kernel_rfl⟩
instance f86_1 : FA Tryz.prog 86 1 1 := ⟨fun _ _ _ => by kernel_rfl⟩
instance f86_2 : FA Tryz.prog 86 2 2 := ⟨fun _ _ _ => by kernel_rfl⟩
instance f88_0 : FA Tryz.prog 88 0 0 := ⟨fun _ _ _ => by kernel_rfl⟩
instance f88_1 : FA Tryz.prog 88 1 1 := ⟨fun _ _ _ => by kernel_rfl⟩
instance f96_0 : FA Tryz.prog 96 0 0 := ⟨fun _ _ _ => by kernel_rfl⟩
instance f96_1 : FA Tryz.prog 96 1 1 := ⟨fun _ _ _ => by kernel_rfl⟩
instance f96_2 : FA Tryz.prog 96 2 2 := ⟨fun _ _ _ => by kernel_rfl⟩
instance f102_0 : FA Tryz.prog 102 0 0 := ⟨fun _ _ _ => by kernel_rfl⟩
instance f102_1 : FA Tryz.prog 102 1 1 := ⟨fun _ _ _ => by kernel_rfl⟩
instance a28 : ZV Tryz.prog 28 #[(str []), (.int .u32 0), (.slice none 0 0), (.slice none 0 0), (.slice none 0 0)] := ⟨fun _ => by kernel_rfl⟩
instance a42 : ZV Tryz.prog 42 #[(.pointer none)] := ⟨fun _ => by kernel_rfl⟩
instance a48 : ZV Tryz.prog 48 #[(str []), (.int .u32 0)] := ⟨fun _ => by kernel_rfl⟩
instance a52 : ZV Tryz.prog 52 #[(.int .i64 0), (str []), (str []), (.int .i64 0), (.int .i64 0), (.int .i64 0), (.slice none 0 0), (.slice none 0 0), (.int .i64 0), (.int .i64 0)] := ⟨fun _ => by kernel_rfl⟩
instance a58 : ZV Tryz.prog 58 #[(.int .i64 0), (str []), (.int .i64 0), (.int .i64 0), (.int .i64 0), (str []), (.int .i64 0)] := ⟨fun _ => by kernel_rfl⟩
instance a86 : ZV Tryz.prog 86 #[(str []), (.bool false), (.int .i64 0)] := ⟨fun _ => by kernel_rfl⟩
instance a88 : ZV Tryz.prog 88 #[(.bool false), (.int .i64 0)] := ⟨fun _ => by kernel_rfl⟩
instance a97 : ZV Tryz.prog 97 #[(.int .u8 0), (.int .u8 0), (.int .u8 0), (.int .u8 0)] := ⟨fun _ => by kernel_rfl⟩
instance a106 : ZV Tryz.prog 106 #[(str []), (str [])] := ⟨fun _ => by kernel_rfl⟩
instance a110 : ZV Tryz.prog 110 #[(str []), (str []), (.bool false)] := ⟨fun _ => by kernel_rfl⟩
instance e3 : Elem Tryz.prog 3 1 8 := elem_of (z := (.int .i64 0)) (by rfl) (by kernel_rfl)
instance e5 : Elem Tryz.prog 5 1 1 := elem_of (z := (.int .u8 0)) (by rfl) (by kernel_rfl)
instance e48 : Elem Tryz.prog 48 2 24 := elem_of (z := .agg #[(str []), (.int .u32 0)]) (by rfl) (by kernel_rfl)
instance e52 : Elem Tryz.prog 52 10 128 := elem_of (z := .agg #[(.int .i64 0), (str []), (str []), (.int .i64 0), (.int .i64 0), (.int .i64 0), (.slice none 0 0), (.slice none 0 0), (.int .i64 0), (.int .i64 0)]) (by rfl) (by kernel_rfl)
instance e58 : Elem Tryz.prog 58 7 72 := elem_of (z := .agg #[(.int .i64 0), (str []), (.int .i64 0), (.int .i64 0), (.int .i64 0), (str []), (.int .i64 0)]) (by rfl) (by kernel_rfl)
instance e86 : Elem Tryz.prog 86 3 32 := elem_of (z := .agg #[(str []), (.bool false), (.int .i64 0)]) (by rfl) (by kernel_rfl)
instance e88 : Elem Tryz.prog 88 2 16 := elem_of (z := .agg #[(.bool false), (.int .i64 0)]) (by rfl) (by kernel_rfl)
theorem hlay : laidOutB Tryz.prog = true := by kernel_rfl
instance mk107 : MK Tryz.prog 107 106 := ⟨⟨3, Tryz.underlying107, fun _ => by kernel_rfl⟩, deep_law_laid hlay (m := 5) (by omega) (of_decide_eq_true (by kernel_rfl)) (by kernel_rfl) (by kernel_rfl)⟩
instance mk108 : MK Tryz.prog 108 110 := ⟨⟨3, Tryz.underlying108, fun _ => by kernel_rfl⟩, deep_law_laid hlay (m := 5) (by omega) (of_decide_eq_true (by kernel_rfl)) (by kernel_rfl) (by kernel_rfl)⟩
instance mk123 : MK Tryz.prog 123 125 := ⟨⟨3, Tryz.underlying123, fun _ => by kernel_rfl⟩, deep_law_laid hlay (m := 5) (by omega) (of_decide_eq_true (by kernel_rfl)) (by kernel_rfl) (by kernel_rfl)⟩
instance mk130 : MK Tryz.prog 130 9 := ⟨⟨3, Tryz.underlying130, fun _ => by kernel_rfl⟩, WideMaps.string_law Tryz.underlying9⟩
end Go.Proofs.YtgnkfegkdjfnjaaGreat
