/- The tables' facts of this seat, each closed by the kernel. Written by a program of this session (tab.py). No condition. -/
import Derived.Test.YtgnkfegkdjfnjaaEng11
import Derived.Test.YtgnkfegkdjfnjaaProg
namespace Go.Proofs.Ytgnkfegkdjfnjaa
open Go Go.Eng

instance u3 : UT Try.prog 3 (.int .i64) := ⟨Try.underlying3⟩
instance u4 : UT Try.prog 4 (.bool) := ⟨Try.underlying4⟩
instance u5 : UT Try.prog 5 (.int .u8) := ⟨Try.underlying5⟩
instance u9 : UT Try.prog 9 (.string) := ⟨Try.underlying9⟩
instance u21 : UT Try.prog 21 (.int .i32) := ⟨Try.underlying21⟩
instance u22 : UT Try.prog 22 (.int .u32) := ⟨Try.underlying22⟩
instance u23 : UT Try.prog 23 (.slice 65) := ⟨Try.underlying23⟩
instance u24 : UT Try.prog 24 (.slice 49) := ⟨Try.underlying24⟩
instance u25 : UT Try.prog 25 (.slice 34) := ⟨Try.underlying25⟩
instance u40 : UT Try.prog 40 (.int .i64) := ⟨Try.underlying40⟩
instance u45 : UT Try.prog 45 (.int .u64) := ⟨Try.underlying45⟩
instance u46 : UT Try.prog 46 (.slice 83) := ⟨Try.underlying46⟩
instance u47 : UT Try.prog 47 (.slice 85) := ⟨Try.underlying47⟩
instance u60 : UT Try.prog 60 (.slice 5) := ⟨Try.underlying60⟩
instance u72 : UT Try.prog 72 (.array 256 3) := ⟨Try.underlying72⟩
instance u78 : UT Try.prog 78 (.slice 3) := ⟨Try.underlying78⟩
instance u92 : UT Try.prog 92 (.pointer 123) := ⟨Try.underlying92⟩
instance u105 : UT Try.prog 105 (.pointer 132) := ⟨Try.underlying105⟩
instance u125 : UT Try.prog 125 (.array 4 5) := ⟨Try.underlying125⟩
instance u140 : UT Try.prog 140 (.int .u64) := ⟨Try.underlying140⟩
instance l3 : L1 Try.prog 3 := ⟨fun _ _ => by kernel_rfl⟩
instance l4 : L1 Try.prog 4 := ⟨fun _ _ => by kernel_rfl⟩
instance l5 : L1 Try.prog 5 := ⟨fun _ _ => by kernel_rfl⟩
instance l9 : L1 Try.prog 9 := ⟨fun _ _ => by kernel_rfl⟩
instance l22 : L1 Try.prog 22 := ⟨fun _ _ => by kernel_rfl⟩
instance l23 : L1 Try.prog 23 := ⟨fun _ _ => by kernel_rfl⟩
instance l24 : L1 Try.prog 24 := ⟨fun _ _ => by kernel_rfl⟩
instance l25 : L1 Try.prog 25 := ⟨fun _ _ => by kernel_rfl⟩
instance l46 : L1 Try.prog 46 := ⟨fun _ _ => by kernel_rfl⟩
instance l47 : L1 Try.prog 47 := ⟨fun _ _ => by kernel_rfl⟩
instance l60 : L1 Try.prog 60 := ⟨fun _ _ => by kernel_rfl⟩
instance l78 : L1 Try.prog 78 := ⟨fun _ _ => by kernel_rfl⟩
instance l105 : L1 Try.prog 105 := ⟨fun _ _ => by kernel_rfl⟩
instance n27 : LN Try.prog 27 5 := ⟨fun _ _ => by kernel_rfl⟩
instance n32 : LN Try.prog 32 3 := ⟨fun _ _ => by kernel_rfl⟩
instance n34 : LN Try.prog 34 7 := ⟨fun _ _ => by kernel_rfl⟩
instance n49 : LN Try.prog 49 10 := ⟨fun _ _ => by kernel_rfl⟩
instance n65 : LN Try.prog 65 2 := ⟨fun _ _ => by kernel_rfl⟩
instance n83 : LN Try.prog 83 3 := ⟨fun _ _ => by kernel_rfl⟩
instance n85 : LN Try.prog 85 2 := ⟨fun _ _ => by kernel_rfl⟩
instance n114 : LN Try.prog 114 2 := ⟨fun _ _ => by kernel_rfl⟩
instance n118 : LN Try.prog 118 3 := ⟨fun _ _ => by kernel_rfl⟩
instance s3 : SN Try.prog 3 1 := ⟨fun _ _ _ => by kernel_rfl⟩
instance s4 : SN Try.prog 4 1 := ⟨fun _ _ _ => by kernel_rfl⟩
instance s5 : SN Try.prog 5 1 := ⟨fun _ _ _ => by kernel_rfl⟩
instance s9 : SN Try.prog 9 1 := ⟨fun _ _ _ => by kernel_rfl⟩
instance s22 : SN Try.prog 22 1 := ⟨fun _ _ _ => by kernel_rfl⟩
instance s23 : SN Try.prog 23 1 := ⟨fun _ _ _ => by kernel_rfl⟩
instance s24 : SN Try.prog 24 1 := ⟨fun _ _ _ => by kernel_rfl⟩
instance s25 : SN Try.prog 25 1 := ⟨fun _ _ _ => by kernel_rfl⟩
instance s27 : SN Try.prog 27 5 := ⟨fun _ _ _ => by kernel_rfl⟩
instance s32 : SN Try.prog 32 3 := ⟨fun _ _ _ => by kernel_rfl⟩
instance s34 : SN Try.prog 34 7 := ⟨fun _ _ _ => by kernel_rfl⟩
instance s46 : SN Try.prog 46 1 := ⟨fun _ _ _ => by kernel_rfl⟩
instance s47 : SN Try.prog 47 1 := ⟨fun _ _ _ => by kernel_rfl⟩
instance s49 : SN Try.prog 49 10 := ⟨fun _ _ _ => by kernel_rfl⟩
instance s60 : SN Try.prog 60 1 := ⟨fun _ _ _ => by kernel_rfl⟩
instance s65 : SN Try.prog 65 2 := ⟨fun _ _ _ => by kernel_rfl⟩
instance s78 : SN Try.prog 78 1 := ⟨fun _ _ _ => by kernel_rfl⟩
instance s83 : SN Try.prog 83 3 := ⟨fun _ _ _ => by kernel_rfl⟩
instance s85 : SN Try.prog 85 2 := ⟨fun _ _ _ => by kernel_rfl⟩
instance s105 : SN Try.prog 105 1 := ⟨fun _ _ _ => by kernel_rfl⟩
instance s114 : SN Try.prog 114 2 := ⟨fun _ _ _ => by kernel_rfl⟩
instance s118 : SN Try.prog 118 3 := ⟨fun _ _ _ => by kernel_rfl⟩
instance z3 : SZ Try.prog 3 1 := ⟨fun _ => by kernel_rfl⟩
instance z5 : SZ Try.prog 5 1 := ⟨fun _ => by kernel_rfl⟩
instance z34 : SZ Try.prog 34 7 := ⟨fun _ => by kernel_rfl⟩
instance z49 : SZ Try.prog 49 10 := ⟨fun _ => by kernel_rfl⟩
instance z65 : SZ Try.prog 65 2 := ⟨fun _ => by kernel_rfl⟩
instance z83 : SZ Try.prog 83 3 := ⟨fun _ => by kernel_rfl⟩
instance z85 : SZ Try.prog 85 2 := ⟨fun _ => by kernel_rfl⟩
instance f27_0 : FA Try.prog 27 0 0 := ⟨fun _ _ _ => by kernel_rfl⟩
instance f27_1 : FA Try.prog 27 1 1 := ⟨fun _ _ _ => by kernel_rfl⟩
instance f27_2 : FA Try.prog 27 2 2 := ⟨fun _ _ _ => by kernel_rfl⟩
instance f27_3 : FA Try.prog 27 3 3 := ⟨fun _ _ _ => by kernel_rfl⟩
instance f27_4 : FA Try.prog 27 4 4 := ⟨fun _ _ _ => by kernel_rfl⟩
instance f32_0 : FA Try.prog 32 0 0 := ⟨fun _ _ _ => by kernel_rfl⟩
instance f32_1 : FA Try.prog 32 1 1 := ⟨fun _ _ _ => by kernel_rfl⟩
instance f32_2 : FA Try.prog 32 2 2 := ⟨fun _ _ _ => by kernel_rfl⟩
instance f34_0 : FA Try.prog 34 0 0 := ⟨fun _ _ _ => by kernel_rfl⟩
instance f34_1 : FA Try.prog 34 1 1 := ⟨fun _ _ _ => by kernel_rfl⟩
instance f34_2 : FA Try.prog 34 2 2 := ⟨fun _ _ _ => by kernel_rfl⟩
instance f34_3 : FA Try.prog 34 3 3 := ⟨fun _ _ _ => by kernel_rfl⟩
instance f34_4 : FA Try.prog 34 4 6 := ⟨fun _ _ _ => by kernel_rfl⟩
instance f49_0 : FA Try.prog 49 0 0 := ⟨fun _ _ _ => by kernel_rfl⟩
instance f49_1 : FA Try.prog 49 1 1 := ⟨fun _ _ _ => by kernel_rfl⟩
instance f49_2 : FA Try.prog 49 2 2 := ⟨fun _ _ _ => by kernel_rfl⟩
instance f49_3 : FA Try.prog 49 3 3 := ⟨fun _ _ _ => by kernel_rfl⟩
instance f49_4 : FA Try.prog 49 4 4 := ⟨fun _ _ _ => by kernel_rfl⟩
instance f49_5 : FA Try.prog 49 5 5 := ⟨fun _ _ _ => by kernel_rfl⟩
instance f49_6 : FA Try.prog 49 6 6 := ⟨fun _ _ _ => by kernel_rfl⟩
instance f49_7 : FA Try.prog 49 7 7 := ⟨fun _ _ _ => by kernel_rfl⟩
instance f49_8 : FA Try.prog 49 8 8 := ⟨fun _ _ _ => by kernel_rfl⟩
instance f49_9 : FA Try.prog 49 9 9 := ⟨fun _ _ _ => by kernel_rfl⟩
instance f65_0 : FA Try.prog 65 0 0 := ⟨fun _ _ _ => by kernel_rfl⟩
instance f65_1 : FA Try.prog 65 1 1 := ⟨fun _ _ _ => by kernel_rfl⟩
instance f74_0 : FA Try.prog 74 0 0 := ⟨fun _ _ _ => by kernel_rfl⟩
instance f74_1 : FA Try.prog 74 1 1 := ⟨fun _ _ _ => by kernel_rfl⟩
instance f74_2 : FA Try.prog 74 2 257 := ⟨fun _ _ _ => by kernel_rfl⟩
instance f74_3 : FA Try.prog 74 3 258 := ⟨fun _ _ _ => by kernel_rfl⟩
instance f74_4 : FA Try.prog 74 4 259 := ⟨fun _ _ _ => by kernel_rfl⟩
instance f80_0 : FA Try.prog 80 0 0 := ⟨fun _ _ _ => by kernel_rfl⟩
instance f80_1 : FA Try.prog 80 1 1 := ⟨fun _ _ _ => by kernel_rfl⟩
instance f80_2 : FA Try.prog 80 2 2 := ⟨fun _ _ _ => by kernel_rfl⟩
instance f83_0 : FA Try.prog 83 0 0 := ⟨fun _ _ _ => by kernel_rfl⟩
instance f83_1 : FA Try.prog 83 1 1 := ⟨fun _ _ _ => by kernel_rfl⟩
instance f83_2 : FA Try.prog 83 2 2 := ⟨fun _ _ _ => by kernel_rfl⟩
instance f85_0 : FA Try.prog 85 0 0 := ⟨fun _ _ _ => by kernel_rfl⟩
instance f85_1 : FA Try.prog 85 1 1 := ⟨fun _ _ _ => by kernel_rfl⟩
instance f101_0 : FA Try.prog 101 0 0 := ⟨fun _ _ _ => by kernel_rfl⟩
instance f101_1 : FA Try.prog 101 1 1 := ⟨fun _ _ _ => by kernel_rfl⟩
instance f123_0 : FA Try.prog 123 0 0 := ⟨fun _ _ _ => by kernel_rfl⟩
instance f123_1 : FA Try.prog 123 1 1 := ⟨fun _ _ _ => by kernel_rfl⟩
instance f123_2 : FA Try.prog 123 2 2 := ⟨fun _ _ _ => by kernel_rfl⟩
instance f132_0 : FA Try.prog 132 0 0 := ⟨fun _ _ _ => by kernel_rfl⟩
instance f132_1 : FA Try.prog 132 1 1 := ⟨fun _ _ _ => by kernel_rfl⟩
instance f132_2 : FA Try.prog 132 2 2 := ⟨fun _ _ _ => by kernel_rfl⟩
instance a27 : ZV Try.prog 27 #[(str []), (.int .u32 0), (.slice none 0 0), (.slice none 0 0), (.slice none 0 0)] := ⟨fun _ => by kernel_rfl⟩
instance a34 : ZV Try.prog 34 #[(.int .i64 0), (str []), (.int .i64 0), (.int .i64 0), (.int .i64 0), (str []), (.int .i64 0)] := ⟨fun _ => by kernel_rfl⟩
instance a49 : ZV Try.prog 49 #[(.int .i64 0), (str []), (str []), (.int .i64 0), (.int .i64 0), (.int .i64 0), (.slice none 0 0), (.slice none 0 0), (.int .i64 0), (.int .i64 0)] := ⟨fun _ => by kernel_rfl⟩
instance a65 : ZV Try.prog 65 #[(str []), (.int .u32 0)] := ⟨fun _ => by kernel_rfl⟩
instance a83 : ZV Try.prog 83 #[(str []), (.bool false), (.int .i64 0)] := ⟨fun _ => by kernel_rfl⟩
instance a85 : ZV Try.prog 85 #[(.bool false), (.int .i64 0)] := ⟨fun _ => by kernel_rfl⟩
instance a105 : ZV Try.prog 105 #[(.pointer none)] := ⟨fun _ => by kernel_rfl⟩
instance a114 : ZV Try.prog 114 #[(str []), (str [])] := ⟨fun _ => by kernel_rfl⟩
instance a118 : ZV Try.prog 118 #[(str []), (str []), (.bool false)] := ⟨fun _ => by kernel_rfl⟩
instance a125 : ZV Try.prog 125 #[(.int .u8 0), (.int .u8 0), (.int .u8 0), (.int .u8 0)] := ⟨fun _ => by kernel_rfl⟩
instance e3 : Elem Try.prog 3 1 8 := elem_of (z := (.int .i64 0)) (by rfl) (by kernel_rfl)
instance e5 : Elem Try.prog 5 1 1 := elem_of (z := (.int .u8 0)) (by rfl) (by kernel_rfl)
instance e34 : Elem Try.prog 34 7 72 := elem_of (z := .agg #[(.int .i64 0), (str []), (.int .i64 0), (.int .i64 0), (.int .i64 0), (str []), (.int .i64 0)]) (by rfl) (by kernel_rfl)
instance e49 : Elem Try.prog 49 10 128 := elem_of (z := .agg #[(.int .i64 0), (str []), (str []), (.int .i64 0), (.int .i64 0), (.int .i64 0), (.slice none 0 0), (.slice none 0 0), (.int .i64 0), (.int .i64 0)]) (by rfl) (by kernel_rfl)
instance e65 : Elem Try.prog 65 2 24 := elem_of (z := .agg #[(str []), (.int .u32 0)]) (by rfl) (by kernel_rfl)
instance e83 : Elem Try.prog 83 3 32 := elem_of (z := .agg #[(str []), (.bool false), (.int .i64 0)]) (by rfl) (by kernel_rfl)
instance e85 : Elem Try.prog 85 2 16 := elem_of (z := .agg #[(.bool false), (.int .i64 0)]) (by rfl) (by kernel_rfl)
theorem hlay : laidOutB Try.prog = true := by kernel_rfl
instance mk115 : MK Try.prog 115 114 := ⟨⟨3, Try.underlying115, fun _ => by kernel_rfl⟩, deep_law_laid hlay (m := 5) (by omega) (of_decide_eq_true (by kernel_rfl)) (by kernel_rfl) (by kernel_rfl)⟩
instance mk116 : MK Try.prog 116 118 := ⟨⟨3, Try.underlying116, fun _ => by kernel_rfl⟩, deep_law_laid hlay (m := 5) (by omega) (of_decide_eq_true (by kernel_rfl)) (by kernel_rfl) (by kernel_rfl)⟩
instance mk145 : MK Try.prog 145 147 := ⟨⟨3, Try.underlying145, fun _ => by kernel_rfl⟩, deep_law_laid hlay (m := 5) (by omega) (of_decide_eq_true (by kernel_rfl)) (by kernel_rfl) (by kernel_rfl)⟩
instance mk152 : MK Try.prog 152 9 := ⟨⟨3, Try.underlying152, fun _ => by kernel_rfl⟩, WideMaps.string_law Try.underlying9⟩
end Go.Proofs.Ytgnkfegkdjfnjaa
