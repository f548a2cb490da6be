/- What the rules ask of the types of this seat, and of its functions. -/
import Derived.Test.YtccmdhihlkmjjaaSl9
import Derived.Test.YtccmdhihlkmjjaaProg
namespace Go.SL
open Go.Proofs
instance : Ty Try.prog 1 false 1 8 .nilFunc := ⟨⟨by kernel_rfl, by kernel_rfl⟩⟩
instance : Ty Try.prog 2 false 1 8 (.int .i64 0) := ⟨⟨by kernel_rfl, by kernel_rfl⟩⟩
instance : IntT Try.prog 2 .i64 := ⟨by kernel_rfl⟩
instance : Ty Try.prog 3 false 1 8 (.int .i64 0) := ⟨⟨by kernel_rfl, by kernel_rfl⟩⟩
instance : IntT Try.prog 3 .i64 := ⟨by kernel_rfl⟩
instance : Ty Try.prog 4 false 1 1 (.bool false) := ⟨⟨by kernel_rfl, by kernel_rfl⟩⟩
instance : Ty Try.prog 5 false 1 1 (.int .u8 0) := ⟨⟨by kernel_rfl, by kernel_rfl⟩⟩
instance : IntT Try.prog 5 .u8 := ⟨by kernel_rfl⟩
instance : Ty Try.prog 6 false 1 1 (.int .u8 0) := ⟨⟨by kernel_rfl, by kernel_rfl⟩⟩
instance : IntT Try.prog 6 .u8 := ⟨by kernel_rfl⟩
instance : Ty Try.prog 7 true 4 24 (.agg #[(.int .i64 0), (.int .i64 0), (.bool false), (.int .u8 0)]) := ⟨⟨by kernel_rfl, by kernel_rfl⟩⟩
instance : StT Try.prog 7 #[(0, 1), (1, 1), (2, 1), (3, 1)] := ⟨⟨_, Try.underlying7, fun _ => by kernel_rfl⟩⟩
instance : FldT Try.prog 7 0 0 := ⟨fun _ _ => by kernel_rfl⟩
instance : FldT Try.prog 7 1 1 := ⟨fun _ _ => by kernel_rfl⟩
instance : FldT Try.prog 7 2 2 := ⟨fun _ _ => by kernel_rfl⟩
instance : FldT Try.prog 7 3 3 := ⟨fun _ _ => by kernel_rfl⟩
instance : Ty Try.prog 8 true 4 24 (.agg #[(.int .i64 0), (.int .i64 0), (.bool false), (.int .u8 0)]) := ⟨⟨by kernel_rfl, by kernel_rfl⟩⟩
instance : StT Try.prog 8 #[(0, 1), (1, 1), (2, 1), (3, 1)] := ⟨⟨_, Try.underlying8, fun _ => by kernel_rfl⟩⟩
instance : FldT Try.prog 8 0 0 := ⟨fun _ _ => by kernel_rfl⟩
instance : FldT Try.prog 8 1 1 := ⟨fun _ _ => by kernel_rfl⟩
instance : FldT Try.prog 8 2 2 := ⟨fun _ _ => by kernel_rfl⟩
instance : FldT Try.prog 8 3 3 := ⟨fun _ _ => by kernel_rfl⟩
instance : Ty Try.prog 9 false 1 16 (.string ⟨#[]⟩) := ⟨⟨by kernel_rfl, by kernel_rfl⟩⟩
instance : StrT Try.prog 9 := ⟨by kernel_rfl⟩
instance : Ty Try.prog 10 false 1 16 (.string ⟨#[]⟩) := ⟨⟨by kernel_rfl, by kernel_rfl⟩⟩
instance : StrT Try.prog 10 := ⟨by kernel_rfl⟩
instance : Ty Try.prog 11 false 1 16 (.string ⟨#[]⟩) := ⟨⟨by kernel_rfl, by kernel_rfl⟩⟩
instance : StrT Try.prog 11 := ⟨by kernel_rfl⟩
instance : Ty Try.prog 12 false 1 8 (.int .u64 0) := ⟨⟨by kernel_rfl, by kernel_rfl⟩⟩
instance : IntT Try.prog 12 .u64 := ⟨by kernel_rfl⟩
instance : Ty Try.prog 13 true 2 24 (.agg #[(.string ⟨#[]⟩), (.int .u64 0)]) := ⟨⟨by kernel_rfl, by kernel_rfl⟩⟩
instance : StT Try.prog 13 #[(0, 1), (1, 1)] := ⟨⟨_, Try.underlying13, fun _ => by kernel_rfl⟩⟩
instance : FldT Try.prog 13 0 0 := ⟨fun _ _ => by kernel_rfl⟩
instance : FldT Try.prog 13 1 1 := ⟨fun _ _ => by kernel_rfl⟩
instance : Ty Try.prog 14 true 2 24 (.agg #[(.string ⟨#[]⟩), (.int .u64 0)]) := ⟨⟨by kernel_rfl, by kernel_rfl⟩⟩
instance : StT Try.prog 14 #[(0, 1), (1, 1)] := ⟨⟨_, Try.underlying14, fun _ => by kernel_rfl⟩⟩
instance : FldT Try.prog 14 0 0 := ⟨fun _ _ => by kernel_rfl⟩
instance : FldT Try.prog 14 1 1 := ⟨fun _ _ => by kernel_rfl⟩
instance : Ty Try.prog 15 false 1 8 (.pointer none) := ⟨⟨by kernel_rfl, by kernel_rfl⟩⟩
instance : Ty Try.prog 16 false 1 8 (.pointer none) := ⟨⟨by kernel_rfl, by kernel_rfl⟩⟩
instance : Ty Try.prog 17 false 1 8 (.pointer none) := ⟨⟨by kernel_rfl, by kernel_rfl⟩⟩
instance : Ty Try.prog 18 true 1 8 (.agg #[(.pointer none)]) := ⟨⟨by kernel_rfl, by kernel_rfl⟩⟩
instance : StT Try.prog 18 #[(0, 1)] := ⟨⟨_, Try.underlying18, fun _ => by kernel_rfl⟩⟩
instance : FldT Try.prog 18 0 0 := ⟨fun _ _ => by kernel_rfl⟩
instance : Ty Try.prog 19 true 1 8 (.agg #[(.pointer none)]) := ⟨⟨by kernel_rfl, by kernel_rfl⟩⟩
instance : StT Try.prog 19 #[(0, 1)] := ⟨⟨_, Try.underlying19, fun _ => by kernel_rfl⟩⟩
instance : FldT Try.prog 19 0 0 := ⟨fun _ _ => by kernel_rfl⟩
instance : Ty Try.prog 20 false 1 16 .nilIface := ⟨⟨by kernel_rfl, by kernel_rfl⟩⟩
instance : Ty Try.prog 21 false 1 4 (.int .i32 0) := ⟨⟨by kernel_rfl, by kernel_rfl⟩⟩
instance : IntT Try.prog 21 .i32 := ⟨by kernel_rfl⟩
instance : Ty Try.prog 22 false 1 24 (.slice none 0 0) := ⟨⟨by kernel_rfl, by kernel_rfl⟩⟩
instance : SlT Try.prog 22 46 := ⟨by kernel_rfl⟩
instance : Ty Try.prog 23 false 1 8 .nilFunc := ⟨⟨by kernel_rfl, by kernel_rfl⟩⟩
instance : Ty Try.prog 24 false 1 24 (.slice none 0 0) := ⟨⟨by kernel_rfl, by kernel_rfl⟩⟩
instance : SlT Try.prog 24 44 := ⟨by kernel_rfl⟩
instance : Ty Try.prog 25 false 1 8 .nilFunc := ⟨⟨by kernel_rfl, by kernel_rfl⟩⟩
instance : Ty Try.prog 26 false 1 8 .nilFunc := ⟨⟨by kernel_rfl, by kernel_rfl⟩⟩
instance : Ty Try.prog 27 false 1 8 .nilFunc := ⟨⟨by kernel_rfl, by kernel_rfl⟩⟩
instance : Ty Try.prog 28 false 1 8 .nilFunc := ⟨⟨by kernel_rfl, by kernel_rfl⟩⟩
instance : Ty Try.prog 29 false 1 8 .nilFunc := ⟨⟨by kernel_rfl, by kernel_rfl⟩⟩
instance : Ty Try.prog 30 false 1 24 (.slice none 0 0) := ⟨⟨by kernel_rfl, by kernel_rfl⟩⟩
instance : SlT Try.prog 30 5 := ⟨by kernel_rfl⟩
instance : Ty Try.prog 32 false 1 8 .nilFunc := ⟨⟨by kernel_rfl, by kernel_rfl⟩⟩
instance : Ty Try.prog 33 false 1 8 .nilFunc := ⟨⟨by kernel_rfl, by kernel_rfl⟩⟩
instance : Ty Try.prog 34 false 1 8 .nilFunc := ⟨⟨by kernel_rfl, by kernel_rfl⟩⟩
instance : Ty Try.prog 36 false 1 8 .nilFunc := ⟨⟨by kernel_rfl, by kernel_rfl⟩⟩
instance : Ty Try.prog 37 false 1 8 .nilFunc := ⟨⟨by kernel_rfl, by kernel_rfl⟩⟩
instance : Ty Try.prog 38 false 1 8 .nilFunc := ⟨⟨by kernel_rfl, by kernel_rfl⟩⟩
instance : Ty Try.prog 39 false 1 8 .nilFunc := ⟨⟨by kernel_rfl, by kernel_rfl⟩⟩
instance : Ty Try.prog 40 false 1 24 (.slice none 0 0) := ⟨⟨by kernel_rfl, by kernel_rfl⟩⟩
instance : SlT Try.prog 40 66 := ⟨by kernel_rfl⟩
instance : Ty Try.prog 41 false 1 8 .nilFunc := ⟨⟨by kernel_rfl, by kernel_rfl⟩⟩
instance : Ty Try.prog 42 false 1 8 .nilFunc := ⟨⟨by kernel_rfl, by kernel_rfl⟩⟩
instance : Ty Try.prog 43 true 4 32 (.agg #[(.int .i64 0), (.int .i64 0), (.int .i64 0), (.int .i64 0)]) := ⟨⟨by kernel_rfl, by kernel_rfl⟩⟩
instance : EqTI Try.prog 43 4 := ⟨by kernel_rfl, by kernel_rfl, by kernel_rfl, by kernel_rfl, by kernel_rfl⟩
instance : StT Try.prog 43 #[(0, 1), (1, 1), (2, 1), (3, 1)] := ⟨⟨_, Try.underlying43, fun _ => by kernel_rfl⟩⟩
instance : FldT Try.prog 43 0 0 := ⟨fun _ _ => by kernel_rfl⟩
instance : FldT Try.prog 43 1 1 := ⟨fun _ _ => by kernel_rfl⟩
instance : FldT Try.prog 43 2 2 := ⟨fun _ _ => by kernel_rfl⟩
instance : FldT Try.prog 43 3 3 := ⟨fun _ _ => by kernel_rfl⟩
instance : Ty Try.prog 44 true 4 32 (.agg #[(.int .i64 0), (.int .i64 0), (.int .i64 0), (.int .i64 0)]) := ⟨⟨by kernel_rfl, by kernel_rfl⟩⟩
instance : EqTI Try.prog 44 4 := ⟨by kernel_rfl, by kernel_rfl, by kernel_rfl, by kernel_rfl, by kernel_rfl⟩
instance : StT Try.prog 44 #[(0, 1), (1, 1), (2, 1), (3, 1)] := ⟨⟨_, Try.underlying44, fun _ => by kernel_rfl⟩⟩
instance : FldT Try.prog 44 0 0 := ⟨fun _ _ => by kernel_rfl⟩
instance : FldT Try.prog 44 1 1 := ⟨fun _ _ => by kernel_rfl⟩
instance : FldT Try.prog 44 2 2 := ⟨fun _ _ => by kernel_rfl⟩
instance : FldT Try.prog 44 3 3 := ⟨fun _ _ => by kernel_rfl⟩
instance : Ty Try.prog 45 false 1 8 .nilFunc := ⟨⟨by kernel_rfl, by kernel_rfl⟩⟩
instance : Ty Try.prog 46 true 4 32 (.agg #[(.int .i64 0), (.int .i64 0), (.int .i64 0), (.int .i64 0)]) := ⟨⟨by kernel_rfl, by kernel_rfl⟩⟩
instance : EqTI Try.prog 46 4 := ⟨by kernel_rfl, by kernel_rfl, by kernel_rfl, by kernel_rfl, by kernel_rfl⟩
instance : StT Try.prog 46 #[(0, 1), (1, 1), (2, 1), (3, 1)] := ⟨⟨_, Try.underlying46, fun _ => by kernel_rfl⟩⟩
instance : FldT Try.prog 46 0 0 := ⟨fun _ _ => by kernel_rfl⟩
instance : FldT Try.prog 46 1 1 := ⟨fun _ _ => by kernel_rfl⟩
instance : FldT Try.prog 46 2 2 := ⟨fun _ _ => by kernel_rfl⟩
instance : FldT Try.prog 46 3 3 := ⟨fun _ _ => by kernel_rfl⟩
instance : Ty Try.prog 47 false 1 24 (.slice none 0 0) := ⟨⟨by kernel_rfl, by kernel_rfl⟩⟩
instance : SlT Try.prog 47 69 := ⟨by kernel_rfl⟩
instance : Ty Try.prog 48 false 1 24 (.slice none 0 0) := ⟨⟨by kernel_rfl, by kernel_rfl⟩⟩
instance : SlT Try.prog 48 69 := ⟨by kernel_rfl⟩
instance : Ty Try.prog 49 false 1 8 .nilFunc := ⟨⟨by kernel_rfl, by kernel_rfl⟩⟩
instance : Ty Try.prog 50 false 1 8 .nilFunc := ⟨⟨by kernel_rfl, by kernel_rfl⟩⟩
instance : Ty Try.prog 51 true 2 16 (.agg #[(.int .i64 0), (.int .i64 0)]) := ⟨⟨by kernel_rfl, by kernel_rfl⟩⟩
instance : EqT2 Try.prog 51 := EqT2.mk' (by kernel_rfl) Try.underlying51 (by kernel_rfl) rfl rfl rfl (by kernel_rfl) (by kernel_rfl) (fun _ _ _ => by kernel_rfl) (fun _ _ _ => by kernel_rfl)
instance : StT Try.prog 51 #[(0, 1), (1, 1)] := ⟨⟨_, Try.underlying51, fun _ => by kernel_rfl⟩⟩
instance : FldT Try.prog 51 0 0 := ⟨fun _ _ => by kernel_rfl⟩
instance : FldT Try.prog 51 1 1 := ⟨fun _ _ => by kernel_rfl⟩
instance : Ty Try.prog 52 true 2 16 (.agg #[(.int .i64 0), (.int .i64 0)]) := ⟨⟨by kernel_rfl, by kernel_rfl⟩⟩
instance : EqT2 Try.prog 52 := EqT2.mk' (by kernel_rfl) Try.underlying52 (by kernel_rfl) rfl rfl rfl (by kernel_rfl) (by kernel_rfl) (fun _ _ _ => by kernel_rfl) (fun _ _ _ => by kernel_rfl)
instance : StT Try.prog 52 #[(0, 1), (1, 1)] := ⟨⟨_, Try.underlying52, fun _ => by kernel_rfl⟩⟩
instance : FldT Try.prog 52 0 0 := ⟨fun _ _ => by kernel_rfl⟩
instance : FldT Try.prog 52 1 1 := ⟨fun _ _ => by kernel_rfl⟩
instance : Ty Try.prog 53 false 1 8 .nilFunc := ⟨⟨by kernel_rfl, by kernel_rfl⟩⟩
instance : Ty Try.prog 54 false 1 8 .nilFunc := ⟨⟨by kernel_rfl, by kernel_rfl⟩⟩
instance : Ty Try.prog 55 false 1 8 .nilFunc := ⟨⟨by kernel_rfl, by kernel_rfl⟩⟩
instance : Ty Try.prog 56 false 1 8 .nilFunc := ⟨⟨by kernel_rfl, by kernel_rfl⟩⟩
instance : Ty Try.prog 57 false 1 8 .nilFunc := ⟨⟨by kernel_rfl, by kernel_rfl⟩⟩
instance : Ty Try.prog 58 false 1 8 (.pointer none) := ⟨⟨by kernel_rfl, by kernel_rfl⟩⟩
instance : Ty Try.prog 59 false 1 8 .nilFunc := ⟨⟨by kernel_rfl, by kernel_rfl⟩⟩
instance : Ty Try.prog 60 false 1 8 .nilFunc := ⟨⟨by kernel_rfl, by kernel_rfl⟩⟩
instance : Ty Try.prog 61 false 1 8 .nilFunc := ⟨⟨by kernel_rfl, by kernel_rfl⟩⟩
instance : Ty Try.prog 62 false 1 24 (.slice none 0 0) := ⟨⟨by kernel_rfl, by kernel_rfl⟩⟩
instance : SlT Try.prog 62 3 := ⟨by kernel_rfl⟩
instance : Ty Try.prog 63 false 1 8 .nilFunc := ⟨⟨by kernel_rfl, by kernel_rfl⟩⟩
instance : Ty Try.prog 64 false 1 8 .nilFunc := ⟨⟨by kernel_rfl, by kernel_rfl⟩⟩
instance : Ty Try.prog 65 true 2 16 (.agg #[(.int .i64 0), (.int .i64 0)]) := ⟨⟨by kernel_rfl, by kernel_rfl⟩⟩
instance : EqT2 Try.prog 65 := EqT2.mk' (by kernel_rfl) Try.underlying65 (by kernel_rfl) rfl rfl rfl (by kernel_rfl) (by kernel_rfl) (fun _ _ _ => by kernel_rfl) (fun _ _ _ => by kernel_rfl)
instance : StT Try.prog 65 #[(0, 1), (1, 1)] := ⟨⟨_, Try.underlying65, fun _ => by kernel_rfl⟩⟩
instance : FldT Try.prog 65 0 0 := ⟨fun _ _ => by kernel_rfl⟩
instance : FldT Try.prog 65 1 1 := ⟨fun _ _ => by kernel_rfl⟩
instance : Ty Try.prog 66 true 2 16 (.agg #[(.int .i64 0), (.int .i64 0)]) := ⟨⟨by kernel_rfl, by kernel_rfl⟩⟩
instance : EqT2 Try.prog 66 := EqT2.mk' (by kernel_rfl) Try.underlying66 (by kernel_rfl) rfl rfl rfl (by kernel_rfl) (by kernel_rfl) (fun _ _ _ => by kernel_rfl) (fun _ _ _ => by kernel_rfl)
instance : StT Try.prog 66 #[(0, 1), (1, 1)] := ⟨⟨_, Try.underlying66, fun _ => by kernel_rfl⟩⟩
instance : FldT Try.prog 66 0 0 := ⟨fun _ _ => by kernel_rfl⟩
instance : FldT Try.prog 66 1 1 := ⟨fun _ _ => by kernel_rfl⟩
instance : Ty Try.prog 67 false 1 8 (.pointer none) := ⟨⟨by kernel_rfl, by kernel_rfl⟩⟩
instance : Ty Try.prog 68 true 3 24 (.agg #[(.int .i64 0), (.int .i64 0), (.int .i64 0)]) := ⟨⟨by kernel_rfl, by kernel_rfl⟩⟩
instance : StT Try.prog 68 #[(0, 2), (2, 1)] := ⟨⟨_, Try.underlying68, fun _ => by kernel_rfl⟩⟩
instance : FldT Try.prog 68 0 0 := ⟨fun _ _ => by kernel_rfl⟩
instance : FldT Try.prog 68 1 2 := ⟨fun _ _ => by kernel_rfl⟩
instance : Ty Try.prog 69 true 3 24 (.agg #[(.int .i64 0), (.int .i64 0), (.int .i64 0)]) := ⟨⟨by kernel_rfl, by kernel_rfl⟩⟩
instance : StT Try.prog 69 #[(0, 2), (2, 1)] := ⟨⟨_, Try.underlying69, fun _ => by kernel_rfl⟩⟩
instance : FldT Try.prog 69 0 0 := ⟨fun _ _ => by kernel_rfl⟩
instance : FldT Try.prog 69 1 2 := ⟨fun _ _ => by kernel_rfl⟩
instance : Ty Try.prog 70 false 1 8 .nilFunc := ⟨⟨by kernel_rfl, by kernel_rfl⟩⟩
instance : Ty Try.prog 71 false 1 8 .nilFunc := ⟨⟨by kernel_rfl, by kernel_rfl⟩⟩
instance : Ty Try.prog 72 false 1 8 .nilFunc := ⟨⟨by kernel_rfl, by kernel_rfl⟩⟩
instance : Ty Try.prog 73 false 1 8 .nilFunc := ⟨⟨by kernel_rfl, by kernel_rfl⟩⟩
instance : Ty Try.prog 74 true 2 32 (.agg #[(.slice none 0 0), (.int .i64 0)]) := ⟨⟨by kernel_rfl, by kernel_rfl⟩⟩
instance : StT Try.prog 74 #[(0, 1), (1, 1)] := ⟨⟨_, Try.underlying74, fun _ => by kernel_rfl⟩⟩
instance : FldT Try.prog 74 0 0 := ⟨fun _ _ => by kernel_rfl⟩
instance : FldT Try.prog 74 1 1 := ⟨fun _ _ => by kernel_rfl⟩
instance : Ty Try.prog 75 true 2 32 (.agg #[(.slice none 0 0), (.int .i64 0)]) := ⟨⟨by kernel_rfl, by kernel_rfl⟩⟩
instance : StT Try.prog 75 #[(0, 1), (1, 1)] := ⟨⟨_, Try.underlying75, fun _ => by kernel_rfl⟩⟩
instance : FldT Try.prog 75 0 0 := ⟨fun _ _ => by kernel_rfl⟩
instance : FldT Try.prog 75 1 1 := ⟨fun _ _ => by kernel_rfl⟩
instance : Ty Try.prog 76 false 1 8 .nilFunc := ⟨⟨by kernel_rfl, by kernel_rfl⟩⟩
instance : Ty Try.prog 77 false 1 8 .nilFunc := ⟨⟨by kernel_rfl, by kernel_rfl⟩⟩
instance : Ty Try.prog 78 false 1 8 .nilFunc := ⟨⟨by kernel_rfl, by kernel_rfl⟩⟩
instance : Ty Try.prog 79 false 1 8 .nilFunc := ⟨⟨by kernel_rfl, by kernel_rfl⟩⟩
instance : Ty Try.prog 80 false 1 8 .nilFunc := ⟨⟨by kernel_rfl, by kernel_rfl⟩⟩
instance : Ty Try.prog 81 true 4 40 (.agg #[(.pointer none), (.pointer none), (.pointer none), (.string ⟨#[]⟩)]) := ⟨⟨by kernel_rfl, by kernel_rfl⟩⟩
instance : StT Try.prog 81 #[(0, 1), (1, 1), (2, 1), (3, 1)] := ⟨⟨_, Try.underlying81, fun _ => by kernel_rfl⟩⟩
instance : FldT Try.prog 81 0 0 := ⟨fun _ _ => by kernel_rfl⟩
instance : FldT Try.prog 81 1 1 := ⟨fun _ _ => by kernel_rfl⟩
instance : FldT Try.prog 81 2 2 := ⟨fun _ _ => by kernel_rfl⟩
instance : FldT Try.prog 81 3 3 := ⟨fun _ _ => by kernel_rfl⟩
instance : Ty Try.prog 82 true 4 40 (.agg #[(.pointer none), (.pointer none), (.pointer none), (.string ⟨#[]⟩)]) := ⟨⟨by kernel_rfl, by kernel_rfl⟩⟩
instance : StT Try.prog 82 #[(0, 1), (1, 1), (2, 1), (3, 1)] := ⟨⟨_, Try.underlying82, fun _ => by kernel_rfl⟩⟩
instance : FldT Try.prog 82 0 0 := ⟨fun _ _ => by kernel_rfl⟩
instance : FldT Try.prog 82 1 1 := ⟨fun _ _ => by kernel_rfl⟩
instance : FldT Try.prog 82 2 2 := ⟨fun _ _ => by kernel_rfl⟩
instance : FldT Try.prog 82 3 3 := ⟨fun _ _ => by kernel_rfl⟩
instance : StT Try.prog 84 #[(0, 0)] := ⟨⟨_, Try.underlying84, fun _ => by kernel_rfl⟩⟩
instance : StT Try.prog 85 #[(0, 0)] := ⟨⟨_, Try.underlying85, fun _ => by kernel_rfl⟩⟩
instance : Ty Try.prog 86 false 1 8 .nilFunc := ⟨⟨by kernel_rfl, by kernel_rfl⟩⟩
instance : Ty Try.prog 87 false 1 4 (.int .u32 0) := ⟨⟨by kernel_rfl, by kernel_rfl⟩⟩
instance : IntT Try.prog 87 .u32 := ⟨by kernel_rfl⟩
instance : Ty Try.prog 88 false 1 1 (.int .u8 0) := ⟨⟨by kernel_rfl, by kernel_rfl⟩⟩
instance : IntT Try.prog 88 .u8 := ⟨by kernel_rfl⟩
instance : Ty Try.prog 89 false 1 1 (.int .u8 0) := ⟨⟨by kernel_rfl, by kernel_rfl⟩⟩
instance : IntT Try.prog 89 .u8 := ⟨by kernel_rfl⟩
instance : Ty Try.prog 90 false 1 8 .nilFunc := ⟨⟨by kernel_rfl, by kernel_rfl⟩⟩
instance : Ty Try.prog 91 false 1 8 (.pointer none) := ⟨⟨by kernel_rfl, by kernel_rfl⟩⟩
instance : Ty Try.prog 92 false 1 4 (.int .i32 0) := ⟨⟨by kernel_rfl, by kernel_rfl⟩⟩
instance : IntT Try.prog 92 .i32 := ⟨by kernel_rfl⟩
instance : Ty Try.prog 93 false 1 4 (.int .i32 0) := ⟨⟨by kernel_rfl, by kernel_rfl⟩⟩
instance : IntT Try.prog 93 .i32 := ⟨by kernel_rfl⟩
instance : Ty Try.prog 94 true 11 48 (.agg #[(.int .u64 0), (.int .u64 0), (.int .u32 0), (.int .u8 0), (.int .u8 0), (.int .u8 0), (.int .u8 0), .nilFunc, (.pointer none), (.int .i32 0), (.int .i32 0)]) := ⟨⟨by kernel_rfl, by kernel_rfl⟩⟩
instance : StT Try.prog 94 #[(0, 1), (1, 1), (2, 1), (3, 1), (4, 1), (5, 1), (6, 1), (7, 1), (8, 1), (9, 1), (10, 1)] := ⟨⟨_, Try.underlying94, fun _ => by kernel_rfl⟩⟩
instance : FldT Try.prog 94 0 0 := ⟨fun _ _ => by kernel_rfl⟩
instance : FldT Try.prog 94 1 1 := ⟨fun _ _ => by kernel_rfl⟩
instance : FldT Try.prog 94 2 2 := ⟨fun _ _ => by kernel_rfl⟩
instance : FldT Try.prog 94 3 3 := ⟨fun _ _ => by kernel_rfl⟩
instance : FldT Try.prog 94 4 4 := ⟨fun _ _ => by kernel_rfl⟩
instance : FldT Try.prog 94 5 5 := ⟨fun _ _ => by kernel_rfl⟩
instance : FldT Try.prog 94 6 6 := ⟨fun _ _ => by kernel_rfl⟩
instance : FldT Try.prog 94 7 7 := ⟨fun _ _ => by kernel_rfl⟩
instance : FldT Try.prog 94 8 8 := ⟨fun _ _ => by kernel_rfl⟩
instance : FldT Try.prog 94 9 9 := ⟨fun _ _ => by kernel_rfl⟩
instance : FldT Try.prog 94 10 10 := ⟨fun _ _ => by kernel_rfl⟩
instance : Ty Try.prog 95 true 11 48 (.agg #[(.int .u64 0), (.int .u64 0), (.int .u32 0), (.int .u8 0), (.int .u8 0), (.int .u8 0), (.int .u8 0), .nilFunc, (.pointer none), (.int .i32 0), (.int .i32 0)]) := ⟨⟨by kernel_rfl, by kernel_rfl⟩⟩
instance : StT Try.prog 95 #[(0, 1), (1, 1), (2, 1), (3, 1), (4, 1), (5, 1), (6, 1), (7, 1), (8, 1), (9, 1), (10, 1)] := ⟨⟨_, Try.underlying95, fun _ => by kernel_rfl⟩⟩
instance : FldT Try.prog 95 0 0 := ⟨fun _ _ => by kernel_rfl⟩
instance : FldT Try.prog 95 1 1 := ⟨fun _ _ => by kernel_rfl⟩
instance : FldT Try.prog 95 2 2 := ⟨fun _ _ => by kernel_rfl⟩
instance : FldT Try.prog 95 3 3 := ⟨fun _ _ => by kernel_rfl⟩
instance : FldT Try.prog 95 4 4 := ⟨fun _ _ => by kernel_rfl⟩
instance : FldT Try.prog 95 5 5 := ⟨fun _ _ => by kernel_rfl⟩
instance : FldT Try.prog 95 6 6 := ⟨fun _ _ => by kernel_rfl⟩
instance : FldT Try.prog 95 7 7 := ⟨fun _ _ => by kernel_rfl⟩
instance : FldT Try.prog 95 8 8 := ⟨fun _ _ => by kernel_rfl⟩
instance : FldT Try.prog 95 9 9 := ⟨fun _ _ => by kernel_rfl⟩
instance : FldT Try.prog 95 10 10 := ⟨fun _ _ => by kernel_rfl⟩
instance : Ty Try.prog 96 false 1 8 (.pointer none) := ⟨⟨by kernel_rfl, by kernel_rfl⟩⟩
instance : Wide Try.prog := ⟨by kernel_rfl⟩
instance : FnB Try.prog 3 := FnB.mk' Try.func3 (by kernel_rfl)
instance : FnB Try.prog 4 := FnB.mk' Try.func4 (by kernel_rfl)
instance : FnB Try.prog 5 := FnB.mk' Try.func5 (by kernel_rfl)
instance : FnB Try.prog 6 := FnB.mk' Try.func6 (by kernel_rfl)
instance : FnB Try.prog 7 := FnB.mk' Try.func7 (by kernel_rfl)
instance : FnB Try.prog 8 := FnB.mk' Try.func8 (by kernel_rfl)
instance : FnB Try.prog 9 := FnB.mk' Try.func9 (by kernel_rfl)
instance : FnB Try.prog 10 := FnB.mk' Try.func10 (by kernel_rfl)
instance : FnB Try.prog 11 := FnB.mk' Try.func11 (by kernel_rfl)
instance : FnB Try.prog 12 := FnB.mk' Try.func12 (by kernel_rfl)
instance : FnB Try.prog 13 := FnB.mk' Try.func13 (by kernel_rfl)
instance : FnB Try.prog 14 := FnB.mk' Try.func14 (by kernel_rfl)
instance : FnB Try.prog 15 := FnB.mk' Try.func15 (by kernel_rfl)
instance : FnB Try.prog 16 := FnB.mk' Try.func16 (by kernel_rfl)
instance : FnB Try.prog 17 := FnB.mk' Try.func17 (by kernel_rfl)
instance : FnB Try.prog 18 := FnB.mk' Try.func18 (by kernel_rfl)
instance : FnB Try.prog 19 := FnB.mk' Try.func19 (by kernel_rfl)
instance : FnB Try.prog 20 := FnB.mk' Try.func20 (by kernel_rfl)
instance : FnB Try.prog 21 := FnB.mk' Try.func21 (by kernel_rfl)
instance : FnB Try.prog 22 := FnB.mk' Try.func22 (by kernel_rfl)
instance : FnB Try.prog 23 := FnB.mk' Try.func23 (by kernel_rfl)
instance : FnB Try.prog 24 := FnB.mk' Try.func24 (by kernel_rfl)
instance : FnB Try.prog 25 := FnB.mk' Try.func25 (by kernel_rfl)
instance : FnB Try.prog 26 := FnB.mk' Try.func26 (by kernel_rfl)
instance : FnB Try.prog 27 := FnB.mk' Try.func27 (by kernel_rfl)
instance : FnB Try.prog 28 := FnB.mk' Try.func28 (by kernel_rfl)
instance : FnB Try.prog 29 := FnB.mk' Try.func29 (by kernel_rfl)
instance : FnB Try.prog 30 := FnB.mk' Try.func30 (by kernel_rfl)
instance : FnB Try.prog 31 := FnB.mk' Try.func31 (by kernel_rfl)
instance : FnB Try.prog 32 := FnB.mk' Try.func32 (by kernel_rfl)
instance : FnB Try.prog 33 := FnB.mk' Try.func33 (by kernel_rfl)
instance : FnB Try.prog 34 := FnB.mk' Try.func34 (by kernel_rfl)
instance : FnB Try.prog 35 := FnB.mk' Try.func35 (by kernel_rfl)
instance : FnB Try.prog 36 := FnB.mk' Try.func36 (by kernel_rfl)
instance : FnB Try.prog 37 := FnB.mk' Try.func37 (by kernel_rfl)
instance : FnB Try.prog 38 := FnB.mk' Try.func38 (by kernel_rfl)
instance : FnB Try.prog 39 := FnB.mk' Try.func39 (by kernel_rfl)
instance : FnB Try.prog 40 := FnB.mk' Try.func40 (by kernel_rfl)
instance : FnB Try.prog 41 := FnB.mk' Try.func41 (by kernel_rfl)
instance : FnB Try.prog 42 := FnB.mk' Try.func42 (by kernel_rfl)
instance : FnB Try.prog 43 := FnB.mk' Try.func43 (by kernel_rfl)
instance : FnB Try.prog 44 := FnB.mk' Try.func44 (by kernel_rfl)
end Go.SL
