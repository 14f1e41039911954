/- Lemmas for the walks (Ty, Fst, Tx2, T6, T7, M). No condition. -/
import Derived.Test.YtjdckepbihcgfaaGreatDoorProg
import Derived.Test.YtjdckepbihcgfaaGreatDoorG03
import Derived.Deep.AppendSrc
set_option linter.unusedSimpArgs false
set_option linter.unusedVariables false
set_option linter.unusedSectionVars false
set_option linter.unnecessarySimpa false
set_option maxRecDepth 100000
set_option maxHeartbeats 8000000
namespace Go.Proofs.YtjdckepbihcgfaaGreatDoor
section
open Go.RowKit
instance : OneCell Tryz.prog 3:=⟨Tryz.isAgg3,Tryz.sizeOf3⟩
instance : IntOf Tryz.prog 3 .i64:=⟨Tryz.underlying3⟩
instance : ZeroOf Tryz.prog 3 (Value.int IntKind.i64 0):=⟨Tryz.zeroValue3⟩
instance : InfoOf Tryz.prog 3 (Value.int IntKind.i64 0) 1 8:=⟨by kernel_rfl,by rfl,by decide⟩
instance : OneCell Tryz.prog 4:=⟨Tryz.isAgg4,Tryz.sizeOf4⟩
instance : ZeroOf Tryz.prog 4 (Value.bool Bool.false):=⟨Tryz.zeroValue4⟩
instance : IntOf Tryz.prog 5 .u8:=⟨Tryz.underlying5⟩
instance : ZeroOf Tryz.prog 5 (Value.int IntKind.u8 0):=⟨Tryz.zeroValue5⟩
instance : InfoOf Tryz.prog 5 (Value.int IntKind.u8 0) 1 1:=⟨by kernel_rfl,by rfl,by decide⟩
instance : OneCell Tryz.prog 9:=⟨Tryz.isAgg9,Tryz.sizeOf9⟩
instance : ZeroOf Tryz.prog 9 (Value.string { data:=#[] }):=⟨Tryz.zeroValue9⟩
instance : OneCell Tryz.prog 20:=⟨Tryz.isAgg20,Tryz.sizeOf20⟩
instance : ZeroOf Tryz.prog 20 (Value.nilIface):=⟨Tryz.zeroValue20⟩
instance : InfoOf Tryz.prog 20 (Value.nilIface) 1 16:=⟨by kernel_rfl,by rfl,by decide⟩
instance : OneCell Tryz.prog 24:=⟨Tryz.isAgg24,Tryz.sizeOf24⟩
instance : SliceOf Tryz.prog 24 3 1:=⟨Tryz.underlying24,Tryz.sizeOf3⟩
instance : ZeroOf Tryz.prog 24 (Value.slice Option.none 0 0):=⟨Tryz.zeroValue24⟩
instance : InfoOf Tryz.prog 24 (Value.slice Option.none 0 0) 1 24:=⟨by kernel_rfl,by rfl,by decide⟩
instance : SliceOf Tryz.prog 25 95 4:=⟨Tryz.underlying25,Tryz.sizeOf95⟩
instance : OneCell Tryz.prog 26:=⟨Tryz.isAgg26,Tryz.sizeOf26⟩
instance : SliceOf Tryz.prog 26 49 2:=⟨Tryz.underlying26,Tryz.sizeOf49⟩
instance : OneCell Tryz.prog 30:=⟨Tryz.isAgg30,Tryz.sizeOf30⟩
instance : SliceOf Tryz.prog 30 36 7:=⟨Tryz.underlying30,Tryz.sizeOf36⟩
instance : AggOf Tryz.prog 36 7:=⟨Tryz.isAgg36,Tryz.sizeOf36⟩
instance : FieldAt Tryz.prog 36 0 0:=zaq 0 3 Tryz.underlying36 rfl Tryz.sizeOf3 (by decide)
instance : FieldAt Tryz.prog 36 1 1:=zaq 1 3 Tryz.underlying36 rfl Tryz.sizeOf3 (by decide)
instance : FieldAt Tryz.prog 36 2 2:=zaq 2 3 Tryz.underlying36 rfl Tryz.sizeOf3 (by decide)
instance : FieldAt Tryz.prog 36 3 3:=zaq 3 3 Tryz.underlying36 rfl Tryz.sizeOf3 (by decide)
instance : FieldAt Tryz.prog 36 4 4:=zaq 4 3 Tryz.underlying36 rfl Tryz.sizeOf3 (by decide)
instance : FieldAt Tryz.prog 36 5 5:=zaq 5 3 Tryz.underlying36 rfl Tryz.sizeOf3 (by decide)
instance : FieldAt Tryz.prog 36 6 6:=zaq 6 3 Tryz.underlying36 rfl Tryz.sizeOf3 (by decide)
instance : ZeroOf Tryz.prog 36 (Value.agg #[Value.int IntKind.i64 0,Value.int IntKind.i64 0,Value.int IntKind.i64 0,Value.int IntKind.i64 0,Value.int IntKind.i64 0,Value.int IntKind.i64 0,Value.int IntKind.i64 0]):=⟨Tryz.zeroValue36⟩
instance : InfoOf Tryz.prog 36 (Value.agg #[Value.int IntKind.i64 0,Value.int IntKind.i64 0,Value.int IntKind.i64 0,Value.int IntKind.i64 0,Value.int IntKind.i64 0,Value.int IntKind.i64 0,Value.int IntKind.i64 0]) 7 56:=⟨by kernel_rfl,by rfl,by decide⟩
instance : OneCell Tryz.prog 40:=⟨Tryz.isAgg40,Tryz.sizeOf40⟩
instance : IntOf Tryz.prog 40 .u16:=⟨Tryz.underlying40⟩
instance : ArrayOf Tryz.prog 41 12 40 1:=⟨Tryz.underlying41,Tryz.sizeOf40⟩
instance : AggOf Tryz.prog 43 13:=⟨Tryz.isAgg43,Tryz.sizeOf43⟩
instance : FieldAt Tryz.prog 43 1 1:=zaq 1 41 Tryz.underlying43 rfl Tryz.sizeOf41 (by decide)
instance : ZeroOf Tryz.prog 43 (Value.agg #[Value.int IntKind.i64 0,Value.int IntKind.u16 0,Value.int IntKind.u16 0,Value.int IntKind.u16 0,Value.int IntKind.u16 0,Value.int IntKind.u16 0,Value.int IntKind.u16 0,Value.int IntKind.u16 0,Value.int IntKind.u16 0,Value.int IntKind.u16 0,Value.int IntKind.u16 0,Value.int IntKind.u16 0,Value.int IntKind.u16 0]):=⟨Tryz.zeroValue43⟩
instance : AggOf Tryz.prog 49 2:=⟨Tryz.isAgg49,Tryz.sizeOf49⟩
instance : FieldAt Tryz.prog 49 0 0:=zaq 0 3 Tryz.underlying49 rfl Tryz.sizeOf3 (by decide)
instance : FieldAt Tryz.prog 49 1 1:=zaq 1 3 Tryz.underlying49 rfl Tryz.sizeOf3 (by decide)
instance : ZeroOf Tryz.prog 49 (Value.agg #[Value.int IntKind.i64 0,Value.int IntKind.i64 0]):=⟨Tryz.zeroValue49⟩
instance : InfoOf Tryz.prog 49 (Value.agg #[Value.int IntKind.i64 0,Value.int IntKind.i64 0]) 2 16:=⟨by kernel_rfl,by rfl,by decide⟩
instance : SliceOf Tryz.prog 50 52 2:=⟨Tryz.underlying50,Tryz.sizeOf52⟩
instance : AggOf Tryz.prog 52 2:=⟨Tryz.isAgg52,Tryz.sizeOf52⟩
instance : FieldAt Tryz.prog 52 0 0:=zaq 0 3 Tryz.underlying52 rfl Tryz.sizeOf3 (by decide)
instance : FieldAt Tryz.prog 52 1 1:=zaq 1 3 Tryz.underlying52 rfl Tryz.sizeOf3 (by decide)
instance : ZeroOf Tryz.prog 52 (Value.agg #[Value.int IntKind.i64 0,Value.int IntKind.i64 0]):=⟨Tryz.zeroValue52⟩
instance : InfoOf Tryz.prog 52 (Value.agg #[Value.int IntKind.i64 0,Value.int IntKind.i64 0]) 2 16:=⟨by kernel_rfl,by rfl,by decide⟩
instance : SliceOf Tryz.prog 59 5 1:=⟨Tryz.underlying59,Tryz.sizeOf5⟩
instance : FieldAt Tryz.prog 63 0 0:=zaq 0 61 Tryz.underlying63 rfl Tryz.sizeOf61 (by decide)
instance : SliceOf Tryz.prog 72 43 13:=⟨Tryz.underlying72,Tryz.sizeOf43⟩
instance : SliceOf Tryz.prog 73 9 1:=⟨Tryz.underlying73,Tryz.sizeOf9⟩
instance : AggOf Tryz.prog 79 3:=⟨Tryz.isAgg79,Tryz.sizeOf79⟩
instance : FieldAt Tryz.prog 79 0 0:=zaq 0 3 Tryz.underlying79 rfl Tryz.sizeOf3 (by decide)
instance : FieldAt Tryz.prog 79 1 1:=zaq 1 3 Tryz.underlying79 rfl Tryz.sizeOf3 (by decide)
instance : FieldAt Tryz.prog 79 2 2:=zaq 2 3 Tryz.underlying79 rfl Tryz.sizeOf3 (by decide)
instance : ZeroOf Tryz.prog 79 (Value.agg #[Value.int IntKind.i64 0,Value.int IntKind.i64 0,Value.int IntKind.i64 0]):=⟨Tryz.zeroValue79⟩
instance : IntOf Tryz.prog 88 .u64:=⟨Tryz.underlying88⟩
instance : ArrayOf Tryz.prog 91 8 3 1:=⟨Tryz.underlying91,Tryz.sizeOf3⟩
instance : FieldAt Tryz.prog 93 0 0:=zaq 0 24 Tryz.underlying93 rfl Tryz.sizeOf24 (by decide)
instance : FieldAt Tryz.prog 93 1 1:=zaq 1 30 Tryz.underlying93 rfl Tryz.sizeOf30 (by decide)
instance : FieldAt Tryz.prog 93 2 2:=zaq 2 91 Tryz.underlying93 rfl Tryz.sizeOf91 (by decide)
instance : AggOf Tryz.prog 95 4:=⟨Tryz.isAgg95,Tryz.sizeOf95⟩
instance : FieldAt Tryz.prog 95 0 0:=zaq 0 3 Tryz.underlying95 rfl Tryz.sizeOf3 (by decide)
instance : FieldAt Tryz.prog 95 1 1:=zaq 1 3 Tryz.underlying95 rfl Tryz.sizeOf3 (by decide)
instance : FieldAt Tryz.prog 95 2 2:=zaq 2 3 Tryz.underlying95 rfl Tryz.sizeOf3 (by decide)
instance : FieldAt Tryz.prog 95 3 3:=zaq 3 3 Tryz.underlying95 rfl Tryz.sizeOf3 (by decide)
instance : ZeroOf Tryz.prog 95 (Value.agg #[Value.int IntKind.i64 0,Value.int IntKind.i64 0,Value.int IntKind.i64 0,Value.int IntKind.i64 0]):=⟨Tryz.zeroValue95⟩
instance : InfoOf Tryz.prog 95 (Value.agg #[Value.int IntKind.i64 0,Value.int IntKind.i64 0,Value.int IntKind.i64 0,Value.int IntKind.i64 0]) 4 32:=⟨by kernel_rfl,by rfl,by decide⟩
instance : SliceOf Tryz.prog 113 20 1:=⟨Tryz.underlying113,Tryz.sizeOf20⟩
instance : SliceOf Tryz.prog 140 142 4:=⟨Tryz.underlying140,Tryz.sizeOf142⟩
instance : AggOf Tryz.prog 142 4:=⟨Tryz.isAgg142,Tryz.sizeOf142⟩
instance : FieldAt Tryz.prog 142 0 0:=zaq 0 3 Tryz.underlying142 rfl Tryz.sizeOf3 (by decide)
instance : FieldAt Tryz.prog 142 1 1:=zaq 1 3 Tryz.underlying142 rfl Tryz.sizeOf3 (by decide)
instance : FieldAt Tryz.prog 142 2 2:=zaq 2 3 Tryz.underlying142 rfl Tryz.sizeOf3 (by decide)
instance : FieldAt Tryz.prog 142 3 3:=zaq 3 4 Tryz.underlying142 rfl Tryz.sizeOf4 (by decide)
instance : ZeroOf Tryz.prog 142 (Value.agg #[Value.int IntKind.i64 0,Value.int IntKind.i64 0,Value.int IntKind.i64 0,Value.bool Bool.false]):=⟨Tryz.zeroValue142⟩
instance : InfoOf Tryz.prog 142 (Value.agg #[Value.int IntKind.i64 0,Value.int IntKind.i64 0,Value.int IntKind.i64 0,Value.bool Bool.false]) 4 32:=⟨by kernel_rfl,by rfl,by decide⟩
instance : OneCell Tryz.prog 149:=⟨Tryz.isAgg149,Tryz.sizeOf149⟩
instance : OneCell Tryz.prog 150:=⟨Tryz.isAgg150,Tryz.sizeOf150⟩
instance : SliceOf Tryz.prog 150 24 1:=⟨Tryz.underlying150,Tryz.sizeOf24⟩
instance : FieldAt Tryz.prog 152 0 0:=zaq 0 24 Tryz.underlying152 rfl Tryz.sizeOf24 (by decide)
instance : FieldAt Tryz.prog 152 1 1:=zaq 1 30 Tryz.underlying152 rfl Tryz.sizeOf30 (by decide)
instance : FieldAt Tryz.prog 152 2 2:=zaq 2 43 Tryz.underlying152 rfl Tryz.sizeOf43 (by decide)
instance : FieldAt Tryz.prog 152 3 15:=zaq 15 150 Tryz.underlying152 rfl Tryz.sizeOf150 (by decide)
instance : FieldAt Tryz.prog 152 4 16:=zaq 16 40 Tryz.underlying152 rfl Tryz.sizeOf40 (by decide)
instance : FieldAt Tryz.prog 152 5 17:=zaq 17 26 Tryz.underlying152 rfl Tryz.sizeOf26 (by decide)
instance : FieldAt Tryz.prog 152 6 18:=zaq 18 149 Tryz.underlying152 rfl Tryz.sizeOf149 (by decide)
instance : SliceOf Tryz.prog 168 206 9:=⟨Tryz.underlying168,Tryz.sizeOf206⟩
instance : OneCell Tryz.prog 173:=⟨Tryz.isAgg173,Tryz.sizeOf173⟩
instance : OneCell Tryz.prog 176:=⟨Tryz.isAgg176,Tryz.sizeOf176⟩
instance : ZeroOf Tryz.prog 176 (Value.nilFunc):=⟨Tryz.zeroValue176⟩
instance : SliceOf Tryz.prog 177 176 1:=⟨Tryz.underlying177,Tryz.sizeOf176⟩
instance : OneCell Tryz.prog 178:=⟨Tryz.isAgg178,Tryz.sizeOf178⟩
instance : SliceOf Tryz.prog 185 187 3:=⟨Tryz.underlying185,Tryz.sizeOf187⟩
instance : AggOf Tryz.prog 187 3:=⟨Tryz.isAgg187,Tryz.sizeOf187⟩
instance : FieldAt Tryz.prog 187 0 0:=zaq 0 3 Tryz.underlying187 rfl Tryz.sizeOf3 (by decide)
instance : FieldAt Tryz.prog 187 1 1:=zaq 1 3 Tryz.underlying187 rfl Tryz.sizeOf3 (by decide)
instance : FieldAt Tryz.prog 187 2 2:=zaq 2 3 Tryz.underlying187 rfl Tryz.sizeOf3 (by decide)
instance : ZeroOf Tryz.prog 187 (Value.agg #[Value.int IntKind.i64 0,Value.int IntKind.i64 0,Value.int IntKind.i64 0]):=⟨Tryz.zeroValue187⟩
instance : InfoOf Tryz.prog 187 (Value.agg #[Value.int IntKind.i64 0,Value.int IntKind.i64 0,Value.int IntKind.i64 0]) 3 24:=⟨by kernel_rfl,by rfl,by decide⟩
instance : MapOf Tryz.prog 204 3 4:=⟨Tryz.underlying204,Tryz.underlying3⟩
instance : AggOf Tryz.prog 206 9:=⟨Tryz.isAgg206,Tryz.sizeOf206⟩
instance : FieldAt Tryz.prog 206 0 0:=zaq 0 3 Tryz.underlying206 rfl Tryz.sizeOf3 (by decide)
instance : FieldAt Tryz.prog 206 1 1:=zaq 1 3 Tryz.underlying206 rfl Tryz.sizeOf3 (by decide)
instance : FieldAt Tryz.prog 206 2 2:=zaq 2 3 Tryz.underlying206 rfl Tryz.sizeOf3 (by decide)
instance : FieldAt Tryz.prog 206 3 3:=zaq 3 24 Tryz.underlying206 rfl Tryz.sizeOf24 (by decide)
instance : FieldAt Tryz.prog 206 4 4:=zaq 4 142 Tryz.underlying206 rfl Tryz.sizeOf142 (by decide)
instance : FieldAt Tryz.prog 206 5 8:=zaq 8 4 Tryz.underlying206 rfl Tryz.sizeOf4 (by decide)
instance : ZeroOf Tryz.prog 206 (Value.agg #[Value.int IntKind.i64 0,Value.int IntKind.i64 0,Value.int IntKind.i64 0,Value.slice Option.none 0 0,Value.int IntKind.i64 0,Value.int IntKind.i64 0,Value.int IntKind.i64 0,Value.bool Bool.false,Value.bool Bool.false]):=⟨Tryz.zeroValue206⟩
instance : InfoOf Tryz.prog 206 (Value.agg #[Value.int IntKind.i64 0,Value.int IntKind.i64 0,Value.int IntKind.i64 0,Value.slice Option.none 0 0,Value.int IntKind.i64 0,Value.int IntKind.i64 0,Value.int IntKind.i64 0,Value.bool Bool.false,Value.bool Bool.false]) 9 88:=⟨by kernel_rfl,by rfl,by decide⟩
instance : OneCell Tryz.prog 213:=⟨Tryz.isAgg213,Tryz.sizeOf213⟩
instance : SliceOf Tryz.prog 213 219 3:=⟨Tryz.underlying213,Tryz.sizeOf219⟩
instance : FieldAt Tryz.prog 215 0 0:=zaq 0 30 Tryz.underlying215 rfl Tryz.sizeOf30 (by decide)
instance : FieldAt Tryz.prog 215 1 1:=zaq 1 213 Tryz.underlying215 rfl Tryz.sizeOf213 (by decide)
instance : AggOf Tryz.prog 219 3:=⟨Tryz.isAgg219,Tryz.sizeOf219⟩
instance : FieldAt Tryz.prog 219 0 0:=zaq 0 3 Tryz.underlying219 rfl Tryz.sizeOf3 (by decide)
instance : FieldAt Tryz.prog 219 1 1:=zaq 1 3 Tryz.underlying219 rfl Tryz.sizeOf3 (by decide)
instance : FieldAt Tryz.prog 219 2 2:=zaq 2 3 Tryz.underlying219 rfl Tryz.sizeOf3 (by decide)
instance : ZeroOf Tryz.prog 219 (Value.agg #[Value.int IntKind.i64 0,Value.int IntKind.i64 0,Value.int IntKind.i64 0]):=⟨Tryz.zeroValue219⟩
instance : InfoOf Tryz.prog 219 (Value.agg #[Value.int IntKind.i64 0,Value.int IntKind.i64 0,Value.int IntKind.i64 0]) 3 24:=⟨by kernel_rfl,by rfl,by decide⟩
instance : FieldAt Tryz.prog 228 0 0:=zaq 0 30 Tryz.underlying228 rfl Tryz.sizeOf30 (by decide)
instance : FieldAt Tryz.prog 228 1 1:=zaq 1 24 Tryz.underlying228 rfl Tryz.sizeOf24 (by decide)
instance : FieldAt Tryz.prog 228 2 2:=zaq 2 24 Tryz.underlying228 rfl Tryz.sizeOf24 (by decide)
instance : MapOf Tryz.prog 229 3 3:=⟨Tryz.underlying229,Tryz.underlying3⟩
instance : AggOf Tryz.prog 242 0:=⟨Tryz.isAgg242,Tryz.sizeOf242⟩
instance : AggOf Tryz.prog 267 8:=⟨Tryz.isAgg267,Tryz.sizeOf267⟩
instance : ArrayOf Tryz.prog 267 8 4 1:=⟨Tryz.underlying267,Tryz.sizeOf4⟩
instance : ZeroOf Tryz.prog 267 (Value.agg #[Value.bool Bool.false,Value.bool Bool.false,Value.bool Bool.false,Value.bool Bool.false,Value.bool Bool.false,Value.bool Bool.false,Value.bool Bool.false,Value.bool Bool.false]):=⟨Tryz.zeroValue267⟩
instance : BuiltOf Tryz.prog 36 [(0,1),(1,1),(2,1),(3,1),(4,1),(5,1),(6,1)] [Value.int IntKind.i64 0,Value.int IntKind.i64 0,Value.int IntKind.i64 0,Value.int IntKind.i64 0,Value.int IntKind.i64 0,Value.int IntKind.i64 0,Value.int IntKind.i64 0]:=⟨by kernel_rfl⟩
instance : BuiltOf Tryz.prog 43 [(0,1),(1,12)] [Value.int IntKind.i64 0,Value.int IntKind.u16 0,Value.int IntKind.u16 0,Value.int IntKind.u16 0,Value.int IntKind.u16 0,Value.int IntKind.u16 0,Value.int IntKind.u16 0,Value.int IntKind.u16 0,Value.int IntKind.u16 0,Value.int IntKind.u16 0,Value.int IntKind.u16 0,Value.int IntKind.u16 0,Value.int IntKind.u16 0]:=⟨by kernel_rfl⟩
instance : BuiltOf Tryz.prog 49 [(0,1),(1,1)] [Value.int IntKind.i64 0,Value.int IntKind.i64 0]:=⟨by kernel_rfl⟩
instance : BuiltOf Tryz.prog 52 [(0,1),(1,1)] [Value.int IntKind.i64 0,Value.int IntKind.i64 0]:=⟨by kernel_rfl⟩
instance : BuiltOf Tryz.prog 63 [(0,2)] [Value.pointer Option.none,Value.slice Option.none 0 0]:=⟨by kernel_rfl⟩
instance : BuiltOf Tryz.prog 79 [(0,1),(1,1),(2,1)] [Value.int IntKind.i64 0,Value.int IntKind.i64 0,Value.int IntKind.i64 0]:=⟨by kernel_rfl⟩
instance : BuiltOf Tryz.prog 95 [(0,1),(1,1),(2,1),(3,1)] [Value.int IntKind.i64 0,Value.int IntKind.i64 0,Value.int IntKind.i64 0,Value.int IntKind.i64 0]:=⟨by kernel_rfl⟩
instance : BuiltOf Tryz.prog 142 [(0,1),(1,1),(2,1),(3,1)] [Value.int IntKind.i64 0,Value.int IntKind.i64 0,Value.int IntKind.i64 0,Value.bool Bool.false]:=⟨by kernel_rfl⟩
instance : BuiltOf Tryz.prog 152 [(0,1),(1,1),(2,13),(15,1),(16,1),(17,1),(18,1)] [Value.slice Option.none 0 0,Value.slice Option.none 0 0,Value.int IntKind.i64 0,Value.int IntKind.u16 0,Value.int IntKind.u16 0,Value.int IntKind.u16 0,Value.int IntKind.u16 0,Value.int IntKind.u16 0,Value.int IntKind.u16 0,Value.int IntKind.u16 0,Value.int IntKind.u16 0,Value.int IntKind.u16 0,Value.int IntKind.u16 0,Value.int IntKind.u16 0,Value.int IntKind.u16 0,Value.slice Option.none 0 0,Value.int IntKind.u16 0,Value.slice Option.none 0 0,Value.map Option.none]:=⟨by kernel_rfl⟩
instance : BuiltOf Tryz.prog 187 [(0,1),(1,1),(2,1)] [Value.int IntKind.i64 0,Value.int IntKind.i64 0,Value.int IntKind.i64 0]:=⟨by kernel_rfl⟩
instance : BuiltOf Tryz.prog 206 [(0,1),(1,1),(2,1),(3,1),(4,4),(8,1)] [Value.int IntKind.i64 0,Value.int IntKind.i64 0,Value.int IntKind.i64 0,Value.slice Option.none 0 0,Value.int IntKind.i64 0,Value.int IntKind.i64 0,Value.int IntKind.i64 0,Value.bool Bool.false,Value.bool Bool.false]:=⟨by kernel_rfl⟩
instance : BuiltOf Tryz.prog 215 [(0,1),(1,1)] [Value.slice Option.none 0 0,Value.slice Option.none 0 0]:=⟨by kernel_rfl⟩
instance : BuiltOf Tryz.prog 219 [(0,1),(1,1),(2,1)] [Value.int IntKind.i64 0,Value.int IntKind.i64 0,Value.int IntKind.i64 0]:=⟨by kernel_rfl⟩
instance : BuiltOf Tryz.prog 228 [(0,1),(1,1),(2,1)] [Value.slice Option.none 0 0,Value.slice Option.none 0 0,Value.slice Option.none 0 0]:=⟨by kernel_rfl⟩
instance : BuiltOf Tryz.prog 241 [(0,0)] []:=⟨by kernel_rfl⟩
instance : BuiltOf Tryz.prog 244 [(0,0)] []:=⟨by kernel_rfl⟩
instance : BuiltOf Tryz.prog 245 [(0,0)] []:=⟨by kernel_rfl⟩
instance : BuiltOf Tryz.prog 246 [(0,0)] []:=⟨by kernel_rfl⟩
instance : BuiltOf Tryz.prog 247 [(0,0)] []:=⟨by kernel_rfl⟩
instance : BuiltOf Tryz.prog 267 [(0,1),(1,1),(2,1),(3,1),(4,1),(5,1),(6,1),(7,1)] [Value.bool Bool.false,Value.bool Bool.false,Value.bool Bool.false,Value.bool Bool.false,Value.bool Bool.false,Value.bool Bool.false,Value.bool Bool.false,Value.bool Bool.false]:=⟨by kernel_rfl⟩
instance : IsFn Tryz.prog 7:=⟨Tryz.call7⟩
instance : IsFn Tryz.prog 8:=⟨Tryz.call8⟩
instance : IsFn Tryz.prog 9:=⟨Tryz.call9⟩
instance : IsFn Tryz.prog 10:=⟨Tryz.call10⟩
instance : IsFn Tryz.prog 11:=⟨Tryz.call11⟩
instance : IsFn Tryz.prog 12:=⟨Tryz.call12⟩
instance : IsFn Tryz.prog 15:=⟨Tryz.call15⟩
instance : IsFn Tryz.prog 17:=⟨Tryz.call17⟩
instance : IsFn Tryz.prog 23:=⟨Tryz.call23⟩
instance : IsFn Tryz.prog 24:=⟨Tryz.call24⟩
instance : IsFn Tryz.prog 25:=⟨Tryz.call25⟩
instance : IsFn Tryz.prog 26:=⟨Tryz.call26⟩
instance : IsFn Tryz.prog 27:=⟨Tryz.call27⟩
instance : IsFn Tryz.prog 28:=⟨Tryz.call28⟩
instance : IsFn Tryz.prog 29:=⟨Tryz.call29⟩
instance : IsFn Tryz.prog 30:=⟨Tryz.call30⟩
instance : IsFn Tryz.prog 31:=⟨Tryz.call31⟩
instance : IsFn Tryz.prog 32:=⟨Tryz.call32⟩
instance : IsFn Tryz.prog 33:=⟨Tryz.call33⟩
instance : IsFn Tryz.prog 34:=⟨Tryz.call34⟩
instance : IsFn Tryz.prog 35:=⟨Tryz.call35⟩
instance : IsFn Tryz.prog 36:=⟨Tryz.call36⟩
instance : IsFn Tryz.prog 37:=⟨Tryz.call37⟩
instance : IsFn Tryz.prog 38:=⟨Tryz.call38⟩
instance : IsFn Tryz.prog 39:=⟨Tryz.call39⟩
instance : IsFn Tryz.prog 40:=⟨Tryz.call40⟩
instance : IsFn Tryz.prog 41:=⟨Tryz.call41⟩
instance : IsFn Tryz.prog 42:=⟨Tryz.call42⟩
instance : IsFn Tryz.prog 43:=⟨Tryz.call43⟩
instance : IsFn Tryz.prog 44:=⟨Tryz.call44⟩
instance : IsFn Tryz.prog 45:=⟨Tryz.call45⟩
instance : IsFn Tryz.prog 48:=⟨Tryz.call48⟩
instance : IsFn Tryz.prog 54:=⟨Tryz.call54⟩
instance : IsFn Tryz.prog 55:=⟨Tryz.call55⟩
instance : IsFn Tryz.prog 56:=⟨Tryz.call56⟩
instance : IsFn Tryz.prog 57:=⟨Tryz.call57⟩
instance : IsFn Tryz.prog 58:=⟨Tryz.call58⟩
instance : IsFn Tryz.prog 59:=⟨Tryz.call59⟩
instance : IsFn Tryz.prog 60:=⟨Tryz.call60⟩
instance : IsFn Tryz.prog 61:=⟨Tryz.call61⟩
instance : IsFn Tryz.prog 62:=⟨Tryz.call62⟩
instance : IsFn Tryz.prog 63:=⟨Tryz.call63⟩
instance : IsFn Tryz.prog 64:=⟨Tryz.call64⟩
instance : IsFn Tryz.prog 65:=⟨Tryz.call65⟩
instance : IsFn Tryz.prog 66:=⟨Tryz.call66⟩
instance : IsFn Tryz.prog 67:=⟨Tryz.call67⟩
instance : IsFn Tryz.prog 68:=⟨Tryz.call68⟩
instance : IsFn Tryz.prog 69:=⟨Tryz.call69⟩
instance : IsFn Tryz.prog 70:=⟨Tryz.call70⟩
instance : IsFn Tryz.prog 71:=⟨Tryz.call71⟩
instance : IsFn Tryz.prog 72:=⟨Tryz.call72⟩
instance : IsFn Tryz.prog 73:=⟨Tryz.call73⟩
instance : IsFn Tryz.prog 74:=⟨Tryz.call74⟩
instance : IsFn Tryz.prog 75:=⟨Tryz.call75⟩
instance : IsFn Tryz.prog 76:=⟨Tryz.call76⟩
instance : IsFn Tryz.prog 77:=⟨Tryz.call77⟩
instance : IsFn Tryz.prog 78:=⟨Tryz.call78⟩
instance : IsFn Tryz.prog 79:=⟨Tryz.call79⟩
instance : IsFn Tryz.prog 80:=⟨Tryz.call80⟩
instance : IsFn Tryz.prog 81:=⟨Tryz.call81⟩
instance : IsFn Tryz.prog 82:=⟨Tryz.call82⟩
instance : IsFn Tryz.prog 83:=⟨Tryz.call83⟩
instance : IsFn Tryz.prog 84:=⟨Tryz.call84⟩
instance : IsFn Tryz.prog 85:=⟨Tryz.call85⟩
instance : IsFn Tryz.prog 86:=⟨Tryz.call86⟩
instance : IsFn Tryz.prog 87:=⟨Tryz.call87⟩
instance : IsFn Tryz.prog 88:=⟨Tryz.call88⟩
instance : IsFn Tryz.prog 89:=⟨Tryz.call89⟩
instance : IsFn Tryz.prog 91:=⟨Tryz.call91⟩
instance : IsFn Tryz.prog 92:=⟨Tryz.call92⟩
instance : IsFn Tryz.prog 93:=⟨Tryz.call93⟩
instance : IsFn Tryz.prog 103:=⟨Tryz.call103⟩
instance : IsFn Tryz.prog 104:=⟨Tryz.call104⟩
instance : IsFn Tryz.prog 105:=⟨Tryz.call105⟩
instance : IsFn Tryz.prog 106:=⟨Tryz.call106⟩
instance : IsFn Tryz.prog 107:=⟨Tryz.call107⟩
instance : IsFn Tryz.prog 110:=⟨Tryz.call110⟩
instance : IsFn Tryz.prog 111:=⟨Tryz.call111⟩
instance : IsFn Tryz.prog 112:=⟨Tryz.call112⟩
instance : IsFn Tryz.prog 113:=⟨Tryz.call113⟩
instance : IsFn Tryz.prog 114:=⟨Tryz.call114⟩
instance : IsFn Tryz.prog 115:=⟨Tryz.call115⟩
instance : IsFn Tryz.prog 116:=⟨Tryz.call116⟩
instance : IsFn Tryz.prog 117:=⟨Tryz.call117⟩
instance : IsFn Tryz.prog 118:=⟨Tryz.call118⟩
instance : IsFn Tryz.prog 119:=⟨Tryz.call119⟩
instance : IsFn Tryz.prog 120:=⟨Tryz.call120⟩
instance : IsFn Tryz.prog 121:=⟨Tryz.call121⟩
instance : IsFn Tryz.prog 122:=⟨Tryz.call122⟩
instance : IsFn Tryz.prog 123:=⟨Tryz.call123⟩
instance : IsFn Tryz.prog 125:=⟨Tryz.call125⟩
instance : IsFn Tryz.prog 126:=⟨Tryz.call126⟩
instance : IsFn Tryz.prog 127:=⟨Tryz.call127⟩
instance : IsFn Tryz.prog 128:=⟨Tryz.call128⟩
instance : IsFn Tryz.prog 130:=⟨Tryz.call130⟩
instance : IsFn Tryz.prog 131:=⟨Tryz.call131⟩
instance : IsFn Tryz.prog 132:=⟨Tryz.call132⟩
instance : IsFn Tryz.prog 133:=⟨Tryz.call133⟩
instance : IsFn Tryz.prog 134:=⟨Tryz.call134⟩
instance : IsFn Tryz.prog 135:=⟨Tryz.call135⟩
instance : IsFn Tryz.prog 136:=⟨Tryz.call136⟩
instance : IsFn Tryz.prog 144:=⟨Tryz.call144⟩
instance : IsFn Tryz.prog 147:=⟨Tryz.call147⟩
instance : IsFn Tryz.prog 149:=⟨Tryz.call149⟩
instance : IsFn Tryz.prog 150:=⟨Tryz.call150⟩
instance : IsFn Tryz.prog 151:=⟨Tryz.call151⟩
instance : IsFn Tryz.prog 152:=⟨Tryz.call152⟩
instance : IsFn Tryz.prog 153:=⟨Tryz.call153⟩
instance : IsFn Tryz.prog 155:=⟨Tryz.call155⟩
instance : IsFn Tryz.prog 156:=⟨Tryz.call156⟩
instance : IsFn Tryz.prog 157:=⟨Tryz.call157⟩
instance : IsFn Tryz.prog 158:=⟨Tryz.call158⟩
instance : IsFn Tryz.prog 159:=⟨Tryz.call159⟩
instance : IsFn Tryz.prog 160:=⟨Tryz.call160⟩
instance : IsFn Tryz.prog 161:=⟨Tryz.call161⟩
instance : IsFn Tryz.prog 162:=⟨Tryz.call162⟩
instance : IsFn Tryz.prog 163:=⟨Tryz.call163⟩
instance : IsFn Tryz.prog 164:=⟨Tryz.call164⟩
instance : IsFn Tryz.prog 165:=⟨Tryz.call165⟩
instance : IsFn Tryz.prog 166:=⟨Tryz.call166⟩
instance : IsFn Tryz.prog 167:=⟨Tryz.call167⟩
instance : IsFn Tryz.prog 171:=⟨Tryz.call171⟩
instance : IsFn Tryz.prog 172:=⟨Tryz.call172⟩
instance : IsFn Tryz.prog 173:=⟨Tryz.call173⟩
instance : IsFn Tryz.prog 185:=⟨Tryz.call185⟩
instance : IsFn Tryz.prog 186:=⟨Tryz.call186⟩
instance : IsFn Tryz.prog 188:=⟨Tryz.call188⟩
instance : IsFn Tryz.prog 189:=⟨Tryz.call189⟩
instance : IsFn Tryz.prog 198:=⟨Tryz.call198⟩
instance : IsFn Tryz.prog 199:=⟨Tryz.call199⟩
instance : IsFn Tryz.prog 253:=⟨Tryz.call253⟩
instance : IsFn Tryz.prog 280:=⟨Tryz.call280⟩
instance : IsFn Tryz.prog 281:=⟨Tryz.call281⟩
instance : IsFn Tryz.prog 282:=⟨Tryz.call282⟩
instance : IsFn Tryz.prog 283:=⟨Tryz.call283⟩
instance : IsFn Tryz.prog 284:=⟨Tryz.call284⟩
instance : IsFn Tryz.prog 285:=⟨Tryz.call285⟩
instance : IsFn Tryz.prog 286:=⟨Tryz.call286⟩
instance : IsFn Tryz.prog 287:=⟨Tryz.call287⟩
instance : IsFn Tryz.prog 288:=⟨Tryz.call288⟩
instance : IsFn Tryz.prog 289:=⟨Tryz.call289⟩
instance : IsFn Tryz.prog 290:=⟨Tryz.call290⟩
instance : IsFn Tryz.prog 291:=⟨Tryz.call291⟩
instance : IsFn Tryz.prog 292:=⟨Tryz.call292⟩
instance : IsFn Tryz.prog 293:=⟨Tryz.call293⟩
instance : IsFn Tryz.prog 294:=⟨Tryz.call294⟩
instance : IsFn Tryz.prog 299:=⟨Tryz.call299⟩
end
section
def zaF(n:Nat)(P:Nat→Bool):Option Nat:=(List.range n).find? P
theorem zaP{n:Nat}{P:Nat→Bool}(h:∀i,i<n→P i=false):zaF n P=none:=by
 unfold zaF
 rw[List.find?_eq_none]
 intro i hi
 rw[h i (List.mem_range.1 hi)];decide
theorem za5{n i:Nat}{P:Nat→Bool}(hi:i<n)(h1:∀j,j<i→P j=false)(h:P i=true):zaF n P=some i:=by
 unfold zaF
 rw[List.find?_range_eq_some]
 exact⟨h,List.mem_range.2 hi,fun j hj=>by rw[h1 j hj];decide⟩
theorem za3{n i:Nat}{P:Nat→Bool}(h:zaF n P=some i):i<n∧P i=true∧∀j,j<i→P j=false:=by
 unfold zaF at h
 rw[List.find?_range_eq_some] at h
 exact⟨List.mem_range.1 h.2.1,h.1,fun j hj=>by simpa using h.2.2 j hj⟩
theorem zeL{n:Nat}{P:Nat→Bool}(h:zaF n P=none):∀i,i<n→P i=false:=by
 unfold zaF at h
 rw[List.find?_eq_none] at h
 intro i hi
 simpa using h i (List.mem_range.2 hi)
def zbN(n:Nat)(m:Nat→Nat)(P:Nat→Nat→Bool):Option (Nat×Nat) :=
 match zaF n (fun i=>(zaF (m i) (P i)).isSome) with
 |none=>none
 |some i=>(zaF (m i) (P i)).map fun k=>(i,k)
theorem zbS{n:Nat}{m:Nat→Nat}{P:Nat→Nat→Bool}(h:∀i,i<n→∀k,k<m i→P i k=false):zbN n m P=none:=by
 unfold zbN
 rw[zaP fun i hi=>by rw[zaP (h i hi)];rfl]
theorem zc5{n i k:Nat}{m:Nat→Nat}{P:Nat→Nat→Bool}(hi:i<n)(hk:k<m i)(h1:∀j,j<i→∀q,q<m j→P j q=false)(h2:∀q,q<k→P i q=false)(h:P i k=true):zbN n m P=some (i,k):=by
 unfold zbN
 have e:=za5 (P:=P i) hk h2 h
 rw[za5 (i:=i) hi (fun j hj=>by rw[zaP (h1 j hj)];rfl) (by rw[e];rfl)]
 dsimp only
 rw[e];rfl
theorem zfK{n i k:Nat}{m:Nat→Nat}{P:Nat→Nat→Bool}(h:zbN n m P=some (i,k)):i<n∧k<m i∧P i k=true:=by
 unfold zbN at h
 cases e:zaF n (fun i=>(zaF (m i) (P i)).isSome) with
 |none=>rw[e] at h;cases h
 |some a =>
  rw[e] at h
  dsimp only at h
  rw[Option.map_eq_some_iff] at h
  obtain⟨b,h1,h2⟩:=h
  cases h2
  exact⟨(za3 e).1,(za3 h1).1,(za3 h1).2.1⟩
end
section
open Go.RowKit Go.Lib
/-! words -/
def typeW:List Bs:=[[],[114,101,103],[113,117,101,117,101],[115,116,97,99,107],[115,101,116],[116,105,99,107,101,116]]
def kindW:List Bs:=[[101,110,100],[119,114,105,116,101],[114,101,97,100],[101,110,113],[100,101,113],[112,117,115,104],[112,111,112],[97,100,100],[114,101,109,111,118,101],[104,97,115],[116,97,107,101]]
def thW:Bs:=[116,104,105,110,103,115]
def zcM(ws:List Bs)(w:Bs):Int:=match (List.range ws.length).find? (fun i=>decide (ws.getD i []=w)) with|some i=>(i:Int)|none=>-1
theorem zcy(ws:List Bs)(w:Bs):zcM ws w=-1∨∃i:Nat,zcM ws w=(i:Int)∧i<ws.length∧ws.getD i []=w:=by
 unfold zcM
 split
 ·rename_i i h
  rw[List.find?_range_eq_some] at h
  exact .inr ⟨i,rfl,List.mem_range.1 h.2.1,of_decide_eq_true h.1⟩
 ·exact .inl rfl
theorem idxB_at{ws:List Bs}(hd:ws.Nodup){i:Nat}(hi:i<ws.length):zcM ws (ws.getD i [])=(i:Int):=by
 have h:(List.range ws.length).find? (fun j=>decide (ws.getD j []=ws.getD i []))=some i:=by
  refine List.find?_range_eq_some.2 ⟨decide_eq_true rfl,List.mem_range.2 hi,fun j hj=>?_⟩
  have:¬ws.getD j []=ws.getD i []:=fun e=>by
   rw[show ws.getD j []=ws[j] by simp[show j<ws.length by omega],show ws.getD i []=ws[i] by simp[hi]] at e
   have:=(List.getElem_inj hd).1 e
   omega
  rw[decide_eq_false this];rfl
 unfold zcM
 rw[h]
def tyOf(w:Bs):Option Int:=if 1≤zcM typeW w then some (zcM typeW w) else none
def kdOf(w:Bs):Option Int:=if 0≤zcM kindW w then some (zcM kindW w) else none
theorem tyOf_iff{w:Bs}{t:Int}:tyOf w=some t↔1≤t∧t≤5∧typeW.getD t.toNat []=w:=by
 constructor
 ·intro h
  unfold tyOf at h
  split at h
  ·cases h
   rcases zcy typeW w with e|⟨i,e,h1,h2⟩
   ·omega
   ·rw[e]
    have:typeW.length=6:=rfl
    exact⟨by omega,by omega,h2⟩
  ·cases h
 ·intro⟨h1,h2,h3⟩
  have:=idxB_at (ws:=typeW) (by decide) (i:=t.toNat) (by show _<6;omega)
  rw[h3] at this
  unfold tyOf
  rw[this,if_pos (by omega)];congr 1;omega
theorem kdOf_iff{w:Bs}{t:Int}:kdOf w=some t↔0≤t∧t≤10∧kindW.getD t.toNat []=w:=by
 constructor
 ·intro h
  unfold kdOf at h
  split at h
  ·cases h
   rcases zcy kindW w with e|⟨i,e,h1,h2⟩
   ·omega
   ·rw[e]
    have:kindW.length=11:=rfl
    exact⟨by omega,by omega,h2⟩
  ·cases h
 ·intro⟨h1,h2,h3⟩
  have:=idxB_at (ws:=kindW) (by decide) (i:=t.toNat) (by show _<11;omega)
  rw[h3] at this
  unfold kdOf
  rw[this,if_pos (by omega)];congr 1;omega
theorem typeW_free{t:Nat}(h:t<6):(32:UInt8)∉typeW.getD t []:=by
 revert t;decide
theorem kindW_free{t:Nat}(h:t<11):(32:UInt8)∉kindW.getD t []:=by
 revert t;decide
def zfq{α β:Type}(f:α→Option β):List α→Option (List β)
 |[]=>some []
 |x::r=>match f x,zfq f r with
  |some y,some t=>some (y::t)
  |_,_=>none
/-! the first line -/
def zbj(line:Bs):Option (List Int) :=
 match zas 32 line with
 |w::r=>if w=thW∧1≤r.length∧r.length≤4 then zfq tyOf r else none
 |[]=>none
def zbZ(line:Bs):List Int:=(zas 32 line).tail.filterMap tyOf
def ziQ(ts:List Int):Bs:=zby 32 (thW::ts.map fun t=>typeW.getD t.toNat [])
theorem ziR{α β:Type}{f:α→Option β}:∀{l:List α} {t:List β},zfq f l=some t→t.length=l.length∧l.filterMap f=t
 |[],t,h=>by cases h;exact⟨rfl,rfl⟩
 |x::r,t,h=>by
  rw[zfq] at h
  split at h
  ·rename_i y t' e1 e2
   cases h
   obtain⟨h1,h2⟩:=ziR e2
   exact⟨by simp[h1],by rw[List.filterMap_cons,e1,h2]⟩
  ·cases h
theorem allOf_map{ws:List Bs}:∀{ts:List Int},zfq tyOf ws=some ts→ts.map (fun t=>typeW.getD t.toNat [])=ws∧∀t∈ts,1≤t∧t≤5:=by
 induction ws with
 |nil=>intro ts h;cases h;exact⟨rfl,by simp⟩
 |cons w ws ih =>
  intro ts h
  rw[zfq] at h
  split at h
  ·rename_i y t e1 e2
   cases h
   obtain⟨h1,h2⟩:=ih e2
   obtain⟨k1,k2,k3⟩:=tyOf_iff.1 e1
   refine⟨by rw[List.map_cons,h1,k3],fun q hq=>?_⟩
   rcases List.mem_cons.1 hq with rfl|hq
   ·exact⟨k1,k2⟩
   ·exact h2 q hq
  ·cases h
theorem allOf_of{ws:List Bs}:∀{ts:List Int},ts.map (fun t=>typeW.getD t.toNat [])=ws→(∀t∈ts,1≤t∧t≤5)→zfq tyOf ws=some ts:=by
 induction ws with
 |nil=>intro ts h _;cases ts with
  |nil=>rfl
  |cons=>cases h
 |cons w ws ih =>
  intro ts h h2
  cases ts with
  |nil=>cases h
  |cons t ts =>
   rw[List.map_cons] at h
   obtain⟨e1,e2⟩:=List.cons.inj h
   rw[zfq,tyOf_iff.2 ⟨(h2 t List.mem_cons_self).1,(h2 t List.mem_cons_self).2,e1⟩,ih e2 fun q hq=>h2 q (List.mem_cons_of_mem _ hq)]
theorem zg4(line:Bs):∀t∈zbZ line,1≤t∧t≤5:=by
 intro t ht
 obtain⟨w,_,hw⟩:=List.mem_filterMap.1 ht
 have:=tyOf_iff.1 hw
 exact⟨this.1,this.2.1⟩
theorem words_free{ts:List Int}(h:∀t∈ts,1≤t∧t≤5):∀x∈thW::ts.map (fun t=>typeW.getD t.toNat []),(32:UInt8)∉x:=by
 intro x hx
 rcases List.mem_cons.1 hx with rfl|hx
 ·decide
 ·obtain⟨t,ht,rfl⟩:=List.mem_map.1 hx
  have:=h t ht
  exact typeW_free (by omega)
theorem thingsDoc(line:Bs):(if 1≤(zbZ line).length∧(zbZ line).length≤4∧ziQ (zbZ line)=line then some (zbZ line) else none)=zbj line:=by
 have hfr:=words_free (zg4 line)
 by_cases h:1≤(zbZ line).length∧(zbZ line).length≤4∧ziQ (zbZ line)=line
 ·rw[if_pos h]
  have e:zas 32 line=thW::(zbZ line).map fun t=>typeW.getD t.toNat []:=by
   conv=>lhs;rw[←h.2.2]
   exact zgZ (by simp) hfr
  unfold zbj
  rw[e]
  have h1:1≤((zbZ line).map fun t=>typeW.getD t.toNat []).length:=by simpa using h.1
  have h2:((zbZ line).map fun t=>typeW.getD t.toNat []).length≤4:=by simpa using h.2.1
  exact((if_pos ⟨rfl,h1,h2⟩).trans (allOf_of rfl (zg4 line))).symm
 ·rw[if_neg h]
  symm
  cases hr:zbj line with
  |none=>rfl
  |some ts =>
   exfalso
   apply h
   unfold zbj at hr
   split at hr
   ·rename_i w r e
    split at hr
    ·rename_i h2
     obtain⟨h3,h4⟩:=ziR hr
     obtain⟨h5,h6⟩:=allOf_map hr
     have e2:zbZ line=ts:=by unfold zbZ;rw[e,List.tail_cons,h4]
     rw[e2]
     refine⟨by omega,by omega,?_⟩
     unfold ziQ
     rw[h5,←h2.1,←e,zdR]
    ·cases hr
   ·cases hr
/-! the line of an event -/
def zeM(k:Int):Bool:=decide (k=2)||(decide (k=4)||(decide (k=6)||decide (k=10)))
def zeN(x:Ev):List Bs:=[itoa x.who,itoa x.thing,kindW.getD x.kind.toNat []]++if zeM x.kind=true then[] else[itoa x.value]
def zcR(x:Ev):Bs:=zby 32 (zeN x)
def zaL(line:Bs):Option Ev :=
 match zas 32 line with
 |[a,b,k]=>match zbD a,zbD b,kdOf k with
  |some a,some b,some k=>if zeM k=true then some ⟨a,b,k,0⟩ else none
  |_,_,_=>none
 |[a,b,k,v]=>match zbD a,zbD b,kdOf k,zbD v with
  |some a,some b,some k,some v=>if zeM k=true then none else some ⟨a,b,k,v⟩
  |_,_,_,_=>none
 |_=>none
def eventD(line:Bs):Option Ev :=
 match zas 32 line with
 |[a,b,k]=>match zbD a,zbD b,kdOf k with
  |some a,some b,some k=>if zcR ⟨a,b,k,0⟩=line then some ⟨a,b,k,0⟩ else none
  |_,_,_=>none
 |[a,b,k,v]=>match zbD a,zbD b,kdOf k,zbD v with
  |some a,some b,some k,some v=>if zcR ⟨a,b,k,v⟩=line then some ⟨a,b,k,v⟩ else none
  |_,_,_,_=>none
 |_=>none
theorem evWords_free{x:Ev}(h:0≤x.kind∧x.kind≤10):∀y∈zeN x,(32:UInt8)∉y:=by
 intro y hy
 have hi:∀n,(32:UInt8)∉itoa n:=fun n=>itoa_free n (by decide)
 unfold zeN at hy
 rcases List.mem_append.1 hy with hy|hy
 ·simp only[List.mem_cons,List.not_mem_nil,or_false] at hy
  rcases hy with rfl|rfl|rfl
  ·exact hi _
  ·exact hi _
  ·exact kindW_free (by omega)
 ·split at hy
  ·cases hy
  ·rw[List.mem_singleton] at hy;subst hy;exact hi _
theorem lineEv_iff{x:Ev}(h:0≤x.kind∧x.kind≤10){line:Bs}:zcR x=line↔zeN x=zas 32 line:=by
 constructor
 ·intro e
  rw[←e]
  exact(zgZ (by simp[zeN]) (evWords_free h)).symm
 ·intro e
  unfold zcR
  rw[e,zdR]
theorem eventDoc(line:Bs):eventD line=zaL line:=by
 unfold eventD zaL
 split
 ·rename_i a b k e
  split
  ·rename_i a' b' k' h1 h2 h3
   have hk:=kdOf_iff.1 h3
   have hi:=lineEv_iff (x:=⟨a',b',k',0⟩) ⟨hk.1,hk.2.1⟩ (line:=line)
   rw[e] at hi
   unfold zeN at hi
   simp only[(zdr.1 h1).1,(zdr.1 h2).1,hk.2.2] at hi
   by_cases hb:zeM k'=true
   ·rw[if_pos hb] at hi
    rw[if_pos hb,if_pos (hi.2 rfl)]
   ·rw[if_neg hb] at hi
    rw[if_neg hb,if_neg]
    intro hh
    have:=congrArg List.length (hi.1 hh)
    simp at this
  ·rfl
 ·rename_i a b k v e
  split
  ·rename_i a' b' k' v' h1 h2 h3 h4
   have hk:=kdOf_iff.1 h3
   have hi:=lineEv_iff (x:=⟨a',b',k',v'⟩) ⟨hk.1,hk.2.1⟩ (line:=line)
   rw[e] at hi
   unfold zeN at hi
   simp only[(zdr.1 h1).1,(zdr.1 h2).1,(zdr.1 h4).1,hk.2.2] at hi
   by_cases hb:zeM k'=true
   ·rw[if_pos hb] at hi
    rw[if_pos hb,if_neg]
    intro hh
    have:=congrArg List.length (hi.1 hh)
    simp at this
   ·rw[if_neg hb] at hi
    rw[if_neg hb,if_pos (hi.2 rfl)]
  ·rfl
 ·rfl
/-! all lines -/
def lnK(ls:List Bs)(i:Nat):Bs:=ls.getD i []
def zbT(ls:List Bs)(i:Nat):Bool:=if i+1=ls.length then decide (lnK ls i=[]∧0<i) else if i=0 then(zbj (lnK ls 0)).isSome else(zaL (lnK ls i)).isSome
def zfM(ls:List Bs)(k:Nat):List Ev:=(List.range (k-1)).map fun i=>(zaL (lnK ls (i+1))).getD ⟨0,0,0,0⟩
theorem evsK_succ(ls:List Bs)(k:Nat):zfM ls (k+2)=zfM ls (k+1)++[(zaL (lnK ls (k+1))).getD ⟨0,0,0,0⟩]:=by
 unfold zfM
 rw[show k+2-1=k+1 from rfl,show k+1-1=k from rfl,List.range_succ,List.map_append];rfl
theorem zgh(ls:List Bs)(k:Nat):(zfM ls k).length=k-1:=by simp[zfM]
def zfN(ls:List Bs):List Int:=(zbj (lnK ls 0)).getD []
theorem zbW(c:UInt8):∀l:Bs,(zas c l).length≤l.length+1
 |[]=>by simp[zas]
 |b::r=>by
  have:=zbW c r
  rw[zas]
  split
  ·simp;omega
  ·split
   ·simp
   ·rename_i x t e
    rw[e] at this
    simp at this ⊢;omega
theorem zg5{line:Bs}{ts:List Int}(h:zbj line=some ts):ts.length≤4∧1≤ts.length∧∀t∈ts,1≤t∧t≤5:=by
 unfold zbj at h
 split at h
 ·split at h
  ·rename_i h2
   obtain⟨h3,_⟩:=ziR h
   exact⟨by omega,by omega,(allOf_map h).2⟩
  ·cases h
 ·cases h
end
section
open Go.RowKit
section
variable {P:Program}(w:World) 
end
section
variable {P:Program}{C:Ctx}{Q:Exit→Act→World→Prop}{E:zaE}{S:List Ent}{l rest:List Oper} 
variable {t m e M bytes d g p n c k o:Nat}{x y:Operand}{v z:Value}{ty:TypeId}{g0:Option (Nat×Bool)}{ps:String}{af:Array Edge} 
theorem zc6[hs:SliceOf P t e m]{k:IntKind}{l:Nat}(hx:evo E x=some (.slice (some ⟨g,p,none⟩) n c))(hy:evo E y=some (.int k (l:Nat)))(hl:l≤n):
  QS P C E S (.slice t x (some y) none none) ty (.slice (some ⟨g,if c=l then p else p+l * m,none⟩) (n-l) (c-l)) :=
 QS.of (fun a w ha _=>by
  have he:P.elem t=e:=by simp[Program.elem,hs.und]
  have hu:P.underlying t=some (.slice (P.elem t)):=by rw[he];exact hs.und
  have hr:=run_slice_l (P:=P) (w:=w) t (some ⟨g,p,none⟩) n c hu k (l:Int) (by omega) (by omega)
  rw[he,hs.size w] at hr
  simp only[Result.andThen_ok,Int.toNat_natCast] at hr
  have hv:sliced (some ⟨g,p,none⟩) l n c m=.slice (some ⟨g,if c=l then p else p+l * m,none⟩) (n-l) (c-l):=by
   unfold sliced
   split<;>simp[zds]
  rw[hv] at hr
  simp[execOp,ha.evo hx,ha.evo hy,run_sliceAt_slice (P:=P) (w:=w) t _ _ _ _ hu,hr])
end
end
section
open Go.RowKit
def za7(k:Nat):List Value:=[.int .i64 k]
def boolEnc(b:Bool):List Value:=[.bool b]
section
variable {P:Program}{C:Ctx}{Q:Exit→Act→World→Prop}{E:zaE}{S S':List Ent}{l rest:List Oper} 
variable {d ty ty2 ty3:Nat}{ps:String}{af:Array Edge}{g0:Option (Nat×Bool)}{x y:Operand}{v u z:Value}{s t e m M bytes g c n:Nat}{A:Option Addr}{cs:Array Value} 
theorem Mem.asOwn{α:Type}{enc:α→List Value}{w:World}(ls:List α)(hu:Upd S (zak g e cs) (zac enc M e (some ⟨g,0,Option.none⟩) ls.length ls) S')(hcs:cs.toList=ls.flatMap enc)(hM:∀x,(enc x).length=M)(hl:ls.length≤maxLen)(hw:Mem C w S):Mem C w S':=by
 have hb:Blk w g e cs:=(hw.holds _ hu.mem).1
 refine hw.upd hu (Keeps.refl [] w) (by simp) (fun k hk=>?_) ?_
 ·have:some g=some k:=hk
  cases this
  exact⟨hb.lt,.inl rfl⟩
 ·show Own enc M e w 0 (.slice (some ⟨g,0,Option.none⟩) ls.length ls.length) ls
  refine⟨zbo hM ls,.inr ⟨g,ls.length,cs,rfl,Nat.zero_le _,hb,Nat.le_refl _,hl,?_,?_⟩⟩
  ·have:=congrArg List.length hcs
   rw[zbo hM] at this
   simpa using this
  ·rw[hcs,List.take_of_length_le (by rw[zbo hM];exact Nat.le_refl _)]
theorem Mem.ownLe{α:Type}{enc:α→List Value}{ls:List α}{w:World}(hw:Mem C w S)(hm:zac enc M e A c ls∈S):ls.length≤c:=by
 have ho:Own enc M e w 0 (.slice A ls.length c) ls:=(hw.holds _ hm).1
 rcases ho.2 with⟨hv,_⟩|⟨g,cap,cur,hv,_,_,hnc,_⟩
 ·simp only[Value.slice.injEq] at hv;omega
 ·simp only[Value.slice.injEq] at hv;omega
theorem T_ownLe{α:Type}{enc:α→List Value}{ls:List α}{code:Code}(hm:zac enc M e A c ls∈S)(h:ls.length≤c→T P C code Q E S):T P C code Q E S :=
 ⟨fun a w ha hw=>(h (hw.ownLe hm)).run a w ha hw⟩
theorem TL_ownLe{α:Type}{enc:α→List Value}{ls:List α}(hm:zac enc M e A c ls∈S)(h:ls.length≤c→TL P C l Q rest E S):TL P C l Q rest E S :=
 ⟨fun a w ha hw=>(h (hw.ownLe hm)).run a w ha hw⟩
theorem zhF{α:Type}{enc:α→List Value}{ls:List α}(hm:zac enc M e A c ls∈S)(hl:0<ls.length)(h:∀g,A=some ⟨g,0,none⟩→TL P C l Q rest E S):TL P C l Q rest E S :=
 ⟨fun a w ha hw=>by
  have ho:Own enc M e w 0 (.slice A ls.length c) ls:=(hw.holds _ hm).1
  rcases ho.2 with⟨hn,h0⟩|⟨g,cap,cur,hv,_⟩
  ·omega
  ·simp only[Value.slice.injEq] at hv
   exact(h g hv.1).run a w ha hw⟩
theorem zdw(hS:∀w,Mem C w S→Mem C w S')(h:TL P C l Q rest E S'):TL P C l Q rest E S:=⟨fun a w ha hw=>h.run a w ha (hS w hw)⟩
theorem zaw{α:Type}{enc:α→List Value}{gy cy ty':Nat}{xx:α}{ls:List α}[hs:SliceOf P t e M][hi:InfoOf P e z M bytes]{S':Option Addr→Nat→List Ent}(hx:evo E x=some (.slice A ls.length c))(hy:evo E y=some (.slice (some ⟨gy,0,none⟩) 1 cy)) 
  (hm:zak gy ty' cs∈S) (hcs:cs.toList=enc xx) (hM:∀x,(enc x).length=M) (h1:∀x,(enc x).all (·.oneCell')=true)
  (hu:∀A' c',Upd S (zac enc M e A c ls) (zac enc M e A' c' (ls++[xx])) (S' A' c')) (hb:(ls.length+1) * bytes≤140737488355328) (hb0:0<bytes) (hd:Nat.ble (d+1) C.n=true) :
  ES P C E S ⟨some d,.call ⟨.builtin .append,#[x,y],#[t,t]⟩,ty,ps,af,g0⟩ (fun E' T=>∃A' c',E'=(d,.slice A' (ls++[xx]).length c')::E∧T=S' A' c') :=
 zbp (xs:=[xx]) hx hy (by have:=Lies.blk (C:=C) (n:=1) (c:=cy) hm;rw[hcs] at this;simpa using this) hM h1 hu hb hb0 hd
/-! numbers that wrap -/
section
variable {k:IntKind}{a b:Int}(hx:evo E x=some (.int k a))(hy:evo E y=some (.int k b)) 
include hx hy
theorem QS_addW:QS P C E S (.binOp .add ty2 x y ty3) ty (.int k (k.wrap (a+b))):=QS.of (fun _ w ha _=>zcQ ha hx hy _ (by simp[binOp,Op.intArith]))
end
/-! a slice, asked whether it is nil -/
section
variable [hs:SliceOf P t e m](hx:evo E x=some (.slice A n c))(hy:evo E y=some (.slice none 0 0)) 
include hs hx hy
theorem QS_eqlNil:QS P C E S (.binOp .eql t x y ty3) ty (.bool A.isNone) :=
 QS.of (fun a w ha _=>by
  have h2:=Lib.run_eql_slice_nil (P:=P) w t e A n c 0 0 hs.und
  have hg:(eqGuard .eql t x y (.slice A n c) (.slice none 0 0)).run P w=.ok () w:=by
   unfold eqGuard
   simp[run_underlying hs.und]
  simp only[execOp,ha.evo hx,ha.evo hy,Sem.run_bind,hg,Result.andThen_ok,h2];rfl)
theorem QS_neqNil:QS P C E S (.binOp .neq t x y ty3) ty (.bool (!A.isNone)) :=
 QS.of (fun a w ha _=>by
  have h2:=run_neq_slice_nil_any (P:=P) w t e A n c 0 0 hs.und
  have hg:(eqGuard .neq t x y (.slice A n c) (.slice none 0 0)).run P w=.ok () w:=by
   unfold eqGuard
   simp[run_underlying hs.und]
  simp only[execOp,ha.evo hx,ha.evo hy,Sem.run_bind,hg,Result.andThen_ok,h2];rfl)
end
theorem zbv{α:Type}(enc:α→List Value)[hs:SliceOf P t e m](hd:Nat.ble (d+1) C.n=true):ES P C E S ⟨some d,.buildSlice t 0 #[],ty,ps,af,g0⟩ (fun E' S'=>∃g,E'=(d,.slice (some ⟨g,0,none⟩) 0 0)::E∧S'=zac enc m e (some ⟨g,0,none⟩) 0 []::S):=by
 refine(zc3 (fun u S'=>∃g,u=.slice (some ⟨g,0,none⟩) 0 0∧S'=zac enc m e (some ⟨g,0,none⟩) 0 []::S) (fun a w ha hw=>?_) hd).weak (by rintro _ _ ⟨_,⟨g,rfl,rfl⟩,rfl⟩;exact⟨g,rfl,rfl⟩)
 refine⟨_,_,_,?_,hw.alloc (.cells #[] e) (e:=zac enc m e (some ⟨w.heap.size,0,none⟩) 0 []) (fun _ h=>h) ?_,_,rfl,rfl⟩
 ·have e0:(Array.range 0).map (fun _=>(default:Value))=#[]:=by simp[Array.range]
  simp[execOp,Instr.buildSlice,run_underlying hs.und,hs.size w,Instr.fill,newRow,e0]
 ·show Own enc m e _ 0 (.slice (some ⟨w.heap.size,0,none⟩) ([]:List α).length 0) []
  exact⟨by simp,.inr ⟨w.heap.size,0,#[],rfl,Nat.zero_le _,Blk.new _ _ _,Nat.le_refl _,by simp[maxLen],by simp,by simp⟩⟩
end
/-! results that lie in memory -/
section
variable {P:Program}{C:Ctx}{E:zaE}{S:List Ent} 
inductive ResIs (P:Program) (C:Ctx) (E:zaE) (S:List Ent):List ResultVar→List Value→Prop
 |nil:ResIs P C E S [] []
 |tmp {t:Nat} {v:Value} {r:List ResultVar} {vs:List Value} (hv:zeG t E=some v) (h:ResIs P C E S r vs):ResIs P C E S (.tmp t::r) (v::vs)
 |cell {a t:Nat} {ad:Addr} {v:Value} {r:List ResultVar} {vs:List Value} (ha:zeG a E=some (.pointer (some ad))) (hl:Lds P C S t ad v) (h:ResIs P C E S r vs):ResIs P C E S (.cell a t::r) (v::vs)
theorem results_is{fn:Func}{rs:List ResultVar}{vs:List Value}{a:Act}{w:World}(hfn:fn.results=rs.toArray)(ha:Env C.n a E)(hw:Mem C w S)(h:ResIs P C E S rs vs):(results fn a.tmps).run P w=.ok (za0 vs) w:=by
 have key:(rs.mapM (resG a.tmps)).run P w=.ok vs w:=by
  induction h generalizing fn with
  |nil=>simp
  |@tmp t v r vs hv _ ih =>
   have:=ha.2.2 t v hv
   simp[List.mapM_cons,ih (fn:={ fn with results:=r.toArray }) rfl,resG,this]
  |@cell a' t ad v r vs hv hl _ ih =>
   have:=ha.2.2 a' _ hv
   have h1:(asAddr (Value.pointer (some ad))).run P w=.ok ad w:=rfl
   simp[List.mapM_cons,ih (fn:={ fn with results:=r.toArray }) rfl,resG,this,h1,hl w hw]
 have e:results fn a.tmps=(do let vs ←fn.results.mapM (resG a.tmps);pure (if h:vs.size=1 then vs[0] else .tuple vs)):=rfl
 rw[e,hfn]
 simp only[Array.mapM_eq_mapM_toList,Sem.run_bind,Sem.run_map,key]
 match vs with
 |[]=>simp[za0]
 |[v]=>simp[za0]
 |u::v::vs=>simp[za0]
theorem zau{fn:Func}{R:Ending→World→Prop}{rs:List ResultVar}{vs:List Value}(hfn:fn.results=rs.toArray)(hr:ResIs P C E S rs vs)(h:∀w,Mem C w S→R (.returned (za0 vs)) w):At C (bodyPost P fn R .ret) E S :=
 ⟨fun a w ha hw=>⟨ha.1,_,results_is hfn ha hw hr,h w hw⟩⟩
end
end
section
open Go.RowKit
def intV(n:Int):Value:=.int .i64 n
def boolV(b:Bool):Value:=.bool b
def zbG{α:Type}(enc:α→Value)(D:List (Int×α)):List (Value×Value):=D.map fun p=>(.int .i64 p.1,enc p.2)
def BornOk(es:Array MapEntry)(cl:Nat):Prop:=(es.toList.map (·.born)).Nodup∧∀x∈es.toList,x.born<cl
def MapI{α:Type}(enc:α→Value)(w:World)(g:Nat)(D:List (Int×α)):Prop :=
 ∃es clock,w.heap[g]?=some (.map es clock)∧es.toList.map (fun e=>(e.key,e.val))=zbG enc D∧BornOk es clock
theorem born_push{es:Array MapEntry}{cl:Nat}(h:BornOk es cl)(k v:Value):BornOk (es.push { key:=k,val:=v,born:=cl }) (cl+1):=by
 refine⟨?_,fun x hx=>?_⟩
 ·rw[Array.toList_push,List.map_append,List.nodup_append]
  refine⟨h.1,by simp,fun a ha b hb=>?_⟩
  obtain⟨x,hx,rfl⟩:=List.mem_map.1 ha
  have:=h.2 x hx
  simp at hb
  omega
 ·rw[Array.toList_push] at hx
  rcases List.mem_append.1 hx with h1|h1
  ·have:=h.2 x h1;omega
  ·simp at h1;subst h1;exact Nat.lt_succ_self _
theorem born_modify{es:Array MapEntry}{cl:Nat}(h:BornOk es cl)(i:Nat)(f:MapEntry→MapEntry)(hf:∀x,(f x).born=x.born):BornOk (es.modify i f) cl:=by
 have e:(es.modify i f).toList.map (·.born)=es.toList.map (·.born):=by
  apply List.ext_getElem?
  intro j
  simp only[Array.toList_modify,List.getElem?_map,List.getElem?_modify]
  by_cases e:i=j
  ·subst e;cases es.toList[i]?<;>simp[hf]
  ·simp[if_neg e]
 refine⟨by rw[e];exact h.1,fun x hx=>?_⟩
 have h1:x.born∈(es.modify i f).toList.map (·.born):=List.mem_map.2 ⟨x,hx,rfl⟩
 rw[e] at h1
 obtain⟨y,hy,e2⟩:=List.mem_map.1 h1
 rw[←e2]
 exact h.2 y hy
def zcv{α:Type}(enc:α→Value)(g:Nat)(D:List (Int×α)):Ent :=
 ⟨fun k=>some g=some k,[g],fun k=>by simp[eq_comm],fun w=>MapI enc w g D,fun _ _ h hp=>by
  obtain⟨es,c,h1,h2⟩:=hp
  exact⟨es,c,(h g rfl).trans h1,h2⟩⟩
def zgP{α:Type}:List (Int×α)→Int→α→List (Int×α)
 |[],k,v=>[(k,v)]
 |p::D,k,v=>if k=p.1 then(k,v)::D else p::zgP D k v
def zcs{α:Type}:List (Int×α)→Int→Option α
 |[],_=>none
 |p::D,k=>if k=p.1 then some p.2 else zcs D k
theorem zeO{α:Type}(k:Int)(v:α)(x:Int):∀D:List (Int×α),zcs (zgP D k v) x=if x=k then some v else zcs D x
 |[]=>by simp[zgP,zcs]
 |p::D=>by
  unfold zgP
  split
  ·rename_i h
   subst h
   simp only[zcs]
   split<;>rfl
  ·rename_i h
   simp only[zcs,zeO k v x D]
   by_cases e:x=p.1
   ·subst e;rw[if_pos rfl,if_neg (fun e=>h e.symm),if_pos rfl]
   ·rw[if_neg e,if_neg e]
def ziS{α:Type}:List (Int×α)→Int→Nat→Option (Nat×α)
 |[],_,_=>none
 |p::D,k,i=>if k=p.1 then some (i,p.2) else ziS D k (i+1)
theorem findD_look{α:Type}(k:Int):∀(D:List (Int×α)) (i:Nat),(ziS D k i).map (·.2)=zcs D k
 |[],_=>rfl
 |p::D,i=>by simp only[ziS,zcs];split<;>simp[findD_look k D]
theorem findD_put{α:Type}(k:Int)(v:α):∀(D:List (Int×α)) (i:Nat),match ziS D k i with
  |some (j,_)=>i≤j∧(∃u,D[j-i]?=some (k,u))∧zgP D k v=D.modify (j-i) (fun _=>(k,v))
  |none=>zgP D k v=D++[(k,v)]
 |[],_=>rfl
 |p::D,i=>by
  simp only[ziS]
  by_cases h:k=p.1
  ·rw[if_pos h]
   refine⟨Nat.le_refl _,⟨p.2,by simp[h]⟩,by simp[zgP,h]⟩
  ·rw[if_neg h]
   have ih:=findD_put k v D (i+1)
   cases hf:ziS D k (i+1) with
   |none=>rw[hf] at ih;simp only at ih ⊢;simp[zgP,h,ih]
   |some q =>
    rw[hf] at ih
    obtain⟨j,u⟩:=q
    simp only at ih ⊢
    obtain⟨h1,⟨u',h2⟩,h3⟩:=ih
    have e:j-i=(j-(i+1))+1:=by omega
    refine⟨by omega,⟨u',by rw[e];simpa using h2⟩,?_⟩
    rw[e,List.modify_succ_cons,←h3]
    simp[zgP,h]
theorem ziT{α:Type}(enc:α→Value)(x:Int):∀(es:List MapEntry) (D:List (Int×α)) (i:Nat),es.map (fun e=>(e.key,e.val))=zbG enc D →
  Instr.findNow (.int .i64) (.int .i64 x) es i=some ((ziS D x i).map fun p=>(p.1,enc p.2))
 |[],[],_,_=>rfl
 |[],p::D,_,h=>by simp[zbG] at h
 |e::es,[],_,h=>by simp[zbG] at h
 |e::es,p::D,i,h=>by
  simp only[zbG,List.map_cons,List.cons.injEq,Prod.mk.injEq] at h
  obtain⟨⟨h1,h2⟩,h3⟩:=h
  have ih:=ziT enc x es D (i+1) h3
  simp only[Instr.findNow,h1,Instr.sameNow,if_true,ziS]
  by_cases hx:x=p.1
  ·subst hx;simp[h2]
  ·have:(x == p.1)=false:=by simpa using hx
   rw[this,if_neg hx]
   exact ih
section
variable {P:Program}{C:Ctx}{Q:Exit→Act→World→Prop}{E:zaE}{S S':List Ent} 
variable {d ty ty2 ty3:Nat}{ps:String}{af:Array Edge}{g0:Option (Nat×Bool)}{x y m:Operand}{t k e g:Nat}{n:Int} 
theorem zhG[hm:MapOf P t k e](b:Bool)(w:World):(Instr.checkKey b 10000 k (.int .i64 n)).run P w=.ok () w:=by
 unfold Instr.checkKey
 simp[run_underlying hm.key]
theorem ziU[hm:MapOf P t k e]{α:Type}(enc:α→Value)(es:List MapEntry)(D:List (Int×α))(h:es.map (fun e=>(e.key,e.val))=zbG enc D)(w:World):
  (Instr.findKey k (.int .i64 n) es).run P w=.ok ((ziS D n 0).map fun p=>(p.1,enc p.2)) w:=by
 unfold Instr.findKey
 simp[run_underlying hm.key,ziT enc n es D 0 h]
theorem run_lookup[hm:MapOf P t k e]{z:Value}[hz:ZeroOf P e z]{α:Type}{enc:α→Value}{z0:α}(he:enc z0=z){D:List (Int×α)}{w:World}(hD:MapI enc w g D)(ok:Bool):
  (Instr.lookup t (.map (some g)) (.int .i64 n) ok).run P w=.ok (if ok then .tuple #[enc ((zcs D n).getD z0),.bool (zcs D n).isSome] else enc ((zcs D n).getD z0)) w:=by
 obtain⟨es,cl,hg,hes,hbo⟩:=hD
 have hgo:(getObj g).run P w=.ok (.map es cl) w:=by simp[getObj,Sem.run,hg]
 have h1:=zhG (hm:=hm) (n:=n) es.isEmpty w
 have h2:=ziU (hm:=hm) (n:=n) enc es.toList D hes w
 have h3:=findD_look n D 0
 unfold Instr.lookup
 simp only[run_underlying hm.und,Sem.run_bind,Result.andThen_ok,hgo,Sem.run_pure,h1,h2]
 cases hf:ziS D n 0 with
 |none =>
  rw[hf] at h3
  have h3':zcs D n=none:=h3.symm
  simp[hz.run w,h3',he]
 |some p =>
  rw[hf] at h3
  have h3':zcs D n=some p.2:=h3.symm
  simp[h3']
theorem run_mapUpdate[hm:MapOf P t k e]{α:Type}{enc:α→Value}{D:List (Int×α)}{w:World}(hD:MapI enc w g D)(v:α):
  ∃w',(Instr.mapUpdate t (.map (some g)) (.int .i64 n) (enc v)).run P w=.ok () w'∧MapI enc w' g (zgP D n v)∧Keeps [g] w w':=by
 obtain⟨es,cl,hg,hes,hbo⟩:=hD
 have hlt:g<w.heap.size:=(Array.getElem?_eq_some_iff.1 hg).1
 have hgo:(getObj g).run P w=.ok (.map es cl) w:=by simp[getObj,Sem.run,hg]
 have h1:=zhG (hm:=hm) (n:=n) false w
 have h2:=ziU (hm:=hm) (n:=n) enc es.toList D hes w
 have hput:=findD_put n v D 0
 have hset:∀o:Obj,(setObj g o).run P w=.ok () { w with heap:=w.heap.setIfInBounds g o }:=fun o=>by simp[setObj,Sem.run,hg]
 have hk:∀o:Obj,Keeps [g] w { w with heap:=w.heap.setIfInBounds g o }:=fun o=>⟨rfl,rfl,rfl,by simp,fun j _ hj=>by
  simp only[List.mem_singleton] at hj
  exact Array.getElem?_setIfInBounds_ne (fun e=>hj e.symm)⟩
 have hget:∀o:Obj,({ w with heap:=w.heap.setIfInBounds g o }:World).heap[g]?=some o:=fun o=>by simp[hlt]
 unfold Instr.mapUpdate
 simp only[run_underlying hm.und,Sem.run_bind,Result.andThen_ok,hgo,h1,h2]
 cases hf:ziS D n 0 with
 |none =>
  rw[hf] at hput
  simp only[Option.map_none,hset]
  refine⟨_,rfl,⟨_,_,hget _,?_,born_push hbo _ _⟩,hk _⟩
  rw[show zgP D n v=D++[(n,v)] from hput]
  simp[zbG] at hes ⊢
  exact hes
 |some p =>
  obtain⟨i,u⟩:=p
  rw[hf] at hput
  simp only[Nat.sub_zero] at hput
  obtain⟨_,⟨u',hu⟩,hp⟩:=hput
  have hi:i<es.size:=by
   have h4:=congrArg List.length hes
   have h5:=(List.getElem?_eq_some_iff.1 hu).1
   simp[zbG] at h4
   omega
  have hkey:es[i].key=.int .i64 n:=by
   have h6:(es.toList.map fun e=>(e.key,e.val))[i]?=some (es[i].key,es[i].val):=by simp[hi]
   rw[hes] at h6
   simp only[zbG,List.getElem?_map,hu,Option.map_some,Option.some.injEq,Prod.mk.injEq] at h6
   exact h6.1.symm
  have hst:(Instr.keyThatStays (.int .i64 n) (.int .i64 n)).run P w=.ok (.int .i64 n) w:=by
   unfold Instr.keyThatStays
   rw[if_pos (by simp[Instr.sameBits])]
   rfl
  simp only[Option.map_some,Array.getElem?_eq_getElem hi,Option.getD_some,hkey,Sem.run_bind,hst,Result.andThen_ok,hset]
  refine⟨_,rfl,⟨_,_,hget _,?_,born_modify hbo _ _ (fun _=>rfl)⟩,hk _⟩
  rw[hp]
  apply List.ext_getElem?
  intro j
  have hj:=congrArg (·[j]?) hes
  simp only[zbG,List.getElem?_map] at hj ⊢
  rw[List.getElem?_modify]
  simp only[Array.toList_modify,List.getElem?_modify]
  by_cases e:i=j
  ·subst e
   simp only[if_true,hu,Option.map_some]
   have:es.toList[i]?=some es[i]:=by simp[hi]
   rw[this];rfl
  ·simp only[if_neg e]
   cases h7:es.toList[j]?<;>cases h8:D[j]?<;>rw[h7,h8] at hj<;>simp_all
theorem ES_makeMap{α:Type}(enc:α→Value)(hd:Nat.ble (d+1) C.n=true):ES P C E S ⟨some d,.makeMap t none,ty,ps,af,g0⟩ (fun E' S'=>∃g,E'=(d,.map (some g))::E∧S'=zcv enc g []::S):=by
 refine(zc3 (fun u S'=>∃g,u=.map (some g)∧S'=zcv enc g []::S) (fun a w ha hw=>?_) hd).weak (by rintro _ _ ⟨_,⟨g,rfl,rfl⟩,rfl⟩;exact⟨g,rfl,rfl⟩)
 refine⟨_,_,_,?_,hw.alloc (.map #[] 0) (e:=zcv enc w.heap.size []) (fun _ h=>h) ⟨#[],0,heap_alloc_new w _,rfl,by simp[BornOk]⟩,_,rfl,rfl⟩
 simp[execOp,Instr.makeMap,newObj,Sem.run]
theorem ziV[MapOf P t k e][ZeroOf P e (.int .i64 0)](hd:Nat.ble (d+1) C.n=true):ES P C E S ⟨some d,.makeMap t none,ty,ps,af,g0⟩ (fun E' S'=>∃g,E'=(d,.map (some g))::E∧S'=zcv intV g []::S):=ES_makeMap intV hd
theorem zfO[MapOf P t k e][ZeroOf P e (.bool false)](hd:Nat.ble (d+1) C.n=true):ES P C E S ⟨some d,.makeMap t none,ty,ps,af,g0⟩ (fun E' S'=>∃g,E'=(d,.map (some g))::E∧S'=zcv boolV g []::S):=ES_makeMap boolV hd
section
variable [hm:MapOf P t k e](hx:evo E m=some (.map (some g)))(hy:evo E x=some (.int .i64 n)) 
include hm hx
include hy
theorem QS_lookI{D:List (Int×Int)}[hz:ZeroOf P e (.int .i64 0)](hD:zcv intV g D∈S):QS P C E S (.lookup t m x false) ty (.int .i64 ((zcs D n).getD 0)) :=
 QS.of (fun a w ha hw=>by
  have h:=run_lookup (hm:=hm) (n:=n) (enc:=intV) (z0:=0) rfl (hw.holds _ hD).1 false
  simp only[execOp,ha.evo hx,ha.evo hy,Sem.run_bind,h,Result.andThen_ok];rfl)
theorem QS_lookB{D:List (Int×Bool)}[hz:ZeroOf P e (.bool false)](hD:zcv boolV g D∈S):QS P C E S (.lookup t m x false) ty (.bool ((zcs D n).getD false)) :=
 QS.of (fun a w ha hw=>by
  have h:=run_lookup (hm:=hm) (n:=n) (enc:=boolV) (z0:=false) rfl (hw.holds _ hD).1 false
  simp only[execOp,ha.evo hx,ha.evo hy,Sem.run_bind,h,Result.andThen_ok];rfl)
theorem zhH{α:Type}{enc:α→Value}{D:List (Int×α)}{v:α}(hu:Upd S (zcv enc g D) (zcv enc g (zgP D n v)) S')(hv:evo E y=some (enc v)):ES P C E S ⟨none,.mapUpdate t m x y,ty,ps,af,g0⟩ (fun E' T=>E'=E∧T=S'):=by
 refine(zg0 (fun T=>T=S') (fun a w ha hw=>?_)).weak (by rintro _ _ ⟨rfl,rfl⟩;exact⟨rfl,rfl⟩)
 obtain⟨w',hr,hD',hk⟩:=run_mapUpdate (hm:=hm) (n:=n) (hw.holds _ hu.mem).1 v
 refine⟨w',S',by simp[execOp,ha.evo hx,ha.evo hy,ha.evo hv,hr],?_,rfl⟩
 refine hw.upd hu hk (by simp[zcv]) (fun k hk'=>?_) hD'
 have:some g=some k:=hk'
 cases this
 obtain⟨es,cl,hg,_⟩:=hD'
 exact⟨(Array.getElem?_eq_some_iff.1 hg).1,.inl rfl⟩
end
end
end
end Go.Proofs.YtjdckepbihcgfaaGreatDoor
