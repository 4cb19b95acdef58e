/- The seat's types as Lean types, and what the program's tables say of them. -/
import Derived.Test.YtbdopnhfbjdegaaKinds
import Derived.Test.YtbdopnhfbjdegaaProg
namespace Go.Proofs.Ytbdopnhfbjdegaa
open Go Go.Tr
set_option linter.unusedVariables false
theorem mixed : Try.prog.follows .mixedOrders = true := by kernel_rfl
/-- struct {} -/
structure S61 where
  deriving DecidableEq
def k61 : Kd S61 := kIso kU (fun _ => ()) (fun _ => ⟨⟩) (fun _ => rfl) (fun _ => rfl)
def z61 : S61 := ⟨⟩
/-- struct { _ atomic.noCopy; _ atomic.align64; v int64 } -/
structure S64 where
  f0 : S61
  f1 : S61
  f2 : Int
  deriving DecidableEq
def k64 : Kd S64 := kIso (kPair k61 (kPair k61 (kI .i64))) (fun x => (x.f0, x.f1, x.f2)) (fun x => ⟨x.1, x.2.1, x.2.2⟩) (fun _ => rfl) (fun _ => rfl)
def z64 : S64 := ⟨z61, z61, 0⟩
/-- struct { in int; out int; conns [65]*net.conn; moved atomic.Int64 } -/
structure S66 where
  f0 : Int
  f1 : Int
  f2 : Ar 65 (Option Addr)
  f3 : S64
def k66 : Kd S66 := kIso (kPair (kI .i64) (kPair (kI .i64) (kPair (kA 65 kP) k64))) (fun x => (x.f0, x.f1, x.f2, x.f3)) (fun x => ⟨x.1, x.2.1, x.2.2.1, x.2.2.2⟩) (fun _ => rfl) (fun _ => rfl)
def z66 : S66 := ⟨0, 0, (Ar.rep 65 none), z64⟩
/-- struct { bytes []uint8; room int } -/
structure S70 where
  f0 : Sl
  f1 : Int
  deriving DecidableEq
def k70 : Kd S70 := kIso (kPair kL (kI .i64)) (fun x => (x.f0, x.f1)) (fun x => ⟨x.1, x.2⟩) (fun _ => rfl) (fun _ => rfl)
def z70 : S70 := ⟨Sl.nil, 0⟩
/-- struct { way net.buffer; in net.buffer } -/
structure S72 where
  f0 : S70
  f1 : S70
  deriving DecidableEq
def k72 : Kd S72 := kIso (kPair k70 k70) (fun x => (x.f0, x.f1)) (fun x => ⟨x.1, x.2⟩) (fun _ => rfl) (fun _ => rfl)
def z72 : S72 := ⟨z70, z70⟩
/-- struct { net.inward; net.buffer; heard []uint8; closed bool; cut bool } -/
structure S74 where
  f0 : S72
  f1 : S70
  f2 : Sl
  f3 : Bool
  f4 : Bool
  deriving DecidableEq
def k74 : Kd S74 := kIso (kPair k72 (kPair k70 (kPair kL (kPair kB kB)))) (fun x => (x.f0, x.f1, x.f2, x.f3, x.f4)) (fun x => ⟨x.1, x.2.1, x.2.2.1, x.2.2.2.1, x.2.2.2.2⟩) (fun _ => rfl) (fun _ => rfl)
def z74 : S74 := ⟨z72, z70, Sl.nil, false, false⟩
/-- struct { There bool; Closed bool; Cut bool; Way []uint8; In []uint8; Out []uint8; Heard []uint8 } -/
structure S97 where
  f0 : Bool
  f1 : Bool
  f2 : Bool
  f3 : Sl
  f4 : Sl
  f5 : Sl
  f6 : Sl
  deriving DecidableEq
def k97 : Kd S97 := kIso (kPair kB (kPair kB (kPair kB (kPair kL (kPair kL (kPair kL kL)))))) (fun x => (x.f0, x.f1, x.f2, x.f3, x.f4, x.f5, x.f6)) (fun x => ⟨x.1, x.2.1, x.2.2.1, x.2.2.2.1, x.2.2.2.2.1, x.2.2.2.2.2.1, x.2.2.2.2.2.2⟩) (fun _ => rfl) (fun _ => rfl)
def z97 : S97 := ⟨false, false, false, Sl.nil, Sl.nil, Sl.nil, Sl.nil⟩
/-- struct { In int; Out int; L []spateref16.Conn; Moved int } -/
structure S82 where
  f0 : Int
  f1 : Int
  f2 : Sl
  f3 : Int
  deriving DecidableEq
def k82 : Kd S82 := kIso (kPair (kI .i64) (kPair (kI .i64) (kPair kL (kI .i64)))) (fun x => (x.f0, x.f1, x.f2, x.f3)) (fun x => ⟨x.1, x.2.1, x.2.2.1, x.2.2.2⟩) (fun _ => rfl) (fun _ => rfl)
def z82 : S82 := ⟨0, 0, Sl.nil, 0⟩
/-- struct { Kind int; C int; B []uint8; Most int } -/
structure S48 where
  f0 : Int
  f1 : Int
  f2 : Sl
  f3 : Int
  deriving DecidableEq
def k48 : Kd S48 := kIso (kPair (kI .i64) (kPair (kI .i64) (kPair kL (kI .i64)))) (fun x => (x.f0, x.f1, x.f2, x.f3)) (fun x => ⟨x.1, x.2.1, x.2.2.1, x.2.2.2⟩) (fun _ => rfl) (fun _ => rfl)
def z48 : S48 := ⟨0, 0, Sl.nil, 0⟩
theorem ty3 : TyOK Try.prog 3 (kI .i64).n (kI .i64).agg := ⟨by kernel_rfl, by kernel_rfl⟩
theorem zero3 : (Try.prog.info? 3).bind (·.zero) = some (.int .i64 0) := by kernel_rfl
theorem ty4 : TyOK Try.prog 4 kB.n kB.agg := ⟨by kernel_rfl, by kernel_rfl⟩
theorem zero4 : (Try.prog.info? 4).bind (·.zero) = some (.bool false) := by kernel_rfl
theorem ty5 : TyOK Try.prog 5 (kI .u8).n (kI .u8).agg := ⟨by kernel_rfl, by kernel_rfl⟩
theorem zero5 : (Try.prog.info? 5).bind (·.zero) = some (.int .u8 0) := by kernel_rfl
theorem ty29 : TyOK Try.prog 29 kL.n kL.agg := ⟨by kernel_rfl, by kernel_rfl⟩
theorem zero29 : (Try.prog.info? 29).bind (·.zero) = some (.slice none 0 0) := by kernel_rfl
theorem ty49 : TyOK Try.prog 49 k48.n k48.agg := ⟨by kernel_rfl, by kernel_rfl⟩
theorem zero49 : (Try.prog.info? 49).bind (·.zero) = some (.agg #[.int .i64 0, .int .i64 0, .slice none 0 0, .int .i64 0]) := by kernel_rfl
theorem ty59 : TyOK Try.prog 59 kP.n kP.agg := ⟨by kernel_rfl, by kernel_rfl⟩
theorem zero59 : (Try.prog.info? 59).bind (·.zero) = some (.pointer none) := by kernel_rfl
theorem ty81 : TyOK Try.prog 81 kL.n kL.agg := ⟨by kernel_rfl, by kernel_rfl⟩
theorem zero81 : (Try.prog.info? 81).bind (·.zero) = some (.slice none 0 0) := by kernel_rfl
theorem ty98 : TyOK Try.prog 98 k97.n k97.agg := ⟨by kernel_rfl, by kernel_rfl⟩
theorem zero98 : (Try.prog.info? 98).bind (·.zero) = some (.agg #[.bool false, .bool false, .bool false, .slice none 0 0, .slice none 0 0, .slice none 0 0, .slice none 0 0]) := by kernel_rfl
theorem el3 : ElemOK Try.prog 3 (kI .i64).n 8 (((kI .i64).enc 0)) := ⟨by
  have h : (Try.prog.info? 3).map (fun i => (i.zero, i.size, i.bytes)) = some (some (.int .i64 0), (kI .i64).n, 8) := by kernel_rfl
  simp only [Option.map_eq_some_iff, Prod.mk.injEq] at h
  obtain ⟨i, hi, h1, h2, h3⟩ := h
  exact ⟨i, _, hi, h1, by rfl, h2, h3⟩⟩
theorem el5 : ElemOK Try.prog 5 (kI .u8).n 1 (((kI .u8).enc 0)) := ⟨by
  have h : (Try.prog.info? 5).map (fun i => (i.zero, i.size, i.bytes)) = some (some (.int .u8 0), (kI .u8).n, 1) := by kernel_rfl
  simp only [Option.map_eq_some_iff, Prod.mk.injEq] at h
  obtain ⟨i, hi, h1, h2, h3⟩ := h
  exact ⟨i, _, hi, h1, by rfl, h2, h3⟩⟩
theorem el29 : ElemOK Try.prog 29 kL.n 24 ((kL.enc Sl.nil)) := ⟨by
  have h : (Try.prog.info? 29).map (fun i => (i.zero, i.size, i.bytes)) = some (some (.slice none 0 0), kL.n, 24) := by kernel_rfl
  simp only [Option.map_eq_some_iff, Prod.mk.injEq] at h
  obtain ⟨i, hi, h1, h2, h3⟩ := h
  exact ⟨i, _, hi, h1, by rfl, h2, h3⟩⟩
theorem el98 : ElemOK Try.prog 98 k97.n 104 ((k97.enc z97)) := ⟨by
  have h : (Try.prog.info? 98).map (fun i => (i.zero, i.size, i.bytes)) = some (some (.agg #[.bool false, .bool false, .bool false, .slice none 0 0, .slice none 0 0, .slice none 0 0, .slice none 0 0]), k97.n, 104) := by kernel_rfl
  simp only [Option.map_eq_some_iff, Prod.mk.injEq] at h
  obtain ⟨i, hi, h1, h2, h3⟩ := h
  exact ⟨i, _, hi, h1, by rfl, h2, h3⟩⟩
theorem fd49_0 : FieldOK Try.prog 49 0 0 := ⟨by
  have h : ((Try.prog.underlying 49).bind fun | .struct fs => fs[0]? | _ => none).map (fun f => (f.offset, (Try.prog.info? f.type).map (·.size))) = some (0, some 1) := by kernel_rfl
  exact field_of h (by decide)⟩
theorem fd49_1 : FieldOK Try.prog 49 1 1 := ⟨by
  have h : ((Try.prog.underlying 49).bind fun | .struct fs => fs[1]? | _ => none).map (fun f => (f.offset, (Try.prog.info? f.type).map (·.size))) = some (1, some 1) := by kernel_rfl
  exact field_of h (by decide)⟩
theorem fd49_2 : FieldOK Try.prog 49 2 2 := ⟨by
  have h : ((Try.prog.underlying 49).bind fun | .struct fs => fs[2]? | _ => none).map (fun f => (f.offset, (Try.prog.info? f.type).map (·.size))) = some (2, some 1) := by kernel_rfl
  exact field_of h (by decide)⟩
theorem fd49_3 : FieldOK Try.prog 49 3 3 := ⟨by
  have h : ((Try.prog.underlying 49).bind fun | .struct fs => fs[3]? | _ => none).map (fun f => (f.offset, (Try.prog.info? f.type).map (·.size))) = some (3, some 1) := by kernel_rfl
  exact field_of h (by decide)⟩
theorem fd65_2 : FieldOK Try.prog 65 2 0 := ⟨by
  have h : ((Try.prog.underlying 65).bind fun | .struct fs => fs[2]? | _ => none).map (fun f => (f.offset, (Try.prog.info? f.type).map (·.size))) = some (0, some 1) := by kernel_rfl
  exact field_of h (by decide)⟩
theorem fd67_0 : FieldOK Try.prog 67 0 0 := ⟨by
  have h : ((Try.prog.underlying 67).bind fun | .struct fs => fs[0]? | _ => none).map (fun f => (f.offset, (Try.prog.info? f.type).map (·.size))) = some (0, some 1) := by kernel_rfl
  exact field_of h (by decide)⟩
theorem fd67_1 : FieldOK Try.prog 67 1 1 := ⟨by
  have h : ((Try.prog.underlying 67).bind fun | .struct fs => fs[1]? | _ => none).map (fun f => (f.offset, (Try.prog.info? f.type).map (·.size))) = some (1, some 1) := by kernel_rfl
  exact field_of h (by decide)⟩
theorem fd67_2 : FieldOK Try.prog 67 2 2 := ⟨by
  have h : ((Try.prog.underlying 67).bind fun | .struct fs => fs[2]? | _ => none).map (fun f => (f.offset, (Try.prog.info? f.type).map (·.size))) = some (2, some 65) := by kernel_rfl
  exact field_of h (by decide)⟩
theorem fd67_3 : FieldOK Try.prog 67 3 67 := ⟨by
  have h : ((Try.prog.underlying 67).bind fun | .struct fs => fs[3]? | _ => none).map (fun f => (f.offset, (Try.prog.info? f.type).map (·.size))) = some (67, some 1) := by kernel_rfl
  exact field_of h (by decide)⟩
theorem fd71_0 : FieldOK Try.prog 71 0 0 := ⟨by
  have h : ((Try.prog.underlying 71).bind fun | .struct fs => fs[0]? | _ => none).map (fun f => (f.offset, (Try.prog.info? f.type).map (·.size))) = some (0, some 1) := by kernel_rfl
  exact field_of h (by decide)⟩
theorem fd71_1 : FieldOK Try.prog 71 1 1 := ⟨by
  have h : ((Try.prog.underlying 71).bind fun | .struct fs => fs[1]? | _ => none).map (fun f => (f.offset, (Try.prog.info? f.type).map (·.size))) = some (1, some 1) := by kernel_rfl
  exact field_of h (by decide)⟩
theorem fd73_0 : FieldOK Try.prog 73 0 0 := ⟨by
  have h : ((Try.prog.underlying 73).bind fun | .struct fs => fs[0]? | _ => none).map (fun f => (f.offset, (Try.prog.info? f.type).map (·.size))) = some (0, some 2) := by kernel_rfl
  exact field_of h (by decide)⟩
theorem fd73_1 : FieldOK Try.prog 73 1 2 := ⟨by
  have h : ((Try.prog.underlying 73).bind fun | .struct fs => fs[1]? | _ => none).map (fun f => (f.offset, (Try.prog.info? f.type).map (·.size))) = some (2, some 2) := by kernel_rfl
  exact field_of h (by decide)⟩
theorem fd75_0 : FieldOK Try.prog 75 0 0 := ⟨by
  have h : ((Try.prog.underlying 75).bind fun | .struct fs => fs[0]? | _ => none).map (fun f => (f.offset, (Try.prog.info? f.type).map (·.size))) = some (0, some 4) := by kernel_rfl
  exact field_of h (by decide)⟩
theorem fd75_1 : FieldOK Try.prog 75 1 4 := ⟨by
  have h : ((Try.prog.underlying 75).bind fun | .struct fs => fs[1]? | _ => none).map (fun f => (f.offset, (Try.prog.info? f.type).map (·.size))) = some (4, some 2) := by kernel_rfl
  exact field_of h (by decide)⟩
theorem fd75_2 : FieldOK Try.prog 75 2 6 := ⟨by
  have h : ((Try.prog.underlying 75).bind fun | .struct fs => fs[2]? | _ => none).map (fun f => (f.offset, (Try.prog.info? f.type).map (·.size))) = some (6, some 1) := by kernel_rfl
  exact field_of h (by decide)⟩
theorem fd75_3 : FieldOK Try.prog 75 3 7 := ⟨by
  have h : ((Try.prog.underlying 75).bind fun | .struct fs => fs[3]? | _ => none).map (fun f => (f.offset, (Try.prog.info? f.type).map (·.size))) = some (7, some 1) := by kernel_rfl
  exact field_of h (by decide)⟩
theorem fd75_4 : FieldOK Try.prog 75 4 8 := ⟨by
  have h : ((Try.prog.underlying 75).bind fun | .struct fs => fs[4]? | _ => none).map (fun f => (f.offset, (Try.prog.info? f.type).map (·.size))) = some (8, some 1) := by kernel_rfl
  exact field_of h (by decide)⟩
theorem fd83_0 : FieldOK Try.prog 83 0 0 := ⟨by
  have h : ((Try.prog.underlying 83).bind fun | .struct fs => fs[0]? | _ => none).map (fun f => (f.offset, (Try.prog.info? f.type).map (·.size))) = some (0, some 1) := by kernel_rfl
  exact field_of h (by decide)⟩
theorem fd83_1 : FieldOK Try.prog 83 1 1 := ⟨by
  have h : ((Try.prog.underlying 83).bind fun | .struct fs => fs[1]? | _ => none).map (fun f => (f.offset, (Try.prog.info? f.type).map (·.size))) = some (1, some 1) := by kernel_rfl
  exact field_of h (by decide)⟩
theorem fd83_2 : FieldOK Try.prog 83 2 2 := ⟨by
  have h : ((Try.prog.underlying 83).bind fun | .struct fs => fs[2]? | _ => none).map (fun f => (f.offset, (Try.prog.info? f.type).map (·.size))) = some (2, some 1) := by kernel_rfl
  exact field_of h (by decide)⟩
theorem fd83_3 : FieldOK Try.prog 83 3 3 := ⟨by
  have h : ((Try.prog.underlying 83).bind fun | .struct fs => fs[3]? | _ => none).map (fun f => (f.offset, (Try.prog.info? f.type).map (·.size))) = some (3, some 1) := by kernel_rfl
  exact field_of h (by decide)⟩
theorem fd98_0 : FieldOK Try.prog 98 0 0 := ⟨by
  have h : ((Try.prog.underlying 98).bind fun | .struct fs => fs[0]? | _ => none).map (fun f => (f.offset, (Try.prog.info? f.type).map (·.size))) = some (0, some 1) := by kernel_rfl
  exact field_of h (by decide)⟩
theorem fd98_1 : FieldOK Try.prog 98 1 1 := ⟨by
  have h : ((Try.prog.underlying 98).bind fun | .struct fs => fs[1]? | _ => none).map (fun f => (f.offset, (Try.prog.info? f.type).map (·.size))) = some (1, some 1) := by kernel_rfl
  exact field_of h (by decide)⟩
theorem fd98_2 : FieldOK Try.prog 98 2 2 := ⟨by
  have h : ((Try.prog.underlying 98).bind fun | .struct fs => fs[2]? | _ => none).map (fun f => (f.offset, (Try.prog.info? f.type).map (·.size))) = some (2, some 1) := by kernel_rfl
  exact field_of h (by decide)⟩
theorem fd98_3 : FieldOK Try.prog 98 3 3 := ⟨by
  have h : ((Try.prog.underlying 98).bind fun | .struct fs => fs[3]? | _ => none).map (fun f => (f.offset, (Try.prog.info? f.type).map (·.size))) = some (3, some 1) := by kernel_rfl
  exact field_of h (by decide)⟩
theorem fd98_4 : FieldOK Try.prog 98 4 4 := ⟨by
  have h : ((Try.prog.underlying 98).bind fun | .struct fs => fs[4]? | _ => none).map (fun f => (f.offset, (Try.prog.info? f.type).map (·.size))) = some (4, some 1) := by kernel_rfl
  exact field_of h (by decide)⟩
theorem fd98_5 : FieldOK Try.prog 98 5 5 := ⟨by
  have h : ((Try.prog.underlying 98).bind fun | .struct fs => fs[5]? | _ => none).map (fun f => (f.offset, (Try.prog.info? f.type).map (·.size))) = some (5, some 1) := by kernel_rfl
  exact field_of h (by decide)⟩
theorem fd98_6 : FieldOK Try.prog 98 6 6 := ⟨by
  have h : ((Try.prog.underlying 98).bind fun | .struct fs => fs[6]? | _ => none).map (fun f => (f.offset, (Try.prog.info? f.type).map (·.size))) = some (6, some 1) := by kernel_rfl
  exact field_of h (by decide)⟩
theorem st61 : StructOK Try.prog 61 #[] (k61.enc z61).toArray := ⟨by
  have h : (Try.prog.underlying 61).map (fun | .struct fs => fs.toList.map (fun f => (f.offset, (Try.prog.info? f.type).map (·.size))) | _ => []) = some [] := by kernel_rfl
  have hz : (Try.prog.info? 61).bind (·.zero) = some (.agg #[]) := by kernel_rfl
  exact struct_of h hz (by rfl) (by rfl) ⟨_, Try.underlying61⟩⟩
theorem st62 : StructOK Try.prog 62 #[] (k61.enc z61).toArray := ⟨by
  have h : (Try.prog.underlying 62).map (fun | .struct fs => fs.toList.map (fun f => (f.offset, (Try.prog.info? f.type).map (·.size))) | _ => []) = some [] := by kernel_rfl
  have hz : (Try.prog.info? 62).bind (·.zero) = some (.agg #[]) := by kernel_rfl
  exact struct_of h hz (by rfl) (by rfl) ⟨_, Try.underlying62⟩⟩
theorem st63 : StructOK Try.prog 63 #[] (k61.enc z61).toArray := ⟨by
  have h : (Try.prog.underlying 63).map (fun | .struct fs => fs.toList.map (fun f => (f.offset, (Try.prog.info? f.type).map (·.size))) | _ => []) = some [] := by kernel_rfl
  have hz : (Try.prog.info? 63).bind (·.zero) = some (.agg #[]) := by kernel_rfl
  exact struct_of h hz (by rfl) (by rfl) ⟨_, Try.underlying63⟩⟩
theorem st64 : StructOK Try.prog 64 #[(0, 0), (0, 0), (0, 1)] (k64.enc z64).toArray := ⟨by
  have h : (Try.prog.underlying 64).map (fun | .struct fs => fs.toList.map (fun f => (f.offset, (Try.prog.info? f.type).map (·.size))) | _ => []) = some [(0, some 0), (0, some 0), (0, some 1)] := by kernel_rfl
  have hz : (Try.prog.info? 64).bind (·.zero) = some (.agg #[.int .i64 0]) := by kernel_rfl
  exact struct_of h hz (by rfl) (by rfl) ⟨_, Try.underlying64⟩⟩
theorem st65 : StructOK Try.prog 65 #[(0, 0), (0, 0), (0, 1)] (k64.enc z64).toArray := ⟨by
  have h : (Try.prog.underlying 65).map (fun | .struct fs => fs.toList.map (fun f => (f.offset, (Try.prog.info? f.type).map (·.size))) | _ => []) = some [(0, some 0), (0, some 0), (0, some 1)] := by kernel_rfl
  have hz : (Try.prog.info? 65).bind (·.zero) = some (.agg #[.int .i64 0]) := by kernel_rfl
  exact struct_of h hz (by rfl) (by rfl) ⟨_, Try.underlying65⟩⟩
theorem st66 : StructOK Try.prog 66 #[(0, 1), (1, 1), (2, 65), (67, 1)] (k66.enc z66).toArray := ⟨by
  have h : (Try.prog.underlying 66).map (fun | .struct fs => fs.toList.map (fun f => (f.offset, (Try.prog.info? f.type).map (·.size))) | _ => []) = some [(0, some 1), (1, some 1), (2, some 65), (67, some 1)] := by kernel_rfl
  have hz : (Try.prog.info? 66).bind (·.zero) = some (.agg #[.int .i64 0, .int .i64 0, .pointer none, .pointer none, .pointer none, .pointer none, .pointer none, .pointer none, .pointer none, .pointer none, .pointer none, .pointer none, .pointer none, .pointer none, .pointer none, .pointer none, .pointer none, .pointer none, .pointer none, .pointer none, .pointer none, .pointer none, .pointer none, .pointer none, .pointer none, .pointer none, .pointer none, .pointer none, .pointer none, .pointer none, .pointer none, .pointer none, .pointer none, .pointer none, .pointer none, .pointer none, .pointer none, .pointer none, .pointer none, .pointer none, .pointer none, .pointer none, .pointer none, .pointer none, .pointer none, .pointer none, .pointer none, .pointer none, .pointer none, .pointer none, .pointer none, .pointer none, .pointer none, .pointer none, .pointer none, .pointer none, .pointer none, .pointer none, .pointer none, .pointer none, .pointer none, .pointer none, .pointer none, .pointer none, .pointer none, .pointer none, .pointer none, .int .i64 0]) := by kernel_rfl
  exact struct_of h hz (by rfl) (by rfl) ⟨_, Try.underlying66⟩⟩
theorem st67 : StructOK Try.prog 67 #[(0, 1), (1, 1), (2, 65), (67, 1)] (k66.enc z66).toArray := ⟨by
  have h : (Try.prog.underlying 67).map (fun | .struct fs => fs.toList.map (fun f => (f.offset, (Try.prog.info? f.type).map (·.size))) | _ => []) = some [(0, some 1), (1, some 1), (2, some 65), (67, some 1)] := by kernel_rfl
  have hz : (Try.prog.info? 67).bind (·.zero) = some (.agg #[.int .i64 0, .int .i64 0, .pointer none, .pointer none, .pointer none, .pointer none, .pointer none, .pointer none, .pointer none, .pointer none, .pointer none, .pointer none, .pointer none, .pointer none, .pointer none, .pointer none, .pointer none, .pointer none, .pointer none, .pointer none, .pointer none, .pointer none, .pointer none, .pointer none, .pointer none, .pointer none, .pointer none, .pointer none, .pointer none, .pointer none, .pointer none, .pointer none, .pointer none, .pointer none, .pointer none, .pointer none, .pointer none, .pointer none, .pointer none, .pointer none, .pointer none, .pointer none, .pointer none, .pointer none, .pointer none, .pointer none, .pointer none, .pointer none, .pointer none, .pointer none, .pointer none, .pointer none, .pointer none, .pointer none, .pointer none, .pointer none, .pointer none, .pointer none, .pointer none, .pointer none, .pointer none, .pointer none, .pointer none, .pointer none, .pointer none, .pointer none, .pointer none, .int .i64 0]) := by kernel_rfl
  exact struct_of h hz (by rfl) (by rfl) ⟨_, Try.underlying67⟩⟩
theorem st70 : StructOK Try.prog 70 #[(0, 1), (1, 1)] (k70.enc z70).toArray := ⟨by
  have h : (Try.prog.underlying 70).map (fun | .struct fs => fs.toList.map (fun f => (f.offset, (Try.prog.info? f.type).map (·.size))) | _ => []) = some [(0, some 1), (1, some 1)] := by kernel_rfl
  have hz : (Try.prog.info? 70).bind (·.zero) = some (.agg #[.slice none 0 0, .int .i64 0]) := by kernel_rfl
  exact struct_of h hz (by rfl) (by rfl) ⟨_, Try.underlying70⟩⟩
theorem st71 : StructOK Try.prog 71 #[(0, 1), (1, 1)] (k70.enc z70).toArray := ⟨by
  have h : (Try.prog.underlying 71).map (fun | .struct fs => fs.toList.map (fun f => (f.offset, (Try.prog.info? f.type).map (·.size))) | _ => []) = some [(0, some 1), (1, some 1)] := by kernel_rfl
  have hz : (Try.prog.info? 71).bind (·.zero) = some (.agg #[.slice none 0 0, .int .i64 0]) := by kernel_rfl
  exact struct_of h hz (by rfl) (by rfl) ⟨_, Try.underlying71⟩⟩
theorem st72 : StructOK Try.prog 72 #[(0, 2), (2, 2)] (k72.enc z72).toArray := ⟨by
  have h : (Try.prog.underlying 72).map (fun | .struct fs => fs.toList.map (fun f => (f.offset, (Try.prog.info? f.type).map (·.size))) | _ => []) = some [(0, some 2), (2, some 2)] := by kernel_rfl
  have hz : (Try.prog.info? 72).bind (·.zero) = some (.agg #[.slice none 0 0, .int .i64 0, .slice none 0 0, .int .i64 0]) := by kernel_rfl
  exact struct_of h hz (by rfl) (by rfl) ⟨_, Try.underlying72⟩⟩
theorem st73 : StructOK Try.prog 73 #[(0, 2), (2, 2)] (k72.enc z72).toArray := ⟨by
  have h : (Try.prog.underlying 73).map (fun | .struct fs => fs.toList.map (fun f => (f.offset, (Try.prog.info? f.type).map (·.size))) | _ => []) = some [(0, some 2), (2, some 2)] := by kernel_rfl
  have hz : (Try.prog.info? 73).bind (·.zero) = some (.agg #[.slice none 0 0, .int .i64 0, .slice none 0 0, .int .i64 0]) := by kernel_rfl
  exact struct_of h hz (by rfl) (by rfl) ⟨_, Try.underlying73⟩⟩
theorem st74 : StructOK Try.prog 74 #[(0, 4), (4, 2), (6, 1), (7, 1), (8, 1)] (k74.enc z74).toArray := ⟨by
  have h : (Try.prog.underlying 74).map (fun | .struct fs => fs.toList.map (fun f => (f.offset, (Try.prog.info? f.type).map (·.size))) | _ => []) = some [(0, some 4), (4, some 2), (6, some 1), (7, some 1), (8, some 1)] := by kernel_rfl
  have hz : (Try.prog.info? 74).bind (·.zero) = some (.agg #[.slice none 0 0, .int .i64 0, .slice none 0 0, .int .i64 0, .slice none 0 0, .int .i64 0, .slice none 0 0, .bool false, .bool false]) := by kernel_rfl
  exact struct_of h hz (by rfl) (by rfl) ⟨_, Try.underlying74⟩⟩
theorem st75 : StructOK Try.prog 75 #[(0, 4), (4, 2), (6, 1), (7, 1), (8, 1)] (k74.enc z74).toArray := ⟨by
  have h : (Try.prog.underlying 75).map (fun | .struct fs => fs.toList.map (fun f => (f.offset, (Try.prog.info? f.type).map (·.size))) | _ => []) = some [(0, some 4), (4, some 2), (6, some 1), (7, some 1), (8, some 1)] := by kernel_rfl
  have hz : (Try.prog.info? 75).bind (·.zero) = some (.agg #[.slice none 0 0, .int .i64 0, .slice none 0 0, .int .i64 0, .slice none 0 0, .int .i64 0, .slice none 0 0, .bool false, .bool false]) := by kernel_rfl
  exact struct_of h hz (by rfl) (by rfl) ⟨_, Try.underlying75⟩⟩
theorem st97 : StructOK Try.prog 97 #[(0, 1), (1, 1), (2, 1), (3, 1), (4, 1), (5, 1), (6, 1)] (k97.enc z97).toArray := ⟨by
  have h : (Try.prog.underlying 97).map (fun | .struct fs => fs.toList.map (fun f => (f.offset, (Try.prog.info? f.type).map (·.size))) | _ => []) = some [(0, some 1), (1, some 1), (2, some 1), (3, some 1), (4, some 1), (5, some 1), (6, some 1)] := by kernel_rfl
  have hz : (Try.prog.info? 97).bind (·.zero) = some (.agg #[.bool false, .bool false, .bool false, .slice none 0 0, .slice none 0 0, .slice none 0 0, .slice none 0 0]) := by kernel_rfl
  exact struct_of h hz (by rfl) (by rfl) ⟨_, Try.underlying97⟩⟩
theorem st98 : StructOK Try.prog 98 #[(0, 1), (1, 1), (2, 1), (3, 1), (4, 1), (5, 1), (6, 1)] (k97.enc z97).toArray := ⟨by
  have h : (Try.prog.underlying 98).map (fun | .struct fs => fs.toList.map (fun f => (f.offset, (Try.prog.info? f.type).map (·.size))) | _ => []) = some [(0, some 1), (1, some 1), (2, some 1), (3, some 1), (4, some 1), (5, some 1), (6, some 1)] := by kernel_rfl
  have hz : (Try.prog.info? 98).bind (·.zero) = some (.agg #[.bool false, .bool false, .bool false, .slice none 0 0, .slice none 0 0, .slice none 0 0, .slice none 0 0]) := by kernel_rfl
  exact struct_of h hz (by rfl) (by rfl) ⟨_, Try.underlying98⟩⟩
theorem st82 : StructOK Try.prog 82 #[(0, 1), (1, 1), (2, 1), (3, 1)] (k82.enc z82).toArray := ⟨by
  have h : (Try.prog.underlying 82).map (fun | .struct fs => fs.toList.map (fun f => (f.offset, (Try.prog.info? f.type).map (·.size))) | _ => []) = some [(0, some 1), (1, some 1), (2, some 1), (3, some 1)] := by kernel_rfl
  have hz : (Try.prog.info? 82).bind (·.zero) = some (.agg #[.int .i64 0, .int .i64 0, .slice none 0 0, .int .i64 0]) := by kernel_rfl
  exact struct_of h hz (by rfl) (by rfl) ⟨_, Try.underlying82⟩⟩
theorem st83 : StructOK Try.prog 83 #[(0, 1), (1, 1), (2, 1), (3, 1)] (k82.enc z82).toArray := ⟨by
  have h : (Try.prog.underlying 83).map (fun | .struct fs => fs.toList.map (fun f => (f.offset, (Try.prog.info? f.type).map (·.size))) | _ => []) = some [(0, some 1), (1, some 1), (2, some 1), (3, some 1)] := by kernel_rfl
  have hz : (Try.prog.info? 83).bind (·.zero) = some (.agg #[.int .i64 0, .int .i64 0, .slice none 0 0, .int .i64 0]) := by kernel_rfl
  exact struct_of h hz (by rfl) (by rfl) ⟨_, Try.underlying83⟩⟩
theorem st48 : StructOK Try.prog 48 #[(0, 1), (1, 1), (2, 1), (3, 1)] (k48.enc z48).toArray := ⟨by
  have h : (Try.prog.underlying 48).map (fun | .struct fs => fs.toList.map (fun f => (f.offset, (Try.prog.info? f.type).map (·.size))) | _ => []) = some [(0, some 1), (1, some 1), (2, some 1), (3, some 1)] := by kernel_rfl
  have hz : (Try.prog.info? 48).bind (·.zero) = some (.agg #[.int .i64 0, .int .i64 0, .slice none 0 0, .int .i64 0]) := by kernel_rfl
  exact struct_of h hz (by rfl) (by rfl) ⟨_, Try.underlying48⟩⟩
theorem st49 : StructOK Try.prog 49 #[(0, 1), (1, 1), (2, 1), (3, 1)] (k48.enc z48).toArray := ⟨by
  have h : (Try.prog.underlying 49).map (fun | .struct fs => fs.toList.map (fun f => (f.offset, (Try.prog.info? f.type).map (·.size))) | _ => []) = some [(0, some 1), (1, some 1), (2, some 1), (3, some 1)] := by kernel_rfl
  have hz : (Try.prog.info? 49).bind (·.zero) = some (.agg #[.int .i64 0, .int .i64 0, .slice none 0 0, .int .i64 0]) := by kernel_rfl
  exact struct_of h hz (by rfl) (by rfl) ⟨_, Try.underlying49⟩⟩
end Go.Proofs.Ytbdopnhfbjdegaa
