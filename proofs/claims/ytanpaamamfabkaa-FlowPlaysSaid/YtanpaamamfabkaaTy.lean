/- The seat's types as Lean types, and what the program's tables say of them. -/
import Derived.Test.YtanpaamamfabkaaStep
import Derived.Test.YtanpaamamfabkaaProg
namespace Go.Proofs.Ytanpaamamfabkaa
open Go Go.Tr
set_option linter.unusedVariables false
theorem mixed : Try.prog.follows .mixedOrders = true := by kernel_rfl
/-- struct { Mark bool; Key string; Time int64; Value int64 } -/
structure S32 where
  f0 : Bool
  f1 : ByteArray
  f2 : Int
  f3 : Int
  deriving DecidableEq
def k32 : Kd S32 := kIso (kPair kB (kPair kS (kPair (kI .i64) (kI .i64)))) (fun x => (x.f0, x.f1, x.f2, x.f3)) (fun x => ⟨x.1, x.2.1, x.2.2.1, x.2.2.2⟩) (fun _ => rfl) (fun _ => rfl)
def z32 : S32 := ⟨false, ⟨#[]⟩, 0, 0⟩
/-- struct { source int; item api.Item } -/
structure S82 where
  f0 : Int
  f1 : S32
  deriving DecidableEq
def k82 : Kd S82 := kIso (kPair (kI .i64) k32) (fun x => (x.f0, x.f1)) (fun x => ⟨x.1, x.2⟩) (fun _ => rfl) (fun _ => rfl)
def z82 : S82 := ⟨0, z32⟩
/-- struct { ring []flow.message; first int; many int } -/
structure S61 where
  f0 : Sl
  f1 : Int
  f2 : Int
  deriving DecidableEq
def k61 : Kd S61 := kIso (kPair kL (kPair (kI .i64) (kI .i64))) (fun x => (x.f0, x.f1, x.f2)) (fun x => ⟨x.1, x.2.1, x.2.2⟩) (fun _ => rfl) (fun _ => rfl)
def z61 : S61 := ⟨Sl.nil, 0, 0⟩
/-- struct { items []api.Item; to int } -/
structure S78 where
  f0 : Sl
  f1 : Int
  deriving DecidableEq
def k78 : Kd S78 := kIso (kPair kL (kI .i64)) (fun x => (x.f0, x.f1)) (fun x => ⟨x.1, x.2⟩) (fun _ => rfl) (fun _ => rfl)
def z78 : S78 := ⟨Sl.nil, 0⟩
/-- struct { queues []flow.queue; boxes []flow.box } -/
structure S58 where
  f0 : Sl
  f1 : Sl
  deriving DecidableEq
def k58 : Kd S58 := kIso (kPair kL kL) (fun x => (x.f0, x.f1)) (fun x => ⟨x.1, x.2⟩) (fun _ => rfl) (fun _ => rfl)
def z58 : S58 := ⟨Sl.nil, Sl.nil⟩
/-- struct { Box int; Queues [][]api.Item; Boxes [][]spateref15.Message; Brought []int } -/
structure S65 where
  f0 : Int
  f1 : Sl
  f2 : Sl
  f3 : Sl
  deriving DecidableEq
def k65 : Kd S65 := kIso (kPair (kI .i64) (kPair kL (kPair kL kL))) (fun x => (x.f0, x.f1, x.f2, x.f3)) (fun x => ⟨x.1, x.2.1, x.2.2.1, x.2.2.2⟩) (fun _ => rfl) (fun _ => rfl)
def z65 : S65 := ⟨0, Sl.nil, Sl.nil, Sl.nil⟩
/-- struct { Kind int; A int; Item api.Item } -/
structure S34 where
  f0 : Int
  f1 : Int
  f2 : S32
  deriving DecidableEq
def k34 : Kd S34 := kIso (kPair (kI .i64) (kPair (kI .i64) k32)) (fun x => (x.f0, x.f1, x.f2)) (fun x => ⟨x.1, x.2.1, x.2.2⟩) (fun _ => rfl) (fun _ => rfl)
def z34 : S34 := ⟨0, 0, z32⟩
/-- struct { From int; Item api.Item } -/
structure S51 where
  f0 : Int
  f1 : S32
  deriving DecidableEq
def k51 : Kd S51 := kIso (kPair (kI .i64) k32) (fun x => (x.f0, x.f1)) (fun x => ⟨x.1, x.2⟩) (fun _ => rfl) (fun _ => rfl)
def z51 : S51 := ⟨0, z32⟩
theorem ty2 : TyOK Try.prog 2 (kI .i64).n (kI .i64).agg := ⟨by kernel_rfl, by kernel_rfl⟩
theorem zero2 : (Try.prog.info? 2).bind (·.zero) = some (.int .i64 0) := by kernel_rfl
theorem ty3 : TyOK Try.prog 3 (kI .i64).n (kI .i64).agg := ⟨by kernel_rfl, by kernel_rfl⟩
theorem zero3 : (Try.prog.info? 3).bind (·.zero) = some (.int .i64 0) := by kernel_rfl
theorem ty4 : TyOK Try.prog 4 kB.n kB.agg := ⟨by kernel_rfl, by kernel_rfl⟩
theorem zero4 : (Try.prog.info? 4).bind (·.zero) = some (.bool false) := by kernel_rfl
theorem ty5 : TyOK Try.prog 5 (kI .u8).n (kI .u8).agg := ⟨by kernel_rfl, by kernel_rfl⟩
theorem zero5 : (Try.prog.info? 5).bind (·.zero) = some (.int .u8 0) := by kernel_rfl
theorem ty9 : TyOK Try.prog 9 kS.n kS.agg := ⟨by kernel_rfl, by kernel_rfl⟩
theorem zero9 : (Try.prog.info? 9).bind (·.zero) = some (.string ⟨#[]⟩) := by kernel_rfl
theorem ty33 : TyOK Try.prog 33 k32.n k32.agg := ⟨by kernel_rfl, by kernel_rfl⟩
theorem zero33 : (Try.prog.info? 33).bind (·.zero) = some (.agg #[.bool false, .string ⟨#[]⟩, .int .i64 0, .int .i64 0]) := by kernel_rfl
theorem ty35 : TyOK Try.prog 35 k34.n k34.agg := ⟨by kernel_rfl, by kernel_rfl⟩
theorem zero35 : (Try.prog.info? 35).bind (·.zero) = some (.agg #[.int .i64 0, .int .i64 0, .bool false, .string ⟨#[]⟩, .int .i64 0, .int .i64 0]) := by kernel_rfl
theorem ty42 : TyOK Try.prog 42 kL.n kL.agg := ⟨by kernel_rfl, by kernel_rfl⟩
theorem zero42 : (Try.prog.info? 42).bind (·.zero) = some (.slice none 0 0) := by kernel_rfl
theorem ty45 : TyOK Try.prog 45 kL.n kL.agg := ⟨by kernel_rfl, by kernel_rfl⟩
theorem zero45 : (Try.prog.info? 45).bind (·.zero) = some (.slice none 0 0) := by kernel_rfl
theorem ty50 : TyOK Try.prog 50 kL.n kL.agg := ⟨by kernel_rfl, by kernel_rfl⟩
theorem zero50 : (Try.prog.info? 50).bind (·.zero) = some (.slice none 0 0) := by kernel_rfl
theorem ty52 : TyOK Try.prog 52 k51.n k51.agg := ⟨by kernel_rfl, by kernel_rfl⟩
theorem zero52 : (Try.prog.info? 52).bind (·.zero) = some (.agg #[.int .i64 0, .bool false, .string ⟨#[]⟩, .int .i64 0, .int .i64 0]) := by kernel_rfl
theorem ty56 : TyOK Try.prog 56 kL.n kL.agg := ⟨by kernel_rfl, by kernel_rfl⟩
theorem zero56 : (Try.prog.info? 56).bind (·.zero) = some (.slice none 0 0) := by kernel_rfl
theorem ty57 : TyOK Try.prog 57 kL.n kL.agg := ⟨by kernel_rfl, by kernel_rfl⟩
theorem zero57 : (Try.prog.info? 57).bind (·.zero) = some (.slice none 0 0) := by kernel_rfl
theorem ty60 : TyOK Try.prog 60 kL.n kL.agg := ⟨by kernel_rfl, by kernel_rfl⟩
theorem zero60 : (Try.prog.info? 60).bind (·.zero) = some (.slice none 0 0) := by kernel_rfl
theorem ty62 : TyOK Try.prog 62 k61.n k61.agg := ⟨by kernel_rfl, by kernel_rfl⟩
theorem zero62 : (Try.prog.info? 62).bind (·.zero) = some (.agg #[.slice none 0 0, .int .i64 0, .int .i64 0]) := by kernel_rfl
theorem ty63 : TyOK Try.prog 63 kL.n kL.agg := ⟨by kernel_rfl, by kernel_rfl⟩
theorem zero63 : (Try.prog.info? 63).bind (·.zero) = some (.slice none 0 0) := by kernel_rfl
theorem ty64 : TyOK Try.prog 64 kL.n kL.agg := ⟨by kernel_rfl, by kernel_rfl⟩
theorem zero64 : (Try.prog.info? 64).bind (·.zero) = some (.slice none 0 0) := by kernel_rfl
theorem ty79 : TyOK Try.prog 79 k78.n k78.agg := ⟨by kernel_rfl, by kernel_rfl⟩
theorem zero79 : (Try.prog.info? 79).bind (·.zero) = some (.agg #[.slice none 0 0, .int .i64 0]) := by kernel_rfl
theorem ty83 : TyOK Try.prog 83 k82.n k82.agg := ⟨by kernel_rfl, by kernel_rfl⟩
theorem zero83 : (Try.prog.info? 83).bind (·.zero) = some (.agg #[.int .i64 0, .bool false, .string ⟨#[]⟩, .int .i64 0, .int .i64 0]) := by kernel_rfl
theorem ty86 : TyOK Try.prog 86 kL.n kL.agg := ⟨by kernel_rfl, by kernel_rfl⟩
theorem zero86 : (Try.prog.info? 86).bind (·.zero) = some (.slice none 0 0) := by kernel_rfl
theorem ty87 : TyOK Try.prog 87 k51.n k51.agg := ⟨by kernel_rfl, by kernel_rfl⟩
theorem zero87 : (Try.prog.info? 87).bind (·.zero) = some (.agg #[.int .i64 0, .bool false, .string ⟨#[]⟩, .int .i64 0, .int .i64 0]) := by kernel_rfl
theorem el3 : ElemOK Try.prog 3 (kI .i64).n 8 (((kI .i64).enc 0)) := ⟨by
  have h : (Try.prog.info? 3).map (fun i => (i.zero, i.size, i.bytes)) = some (some (.int .i64 0), (kI .i64).n, 8) := by kernel_rfl
  simp only [Option.map_eq_some_iff, Prod.mk.injEq] at h
  obtain ⟨i, hi, h1, h2, h3⟩ := h
  exact ⟨i, _, hi, h1, by rfl, h2, h3⟩⟩
theorem el33 : ElemOK Try.prog 33 k32.n 40 ((k32.enc z32)) := ⟨by
  have h : (Try.prog.info? 33).map (fun i => (i.zero, i.size, i.bytes)) = some (some (.agg #[.bool false, .string ⟨#[]⟩, .int .i64 0, .int .i64 0]), k32.n, 40) := by kernel_rfl
  simp only [Option.map_eq_some_iff, Prod.mk.injEq] at h
  obtain ⟨i, hi, h1, h2, h3⟩ := h
  exact ⟨i, _, hi, h1, by rfl, h2, h3⟩⟩
theorem el45 : ElemOK Try.prog 45 kL.n 24 ((kL.enc Sl.nil)) := ⟨by
  have h : (Try.prog.info? 45).map (fun i => (i.zero, i.size, i.bytes)) = some (some (.slice none 0 0), kL.n, 24) := by kernel_rfl
  simp only [Option.map_eq_some_iff, Prod.mk.injEq] at h
  obtain ⟨i, hi, h1, h2, h3⟩ := h
  exact ⟨i, _, hi, h1, by rfl, h2, h3⟩⟩
theorem el50 : ElemOK Try.prog 50 kL.n 24 ((kL.enc Sl.nil)) := ⟨by
  have h : (Try.prog.info? 50).map (fun i => (i.zero, i.size, i.bytes)) = some (some (.slice none 0 0), kL.n, 24) := by kernel_rfl
  simp only [Option.map_eq_some_iff, Prod.mk.injEq] at h
  obtain ⟨i, hi, h1, h2, h3⟩ := h
  exact ⟨i, _, hi, h1, by rfl, h2, h3⟩⟩
theorem el52 : ElemOK Try.prog 52 k51.n 48 ((k51.enc z51)) := ⟨by
  have h : (Try.prog.info? 52).map (fun i => (i.zero, i.size, i.bytes)) = some (some (.agg #[.int .i64 0, .bool false, .string ⟨#[]⟩, .int .i64 0, .int .i64 0]), k51.n, 48) := by kernel_rfl
  simp only [Option.map_eq_some_iff, Prod.mk.injEq] at h
  obtain ⟨i, hi, h1, h2, h3⟩ := h
  exact ⟨i, _, hi, h1, by rfl, h2, h3⟩⟩
theorem el62 : ElemOK Try.prog 62 k61.n 40 ((k61.enc z61)) := ⟨by
  have h : (Try.prog.info? 62).map (fun i => (i.zero, i.size, i.bytes)) = some (some (.agg #[.slice none 0 0, .int .i64 0, .int .i64 0]), k61.n, 40) := by kernel_rfl
  simp only [Option.map_eq_some_iff, Prod.mk.injEq] at h
  obtain ⟨i, hi, h1, h2, h3⟩ := h
  exact ⟨i, _, hi, h1, by rfl, h2, h3⟩⟩
theorem el79 : ElemOK Try.prog 79 k78.n 32 ((k78.enc z78)) := ⟨by
  have h : (Try.prog.info? 79).map (fun i => (i.zero, i.size, i.bytes)) = some (some (.agg #[.slice none 0 0, .int .i64 0]), k78.n, 32) := by kernel_rfl
  simp only [Option.map_eq_some_iff, Prod.mk.injEq] at h
  obtain ⟨i, hi, h1, h2, h3⟩ := h
  exact ⟨i, _, hi, h1, by rfl, h2, h3⟩⟩
theorem el83 : ElemOK Try.prog 83 k82.n 48 ((k82.enc z82)) := ⟨by
  have h : (Try.prog.info? 83).map (fun i => (i.zero, i.size, i.bytes)) = some (some (.agg #[.int .i64 0, .bool false, .string ⟨#[]⟩, .int .i64 0, .int .i64 0]), k82.n, 48) := by kernel_rfl
  simp only [Option.map_eq_some_iff, Prod.mk.injEq] at h
  obtain ⟨i, hi, h1, h2, h3⟩ := h
  exact ⟨i, _, hi, h1, by rfl, h2, h3⟩⟩
theorem el86 : ElemOK Try.prog 86 kL.n 24 ((kL.enc Sl.nil)) := ⟨by
  have h : (Try.prog.info? 86).map (fun i => (i.zero, i.size, i.bytes)) = some (some (.slice none 0 0), kL.n, 24) := by kernel_rfl
  simp only [Option.map_eq_some_iff, Prod.mk.injEq] at h
  obtain ⟨i, hi, h1, h2, h3⟩ := h
  exact ⟨i, _, hi, h1, by rfl, h2, h3⟩⟩
theorem el87 : ElemOK Try.prog 87 k51.n 48 ((k51.enc z51)) := ⟨by
  have h : (Try.prog.info? 87).map (fun i => (i.zero, i.size, i.bytes)) = some (some (.agg #[.int .i64 0, .bool false, .string ⟨#[]⟩, .int .i64 0, .int .i64 0]), k51.n, 48) := by kernel_rfl
  simp only [Option.map_eq_some_iff, Prod.mk.injEq] at h
  obtain ⟨i, hi, h1, h2, h3⟩ := h
  exact ⟨i, _, hi, h1, by rfl, h2, h3⟩⟩
theorem fd33_0 : FieldOK Try.prog 33 0 0 := ⟨by
  have h : ((Try.prog.underlying 33).bind fun | .struct fs => fs[0]? | _ => none).map (fun f => (f.offset, (Try.prog.info? f.type).map (·.size))) = some (0, some 1) := by kernel_rfl
  exact field_of h (by decide)⟩
theorem fd33_1 : FieldOK Try.prog 33 1 1 := ⟨by
  have h : ((Try.prog.underlying 33).bind fun | .struct fs => fs[1]? | _ => none).map (fun f => (f.offset, (Try.prog.info? f.type).map (·.size))) = some (1, some 1) := by kernel_rfl
  exact field_of h (by decide)⟩
theorem fd33_2 : FieldOK Try.prog 33 2 2 := ⟨by
  have h : ((Try.prog.underlying 33).bind fun | .struct fs => fs[2]? | _ => none).map (fun f => (f.offset, (Try.prog.info? f.type).map (·.size))) = some (2, some 1) := by kernel_rfl
  exact field_of h (by decide)⟩
theorem fd33_3 : FieldOK Try.prog 33 3 3 := ⟨by
  have h : ((Try.prog.underlying 33).bind fun | .struct fs => fs[3]? | _ => none).map (fun f => (f.offset, (Try.prog.info? f.type).map (·.size))) = some (3, some 1) := by kernel_rfl
  exact field_of h (by decide)⟩
theorem fd35_0 : FieldOK Try.prog 35 0 0 := ⟨by
  have h : ((Try.prog.underlying 35).bind fun | .struct fs => fs[0]? | _ => none).map (fun f => (f.offset, (Try.prog.info? f.type).map (·.size))) = some (0, some 1) := by kernel_rfl
  exact field_of h (by decide)⟩
theorem fd35_1 : FieldOK Try.prog 35 1 1 := ⟨by
  have h : ((Try.prog.underlying 35).bind fun | .struct fs => fs[1]? | _ => none).map (fun f => (f.offset, (Try.prog.info? f.type).map (·.size))) = some (1, some 1) := by kernel_rfl
  exact field_of h (by decide)⟩
theorem fd35_2 : FieldOK Try.prog 35 2 2 := ⟨by
  have h : ((Try.prog.underlying 35).bind fun | .struct fs => fs[2]? | _ => none).map (fun f => (f.offset, (Try.prog.info? f.type).map (·.size))) = some (2, some 4) := by kernel_rfl
  exact field_of h (by decide)⟩
theorem fd52_0 : FieldOK Try.prog 52 0 0 := ⟨by
  have h : ((Try.prog.underlying 52).bind fun | .struct fs => fs[0]? | _ => none).map (fun f => (f.offset, (Try.prog.info? f.type).map (·.size))) = some (0, some 1) := by kernel_rfl
  exact field_of h (by decide)⟩
theorem fd52_1 : FieldOK Try.prog 52 1 1 := ⟨by
  have h : ((Try.prog.underlying 52).bind fun | .struct fs => fs[1]? | _ => none).map (fun f => (f.offset, (Try.prog.info? f.type).map (·.size))) = some (1, some 4) := by kernel_rfl
  exact field_of h (by decide)⟩
theorem fd59_0 : FieldOK Try.prog 59 0 0 := ⟨by
  have h : ((Try.prog.underlying 59).bind fun | .struct fs => fs[0]? | _ => none).map (fun f => (f.offset, (Try.prog.info? f.type).map (·.size))) = some (0, some 1) := by kernel_rfl
  exact field_of h (by decide)⟩
theorem fd59_1 : FieldOK Try.prog 59 1 1 := ⟨by
  have h : ((Try.prog.underlying 59).bind fun | .struct fs => fs[1]? | _ => none).map (fun f => (f.offset, (Try.prog.info? f.type).map (·.size))) = some (1, some 1) := by kernel_rfl
  exact field_of h (by decide)⟩
theorem fd62_0 : FieldOK Try.prog 62 0 0 := ⟨by
  have h : ((Try.prog.underlying 62).bind fun | .struct fs => fs[0]? | _ => none).map (fun f => (f.offset, (Try.prog.info? f.type).map (·.size))) = some (0, some 1) := by kernel_rfl
  exact field_of h (by decide)⟩
theorem fd62_1 : FieldOK Try.prog 62 1 1 := ⟨by
  have h : ((Try.prog.underlying 62).bind fun | .struct fs => fs[1]? | _ => none).map (fun f => (f.offset, (Try.prog.info? f.type).map (·.size))) = some (1, some 1) := by kernel_rfl
  exact field_of h (by decide)⟩
theorem fd62_2 : FieldOK Try.prog 62 2 2 := ⟨by
  have h : ((Try.prog.underlying 62).bind fun | .struct fs => fs[2]? | _ => none).map (fun f => (f.offset, (Try.prog.info? f.type).map (·.size))) = some (2, some 1) := by kernel_rfl
  exact field_of h (by decide)⟩
theorem fd66_0 : FieldOK Try.prog 66 0 0 := ⟨by
  have h : ((Try.prog.underlying 66).bind fun | .struct fs => fs[0]? | _ => none).map (fun f => (f.offset, (Try.prog.info? f.type).map (·.size))) = some (0, some 1) := by kernel_rfl
  exact field_of h (by decide)⟩
theorem fd66_1 : FieldOK Try.prog 66 1 1 := ⟨by
  have h : ((Try.prog.underlying 66).bind fun | .struct fs => fs[1]? | _ => none).map (fun f => (f.offset, (Try.prog.info? f.type).map (·.size))) = some (1, some 1) := by kernel_rfl
  exact field_of h (by decide)⟩
theorem fd66_2 : FieldOK Try.prog 66 2 2 := ⟨by
  have h : ((Try.prog.underlying 66).bind fun | .struct fs => fs[2]? | _ => none).map (fun f => (f.offset, (Try.prog.info? f.type).map (·.size))) = some (2, some 1) := by kernel_rfl
  exact field_of h (by decide)⟩
theorem fd66_3 : FieldOK Try.prog 66 3 3 := ⟨by
  have h : ((Try.prog.underlying 66).bind fun | .struct fs => fs[3]? | _ => none).map (fun f => (f.offset, (Try.prog.info? f.type).map (·.size))) = some (3, some 1) := by kernel_rfl
  exact field_of h (by decide)⟩
theorem fd79_0 : FieldOK Try.prog 79 0 0 := ⟨by
  have h : ((Try.prog.underlying 79).bind fun | .struct fs => fs[0]? | _ => none).map (fun f => (f.offset, (Try.prog.info? f.type).map (·.size))) = some (0, some 1) := by kernel_rfl
  exact field_of h (by decide)⟩
theorem fd79_1 : FieldOK Try.prog 79 1 1 := ⟨by
  have h : ((Try.prog.underlying 79).bind fun | .struct fs => fs[1]? | _ => none).map (fun f => (f.offset, (Try.prog.info? f.type).map (·.size))) = some (1, some 1) := by kernel_rfl
  exact field_of h (by decide)⟩
theorem fd83_0 : FieldOK Try.prog 83 0 0 := ⟨by
  have h : ((Try.prog.underlying 83).bind fun | .struct fs => fs[0]? | _ => none).map (fun f => (f.offset, (Try.prog.info? f.type).map (·.size))) = some (0, some 1) := by kernel_rfl
  exact field_of h (by decide)⟩
theorem fd83_1 : FieldOK Try.prog 83 1 1 := ⟨by
  have h : ((Try.prog.underlying 83).bind fun | .struct fs => fs[1]? | _ => none).map (fun f => (f.offset, (Try.prog.info? f.type).map (·.size))) = some (1, some 4) := by kernel_rfl
  exact field_of h (by decide)⟩
theorem fd87_0 : FieldOK Try.prog 87 0 0 := ⟨by
  have h : ((Try.prog.underlying 87).bind fun | .struct fs => fs[0]? | _ => none).map (fun f => (f.offset, (Try.prog.info? f.type).map (·.size))) = some (0, some 1) := by kernel_rfl
  exact field_of h (by decide)⟩
theorem fd87_1 : FieldOK Try.prog 87 1 1 := ⟨by
  have h : ((Try.prog.underlying 87).bind fun | .struct fs => fs[1]? | _ => none).map (fun f => (f.offset, (Try.prog.info? f.type).map (·.size))) = some (1, some 4) := by kernel_rfl
  exact field_of h (by decide)⟩
theorem st32 : StructOK Try.prog 32 #[(0, 1), (1, 1), (2, 1), (3, 1)] (k32.enc z32).toArray := ⟨by
  have h : (Try.prog.underlying 32).map (fun | .struct fs => fs.toList.map (fun f => (f.offset, (Try.prog.info? f.type).map (·.size))) | _ => []) = some [(0, some 1), (1, some 1), (2, some 1), (3, some 1)] := by kernel_rfl
  have hz : (Try.prog.info? 32).bind (·.zero) = some (.agg #[.bool false, .string ⟨#[]⟩, .int .i64 0, .int .i64 0]) := by kernel_rfl
  exact struct_of h hz (by rfl) (by rfl) ⟨_, Try.underlying32⟩⟩
theorem st33 : StructOK Try.prog 33 #[(0, 1), (1, 1), (2, 1), (3, 1)] (k32.enc z32).toArray := ⟨by
  have h : (Try.prog.underlying 33).map (fun | .struct fs => fs.toList.map (fun f => (f.offset, (Try.prog.info? f.type).map (·.size))) | _ => []) = some [(0, some 1), (1, some 1), (2, some 1), (3, some 1)] := by kernel_rfl
  have hz : (Try.prog.info? 33).bind (·.zero) = some (.agg #[.bool false, .string ⟨#[]⟩, .int .i64 0, .int .i64 0]) := by kernel_rfl
  exact struct_of h hz (by rfl) (by rfl) ⟨_, Try.underlying33⟩⟩
theorem st82 : StructOK Try.prog 82 #[(0, 1), (1, 4)] (k82.enc z82).toArray := ⟨by
  have h : (Try.prog.underlying 82).map (fun | .struct fs => fs.toList.map (fun f => (f.offset, (Try.prog.info? f.type).map (·.size))) | _ => []) = some [(0, some 1), (1, some 4)] := by kernel_rfl
  have hz : (Try.prog.info? 82).bind (·.zero) = some (.agg #[.int .i64 0, .bool false, .string ⟨#[]⟩, .int .i64 0, .int .i64 0]) := by kernel_rfl
  exact struct_of h hz (by rfl) (by rfl) ⟨_, Try.underlying82⟩⟩
theorem st83 : StructOK Try.prog 83 #[(0, 1), (1, 4)] (k82.enc z82).toArray := ⟨by
  have h : (Try.prog.underlying 83).map (fun | .struct fs => fs.toList.map (fun f => (f.offset, (Try.prog.info? f.type).map (·.size))) | _ => []) = some [(0, some 1), (1, some 4)] := by kernel_rfl
  have hz : (Try.prog.info? 83).bind (·.zero) = some (.agg #[.int .i64 0, .bool false, .string ⟨#[]⟩, .int .i64 0, .int .i64 0]) := by kernel_rfl
  exact struct_of h hz (by rfl) (by rfl) ⟨_, Try.underlying83⟩⟩
theorem st61 : StructOK Try.prog 61 #[(0, 1), (1, 1), (2, 1)] (k61.enc z61).toArray := ⟨by
  have h : (Try.prog.underlying 61).map (fun | .struct fs => fs.toList.map (fun f => (f.offset, (Try.prog.info? f.type).map (·.size))) | _ => []) = some [(0, some 1), (1, some 1), (2, some 1)] := by kernel_rfl
  have hz : (Try.prog.info? 61).bind (·.zero) = some (.agg #[.slice none 0 0, .int .i64 0, .int .i64 0]) := by kernel_rfl
  exact struct_of h hz (by rfl) (by rfl) ⟨_, Try.underlying61⟩⟩
theorem st62 : StructOK Try.prog 62 #[(0, 1), (1, 1), (2, 1)] (k61.enc z61).toArray := ⟨by
  have h : (Try.prog.underlying 62).map (fun | .struct fs => fs.toList.map (fun f => (f.offset, (Try.prog.info? f.type).map (·.size))) | _ => []) = some [(0, some 1), (1, some 1), (2, some 1)] := by kernel_rfl
  have hz : (Try.prog.info? 62).bind (·.zero) = some (.agg #[.slice none 0 0, .int .i64 0, .int .i64 0]) := by kernel_rfl
  exact struct_of h hz (by rfl) (by rfl) ⟨_, Try.underlying62⟩⟩
theorem st78 : StructOK Try.prog 78 #[(0, 1), (1, 1)] (k78.enc z78).toArray := ⟨by
  have h : (Try.prog.underlying 78).map (fun | .struct fs => fs.toList.map (fun f => (f.offset, (Try.prog.info? f.type).map (·.size))) | _ => []) = some [(0, some 1), (1, some 1)] := by kernel_rfl
  have hz : (Try.prog.info? 78).bind (·.zero) = some (.agg #[.slice none 0 0, .int .i64 0]) := by kernel_rfl
  exact struct_of h hz (by rfl) (by rfl) ⟨_, Try.underlying78⟩⟩
theorem st79 : StructOK Try.prog 79 #[(0, 1), (1, 1)] (k78.enc z78).toArray := ⟨by
  have h : (Try.prog.underlying 79).map (fun | .struct fs => fs.toList.map (fun f => (f.offset, (Try.prog.info? f.type).map (·.size))) | _ => []) = some [(0, some 1), (1, some 1)] := by kernel_rfl
  have hz : (Try.prog.info? 79).bind (·.zero) = some (.agg #[.slice none 0 0, .int .i64 0]) := by kernel_rfl
  exact struct_of h hz (by rfl) (by rfl) ⟨_, Try.underlying79⟩⟩
theorem st58 : StructOK Try.prog 58 #[(0, 1), (1, 1)] (k58.enc z58).toArray := ⟨by
  have h : (Try.prog.underlying 58).map (fun | .struct fs => fs.toList.map (fun f => (f.offset, (Try.prog.info? f.type).map (·.size))) | _ => []) = some [(0, some 1), (1, some 1)] := by kernel_rfl
  have hz : (Try.prog.info? 58).bind (·.zero) = some (.agg #[.slice none 0 0, .slice none 0 0]) := by kernel_rfl
  exact struct_of h hz (by rfl) (by rfl) ⟨_, Try.underlying58⟩⟩
theorem st59 : StructOK Try.prog 59 #[(0, 1), (1, 1)] (k58.enc z58).toArray := ⟨by
  have h : (Try.prog.underlying 59).map (fun | .struct fs => fs.toList.map (fun f => (f.offset, (Try.prog.info? f.type).map (·.size))) | _ => []) = some [(0, some 1), (1, some 1)] := by kernel_rfl
  have hz : (Try.prog.info? 59).bind (·.zero) = some (.agg #[.slice none 0 0, .slice none 0 0]) := by kernel_rfl
  exact struct_of h hz (by rfl) (by rfl) ⟨_, Try.underlying59⟩⟩
theorem st65 : StructOK Try.prog 65 #[(0, 1), (1, 1), (2, 1), (3, 1)] (k65.enc z65).toArray := ⟨by
  have h : (Try.prog.underlying 65).map (fun | .struct fs => fs.toList.map (fun f => (f.offset, (Try.prog.info? f.type).map (·.size))) | _ => []) = some [(0, some 1), (1, some 1), (2, some 1), (3, some 1)] := by kernel_rfl
  have hz : (Try.prog.info? 65).bind (·.zero) = some (.agg #[.int .i64 0, .slice none 0 0, .slice none 0 0, .slice none 0 0]) := by kernel_rfl
  exact struct_of h hz (by rfl) (by rfl) ⟨_, Try.underlying65⟩⟩
theorem st66 : StructOK Try.prog 66 #[(0, 1), (1, 1), (2, 1), (3, 1)] (k65.enc z65).toArray := ⟨by
  have h : (Try.prog.underlying 66).map (fun | .struct fs => fs.toList.map (fun f => (f.offset, (Try.prog.info? f.type).map (·.size))) | _ => []) = some [(0, some 1), (1, some 1), (2, some 1), (3, some 1)] := by kernel_rfl
  have hz : (Try.prog.info? 66).bind (·.zero) = some (.agg #[.int .i64 0, .slice none 0 0, .slice none 0 0, .slice none 0 0]) := by kernel_rfl
  exact struct_of h hz (by rfl) (by rfl) ⟨_, Try.underlying66⟩⟩
theorem st34 : StructOK Try.prog 34 #[(0, 1), (1, 1), (2, 4)] (k34.enc z34).toArray := ⟨by
  have h : (Try.prog.underlying 34).map (fun | .struct fs => fs.toList.map (fun f => (f.offset, (Try.prog.info? f.type).map (·.size))) | _ => []) = some [(0, some 1), (1, some 1), (2, some 4)] := by kernel_rfl
  have hz : (Try.prog.info? 34).bind (·.zero) = some (.agg #[.int .i64 0, .int .i64 0, .bool false, .string ⟨#[]⟩, .int .i64 0, .int .i64 0]) := by kernel_rfl
  exact struct_of h hz (by rfl) (by rfl) ⟨_, Try.underlying34⟩⟩
theorem st35 : StructOK Try.prog 35 #[(0, 1), (1, 1), (2, 4)] (k34.enc z34).toArray := ⟨by
  have h : (Try.prog.underlying 35).map (fun | .struct fs => fs.toList.map (fun f => (f.offset, (Try.prog.info? f.type).map (·.size))) | _ => []) = some [(0, some 1), (1, some 1), (2, some 4)] := by kernel_rfl
  have hz : (Try.prog.info? 35).bind (·.zero) = some (.agg #[.int .i64 0, .int .i64 0, .bool false, .string ⟨#[]⟩, .int .i64 0, .int .i64 0]) := by kernel_rfl
  exact struct_of h hz (by rfl) (by rfl) ⟨_, Try.underlying35⟩⟩
theorem st51 : StructOK Try.prog 51 #[(0, 1), (1, 4)] (k51.enc z51).toArray := ⟨by
  have h : (Try.prog.underlying 51).map (fun | .struct fs => fs.toList.map (fun f => (f.offset, (Try.prog.info? f.type).map (·.size))) | _ => []) = some [(0, some 1), (1, some 4)] := by kernel_rfl
  have hz : (Try.prog.info? 51).bind (·.zero) = some (.agg #[.int .i64 0, .bool false, .string ⟨#[]⟩, .int .i64 0, .int .i64 0]) := by kernel_rfl
  exact struct_of h hz (by rfl) (by rfl) ⟨_, Try.underlying51⟩⟩
theorem st52 : StructOK Try.prog 52 #[(0, 1), (1, 4)] (k51.enc z51).toArray := ⟨by
  have h : (Try.prog.underlying 52).map (fun | .struct fs => fs.toList.map (fun f => (f.offset, (Try.prog.info? f.type).map (·.size))) | _ => []) = some [(0, some 1), (1, some 4)] := by kernel_rfl
  have hz : (Try.prog.info? 52).bind (·.zero) = some (.agg #[.int .i64 0, .bool false, .string ⟨#[]⟩, .int .i64 0, .int .i64 0]) := by kernel_rfl
  exact struct_of h hz (by rfl) (by rfl) ⟨_, Try.underlying52⟩⟩
theorem st87 : StructOK Try.prog 87 #[(0, 1), (1, 4)] (k51.enc z51).toArray := ⟨by
  have h : (Try.prog.underlying 87).map (fun | .struct fs => fs.toList.map (fun f => (f.offset, (Try.prog.info? f.type).map (·.size))) | _ => []) = some [(0, some 1), (1, some 4)] := by kernel_rfl
  have hz : (Try.prog.info? 87).bind (·.zero) = some (.agg #[.int .i64 0, .bool false, .string ⟨#[]⟩, .int .i64 0, .int .i64 0]) := by kernel_rfl
  exact struct_of h hz (by rfl) (by rfl) ⟨_, Try.underlying87⟩⟩
def eq33 (x y : S32) : Bool := [x.f0 == y.f0, x.f1 == y.f1, x.f2 == y.f2, x.f3 == y.f3].all id
theorem eqIn33 (x y : S32) (d : Nat) (w : World) : (Op.equalIn (d + 5) 33 (k32.val x) (k32.val y)).run Try.prog w = .ok (eq33 x y) w :=
  eqIn_struct (k := 4) (bs := [x.f0 == y.f0, x.f1 == y.f1, x.f2 == y.f2, x.f3 == y.f3]) (xs := (k32.enc x).toArray) (ys := (k32.enc y).toArray) Try.underlying33 (by kernel_rfl) ⟨by decide, ⟨_, _, part_one ty4 rfl, part_one ty4 rfl, fun d w => eqIn_bool Try.underlying4 (d + 3) w⟩, by decide, ⟨_, _, part_one ty9 rfl, part_one ty9 rfl, fun d w => eqIn_string Try.underlying9 (d + 3) w⟩, by decide, ⟨_, _, part_one ty2 rfl, part_one ty2 rfl, fun d w => eqIn_int Try.underlying2 (d + 3) w⟩, by decide, ⟨_, _, part_one ty2 rfl, part_one ty2 rfl, fun d w => eqIn_int Try.underlying2 (d + 3) w⟩, trivial⟩ d w
theorem guard33 {b : BinOp} {u v : Operand} (x y : S32) (w : World) : (eqGuard b 33 u v (k32.val x) (k32.val y)).run Try.prog w = .ok () w := guard_struct (by kernel_rfl) w
end Go.Proofs.Ytanpaamamfabkaa
