/- The seat's types as Lean types, and what the program's tables say of them. -/
import Derived.Test.YtgmihbchcmjmdaaMaps
import Derived.Test.YtgmihbchcmjmdaaProg
namespace Go.Proofs.Ytgmihbchcmjmdaa
open Go Go.Tr
set_option linter.unusedVariables false
theorem mixed : Try.prog.follows .mixedOrders = true := by kernel_rfl
/-- struct { locks int; has []locks.claim; queue []locks.claim } -/
structure S76 where
  f0 : Int
  f1 : Sl
  f2 : Sl
  deriving DecidableEq
def k76 : Kd S76 := kIso (kPair (kI .i64) (kPair kL kL)) (fun x => (x.f0, x.f1, x.f2)) (fun x => ⟨x.1, x.2.1, x.2.2⟩) (fun _ => rfl) (fun _ => rfl)
def z76 : S76 := ⟨0, Sl.nil, Sl.nil⟩
/-- struct { N int; Shared bool } -/
structure S31 where
  f0 : Int
  f1 : Bool
  deriving DecidableEq
def k31 : Kd S31 := kIso (kPair (kI .i64) kB) (fun x => (x.f0, x.f1)) (fun x => ⟨x.1, x.2⟩) (fun _ => rfl) (fun _ => rfl)
def z31 : S31 := ⟨0, false⟩
/-- struct { Task int; Why error } -/
structure S83 where
  f0 : Int
  f1 : IF
def k83 : Kd S83 := kIso (kPair (kI .i64) kIf) (fun x => (x.f0, x.f1)) (fun x => ⟨x.1, x.2⟩) (fun _ => rfl) (fun _ => rfl)
def z83 : S83 := ⟨0, none⟩
/-- struct { task int; set map[int]int } -/
structure S85 where
  f0 : Int
  f1 : Option Nat
  deriving DecidableEq
def k85 : Kd S85 := kIso (kPair (kI .i64) kM) (fun x => (x.f0, x.f1)) (fun x => ⟨x.1, x.2⟩) (fun _ => rfl) (fun _ => rfl)
def z85 : S85 := ⟨0, none⟩
/-- struct { Task int; L []api.Lock; Granted bool } -/
structure S34 where
  f0 : Int
  f1 : Sl
  f2 : Bool
  deriving DecidableEq
def k34 : Kd S34 := kIso (kPair (kI .i64) (kPair kL kB)) (fun x => (x.f0, x.f1, x.f2)) (fun x => ⟨x.1, x.2.1, x.2.2⟩) (fun _ => rfl) (fun _ => rfl)
def z34 : S34 := ⟨0, Sl.nil, false⟩
/-- struct { Locks int; Held []spateref11.Set; Wait []spateref11.Set } -/
structure S92 where
  f0 : Int
  f1 : Sl
  f2 : Sl
  deriving DecidableEq
def k92 : Kd S92 := kIso (kPair (kI .i64) (kPair kL kL)) (fun x => (x.f0, x.f1, x.f2)) (fun x => ⟨x.1, x.2.1, x.2.2⟩) (fun _ => rfl) (fun _ => rfl)
def z92 : S92 := ⟨0, Sl.nil, Sl.nil⟩
/-- struct { Kind int; Task int; L []api.Lock } -/
structure S52 where
  f0 : Int
  f1 : Int
  f2 : Sl
  deriving DecidableEq
def k52 : Kd S52 := kIso (kPair (kI .i64) (kPair (kI .i64) kL)) (fun x => (x.f0, x.f1, x.f2)) (fun x => ⟨x.1, x.2.1, x.2.2⟩) (fun _ => rfl) (fun _ => rfl)
def z52 : S52 := ⟨0, 0, Sl.nil⟩
/-- struct { Task int; L []api.Lock } -/
structure S98 where
  f0 : Int
  f1 : Sl
  deriving DecidableEq
def k98 : Kd S98 := kIso (kPair (kI .i64) kL) (fun x => (x.f0, x.f1)) (fun x => ⟨x.1, x.2⟩) (fun _ => rfl) (fun _ => rfl)
def z98 : S98 := ⟨0, Sl.nil⟩
theorem ty3 : TyOK Try.prog 3 (kI .i64).n (kI .i64).agg := ⟨by kernel_rfl, by kernel_rfl⟩
theorem zero3 : (Try.prog.info? 3).bind (·.zero) = some (.int .i64 0) := by kernel_rfl
theorem ty4 : TyOK Try.prog 4 kB.n kB.agg := ⟨by kernel_rfl, by kernel_rfl⟩
theorem zero4 : (Try.prog.info? 4).bind (·.zero) = some (.bool false) := by kernel_rfl
theorem ty22 : TyOK Try.prog 22 kL.n kL.agg := ⟨by kernel_rfl, by kernel_rfl⟩
theorem zero22 : (Try.prog.info? 22).bind (·.zero) = some (.slice none 0 0) := by kernel_rfl
theorem ty30 : TyOK Try.prog 30 kL.n kL.agg := ⟨by kernel_rfl, by kernel_rfl⟩
theorem zero30 : (Try.prog.info? 30).bind (·.zero) = some (.slice none 0 0) := by kernel_rfl
theorem ty32 : TyOK Try.prog 32 k31.n k31.agg := ⟨by kernel_rfl, by kernel_rfl⟩
theorem zero32 : (Try.prog.info? 32).bind (·.zero) = some (.agg #[.int .i64 0, .bool false]) := by kernel_rfl
theorem ty35 : TyOK Try.prog 35 k34.n k34.agg := ⟨by kernel_rfl, by kernel_rfl⟩
theorem zero35 : (Try.prog.info? 35).bind (·.zero) = some (.agg #[.int .i64 0, .slice none 0 0, .bool false]) := by kernel_rfl
theorem ty37 : TyOK Try.prog 37 kIf.n kIf.agg := ⟨by kernel_rfl, by kernel_rfl⟩
theorem zero37 : (Try.prog.info? 37).bind (·.zero) = some (.nilIface) := by kernel_rfl
theorem ty53 : TyOK Try.prog 53 k52.n k52.agg := ⟨by kernel_rfl, by kernel_rfl⟩
theorem zero53 : (Try.prog.info? 53).bind (·.zero) = some (.agg #[.int .i64 0, .int .i64 0, .slice none 0 0]) := by kernel_rfl
theorem ty75 : TyOK Try.prog 75 kL.n kL.agg := ⟨by kernel_rfl, by kernel_rfl⟩
theorem zero75 : (Try.prog.info? 75).bind (·.zero) = some (.slice none 0 0) := by kernel_rfl
theorem ty78 : TyOK Try.prog 78 kM.n kM.agg := ⟨by kernel_rfl, by kernel_rfl⟩
theorem zero78 : (Try.prog.info? 78).bind (·.zero) = some (.map none) := by kernel_rfl
theorem ty86 : TyOK Try.prog 86 k85.n k85.agg := ⟨by kernel_rfl, by kernel_rfl⟩
theorem zero86 : (Try.prog.info? 86).bind (·.zero) = some (.agg #[.int .i64 0, .map none]) := by kernel_rfl
theorem ty91 : TyOK Try.prog 91 kL.n kL.agg := ⟨by kernel_rfl, by kernel_rfl⟩
theorem zero91 : (Try.prog.info? 91).bind (·.zero) = some (.slice none 0 0) := by kernel_rfl
theorem ty99 : TyOK Try.prog 99 k98.n k98.agg := ⟨by kernel_rfl, by kernel_rfl⟩
theorem zero99 : (Try.prog.info? 99).bind (·.zero) = some (.agg #[.int .i64 0, .slice none 0 0]) := by kernel_rfl
theorem ty101 : TyOK Try.prog 101 (kA 2 (kI .i64)).n (kA 2 (kI .i64)).agg := ⟨by kernel_rfl, by kernel_rfl⟩
theorem zero101 : (Try.prog.info? 101).bind (·.zero) = some (.agg #[.int .i64 0, .int .i64 0]) := by kernel_rfl
theorem el3 : ElemOK Try.prog 3 (kI .i64).n 8 (((kI .i64).enc 0)) := ⟨by
  have h : (Try.prog.info? 3).map (fun i => (i.zero, i.size, i.bytes)) = some (some (.int .i64 0), (kI .i64).n, 8) := by kernel_rfl
  simp only [Option.map_eq_some_iff, Prod.mk.injEq] at h
  obtain ⟨i, hi, h1, h2, h3⟩ := h
  exact ⟨i, _, hi, h1, by rfl, h2, h3⟩⟩
theorem el22 : ElemOK Try.prog 22 kL.n 24 ((kL.enc Sl.nil)) := ⟨by
  have h : (Try.prog.info? 22).map (fun i => (i.zero, i.size, i.bytes)) = some (some (.slice none 0 0), kL.n, 24) := by kernel_rfl
  simp only [Option.map_eq_some_iff, Prod.mk.injEq] at h
  obtain ⟨i, hi, h1, h2, h3⟩ := h
  exact ⟨i, _, hi, h1, by rfl, h2, h3⟩⟩
theorem el30 : ElemOK Try.prog 30 kL.n 24 ((kL.enc Sl.nil)) := ⟨by
  have h : (Try.prog.info? 30).map (fun i => (i.zero, i.size, i.bytes)) = some (some (.slice none 0 0), kL.n, 24) := by kernel_rfl
  simp only [Option.map_eq_some_iff, Prod.mk.injEq] at h
  obtain ⟨i, hi, h1, h2, h3⟩ := h
  exact ⟨i, _, hi, h1, by rfl, h2, h3⟩⟩
theorem el32 : ElemOK Try.prog 32 k31.n 16 ((k31.enc z31)) := ⟨by
  have h : (Try.prog.info? 32).map (fun i => (i.zero, i.size, i.bytes)) = some (some (.agg #[.int .i64 0, .bool false]), k31.n, 16) := by kernel_rfl
  simp only [Option.map_eq_some_iff, Prod.mk.injEq] at h
  obtain ⟨i, hi, h1, h2, h3⟩ := h
  exact ⟨i, _, hi, h1, by rfl, h2, h3⟩⟩
theorem el35 : ElemOK Try.prog 35 k34.n 40 ((k34.enc z34)) := ⟨by
  have h : (Try.prog.info? 35).map (fun i => (i.zero, i.size, i.bytes)) = some (some (.agg #[.int .i64 0, .slice none 0 0, .bool false]), k34.n, 40) := by kernel_rfl
  simp only [Option.map_eq_some_iff, Prod.mk.injEq] at h
  obtain ⟨i, hi, h1, h2, h3⟩ := h
  exact ⟨i, _, hi, h1, by rfl, h2, h3⟩⟩
theorem el86 : ElemOK Try.prog 86 k85.n 16 ((k85.enc z85)) := ⟨by
  have h : (Try.prog.info? 86).map (fun i => (i.zero, i.size, i.bytes)) = some (some (.agg #[.int .i64 0, .map none]), k85.n, 16) := by kernel_rfl
  simp only [Option.map_eq_some_iff, Prod.mk.injEq] at h
  obtain ⟨i, hi, h1, h2, h3⟩ := h
  exact ⟨i, _, hi, h1, by rfl, h2, h3⟩⟩
theorem el99 : ElemOK Try.prog 99 k98.n 32 ((k98.enc z98)) := ⟨by
  have h : (Try.prog.info? 99).map (fun i => (i.zero, i.size, i.bytes)) = some (some (.agg #[.int .i64 0, .slice none 0 0]), k98.n, 32) := by kernel_rfl
  simp only [Option.map_eq_some_iff, Prod.mk.injEq] at h
  obtain ⟨i, hi, h1, h2, h3⟩ := h
  exact ⟨i, _, hi, h1, by rfl, h2, h3⟩⟩
theorem mt78 : MapTy Try.prog 78 3 3 .i64 := ⟨Try.underlying78, Try.underlying3⟩
theorem fd32_0 : FieldOK Try.prog 32 0 0 := ⟨by
  have h : ((Try.prog.underlying 32).bind fun | .struct fs => fs[0]? | _ => none).map (fun f => (f.offset, (Try.prog.info? f.type).map (·.size))) = some (0, some 1) := by kernel_rfl
  exact field_of h (by decide)⟩
theorem fd32_1 : FieldOK Try.prog 32 1 1 := ⟨by
  have h : ((Try.prog.underlying 32).bind fun | .struct fs => fs[1]? | _ => none).map (fun f => (f.offset, (Try.prog.info? f.type).map (·.size))) = some (1, some 1) := by kernel_rfl
  exact field_of h (by decide)⟩
theorem fd35_0 : FieldOK Try.prog 35 0 0 := ⟨by
  have h : ((Try.prog.underlying 35).bind fun | .struct fs => fs[0]? | _ => none).map (fun f => (f.offset, (Try.prog.info? f.type).map (·.size))) = some (0, some 1) := by kernel_rfl
  exact field_of h (by decide)⟩
theorem fd35_1 : FieldOK Try.prog 35 1 1 := ⟨by
  have h : ((Try.prog.underlying 35).bind fun | .struct fs => fs[1]? | _ => none).map (fun f => (f.offset, (Try.prog.info? f.type).map (·.size))) = some (1, some 1) := by kernel_rfl
  exact field_of h (by decide)⟩
theorem fd35_2 : FieldOK Try.prog 35 2 2 := ⟨by
  have h : ((Try.prog.underlying 35).bind fun | .struct fs => fs[2]? | _ => none).map (fun f => (f.offset, (Try.prog.info? f.type).map (·.size))) = some (2, some 1) := by kernel_rfl
  exact field_of h (by decide)⟩
theorem fd53_0 : FieldOK Try.prog 53 0 0 := ⟨by
  have h : ((Try.prog.underlying 53).bind fun | .struct fs => fs[0]? | _ => none).map (fun f => (f.offset, (Try.prog.info? f.type).map (·.size))) = some (0, some 1) := by kernel_rfl
  exact field_of h (by decide)⟩
theorem fd53_1 : FieldOK Try.prog 53 1 1 := ⟨by
  have h : ((Try.prog.underlying 53).bind fun | .struct fs => fs[1]? | _ => none).map (fun f => (f.offset, (Try.prog.info? f.type).map (·.size))) = some (1, some 1) := by kernel_rfl
  exact field_of h (by decide)⟩
theorem fd53_2 : FieldOK Try.prog 53 2 2 := ⟨by
  have h : ((Try.prog.underlying 53).bind fun | .struct fs => fs[2]? | _ => none).map (fun f => (f.offset, (Try.prog.info? f.type).map (·.size))) = some (2, some 1) := by kernel_rfl
  exact field_of h (by decide)⟩
theorem fd77_0 : FieldOK Try.prog 77 0 0 := ⟨by
  have h : ((Try.prog.underlying 77).bind fun | .struct fs => fs[0]? | _ => none).map (fun f => (f.offset, (Try.prog.info? f.type).map (·.size))) = some (0, some 1) := by kernel_rfl
  exact field_of h (by decide)⟩
theorem fd77_1 : FieldOK Try.prog 77 1 1 := ⟨by
  have h : ((Try.prog.underlying 77).bind fun | .struct fs => fs[1]? | _ => none).map (fun f => (f.offset, (Try.prog.info? f.type).map (·.size))) = some (1, some 1) := by kernel_rfl
  exact field_of h (by decide)⟩
theorem fd77_2 : FieldOK Try.prog 77 2 2 := ⟨by
  have h : ((Try.prog.underlying 77).bind fun | .struct fs => fs[2]? | _ => none).map (fun f => (f.offset, (Try.prog.info? f.type).map (·.size))) = some (2, some 1) := by kernel_rfl
  exact field_of h (by decide)⟩
theorem fd84_1 : FieldOK Try.prog 84 1 1 := ⟨by
  have h : ((Try.prog.underlying 84).bind fun | .struct fs => fs[1]? | _ => none).map (fun f => (f.offset, (Try.prog.info? f.type).map (·.size))) = some (1, some 1) := by kernel_rfl
  exact field_of h (by decide)⟩
theorem fd86_0 : FieldOK Try.prog 86 0 0 := ⟨by
  have h : ((Try.prog.underlying 86).bind fun | .struct fs => fs[0]? | _ => none).map (fun f => (f.offset, (Try.prog.info? f.type).map (·.size))) = some (0, some 1) := by kernel_rfl
  exact field_of h (by decide)⟩
theorem fd86_1 : FieldOK Try.prog 86 1 1 := ⟨by
  have h : ((Try.prog.underlying 86).bind fun | .struct fs => fs[1]? | _ => none).map (fun f => (f.offset, (Try.prog.info? f.type).map (·.size))) = some (1, some 1) := by kernel_rfl
  exact field_of h (by decide)⟩
theorem fd93_0 : FieldOK Try.prog 93 0 0 := ⟨by
  have h : ((Try.prog.underlying 93).bind fun | .struct fs => fs[0]? | _ => none).map (fun f => (f.offset, (Try.prog.info? f.type).map (·.size))) = some (0, some 1) := by kernel_rfl
  exact field_of h (by decide)⟩
theorem fd93_1 : FieldOK Try.prog 93 1 1 := ⟨by
  have h : ((Try.prog.underlying 93).bind fun | .struct fs => fs[1]? | _ => none).map (fun f => (f.offset, (Try.prog.info? f.type).map (·.size))) = some (1, some 1) := by kernel_rfl
  exact field_of h (by decide)⟩
theorem fd93_2 : FieldOK Try.prog 93 2 2 := ⟨by
  have h : ((Try.prog.underlying 93).bind fun | .struct fs => fs[2]? | _ => none).map (fun f => (f.offset, (Try.prog.info? f.type).map (·.size))) = some (2, some 1) := by kernel_rfl
  exact field_of h (by decide)⟩
theorem fd99_0 : FieldOK Try.prog 99 0 0 := ⟨by
  have h : ((Try.prog.underlying 99).bind fun | .struct fs => fs[0]? | _ => none).map (fun f => (f.offset, (Try.prog.info? f.type).map (·.size))) = some (0, some 1) := by kernel_rfl
  exact field_of h (by decide)⟩
theorem fd99_1 : FieldOK Try.prog 99 1 1 := ⟨by
  have h : ((Try.prog.underlying 99).bind fun | .struct fs => fs[1]? | _ => none).map (fun f => (f.offset, (Try.prog.info? f.type).map (·.size))) = some (1, some 1) := by kernel_rfl
  exact field_of h (by decide)⟩
theorem st76 : StructOK Try.prog 76 #[(0, 1), (1, 1), (2, 1)] (k76.enc z76).toArray := ⟨by
  have h : (Try.prog.underlying 76).map (fun | .struct fs => fs.toList.map (fun f => (f.offset, (Try.prog.info? f.type).map (·.size))) | _ => []) = some [(0, some 1), (1, some 1), (2, some 1)] := by kernel_rfl
  have hz : (Try.prog.info? 76).bind (·.zero) = some (.agg #[.int .i64 0, .slice none 0 0, .slice none 0 0]) := by kernel_rfl
  exact struct_of h hz (by rfl) (by rfl) ⟨_, Try.underlying76⟩⟩
theorem st77 : StructOK Try.prog 77 #[(0, 1), (1, 1), (2, 1)] (k76.enc z76).toArray := ⟨by
  have h : (Try.prog.underlying 77).map (fun | .struct fs => fs.toList.map (fun f => (f.offset, (Try.prog.info? f.type).map (·.size))) | _ => []) = some [(0, some 1), (1, some 1), (2, some 1)] := by kernel_rfl
  have hz : (Try.prog.info? 77).bind (·.zero) = some (.agg #[.int .i64 0, .slice none 0 0, .slice none 0 0]) := by kernel_rfl
  exact struct_of h hz (by rfl) (by rfl) ⟨_, Try.underlying77⟩⟩
theorem st31 : StructOK Try.prog 31 #[(0, 1), (1, 1)] (k31.enc z31).toArray := ⟨by
  have h : (Try.prog.underlying 31).map (fun | .struct fs => fs.toList.map (fun f => (f.offset, (Try.prog.info? f.type).map (·.size))) | _ => []) = some [(0, some 1), (1, some 1)] := by kernel_rfl
  have hz : (Try.prog.info? 31).bind (·.zero) = some (.agg #[.int .i64 0, .bool false]) := by kernel_rfl
  exact struct_of h hz (by rfl) (by rfl) ⟨_, Try.underlying31⟩⟩
theorem st32 : StructOK Try.prog 32 #[(0, 1), (1, 1)] (k31.enc z31).toArray := ⟨by
  have h : (Try.prog.underlying 32).map (fun | .struct fs => fs.toList.map (fun f => (f.offset, (Try.prog.info? f.type).map (·.size))) | _ => []) = some [(0, some 1), (1, some 1)] := by kernel_rfl
  have hz : (Try.prog.info? 32).bind (·.zero) = some (.agg #[.int .i64 0, .bool false]) := by kernel_rfl
  exact struct_of h hz (by rfl) (by rfl) ⟨_, Try.underlying32⟩⟩
theorem st83 : StructOK Try.prog 83 #[(0, 1), (1, 1)] (k83.enc z83).toArray := ⟨by
  have h : (Try.prog.underlying 83).map (fun | .struct fs => fs.toList.map (fun f => (f.offset, (Try.prog.info? f.type).map (·.size))) | _ => []) = some [(0, some 1), (1, some 1)] := by kernel_rfl
  have hz : (Try.prog.info? 83).bind (·.zero) = some (.agg #[.int .i64 0, .nilIface]) := by kernel_rfl
  exact struct_of h hz (by rfl) (by rfl) ⟨_, Try.underlying83⟩⟩
theorem st84 : StructOK Try.prog 84 #[(0, 1), (1, 1)] (k83.enc z83).toArray := ⟨by
  have h : (Try.prog.underlying 84).map (fun | .struct fs => fs.toList.map (fun f => (f.offset, (Try.prog.info? f.type).map (·.size))) | _ => []) = some [(0, some 1), (1, some 1)] := by kernel_rfl
  have hz : (Try.prog.info? 84).bind (·.zero) = some (.agg #[.int .i64 0, .nilIface]) := by kernel_rfl
  exact struct_of h hz (by rfl) (by rfl) ⟨_, Try.underlying84⟩⟩
theorem st85 : StructOK Try.prog 85 #[(0, 1), (1, 1)] (k85.enc z85).toArray := ⟨by
  have h : (Try.prog.underlying 85).map (fun | .struct fs => fs.toList.map (fun f => (f.offset, (Try.prog.info? f.type).map (·.size))) | _ => []) = some [(0, some 1), (1, some 1)] := by kernel_rfl
  have hz : (Try.prog.info? 85).bind (·.zero) = some (.agg #[.int .i64 0, .map none]) := by kernel_rfl
  exact struct_of h hz (by rfl) (by rfl) ⟨_, Try.underlying85⟩⟩
theorem st86 : StructOK Try.prog 86 #[(0, 1), (1, 1)] (k85.enc z85).toArray := ⟨by
  have h : (Try.prog.underlying 86).map (fun | .struct fs => fs.toList.map (fun f => (f.offset, (Try.prog.info? f.type).map (·.size))) | _ => []) = some [(0, some 1), (1, some 1)] := by kernel_rfl
  have hz : (Try.prog.info? 86).bind (·.zero) = some (.agg #[.int .i64 0, .map none]) := by kernel_rfl
  exact struct_of h hz (by rfl) (by rfl) ⟨_, Try.underlying86⟩⟩
theorem st34 : StructOK Try.prog 34 #[(0, 1), (1, 1), (2, 1)] (k34.enc z34).toArray := ⟨by
  have h : (Try.prog.underlying 34).map (fun | .struct fs => fs.toList.map (fun f => (f.offset, (Try.prog.info? f.type).map (·.size))) | _ => []) = some [(0, some 1), (1, some 1), (2, some 1)] := by kernel_rfl
  have hz : (Try.prog.info? 34).bind (·.zero) = some (.agg #[.int .i64 0, .slice none 0 0, .bool false]) := by kernel_rfl
  exact struct_of h hz (by rfl) (by rfl) ⟨_, Try.underlying34⟩⟩
theorem st35 : StructOK Try.prog 35 #[(0, 1), (1, 1), (2, 1)] (k34.enc z34).toArray := ⟨by
  have h : (Try.prog.underlying 35).map (fun | .struct fs => fs.toList.map (fun f => (f.offset, (Try.prog.info? f.type).map (·.size))) | _ => []) = some [(0, some 1), (1, some 1), (2, some 1)] := by kernel_rfl
  have hz : (Try.prog.info? 35).bind (·.zero) = some (.agg #[.int .i64 0, .slice none 0 0, .bool false]) := by kernel_rfl
  exact struct_of h hz (by rfl) (by rfl) ⟨_, Try.underlying35⟩⟩
theorem st92 : StructOK Try.prog 92 #[(0, 1), (1, 1), (2, 1)] (k92.enc z92).toArray := ⟨by
  have h : (Try.prog.underlying 92).map (fun | .struct fs => fs.toList.map (fun f => (f.offset, (Try.prog.info? f.type).map (·.size))) | _ => []) = some [(0, some 1), (1, some 1), (2, some 1)] := by kernel_rfl
  have hz : (Try.prog.info? 92).bind (·.zero) = some (.agg #[.int .i64 0, .slice none 0 0, .slice none 0 0]) := by kernel_rfl
  exact struct_of h hz (by rfl) (by rfl) ⟨_, Try.underlying92⟩⟩
theorem st93 : StructOK Try.prog 93 #[(0, 1), (1, 1), (2, 1)] (k92.enc z92).toArray := ⟨by
  have h : (Try.prog.underlying 93).map (fun | .struct fs => fs.toList.map (fun f => (f.offset, (Try.prog.info? f.type).map (·.size))) | _ => []) = some [(0, some 1), (1, some 1), (2, some 1)] := by kernel_rfl
  have hz : (Try.prog.info? 93).bind (·.zero) = some (.agg #[.int .i64 0, .slice none 0 0, .slice none 0 0]) := by kernel_rfl
  exact struct_of h hz (by rfl) (by rfl) ⟨_, Try.underlying93⟩⟩
theorem st52 : StructOK Try.prog 52 #[(0, 1), (1, 1), (2, 1)] (k52.enc z52).toArray := ⟨by
  have h : (Try.prog.underlying 52).map (fun | .struct fs => fs.toList.map (fun f => (f.offset, (Try.prog.info? f.type).map (·.size))) | _ => []) = some [(0, some 1), (1, some 1), (2, some 1)] := by kernel_rfl
  have hz : (Try.prog.info? 52).bind (·.zero) = some (.agg #[.int .i64 0, .int .i64 0, .slice none 0 0]) := by kernel_rfl
  exact struct_of h hz (by rfl) (by rfl) ⟨_, Try.underlying52⟩⟩
theorem st53 : StructOK Try.prog 53 #[(0, 1), (1, 1), (2, 1)] (k52.enc z52).toArray := ⟨by
  have h : (Try.prog.underlying 53).map (fun | .struct fs => fs.toList.map (fun f => (f.offset, (Try.prog.info? f.type).map (·.size))) | _ => []) = some [(0, some 1), (1, some 1), (2, some 1)] := by kernel_rfl
  have hz : (Try.prog.info? 53).bind (·.zero) = some (.agg #[.int .i64 0, .int .i64 0, .slice none 0 0]) := by kernel_rfl
  exact struct_of h hz (by rfl) (by rfl) ⟨_, Try.underlying53⟩⟩
theorem st98 : StructOK Try.prog 98 #[(0, 1), (1, 1)] (k98.enc z98).toArray := ⟨by
  have h : (Try.prog.underlying 98).map (fun | .struct fs => fs.toList.map (fun f => (f.offset, (Try.prog.info? f.type).map (·.size))) | _ => []) = some [(0, some 1), (1, some 1)] := by kernel_rfl
  have hz : (Try.prog.info? 98).bind (·.zero) = some (.agg #[.int .i64 0, .slice none 0 0]) := by kernel_rfl
  exact struct_of h hz (by rfl) (by rfl) ⟨_, Try.underlying98⟩⟩
theorem st99 : StructOK Try.prog 99 #[(0, 1), (1, 1)] (k98.enc z98).toArray := ⟨by
  have h : (Try.prog.underlying 99).map (fun | .struct fs => fs.toList.map (fun f => (f.offset, (Try.prog.info? f.type).map (·.size))) | _ => []) = some [(0, some 1), (1, some 1)] := by kernel_rfl
  have hz : (Try.prog.info? 99).bind (·.zero) = some (.agg #[.int .i64 0, .slice none 0 0]) := by kernel_rfl
  exact struct_of h hz (by rfl) (by rfl) ⟨_, Try.underlying99⟩⟩
def eq32 (x y : S31) : Bool := [x.f0 == y.f0, x.f1 == y.f1].all id
theorem eqIn32 (x y : S31) (d : Nat) (w : World) : (Op.equalIn (d + 5) 32 (k31.val x) (k31.val y)).run Try.prog w = .ok (eq32 x y) w :=
  eqIn_struct (k := 4) (bs := [x.f0 == y.f0, x.f1 == y.f1]) (xs := (k31.enc x).toArray) (ys := (k31.enc y).toArray) Try.underlying32 (by kernel_rfl) ⟨by decide, ⟨_, _, part_one ty3 rfl, part_one ty3 rfl, fun d w => eqIn_int Try.underlying3 (d + 3) w⟩, by decide, ⟨_, _, part_one ty4 rfl, part_one ty4 rfl, fun d w => eqIn_bool Try.underlying4 (d + 3) w⟩, trivial⟩ d w
theorem guard32 {b : BinOp} {u v : Operand} (x y : S31) (w : World) : (eqGuard b 32 u v (k31.val x) (k31.val y)).run Try.prog w = .ok () w := guard_struct (by kernel_rfl) w
end Go.Proofs.Ytgmihbchcmjmdaa
