/- (*strings.Builder).WriteByte, laid by hand beside the laying of strings.Join. Conditions: lengths that fit memory. -/
import Derived.Test.YtanhkeeifnimgaaGreatDoorSyn17u
import Derived.Shelf.Strings.BuilderK
namespace Go.Proofs.YtanhkeeifnimgaaGreatDoor
open Go Go.RowKit Go.Proofs

noncomputable def ren167 : Go.Shelf.Ren := { Tryz.lays156_ren with f := fun n => if n = 167 then 31 else Tryz.lays156_ren.f n }
theorem lays167 : Lays.n167 Tryz.prog ren167 := { Tryz.lays156 with
  mixed := by kernel_rfl
  f167 := Tryz.func31.trans (congrArg some (by kernel_rfl))
  t5 := Tryz.underlying5
  a5 := Tryz.isAgg5
  z5 := Tryz.sizeOf5
  v5 := Tryz.zeroValue5 }
theorem extra167 : Builder.Extra Tryz.prog ren167 := {
  sizeBuilder := by kernel_rfl
  liesBuilder := by kernel_rfl
  t5 := Tryz.underlying5
  a5 := Tryz.isAgg5
  z5 := Tryz.sizeOf5
  v5 := Tryz.zeroValue5
  infoByte := by kernel_rfl
  cellsByte := by kernel_rfl
  sizeByte := by kernel_rfl
  neB5 := (Tryz.Builder_Extra_156).neB5 }
abbrev TB : TypeId := 62
abbrev TU : TypeId := 5
theorem writeByte_k (B b : Nat) (bs : List Value) (c : Int) (w : World) (h : Lib.IsBuilderF TB TU B b bs w) (hlen : bs.length + 1 ≤ 140737488355328) (hBw : B ≤ w.heap.size) :
    Calls Tryz.prog 31 #[.pointer (some ⟨b, 0, none⟩), .int .u8 c] w fun e w' => e = .returned .nilIface ∧ (Lib.BuilderAtF TB TU B b (.pointer (some ⟨b, 0, none⟩)) (bs ++ [.int .u8 c]) w' ∧ Below B w w' ∧ Lib.OthersKept TU (some b) w w') :=
  Any.Builder_WriteByte_k (ρ := ren167) lays167 extra167 B b bs c w h hlen hBw
theorem writeString_k (B b : Nat) (bs : List Value) (s : ByteArray) (w : World) (h : Lib.IsBuilderF TB TU B b bs w) (hlen : bs.length + s.size ≤ 140737488355328) (hBw : B ≤ w.heap.size) :
    Calls Tryz.prog 32 #[.pointer (some ⟨b, 0, none⟩), .string s] w fun e w' => e = .returned (.tuple #[.int .i64 s.size, .nilIface]) ∧ (Lib.BuilderAtF TB TU B b (.pointer (some ⟨b, 0, none⟩)) (bs ++ Lib.strCells s) w' ∧ Below B w w' ∧ Lib.OthersKept TU (some b) w w') :=
  Any.Builder_WriteString_k (ρ := Tryz.lays156_ren) { Tryz.lays156 with } Tryz.Builder_Extra_156 B b bs s w h hlen hBw
theorem string_k (B b : Nat) (l : List UInt8) (w : World) (h : Lib.IsBuilderF TB TU B b (Lib.byteCells l) w) (h0 : l ≠ []) :
    Calls Tryz.prog 33 #[.pointer (some ⟨b, 0, none⟩)] w fun e w' => e = .returned (.string (S l)) ∧ (Lib.IsBuilderF TB TU B b (Lib.byteCells l) w' ∧ Below B w w' ∧ Lib.OthersKept TU (some b) w w') :=
  Any.Builder_String_k (ρ := Tryz.lays156_ren) { Tryz.lays156 with } Tryz.Builder_Extra_156 B b l w h h0
theorem blk_others {w w' : World} {b g : Nat} {t : TypeId} {cs : Array Value} (h : Lib.OthersKept TU (some b) w w') (hg : Blk w g t cs) (hne : g ≠ b) (ht : t ≠ TU) : Blk w' g t cs :=
  h g _ hg (fun e => hne (Option.some.inj e)) (fun c fz e => by injection e with _ e2; exact ht e2)
end Go.Proofs.YtanhkeeifnimgaaGreatDoor
