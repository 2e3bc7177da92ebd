/- Messages (26 cells): a whole message is laid into a variable, read out of it, and boxed into a slice of one, in one step each. -/
import Derived.Test.YtedcdjlpogpgbaaSame
import Derived.Deep.WholeRow
set_option linter.unusedVariables false
set_option linter.unusedSimpArgs false
namespace Go.Proofs.Ytedcdjlpogpgbaa
open Go.RowKit

def storeMsg (x y : Value) : Sem Unit := Instr.storeAt 74 x y
theorem storeMsg_eq (x y : Value) : Instr.storeAt 74 x y = storeMsg x y := rfl
def loadMsg (x : Value) : Sem Value := Instr.loadAt 74 x
theorem loadMsg_eq (x : Value) : Instr.loadAt 74 x = loadMsg x := rfl
def boxMsg (x : Value) : Sem Value := Instr.buildSlice 70 1 #[(0, x)]
theorem boxMsg_eq (x : Value) : Instr.buildSlice 70 1 #[(0, x)] = boxMsg x := rfl
theorem msg_info : (Try.prog.info? 74).map (·.size) = some 26 := by kernel_rfl
theorem msg_agg (w : World) : (isAgg 74).run Try.prog w = .ok true w := by kernel_rfl
theorem msg_size (w : World) : (sizeOf 74).run Try.prog w = .ok 26 w := by kernel_rfl
def msgVal (kind from_ cfg : Int) (ev : Value) : Array Value := #[.int .i64 kind, .int .i64 from_, .int .i64 cfg, ev, .int .i64 0, .int .i64 0, .int .i64 0, .int .i64 0, .slice none 0 0, .slice none 0 0, .slice none 0 0, .int .i64 0, .int .i64 0, .bool false, .int .i64 0, .int .i64 0, .string ⟨#[]⟩, .bool false, .string ⟨#[]⟩, .int .i64 0, .int .i64 0, .int .i64 0, .int .i64 0, .int .i64 0, .bool false, .string ⟨#[]⟩]
theorem run_storeMsg_new (w : World) (c c' : Array Value) (ho : c.size = c'.size) (hs : c'.size = 26) (h1 : c'.all (·.oneCell') = true) :
    (storeMsg (.pointer (some ⟨w.heap.size, 0, none⟩)) (.agg c')).run Try.prog (w.alloc (.cells c 74)) = .ok () (w.alloc (.cells c' 74)) :=
  run_storeAt_new w _ c c' (by rw [hs]; exact msg_info) ho h1
theorem run_storeMsg_drew (w : World) (c c' : Array Value) (ho : c.size = c'.size) (hs : c'.size = 26) (h1 : c'.all (·.oneCell') = true) :
    (storeMsg (.pointer (some ⟨w.heap.size, 0, none⟩)) (.agg c')).run Try.prog (w.alloc (.cells c 74)).drew = .ok () (w.alloc (.cells c' 74)).drew := run_storeMsg_new w.drew c c' ho hs h1
theorem run_storeMsg_lit (w : World) (d0 d1 d2 d3 d4 d5 d6 d7 d8 d9 d10 d11 d12 d13 d14 d15 d16 d17 d18 d19 d20 d21 d22 d23 d24 d25 : Value) (i0 i1 i2 i4 i5 i6 i7 i11 i12 i14 i15 i19 i20 i21 i22 i23 : Int) (s3 s8 s9 s10 : Option Addr) (n3 m3 n8 m8 n9 m9 n10 m10 : Nat) (b13 b17 b24 : Bool) (t16 t18 t25 : ByteArray) :
    (storeMsg (.pointer (some ⟨w.heap.size, 0, none⟩)) (.agg #[.int .i64 i0, .int .i64 i1, .int .i64 i2, .slice s3 n3 m3, .int .i64 i4, .int .i64 i5, .int .i64 i6, .int .i64 i7, .slice s8 n8 m8, .slice s9 n9 m9, .slice s10 n10 m10, .int .i64 i11, .int .i64 i12, .bool b13, .int .i64 i14, .int .i64 i15, .string t16, .bool b17, .string t18, .int .i64 i19, .int .i64 i20, .int .i64 i21, .int .i64 i22, .int .i64 i23, .bool b24, .string t25])).run Try.prog (w.alloc (.cells #[d0, d1, d2, d3, d4, d5, d6, d7, d8, d9, d10, d11, d12, d13, d14, d15, d16, d17, d18, d19, d20, d21, d22, d23, d24, d25] 74)) = .ok () (w.alloc (.cells #[.int .i64 i0, .int .i64 i1, .int .i64 i2, .slice s3 n3 m3, .int .i64 i4, .int .i64 i5, .int .i64 i6, .int .i64 i7, .slice s8 n8 m8, .slice s9 n9 m9, .slice s10 n10 m10, .int .i64 i11, .int .i64 i12, .bool b13, .int .i64 i14, .int .i64 i15, .string t16, .bool b17, .string t18, .int .i64 i19, .int .i64 i20, .int .i64 i21, .int .i64 i22, .int .i64 i23, .bool b24, .string t25] 74)) := run_storeMsg_new w #[d0, d1, d2, d3, d4, d5, d6, d7, d8, d9, d10, d11, d12, d13, d14, d15, d16, d17, d18, d19, d20, d21, d22, d23, d24, d25] #[.int .i64 i0, .int .i64 i1, .int .i64 i2, .slice s3 n3 m3, .int .i64 i4, .int .i64 i5, .int .i64 i6, .int .i64 i7, .slice s8 n8 m8, .slice s9 n9 m9, .slice s10 n10 m10, .int .i64 i11, .int .i64 i12, .bool b13, .int .i64 i14, .int .i64 i15, .string t16, .bool b17, .string t18, .int .i64 i19, .int .i64 i20, .int .i64 i21, .int .i64 i22, .int .i64 i23, .bool b24, .string t25] rfl rfl (by simp [Value.oneCell'])
theorem run_storeMsg_litd (w : World) (d0 d1 d2 d3 d4 d5 d6 d7 d8 d9 d10 d11 d12 d13 d14 d15 d16 d17 d18 d19 d20 d21 d22 d23 d24 d25 : Value) (i0 i1 i2 i4 i5 i6 i7 i11 i12 i14 i15 i19 i20 i21 i22 i23 : Int) (s3 s8 s9 s10 : Option Addr) (n3 m3 n8 m8 n9 m9 n10 m10 : Nat) (b13 b17 b24 : Bool) (t16 t18 t25 : ByteArray) :
    (storeMsg (.pointer (some ⟨w.heap.size, 0, none⟩)) (.agg #[.int .i64 i0, .int .i64 i1, .int .i64 i2, .slice s3 n3 m3, .int .i64 i4, .int .i64 i5, .int .i64 i6, .int .i64 i7, .slice s8 n8 m8, .slice s9 n9 m9, .slice s10 n10 m10, .int .i64 i11, .int .i64 i12, .bool b13, .int .i64 i14, .int .i64 i15, .string t16, .bool b17, .string t18, .int .i64 i19, .int .i64 i20, .int .i64 i21, .int .i64 i22, .int .i64 i23, .bool b24, .string t25])).run Try.prog (w.alloc (.cells #[d0, d1, d2, d3, d4, d5, d6, d7, d8, d9, d10, d11, d12, d13, d14, d15, d16, d17, d18, d19, d20, d21, d22, d23, d24, d25] 74)).drew = .ok () (w.alloc (.cells #[.int .i64 i0, .int .i64 i1, .int .i64 i2, .slice s3 n3 m3, .int .i64 i4, .int .i64 i5, .int .i64 i6, .int .i64 i7, .slice s8 n8 m8, .slice s9 n9 m9, .slice s10 n10 m10, .int .i64 i11, .int .i64 i12, .bool b13, .int .i64 i14, .int .i64 i15, .string t16, .bool b17, .string t18, .int .i64 i19, .int .i64 i20, .int .i64 i21, .int .i64 i22, .int .i64 i23, .bool b24, .string t25] 74)).drew := run_storeMsg_drew w #[d0, d1, d2, d3, d4, d5, d6, d7, d8, d9, d10, d11, d12, d13, d14, d15, d16, d17, d18, d19, d20, d21, d22, d23, d24, d25] #[.int .i64 i0, .int .i64 i1, .int .i64 i2, .slice s3 n3 m3, .int .i64 i4, .int .i64 i5, .int .i64 i6, .int .i64 i7, .slice s8 n8 m8, .slice s9 n9 m9, .slice s10 n10 m10, .int .i64 i11, .int .i64 i12, .bool b13, .int .i64 i14, .int .i64 i15, .string t16, .bool b17, .string t18, .int .i64 i19, .int .i64 i20, .int .i64 i21, .int .i64 i22, .int .i64 i23, .bool b24, .string t25] rfl rfl (by simp [Value.oneCell'])
theorem run_boxMsg (w : World) (c0 c1 c2 c3 c4 c5 c6 c7 c8 c9 c10 c11 c12 c13 c14 c15 c16 c17 c18 c19 c20 c21 c22 c23 c24 c25 : Value) :
    (boxMsg (.agg #[c0, c1, c2, c3, c4, c5, c6, c7, c8, c9, c10, c11, c12, c13, c14, c15, c16, c17, c18, c19, c20, c21, c22, c23, c24, c25])).run Try.prog w = .ok (.slice (some ⟨w.heap.size, 0, none⟩) 1 1) (w.alloc (.cells #[c0, c1, c2, c3, c4, c5, c6, c7, c8, c9, c10, c11, c12, c13, c14, c15, c16, c17, c18, c19, c20, c21, c22, c23, c24, c25] 74)) := by kernel_rfl
theorem run_loadMsg {w : World} {b : Nat} {cs : Array Value} {T : TypeId} (h : Blk w b cs T) (hs : cs.size = 26) : (loadMsg (.pointer (some ⟨b, 0, none⟩))).run Try.prog w = .ok (.agg cs) w := by
  unfold loadMsg Instr.loadAt
  simp only [Instr.sureAddr, Sem.run_bind, Sem.run_pure, Result.andThen_ok]
  exact loads_blk msg_agg msg_size h hs

end Go.Proofs.Ytedcdjlpogpgbaa
