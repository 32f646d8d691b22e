/- What the machine knows of the types of this seat: printed by gentd.py. -/
import Derived.Test.YtoclmkbjgmgekaaDoorRows
import Derived.Test.YtoclmkbjgmgekaaDoorA6
namespace Go.Proofs.YtoclmkbjgmgekaaDoor
set_option linter.unusedVariables false
set_option linter.unusedSimpArgs false
set_option linter.unusedSectionVars false
open Go.RowKit
set_option maxRecDepth 100000
def ti1 : TI := ⟨false, 1, 8, .other, none, none, none⟩
theorem ti1_ok : TIok Tryd.prog 1 ti1 := TIok.none Tryd.underlying1 Tryd.type1 rfl trivial rfl rfl rfl (fun _ h => by cases h) (fun _ h => by cases h) rfl
def ti2 : TI := ⟨false, 1, 8, .int .i64, some [.int .i64 0], none, none⟩
theorem ti2_ok : TIok Tryd.prog 2 ti2 := TIok.agg Tryd.underlying2 Tryd.type2 rfl rfl rfl rfl rfl rfl rfl rfl rfl (fun h => by first | rfl | (cases h; done)) (fun _ h => by cases h) (fun _ h => by cases h) (fun _ h => by cases h)
def ti3 : TI := ⟨false, 1, 8, .int .i64, some [.int .i64 0], none, none⟩
theorem ti3_ok : TIok Tryd.prog 3 ti3 := TIok.agg Tryd.underlying3 Tryd.type3 rfl rfl rfl rfl rfl rfl rfl rfl rfl (fun h => by first | rfl | (cases h; done)) (fun _ h => by cases h) (fun _ h => by cases h) (fun _ h => by cases h)
def ti4 : TI := ⟨false, 1, 1, .bool, some [.bool false], none, none⟩
theorem ti4_ok : TIok Tryd.prog 4 ti4 := TIok.agg Tryd.underlying4 Tryd.type4 rfl rfl rfl rfl rfl rfl rfl rfl rfl (fun h => by first | rfl | (cases h; done)) (fun _ h => by cases h) (fun _ h => by cases h) (fun _ h => by cases h)
def ti5 : TI := ⟨false, 1, 1, .int .u8, some [.int .u8 0], some .u8, none⟩
theorem ti5_ok : TIok Tryd.prog 5 ti5 := TIok.agg Tryd.underlying5 Tryd.type5 rfl rfl rfl rfl rfl rfl rfl rfl rfl (fun h => by first | rfl | (cases h; done)) (fun e h => by cases h; exact ⟨rfl, by decide⟩) (fun e h => by cases h; rfl) (fun _ h => by cases h)
def ti6 : TI := ⟨false, 1, 1, .int .u8, some [.int .u8 0], none, none⟩
theorem ti6_ok : TIok Tryd.prog 6 ti6 := TIok.agg Tryd.underlying6 Tryd.type6 rfl rfl rfl rfl rfl rfl rfl rfl rfl (fun h => by first | rfl | (cases h; done)) (fun _ h => by cases h) (fun _ h => by cases h) (fun _ h => by cases h)
def ti7 : TI := ⟨true, 4, 24, .struct [(0, 2), (1, 3), (2, 4), (3, 6)], some [.int .i64 0, .int .i64 0, .bool false, .int .u8 0], none, none⟩
theorem ti7_ok : TIok Tryd.prog 7 ti7 := TIok.agg Tryd.underlying7 Tryd.type7 rfl (⟨_, rfl, rfl, by simp [show Tryd.prog.info? 2 = some Tryd.t2 from Tryd.type2, show Tryd.prog.info? 3 = some Tryd.t3 from Tryd.type3, show Tryd.prog.info? 4 = some Tryd.t4 from Tryd.type4, show Tryd.prog.info? 6 = some Tryd.t6 from Tryd.type6]⟩) rfl rfl rfl rfl rfl rfl rfl (fun h => by first | rfl | (cases h; done)) (fun _ h => by cases h) (fun _ h => by cases h) (fun _ h => by cases h)
def ti8 : TI := ⟨true, 4, 24, .struct [(0, 2), (1, 3), (2, 4), (3, 6)], some [.int .i64 0, .int .i64 0, .bool false, .int .u8 0], none, none⟩
theorem ti8_ok : TIok Tryd.prog 8 ti8 := TIok.agg Tryd.underlying8 Tryd.type8 rfl (⟨_, rfl, rfl, by simp [show Tryd.prog.info? 2 = some Tryd.t2 from Tryd.type2, show Tryd.prog.info? 3 = some Tryd.t3 from Tryd.type3, show Tryd.prog.info? 4 = some Tryd.t4 from Tryd.type4, show Tryd.prog.info? 6 = some Tryd.t6 from Tryd.type6]⟩) rfl rfl rfl rfl rfl rfl rfl (fun h => by first | rfl | (cases h; done)) (fun _ h => by cases h) (fun _ h => by cases h) (fun _ h => by cases h)
def ti9 : TI := ⟨false, 1, 16, .string, some [.str ⟨#[]⟩], some .str, none⟩
theorem ti9_ok : TIok Tryd.prog 9 ti9 := TIok.agg Tryd.underlying9 Tryd.type9 rfl rfl rfl rfl rfl rfl rfl rfl rfl (fun h => by first | rfl | (cases h; done)) (fun e h => by cases h; exact ⟨rfl, by decide⟩) (fun e h => by cases h; rfl) (fun _ h => by cases h)
def ti10 : TI := ⟨false, 1, 16, .string, some [.str ⟨#[]⟩], none, none⟩
theorem ti10_ok : TIok Tryd.prog 10 ti10 := TIok.agg Tryd.underlying10 Tryd.type10 rfl rfl rfl rfl rfl rfl rfl rfl rfl (fun h => by first | rfl | (cases h; done)) (fun _ h => by cases h) (fun _ h => by cases h) (fun _ h => by cases h)
def ti11 : TI := ⟨false, 1, 16, .string, some [.str ⟨#[]⟩], none, none⟩
theorem ti11_ok : TIok Tryd.prog 11 ti11 := TIok.agg Tryd.underlying11 Tryd.type11 rfl rfl rfl rfl rfl rfl rfl rfl rfl (fun h => by first | rfl | (cases h; done)) (fun _ h => by cases h) (fun _ h => by cases h) (fun _ h => by cases h)
def ti12 : TI := ⟨false, 1, 8, .int .u64, some [.int .u64 0], none, none⟩
theorem ti12_ok : TIok Tryd.prog 12 ti12 := TIok.agg Tryd.underlying12 Tryd.type12 rfl rfl rfl rfl rfl rfl rfl rfl rfl (fun h => by first | rfl | (cases h; done)) (fun _ h => by cases h) (fun _ h => by cases h) (fun _ h => by cases h)
def ti13 : TI := ⟨true, 2, 24, .struct [(0, 9), (1, 12)], some [.str ⟨#[]⟩, .int .u64 0], none, none⟩
theorem ti13_ok : TIok Tryd.prog 13 ti13 := TIok.agg Tryd.underlying13 Tryd.type13 rfl (⟨_, rfl, rfl, by simp [show Tryd.prog.info? 9 = some Tryd.t9 from Tryd.type9, show Tryd.prog.info? 12 = some Tryd.t12 from Tryd.type12]⟩) rfl rfl rfl rfl rfl rfl rfl (fun h => by first | rfl | (cases h; done)) (fun _ h => by cases h) (fun _ h => by cases h) (fun _ h => by cases h)
def ti14 : TI := ⟨true, 2, 24, .struct [(0, 9), (1, 12)], some [.str ⟨#[]⟩, .int .u64 0], none, none⟩
theorem ti14_ok : TIok Tryd.prog 14 ti14 := TIok.agg Tryd.underlying14 Tryd.type14 rfl (⟨_, rfl, rfl, by simp [show Tryd.prog.info? 9 = some Tryd.t9 from Tryd.type9, show Tryd.prog.info? 12 = some Tryd.t12 from Tryd.type12]⟩) rfl rfl rfl rfl rfl rfl rfl (fun h => by first | rfl | (cases h; done)) (fun _ h => by cases h) (fun _ h => by cases h) (fun _ h => by cases h)
def ti15 : TI := ⟨false, 1, 8, .other, some [.cst (.pointer none)], none, none⟩
theorem ti15_ok : TIok Tryd.prog 15 ti15 := TIok.agg Tryd.underlying15 Tryd.type15 rfl trivial rfl rfl rfl rfl rfl rfl rfl (fun h => by first | rfl | (cases h; done)) (fun _ h => by cases h) (fun _ h => by cases h) (fun _ h => by cases h)
def ti16 : TI := ⟨false, 1, 8, .other, some [.cst (.pointer none)], none, none⟩
theorem ti16_ok : TIok Tryd.prog 16 ti16 := TIok.agg Tryd.underlying16 Tryd.type16 rfl trivial rfl rfl rfl rfl rfl rfl rfl (fun h => by first | rfl | (cases h; done)) (fun _ h => by cases h) (fun _ h => by cases h) (fun _ h => by cases h)
def ti17 : TI := ⟨false, 1, 8, .other, some [.cst (.pointer none)], none, none⟩
theorem ti17_ok : TIok Tryd.prog 17 ti17 := TIok.agg Tryd.underlying17 Tryd.type17 rfl trivial rfl rfl rfl rfl rfl rfl rfl (fun h => by first | rfl | (cases h; done)) (fun _ h => by cases h) (fun _ h => by cases h) (fun _ h => by cases h)
def ti18 : TI := ⟨true, 1, 8, .struct [(0, 17)], some [.cst (.pointer none)], none, none⟩
theorem ti18_ok : TIok Tryd.prog 18 ti18 := TIok.agg Tryd.underlying18 Tryd.type18 rfl (⟨_, rfl, rfl, by simp [show Tryd.prog.info? 17 = some Tryd.t17 from Tryd.type17]⟩) rfl rfl rfl rfl rfl rfl rfl (fun h => by first | rfl | (cases h; done)) (fun _ h => by cases h) (fun _ h => by cases h) (fun _ h => by cases h)
def ti19 : TI := ⟨true, 1, 8, .struct [(0, 17)], some [.cst (.pointer none)], none, none⟩
theorem ti19_ok : TIok Tryd.prog 19 ti19 := TIok.agg Tryd.underlying19 Tryd.type19 rfl (⟨_, rfl, rfl, by simp [show Tryd.prog.info? 17 = some Tryd.t17 from Tryd.type17]⟩) rfl rfl rfl rfl rfl rfl rfl (fun h => by first | rfl | (cases h; done)) (fun _ h => by cases h) (fun _ h => by cases h) (fun _ h => by cases h)
def ti20 : TI := ⟨false, 1, 16, .iface, some [.cst .nilIface], none, none⟩
theorem ti20_ok : TIok Tryd.prog 20 ti20 := TIok.agg Tryd.underlying20 Tryd.type20 rfl (⟨_, rfl⟩) rfl rfl rfl rfl rfl rfl rfl (fun h => by first | rfl | (cases h; done)) (fun _ h => by cases h) (fun _ h => by cases h) (fun _ h => by cases h)
def ti21 : TI := ⟨false, 1, 4, .int .i32, some [.int .i32 0], none, none⟩
theorem ti21_ok : TIok Tryd.prog 21 ti21 := TIok.agg Tryd.underlying21 Tryd.type21 rfl rfl rfl rfl rfl rfl rfl rfl rfl (fun h => by first | rfl | (cases h; done)) (fun _ h => by cases h) (fun _ h => by cases h) (fun _ h => by cases h)
def ti22 : TI := ⟨false, 1, 24, .slice 9, some [.nil], none, none⟩
theorem ti22_ok : TIok Tryd.prog 22 ti22 := TIok.agg Tryd.underlying22 Tryd.type22 rfl (⟨rfl, by rw [show Tryd.prog.info? 9 = some Tryd.t9 from Tryd.type9]; rfl⟩) rfl rfl rfl rfl rfl rfl rfl (fun h => by first | rfl | (cases h; done)) (fun _ h => by cases h) (fun _ h => by cases h) (fun _ h => by cases h)
def ti23 : TI := ⟨false, 1, 8, .other, none, none, none⟩
theorem ti23_ok : TIok Tryd.prog 23 ti23 := TIok.none Tryd.underlying23 Tryd.type23 rfl trivial rfl rfl rfl (fun _ h => by cases h) (fun _ h => by cases h) rfl
def ti24 : TI := ⟨false, 1, 8, .other, none, none, none⟩
theorem ti24_ok : TIok Tryd.prog 24 ti24 := TIok.none Tryd.underlying24 Tryd.type24 rfl trivial rfl rfl rfl (fun _ h => by cases h) (fun _ h => by cases h) rfl
def ti25 : TI := ⟨false, 1, 24, .slice 36, some [.nil], none, none⟩
theorem ti25_ok : TIok Tryd.prog 25 ti25 := TIok.agg Tryd.underlying25 Tryd.type25 rfl (⟨rfl, by rw [show Tryd.prog.info? 36 = some Tryd.t36 from Tryd.type36]; rfl⟩) rfl rfl rfl rfl rfl rfl rfl (fun h => by first | rfl | (cases h; done)) (fun _ h => by cases h) (fun _ h => by cases h) (fun _ h => by cases h)
def ti26 : TI := ⟨false, 1, 8, .int .i64, some [.int .i64 0], none, none⟩
theorem ti26_ok : TIok Tryd.prog 26 ti26 := TIok.agg Tryd.underlying26 Tryd.type26 rfl rfl rfl rfl rfl rfl rfl rfl rfl (fun h => by first | rfl | (cases h; done)) (fun _ h => by cases h) (fun _ h => by cases h) (fun _ h => by cases h)
def ti28 : TI := ⟨false, 1, 8, .other, none, none, none⟩
theorem ti28_ok : TIok Tryd.prog 28 ti28 := TIok.none Tryd.underlying28 Tryd.type28 rfl trivial rfl rfl rfl (fun _ h => by cases h) (fun _ h => by cases h) rfl
def ti29 : TI := ⟨false, 1, 8, .other, none, none, none⟩
theorem ti29_ok : TIok Tryd.prog 29 ti29 := TIok.none Tryd.underlying29 Tryd.type29 rfl trivial rfl rfl rfl (fun _ h => by cases h) (fun _ h => by cases h) rfl
def ti30 : TI := ⟨false, 1, 8, .other, none, none, none⟩
theorem ti30_ok : TIok Tryd.prog 30 ti30 := TIok.none Tryd.underlying30 Tryd.type30 rfl trivial rfl rfl rfl (fun _ h => by cases h) (fun _ h => by cases h) rfl
def ti31 : TI := ⟨false, 1, 24, .slice 43, some [.nil], none, none⟩
theorem ti31_ok : TIok Tryd.prog 31 ti31 := TIok.agg Tryd.underlying31 Tryd.type31 rfl (⟨rfl, by rw [show Tryd.prog.info? 43 = some Tryd.t43 from Tryd.type43]; rfl⟩) rfl rfl rfl rfl rfl rfl rfl (fun h => by first | rfl | (cases h; done)) (fun _ h => by cases h) (fun _ h => by cases h) (fun _ h => by cases h)
def ti32 : TI := ⟨false, 1, 24, .slice 45, some [.nil], none, none⟩
theorem ti32_ok : TIok Tryd.prog 32 ti32 := TIok.agg Tryd.underlying32 Tryd.type32 rfl (⟨rfl, by rw [show Tryd.prog.info? 45 = some Tryd.t45 from Tryd.type45]; rfl⟩) rfl rfl rfl rfl rfl rfl rfl (fun h => by first | rfl | (cases h; done)) (fun _ h => by cases h) (fun _ h => by cases h) (fun _ h => by cases h)
def ti33 : TI := ⟨true, 4, 80, .struct [(0, 3), (1, 31), (2, 31), (3, 31)], some [.int .i64 0, .nil, .nil, .nil], none, none⟩
theorem ti33_ok : TIok Tryd.prog 33 ti33 := TIok.agg Tryd.underlying33 Tryd.type33 rfl (⟨_, rfl, rfl, by simp [show Tryd.prog.info? 3 = some Tryd.t3 from Tryd.type3, show Tryd.prog.info? 31 = some Tryd.t31 from Tryd.type31]⟩) rfl rfl rfl rfl rfl rfl rfl (fun h => by first | rfl | (cases h; done)) (fun _ h => by cases h) (fun _ h => by cases h) (fun _ h => by cases h)
def ti34 : TI := ⟨true, 4, 80, .struct [(0, 3), (1, 31), (2, 31), (3, 31)], some [.int .i64 0, .nil, .nil, .nil], none, none⟩
theorem ti34_ok : TIok Tryd.prog 34 ti34 := TIok.agg Tryd.underlying34 Tryd.type34 rfl (⟨_, rfl, rfl, by simp [show Tryd.prog.info? 3 = some Tryd.t3 from Tryd.type3, show Tryd.prog.info? 31 = some Tryd.t31 from Tryd.type31]⟩) rfl rfl rfl rfl rfl rfl rfl (fun h => by first | rfl | (cases h; done)) (fun _ h => by cases h) (fun _ h => by cases h) (fun _ h => by cases h)
def ti35 : TI := ⟨true, 12, 224, .struct [(0, 3), (1, 9), (2, 31), (3, 32), (4, 22), (5, 22), (6, 26), (7, 9), (8, 34)], some [.int .i64 0, .str ⟨#[]⟩, .nil, .nil, .nil, .nil, .int .i64 0, .str ⟨#[]⟩, .int .i64 0, .nil, .nil, .nil], none, none⟩
theorem ti35_ok : TIok Tryd.prog 35 ti35 := TIok.agg Tryd.underlying35 Tryd.type35 rfl (⟨_, rfl, rfl, by simp [show Tryd.prog.info? 3 = some Tryd.t3 from Tryd.type3, show Tryd.prog.info? 9 = some Tryd.t9 from Tryd.type9, show Tryd.prog.info? 22 = some Tryd.t22 from Tryd.type22, show Tryd.prog.info? 26 = some Tryd.t26 from Tryd.type26, show Tryd.prog.info? 31 = some Tryd.t31 from Tryd.type31, show Tryd.prog.info? 32 = some Tryd.t32 from Tryd.type32, show Tryd.prog.info? 34 = some Tryd.t34 from Tryd.type34]⟩) rfl rfl rfl rfl rfl rfl rfl (fun h => by first | rfl | (cases h; done)) (fun _ h => by cases h) (fun _ h => by cases h) (fun _ h => by cases h)
def ti36 : TI := ⟨true, 12, 224, .struct [(0, 3), (1, 9), (2, 31), (3, 32), (4, 22), (5, 22), (6, 26), (7, 9), (8, 34)], some [.int .i64 0, .str ⟨#[]⟩, .nil, .nil, .nil, .nil, .int .i64 0, .str ⟨#[]⟩, .int .i64 0, .nil, .nil, .nil], some .msg, none⟩
theorem ti36_ok : TIok Tryd.prog 36 ti36 := TIok.agg Tryd.underlying36 Tryd.type36 rfl (⟨_, rfl, rfl, by simp [show Tryd.prog.info? 3 = some Tryd.t3 from Tryd.type3, show Tryd.prog.info? 9 = some Tryd.t9 from Tryd.type9, show Tryd.prog.info? 22 = some Tryd.t22 from Tryd.type22, show Tryd.prog.info? 26 = some Tryd.t26 from Tryd.type26, show Tryd.prog.info? 31 = some Tryd.t31 from Tryd.type31, show Tryd.prog.info? 32 = some Tryd.t32 from Tryd.type32, show Tryd.prog.info? 34 = some Tryd.t34 from Tryd.type34]⟩) rfl rfl rfl rfl rfl rfl rfl (fun h => by first | rfl | (cases h; done)) (fun e h => by cases h; exact ⟨rfl, by decide⟩) (fun e h => by cases h; rfl) (fun _ h => by cases h)
def ti37 : TI := ⟨false, 1, 8, .other, none, none, none⟩
theorem ti37_ok : TIok Tryd.prog 37 ti37 := TIok.none Tryd.underlying37 Tryd.type37 rfl trivial rfl rfl rfl (fun _ h => by cases h) (fun _ h => by cases h) rfl
def ti39 : TI := ⟨false, 1, 8, .other, none, none, none⟩
theorem ti39_ok : TIok Tryd.prog 39 ti39 := TIok.none Tryd.underlying39 Tryd.type39 rfl trivial rfl rfl rfl (fun _ h => by cases h) (fun _ h => by cases h) rfl
def ti40 : TI := ⟨false, 1, 8, .other, none, none, none⟩
theorem ti40_ok : TIok Tryd.prog 40 ti40 := TIok.none Tryd.underlying40 Tryd.type40 rfl trivial rfl rfl rfl (fun _ h => by cases h) (fun _ h => by cases h) rfl
def ti41 : TI := ⟨false, 1, 8, .other, none, none, none⟩
theorem ti41_ok : TIok Tryd.prog 41 ti41 := TIok.none Tryd.underlying41 Tryd.type41 rfl trivial rfl rfl rfl (fun _ h => by cases h) (fun _ h => by cases h) rfl
def ti42 : TI := ⟨true, 32, 32, .array 32 5, some [.int .u8 0, .int .u8 0, .int .u8 0, .int .u8 0, .int .u8 0, .int .u8 0, .int .u8 0, .int .u8 0, .int .u8 0, .int .u8 0, .int .u8 0, .int .u8 0, .int .u8 0, .int .u8 0, .int .u8 0, .int .u8 0, .int .u8 0, .int .u8 0, .int .u8 0, .int .u8 0, .int .u8 0, .int .u8 0, .int .u8 0, .int .u8 0, .int .u8 0, .int .u8 0, .int .u8 0, .int .u8 0, .int .u8 0, .int .u8 0, .int .u8 0, .int .u8 0], none, none⟩
theorem ti42_ok : TIok Tryd.prog 42 ti42 := TIok.agg Tryd.underlying42 Tryd.type42 rfl rfl rfl rfl rfl rfl rfl rfl rfl (fun h => by first | rfl | (cases h; done)) (fun _ h => by cases h) (fun _ h => by cases h) (fun _ h => by cases h)
def ti43 : TI := ⟨true, 32, 32, .array 32 5, some [.int .u8 0, .int .u8 0, .int .u8 0, .int .u8 0, .int .u8 0, .int .u8 0, .int .u8 0, .int .u8 0, .int .u8 0, .int .u8 0, .int .u8 0, .int .u8 0, .int .u8 0, .int .u8 0, .int .u8 0, .int .u8 0, .int .u8 0, .int .u8 0, .int .u8 0, .int .u8 0, .int .u8 0, .int .u8 0, .int .u8 0, .int .u8 0, .int .u8 0, .int .u8 0, .int .u8 0, .int .u8 0, .int .u8 0, .int .u8 0, .int .u8 0, .int .u8 0], some .dig, some [0, 0, 0, 0, 0, 0, 0, 0, 0, 0, 0, 0, 0, 0, 0, 0, 0, 0, 0, 0, 0, 0, 0, 0, 0, 0, 0, 0, 0, 0, 0, 0]⟩
theorem ti43_ok : TIok Tryd.prog 43 ti43 := TIok.agg Tryd.underlying43 Tryd.type43 rfl rfl rfl rfl rfl rfl rfl rfl rfl (fun h => by first | rfl | (cases h; done)) (fun e h => by cases h; exact ⟨rfl, by decide⟩) (fun e h => by cases h; rfl) (fun ks hks => by cases hks; exact ⟨Tryd.eqGuardType43, rfl, fun vs us b h0 => by rw [eqV_arr (d := 3) Tryd.underlying43 Tryd.type5]; exact eqIs_leaf (d := 2) Tryd.underlying5 32 0 [] [] vs us b rfl rfl h0⟩)
def ti44 : TI := ⟨true, 99, 136, .struct [(0, 43), (32, 43), (64, 4), (65, 3), (66, 43), (98, 31)], some [.int .u8 0, .int .u8 0, .int .u8 0, .int .u8 0, .int .u8 0, .int .u8 0, .int .u8 0, .int .u8 0, .int .u8 0, .int .u8 0, .int .u8 0, .int .u8 0, .int .u8 0, .int .u8 0, .int .u8 0, .int .u8 0, .int .u8 0, .int .u8 0, .int .u8 0, .int .u8 0, .int .u8 0, .int .u8 0, .int .u8 0, .int .u8 0, .int .u8 0, .int .u8 0, .int .u8 0, .int .u8 0, .int .u8 0, .int .u8 0, .int .u8 0, .int .u8 0, .int .u8 0, .int .u8 0, .int .u8 0, .int .u8 0, .int .u8 0, .int .u8 0, .int .u8 0, .int .u8 0, .int .u8 0, .int .u8 0, .int .u8 0, .int .u8 0, .int .u8 0, .int .u8 0, .int .u8 0, .int .u8 0, .int .u8 0, .int .u8 0, .int .u8 0, .int .u8 0, .int .u8 0, .int .u8 0, .int .u8 0, .int .u8 0, .int .u8 0, .int .u8 0, .int .u8 0, .int .u8 0, .int .u8 0, .int .u8 0, .int .u8 0, .int .u8 0, .bool false, .int .i64 0, .int .u8 0, .int .u8 0, .int .u8 0, .int .u8 0, .int .u8 0, .int .u8 0, .int .u8 0, .int .u8 0, .int .u8 0, .int .u8 0, .int .u8 0, .int .u8 0, .int .u8 0, .int .u8 0, .int .u8 0, .int .u8 0, .int .u8 0, .int .u8 0, .int .u8 0, .int .u8 0, .int .u8 0, .int .u8 0, .int .u8 0, .int .u8 0, .int .u8 0, .int .u8 0, .int .u8 0, .int .u8 0, .int .u8 0, .int .u8 0, .int .u8 0, .int .u8 0, .nil], none, none⟩
theorem ti44_ok : TIok Tryd.prog 44 ti44 := TIok.agg Tryd.underlying44 Tryd.type44 rfl (⟨_, rfl, rfl, by simp [show Tryd.prog.info? 3 = some Tryd.t3 from Tryd.type3, show Tryd.prog.info? 4 = some Tryd.t4 from Tryd.type4, show Tryd.prog.info? 31 = some Tryd.t31 from Tryd.type31, show Tryd.prog.info? 43 = some Tryd.t43 from Tryd.type43]⟩) rfl rfl rfl rfl rfl rfl rfl (fun h => by first | rfl | (cases h; done)) (fun _ h => by cases h) (fun _ h => by cases h) (fun _ h => by cases h)
def ti45 : TI := ⟨true, 99, 136, .struct [(0, 43), (32, 43), (64, 4), (65, 3), (66, 43), (98, 31)], some [.int .u8 0, .int .u8 0, .int .u8 0, .int .u8 0, .int .u8 0, .int .u8 0, .int .u8 0, .int .u8 0, .int .u8 0, .int .u8 0, .int .u8 0, .int .u8 0, .int .u8 0, .int .u8 0, .int .u8 0, .int .u8 0, .int .u8 0, .int .u8 0, .int .u8 0, .int .u8 0, .int .u8 0, .int .u8 0, .int .u8 0, .int .u8 0, .int .u8 0, .int .u8 0, .int .u8 0, .int .u8 0, .int .u8 0, .int .u8 0, .int .u8 0, .int .u8 0, .int .u8 0, .int .u8 0, .int .u8 0, .int .u8 0, .int .u8 0, .int .u8 0, .int .u8 0, .int .u8 0, .int .u8 0, .int .u8 0, .int .u8 0, .int .u8 0, .int .u8 0, .int .u8 0, .int .u8 0, .int .u8 0, .int .u8 0, .int .u8 0, .int .u8 0, .int .u8 0, .int .u8 0, .int .u8 0, .int .u8 0, .int .u8 0, .int .u8 0, .int .u8 0, .int .u8 0, .int .u8 0, .int .u8 0, .int .u8 0, .int .u8 0, .int .u8 0, .bool false, .int .i64 0, .int .u8 0, .int .u8 0, .int .u8 0, .int .u8 0, .int .u8 0, .int .u8 0, .int .u8 0, .int .u8 0, .int .u8 0, .int .u8 0, .int .u8 0, .int .u8 0, .int .u8 0, .int .u8 0, .int .u8 0, .int .u8 0, .int .u8 0, .int .u8 0, .int .u8 0, .int .u8 0, .int .u8 0, .int .u8 0, .int .u8 0, .int .u8 0, .int .u8 0, .int .u8 0, .int .u8 0, .int .u8 0, .int .u8 0, .int .u8 0, .int .u8 0, .int .u8 0, .nil], some .rng, none⟩
theorem ti45_ok : TIok Tryd.prog 45 ti45 := TIok.agg Tryd.underlying45 Tryd.type45 rfl (⟨_, rfl, rfl, by simp [show Tryd.prog.info? 3 = some Tryd.t3 from Tryd.type3, show Tryd.prog.info? 4 = some Tryd.t4 from Tryd.type4, show Tryd.prog.info? 31 = some Tryd.t31 from Tryd.type31, show Tryd.prog.info? 43 = some Tryd.t43 from Tryd.type43]⟩) rfl rfl rfl rfl rfl rfl rfl (fun h => by first | rfl | (cases h; done)) (fun e h => by cases h; exact ⟨rfl, by decide⟩) (fun e h => by cases h; rfl) (fun _ h => by cases h)
def ti46 : TI := ⟨false, 1, 8, .other, none, none, none⟩
theorem ti46_ok : TIok Tryd.prog 46 ti46 := TIok.none Tryd.underlying46 Tryd.type46 rfl trivial rfl rfl rfl (fun _ h => by cases h) (fun _ h => by cases h) rfl
def ti48 : TI := ⟨false, 1, 8, .other, none, none, none⟩
theorem ti48_ok : TIok Tryd.prog 48 ti48 := TIok.none Tryd.underlying48 Tryd.type48 rfl trivial rfl rfl rfl (fun _ h => by cases h) (fun _ h => by cases h) rfl
def ti49 : TI := ⟨false, 1, 8, .other, none, none, none⟩
theorem ti49_ok : TIok Tryd.prog 49 ti49 := TIok.none Tryd.underlying49 Tryd.type49 rfl trivial rfl rfl rfl (fun _ h => by cases h) (fun _ h => by cases h) rfl
def ti50 : TI := ⟨false, 1, 8, .other, none, none, none⟩
theorem ti50_ok : TIok Tryd.prog 50 ti50 := TIok.none Tryd.underlying50 Tryd.type50 rfl trivial rfl rfl rfl (fun _ h => by cases h) (fun _ h => by cases h) rfl
def ti51 : TI := ⟨false, 1, 8, .other, none, none, none⟩
theorem ti51_ok : TIok Tryd.prog 51 ti51 := TIok.none Tryd.underlying51 Tryd.type51 rfl trivial rfl rfl rfl (fun _ h => by cases h) (fun _ h => by cases h) rfl
def ti52 : TI := ⟨false, 1, 8, .other, none, none, none⟩
theorem ti52_ok : TIok Tryd.prog 52 ti52 := TIok.none Tryd.underlying52 Tryd.type52 rfl trivial rfl rfl rfl (fun _ h => by cases h) (fun _ h => by cases h) rfl
def ti53 : TI := ⟨false, 1, 8, .other, none, none, none⟩
theorem ti53_ok : TIok Tryd.prog 53 ti53 := TIok.none Tryd.underlying53 Tryd.type53 rfl trivial rfl rfl rfl (fun _ h => by cases h) (fun _ h => by cases h) rfl
def ti54 : TI := ⟨false, 1, 8, .other, none, none, none⟩
theorem ti54_ok : TIok Tryd.prog 54 ti54 := TIok.none Tryd.underlying54 Tryd.type54 rfl trivial rfl rfl rfl (fun _ h => by cases h) (fun _ h => by cases h) rfl
def ti55 : TI := ⟨false, 1, 8, .other, none, none, none⟩
theorem ti55_ok : TIok Tryd.prog 55 ti55 := TIok.none Tryd.underlying55 Tryd.type55 rfl trivial rfl rfl rfl (fun _ h => by cases h) (fun _ h => by cases h) rfl
def ti56 : TI := ⟨false, 1, 24, .slice 58, some [.nil], none, none⟩
theorem ti56_ok : TIok Tryd.prog 56 ti56 := TIok.agg Tryd.underlying56 Tryd.type56 rfl (⟨rfl, by rw [show Tryd.prog.info? 58 = some Tryd.t58 from Tryd.type58]; rfl⟩) rfl rfl rfl rfl rfl rfl rfl (fun h => by first | rfl | (cases h; done)) (fun _ h => by cases h) (fun _ h => by cases h) (fun _ h => by cases h)
def ti57 : TI := ⟨true, 3, 48, .struct [(0, 4), (1, 9), (2, 56)], some [.bool false, .str ⟨#[]⟩, .nil], none, none⟩
theorem ti57_ok : TIok Tryd.prog 57 ti57 := TIok.agg Tryd.underlying57 Tryd.type57 rfl (⟨_, rfl, rfl, by simp [show Tryd.prog.info? 4 = some Tryd.t4 from Tryd.type4, show Tryd.prog.info? 9 = some Tryd.t9 from Tryd.type9, show Tryd.prog.info? 56 = some Tryd.t56 from Tryd.type56]⟩) rfl rfl rfl rfl rfl rfl rfl (fun h => by first | rfl | (cases h; done)) (fun _ h => by cases h) (fun _ h => by cases h) (fun _ h => by cases h)
def ti58 : TI := ⟨true, 3, 48, .struct [(0, 4), (1, 9), (2, 56)], some [.bool false, .str ⟨#[]⟩, .nil], some .sexp, none⟩
theorem ti58_ok : TIok Tryd.prog 58 ti58 := TIok.agg Tryd.underlying58 Tryd.type58 rfl (⟨_, rfl, rfl, by simp [show Tryd.prog.info? 4 = some Tryd.t4 from Tryd.type4, show Tryd.prog.info? 9 = some Tryd.t9 from Tryd.type9, show Tryd.prog.info? 56 = some Tryd.t56 from Tryd.type56]⟩) rfl rfl rfl rfl rfl rfl rfl (fun h => by first | rfl | (cases h; done)) (fun e h => by cases h; exact ⟨rfl, by decide⟩) (fun e h => by cases h; rfl) (fun _ h => by cases h)
def ti59 : TI := ⟨false, 1, 8, .other, none, none, none⟩
theorem ti59_ok : TIok Tryd.prog 59 ti59 := TIok.none Tryd.underlying59 Tryd.type59 rfl trivial rfl rfl rfl (fun _ h => by cases h) (fun _ h => by cases h) rfl
def ti61 : TI := ⟨false, 1, 8, .other, none, none, none⟩
theorem ti61_ok : TIok Tryd.prog 61 ti61 := TIok.none Tryd.underlying61 Tryd.type61 rfl trivial rfl rfl rfl (fun _ h => by cases h) (fun _ h => by cases h) rfl
def ti62 : TI := ⟨false, 1, 8, .map 3 9, none, none, none⟩
theorem ti62_ok : TIok Tryd.prog 62 ti62 := TIok.none Tryd.underlying62 Tryd.type62 rfl rfl rfl rfl rfl (fun _ h => by cases h) (fun _ h => by cases h) rfl
def ti63 : TI := ⟨false, 1, 8, .other, none, none, none⟩
theorem ti63_ok : TIok Tryd.prog 63 ti63 := TIok.none Tryd.underlying63 Tryd.type63 rfl trivial rfl rfl rfl (fun _ h => by cases h) (fun _ h => by cases h) rfl
def ti64 : TI := ⟨false, 1, 8, .other, none, none, none⟩
theorem ti64_ok : TIok Tryd.prog 64 ti64 := TIok.none Tryd.underlying64 Tryd.type64 rfl trivial rfl rfl rfl (fun _ h => by cases h) (fun _ h => by cases h) rfl
def ti65 : TI := ⟨false, 1, 8, .map 9 64, none, none, none⟩
theorem ti65_ok : TIok Tryd.prog 65 ti65 := TIok.none Tryd.underlying65 Tryd.type65 rfl rfl rfl rfl rfl (fun _ h => by cases h) (fun _ h => by cases h) rfl
def ti66 : TI := ⟨false, 1, 8, .other, none, none, none⟩
theorem ti66_ok : TIok Tryd.prog 66 ti66 := TIok.none Tryd.underlying66 Tryd.type66 rfl trivial rfl rfl rfl (fun _ h => by cases h) (fun _ h => by cases h) rfl
def ti67 : TI := ⟨false, 1, 8, .other, some [.cst (.pointer none)], none, none⟩
theorem ti67_ok : TIok Tryd.prog 67 ti67 := TIok.agg Tryd.underlying67 Tryd.type67 rfl trivial rfl rfl rfl rfl rfl rfl rfl (fun h => by first | rfl | (cases h; done)) (fun _ h => by cases h) (fun _ h => by cases h) (fun _ h => by cases h)
def ti68 : TI := ⟨false, 1, 8, .other, none, none, none⟩
theorem ti68_ok : TIok Tryd.prog 68 ti68 := TIok.none Tryd.underlying68 Tryd.type68 rfl trivial rfl rfl rfl (fun _ h => by cases h) (fun _ h => by cases h) rfl
def ti70 : TI := ⟨false, 1, 8, .other, none, none, none⟩
theorem ti70_ok : TIok Tryd.prog 70 ti70 := TIok.none Tryd.underlying70 Tryd.type70 rfl trivial rfl rfl rfl (fun _ h => by cases h) (fun _ h => by cases h) rfl
def ti71 : TI := ⟨false, 1, 8, .other, none, none, none⟩
theorem ti71_ok : TIok Tryd.prog 71 ti71 := TIok.none Tryd.underlying71 Tryd.type71 rfl trivial rfl rfl rfl (fun _ h => by cases h) (fun _ h => by cases h) rfl
def ti72 : TI := ⟨false, 1, 8, .other, none, none, none⟩
theorem ti72_ok : TIok Tryd.prog 72 ti72 := TIok.none Tryd.underlying72 Tryd.type72 rfl trivial rfl rfl rfl (fun _ h => by cases h) (fun _ h => by cases h) rfl
def ti73 : TI := ⟨false, 1, 8, .other, none, none, none⟩
theorem ti73_ok : TIok Tryd.prog 73 ti73 := TIok.none Tryd.underlying73 Tryd.type73 rfl trivial rfl rfl rfl (fun _ h => by cases h) (fun _ h => by cases h) rfl
def ti74 : TI := ⟨false, 1, 8, .other, none, none, none⟩
theorem ti74_ok : TIok Tryd.prog 74 ti74 := TIok.none Tryd.underlying74 Tryd.type74 rfl trivial rfl rfl rfl (fun _ h => by cases h) (fun _ h => by cases h) rfl
def ti75 : TI := ⟨false, 1, 8, .other, none, none, none⟩
theorem ti75_ok : TIok Tryd.prog 75 ti75 := TIok.none Tryd.underlying75 Tryd.type75 rfl trivial rfl rfl rfl (fun _ h => by cases h) (fun _ h => by cases h) rfl
def ti76 : TI := ⟨true, 8, 128, .array 8 9, some [.str ⟨#[]⟩, .str ⟨#[]⟩, .str ⟨#[]⟩, .str ⟨#[]⟩, .str ⟨#[]⟩, .str ⟨#[]⟩, .str ⟨#[]⟩, .str ⟨#[]⟩], none, none⟩
theorem ti76_ok : TIok Tryd.prog 76 ti76 := TIok.agg Tryd.underlying76 Tryd.type76 rfl rfl rfl rfl rfl rfl rfl rfl rfl (fun h => by first | rfl | (cases h; done)) (fun _ h => by cases h) (fun _ h => by cases h) (fun _ h => by cases h)
def ti77 : TI := ⟨false, 1, 8, .other, none, none, none⟩
theorem ti77_ok : TIok Tryd.prog 77 ti77 := TIok.none Tryd.underlying77 Tryd.type77 rfl trivial rfl rfl rfl (fun _ h => by cases h) (fun _ h => by cases h) rfl
def ti78 : TI := ⟨false, 1, 8, .other, none, none, none⟩
theorem ti78_ok : TIok Tryd.prog 78 ti78 := TIok.none Tryd.underlying78 Tryd.type78 rfl trivial rfl rfl rfl (fun _ h => by cases h) (fun _ h => by cases h) rfl
def ti79 : TI := ⟨false, 1, 8, .other, none, none, none⟩
theorem ti79_ok : TIok Tryd.prog 79 ti79 := TIok.none Tryd.underlying79 Tryd.type79 rfl trivial rfl rfl rfl (fun _ h => by cases h) (fun _ h => by cases h) rfl
def ti80 : TI := ⟨false, 1, 8, .other, none, none, none⟩
theorem ti80_ok : TIok Tryd.prog 80 ti80 := TIok.none Tryd.underlying80 Tryd.type80 rfl trivial rfl rfl rfl (fun _ h => by cases h) (fun _ h => by cases h) rfl
def ti81 : TI := ⟨false, 1, 8, .other, none, none, none⟩
theorem ti81_ok : TIok Tryd.prog 81 ti81 := TIok.none Tryd.underlying81 Tryd.type81 rfl trivial rfl rfl rfl (fun _ h => by cases h) (fun _ h => by cases h) rfl
def ti82 : TI := ⟨false, 1, 8, .other, none, none, none⟩
theorem ti82_ok : TIok Tryd.prog 82 ti82 := TIok.none Tryd.underlying82 Tryd.type82 rfl trivial rfl rfl rfl (fun _ h => by cases h) (fun _ h => by cases h) rfl
def ti83 : TI := ⟨false, 1, 8, .other, none, none, none⟩
theorem ti83_ok : TIok Tryd.prog 83 ti83 := TIok.none Tryd.underlying83 Tryd.type83 rfl trivial rfl rfl rfl (fun _ h => by cases h) (fun _ h => by cases h) rfl
def ti85 : TI := ⟨false, 1, 8, .other, none, none, none⟩
theorem ti85_ok : TIok Tryd.prog 85 ti85 := TIok.none Tryd.underlying85 Tryd.type85 rfl trivial rfl rfl rfl (fun _ h => by cases h) (fun _ h => by cases h) rfl
def ti87 : TI := ⟨false, 1, 8, .other, none, none, none⟩
theorem ti87_ok : TIok Tryd.prog 87 ti87 := TIok.none Tryd.underlying87 Tryd.type87 rfl trivial rfl rfl rfl (fun _ h => by cases h) (fun _ h => by cases h) rfl
def ti88 : TI := ⟨false, 1, 8, .other, none, none, none⟩
theorem ti88_ok : TIok Tryd.prog 88 ti88 := TIok.none Tryd.underlying88 Tryd.type88 rfl trivial rfl rfl rfl (fun _ h => by cases h) (fun _ h => by cases h) rfl
def ti90 : TI := ⟨false, 1, 8, .other, none, none, none⟩
theorem ti90_ok : TIok Tryd.prog 90 ti90 := TIok.none Tryd.underlying90 Tryd.type90 rfl trivial rfl rfl rfl (fun _ h => by cases h) (fun _ h => by cases h) rfl
def ti91 : TI := ⟨false, 1, 8, .other, none, none, none⟩
theorem ti91_ok : TIok Tryd.prog 91 ti91 := TIok.none Tryd.underlying91 Tryd.type91 rfl trivial rfl rfl rfl (fun _ h => by cases h) (fun _ h => by cases h) rfl
def ti93 : TI := ⟨false, 1, 8, .other, none, none, none⟩
theorem ti93_ok : TIok Tryd.prog 93 ti93 := TIok.none Tryd.underlying93 Tryd.type93 rfl trivial rfl rfl rfl (fun _ h => by cases h) (fun _ h => by cases h) rfl
def ti94 : TI := ⟨false, 1, 8, .other, none, none, none⟩
theorem ti94_ok : TIok Tryd.prog 94 ti94 := TIok.none Tryd.underlying94 Tryd.type94 rfl trivial rfl rfl rfl (fun _ h => by cases h) (fun _ h => by cases h) rfl
def ti95 : TI := ⟨false, 1, 8, .other, none, none, none⟩
theorem ti95_ok : TIok Tryd.prog 95 ti95 := TIok.none Tryd.underlying95 Tryd.type95 rfl trivial rfl rfl rfl (fun _ h => by cases h) (fun _ h => by cases h) rfl
def ti97 : TI := ⟨false, 1, 8, .other, none, none, none⟩
theorem ti97_ok : TIok Tryd.prog 97 ti97 := TIok.none Tryd.underlying97 Tryd.type97 rfl trivial rfl rfl rfl (fun _ h => by cases h) (fun _ h => by cases h) rfl
def ti99 : TI := ⟨false, 1, 8, .other, none, none, none⟩
theorem ti99_ok : TIok Tryd.prog 99 ti99 := TIok.none Tryd.underlying99 Tryd.type99 rfl trivial rfl rfl rfl (fun _ h => by cases h) (fun _ h => by cases h) rfl
def ti100 : TI := ⟨false, 1, 8, .other, some [.cst (.pointer none)], none, none⟩
theorem ti100_ok : TIok Tryd.prog 100 ti100 := TIok.agg Tryd.underlying100 Tryd.type100 rfl trivial rfl rfl rfl rfl rfl rfl rfl (fun h => by first | rfl | (cases h; done)) (fun _ h => by cases h) (fun _ h => by cases h) (fun _ h => by cases h)
def ti101 : TI := ⟨false, 1, 24, .slice 5, some [.nil], none, none⟩
theorem ti101_ok : TIok Tryd.prog 101 ti101 := TIok.agg Tryd.underlying101 Tryd.type101 rfl (⟨rfl, by rw [show Tryd.prog.info? 5 = some Tryd.t5 from Tryd.type5]; rfl⟩) rfl rfl rfl rfl rfl rfl rfl (fun h => by first | rfl | (cases h; done)) (fun _ h => by cases h) (fun _ h => by cases h) (fun _ h => by cases h)
def ti102 : TI := ⟨true, 2, 32, .struct [(0, 100), (1, 101)], some [.cst (.pointer none), .nil], none, none⟩
theorem ti102_ok : TIok Tryd.prog 102 ti102 := TIok.agg Tryd.underlying102 Tryd.type102 rfl (⟨_, rfl, rfl, by simp [show Tryd.prog.info? 100 = some Tryd.t100 from Tryd.type100, show Tryd.prog.info? 101 = some Tryd.t101 from Tryd.type101]⟩) rfl rfl rfl rfl rfl rfl rfl (fun h => by first | rfl | (cases h; done)) (fun _ h => by cases h) (fun _ h => by cases h) (fun _ h => by cases h)
def ti103 : TI := ⟨true, 2, 32, .struct [(0, 100), (1, 101)], some [.fp, .nil], none, none⟩
theorem ti103_ok : TIok Tryd.prog 103 ti103 := TIok.agg Tryd.underlying103 Tryd.type103 rfl (⟨_, rfl, rfl, by simp [show Tryd.prog.info? 100 = some Tryd.t100 from Tryd.type100, show Tryd.prog.info? 101 = some Tryd.t101 from Tryd.type101]⟩) rfl rfl rfl rfl rfl rfl rfl (fun h => by first | rfl | (cases h; done)) (fun _ h => by cases h) (fun _ h => by cases h) (fun _ h => by cases h)
def ti104 : TI := ⟨false, 1, 8, .other, none, none, none⟩
theorem ti104_ok : TIok Tryd.prog 104 ti104 := TIok.none Tryd.underlying104 Tryd.type104 rfl trivial rfl rfl rfl (fun _ h => by cases h) (fun _ h => by cases h) rfl
def ti105 : TI := ⟨false, 1, 8, .other, none, none, none⟩
theorem ti105_ok : TIok Tryd.prog 105 ti105 := TIok.none Tryd.underlying105 Tryd.type105 rfl trivial rfl rfl rfl (fun _ h => by cases h) (fun _ h => by cases h) rfl
def ti106 : TI := ⟨false, 1, 8, .other, none, none, none⟩
theorem ti106_ok : TIok Tryd.prog 106 ti106 := TIok.none Tryd.underlying106 Tryd.type106 rfl trivial rfl rfl rfl (fun _ h => by cases h) (fun _ h => by cases h) rfl
def ti107 : TI := ⟨false, 1, 8, .other, none, none, none⟩
theorem ti107_ok : TIok Tryd.prog 107 ti107 := TIok.none Tryd.underlying107 Tryd.type107 rfl trivial rfl rfl rfl (fun _ h => by cases h) (fun _ h => by cases h) rfl
def ti108 : TI := ⟨false, 1, 8, .other, none, none, none⟩
theorem ti108_ok : TIok Tryd.prog 108 ti108 := TIok.none Tryd.underlying108 Tryd.type108 rfl trivial rfl rfl rfl (fun _ h => by cases h) (fun _ h => by cases h) rfl
def ti109 : TI := ⟨false, 1, 8, .other, none, none, none⟩
theorem ti109_ok : TIok Tryd.prog 109 ti109 := TIok.none Tryd.underlying109 Tryd.type109 rfl trivial rfl rfl rfl (fun _ h => by cases h) (fun _ h => by cases h) rfl
def ti110 : TI := ⟨false, 1, 8, .other, none, none, none⟩
theorem ti110_ok : TIok Tryd.prog 110 ti110 := TIok.none Tryd.underlying110 Tryd.type110 rfl trivial rfl rfl rfl (fun _ h => by cases h) (fun _ h => by cases h) rfl
def ti111 : TI := ⟨false, 1, 8, .other, none, none, none⟩
theorem ti111_ok : TIok Tryd.prog 111 ti111 := TIok.none Tryd.underlying111 Tryd.type111 rfl trivial rfl rfl rfl (fun _ h => by cases h) (fun _ h => by cases h) rfl
def ti112 : TI := ⟨true, 1, 8, .struct [(0, 26)], some [.int .i64 0], none, none⟩
theorem ti112_ok : TIok Tryd.prog 112 ti112 := TIok.agg Tryd.underlying112 Tryd.type112 rfl (⟨_, rfl, rfl, by simp [show Tryd.prog.info? 26 = some Tryd.t26 from Tryd.type26]⟩) rfl rfl rfl rfl rfl rfl rfl (fun h => by first | rfl | (cases h; done)) (fun _ h => by cases h) (fun _ h => by cases h) (fun _ h => by cases h)
def ti113 : TI := ⟨true, 1, 8, .struct [(0, 26)], some [.int .i64 0], none, none⟩
theorem ti113_ok : TIok Tryd.prog 113 ti113 := TIok.agg Tryd.underlying113 Tryd.type113 rfl (⟨_, rfl, rfl, by simp [show Tryd.prog.info? 26 = some Tryd.t26 from Tryd.type26]⟩) rfl rfl rfl rfl rfl rfl rfl (fun h => by first | rfl | (cases h; done)) (fun _ h => by cases h) (fun _ h => by cases h) (fun _ h => by cases h)
def ti115 : TI := ⟨false, 1, 8, .other, some [.cst (.pointer none)], none, none⟩
theorem ti115_ok : TIok Tryd.prog 115 ti115 := TIok.agg Tryd.underlying115 Tryd.type115 rfl trivial rfl rfl rfl rfl rfl rfl rfl (fun h => by first | rfl | (cases h; done)) (fun _ h => by cases h) (fun _ h => by cases h) (fun _ h => by cases h)
def ti116 : TI := ⟨true, 3, 32, .struct [(0, 9), (1, 3), (2, 3)], some [.str ⟨#[]⟩, .int .i64 0, .int .i64 0], none, none⟩
theorem ti116_ok : TIok Tryd.prog 116 ti116 := TIok.agg Tryd.underlying116 Tryd.type116 rfl (⟨_, rfl, rfl, by simp [show Tryd.prog.info? 3 = some Tryd.t3 from Tryd.type3, show Tryd.prog.info? 9 = some Tryd.t9 from Tryd.type9]⟩) rfl rfl rfl rfl rfl rfl rfl (fun h => by first | rfl | (cases h; done)) (fun _ h => by cases h) (fun _ h => by cases h) (fun _ h => by cases h)
def ti117 : TI := ⟨true, 3, 32, .struct [(0, 9), (1, 3), (2, 3)], some [.str ⟨#[]⟩, .int .i64 0, .int .i64 0], none, none⟩
theorem ti117_ok : TIok Tryd.prog 117 ti117 := TIok.agg Tryd.underlying117 Tryd.type117 rfl (⟨_, rfl, rfl, by simp [show Tryd.prog.info? 3 = some Tryd.t3 from Tryd.type3, show Tryd.prog.info? 9 = some Tryd.t9 from Tryd.type9]⟩) rfl rfl rfl rfl rfl rfl rfl (fun h => by first | rfl | (cases h; done)) (fun _ h => by cases h) (fun _ h => by cases h) (fun _ h => by cases h)
def ti121 : TI := ⟨false, 1, 8, .other, none, none, none⟩
theorem ti121_ok : TIok Tryd.prog 121 ti121 := TIok.none Tryd.underlying121 Tryd.type121 rfl trivial rfl rfl rfl (fun _ h => by cases h) (fun _ h => by cases h) rfl
def ti122 : TI := ⟨false, 1, 8, .other, none, none, none⟩
theorem ti122_ok : TIok Tryd.prog 122 ti122 := TIok.none Tryd.underlying122 Tryd.type122 rfl trivial rfl rfl rfl (fun _ h => by cases h) (fun _ h => by cases h) rfl
def ti123 : TI := ⟨false, 1, 8, .other, some [.cst (.pointer none)], none, none⟩
theorem ti123_ok : TIok Tryd.prog 123 ti123 := TIok.agg Tryd.underlying123 Tryd.type123 rfl trivial rfl rfl rfl rfl rfl rfl rfl (fun h => by first | rfl | (cases h; done)) (fun _ h => by cases h) (fun _ h => by cases h) (fun _ h => by cases h)
def ti124 : TI := ⟨true, 2, 16, .struct [(0, 3), (1, 4)], some [.int .i64 0, .bool false], none, none⟩
theorem ti124_ok : TIok Tryd.prog 124 ti124 := TIok.agg Tryd.underlying124 Tryd.type124 rfl (⟨_, rfl, rfl, by simp [show Tryd.prog.info? 3 = some Tryd.t3 from Tryd.type3, show Tryd.prog.info? 4 = some Tryd.t4 from Tryd.type4]⟩) rfl rfl rfl rfl rfl rfl rfl (fun h => by first | rfl | (cases h; done)) (fun _ h => by cases h) (fun _ h => by cases h) (fun _ h => by cases h)
def ti125 : TI := ⟨true, 2, 16, .struct [(0, 3), (1, 4)], some [.int .i64 0, .bool false], none, none⟩
theorem ti125_ok : TIok Tryd.prog 125 ti125 := TIok.agg Tryd.underlying125 Tryd.type125 rfl (⟨_, rfl, rfl, by simp [show Tryd.prog.info? 3 = some Tryd.t3 from Tryd.type3, show Tryd.prog.info? 4 = some Tryd.t4 from Tryd.type4]⟩) rfl rfl rfl rfl rfl rfl rfl (fun h => by first | rfl | (cases h; done)) (fun _ h => by cases h) (fun _ h => by cases h) (fun _ h => by cases h)
def ti126 : TI := ⟨false, 1, 8, .other, none, none, none⟩
theorem ti126_ok : TIok Tryd.prog 126 ti126 := TIok.none Tryd.underlying126 Tryd.type126 rfl trivial rfl rfl rfl (fun _ h => by cases h) (fun _ h => by cases h) rfl
def ti127 : TI := ⟨false, 1, 16, .iface, some [.cst .nilIface], none, none⟩
theorem ti127_ok : TIok Tryd.prog 127 ti127 := TIok.agg Tryd.underlying127 Tryd.type127 rfl (⟨_, rfl⟩) rfl rfl rfl rfl rfl rfl rfl (fun h => by first | rfl | (cases h; done)) (fun _ h => by cases h) (fun _ h => by cases h) (fun _ h => by cases h)
def ti128 : TI := ⟨false, 1, 16, .iface, some [.cst .nilIface], none, none⟩
theorem ti128_ok : TIok Tryd.prog 128 ti128 := TIok.agg Tryd.underlying128 Tryd.type128 rfl (⟨_, rfl⟩) rfl rfl rfl rfl rfl rfl rfl (fun h => by first | rfl | (cases h; done)) (fun _ h => by cases h) (fun _ h => by cases h) (fun _ h => by cases h)
def ti130 : TI := ⟨false, 1, 8, .other, none, none, none⟩
theorem ti130_ok : TIok Tryd.prog 130 ti130 := TIok.none Tryd.underlying130 Tryd.type130 rfl trivial rfl rfl rfl (fun _ h => by cases h) (fun _ h => by cases h) rfl
def ti131 : TI := ⟨false, 1, 8, .other, none, none, none⟩
theorem ti131_ok : TIok Tryd.prog 131 ti131 := TIok.none Tryd.underlying131 Tryd.type131 rfl trivial rfl rfl rfl (fun _ h => by cases h) (fun _ h => by cases h) rfl
def ti132 : TI := ⟨false, 1, 8, .other, some [.cst (.pointer none)], none, none⟩
theorem ti132_ok : TIok Tryd.prog 132 ti132 := TIok.agg Tryd.underlying132 Tryd.type132 rfl trivial rfl rfl rfl rfl rfl rfl rfl (fun h => by first | rfl | (cases h; done)) (fun _ h => by cases h) (fun _ h => by cases h) (fun _ h => by cases h)
def ti133 : TI := ⟨false, 1, 8, .other, none, none, none⟩
theorem ti133_ok : TIok Tryd.prog 133 ti133 := TIok.none Tryd.underlying133 Tryd.type133 rfl trivial rfl rfl rfl (fun _ h => by cases h) (fun _ h => by cases h) rfl
def ti134 : TI := ⟨false, 1, 8, .other, none, none, none⟩
theorem ti134_ok : TIok Tryd.prog 134 ti134 := TIok.none Tryd.underlying134 Tryd.type134 rfl trivial rfl rfl rfl (fun _ h => by cases h) (fun _ h => by cases h) rfl
def ti135 : TI := ⟨false, 1, 8, .other, none, none, none⟩
theorem ti135_ok : TIok Tryd.prog 135 ti135 := TIok.none Tryd.underlying135 Tryd.type135 rfl trivial rfl rfl rfl (fun _ h => by cases h) (fun _ h => by cases h) rfl
def ti136 : TI := ⟨true, 24, 24, .array 24 5, some [.int .u8 0, .int .u8 0, .int .u8 0, .int .u8 0, .int .u8 0, .int .u8 0, .int .u8 0, .int .u8 0, .int .u8 0, .int .u8 0, .int .u8 0, .int .u8 0, .int .u8 0, .int .u8 0, .int .u8 0, .int .u8 0, .int .u8 0, .int .u8 0, .int .u8 0, .int .u8 0, .int .u8 0, .int .u8 0, .int .u8 0, .int .u8 0], none, none⟩
theorem ti136_ok : TIok Tryd.prog 136 ti136 := TIok.agg Tryd.underlying136 Tryd.type136 rfl rfl rfl rfl rfl rfl rfl rfl rfl (fun h => by first | rfl | (cases h; done)) (fun _ h => by cases h) (fun _ h => by cases h) (fun _ h => by cases h)
def ti137 : TI := ⟨false, 1, 8, .int .u64, some [.int .u64 0], none, none⟩
theorem ti137_ok : TIok Tryd.prog 137 ti137 := TIok.agg Tryd.underlying137 Tryd.type137 rfl rfl rfl rfl rfl rfl rfl rfl rfl (fun h => by first | rfl | (cases h; done)) (fun _ h => by cases h) (fun _ h => by cases h) (fun _ h => by cases h)
def ti138 : TI := ⟨false, 1, 8, .other, none, none, none⟩
theorem ti138_ok : TIok Tryd.prog 138 ti138 := TIok.none Tryd.underlying138 Tryd.type138 rfl trivial rfl rfl rfl (fun _ h => by cases h) (fun _ h => by cases h) rfl
def ti139 : TI := ⟨false, 1, 8, .other, none, none, none⟩
theorem ti139_ok : TIok Tryd.prog 139 ti139 := TIok.none Tryd.underlying139 Tryd.type139 rfl trivial rfl rfl rfl (fun _ h => by cases h) (fun _ h => by cases h) rfl
def ti141 : TI := ⟨false, 1, 8, .other, none, none, none⟩
theorem ti141_ok : TIok Tryd.prog 141 ti141 := TIok.none Tryd.underlying141 Tryd.type141 rfl trivial rfl rfl rfl (fun _ h => by cases h) (fun _ h => by cases h) rfl
def ti142 : TI := ⟨false, 1, 8, .other, none, none, none⟩
theorem ti142_ok : TIok Tryd.prog 142 ti142 := TIok.none Tryd.underlying142 Tryd.type142 rfl trivial rfl rfl rfl (fun _ h => by cases h) (fun _ h => by cases h) rfl
def ti143 : TI := ⟨false, 1, 8, .other, none, none, none⟩
theorem ti143_ok : TIok Tryd.prog 143 ti143 := TIok.none Tryd.underlying143 Tryd.type143 rfl trivial rfl rfl rfl (fun _ h => by cases h) (fun _ h => by cases h) rfl
def ti144 : TI := ⟨false, 1, 8, .other, none, none, none⟩
theorem ti144_ok : TIok Tryd.prog 144 ti144 := TIok.none Tryd.underlying144 Tryd.type144 rfl trivial rfl rfl rfl (fun _ h => by cases h) (fun _ h => by cases h) rfl
def ti145 : TI := ⟨false, 1, 8, .other, none, none, none⟩
theorem ti145_ok : TIok Tryd.prog 145 ti145 := TIok.none Tryd.underlying145 Tryd.type145 rfl trivial rfl rfl rfl (fun _ h => by cases h) (fun _ h => by cases h) rfl
def ti146 : TI := ⟨true, 20, 160, .array 20 137, some [.int .u64 0, .int .u64 0, .int .u64 0, .int .u64 0, .int .u64 0, .int .u64 0, .int .u64 0, .int .u64 0, .int .u64 0, .int .u64 0, .int .u64 0, .int .u64 0, .int .u64 0, .int .u64 0, .int .u64 0, .int .u64 0, .int .u64 0, .int .u64 0, .int .u64 0, .int .u64 0], none, none⟩
theorem ti146_ok : TIok Tryd.prog 146 ti146 := TIok.agg Tryd.underlying146 Tryd.type146 rfl rfl rfl rfl rfl rfl rfl rfl rfl (fun h => by first | rfl | (cases h; done)) (fun _ h => by cases h) (fun _ h => by cases h) (fun _ h => by cases h)
def ti147 : TI := ⟨false, 1, 4, .int .u32, some [.int .u32 0], none, none⟩
theorem ti147_ok : TIok Tryd.prog 147 ti147 := TIok.agg Tryd.underlying147 Tryd.type147 rfl rfl rfl rfl rfl rfl rfl rfl rfl (fun h => by first | rfl | (cases h; done)) (fun _ h => by cases h) (fun _ h => by cases h) (fun _ h => by cases h)
def ti148 : TI := ⟨true, 65, 65, .array 65 5, none, none, none⟩
theorem ti148_ok : TIok Tryd.prog 148 ti148 := TIok.none Tryd.underlying148 Tryd.type148 rfl rfl rfl rfl rfl (fun _ h => by cases h) (fun _ h => by cases h) rfl
def ti149 : TI := ⟨false, 1, 8, .int .u64, some [.int .u64 0], none, none⟩
theorem ti149_ok : TIok Tryd.prog 149 ti149 := TIok.agg Tryd.underlying149 Tryd.type149 rfl rfl rfl rfl rfl rfl rfl rfl rfl (fun h => by first | rfl | (cases h; done)) (fun _ h => by cases h) (fun _ h => by cases h) (fun _ h => by cases h)
def ti150 : TI := ⟨false, 1, 8, .other, none, none, none⟩
theorem ti150_ok : TIok Tryd.prog 150 ti150 := TIok.none Tryd.underlying150 Tryd.type150 rfl trivial rfl rfl rfl (fun _ h => by cases h) (fun _ h => by cases h) rfl
def ti152 : TI := ⟨false, 1, 8, .other, none, none, none⟩
theorem ti152_ok : TIok Tryd.prog 152 ti152 := TIok.none Tryd.underlying152 Tryd.type152 rfl trivial rfl rfl rfl (fun _ h => by cases h) (fun _ h => by cases h) rfl
def ti153 : TI := ⟨false, 1, 8, .int .i64, some [.int .i64 0], none, none⟩
theorem ti153_ok : TIok Tryd.prog 153 ti153 := TIok.agg Tryd.underlying153 Tryd.type153 rfl rfl rfl rfl rfl rfl rfl rfl rfl (fun h => by first | rfl | (cases h; done)) (fun _ h => by cases h) (fun _ h => by cases h) (fun _ h => by cases h)
def ti155 : TI := ⟨false, 1, 8, .other, none, none, none⟩
theorem ti155_ok : TIok Tryd.prog 155 ti155 := TIok.none Tryd.underlying155 Tryd.type155 rfl trivial rfl rfl rfl (fun _ h => by cases h) (fun _ h => by cases h) rfl
def ti156 : TI := ⟨false, 1, 8, .other, some [.cst (.pointer none)], none, none⟩
theorem ti156_ok : TIok Tryd.prog 156 ti156 := TIok.agg Tryd.underlying156 Tryd.type156 rfl trivial rfl rfl rfl rfl rfl rfl rfl (fun h => by first | rfl | (cases h; done)) (fun _ h => by cases h) (fun _ h => by cases h) (fun _ h => by cases h)
def ti157 : TI := ⟨false, 1, 8, .other, none, none, none⟩
theorem ti157_ok : TIok Tryd.prog 157 ti157 := TIok.none Tryd.underlying157 Tryd.type157 rfl trivial rfl rfl rfl (fun _ h => by cases h) (fun _ h => by cases h) rfl
def ti158 : TI := ⟨false, 1, 8, .other, none, none, none⟩
theorem ti158_ok : TIok Tryd.prog 158 ti158 := TIok.none Tryd.underlying158 Tryd.type158 rfl trivial rfl rfl rfl (fun _ h => by cases h) (fun _ h => by cases h) rfl
def ti159 : TI := ⟨false, 1, 8, .other, none, none, none⟩
theorem ti159_ok : TIok Tryd.prog 159 ti159 := TIok.none Tryd.underlying159 Tryd.type159 rfl trivial rfl rfl rfl (fun _ h => by cases h) (fun _ h => by cases h) rfl
def ti160 : TI := ⟨false, 1, 8, .other, none, none, none⟩
theorem ti160_ok : TIok Tryd.prog 160 ti160 := TIok.none Tryd.underlying160 Tryd.type160 rfl trivial rfl rfl rfl (fun _ h => by cases h) (fun _ h => by cases h) rfl
def ti162 : TI := ⟨false, 1, 8, .other, none, none, none⟩
theorem ti162_ok : TIok Tryd.prog 162 ti162 := TIok.none Tryd.underlying162 Tryd.type162 rfl trivial rfl rfl rfl (fun _ h => by cases h) (fun _ h => by cases h) rfl
def ti163 : TI := ⟨false, 1, 8, .other, none, none, none⟩
theorem ti163_ok : TIok Tryd.prog 163 ti163 := TIok.none Tryd.underlying163 Tryd.type163 rfl trivial rfl rfl rfl (fun _ h => by cases h) (fun _ h => by cases h) rfl
def ti164 : TI := ⟨true, 3, 48, .struct [(0, 9), (1, 9), (2, 128)], some [.str ⟨#[]⟩, .str ⟨#[]⟩, .cst .nilIface], none, none⟩
theorem ti164_ok : TIok Tryd.prog 164 ti164 := TIok.agg Tryd.underlying164 Tryd.type164 rfl (⟨_, rfl, rfl, by simp [show Tryd.prog.info? 9 = some Tryd.t9 from Tryd.type9, show Tryd.prog.info? 128 = some Tryd.t128 from Tryd.type128]⟩) rfl rfl rfl rfl rfl rfl rfl (fun h => by first | rfl | (cases h; done)) (fun _ h => by cases h) (fun _ h => by cases h) (fun _ h => by cases h)
def ti165 : TI := ⟨true, 3, 48, .struct [(0, 9), (1, 9), (2, 128)], some [.str ⟨#[]⟩, .str ⟨#[]⟩, .cst .nilIface], none, none⟩
theorem ti165_ok : TIok Tryd.prog 165 ti165 := TIok.agg Tryd.underlying165 Tryd.type165 rfl (⟨_, rfl, rfl, by simp [show Tryd.prog.info? 9 = some Tryd.t9 from Tryd.type9, show Tryd.prog.info? 128 = some Tryd.t128 from Tryd.type128]⟩) rfl rfl rfl rfl rfl rfl rfl (fun h => by first | rfl | (cases h; done)) (fun _ h => by cases h) (fun _ h => by cases h) (fun _ h => by cases h)
def ti166 : TI := ⟨false, 1, 8, .other, none, none, none⟩
theorem ti166_ok : TIok Tryd.prog 166 ti166 := TIok.none Tryd.underlying166 Tryd.type166 rfl trivial rfl rfl rfl (fun _ h => by cases h) (fun _ h => by cases h) rfl
def ti167 : TI := ⟨true, 64, 64, .array 64 5, none, none, none⟩
theorem ti167_ok : TIok Tryd.prog 167 ti167 := TIok.none Tryd.underlying167 Tryd.type167 rfl rfl rfl rfl rfl (fun _ h => by cases h) (fun _ h => by cases h) rfl
def ti168 : TI := ⟨false, 1, 8, .other, none, none, none⟩
theorem ti168_ok : TIok Tryd.prog 168 ti168 := TIok.none Tryd.underlying168 Tryd.type168 rfl trivial rfl rfl rfl (fun _ h => by cases h) (fun _ h => by cases h) rfl
def ti169 : TI := ⟨false, 1, 8, .other, some [.cst (.pointer none)], none, none⟩
theorem ti169_ok : TIok Tryd.prog 169 ti169 := TIok.agg Tryd.underlying169 Tryd.type169 rfl trivial rfl rfl rfl rfl rfl rfl rfl (fun h => by first | rfl | (cases h; done)) (fun _ h => by cases h) (fun _ h => by cases h) (fun _ h => by cases h)
def ti170 : TI := ⟨true, 1, 16, .struct [(0, 9)], some [.str ⟨#[]⟩], none, none⟩
theorem ti170_ok : TIok Tryd.prog 170 ti170 := TIok.agg Tryd.underlying170 Tryd.type170 rfl (⟨_, rfl, rfl, by simp [show Tryd.prog.info? 9 = some Tryd.t9 from Tryd.type9]⟩) rfl rfl rfl rfl rfl rfl rfl (fun h => by first | rfl | (cases h; done)) (fun _ h => by cases h) (fun _ h => by cases h) (fun _ h => by cases h)
def ti171 : TI := ⟨true, 1, 16, .struct [(0, 9)], some [.str ⟨#[]⟩], none, none⟩
theorem ti171_ok : TIok Tryd.prog 171 ti171 := TIok.agg Tryd.underlying171 Tryd.type171 rfl (⟨_, rfl, rfl, by simp [show Tryd.prog.info? 9 = some Tryd.t9 from Tryd.type9]⟩) rfl rfl rfl rfl rfl rfl rfl (fun h => by first | rfl | (cases h; done)) (fun _ h => by cases h) (fun _ h => by cases h) (fun _ h => by cases h)
def ti172 : TI := ⟨true, 4, 40, .struct [(0, 17), (1, 17), (2, 17), (3, 9)], some [.cst (.pointer none), .cst (.pointer none), .cst (.pointer none), .str ⟨#[]⟩], none, none⟩
theorem ti172_ok : TIok Tryd.prog 172 ti172 := TIok.agg Tryd.underlying172 Tryd.type172 rfl (⟨_, rfl, rfl, by simp [show Tryd.prog.info? 9 = some Tryd.t9 from Tryd.type9, show Tryd.prog.info? 17 = some Tryd.t17 from Tryd.type17]⟩) rfl rfl rfl rfl rfl rfl rfl (fun h => by first | rfl | (cases h; done)) (fun _ h => by cases h) (fun _ h => by cases h) (fun _ h => by cases h)
def ti173 : TI := ⟨true, 4, 40, .struct [(0, 17), (1, 17), (2, 17), (3, 9)], some [.cst (.pointer none), .cst (.pointer none), .cst (.pointer none), .str ⟨#[]⟩], none, none⟩
theorem ti173_ok : TIok Tryd.prog 173 ti173 := TIok.agg Tryd.underlying173 Tryd.type173 rfl (⟨_, rfl, rfl, by simp [show Tryd.prog.info? 9 = some Tryd.t9 from Tryd.type9, show Tryd.prog.info? 17 = some Tryd.t17 from Tryd.type17]⟩) rfl rfl rfl rfl rfl rfl rfl (fun h => by first | rfl | (cases h; done)) (fun _ h => by cases h) (fun _ h => by cases h) (fun _ h => by cases h)
def ti174 : TI := ⟨true, 0, 0, .array 0 16, some [], none, none⟩
theorem ti174_ok : TIok Tryd.prog 174 ti174 := TIok.agg Tryd.underlying174 Tryd.type174 rfl rfl rfl rfl rfl rfl rfl rfl rfl (fun h => by first | rfl | (cases h; done)) (fun _ h => by cases h) (fun _ h => by cases h) (fun _ h => by cases h)
def ti175 : TI := ⟨true, 0, 0, .struct [(0, 174)], some [], none, none⟩
theorem ti175_ok : TIok Tryd.prog 175 ti175 := TIok.agg Tryd.underlying175 Tryd.type175 rfl (⟨_, rfl, rfl, by simp [show Tryd.prog.info? 174 = some Tryd.t174 from Tryd.type174]⟩) rfl rfl rfl rfl rfl rfl rfl (fun h => by first | rfl | (cases h; done)) (fun _ h => by cases h) (fun _ h => by cases h) (fun _ h => by cases h)
def ti176 : TI := ⟨true, 0, 0, .struct [(0, 174)], some [], none, none⟩
theorem ti176_ok : TIok Tryd.prog 176 ti176 := TIok.agg Tryd.underlying176 Tryd.type176 rfl (⟨_, rfl, rfl, by simp [show Tryd.prog.info? 174 = some Tryd.t174 from Tryd.type174]⟩) rfl rfl rfl rfl rfl rfl rfl (fun h => by first | rfl | (cases h; done)) (fun _ h => by cases h) (fun _ h => by cases h) (fun _ h => by cases h)
def ti177 : TI := ⟨false, 1, 1, .int .u8, some [.int .u8 0], none, none⟩
theorem ti177_ok : TIok Tryd.prog 177 ti177 := TIok.agg Tryd.underlying177 Tryd.type177 rfl rfl rfl rfl rfl rfl rfl rfl rfl (fun h => by first | rfl | (cases h; done)) (fun _ h => by cases h) (fun _ h => by cases h) (fun _ h => by cases h)
def ti178 : TI := ⟨false, 1, 1, .int .u8, some [.int .u8 0], none, none⟩
theorem ti178_ok : TIok Tryd.prog 178 ti178 := TIok.agg Tryd.underlying178 Tryd.type178 rfl rfl rfl rfl rfl rfl rfl rfl rfl (fun h => by first | rfl | (cases h; done)) (fun _ h => by cases h) (fun _ h => by cases h) (fun _ h => by cases h)
def ti179 : TI := ⟨false, 1, 8, .other, none, none, none⟩
theorem ti179_ok : TIok Tryd.prog 179 ti179 := TIok.none Tryd.underlying179 Tryd.type179 rfl trivial rfl rfl rfl (fun _ h => by cases h) (fun _ h => by cases h) rfl
def ti180 : TI := ⟨false, 1, 4, .int .i32, some [.int .i32 0], none, none⟩
theorem ti180_ok : TIok Tryd.prog 180 ti180 := TIok.agg Tryd.underlying180 Tryd.type180 rfl rfl rfl rfl rfl rfl rfl rfl rfl (fun h => by first | rfl | (cases h; done)) (fun _ h => by cases h) (fun _ h => by cases h) (fun _ h => by cases h)
def ti181 : TI := ⟨false, 1, 4, .int .i32, some [.int .i32 0], none, none⟩
theorem ti181_ok : TIok Tryd.prog 181 ti181 := TIok.agg Tryd.underlying181 Tryd.type181 rfl rfl rfl rfl rfl rfl rfl rfl rfl (fun h => by first | rfl | (cases h; done)) (fun _ h => by cases h) (fun _ h => by cases h) (fun _ h => by cases h)
def ti182 : TI := ⟨true, 11, 48, .struct [(0, 12), (1, 12), (2, 147), (3, 177), (4, 5), (5, 5), (6, 178), (7, 179), (8, 132), (9, 180), (10, 181)], none, none, none⟩
theorem ti182_ok : TIok Tryd.prog 182 ti182 := TIok.none Tryd.underlying182 Tryd.type182 rfl (⟨_, rfl, rfl, by simp [show Tryd.prog.info? 5 = some Tryd.t5 from Tryd.type5, show Tryd.prog.info? 12 = some Tryd.t12 from Tryd.type12, show Tryd.prog.info? 132 = some Tryd.t132 from Tryd.type132, show Tryd.prog.info? 147 = some Tryd.t147 from Tryd.type147, show Tryd.prog.info? 177 = some Tryd.t177 from Tryd.type177, show Tryd.prog.info? 178 = some Tryd.t178 from Tryd.type178, show Tryd.prog.info? 179 = some Tryd.t179 from Tryd.type179, show Tryd.prog.info? 180 = some Tryd.t180 from Tryd.type180, show Tryd.prog.info? 181 = some Tryd.t181 from Tryd.type181]⟩) rfl rfl rfl (fun _ h => by cases h) (fun _ h => by cases h) rfl
def ti183 : TI := ⟨true, 11, 48, .struct [(0, 12), (1, 12), (2, 147), (3, 177), (4, 5), (5, 5), (6, 178), (7, 179), (8, 132), (9, 180), (10, 181)], none, none, none⟩
theorem ti183_ok : TIok Tryd.prog 183 ti183 := TIok.none Tryd.underlying183 Tryd.type183 rfl (⟨_, rfl, rfl, by simp [show Tryd.prog.info? 5 = some Tryd.t5 from Tryd.type5, show Tryd.prog.info? 12 = some Tryd.t12 from Tryd.type12, show Tryd.prog.info? 132 = some Tryd.t132 from Tryd.type132, show Tryd.prog.info? 147 = some Tryd.t147 from Tryd.type147, show Tryd.prog.info? 177 = some Tryd.t177 from Tryd.type177, show Tryd.prog.info? 178 = some Tryd.t178 from Tryd.type178, show Tryd.prog.info? 179 = some Tryd.t179 from Tryd.type179, show Tryd.prog.info? 180 = some Tryd.t180 from Tryd.type180, show Tryd.prog.info? 181 = some Tryd.t181 from Tryd.type181]⟩) rfl rfl rfl (fun _ h => by cases h) (fun _ h => by cases h) rfl
def D : TD := [(1, ti1), (2, ti2), (3, ti3), (4, ti4), (5, ti5), (6, ti6), (7, ti7), (8, ti8), (9, ti9), (10, ti10), (11, ti11), (12, ti12), (13, ti13), (14, ti14), (15, ti15), (16, ti16), (17, ti17), (18, ti18), (19, ti19), (20, ti20), (21, ti21), (22, ti22), (23, ti23), (24, ti24), (25, ti25), (26, ti26), (28, ti28), (29, ti29), (30, ti30), (31, ti31), (32, ti32), (33, ti33), (34, ti34), (35, ti35), (36, ti36), (37, ti37), (39, ti39), (40, ti40), (41, ti41), (42, ti42), (43, ti43), (44, ti44), (45, ti45), (46, ti46), (48, ti48), (49, ti49), (50, ti50), (51, ti51), (52, ti52), (53, ti53), (54, ti54), (55, ti55), (56, ti56), (57, ti57), (58, ti58), (59, ti59), (61, ti61), (62, ti62), (63, ti63), (64, ti64), (65, ti65), (66, ti66), (67, ti67), (68, ti68), (70, ti70), (71, ti71), (72, ti72), (73, ti73), (74, ti74), (75, ti75), (76, ti76), (77, ti77), (78, ti78), (79, ti79), (80, ti80), (81, ti81), (82, ti82), (83, ti83), (85, ti85), (87, ti87), (88, ti88), (90, ti90), (91, ti91), (93, ti93), (94, ti94), (95, ti95), (97, ti97), (99, ti99), (100, ti100), (101, ti101), (102, ti102), (103, ti103), (104, ti104), (105, ti105), (106, ti106), (107, ti107), (108, ti108), (109, ti109), (110, ti110), (111, ti111), (112, ti112), (113, ti113), (115, ti115), (116, ti116), (117, ti117), (121, ti121), (122, ti122), (123, ti123), (124, ti124), (125, ti125), (126, ti126), (127, ti127), (128, ti128), (130, ti130), (131, ti131), (132, ti132), (133, ti133), (134, ti134), (135, ti135), (136, ti136), (137, ti137), (138, ti138), (139, ti139), (141, ti141), (142, ti142), (143, ti143), (144, ti144), (145, ti145), (146, ti146), (147, ti147), (148, ti148), (149, ti149), (150, ti150), (152, ti152), (153, ti153), (155, ti155), (156, ti156), (157, ti157), (158, ti158), (159, ti159), (160, ti160), (162, ti162), (163, ti163), (164, ti164), (165, ti165), (166, ti166), (167, ti167), (168, ti168), (169, ti169), (170, ti170), (171, ti171), (172, ti172), (173, ti173), (174, ti174), (175, ti175), (176, ti176), (177, ti177), (178, ti178), (179, ti179), (180, ti180), (181, ti181), (182, ti182), (183, ti183)]
theorem D_ok : TDok Tryd.prog D := by
  intro t ti h
  unfold D at h
  rw [tyOf] at h
  split at h
  · rename_i e; subst e; cases h; exact ti1_ok
  rw [tyOf] at h
  split at h
  · rename_i e; subst e; cases h; exact ti2_ok
  rw [tyOf] at h
  split at h
  · rename_i e; subst e; cases h; exact ti3_ok
  rw [tyOf] at h
  split at h
  · rename_i e; subst e; cases h; exact ti4_ok
  rw [tyOf] at h
  split at h
  · rename_i e; subst e; cases h; exact ti5_ok
  rw [tyOf] at h
  split at h
  · rename_i e; subst e; cases h; exact ti6_ok
  rw [tyOf] at h
  split at h
  · rename_i e; subst e; cases h; exact ti7_ok
  rw [tyOf] at h
  split at h
  · rename_i e; subst e; cases h; exact ti8_ok
  rw [tyOf] at h
  split at h
  · rename_i e; subst e; cases h; exact ti9_ok
  rw [tyOf] at h
  split at h
  · rename_i e; subst e; cases h; exact ti10_ok
  rw [tyOf] at h
  split at h
  · rename_i e; subst e; cases h; exact ti11_ok
  rw [tyOf] at h
  split at h
  · rename_i e; subst e; cases h; exact ti12_ok
  rw [tyOf] at h
  split at h
  · rename_i e; subst e; cases h; exact ti13_ok
  rw [tyOf] at h
  split at h
  · rename_i e; subst e; cases h; exact ti14_ok
  rw [tyOf] at h
  split at h
  · rename_i e; subst e; cases h; exact ti15_ok
  rw [tyOf] at h
  split at h
  · rename_i e; subst e; cases h; exact ti16_ok
  rw [tyOf] at h
  split at h
  · rename_i e; subst e; cases h; exact ti17_ok
  rw [tyOf] at h
  split at h
  · rename_i e; subst e; cases h; exact ti18_ok
  rw [tyOf] at h
  split at h
  · rename_i e; subst e; cases h; exact ti19_ok
  rw [tyOf] at h
  split at h
  · rename_i e; subst e; cases h; exact ti20_ok
  rw [tyOf] at h
  split at h
  · rename_i e; subst e; cases h; exact ti21_ok
  rw [tyOf] at h
  split at h
  · rename_i e; subst e; cases h; exact ti22_ok
  rw [tyOf] at h
  split at h
  · rename_i e; subst e; cases h; exact ti23_ok
  rw [tyOf] at h
  split at h
  · rename_i e; subst e; cases h; exact ti24_ok
  rw [tyOf] at h
  split at h
  · rename_i e; subst e; cases h; exact ti25_ok
  rw [tyOf] at h
  split at h
  · rename_i e; subst e; cases h; exact ti26_ok
  rw [tyOf] at h
  split at h
  · rename_i e; subst e; cases h; exact ti28_ok
  rw [tyOf] at h
  split at h
  · rename_i e; subst e; cases h; exact ti29_ok
  rw [tyOf] at h
  split at h
  · rename_i e; subst e; cases h; exact ti30_ok
  rw [tyOf] at h
  split at h
  · rename_i e; subst e; cases h; exact ti31_ok
  rw [tyOf] at h
  split at h
  · rename_i e; subst e; cases h; exact ti32_ok
  rw [tyOf] at h
  split at h
  · rename_i e; subst e; cases h; exact ti33_ok
  rw [tyOf] at h
  split at h
  · rename_i e; subst e; cases h; exact ti34_ok
  rw [tyOf] at h
  split at h
  · rename_i e; subst e; cases h; exact ti35_ok
  rw [tyOf] at h
  split at h
  · rename_i e; subst e; cases h; exact ti36_ok
  rw [tyOf] at h
  split at h
  · rename_i e; subst e; cases h; exact ti37_ok
  rw [tyOf] at h
  split at h
  · rename_i e; subst e; cases h; exact ti39_ok
  rw [tyOf] at h
  split at h
  · rename_i e; subst e; cases h; exact ti40_ok
  rw [tyOf] at h
  split at h
  · rename_i e; subst e; cases h; exact ti41_ok
  rw [tyOf] at h
  split at h
  · rename_i e; subst e; cases h; exact ti42_ok
  rw [tyOf] at h
  split at h
  · rename_i e; subst e; cases h; exact ti43_ok
  rw [tyOf] at h
  split at h
  · rename_i e; subst e; cases h; exact ti44_ok
  rw [tyOf] at h
  split at h
  · rename_i e; subst e; cases h; exact ti45_ok
  rw [tyOf] at h
  split at h
  · rename_i e; subst e; cases h; exact ti46_ok
  rw [tyOf] at h
  split at h
  · rename_i e; subst e; cases h; exact ti48_ok
  rw [tyOf] at h
  split at h
  · rename_i e; subst e; cases h; exact ti49_ok
  rw [tyOf] at h
  split at h
  · rename_i e; subst e; cases h; exact ti50_ok
  rw [tyOf] at h
  split at h
  · rename_i e; subst e; cases h; exact ti51_ok
  rw [tyOf] at h
  split at h
  · rename_i e; subst e; cases h; exact ti52_ok
  rw [tyOf] at h
  split at h
  · rename_i e; subst e; cases h; exact ti53_ok
  rw [tyOf] at h
  split at h
  · rename_i e; subst e; cases h; exact ti54_ok
  rw [tyOf] at h
  split at h
  · rename_i e; subst e; cases h; exact ti55_ok
  rw [tyOf] at h
  split at h
  · rename_i e; subst e; cases h; exact ti56_ok
  rw [tyOf] at h
  split at h
  · rename_i e; subst e; cases h; exact ti57_ok
  rw [tyOf] at h
  split at h
  · rename_i e; subst e; cases h; exact ti58_ok
  rw [tyOf] at h
  split at h
  · rename_i e; subst e; cases h; exact ti59_ok
  rw [tyOf] at h
  split at h
  · rename_i e; subst e; cases h; exact ti61_ok
  rw [tyOf] at h
  split at h
  · rename_i e; subst e; cases h; exact ti62_ok
  rw [tyOf] at h
  split at h
  · rename_i e; subst e; cases h; exact ti63_ok
  rw [tyOf] at h
  split at h
  · rename_i e; subst e; cases h; exact ti64_ok
  rw [tyOf] at h
  split at h
  · rename_i e; subst e; cases h; exact ti65_ok
  rw [tyOf] at h
  split at h
  · rename_i e; subst e; cases h; exact ti66_ok
  rw [tyOf] at h
  split at h
  · rename_i e; subst e; cases h; exact ti67_ok
  rw [tyOf] at h
  split at h
  · rename_i e; subst e; cases h; exact ti68_ok
  rw [tyOf] at h
  split at h
  · rename_i e; subst e; cases h; exact ti70_ok
  rw [tyOf] at h
  split at h
  · rename_i e; subst e; cases h; exact ti71_ok
  rw [tyOf] at h
  split at h
  · rename_i e; subst e; cases h; exact ti72_ok
  rw [tyOf] at h
  split at h
  · rename_i e; subst e; cases h; exact ti73_ok
  rw [tyOf] at h
  split at h
  · rename_i e; subst e; cases h; exact ti74_ok
  rw [tyOf] at h
  split at h
  · rename_i e; subst e; cases h; exact ti75_ok
  rw [tyOf] at h
  split at h
  · rename_i e; subst e; cases h; exact ti76_ok
  rw [tyOf] at h
  split at h
  · rename_i e; subst e; cases h; exact ti77_ok
  rw [tyOf] at h
  split at h
  · rename_i e; subst e; cases h; exact ti78_ok
  rw [tyOf] at h
  split at h
  · rename_i e; subst e; cases h; exact ti79_ok
  rw [tyOf] at h
  split at h
  · rename_i e; subst e; cases h; exact ti80_ok
  rw [tyOf] at h
  split at h
  · rename_i e; subst e; cases h; exact ti81_ok
  rw [tyOf] at h
  split at h
  · rename_i e; subst e; cases h; exact ti82_ok
  rw [tyOf] at h
  split at h
  · rename_i e; subst e; cases h; exact ti83_ok
  rw [tyOf] at h
  split at h
  · rename_i e; subst e; cases h; exact ti85_ok
  rw [tyOf] at h
  split at h
  · rename_i e; subst e; cases h; exact ti87_ok
  rw [tyOf] at h
  split at h
  · rename_i e; subst e; cases h; exact ti88_ok
  rw [tyOf] at h
  split at h
  · rename_i e; subst e; cases h; exact ti90_ok
  rw [tyOf] at h
  split at h
  · rename_i e; subst e; cases h; exact ti91_ok
  rw [tyOf] at h
  split at h
  · rename_i e; subst e; cases h; exact ti93_ok
  rw [tyOf] at h
  split at h
  · rename_i e; subst e; cases h; exact ti94_ok
  rw [tyOf] at h
  split at h
  · rename_i e; subst e; cases h; exact ti95_ok
  rw [tyOf] at h
  split at h
  · rename_i e; subst e; cases h; exact ti97_ok
  rw [tyOf] at h
  split at h
  · rename_i e; subst e; cases h; exact ti99_ok
  rw [tyOf] at h
  split at h
  · rename_i e; subst e; cases h; exact ti100_ok
  rw [tyOf] at h
  split at h
  · rename_i e; subst e; cases h; exact ti101_ok
  rw [tyOf] at h
  split at h
  · rename_i e; subst e; cases h; exact ti102_ok
  rw [tyOf] at h
  split at h
  · rename_i e; subst e; cases h; exact ti103_ok
  rw [tyOf] at h
  split at h
  · rename_i e; subst e; cases h; exact ti104_ok
  rw [tyOf] at h
  split at h
  · rename_i e; subst e; cases h; exact ti105_ok
  rw [tyOf] at h
  split at h
  · rename_i e; subst e; cases h; exact ti106_ok
  rw [tyOf] at h
  split at h
  · rename_i e; subst e; cases h; exact ti107_ok
  rw [tyOf] at h
  split at h
  · rename_i e; subst e; cases h; exact ti108_ok
  rw [tyOf] at h
  split at h
  · rename_i e; subst e; cases h; exact ti109_ok
  rw [tyOf] at h
  split at h
  · rename_i e; subst e; cases h; exact ti110_ok
  rw [tyOf] at h
  split at h
  · rename_i e; subst e; cases h; exact ti111_ok
  rw [tyOf] at h
  split at h
  · rename_i e; subst e; cases h; exact ti112_ok
  rw [tyOf] at h
  split at h
  · rename_i e; subst e; cases h; exact ti113_ok
  rw [tyOf] at h
  split at h
  · rename_i e; subst e; cases h; exact ti115_ok
  rw [tyOf] at h
  split at h
  · rename_i e; subst e; cases h; exact ti116_ok
  rw [tyOf] at h
  split at h
  · rename_i e; subst e; cases h; exact ti117_ok
  rw [tyOf] at h
  split at h
  · rename_i e; subst e; cases h; exact ti121_ok
  rw [tyOf] at h
  split at h
  · rename_i e; subst e; cases h; exact ti122_ok
  rw [tyOf] at h
  split at h
  · rename_i e; subst e; cases h; exact ti123_ok
  rw [tyOf] at h
  split at h
  · rename_i e; subst e; cases h; exact ti124_ok
  rw [tyOf] at h
  split at h
  · rename_i e; subst e; cases h; exact ti125_ok
  rw [tyOf] at h
  split at h
  · rename_i e; subst e; cases h; exact ti126_ok
  rw [tyOf] at h
  split at h
  · rename_i e; subst e; cases h; exact ti127_ok
  rw [tyOf] at h
  split at h
  · rename_i e; subst e; cases h; exact ti128_ok
  rw [tyOf] at h
  split at h
  · rename_i e; subst e; cases h; exact ti130_ok
  rw [tyOf] at h
  split at h
  · rename_i e; subst e; cases h; exact ti131_ok
  rw [tyOf] at h
  split at h
  · rename_i e; subst e; cases h; exact ti132_ok
  rw [tyOf] at h
  split at h
  · rename_i e; subst e; cases h; exact ti133_ok
  rw [tyOf] at h
  split at h
  · rename_i e; subst e; cases h; exact ti134_ok
  rw [tyOf] at h
  split at h
  · rename_i e; subst e; cases h; exact ti135_ok
  rw [tyOf] at h
  split at h
  · rename_i e; subst e; cases h; exact ti136_ok
  rw [tyOf] at h
  split at h
  · rename_i e; subst e; cases h; exact ti137_ok
  rw [tyOf] at h
  split at h
  · rename_i e; subst e; cases h; exact ti138_ok
  rw [tyOf] at h
  split at h
  · rename_i e; subst e; cases h; exact ti139_ok
  rw [tyOf] at h
  split at h
  · rename_i e; subst e; cases h; exact ti141_ok
  rw [tyOf] at h
  split at h
  · rename_i e; subst e; cases h; exact ti142_ok
  rw [tyOf] at h
  split at h
  · rename_i e; subst e; cases h; exact ti143_ok
  rw [tyOf] at h
  split at h
  · rename_i e; subst e; cases h; exact ti144_ok
  rw [tyOf] at h
  split at h
  · rename_i e; subst e; cases h; exact ti145_ok
  rw [tyOf] at h
  split at h
  · rename_i e; subst e; cases h; exact ti146_ok
  rw [tyOf] at h
  split at h
  · rename_i e; subst e; cases h; exact ti147_ok
  rw [tyOf] at h
  split at h
  · rename_i e; subst e; cases h; exact ti148_ok
  rw [tyOf] at h
  split at h
  · rename_i e; subst e; cases h; exact ti149_ok
  rw [tyOf] at h
  split at h
  · rename_i e; subst e; cases h; exact ti150_ok
  rw [tyOf] at h
  split at h
  · rename_i e; subst e; cases h; exact ti152_ok
  rw [tyOf] at h
  split at h
  · rename_i e; subst e; cases h; exact ti153_ok
  rw [tyOf] at h
  split at h
  · rename_i e; subst e; cases h; exact ti155_ok
  rw [tyOf] at h
  split at h
  · rename_i e; subst e; cases h; exact ti156_ok
  rw [tyOf] at h
  split at h
  · rename_i e; subst e; cases h; exact ti157_ok
  rw [tyOf] at h
  split at h
  · rename_i e; subst e; cases h; exact ti158_ok
  rw [tyOf] at h
  split at h
  · rename_i e; subst e; cases h; exact ti159_ok
  rw [tyOf] at h
  split at h
  · rename_i e; subst e; cases h; exact ti160_ok
  rw [tyOf] at h
  split at h
  · rename_i e; subst e; cases h; exact ti162_ok
  rw [tyOf] at h
  split at h
  · rename_i e; subst e; cases h; exact ti163_ok
  rw [tyOf] at h
  split at h
  · rename_i e; subst e; cases h; exact ti164_ok
  rw [tyOf] at h
  split at h
  · rename_i e; subst e; cases h; exact ti165_ok
  rw [tyOf] at h
  split at h
  · rename_i e; subst e; cases h; exact ti166_ok
  rw [tyOf] at h
  split at h
  · rename_i e; subst e; cases h; exact ti167_ok
  rw [tyOf] at h
  split at h
  · rename_i e; subst e; cases h; exact ti168_ok
  rw [tyOf] at h
  split at h
  · rename_i e; subst e; cases h; exact ti169_ok
  rw [tyOf] at h
  split at h
  · rename_i e; subst e; cases h; exact ti170_ok
  rw [tyOf] at h
  split at h
  · rename_i e; subst e; cases h; exact ti171_ok
  rw [tyOf] at h
  split at h
  · rename_i e; subst e; cases h; exact ti172_ok
  rw [tyOf] at h
  split at h
  · rename_i e; subst e; cases h; exact ti173_ok
  rw [tyOf] at h
  split at h
  · rename_i e; subst e; cases h; exact ti174_ok
  rw [tyOf] at h
  split at h
  · rename_i e; subst e; cases h; exact ti175_ok
  rw [tyOf] at h
  split at h
  · rename_i e; subst e; cases h; exact ti176_ok
  rw [tyOf] at h
  split at h
  · rename_i e; subst e; cases h; exact ti177_ok
  rw [tyOf] at h
  split at h
  · rename_i e; subst e; cases h; exact ti178_ok
  rw [tyOf] at h
  split at h
  · rename_i e; subst e; cases h; exact ti179_ok
  rw [tyOf] at h
  split at h
  · rename_i e; subst e; cases h; exact ti180_ok
  rw [tyOf] at h
  split at h
  · rename_i e; subst e; cases h; exact ti181_ok
  rw [tyOf] at h
  split at h
  · rename_i e; subst e; cases h; exact ti182_ok
  rw [tyOf] at h
  split at h
  · rename_i e; subst e; cases h; exact ti183_ok
  cases h
end Go.Proofs.YtoclmkbjgmgekaaDoor
