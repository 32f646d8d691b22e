/- What the machine knows of the types of this seat: printed by gentd.py. -/
import Derived.Test.YtpbkhdeehlikfaaDoorRows
import Derived.Test.YtpbkhdeehlikfaaDoorA6
namespace Go.Proofs.YtpbkhdeehlikfaaDoor
set_option linter.unusedVariables false
set_option linter.unusedSimpArgs false
set_option linter.unusedSectionVars false
open Go.RowKit
set_option maxRecDepth 100000
def ti1 : TI := ⟨false, 1, 8, .other, none, none, none⟩
theorem ti1_ok : TIok Tryd.prog 1 ti1 := TIok.none Tryd.underlying1 Tryd.type1 rfl trivial rfl rfl rfl (fun _ h => by cases h) (fun _ h => by cases h) rfl
def ti2 : TI := ⟨false, 1, 8, .int .i64, some [.int .i64 0], none, none⟩
theorem ti2_ok : TIok Tryd.prog 2 ti2 := TIok.agg Tryd.underlying2 Tryd.type2 rfl rfl rfl rfl rfl rfl rfl rfl rfl (fun _ h => by cases h) (fun _ h => by cases h) (fun _ h => by cases h)
def ti3 : TI := ⟨false, 1, 8, .int .i64, some [.int .i64 0], none, none⟩
theorem ti3_ok : TIok Tryd.prog 3 ti3 := TIok.agg Tryd.underlying3 Tryd.type3 rfl rfl rfl rfl rfl rfl rfl rfl rfl (fun _ h => by cases h) (fun _ h => by cases h) (fun _ h => by cases h)
def ti4 : TI := ⟨false, 1, 1, .bool, some [.bool false], none, none⟩
theorem ti4_ok : TIok Tryd.prog 4 ti4 := TIok.agg Tryd.underlying4 Tryd.type4 rfl rfl rfl rfl rfl rfl rfl rfl rfl (fun _ h => by cases h) (fun _ h => by cases h) (fun _ h => by cases h)
def ti5 : TI := ⟨false, 1, 1, .int .u8, some [.int .u8 0], some .u8, none⟩
theorem ti5_ok : TIok Tryd.prog 5 ti5 := TIok.agg Tryd.underlying5 Tryd.type5 rfl rfl rfl rfl rfl rfl rfl rfl rfl (fun e h => by cases h; exact ⟨rfl, by decide⟩) (fun e h => by cases h; rfl) (fun _ h => by cases h)
def ti6 : TI := ⟨false, 1, 1, .int .u8, some [.int .u8 0], none, none⟩
theorem ti6_ok : TIok Tryd.prog 6 ti6 := TIok.agg Tryd.underlying6 Tryd.type6 rfl rfl rfl rfl rfl rfl rfl rfl rfl (fun _ h => by cases h) (fun _ h => by cases h) (fun _ h => by cases h)
def ti7 : TI := ⟨true, 4, 24, .struct [(0, 2), (1, 3), (2, 4), (3, 6)], some [.int .i64 0, .int .i64 0, .bool false, .int .u8 0], none, none⟩
theorem ti7_ok : TIok Tryd.prog 7 ti7 := TIok.agg Tryd.underlying7 Tryd.type7 rfl (⟨_, rfl, rfl, by simp [show Tryd.prog.info? 2 = some Tryd.t2 from Tryd.type2, show Tryd.prog.info? 3 = some Tryd.t3 from Tryd.type3, show Tryd.prog.info? 4 = some Tryd.t4 from Tryd.type4, show Tryd.prog.info? 6 = some Tryd.t6 from Tryd.type6]⟩) rfl rfl rfl rfl rfl rfl rfl (fun _ h => by cases h) (fun _ h => by cases h) (fun _ h => by cases h)
def ti8 : TI := ⟨true, 4, 24, .struct [(0, 2), (1, 3), (2, 4), (3, 6)], some [.int .i64 0, .int .i64 0, .bool false, .int .u8 0], none, none⟩
theorem ti8_ok : TIok Tryd.prog 8 ti8 := TIok.agg Tryd.underlying8 Tryd.type8 rfl (⟨_, rfl, rfl, by simp [show Tryd.prog.info? 2 = some Tryd.t2 from Tryd.type2, show Tryd.prog.info? 3 = some Tryd.t3 from Tryd.type3, show Tryd.prog.info? 4 = some Tryd.t4 from Tryd.type4, show Tryd.prog.info? 6 = some Tryd.t6 from Tryd.type6]⟩) rfl rfl rfl rfl rfl rfl rfl (fun _ h => by cases h) (fun _ h => by cases h) (fun _ h => by cases h)
def ti9 : TI := ⟨false, 1, 16, .string, some [.str ⟨#[]⟩], none, none⟩
theorem ti9_ok : TIok Tryd.prog 9 ti9 := TIok.agg Tryd.underlying9 Tryd.type9 rfl rfl rfl rfl rfl rfl rfl rfl rfl (fun _ h => by cases h) (fun _ h => by cases h) (fun _ h => by cases h)
def ti10 : TI := ⟨false, 1, 16, .string, some [.str ⟨#[]⟩], none, none⟩
theorem ti10_ok : TIok Tryd.prog 10 ti10 := TIok.agg Tryd.underlying10 Tryd.type10 rfl rfl rfl rfl rfl rfl rfl rfl rfl (fun _ h => by cases h) (fun _ h => by cases h) (fun _ h => by cases h)
def ti11 : TI := ⟨false, 1, 16, .string, some [.str ⟨#[]⟩], none, none⟩
theorem ti11_ok : TIok Tryd.prog 11 ti11 := TIok.agg Tryd.underlying11 Tryd.type11 rfl rfl rfl rfl rfl rfl rfl rfl rfl (fun _ h => by cases h) (fun _ h => by cases h) (fun _ h => by cases h)
def ti12 : TI := ⟨false, 1, 8, .int .u64, some [.int .u64 0], none, none⟩
theorem ti12_ok : TIok Tryd.prog 12 ti12 := TIok.agg Tryd.underlying12 Tryd.type12 rfl rfl rfl rfl rfl rfl rfl rfl rfl (fun _ h => by cases h) (fun _ h => by cases h) (fun _ h => by cases h)
def ti13 : TI := ⟨true, 2, 24, .struct [(0, 9), (1, 12)], some [.str ⟨#[]⟩, .int .u64 0], none, none⟩
theorem ti13_ok : TIok Tryd.prog 13 ti13 := TIok.agg Tryd.underlying13 Tryd.type13 rfl (⟨_, rfl, rfl, by simp [show Tryd.prog.info? 9 = some Tryd.t9 from Tryd.type9, show Tryd.prog.info? 12 = some Tryd.t12 from Tryd.type12]⟩) rfl rfl rfl rfl rfl rfl rfl (fun _ h => by cases h) (fun _ h => by cases h) (fun _ h => by cases h)
def ti14 : TI := ⟨true, 2, 24, .struct [(0, 9), (1, 12)], some [.str ⟨#[]⟩, .int .u64 0], none, none⟩
theorem ti14_ok : TIok Tryd.prog 14 ti14 := TIok.agg Tryd.underlying14 Tryd.type14 rfl (⟨_, rfl, rfl, by simp [show Tryd.prog.info? 9 = some Tryd.t9 from Tryd.type9, show Tryd.prog.info? 12 = some Tryd.t12 from Tryd.type12]⟩) rfl rfl rfl rfl rfl rfl rfl (fun _ h => by cases h) (fun _ h => by cases h) (fun _ h => by cases h)
def ti15 : TI := ⟨false, 1, 8, .other, some [.cst (.pointer none)], none, none⟩
theorem ti15_ok : TIok Tryd.prog 15 ti15 := TIok.agg Tryd.underlying15 Tryd.type15 rfl trivial rfl rfl rfl rfl rfl rfl rfl (fun _ h => by cases h) (fun _ h => by cases h) (fun _ h => by cases h)
def ti16 : TI := ⟨false, 1, 8, .other, some [.cst (.pointer none)], none, none⟩
theorem ti16_ok : TIok Tryd.prog 16 ti16 := TIok.agg Tryd.underlying16 Tryd.type16 rfl trivial rfl rfl rfl rfl rfl rfl rfl (fun _ h => by cases h) (fun _ h => by cases h) (fun _ h => by cases h)
def ti17 : TI := ⟨false, 1, 8, .other, some [.cst (.pointer none)], none, none⟩
theorem ti17_ok : TIok Tryd.prog 17 ti17 := TIok.agg Tryd.underlying17 Tryd.type17 rfl trivial rfl rfl rfl rfl rfl rfl rfl (fun _ h => by cases h) (fun _ h => by cases h) (fun _ h => by cases h)
def ti18 : TI := ⟨true, 1, 8, .struct [(0, 17)], some [.cst (.pointer none)], none, none⟩
theorem ti18_ok : TIok Tryd.prog 18 ti18 := TIok.agg Tryd.underlying18 Tryd.type18 rfl (⟨_, rfl, rfl, by simp [show Tryd.prog.info? 17 = some Tryd.t17 from Tryd.type17]⟩) rfl rfl rfl rfl rfl rfl rfl (fun _ h => by cases h) (fun _ h => by cases h) (fun _ h => by cases h)
def ti19 : TI := ⟨true, 1, 8, .struct [(0, 17)], some [.cst (.pointer none)], none, none⟩
theorem ti19_ok : TIok Tryd.prog 19 ti19 := TIok.agg Tryd.underlying19 Tryd.type19 rfl (⟨_, rfl, rfl, by simp [show Tryd.prog.info? 17 = some Tryd.t17 from Tryd.type17]⟩) rfl rfl rfl rfl rfl rfl rfl (fun _ h => by cases h) (fun _ h => by cases h) (fun _ h => by cases h)
def ti20 : TI := ⟨false, 1, 16, .iface, some [.cst .nilIface], none, none⟩
theorem ti20_ok : TIok Tryd.prog 20 ti20 := TIok.agg Tryd.underlying20 Tryd.type20 rfl (⟨_, rfl⟩) rfl rfl rfl rfl rfl rfl rfl (fun _ h => by cases h) (fun _ h => by cases h) (fun _ h => by cases h)
def ti21 : TI := ⟨false, 1, 4, .int .i32, some [.int .i32 0], none, none⟩
theorem ti21_ok : TIok Tryd.prog 21 ti21 := TIok.agg Tryd.underlying21 Tryd.type21 rfl rfl rfl rfl rfl rfl rfl rfl rfl (fun _ h => by cases h) (fun _ h => by cases h) (fun _ h => by cases h)
def ti22 : TI := ⟨false, 1, 8, .other, none, none, none⟩
theorem ti22_ok : TIok Tryd.prog 22 ti22 := TIok.none Tryd.underlying22 Tryd.type22 rfl trivial rfl rfl rfl (fun _ h => by cases h) (fun _ h => by cases h) rfl
def ti23 : TI := ⟨false, 1, 24, .slice 25, some [.nil], none, none⟩
theorem ti23_ok : TIok Tryd.prog 23 ti23 := TIok.agg Tryd.underlying23 Tryd.type23 rfl (⟨rfl, by rw [show Tryd.prog.info? 25 = some Tryd.t25 from Tryd.type25]; rfl⟩) rfl rfl rfl rfl rfl rfl rfl (fun _ h => by cases h) (fun _ h => by cases h) (fun _ h => by cases h)
def ti24 : TI := ⟨true, 3, 48, .struct [(0, 4), (1, 9), (2, 23)], some [.bool false, .str ⟨#[]⟩, .nil], none, none⟩
theorem ti24_ok : TIok Tryd.prog 24 ti24 := TIok.agg Tryd.underlying24 Tryd.type24 rfl (⟨_, rfl, rfl, by simp [show Tryd.prog.info? 4 = some Tryd.t4 from Tryd.type4, show Tryd.prog.info? 9 = some Tryd.t9 from Tryd.type9, show Tryd.prog.info? 23 = some Tryd.t23 from Tryd.type23]⟩) rfl rfl rfl rfl rfl rfl rfl (fun _ h => by cases h) (fun _ h => by cases h) (fun _ h => by cases h)
def ti25 : TI := ⟨true, 3, 48, .struct [(0, 4), (1, 9), (2, 23)], some [.bool false, .str ⟨#[]⟩, .nil], some .sexp, none⟩
theorem ti25_ok : TIok Tryd.prog 25 ti25 := TIok.agg Tryd.underlying25 Tryd.type25 rfl (⟨_, rfl, rfl, by simp [show Tryd.prog.info? 4 = some Tryd.t4 from Tryd.type4, show Tryd.prog.info? 9 = some Tryd.t9 from Tryd.type9, show Tryd.prog.info? 23 = some Tryd.t23 from Tryd.type23]⟩) rfl rfl rfl rfl rfl rfl rfl (fun e h => by cases h; exact ⟨rfl, by decide⟩) (fun e h => by cases h; rfl) (fun _ h => by cases h)
def ti26 : TI := ⟨false, 1, 8, .int .i64, some [.int .i64 0], none, none⟩
theorem ti26_ok : TIok Tryd.prog 26 ti26 := TIok.agg Tryd.underlying26 Tryd.type26 rfl rfl rfl rfl rfl rfl rfl rfl rfl (fun _ h => by cases h) (fun _ h => by cases h) (fun _ h => by cases h)
def ti28 : TI := ⟨false, 1, 8, .other, none, none, none⟩
theorem ti28_ok : TIok Tryd.prog 28 ti28 := TIok.none Tryd.underlying28 Tryd.type28 rfl trivial rfl rfl rfl (fun _ h => by cases h) (fun _ h => by cases h) rfl
def ti30 : TI := ⟨false, 1, 8, .other, none, none, none⟩
theorem ti30_ok : TIok Tryd.prog 30 ti30 := TIok.none Tryd.underlying30 Tryd.type30 rfl trivial rfl rfl rfl (fun _ h => by cases h) (fun _ h => by cases h) rfl
def ti31 : TI := ⟨false, 1, 8, .other, none, none, none⟩
theorem ti31_ok : TIok Tryd.prog 31 ti31 := TIok.none Tryd.underlying31 Tryd.type31 rfl trivial rfl rfl rfl (fun _ h => by cases h) (fun _ h => by cases h) rfl
def ti32 : TI := ⟨false, 1, 8, .other, none, none, none⟩
theorem ti32_ok : TIok Tryd.prog 32 ti32 := TIok.none Tryd.underlying32 Tryd.type32 rfl trivial rfl rfl rfl (fun _ h => by cases h) (fun _ h => by cases h) rfl
def ti33 : TI := ⟨false, 1, 8, .other, none, none, none⟩
theorem ti33_ok : TIok Tryd.prog 33 ti33 := TIok.none Tryd.underlying33 Tryd.type33 rfl trivial rfl rfl rfl (fun _ h => by cases h) (fun _ h => by cases h) rfl
def ti34 : TI := ⟨false, 1, 8, .other, none, none, none⟩
theorem ti34_ok : TIok Tryd.prog 34 ti34 := TIok.none Tryd.underlying34 Tryd.type34 rfl trivial rfl rfl rfl (fun _ h => by cases h) (fun _ h => by cases h) rfl
def ti36 : TI := ⟨false, 1, 8, .other, none, none, none⟩
theorem ti36_ok : TIok Tryd.prog 36 ti36 := TIok.none Tryd.underlying36 Tryd.type36 rfl trivial rfl rfl rfl (fun _ h => by cases h) (fun _ h => by cases h) rfl
def ti37 : TI := ⟨false, 1, 8, .other, none, none, none⟩
theorem ti37_ok : TIok Tryd.prog 37 ti37 := TIok.none Tryd.underlying37 Tryd.type37 rfl trivial rfl rfl rfl (fun _ h => by cases h) (fun _ h => by cases h) rfl
def ti38 : TI := ⟨false, 1, 8, .other, none, none, none⟩
theorem ti38_ok : TIok Tryd.prog 38 ti38 := TIok.none Tryd.underlying38 Tryd.type38 rfl trivial rfl rfl rfl (fun _ h => by cases h) (fun _ h => by cases h) rfl
def ti39 : TI := ⟨false, 1, 8, .other, none, none, none⟩
theorem ti39_ok : TIok Tryd.prog 39 ti39 := TIok.none Tryd.underlying39 Tryd.type39 rfl trivial rfl rfl rfl (fun _ h => by cases h) (fun _ h => by cases h) rfl
def ti41 : TI := ⟨false, 1, 8, .other, none, none, none⟩
theorem ti41_ok : TIok Tryd.prog 41 ti41 := TIok.none Tryd.underlying41 Tryd.type41 rfl trivial rfl rfl rfl (fun _ h => by cases h) (fun _ h => by cases h) rfl
def ti42 : TI := ⟨false, 1, 8, .other, none, none, none⟩
theorem ti42_ok : TIok Tryd.prog 42 ti42 := TIok.none Tryd.underlying42 Tryd.type42 rfl trivial rfl rfl rfl (fun _ h => by cases h) (fun _ h => by cases h) rfl
def ti43 : TI := ⟨false, 1, 2, .int .u16, some [.int .u16 0], none, none⟩
theorem ti43_ok : TIok Tryd.prog 43 ti43 := TIok.agg Tryd.underlying43 Tryd.type43 rfl rfl rfl rfl rfl rfl rfl rfl rfl (fun _ h => by cases h) (fun _ h => by cases h) (fun _ h => by cases h)
def ti44 : TI := ⟨false, 1, 8, .other, none, none, none⟩
theorem ti44_ok : TIok Tryd.prog 44 ti44 := TIok.none Tryd.underlying44 Tryd.type44 rfl trivial rfl rfl rfl (fun _ h => by cases h) (fun _ h => by cases h) rfl
def ti45 : TI := ⟨false, 1, 8, .other, none, none, none⟩
theorem ti45_ok : TIok Tryd.prog 45 ti45 := TIok.none Tryd.underlying45 Tryd.type45 rfl trivial rfl rfl rfl (fun _ h => by cases h) (fun _ h => by cases h) rfl
def ti46 : TI := ⟨true, 1, 8, .struct [(0, 26)], some [.int .i64 0], none, none⟩
theorem ti46_ok : TIok Tryd.prog 46 ti46 := TIok.agg Tryd.underlying46 Tryd.type46 rfl (⟨_, rfl, rfl, by simp [show Tryd.prog.info? 26 = some Tryd.t26 from Tryd.type26]⟩) rfl rfl rfl rfl rfl rfl rfl (fun _ h => by cases h) (fun _ h => by cases h) (fun _ h => by cases h)
def ti47 : TI := ⟨true, 1, 8, .struct [(0, 26)], some [.int .i64 0], none, none⟩
theorem ti47_ok : TIok Tryd.prog 47 ti47 := TIok.agg Tryd.underlying47 Tryd.type47 rfl (⟨_, rfl, rfl, by simp [show Tryd.prog.info? 26 = some Tryd.t26 from Tryd.type26]⟩) rfl rfl rfl rfl rfl rfl rfl (fun _ h => by cases h) (fun _ h => by cases h) (fun _ h => by cases h)
def ti49 : TI := ⟨false, 1, 8, .other, some [.cst (.pointer none)], none, none⟩
theorem ti49_ok : TIok Tryd.prog 49 ti49 := TIok.agg Tryd.underlying49 Tryd.type49 rfl trivial rfl rfl rfl rfl rfl rfl rfl (fun _ h => by cases h) (fun _ h => by cases h) (fun _ h => by cases h)
def ti50 : TI := ⟨true, 3, 32, .struct [(0, 9), (1, 3), (2, 3)], some [.str ⟨#[]⟩, .int .i64 0, .int .i64 0], none, none⟩
theorem ti50_ok : TIok Tryd.prog 50 ti50 := TIok.agg Tryd.underlying50 Tryd.type50 rfl (⟨_, rfl, rfl, by simp [show Tryd.prog.info? 3 = some Tryd.t3 from Tryd.type3, show Tryd.prog.info? 9 = some Tryd.t9 from Tryd.type9]⟩) rfl rfl rfl rfl rfl rfl rfl (fun _ h => by cases h) (fun _ h => by cases h) (fun _ h => by cases h)
def ti51 : TI := ⟨true, 3, 32, .struct [(0, 9), (1, 3), (2, 3)], some [.str ⟨#[]⟩, .int .i64 0, .int .i64 0], none, none⟩
theorem ti51_ok : TIok Tryd.prog 51 ti51 := TIok.agg Tryd.underlying51 Tryd.type51 rfl (⟨_, rfl, rfl, by simp [show Tryd.prog.info? 3 = some Tryd.t3 from Tryd.type3, show Tryd.prog.info? 9 = some Tryd.t9 from Tryd.type9]⟩) rfl rfl rfl rfl rfl rfl rfl (fun _ h => by cases h) (fun _ h => by cases h) (fun _ h => by cases h)
def ti52 : TI := ⟨false, 1, 8, .other, none, none, none⟩
theorem ti52_ok : TIok Tryd.prog 52 ti52 := TIok.none Tryd.underlying52 Tryd.type52 rfl trivial rfl rfl rfl (fun _ h => by cases h) (fun _ h => by cases h) rfl
def ti53 : TI := ⟨true, 4, 40, .struct [(0, 9), (1, 3), (2, 3), (3, 26)], some [.str ⟨#[]⟩, .int .i64 0, .int .i64 0, .int .i64 0], none, none⟩
theorem ti53_ok : TIok Tryd.prog 53 ti53 := TIok.agg Tryd.underlying53 Tryd.type53 rfl (⟨_, rfl, rfl, by simp [show Tryd.prog.info? 3 = some Tryd.t3 from Tryd.type3, show Tryd.prog.info? 9 = some Tryd.t9 from Tryd.type9, show Tryd.prog.info? 26 = some Tryd.t26 from Tryd.type26]⟩) rfl rfl rfl rfl rfl rfl rfl (fun _ h => by cases h) (fun _ h => by cases h) (fun _ h => by cases h)
def ti54 : TI := ⟨true, 4, 40, .struct [(0, 9), (1, 3), (2, 3), (3, 26)], some [.str ⟨#[]⟩, .int .i64 0, .int .i64 0, .int .i64 0], none, none⟩
theorem ti54_ok : TIok Tryd.prog 54 ti54 := TIok.agg Tryd.underlying54 Tryd.type54 rfl (⟨_, rfl, rfl, by simp [show Tryd.prog.info? 3 = some Tryd.t3 from Tryd.type3, show Tryd.prog.info? 9 = some Tryd.t9 from Tryd.type9, show Tryd.prog.info? 26 = some Tryd.t26 from Tryd.type26]⟩) rfl rfl rfl rfl rfl rfl rfl (fun _ h => by cases h) (fun _ h => by cases h) (fun _ h => by cases h)
def ti56 : TI := ⟨false, 1, 8, .other, none, none, none⟩
theorem ti56_ok : TIok Tryd.prog 56 ti56 := TIok.none Tryd.underlying56 Tryd.type56 rfl trivial rfl rfl rfl (fun _ h => by cases h) (fun _ h => by cases h) rfl
def ti57 : TI := ⟨false, 1, 8, .other, none, none, none⟩
theorem ti57_ok : TIok Tryd.prog 57 ti57 := TIok.none Tryd.underlying57 Tryd.type57 rfl trivial rfl rfl rfl (fun _ h => by cases h) (fun _ h => by cases h) rfl
def ti58 : TI := ⟨false, 1, 8, .other, none, none, none⟩
theorem ti58_ok : TIok Tryd.prog 58 ti58 := TIok.none Tryd.underlying58 Tryd.type58 rfl trivial rfl rfl rfl (fun _ h => by cases h) (fun _ h => by cases h) rfl
def ti59 : TI := ⟨false, 1, 16, .iface, some [.cst .nilIface], none, none⟩
theorem ti59_ok : TIok Tryd.prog 59 ti59 := TIok.agg Tryd.underlying59 Tryd.type59 rfl (⟨_, rfl⟩) rfl rfl rfl rfl rfl rfl rfl (fun _ h => by cases h) (fun _ h => by cases h) (fun _ h => by cases h)
def ti60 : TI := ⟨false, 1, 16, .iface, some [.cst .nilIface], none, none⟩
theorem ti60_ok : TIok Tryd.prog 60 ti60 := TIok.agg Tryd.underlying60 Tryd.type60 rfl (⟨_, rfl⟩) rfl rfl rfl rfl rfl rfl rfl (fun _ h => by cases h) (fun _ h => by cases h) (fun _ h => by cases h)
def ti62 : TI := ⟨false, 1, 8, .other, none, none, none⟩
theorem ti62_ok : TIok Tryd.prog 62 ti62 := TIok.none Tryd.underlying62 Tryd.type62 rfl trivial rfl rfl rfl (fun _ h => by cases h) (fun _ h => by cases h) rfl
def ti63 : TI := ⟨false, 1, 8, .other, some [.cst (.pointer none)], none, none⟩
theorem ti63_ok : TIok Tryd.prog 63 ti63 := TIok.agg Tryd.underlying63 Tryd.type63 rfl trivial rfl rfl rfl rfl rfl rfl rfl (fun _ h => by cases h) (fun _ h => by cases h) (fun _ h => by cases h)
def ti64 : TI := ⟨true, 2, 16, .struct [(0, 3), (1, 4)], some [.int .i64 0, .bool false], none, none⟩
theorem ti64_ok : TIok Tryd.prog 64 ti64 := TIok.agg Tryd.underlying64 Tryd.type64 rfl (⟨_, rfl, rfl, by simp [show Tryd.prog.info? 3 = some Tryd.t3 from Tryd.type3, show Tryd.prog.info? 4 = some Tryd.t4 from Tryd.type4]⟩) rfl rfl rfl rfl rfl rfl rfl (fun _ h => by cases h) (fun _ h => by cases h) (fun _ h => by cases h)
def ti65 : TI := ⟨true, 2, 16, .struct [(0, 3), (1, 4)], some [.int .i64 0, .bool false], none, none⟩
theorem ti65_ok : TIok Tryd.prog 65 ti65 := TIok.agg Tryd.underlying65 Tryd.type65 rfl (⟨_, rfl, rfl, by simp [show Tryd.prog.info? 3 = some Tryd.t3 from Tryd.type3, show Tryd.prog.info? 4 = some Tryd.t4 from Tryd.type4]⟩) rfl rfl rfl rfl rfl rfl rfl (fun _ h => by cases h) (fun _ h => by cases h) (fun _ h => by cases h)
def ti66 : TI := ⟨false, 1, 8, .other, none, none, none⟩
theorem ti66_ok : TIok Tryd.prog 66 ti66 := TIok.none Tryd.underlying66 Tryd.type66 rfl trivial rfl rfl rfl (fun _ h => by cases h) (fun _ h => by cases h) rfl
def ti67 : TI := ⟨false, 1, 8, .other, some [.cst (.pointer none)], none, none⟩
theorem ti67_ok : TIok Tryd.prog 67 ti67 := TIok.agg Tryd.underlying67 Tryd.type67 rfl trivial rfl rfl rfl rfl rfl rfl rfl (fun _ h => by cases h) (fun _ h => by cases h) (fun _ h => by cases h)
def ti68 : TI := ⟨false, 1, 24, .slice 5, some [.nil], none, none⟩
theorem ti68_ok : TIok Tryd.prog 68 ti68 := TIok.agg Tryd.underlying68 Tryd.type68 rfl (⟨rfl, by rw [show Tryd.prog.info? 5 = some Tryd.t5 from Tryd.type5]; rfl⟩) rfl rfl rfl rfl rfl rfl rfl (fun _ h => by cases h) (fun _ h => by cases h) (fun _ h => by cases h)
def ti69 : TI := ⟨true, 2, 32, .struct [(0, 67), (1, 68)], some [.cst (.pointer none), .nil], none, none⟩
theorem ti69_ok : TIok Tryd.prog 69 ti69 := TIok.agg Tryd.underlying69 Tryd.type69 rfl (⟨_, rfl, rfl, by simp [show Tryd.prog.info? 67 = some Tryd.t67 from Tryd.type67, show Tryd.prog.info? 68 = some Tryd.t68 from Tryd.type68]⟩) rfl rfl rfl rfl rfl rfl rfl (fun _ h => by cases h) (fun _ h => by cases h) (fun _ h => by cases h)
def ti70 : TI := ⟨true, 2, 32, .struct [(0, 67), (1, 68)], some [.fp, .nil], none, none⟩
theorem ti70_ok : TIok Tryd.prog 70 ti70 := TIok.agg Tryd.underlying70 Tryd.type70 rfl (⟨_, rfl, rfl, by simp [show Tryd.prog.info? 67 = some Tryd.t67 from Tryd.type67, show Tryd.prog.info? 68 = some Tryd.t68 from Tryd.type68]⟩) rfl rfl rfl rfl rfl rfl rfl (fun _ h => by cases h) (fun _ h => by cases h) (fun _ h => by cases h)
def ti71 : TI := ⟨false, 1, 8, .other, none, none, none⟩
theorem ti71_ok : TIok Tryd.prog 71 ti71 := TIok.none Tryd.underlying71 Tryd.type71 rfl trivial rfl rfl rfl (fun _ h => by cases h) (fun _ h => by cases h) rfl
def ti72 : TI := ⟨false, 1, 8, .other, none, none, none⟩
theorem ti72_ok : TIok Tryd.prog 72 ti72 := TIok.none Tryd.underlying72 Tryd.type72 rfl trivial rfl rfl rfl (fun _ h => by cases h) (fun _ h => by cases h) rfl
def ti73 : TI := ⟨false, 1, 8, .other, none, none, none⟩
theorem ti73_ok : TIok Tryd.prog 73 ti73 := TIok.none Tryd.underlying73 Tryd.type73 rfl trivial rfl rfl rfl (fun _ h => by cases h) (fun _ h => by cases h) rfl
def ti74 : TI := ⟨false, 1, 8, .other, none, none, none⟩
theorem ti74_ok : TIok Tryd.prog 74 ti74 := TIok.none Tryd.underlying74 Tryd.type74 rfl trivial rfl rfl rfl (fun _ h => by cases h) (fun _ h => by cases h) rfl
def ti75 : TI := ⟨false, 1, 8, .other, none, none, none⟩
theorem ti75_ok : TIok Tryd.prog 75 ti75 := TIok.none Tryd.underlying75 Tryd.type75 rfl trivial rfl rfl rfl (fun _ h => by cases h) (fun _ h => by cases h) rfl
def ti77 : TI := ⟨false, 1, 8, .other, none, none, none⟩
theorem ti77_ok : TIok Tryd.prog 77 ti77 := TIok.none Tryd.underlying77 Tryd.type77 rfl trivial rfl rfl rfl (fun _ h => by cases h) (fun _ h => by cases h) rfl
def ti78 : TI := ⟨false, 1, 8, .other, none, none, none⟩
theorem ti78_ok : TIok Tryd.prog 78 ti78 := TIok.none Tryd.underlying78 Tryd.type78 rfl trivial rfl rfl rfl (fun _ h => by cases h) (fun _ h => by cases h) rfl
def ti79 : TI := ⟨false, 1, 8, .other, none, none, none⟩
theorem ti79_ok : TIok Tryd.prog 79 ti79 := TIok.none Tryd.underlying79 Tryd.type79 rfl trivial rfl rfl rfl (fun _ h => by cases h) (fun _ h => by cases h) rfl
def ti80 : TI := ⟨false, 1, 8, .other, none, none, none⟩
theorem ti80_ok : TIok Tryd.prog 80 ti80 := TIok.none Tryd.underlying80 Tryd.type80 rfl trivial rfl rfl rfl (fun _ h => by cases h) (fun _ h => by cases h) rfl
def ti81 : TI := ⟨false, 1, 8, .other, some [.cst (.pointer none)], none, none⟩
theorem ti81_ok : TIok Tryd.prog 81 ti81 := TIok.agg Tryd.underlying81 Tryd.type81 rfl trivial rfl rfl rfl rfl rfl rfl rfl (fun _ h => by cases h) (fun _ h => by cases h) (fun _ h => by cases h)
def ti82 : TI := ⟨false, 1, 8, .other, none, none, none⟩
theorem ti82_ok : TIok Tryd.prog 82 ti82 := TIok.none Tryd.underlying82 Tryd.type82 rfl trivial rfl rfl rfl (fun _ h => by cases h) (fun _ h => by cases h) rfl
def ti83 : TI := ⟨false, 1, 8, .int .i64, some [.int .i64 0], none, none⟩
theorem ti83_ok : TIok Tryd.prog 83 ti83 := TIok.agg Tryd.underlying83 Tryd.type83 rfl rfl rfl rfl rfl rfl rfl rfl rfl (fun _ h => by cases h) (fun _ h => by cases h) (fun _ h => by cases h)
def ti85 : TI := ⟨false, 1, 8, .other, none, none, none⟩
theorem ti85_ok : TIok Tryd.prog 85 ti85 := TIok.none Tryd.underlying85 Tryd.type85 rfl trivial rfl rfl rfl (fun _ h => by cases h) (fun _ h => by cases h) rfl
def ti86 : TI := ⟨false, 1, 8, .other, some [.cst (.pointer none)], none, none⟩
theorem ti86_ok : TIok Tryd.prog 86 ti86 := TIok.agg Tryd.underlying86 Tryd.type86 rfl trivial rfl rfl rfl rfl rfl rfl rfl (fun _ h => by cases h) (fun _ h => by cases h) (fun _ h => by cases h)
def ti87 : TI := ⟨false, 1, 8, .other, none, none, none⟩
theorem ti87_ok : TIok Tryd.prog 87 ti87 := TIok.none Tryd.underlying87 Tryd.type87 rfl trivial rfl rfl rfl (fun _ h => by cases h) (fun _ h => by cases h) rfl
def ti88 : TI := ⟨false, 1, 8, .other, none, none, none⟩
theorem ti88_ok : TIok Tryd.prog 88 ti88 := TIok.none Tryd.underlying88 Tryd.type88 rfl trivial rfl rfl rfl (fun _ h => by cases h) (fun _ h => by cases h) rfl
def ti89 : TI := ⟨true, 24, 24, .array 24 5, none, none, none⟩
theorem ti89_ok : TIok Tryd.prog 89 ti89 := TIok.none Tryd.underlying89 Tryd.type89 rfl rfl rfl rfl rfl (fun _ h => by cases h) (fun _ h => by cases h) rfl
def ti90 : TI := ⟨false, 1, 8, .int .u64, some [.int .u64 0], none, none⟩
theorem ti90_ok : TIok Tryd.prog 90 ti90 := TIok.agg Tryd.underlying90 Tryd.type90 rfl rfl rfl rfl rfl rfl rfl rfl rfl (fun _ h => by cases h) (fun _ h => by cases h) (fun _ h => by cases h)
def ti91 : TI := ⟨false, 1, 8, .other, none, none, none⟩
theorem ti91_ok : TIok Tryd.prog 91 ti91 := TIok.none Tryd.underlying91 Tryd.type91 rfl trivial rfl rfl rfl (fun _ h => by cases h) (fun _ h => by cases h) rfl
def ti92 : TI := ⟨false, 1, 8, .other, none, none, none⟩
theorem ti92_ok : TIok Tryd.prog 92 ti92 := TIok.none Tryd.underlying92 Tryd.type92 rfl trivial rfl rfl rfl (fun _ h => by cases h) (fun _ h => by cases h) rfl
def ti94 : TI := ⟨false, 1, 8, .other, none, none, none⟩
theorem ti94_ok : TIok Tryd.prog 94 ti94 := TIok.none Tryd.underlying94 Tryd.type94 rfl trivial rfl rfl rfl (fun _ h => by cases h) (fun _ h => by cases h) rfl
def ti95 : TI := ⟨false, 1, 8, .other, none, none, none⟩
theorem ti95_ok : TIok Tryd.prog 95 ti95 := TIok.none Tryd.underlying95 Tryd.type95 rfl trivial rfl rfl rfl (fun _ h => by cases h) (fun _ h => by cases h) rfl
def ti97 : TI := ⟨false, 1, 8, .other, none, none, none⟩
theorem ti97_ok : TIok Tryd.prog 97 ti97 := TIok.none Tryd.underlying97 Tryd.type97 rfl trivial rfl rfl rfl (fun _ h => by cases h) (fun _ h => by cases h) rfl
def ti98 : TI := ⟨false, 1, 8, .int .u64, some [.int .u64 0], none, none⟩
theorem ti98_ok : TIok Tryd.prog 98 ti98 := TIok.agg Tryd.underlying98 Tryd.type98 rfl rfl rfl rfl rfl rfl rfl rfl rfl (fun _ h => by cases h) (fun _ h => by cases h) (fun _ h => by cases h)
def ti99 : TI := ⟨false, 1, 8, .other, none, none, none⟩
theorem ti99_ok : TIok Tryd.prog 99 ti99 := TIok.none Tryd.underlying99 Tryd.type99 rfl trivial rfl rfl rfl (fun _ h => by cases h) (fun _ h => by cases h) rfl
def ti100 : TI := ⟨true, 3, 48, .struct [(0, 9), (1, 9), (2, 60)], some [.str ⟨#[]⟩, .str ⟨#[]⟩, .cst .nilIface], none, none⟩
theorem ti100_ok : TIok Tryd.prog 100 ti100 := TIok.agg Tryd.underlying100 Tryd.type100 rfl (⟨_, rfl, rfl, by simp [show Tryd.prog.info? 9 = some Tryd.t9 from Tryd.type9, show Tryd.prog.info? 60 = some Tryd.t60 from Tryd.type60]⟩) rfl rfl rfl rfl rfl rfl rfl (fun _ h => by cases h) (fun _ h => by cases h) (fun _ h => by cases h)
def ti101 : TI := ⟨true, 3, 48, .struct [(0, 9), (1, 9), (2, 60)], some [.str ⟨#[]⟩, .str ⟨#[]⟩, .cst .nilIface], none, none⟩
theorem ti101_ok : TIok Tryd.prog 101 ti101 := TIok.agg Tryd.underlying101 Tryd.type101 rfl (⟨_, rfl, rfl, by simp [show Tryd.prog.info? 9 = some Tryd.t9 from Tryd.type9, show Tryd.prog.info? 60 = some Tryd.t60 from Tryd.type60]⟩) rfl rfl rfl rfl rfl rfl rfl (fun _ h => by cases h) (fun _ h => by cases h) (fun _ h => by cases h)
def ti102 : TI := ⟨false, 1, 8, .other, none, none, none⟩
theorem ti102_ok : TIok Tryd.prog 102 ti102 := TIok.none Tryd.underlying102 Tryd.type102 rfl trivial rfl rfl rfl (fun _ h => by cases h) (fun _ h => by cases h) rfl
def ti104 : TI := ⟨false, 1, 8, .other, none, none, none⟩
theorem ti104_ok : TIok Tryd.prog 104 ti104 := TIok.none Tryd.underlying104 Tryd.type104 rfl trivial rfl rfl rfl (fun _ h => by cases h) (fun _ h => by cases h) rfl
def ti105 : TI := ⟨false, 1, 8, .other, none, none, none⟩
theorem ti105_ok : TIok Tryd.prog 105 ti105 := TIok.none Tryd.underlying105 Tryd.type105 rfl trivial rfl rfl rfl (fun _ h => by cases h) (fun _ h => by cases h) rfl
def ti106 : TI := ⟨false, 1, 8, .other, none, none, none⟩
theorem ti106_ok : TIok Tryd.prog 106 ti106 := TIok.none Tryd.underlying106 Tryd.type106 rfl trivial rfl rfl rfl (fun _ h => by cases h) (fun _ h => by cases h) rfl
def ti107 : TI := ⟨true, 20, 160, .array 20 90, none, none, none⟩
theorem ti107_ok : TIok Tryd.prog 107 ti107 := TIok.none Tryd.underlying107 Tryd.type107 rfl rfl rfl rfl rfl (fun _ h => by cases h) (fun _ h => by cases h) rfl
def ti108 : TI := ⟨false, 1, 4, .int .u32, some [.int .u32 0], none, none⟩
theorem ti108_ok : TIok Tryd.prog 108 ti108 := TIok.agg Tryd.underlying108 Tryd.type108 rfl rfl rfl rfl rfl rfl rfl rfl rfl (fun _ h => by cases h) (fun _ h => by cases h) (fun _ h => by cases h)
def ti109 : TI := ⟨true, 65, 65, .array 65 5, none, none, none⟩
theorem ti109_ok : TIok Tryd.prog 109 ti109 := TIok.none Tryd.underlying109 Tryd.type109 rfl rfl rfl rfl rfl (fun _ h => by cases h) (fun _ h => by cases h) rfl
def ti110 : TI := ⟨false, 1, 8, .other, none, none, none⟩
theorem ti110_ok : TIok Tryd.prog 110 ti110 := TIok.none Tryd.underlying110 Tryd.type110 rfl trivial rfl rfl rfl (fun _ h => by cases h) (fun _ h => by cases h) rfl
def ti111 : TI := ⟨false, 1, 8, .other, none, none, none⟩
theorem ti111_ok : TIok Tryd.prog 111 ti111 := TIok.none Tryd.underlying111 Tryd.type111 rfl trivial rfl rfl rfl (fun _ h => by cases h) (fun _ h => by cases h) rfl
def ti112 : TI := ⟨false, 1, 8, .other, none, none, none⟩
theorem ti112_ok : TIok Tryd.prog 112 ti112 := TIok.none Tryd.underlying112 Tryd.type112 rfl trivial rfl rfl rfl (fun _ h => by cases h) (fun _ h => by cases h) rfl
def ti113 : TI := ⟨false, 1, 8, .other, some [.cst (.pointer none)], none, none⟩
theorem ti113_ok : TIok Tryd.prog 113 ti113 := TIok.agg Tryd.underlying113 Tryd.type113 rfl trivial rfl rfl rfl rfl rfl rfl rfl (fun _ h => by cases h) (fun _ h => by cases h) (fun _ h => by cases h)
def ti114 : TI := ⟨true, 1, 16, .struct [(0, 9)], some [.str ⟨#[]⟩], none, none⟩
theorem ti114_ok : TIok Tryd.prog 114 ti114 := TIok.agg Tryd.underlying114 Tryd.type114 rfl (⟨_, rfl, rfl, by simp [show Tryd.prog.info? 9 = some Tryd.t9 from Tryd.type9]⟩) rfl rfl rfl rfl rfl rfl rfl (fun _ h => by cases h) (fun _ h => by cases h) (fun _ h => by cases h)
def ti115 : TI := ⟨true, 1, 16, .struct [(0, 9)], some [.str ⟨#[]⟩], none, none⟩
theorem ti115_ok : TIok Tryd.prog 115 ti115 := TIok.agg Tryd.underlying115 Tryd.type115 rfl (⟨_, rfl, rfl, by simp [show Tryd.prog.info? 9 = some Tryd.t9 from Tryd.type9]⟩) rfl rfl rfl rfl rfl rfl rfl (fun _ h => by cases h) (fun _ h => by cases h) (fun _ h => by cases h)
def ti116 : TI := ⟨false, 1, 8, .other, none, none, none⟩
theorem ti116_ok : TIok Tryd.prog 116 ti116 := TIok.none Tryd.underlying116 Tryd.type116 rfl trivial rfl rfl rfl (fun _ h => by cases h) (fun _ h => by cases h) rfl
def ti117 : TI := ⟨true, 32, 32, .array 32 5, none, none, none⟩
theorem ti117_ok : TIok Tryd.prog 117 ti117 := TIok.none Tryd.underlying117 Tryd.type117 rfl rfl rfl rfl rfl (fun _ h => by cases h) (fun _ h => by cases h) rfl
def ti118 : TI := ⟨true, 64, 64, .array 64 5, none, none, none⟩
theorem ti118_ok : TIok Tryd.prog 118 ti118 := TIok.none Tryd.underlying118 Tryd.type118 rfl rfl rfl rfl rfl (fun _ h => by cases h) (fun _ h => by cases h) rfl
def ti119 : TI := ⟨true, 4, 40, .struct [(0, 17), (1, 17), (2, 17), (3, 9)], some [.cst (.pointer none), .cst (.pointer none), .cst (.pointer none), .str ⟨#[]⟩], none, none⟩
theorem ti119_ok : TIok Tryd.prog 119 ti119 := TIok.agg Tryd.underlying119 Tryd.type119 rfl (⟨_, rfl, rfl, by simp [show Tryd.prog.info? 9 = some Tryd.t9 from Tryd.type9, show Tryd.prog.info? 17 = some Tryd.t17 from Tryd.type17]⟩) rfl rfl rfl rfl rfl rfl rfl (fun _ h => by cases h) (fun _ h => by cases h) (fun _ h => by cases h)
def ti120 : TI := ⟨true, 4, 40, .struct [(0, 17), (1, 17), (2, 17), (3, 9)], some [.cst (.pointer none), .cst (.pointer none), .cst (.pointer none), .str ⟨#[]⟩], none, none⟩
theorem ti120_ok : TIok Tryd.prog 120 ti120 := TIok.agg Tryd.underlying120 Tryd.type120 rfl (⟨_, rfl, rfl, by simp [show Tryd.prog.info? 9 = some Tryd.t9 from Tryd.type9, show Tryd.prog.info? 17 = some Tryd.t17 from Tryd.type17]⟩) rfl rfl rfl rfl rfl rfl rfl (fun _ h => by cases h) (fun _ h => by cases h) (fun _ h => by cases h)
def ti121 : TI := ⟨true, 0, 0, .array 0 16, none, none, none⟩
theorem ti121_ok : TIok Tryd.prog 121 ti121 := TIok.none Tryd.underlying121 Tryd.type121 rfl rfl rfl rfl rfl (fun _ h => by cases h) (fun _ h => by cases h) rfl
def ti122 : TI := ⟨true, 0, 0, .struct [(0, 121)], none, none, none⟩
theorem ti122_ok : TIok Tryd.prog 122 ti122 := TIok.none Tryd.underlying122 Tryd.type122 rfl (⟨_, rfl, rfl, by simp [show Tryd.prog.info? 121 = some Tryd.t121 from Tryd.type121]⟩) rfl rfl rfl (fun _ h => by cases h) (fun _ h => by cases h) rfl
def ti123 : TI := ⟨true, 0, 0, .struct [(0, 121)], none, none, none⟩
theorem ti123_ok : TIok Tryd.prog 123 ti123 := TIok.none Tryd.underlying123 Tryd.type123 rfl (⟨_, rfl, rfl, by simp [show Tryd.prog.info? 121 = some Tryd.t121 from Tryd.type121]⟩) rfl rfl rfl (fun _ h => by cases h) (fun _ h => by cases h) rfl
def ti124 : TI := ⟨false, 1, 1, .int .u8, some [.int .u8 0], none, none⟩
theorem ti124_ok : TIok Tryd.prog 124 ti124 := TIok.agg Tryd.underlying124 Tryd.type124 rfl rfl rfl rfl rfl rfl rfl rfl rfl (fun _ h => by cases h) (fun _ h => by cases h) (fun _ h => by cases h)
def ti125 : TI := ⟨false, 1, 1, .int .u8, some [.int .u8 0], none, none⟩
theorem ti125_ok : TIok Tryd.prog 125 ti125 := TIok.agg Tryd.underlying125 Tryd.type125 rfl rfl rfl rfl rfl rfl rfl rfl rfl (fun _ h => by cases h) (fun _ h => by cases h) (fun _ h => by cases h)
def ti126 : TI := ⟨false, 1, 8, .other, none, none, none⟩
theorem ti126_ok : TIok Tryd.prog 126 ti126 := TIok.none Tryd.underlying126 Tryd.type126 rfl trivial rfl rfl rfl (fun _ h => by cases h) (fun _ h => by cases h) rfl
def ti127 : TI := ⟨false, 1, 4, .int .i32, some [.int .i32 0], none, none⟩
theorem ti127_ok : TIok Tryd.prog 127 ti127 := TIok.agg Tryd.underlying127 Tryd.type127 rfl rfl rfl rfl rfl rfl rfl rfl rfl (fun _ h => by cases h) (fun _ h => by cases h) (fun _ h => by cases h)
def ti128 : TI := ⟨false, 1, 4, .int .i32, some [.int .i32 0], none, none⟩
theorem ti128_ok : TIok Tryd.prog 128 ti128 := TIok.agg Tryd.underlying128 Tryd.type128 rfl rfl rfl rfl rfl rfl rfl rfl rfl (fun _ h => by cases h) (fun _ h => by cases h) (fun _ h => by cases h)
def ti129 : TI := ⟨true, 11, 48, .struct [(0, 12), (1, 12), (2, 108), (3, 124), (4, 5), (5, 5), (6, 125), (7, 126), (8, 81), (9, 127), (10, 128)], none, none, none⟩
theorem ti129_ok : TIok Tryd.prog 129 ti129 := TIok.none Tryd.underlying129 Tryd.type129 rfl (⟨_, rfl, rfl, by simp [show Tryd.prog.info? 5 = some Tryd.t5 from Tryd.type5, show Tryd.prog.info? 12 = some Tryd.t12 from Tryd.type12, show Tryd.prog.info? 81 = some Tryd.t81 from Tryd.type81, show Tryd.prog.info? 108 = some Tryd.t108 from Tryd.type108, show Tryd.prog.info? 124 = some Tryd.t124 from Tryd.type124, show Tryd.prog.info? 125 = some Tryd.t125 from Tryd.type125, show Tryd.prog.info? 126 = some Tryd.t126 from Tryd.type126, show Tryd.prog.info? 127 = some Tryd.t127 from Tryd.type127, show Tryd.prog.info? 128 = some Tryd.t128 from Tryd.type128]⟩) rfl rfl rfl (fun _ h => by cases h) (fun _ h => by cases h) rfl
def ti130 : TI := ⟨true, 11, 48, .struct [(0, 12), (1, 12), (2, 108), (3, 124), (4, 5), (5, 5), (6, 125), (7, 126), (8, 81), (9, 127), (10, 128)], none, none, none⟩
theorem ti130_ok : TIok Tryd.prog 130 ti130 := TIok.none Tryd.underlying130 Tryd.type130 rfl (⟨_, rfl, rfl, by simp [show Tryd.prog.info? 5 = some Tryd.t5 from Tryd.type5, show Tryd.prog.info? 12 = some Tryd.t12 from Tryd.type12, show Tryd.prog.info? 81 = some Tryd.t81 from Tryd.type81, show Tryd.prog.info? 108 = some Tryd.t108 from Tryd.type108, show Tryd.prog.info? 124 = some Tryd.t124 from Tryd.type124, show Tryd.prog.info? 125 = some Tryd.t125 from Tryd.type125, show Tryd.prog.info? 126 = some Tryd.t126 from Tryd.type126, show Tryd.prog.info? 127 = some Tryd.t127 from Tryd.type127, show Tryd.prog.info? 128 = some Tryd.t128 from Tryd.type128]⟩) rfl rfl rfl (fun _ h => by cases h) (fun _ h => by cases h) rfl
def D : TD := [(1, ti1), (2, ti2), (3, ti3), (4, ti4), (5, ti5), (6, ti6), (7, ti7), (8, ti8), (9, ti9), (10, ti10), (11, ti11), (12, ti12), (13, ti13), (14, ti14), (15, ti15), (16, ti16), (17, ti17), (18, ti18), (19, ti19), (20, ti20), (21, ti21), (22, ti22), (23, ti23), (24, ti24), (25, ti25), (26, ti26), (28, ti28), (30, ti30), (31, ti31), (32, ti32), (33, ti33), (34, ti34), (36, ti36), (37, ti37), (38, ti38), (39, ti39), (41, ti41), (42, ti42), (43, ti43), (44, ti44), (45, ti45), (46, ti46), (47, ti47), (49, ti49), (50, ti50), (51, ti51), (52, ti52), (53, ti53), (54, ti54), (56, ti56), (57, ti57), (58, ti58), (59, ti59), (60, ti60), (62, ti62), (63, ti63), (64, ti64), (65, ti65), (66, ti66), (67, ti67), (68, ti68), (69, ti69), (70, ti70), (71, ti71), (72, ti72), (73, ti73), (74, ti74), (75, ti75), (77, ti77), (78, ti78), (79, ti79), (80, ti80), (81, ti81), (82, ti82), (83, ti83), (85, ti85), (86, ti86), (87, ti87), (88, ti88), (89, ti89), (90, ti90), (91, ti91), (92, ti92), (94, ti94), (95, ti95), (97, ti97), (98, ti98), (99, ti99), (100, ti100), (101, ti101), (102, ti102), (104, ti104), (105, ti105), (106, ti106), (107, ti107), (108, ti108), (109, ti109), (110, ti110), (111, ti111), (112, ti112), (113, ti113), (114, ti114), (115, ti115), (116, ti116), (117, ti117), (118, ti118), (119, ti119), (120, ti120), (121, ti121), (122, ti122), (123, ti123), (124, ti124), (125, ti125), (126, ti126), (127, ti127), (128, ti128), (129, ti129), (130, ti130)]
theorem D_ok : TDok Tryd.prog D := by
  intro t ti h
  unfold D at h
  rw [tyOf] at h
  split at h
  · rename_i e; subst e; cases h; exact ti1_ok
  rw [tyOf] at h
  split at h
  · rename_i e; subst e; cases h; exact ti2_ok
  rw [tyOf] at h
  split at h
  · rename_i e; subst e; cases h; exact ti3_ok
  rw [tyOf] at h
  split at h
  · rename_i e; subst e; cases h; exact ti4_ok
  rw [tyOf] at h
  split at h
  · rename_i e; subst e; cases h; exact ti5_ok
  rw [tyOf] at h
  split at h
  · rename_i e; subst e; cases h; exact ti6_ok
  rw [tyOf] at h
  split at h
  · rename_i e; subst e; cases h; exact ti7_ok
  rw [tyOf] at h
  split at h
  · rename_i e; subst e; cases h; exact ti8_ok
  rw [tyOf] at h
  split at h
  · rename_i e; subst e; cases h; exact ti9_ok
  rw [tyOf] at h
  split at h
  · rename_i e; subst e; cases h; exact ti10_ok
  rw [tyOf] at h
  split at h
  · rename_i e; subst e; cases h; exact ti11_ok
  rw [tyOf] at h
  split at h
  · rename_i e; subst e; cases h; exact ti12_ok
  rw [tyOf] at h
  split at h
  · rename_i e; subst e; cases h; exact ti13_ok
  rw [tyOf] at h
  split at h
  · rename_i e; subst e; cases h; exact ti14_ok
  rw [tyOf] at h
  split at h
  · rename_i e; subst e; cases h; exact ti15_ok
  rw [tyOf] at h
  split at h
  · rename_i e; subst e; cases h; exact ti16_ok
  rw [tyOf] at h
  split at h
  · rename_i e; subst e; cases h; exact ti17_ok
  rw [tyOf] at h
  split at h
  · rename_i e; subst e; cases h; exact ti18_ok
  rw [tyOf] at h
  split at h
  · rename_i e; subst e; cases h; exact ti19_ok
  rw [tyOf] at h
  split at h
  · rename_i e; subst e; cases h; exact ti20_ok
  rw [tyOf] at h
  split at h
  · rename_i e; subst e; cases h; exact ti21_ok
  rw [tyOf] at h
  split at h
  · rename_i e; subst e; cases h; exact ti22_ok
  rw [tyOf] at h
  split at h
  · rename_i e; subst e; cases h; exact ti23_ok
  rw [tyOf] at h
  split at h
  · rename_i e; subst e; cases h; exact ti24_ok
  rw [tyOf] at h
  split at h
  · rename_i e; subst e; cases h; exact ti25_ok
  rw [tyOf] at h
  split at h
  · rename_i e; subst e; cases h; exact ti26_ok
  rw [tyOf] at h
  split at h
  · rename_i e; subst e; cases h; exact ti28_ok
  rw [tyOf] at h
  split at h
  · rename_i e; subst e; cases h; exact ti30_ok
  rw [tyOf] at h
  split at h
  · rename_i e; subst e; cases h; exact ti31_ok
  rw [tyOf] at h
  split at h
  · rename_i e; subst e; cases h; exact ti32_ok
  rw [tyOf] at h
  split at h
  · rename_i e; subst e; cases h; exact ti33_ok
  rw [tyOf] at h
  split at h
  · rename_i e; subst e; cases h; exact ti34_ok
  rw [tyOf] at h
  split at h
  · rename_i e; subst e; cases h; exact ti36_ok
  rw [tyOf] at h
  split at h
  · rename_i e; subst e; cases h; exact ti37_ok
  rw [tyOf] at h
  split at h
  · rename_i e; subst e; cases h; exact ti38_ok
  rw [tyOf] at h
  split at h
  · rename_i e; subst e; cases h; exact ti39_ok
  rw [tyOf] at h
  split at h
  · rename_i e; subst e; cases h; exact ti41_ok
  rw [tyOf] at h
  split at h
  · rename_i e; subst e; cases h; exact ti42_ok
  rw [tyOf] at h
  split at h
  · rename_i e; subst e; cases h; exact ti43_ok
  rw [tyOf] at h
  split at h
  · rename_i e; subst e; cases h; exact ti44_ok
  rw [tyOf] at h
  split at h
  · rename_i e; subst e; cases h; exact ti45_ok
  rw [tyOf] at h
  split at h
  · rename_i e; subst e; cases h; exact ti46_ok
  rw [tyOf] at h
  split at h
  · rename_i e; subst e; cases h; exact ti47_ok
  rw [tyOf] at h
  split at h
  · rename_i e; subst e; cases h; exact ti49_ok
  rw [tyOf] at h
  split at h
  · rename_i e; subst e; cases h; exact ti50_ok
  rw [tyOf] at h
  split at h
  · rename_i e; subst e; cases h; exact ti51_ok
  rw [tyOf] at h
  split at h
  · rename_i e; subst e; cases h; exact ti52_ok
  rw [tyOf] at h
  split at h
  · rename_i e; subst e; cases h; exact ti53_ok
  rw [tyOf] at h
  split at h
  · rename_i e; subst e; cases h; exact ti54_ok
  rw [tyOf] at h
  split at h
  · rename_i e; subst e; cases h; exact ti56_ok
  rw [tyOf] at h
  split at h
  · rename_i e; subst e; cases h; exact ti57_ok
  rw [tyOf] at h
  split at h
  · rename_i e; subst e; cases h; exact ti58_ok
  rw [tyOf] at h
  split at h
  · rename_i e; subst e; cases h; exact ti59_ok
  rw [tyOf] at h
  split at h
  · rename_i e; subst e; cases h; exact ti60_ok
  rw [tyOf] at h
  split at h
  · rename_i e; subst e; cases h; exact ti62_ok
  rw [tyOf] at h
  split at h
  · rename_i e; subst e; cases h; exact ti63_ok
  rw [tyOf] at h
  split at h
  · rename_i e; subst e; cases h; exact ti64_ok
  rw [tyOf] at h
  split at h
  · rename_i e; subst e; cases h; exact ti65_ok
  rw [tyOf] at h
  split at h
  · rename_i e; subst e; cases h; exact ti66_ok
  rw [tyOf] at h
  split at h
  · rename_i e; subst e; cases h; exact ti67_ok
  rw [tyOf] at h
  split at h
  · rename_i e; subst e; cases h; exact ti68_ok
  rw [tyOf] at h
  split at h
  · rename_i e; subst e; cases h; exact ti69_ok
  rw [tyOf] at h
  split at h
  · rename_i e; subst e; cases h; exact ti70_ok
  rw [tyOf] at h
  split at h
  · rename_i e; subst e; cases h; exact ti71_ok
  rw [tyOf] at h
  split at h
  · rename_i e; subst e; cases h; exact ti72_ok
  rw [tyOf] at h
  split at h
  · rename_i e; subst e; cases h; exact ti73_ok
  rw [tyOf] at h
  split at h
  · rename_i e; subst e; cases h; exact ti74_ok
  rw [tyOf] at h
  split at h
  · rename_i e; subst e; cases h; exact ti75_ok
  rw [tyOf] at h
  split at h
  · rename_i e; subst e; cases h; exact ti77_ok
  rw [tyOf] at h
  split at h
  · rename_i e; subst e; cases h; exact ti78_ok
  rw [tyOf] at h
  split at h
  · rename_i e; subst e; cases h; exact ti79_ok
  rw [tyOf] at h
  split at h
  · rename_i e; subst e; cases h; exact ti80_ok
  rw [tyOf] at h
  split at h
  · rename_i e; subst e; cases h; exact ti81_ok
  rw [tyOf] at h
  split at h
  · rename_i e; subst e; cases h; exact ti82_ok
  rw [tyOf] at h
  split at h
  · rename_i e; subst e; cases h; exact ti83_ok
  rw [tyOf] at h
  split at h
  · rename_i e; subst e; cases h; exact ti85_ok
  rw [tyOf] at h
  split at h
  · rename_i e; subst e; cases h; exact ti86_ok
  rw [tyOf] at h
  split at h
  · rename_i e; subst e; cases h; exact ti87_ok
  rw [tyOf] at h
  split at h
  · rename_i e; subst e; cases h; exact ti88_ok
  rw [tyOf] at h
  split at h
  · rename_i e; subst e; cases h; exact ti89_ok
  rw [tyOf] at h
  split at h
  · rename_i e; subst e; cases h; exact ti90_ok
  rw [tyOf] at h
  split at h
  · rename_i e; subst e; cases h; exact ti91_ok
  rw [tyOf] at h
  split at h
  · rename_i e; subst e; cases h; exact ti92_ok
  rw [tyOf] at h
  split at h
  · rename_i e; subst e; cases h; exact ti94_ok
  rw [tyOf] at h
  split at h
  · rename_i e; subst e; cases h; exact ti95_ok
  rw [tyOf] at h
  split at h
  · rename_i e; subst e; cases h; exact ti97_ok
  rw [tyOf] at h
  split at h
  · rename_i e; subst e; cases h; exact ti98_ok
  rw [tyOf] at h
  split at h
  · rename_i e; subst e; cases h; exact ti99_ok
  rw [tyOf] at h
  split at h
  · rename_i e; subst e; cases h; exact ti100_ok
  rw [tyOf] at h
  split at h
  · rename_i e; subst e; cases h; exact ti101_ok
  rw [tyOf] at h
  split at h
  · rename_i e; subst e; cases h; exact ti102_ok
  rw [tyOf] at h
  split at h
  · rename_i e; subst e; cases h; exact ti104_ok
  rw [tyOf] at h
  split at h
  · rename_i e; subst e; cases h; exact ti105_ok
  rw [tyOf] at h
  split at h
  · rename_i e; subst e; cases h; exact ti106_ok
  rw [tyOf] at h
  split at h
  · rename_i e; subst e; cases h; exact ti107_ok
  rw [tyOf] at h
  split at h
  · rename_i e; subst e; cases h; exact ti108_ok
  rw [tyOf] at h
  split at h
  · rename_i e; subst e; cases h; exact ti109_ok
  rw [tyOf] at h
  split at h
  · rename_i e; subst e; cases h; exact ti110_ok
  rw [tyOf] at h
  split at h
  · rename_i e; subst e; cases h; exact ti111_ok
  rw [tyOf] at h
  split at h
  · rename_i e; subst e; cases h; exact ti112_ok
  rw [tyOf] at h
  split at h
  · rename_i e; subst e; cases h; exact ti113_ok
  rw [tyOf] at h
  split at h
  · rename_i e; subst e; cases h; exact ti114_ok
  rw [tyOf] at h
  split at h
  · rename_i e; subst e; cases h; exact ti115_ok
  rw [tyOf] at h
  split at h
  · rename_i e; subst e; cases h; exact ti116_ok
  rw [tyOf] at h
  split at h
  · rename_i e; subst e; cases h; exact ti117_ok
  rw [tyOf] at h
  split at h
  · rename_i e; subst e; cases h; exact ti118_ok
  rw [tyOf] at h
  split at h
  · rename_i e; subst e; cases h; exact ti119_ok
  rw [tyOf] at h
  split at h
  · rename_i e; subst e; cases h; exact ti120_ok
  rw [tyOf] at h
  split at h
  · rename_i e; subst e; cases h; exact ti121_ok
  rw [tyOf] at h
  split at h
  · rename_i e; subst e; cases h; exact ti122_ok
  rw [tyOf] at h
  split at h
  · rename_i e; subst e; cases h; exact ti123_ok
  rw [tyOf] at h
  split at h
  · rename_i e; subst e; cases h; exact ti124_ok
  rw [tyOf] at h
  split at h
  · rename_i e; subst e; cases h; exact ti125_ok
  rw [tyOf] at h
  split at h
  · rename_i e; subst e; cases h; exact ti126_ok
  rw [tyOf] at h
  split at h
  · rename_i e; subst e; cases h; exact ti127_ok
  rw [tyOf] at h
  split at h
  · rename_i e; subst e; cases h; exact ti128_ok
  rw [tyOf] at h
  split at h
  · rename_i e; subst e; cases h; exact ti129_ok
  rw [tyOf] at h
  split at h
  · rename_i e; subst e; cases h; exact ti130_ok
  cases h
end Go.Proofs.YtpbkhdeehlikfaaDoor
