/- What the machine knows of the types of this seat: printed by gentd.py. -/
import Derived.Test.YtofjpelbjehddaaDoorRows
import Derived.Test.YtofjpelbjehddaaDoorA6
namespace Go.Proofs.YtofjpelbjehddaaDoor
set_option linter.unusedVariables false
set_option linter.unusedSimpArgs false
set_option linter.unusedSectionVars false
open Go.RowKit
set_option maxRecDepth 100000
def ti1 : TI := ⟨false, 1, 8, .other, none, none, none⟩
theorem ti1_ok : TIok Tryd.prog 1 ti1 := TIok.none Tryd.underlying1 Tryd.type1 rfl trivial rfl rfl rfl (fun _ h => by cases h) (fun _ h => by cases h) rfl
def ti2 : TI := ⟨false, 1, 8, .int .i64, some [.int .i64 0], none, none⟩
theorem ti2_ok : TIok Tryd.prog 2 ti2 := TIok.agg Tryd.underlying2 Tryd.type2 rfl rfl rfl rfl rfl rfl rfl rfl rfl (fun h => by first | rfl | (cases h; done)) (fun _ h => by cases h) (fun _ h => by cases h) (fun _ h => by cases h)
def ti3 : TI := ⟨false, 1, 8, .int .i64, some [.int .i64 0], some .i64, none⟩
theorem ti3_ok : TIok Tryd.prog 3 ti3 := TIok.agg Tryd.underlying3 Tryd.type3 rfl rfl rfl rfl rfl rfl rfl rfl rfl (fun h => by first | rfl | (cases h; done)) (fun e h => by cases h; exact ⟨rfl, by decide⟩) (fun e h => by cases h; rfl) (fun _ h => by cases h)
def ti4 : TI := ⟨false, 1, 1, .bool, some [.bool false], some .boo, none⟩
theorem ti4_ok : TIok Tryd.prog 4 ti4 := TIok.agg Tryd.underlying4 Tryd.type4 rfl rfl rfl rfl rfl rfl rfl rfl rfl (fun h => by first | rfl | (cases h; done)) (fun e h => by cases h; exact ⟨rfl, by decide⟩) (fun e h => by cases h; rfl) (fun _ h => by cases h)
def ti5 : TI := ⟨false, 1, 1, .int .u8, some [.int .u8 0], some .u8, none⟩
theorem ti5_ok : TIok Tryd.prog 5 ti5 := TIok.agg Tryd.underlying5 Tryd.type5 rfl rfl rfl rfl rfl rfl rfl rfl rfl (fun h => by first | rfl | (cases h; done)) (fun e h => by cases h; exact ⟨rfl, by decide⟩) (fun e h => by cases h; rfl) (fun _ h => by cases h)
def ti6 : TI := ⟨false, 1, 1, .int .u8, some [.int .u8 0], none, none⟩
theorem ti6_ok : TIok Tryd.prog 6 ti6 := TIok.agg Tryd.underlying6 Tryd.type6 rfl rfl rfl rfl rfl rfl rfl rfl rfl (fun h => by first | rfl | (cases h; done)) (fun _ h => by cases h) (fun _ h => by cases h) (fun _ h => by cases h)
def ti7 : TI := ⟨true, 4, 24, .struct [(0, 2), (1, 3), (2, 4), (3, 6)], some [.int .i64 0, .int .i64 0, .bool false, .int .u8 0], none, none⟩
theorem ti7_ok : TIok Tryd.prog 7 ti7 := TIok.agg Tryd.underlying7 Tryd.type7 rfl (⟨_, rfl, rfl, by simp [show Tryd.prog.info? 2 = some Tryd.t2 from Tryd.type2, show Tryd.prog.info? 3 = some Tryd.t3 from Tryd.type3, show Tryd.prog.info? 4 = some Tryd.t4 from Tryd.type4, show Tryd.prog.info? 6 = some Tryd.t6 from Tryd.type6]⟩) rfl rfl rfl rfl rfl rfl rfl (fun h => by first | rfl | (cases h; done)) (fun _ h => by cases h) (fun _ h => by cases h) (fun _ h => by cases h)
def ti8 : TI := ⟨true, 4, 24, .struct [(0, 2), (1, 3), (2, 4), (3, 6)], some [.int .i64 0, .int .i64 0, .bool false, .int .u8 0], none, none⟩
theorem ti8_ok : TIok Tryd.prog 8 ti8 := TIok.agg Tryd.underlying8 Tryd.type8 rfl (⟨_, rfl, rfl, by simp [show Tryd.prog.info? 2 = some Tryd.t2 from Tryd.type2, show Tryd.prog.info? 3 = some Tryd.t3 from Tryd.type3, show Tryd.prog.info? 4 = some Tryd.t4 from Tryd.type4, show Tryd.prog.info? 6 = some Tryd.t6 from Tryd.type6]⟩) rfl rfl rfl rfl rfl rfl rfl (fun h => by first | rfl | (cases h; done)) (fun _ h => by cases h) (fun _ h => by cases h) (fun _ h => by cases h)
def ti9 : TI := ⟨false, 1, 16, .string, some [.str ⟨#[]⟩], some .str, none⟩
theorem ti9_ok : TIok Tryd.prog 9 ti9 := TIok.agg Tryd.underlying9 Tryd.type9 rfl rfl rfl rfl rfl rfl rfl rfl rfl (fun h => by first | rfl | (cases h; done)) (fun e h => by cases h; exact ⟨rfl, by decide⟩) (fun e h => by cases h; rfl) (fun _ h => by cases h)
def ti10 : TI := ⟨false, 1, 16, .string, some [.str ⟨#[]⟩], none, none⟩
theorem ti10_ok : TIok Tryd.prog 10 ti10 := TIok.agg Tryd.underlying10 Tryd.type10 rfl rfl rfl rfl rfl rfl rfl rfl rfl (fun h => by first | rfl | (cases h; done)) (fun _ h => by cases h) (fun _ h => by cases h) (fun _ h => by cases h)
def ti11 : TI := ⟨false, 1, 16, .string, some [.str ⟨#[]⟩], none, none⟩
theorem ti11_ok : TIok Tryd.prog 11 ti11 := TIok.agg Tryd.underlying11 Tryd.type11 rfl rfl rfl rfl rfl rfl rfl rfl rfl (fun h => by first | rfl | (cases h; done)) (fun _ h => by cases h) (fun _ h => by cases h) (fun _ h => by cases h)
def ti12 : TI := ⟨false, 1, 8, .int .u64, some [.int .u64 0], none, none⟩
theorem ti12_ok : TIok Tryd.prog 12 ti12 := TIok.agg Tryd.underlying12 Tryd.type12 rfl rfl rfl rfl rfl rfl rfl rfl rfl (fun h => by first | rfl | (cases h; done)) (fun _ h => by cases h) (fun _ h => by cases h) (fun _ h => by cases h)
def ti13 : TI := ⟨true, 2, 24, .struct [(0, 9), (1, 12)], some [.str ⟨#[]⟩, .int .u64 0], none, none⟩
theorem ti13_ok : TIok Tryd.prog 13 ti13 := TIok.agg Tryd.underlying13 Tryd.type13 rfl (⟨_, rfl, rfl, by simp [show Tryd.prog.info? 9 = some Tryd.t9 from Tryd.type9, show Tryd.prog.info? 12 = some Tryd.t12 from Tryd.type12]⟩) rfl rfl rfl rfl rfl rfl rfl (fun h => by first | rfl | (cases h; done)) (fun _ h => by cases h) (fun _ h => by cases h) (fun _ h => by cases h)
def ti14 : TI := ⟨true, 2, 24, .struct [(0, 9), (1, 12)], some [.str ⟨#[]⟩, .int .u64 0], none, none⟩
theorem ti14_ok : TIok Tryd.prog 14 ti14 := TIok.agg Tryd.underlying14 Tryd.type14 rfl (⟨_, rfl, rfl, by simp [show Tryd.prog.info? 9 = some Tryd.t9 from Tryd.type9, show Tryd.prog.info? 12 = some Tryd.t12 from Tryd.type12]⟩) rfl rfl rfl rfl rfl rfl rfl (fun h => by first | rfl | (cases h; done)) (fun _ h => by cases h) (fun _ h => by cases h) (fun _ h => by cases h)
def ti15 : TI := ⟨false, 1, 8, .other, some [.cst (.pointer none)], none, none⟩
theorem ti15_ok : TIok Tryd.prog 15 ti15 := TIok.agg Tryd.underlying15 Tryd.type15 rfl trivial rfl rfl rfl rfl rfl rfl rfl (fun h => by first | rfl | (cases h; done)) (fun _ h => by cases h) (fun _ h => by cases h) (fun _ h => by cases h)
def ti16 : TI := ⟨false, 1, 8, .other, some [.cst (.pointer none)], none, none⟩
theorem ti16_ok : TIok Tryd.prog 16 ti16 := TIok.agg Tryd.underlying16 Tryd.type16 rfl trivial rfl rfl rfl rfl rfl rfl rfl (fun h => by first | rfl | (cases h; done)) (fun _ h => by cases h) (fun _ h => by cases h) (fun _ h => by cases h)
def ti17 : TI := ⟨false, 1, 8, .other, some [.cst (.pointer none)], none, none⟩
theorem ti17_ok : TIok Tryd.prog 17 ti17 := TIok.agg Tryd.underlying17 Tryd.type17 rfl trivial rfl rfl rfl rfl rfl rfl rfl (fun h => by first | rfl | (cases h; done)) (fun _ h => by cases h) (fun _ h => by cases h) (fun _ h => by cases h)
def ti18 : TI := ⟨true, 1, 8, .struct [(0, 17)], some [.cst (.pointer none)], none, none⟩
theorem ti18_ok : TIok Tryd.prog 18 ti18 := TIok.agg Tryd.underlying18 Tryd.type18 rfl (⟨_, rfl, rfl, by simp [show Tryd.prog.info? 17 = some Tryd.t17 from Tryd.type17]⟩) rfl rfl rfl rfl rfl rfl rfl (fun h => by first | rfl | (cases h; done)) (fun _ h => by cases h) (fun _ h => by cases h) (fun _ h => by cases h)
def ti19 : TI := ⟨true, 1, 8, .struct [(0, 17)], some [.cst (.pointer none)], none, none⟩
theorem ti19_ok : TIok Tryd.prog 19 ti19 := TIok.agg Tryd.underlying19 Tryd.type19 rfl (⟨_, rfl, rfl, by simp [show Tryd.prog.info? 17 = some Tryd.t17 from Tryd.type17]⟩) rfl rfl rfl rfl rfl rfl rfl (fun h => by first | rfl | (cases h; done)) (fun _ h => by cases h) (fun _ h => by cases h) (fun _ h => by cases h)
def ti20 : TI := ⟨false, 1, 16, .iface, some [.cst .nilIface], none, none⟩
theorem ti20_ok : TIok Tryd.prog 20 ti20 := TIok.agg Tryd.underlying20 Tryd.type20 rfl (⟨_, rfl⟩) rfl rfl rfl rfl rfl rfl rfl (fun h => by first | rfl | (cases h; done)) (fun _ h => by cases h) (fun _ h => by cases h) (fun _ h => by cases h)
def ti21 : TI := ⟨false, 1, 4, .int .i32, some [.int .i32 0], none, none⟩
theorem ti21_ok : TIok Tryd.prog 21 ti21 := TIok.agg Tryd.underlying21 Tryd.type21 rfl rfl rfl rfl rfl rfl rfl rfl rfl (fun h => by first | rfl | (cases h; done)) (fun _ h => by cases h) (fun _ h => by cases h) (fun _ h => by cases h)
def ti22 : TI := ⟨true, 3, 32, .struct [(0, 4), (1, 3), (2, 9)], some [.bool false, .int .i64 0, .str ⟨#[]⟩], none, none⟩
theorem ti22_ok : TIok Tryd.prog 22 ti22 := TIok.agg Tryd.underlying22 Tryd.type22 rfl (⟨_, rfl, rfl, by simp [show Tryd.prog.info? 3 = some Tryd.t3 from Tryd.type3, show Tryd.prog.info? 4 = some Tryd.t4 from Tryd.type4, show Tryd.prog.info? 9 = some Tryd.t9 from Tryd.type9]⟩) rfl rfl rfl rfl rfl rfl rfl (fun h => by first | rfl | (cases h; done)) (fun _ h => by cases h) (fun _ h => by cases h) (fun _ h => by cases h)
def ti23 : TI := ⟨true, 3, 32, .struct [(0, 4), (1, 3), (2, 9)], some [.bool false, .int .i64 0, .str ⟨#[]⟩], some .frm, some [1, 0, 2]⟩
theorem ti23_ok : TIok Tryd.prog 23 ti23 := TIok.agg Tryd.underlying23 Tryd.type23 rfl (⟨_, rfl, rfl, by simp [show Tryd.prog.info? 3 = some Tryd.t3 from Tryd.type3, show Tryd.prog.info? 4 = some Tryd.t4 from Tryd.type4, show Tryd.prog.info? 9 = some Tryd.t9 from Tryd.type9]⟩) rfl rfl rfl rfl rfl rfl rfl (fun h => by first | rfl | (cases h; done)) (fun e h => by cases h; exact ⟨rfl, by decide⟩) (fun e h => by cases h; rfl) (fun ks hks => by
    cases hks
    refine ⟨Tryd.eqGuardType23, rfl, fun vs us b h0 => ?_⟩
    obtain ⟨x0, r0, y0, q0, c0, rfl, rfl, h1, rfl⟩ := leaf1 h0
    obtain ⟨k1, x1, r1, y1, q1, c1, rfl, rfl, h2, rfl⟩ := leaf0 h1
    obtain ⟨x2, r2, y2, q2, c2, rfl, rfl, h3, rfl⟩ := leaf2 h2
    obtain ⟨rfl, rfl, rfl⟩ := leafN h3
    simp [eqV, eqFs, Bool.and_assoc, Tryd.underlying23, show Tryd.prog.info? 23 = some Tryd.t23 from Tryd.type23, show Tryd.t23.size = 3 from rfl, Tryd.stoodInHeld23, Tryd.underlying4, show Tryd.prog.info? 4 = some Tryd.t4 from Tryd.type4, show Tryd.t4.size = 1 from rfl, Tryd.underlying3, show Tryd.prog.info? 3 = some Tryd.t3 from Tryd.type3, show Tryd.t3.size = 1 from rfl, Tryd.underlying9, show Tryd.prog.info? 9 = some Tryd.t9 from Tryd.type9, show Tryd.t9.size = 1 from rfl])
def ti24 : TI := ⟨false, 1, 8, .other, none, none, none⟩
theorem ti24_ok : TIok Tryd.prog 24 ti24 := TIok.none Tryd.underlying24 Tryd.type24 rfl trivial rfl rfl rfl (fun _ h => by cases h) (fun _ h => by cases h) rfl
def ti25 : TI := ⟨false, 1, 8, .int .i64, some [.int .i64 0], none, none⟩
theorem ti25_ok : TIok Tryd.prog 25 ti25 := TIok.agg Tryd.underlying25 Tryd.type25 rfl rfl rfl rfl rfl rfl rfl rfl rfl (fun h => by first | rfl | (cases h; done)) (fun _ h => by cases h) (fun _ h => by cases h) (fun _ h => by cases h)
def ti27 : TI := ⟨false, 1, 8, .other, none, none, none⟩
theorem ti27_ok : TIok Tryd.prog 27 ti27 := TIok.none Tryd.underlying27 Tryd.type27 rfl trivial rfl rfl rfl (fun _ h => by cases h) (fun _ h => by cases h) rfl
def ti29 : TI := ⟨false, 1, 8, .other, none, none, none⟩
theorem ti29_ok : TIok Tryd.prog 29 ti29 := TIok.none Tryd.underlying29 Tryd.type29 rfl trivial rfl rfl rfl (fun _ h => by cases h) (fun _ h => by cases h) rfl
def ti30 : TI := ⟨false, 1, 8, .other, none, none, none⟩
theorem ti30_ok : TIok Tryd.prog 30 ti30 := TIok.none Tryd.underlying30 Tryd.type30 rfl trivial rfl rfl rfl (fun _ h => by cases h) (fun _ h => by cases h) rfl
def ti31 : TI := ⟨false, 1, 24, .slice 5, some [.nil], none, none⟩
theorem ti31_ok : TIok Tryd.prog 31 ti31 := TIok.agg Tryd.underlying31 Tryd.type31 rfl (⟨rfl, by rw [show Tryd.prog.info? 5 = some Tryd.t5 from Tryd.type5]; rfl⟩) rfl rfl rfl rfl rfl rfl rfl (fun h => by first | rfl | (cases h; done)) (fun _ h => by cases h) (fun _ h => by cases h) (fun _ h => by cases h)
def ti32 : TI := ⟨false, 1, 8, .other, none, none, none⟩
theorem ti32_ok : TIok Tryd.prog 32 ti32 := TIok.none Tryd.underlying32 Tryd.type32 rfl trivial rfl rfl rfl (fun _ h => by cases h) (fun _ h => by cases h) rfl
def ti33 : TI := ⟨false, 1, 24, .slice 9, some [.nil], none, none⟩
theorem ti33_ok : TIok Tryd.prog 33 ti33 := TIok.agg Tryd.underlying33 Tryd.type33 rfl (⟨rfl, by rw [show Tryd.prog.info? 9 = some Tryd.t9 from Tryd.type9]; rfl⟩) rfl rfl rfl rfl rfl rfl rfl (fun h => by first | rfl | (cases h; done)) (fun _ h => by cases h) (fun _ h => by cases h) (fun _ h => by cases h)
def ti34 : TI := ⟨false, 1, 24, .slice 3, some [.nil], none, none⟩
theorem ti34_ok : TIok Tryd.prog 34 ti34 := TIok.agg Tryd.underlying34 Tryd.type34 rfl (⟨rfl, by rw [show Tryd.prog.info? 3 = some Tryd.t3 from Tryd.type3]; rfl⟩) rfl rfl rfl rfl rfl rfl rfl (fun h => by first | rfl | (cases h; done)) (fun _ h => by cases h) (fun _ h => by cases h) (fun _ h => by cases h)
def ti35 : TI := ⟨true, 4, 64, .struct [(0, 3), (1, 3), (2, 33), (3, 34)], some [.int .i64 0, .int .i64 0, .nil, .nil], none, none⟩
theorem ti35_ok : TIok Tryd.prog 35 ti35 := TIok.agg Tryd.underlying35 Tryd.type35 rfl (⟨_, rfl, rfl, by simp [show Tryd.prog.info? 3 = some Tryd.t3 from Tryd.type3, show Tryd.prog.info? 33 = some Tryd.t33 from Tryd.type33, show Tryd.prog.info? 34 = some Tryd.t34 from Tryd.type34]⟩) rfl rfl rfl rfl rfl rfl rfl (fun h => by first | rfl | (cases h; done)) (fun _ h => by cases h) (fun _ h => by cases h) (fun _ h => by cases h)
def ti36 : TI := ⟨true, 4, 64, .struct [(0, 3), (1, 3), (2, 33), (3, 34)], some [.int .i64 0, .int .i64 0, .nil, .nil], none, none⟩
theorem ti36_ok : TIok Tryd.prog 36 ti36 := TIok.agg Tryd.underlying36 Tryd.type36 rfl (⟨_, rfl, rfl, by simp [show Tryd.prog.info? 3 = some Tryd.t3 from Tryd.type3, show Tryd.prog.info? 33 = some Tryd.t33 from Tryd.type33, show Tryd.prog.info? 34 = some Tryd.t34 from Tryd.type34]⟩) rfl rfl rfl rfl rfl rfl rfl (fun h => by first | rfl | (cases h; done)) (fun _ h => by cases h) (fun _ h => by cases h) (fun _ h => by cases h)
def ti38 : TI := ⟨false, 1, 8, .other, none, none, none⟩
theorem ti38_ok : TIok Tryd.prog 38 ti38 := TIok.none Tryd.underlying38 Tryd.type38 rfl trivial rfl rfl rfl (fun _ h => by cases h) (fun _ h => by cases h) rfl
def ti39 : TI := ⟨false, 1, 8, .other, none, none, none⟩
theorem ti39_ok : TIok Tryd.prog 39 ti39 := TIok.none Tryd.underlying39 Tryd.type39 rfl trivial rfl rfl rfl (fun _ h => by cases h) (fun _ h => by cases h) rfl
def ti40 : TI := ⟨false, 1, 24, .slice 23, some [.nil], none, none⟩
theorem ti40_ok : TIok Tryd.prog 40 ti40 := TIok.agg Tryd.underlying40 Tryd.type40 rfl (⟨rfl, by rw [show Tryd.prog.info? 23 = some Tryd.t23 from Tryd.type23]; rfl⟩) rfl rfl rfl rfl rfl rfl rfl (fun h => by first | rfl | (cases h; done)) (fun _ h => by cases h) (fun _ h => by cases h) (fun _ h => by cases h)
def ti42 : TI := ⟨false, 1, 8, .other, none, none, none⟩
theorem ti42_ok : TIok Tryd.prog 42 ti42 := TIok.none Tryd.underlying42 Tryd.type42 rfl trivial rfl rfl rfl (fun _ h => by cases h) (fun _ h => by cases h) rfl
def ti43 : TI := ⟨false, 1, 8, .other, none, none, none⟩
theorem ti43_ok : TIok Tryd.prog 43 ti43 := TIok.none Tryd.underlying43 Tryd.type43 rfl trivial rfl rfl rfl (fun _ h => by cases h) (fun _ h => by cases h) rfl
def ti44 : TI := ⟨false, 1, 24, .slice 4, some [.nil], none, none⟩
theorem ti44_ok : TIok Tryd.prog 44 ti44 := TIok.agg Tryd.underlying44 Tryd.type44 rfl (⟨rfl, by rw [show Tryd.prog.info? 4 = some Tryd.t4 from Tryd.type4]; rfl⟩) rfl rfl rfl rfl rfl rfl rfl (fun h => by first | rfl | (cases h; done)) (fun _ h => by cases h) (fun _ h => by cases h) (fun _ h => by cases h)
def ti45 : TI := ⟨true, 3, 56, .struct [(0, 3), (1, 44), (2, 33)], some [.int .i64 0, .nil, .nil], none, none⟩
theorem ti45_ok : TIok Tryd.prog 45 ti45 := TIok.agg Tryd.underlying45 Tryd.type45 rfl (⟨_, rfl, rfl, by simp [show Tryd.prog.info? 3 = some Tryd.t3 from Tryd.type3, show Tryd.prog.info? 33 = some Tryd.t33 from Tryd.type33, show Tryd.prog.info? 44 = some Tryd.t44 from Tryd.type44]⟩) rfl rfl rfl rfl rfl rfl rfl (fun h => by first | rfl | (cases h; done)) (fun _ h => by cases h) (fun _ h => by cases h) (fun _ h => by cases h)
def ti46 : TI := ⟨true, 3, 56, .struct [(0, 3), (1, 44), (2, 33)], some [.int .i64 0, .nil, .nil], none, none⟩
theorem ti46_ok : TIok Tryd.prog 46 ti46 := TIok.agg Tryd.underlying46 Tryd.type46 rfl (⟨_, rfl, rfl, by simp [show Tryd.prog.info? 3 = some Tryd.t3 from Tryd.type3, show Tryd.prog.info? 33 = some Tryd.t33 from Tryd.type33, show Tryd.prog.info? 44 = some Tryd.t44 from Tryd.type44]⟩) rfl rfl rfl rfl rfl rfl rfl (fun h => by first | rfl | (cases h; done)) (fun _ h => by cases h) (fun _ h => by cases h) (fun _ h => by cases h)
def ti48 : TI := ⟨false, 1, 8, .other, none, none, none⟩
theorem ti48_ok : TIok Tryd.prog 48 ti48 := TIok.none Tryd.underlying48 Tryd.type48 rfl trivial rfl rfl rfl (fun _ h => by cases h) (fun _ h => by cases h) rfl
def ti49 : TI := ⟨false, 1, 8, .other, none, none, none⟩
theorem ti49_ok : TIok Tryd.prog 49 ti49 := TIok.none Tryd.underlying49 Tryd.type49 rfl trivial rfl rfl rfl (fun _ h => by cases h) (fun _ h => by cases h) rfl
def ti50 : TI := ⟨false, 1, 8, .other, none, none, none⟩
theorem ti50_ok : TIok Tryd.prog 50 ti50 := TIok.none Tryd.underlying50 Tryd.type50 rfl trivial rfl rfl rfl (fun _ h => by cases h) (fun _ h => by cases h) rfl
def ti51 : TI := ⟨false, 1, 24, .slice 53, some [.nil], none, none⟩
theorem ti51_ok : TIok Tryd.prog 51 ti51 := TIok.agg Tryd.underlying51 Tryd.type51 rfl (⟨rfl, by rw [show Tryd.prog.info? 53 = some Tryd.t53 from Tryd.type53]; rfl⟩) rfl rfl rfl rfl rfl rfl rfl (fun h => by first | rfl | (cases h; done)) (fun _ h => by cases h) (fun _ h => by cases h) (fun _ h => by cases h)
def ti52 : TI := ⟨true, 3, 48, .struct [(0, 4), (1, 9), (2, 51)], some [.bool false, .str ⟨#[]⟩, .nil], none, none⟩
theorem ti52_ok : TIok Tryd.prog 52 ti52 := TIok.agg Tryd.underlying52 Tryd.type52 rfl (⟨_, rfl, rfl, by simp [show Tryd.prog.info? 4 = some Tryd.t4 from Tryd.type4, show Tryd.prog.info? 9 = some Tryd.t9 from Tryd.type9, show Tryd.prog.info? 51 = some Tryd.t51 from Tryd.type51]⟩) rfl rfl rfl rfl rfl rfl rfl (fun h => by first | rfl | (cases h; done)) (fun _ h => by cases h) (fun _ h => by cases h) (fun _ h => by cases h)
def ti53 : TI := ⟨true, 3, 48, .struct [(0, 4), (1, 9), (2, 51)], some [.bool false, .str ⟨#[]⟩, .nil], some .sexp, none⟩
theorem ti53_ok : TIok Tryd.prog 53 ti53 := TIok.agg Tryd.underlying53 Tryd.type53 rfl (⟨_, rfl, rfl, by simp [show Tryd.prog.info? 4 = some Tryd.t4 from Tryd.type4, show Tryd.prog.info? 9 = some Tryd.t9 from Tryd.type9, show Tryd.prog.info? 51 = some Tryd.t51 from Tryd.type51]⟩) rfl rfl rfl rfl rfl rfl rfl (fun h => by first | rfl | (cases h; done)) (fun e h => by cases h; exact ⟨rfl, by decide⟩) (fun e h => by cases h; rfl) (fun _ h => by cases h)
def ti55 : TI := ⟨false, 1, 8, .other, none, none, none⟩
theorem ti55_ok : TIok Tryd.prog 55 ti55 := TIok.none Tryd.underlying55 Tryd.type55 rfl trivial rfl rfl rfl (fun _ h => by cases h) (fun _ h => by cases h) rfl
def ti56 : TI := ⟨false, 1, 8, .other, none, none, none⟩
theorem ti56_ok : TIok Tryd.prog 56 ti56 := TIok.none Tryd.underlying56 Tryd.type56 rfl trivial rfl rfl rfl (fun _ h => by cases h) (fun _ h => by cases h) rfl
def ti57 : TI := ⟨false, 1, 8, .other, none, none, none⟩
theorem ti57_ok : TIok Tryd.prog 57 ti57 := TIok.none Tryd.underlying57 Tryd.type57 rfl trivial rfl rfl rfl (fun _ h => by cases h) (fun _ h => by cases h) rfl
def ti58 : TI := ⟨false, 1, 8, .other, none, none, none⟩
theorem ti58_ok : TIok Tryd.prog 58 ti58 := TIok.none Tryd.underlying58 Tryd.type58 rfl trivial rfl rfl rfl (fun _ h => by cases h) (fun _ h => by cases h) rfl
def ti60 : TI := ⟨false, 1, 8, .other, none, none, none⟩
theorem ti60_ok : TIok Tryd.prog 60 ti60 := TIok.none Tryd.underlying60 Tryd.type60 rfl trivial rfl rfl rfl (fun _ h => by cases h) (fun _ h => by cases h) rfl
def ti61 : TI := ⟨false, 1, 8, .other, none, none, none⟩
theorem ti61_ok : TIok Tryd.prog 61 ti61 := TIok.none Tryd.underlying61 Tryd.type61 rfl trivial rfl rfl rfl (fun _ h => by cases h) (fun _ h => by cases h) rfl
def ti62 : TI := ⟨false, 1, 8, .other, none, none, none⟩
theorem ti62_ok : TIok Tryd.prog 62 ti62 := TIok.none Tryd.underlying62 Tryd.type62 rfl trivial rfl rfl rfl (fun _ h => by cases h) (fun _ h => by cases h) rfl
def ti63 : TI := ⟨false, 1, 8, .other, none, none, none⟩
theorem ti63_ok : TIok Tryd.prog 63 ti63 := TIok.none Tryd.underlying63 Tryd.type63 rfl trivial rfl rfl rfl (fun _ h => by cases h) (fun _ h => by cases h) rfl
def ti64 : TI := ⟨false, 1, 8, .other, none, none, none⟩
theorem ti64_ok : TIok Tryd.prog 64 ti64 := TIok.none Tryd.underlying64 Tryd.type64 rfl trivial rfl rfl rfl (fun _ h => by cases h) (fun _ h => by cases h) rfl
def ti65 : TI := ⟨false, 1, 8, .other, none, none, none⟩
theorem ti65_ok : TIok Tryd.prog 65 ti65 := TIok.none Tryd.underlying65 Tryd.type65 rfl trivial rfl rfl rfl (fun _ h => by cases h) (fun _ h => by cases h) rfl
def ti66 : TI := ⟨false, 1, 8, .other, none, none, none⟩
theorem ti66_ok : TIok Tryd.prog 66 ti66 := TIok.none Tryd.underlying66 Tryd.type66 rfl trivial rfl rfl rfl (fun _ h => by cases h) (fun _ h => by cases h) rfl
def ti67 : TI := ⟨false, 1, 8, .other, none, none, none⟩
theorem ti67_ok : TIok Tryd.prog 67 ti67 := TIok.none Tryd.underlying67 Tryd.type67 rfl trivial rfl rfl rfl (fun _ h => by cases h) (fun _ h => by cases h) rfl
def ti68 : TI := ⟨false, 1, 8, .other, none, none, none⟩
theorem ti68_ok : TIok Tryd.prog 68 ti68 := TIok.none Tryd.underlying68 Tryd.type68 rfl trivial rfl rfl rfl (fun _ h => by cases h) (fun _ h => by cases h) rfl
def ti69 : TI := ⟨false, 1, 8, .other, none, none, none⟩
theorem ti69_ok : TIok Tryd.prog 69 ti69 := TIok.none Tryd.underlying69 Tryd.type69 rfl trivial rfl rfl rfl (fun _ h => by cases h) (fun _ h => by cases h) rfl
def ti70 : TI := ⟨false, 1, 8, .other, none, none, none⟩
theorem ti70_ok : TIok Tryd.prog 70 ti70 := TIok.none Tryd.underlying70 Tryd.type70 rfl trivial rfl rfl rfl (fun _ h => by cases h) (fun _ h => by cases h) rfl
def ti71 : TI := ⟨false, 1, 8, .other, none, none, none⟩
theorem ti71_ok : TIok Tryd.prog 71 ti71 := TIok.none Tryd.underlying71 Tryd.type71 rfl trivial rfl rfl rfl (fun _ h => by cases h) (fun _ h => by cases h) rfl
def ti72 : TI := ⟨false, 1, 8, .other, none, none, none⟩
theorem ti72_ok : TIok Tryd.prog 72 ti72 := TIok.none Tryd.underlying72 Tryd.type72 rfl trivial rfl rfl rfl (fun _ h => by cases h) (fun _ h => by cases h) rfl
def ti73 : TI := ⟨false, 1, 8, .other, none, none, none⟩
theorem ti73_ok : TIok Tryd.prog 73 ti73 := TIok.none Tryd.underlying73 Tryd.type73 rfl trivial rfl rfl rfl (fun _ h => by cases h) (fun _ h => by cases h) rfl
def ti74 : TI := ⟨false, 1, 8, .other, none, none, none⟩
theorem ti74_ok : TIok Tryd.prog 74 ti74 := TIok.none Tryd.underlying74 Tryd.type74 rfl trivial rfl rfl rfl (fun _ h => by cases h) (fun _ h => by cases h) rfl
def ti75 : TI := ⟨false, 1, 8, .other, some [.cst (.pointer none)], none, none⟩
theorem ti75_ok : TIok Tryd.prog 75 ti75 := TIok.agg Tryd.underlying75 Tryd.type75 rfl trivial rfl rfl rfl rfl rfl rfl rfl (fun h => by first | rfl | (cases h; done)) (fun _ h => by cases h) (fun _ h => by cases h) (fun _ h => by cases h)
def ti76 : TI := ⟨true, 2, 32, .struct [(0, 75), (1, 31)], some [.cst (.pointer none), .nil], none, none⟩
theorem ti76_ok : TIok Tryd.prog 76 ti76 := TIok.agg Tryd.underlying76 Tryd.type76 rfl (⟨_, rfl, rfl, by simp [show Tryd.prog.info? 31 = some Tryd.t31 from Tryd.type31, show Tryd.prog.info? 75 = some Tryd.t75 from Tryd.type75]⟩) rfl rfl rfl rfl rfl rfl rfl (fun h => by first | rfl | (cases h; done)) (fun _ h => by cases h) (fun _ h => by cases h) (fun _ h => by cases h)
def ti77 : TI := ⟨true, 2, 32, .struct [(0, 75), (1, 31)], some [.fp, .nil], none, none⟩
theorem ti77_ok : TIok Tryd.prog 77 ti77 := TIok.agg Tryd.underlying77 Tryd.type77 rfl (⟨_, rfl, rfl, by simp [show Tryd.prog.info? 31 = some Tryd.t31 from Tryd.type31, show Tryd.prog.info? 75 = some Tryd.t75 from Tryd.type75]⟩) rfl rfl rfl rfl rfl rfl rfl (fun h => by first | rfl | (cases h; done)) (fun _ h => by cases h) (fun _ h => by cases h) (fun _ h => by cases h)
def ti78 : TI := ⟨false, 1, 8, .other, none, none, none⟩
theorem ti78_ok : TIok Tryd.prog 78 ti78 := TIok.none Tryd.underlying78 Tryd.type78 rfl trivial rfl rfl rfl (fun _ h => by cases h) (fun _ h => by cases h) rfl
def ti79 : TI := ⟨false, 1, 8, .other, none, none, none⟩
theorem ti79_ok : TIok Tryd.prog 79 ti79 := TIok.none Tryd.underlying79 Tryd.type79 rfl trivial rfl rfl rfl (fun _ h => by cases h) (fun _ h => by cases h) rfl
def ti80 : TI := ⟨false, 1, 8, .other, none, none, none⟩
theorem ti80_ok : TIok Tryd.prog 80 ti80 := TIok.none Tryd.underlying80 Tryd.type80 rfl trivial rfl rfl rfl (fun _ h => by cases h) (fun _ h => by cases h) rfl
def ti81 : TI := ⟨false, 1, 8, .other, none, none, none⟩
theorem ti81_ok : TIok Tryd.prog 81 ti81 := TIok.none Tryd.underlying81 Tryd.type81 rfl trivial rfl rfl rfl (fun _ h => by cases h) (fun _ h => by cases h) rfl
def ti83 : TI := ⟨false, 1, 8, .other, none, none, none⟩
theorem ti83_ok : TIok Tryd.prog 83 ti83 := TIok.none Tryd.underlying83 Tryd.type83 rfl trivial rfl rfl rfl (fun _ h => by cases h) (fun _ h => by cases h) rfl
def ti84 : TI := ⟨false, 1, 16, .iface, some [.cst .nilIface], none, none⟩
theorem ti84_ok : TIok Tryd.prog 84 ti84 := TIok.agg Tryd.underlying84 Tryd.type84 rfl (⟨_, rfl⟩) rfl rfl rfl rfl rfl rfl rfl (fun h => by first | rfl | (cases h; done)) (fun _ h => by cases h) (fun _ h => by cases h) (fun _ h => by cases h)
def ti85 : TI := ⟨false, 1, 16, .iface, some [.cst .nilIface], none, none⟩
theorem ti85_ok : TIok Tryd.prog 85 ti85 := TIok.agg Tryd.underlying85 Tryd.type85 rfl (⟨_, rfl⟩) rfl rfl rfl rfl rfl rfl rfl (fun h => by first | rfl | (cases h; done)) (fun _ h => by cases h) (fun _ h => by cases h) (fun _ h => by cases h)
def ti87 : TI := ⟨false, 1, 8, .other, none, none, none⟩
theorem ti87_ok : TIok Tryd.prog 87 ti87 := TIok.none Tryd.underlying87 Tryd.type87 rfl trivial rfl rfl rfl (fun _ h => by cases h) (fun _ h => by cases h) rfl
def ti88 : TI := ⟨false, 1, 8, .other, none, none, none⟩
theorem ti88_ok : TIok Tryd.prog 88 ti88 := TIok.none Tryd.underlying88 Tryd.type88 rfl trivial rfl rfl rfl (fun _ h => by cases h) (fun _ h => by cases h) rfl
def ti89 : TI := ⟨false, 1, 8, .other, none, none, none⟩
theorem ti89_ok : TIok Tryd.prog 89 ti89 := TIok.none Tryd.underlying89 Tryd.type89 rfl trivial rfl rfl rfl (fun _ h => by cases h) (fun _ h => by cases h) rfl
def ti90 : TI := ⟨false, 1, 8, .other, none, none, none⟩
theorem ti90_ok : TIok Tryd.prog 90 ti90 := TIok.none Tryd.underlying90 Tryd.type90 rfl trivial rfl rfl rfl (fun _ h => by cases h) (fun _ h => by cases h) rfl
def ti91 : TI := ⟨false, 1, 8, .other, none, none, none⟩
theorem ti91_ok : TIok Tryd.prog 91 ti91 := TIok.none Tryd.underlying91 Tryd.type91 rfl trivial rfl rfl rfl (fun _ h => by cases h) (fun _ h => by cases h) rfl
def ti92 : TI := ⟨false, 1, 8, .other, some [.cst (.pointer none)], none, none⟩
theorem ti92_ok : TIok Tryd.prog 92 ti92 := TIok.agg Tryd.underlying92 Tryd.type92 rfl trivial rfl rfl rfl rfl rfl rfl rfl (fun h => by first | rfl | (cases h; done)) (fun _ h => by cases h) (fun _ h => by cases h) (fun _ h => by cases h)
def ti93 : TI := ⟨true, 2, 16, .struct [(0, 3), (1, 4)], some [.int .i64 0, .bool false], none, none⟩
theorem ti93_ok : TIok Tryd.prog 93 ti93 := TIok.agg Tryd.underlying93 Tryd.type93 rfl (⟨_, rfl, rfl, by simp [show Tryd.prog.info? 3 = some Tryd.t3 from Tryd.type3, show Tryd.prog.info? 4 = some Tryd.t4 from Tryd.type4]⟩) rfl rfl rfl rfl rfl rfl rfl (fun h => by first | rfl | (cases h; done)) (fun _ h => by cases h) (fun _ h => by cases h) (fun _ h => by cases h)
def ti94 : TI := ⟨true, 2, 16, .struct [(0, 3), (1, 4)], some [.int .i64 0, .bool false], none, none⟩
theorem ti94_ok : TIok Tryd.prog 94 ti94 := TIok.agg Tryd.underlying94 Tryd.type94 rfl (⟨_, rfl, rfl, by simp [show Tryd.prog.info? 3 = some Tryd.t3 from Tryd.type3, show Tryd.prog.info? 4 = some Tryd.t4 from Tryd.type4]⟩) rfl rfl rfl rfl rfl rfl rfl (fun h => by first | rfl | (cases h; done)) (fun _ h => by cases h) (fun _ h => by cases h) (fun _ h => by cases h)
def ti95 : TI := ⟨false, 1, 8, .other, none, none, none⟩
theorem ti95_ok : TIok Tryd.prog 95 ti95 := TIok.none Tryd.underlying95 Tryd.type95 rfl trivial rfl rfl rfl (fun _ h => by cases h) (fun _ h => by cases h) rfl
def ti96 : TI := ⟨false, 1, 8, .other, none, none, none⟩
theorem ti96_ok : TIok Tryd.prog 96 ti96 := TIok.none Tryd.underlying96 Tryd.type96 rfl trivial rfl rfl rfl (fun _ h => by cases h) (fun _ h => by cases h) rfl
def ti97 : TI := ⟨false, 1, 8, .other, some [.cst (.pointer none)], none, none⟩
theorem ti97_ok : TIok Tryd.prog 97 ti97 := TIok.agg Tryd.underlying97 Tryd.type97 rfl trivial rfl rfl rfl rfl rfl rfl rfl (fun h => by first | rfl | (cases h; done)) (fun _ h => by cases h) (fun _ h => by cases h) (fun _ h => by cases h)
def ti98 : TI := ⟨false, 1, 8, .other, none, none, none⟩
theorem ti98_ok : TIok Tryd.prog 98 ti98 := TIok.none Tryd.underlying98 Tryd.type98 rfl trivial rfl rfl rfl (fun _ h => by cases h) (fun _ h => by cases h) rfl
def ti99 : TI := ⟨true, 1, 8, .struct [(0, 25)], some [.int .i64 0], none, none⟩
theorem ti99_ok : TIok Tryd.prog 99 ti99 := TIok.agg Tryd.underlying99 Tryd.type99 rfl (⟨_, rfl, rfl, by simp [show Tryd.prog.info? 25 = some Tryd.t25 from Tryd.type25]⟩) rfl rfl rfl rfl rfl rfl rfl (fun h => by first | rfl | (cases h; done)) (fun _ h => by cases h) (fun _ h => by cases h) (fun _ h => by cases h)
def ti100 : TI := ⟨true, 1, 8, .struct [(0, 25)], some [.int .i64 0], none, none⟩
theorem ti100_ok : TIok Tryd.prog 100 ti100 := TIok.agg Tryd.underlying100 Tryd.type100 rfl (⟨_, rfl, rfl, by simp [show Tryd.prog.info? 25 = some Tryd.t25 from Tryd.type25]⟩) rfl rfl rfl rfl rfl rfl rfl (fun h => by first | rfl | (cases h; done)) (fun _ h => by cases h) (fun _ h => by cases h) (fun _ h => by cases h)
def ti102 : TI := ⟨false, 1, 8, .other, some [.cst (.pointer none)], none, none⟩
theorem ti102_ok : TIok Tryd.prog 102 ti102 := TIok.agg Tryd.underlying102 Tryd.type102 rfl trivial rfl rfl rfl rfl rfl rfl rfl (fun h => by first | rfl | (cases h; done)) (fun _ h => by cases h) (fun _ h => by cases h) (fun _ h => by cases h)
def ti103 : TI := ⟨true, 3, 32, .struct [(0, 9), (1, 3), (2, 3)], some [.str ⟨#[]⟩, .int .i64 0, .int .i64 0], none, none⟩
theorem ti103_ok : TIok Tryd.prog 103 ti103 := TIok.agg Tryd.underlying103 Tryd.type103 rfl (⟨_, rfl, rfl, by simp [show Tryd.prog.info? 3 = some Tryd.t3 from Tryd.type3, show Tryd.prog.info? 9 = some Tryd.t9 from Tryd.type9]⟩) rfl rfl rfl rfl rfl rfl rfl (fun h => by first | rfl | (cases h; done)) (fun _ h => by cases h) (fun _ h => by cases h) (fun _ h => by cases h)
def ti104 : TI := ⟨true, 3, 32, .struct [(0, 9), (1, 3), (2, 3)], some [.str ⟨#[]⟩, .int .i64 0, .int .i64 0], none, none⟩
theorem ti104_ok : TIok Tryd.prog 104 ti104 := TIok.agg Tryd.underlying104 Tryd.type104 rfl (⟨_, rfl, rfl, by simp [show Tryd.prog.info? 3 = some Tryd.t3 from Tryd.type3, show Tryd.prog.info? 9 = some Tryd.t9 from Tryd.type9]⟩) rfl rfl rfl rfl rfl rfl rfl (fun h => by first | rfl | (cases h; done)) (fun _ h => by cases h) (fun _ h => by cases h) (fun _ h => by cases h)
def ti105 : TI := ⟨false, 1, 8, .other, none, none, none⟩
theorem ti105_ok : TIok Tryd.prog 105 ti105 := TIok.none Tryd.underlying105 Tryd.type105 rfl trivial rfl rfl rfl (fun _ h => by cases h) (fun _ h => by cases h) rfl
def ti106 : TI := ⟨false, 1, 8, .other, none, none, none⟩
theorem ti106_ok : TIok Tryd.prog 106 ti106 := TIok.none Tryd.underlying106 Tryd.type106 rfl trivial rfl rfl rfl (fun _ h => by cases h) (fun _ h => by cases h) rfl
def ti107 : TI := ⟨false, 1, 8, .other, none, none, none⟩
theorem ti107_ok : TIok Tryd.prog 107 ti107 := TIok.none Tryd.underlying107 Tryd.type107 rfl trivial rfl rfl rfl (fun _ h => by cases h) (fun _ h => by cases h) rfl
def ti108 : TI := ⟨true, 4, 40, .struct [(0, 9), (1, 3), (2, 3), (3, 25)], some [.str ⟨#[]⟩, .int .i64 0, .int .i64 0, .int .i64 0], none, none⟩
theorem ti108_ok : TIok Tryd.prog 108 ti108 := TIok.agg Tryd.underlying108 Tryd.type108 rfl (⟨_, rfl, rfl, by simp [show Tryd.prog.info? 3 = some Tryd.t3 from Tryd.type3, show Tryd.prog.info? 9 = some Tryd.t9 from Tryd.type9, show Tryd.prog.info? 25 = some Tryd.t25 from Tryd.type25]⟩) rfl rfl rfl rfl rfl rfl rfl (fun h => by first | rfl | (cases h; done)) (fun _ h => by cases h) (fun _ h => by cases h) (fun _ h => by cases h)
def ti109 : TI := ⟨true, 4, 40, .struct [(0, 9), (1, 3), (2, 3), (3, 25)], some [.str ⟨#[]⟩, .int .i64 0, .int .i64 0, .int .i64 0], none, none⟩
theorem ti109_ok : TIok Tryd.prog 109 ti109 := TIok.agg Tryd.underlying109 Tryd.type109 rfl (⟨_, rfl, rfl, by simp [show Tryd.prog.info? 3 = some Tryd.t3 from Tryd.type3, show Tryd.prog.info? 9 = some Tryd.t9 from Tryd.type9, show Tryd.prog.info? 25 = some Tryd.t25 from Tryd.type25]⟩) rfl rfl rfl rfl rfl rfl rfl (fun h => by first | rfl | (cases h; done)) (fun _ h => by cases h) (fun _ h => by cases h) (fun _ h => by cases h)
def ti111 : TI := ⟨false, 1, 8, .other, none, none, none⟩
theorem ti111_ok : TIok Tryd.prog 111 ti111 := TIok.none Tryd.underlying111 Tryd.type111 rfl trivial rfl rfl rfl (fun _ h => by cases h) (fun _ h => by cases h) rfl
def ti112 : TI := ⟨false, 1, 8, .other, none, none, none⟩
theorem ti112_ok : TIok Tryd.prog 112 ti112 := TIok.none Tryd.underlying112 Tryd.type112 rfl trivial rfl rfl rfl (fun _ h => by cases h) (fun _ h => by cases h) rfl
def ti113 : TI := ⟨false, 1, 8, .other, none, none, none⟩
theorem ti113_ok : TIok Tryd.prog 113 ti113 := TIok.none Tryd.underlying113 Tryd.type113 rfl trivial rfl rfl rfl (fun _ h => by cases h) (fun _ h => by cases h) rfl
def ti114 : TI := ⟨false, 1, 8, .other, none, none, none⟩
theorem ti114_ok : TIok Tryd.prog 114 ti114 := TIok.none Tryd.underlying114 Tryd.type114 rfl trivial rfl rfl rfl (fun _ h => by cases h) (fun _ h => by cases h) rfl
def ti115 : TI := ⟨false, 1, 8, .int .i64, some [.int .i64 0], none, none⟩
theorem ti115_ok : TIok Tryd.prog 115 ti115 := TIok.agg Tryd.underlying115 Tryd.type115 rfl rfl rfl rfl rfl rfl rfl rfl rfl (fun h => by first | rfl | (cases h; done)) (fun _ h => by cases h) (fun _ h => by cases h) (fun _ h => by cases h)
def ti117 : TI := ⟨false, 1, 8, .other, none, none, none⟩
theorem ti117_ok : TIok Tryd.prog 117 ti117 := TIok.none Tryd.underlying117 Tryd.type117 rfl trivial rfl rfl rfl (fun _ h => by cases h) (fun _ h => by cases h) rfl
def ti118 : TI := ⟨false, 1, 8, .other, some [.cst (.pointer none)], none, none⟩
theorem ti118_ok : TIok Tryd.prog 118 ti118 := TIok.agg Tryd.underlying118 Tryd.type118 rfl trivial rfl rfl rfl rfl rfl rfl rfl (fun h => by first | rfl | (cases h; done)) (fun _ h => by cases h) (fun _ h => by cases h) (fun _ h => by cases h)
def ti119 : TI := ⟨false, 1, 8, .other, none, none, none⟩
theorem ti119_ok : TIok Tryd.prog 119 ti119 := TIok.none Tryd.underlying119 Tryd.type119 rfl trivial rfl rfl rfl (fun _ h => by cases h) (fun _ h => by cases h) rfl
def ti120 : TI := ⟨false, 1, 8, .other, none, none, none⟩
theorem ti120_ok : TIok Tryd.prog 120 ti120 := TIok.none Tryd.underlying120 Tryd.type120 rfl trivial rfl rfl rfl (fun _ h => by cases h) (fun _ h => by cases h) rfl
def ti122 : TI := ⟨false, 1, 8, .other, none, none, none⟩
theorem ti122_ok : TIok Tryd.prog 122 ti122 := TIok.none Tryd.underlying122 Tryd.type122 rfl trivial rfl rfl rfl (fun _ h => by cases h) (fun _ h => by cases h) rfl
def ti123 : TI := ⟨true, 24, 24, .array 24 5, none, none, none⟩
theorem ti123_ok : TIok Tryd.prog 123 ti123 := TIok.none Tryd.underlying123 Tryd.type123 rfl rfl rfl rfl rfl (fun _ h => by cases h) (fun _ h => by cases h) rfl
def ti124 : TI := ⟨false, 1, 8, .int .u64, some [.int .u64 0], none, none⟩
theorem ti124_ok : TIok Tryd.prog 124 ti124 := TIok.agg Tryd.underlying124 Tryd.type124 rfl rfl rfl rfl rfl rfl rfl rfl rfl (fun h => by first | rfl | (cases h; done)) (fun _ h => by cases h) (fun _ h => by cases h) (fun _ h => by cases h)
def ti125 : TI := ⟨false, 1, 8, .other, none, none, none⟩
theorem ti125_ok : TIok Tryd.prog 125 ti125 := TIok.none Tryd.underlying125 Tryd.type125 rfl trivial rfl rfl rfl (fun _ h => by cases h) (fun _ h => by cases h) rfl
def ti126 : TI := ⟨false, 1, 8, .other, none, none, none⟩
theorem ti126_ok : TIok Tryd.prog 126 ti126 := TIok.none Tryd.underlying126 Tryd.type126 rfl trivial rfl rfl rfl (fun _ h => by cases h) (fun _ h => by cases h) rfl
def ti128 : TI := ⟨false, 1, 8, .other, none, none, none⟩
theorem ti128_ok : TIok Tryd.prog 128 ti128 := TIok.none Tryd.underlying128 Tryd.type128 rfl trivial rfl rfl rfl (fun _ h => by cases h) (fun _ h => by cases h) rfl
def ti130 : TI := ⟨false, 1, 8, .other, none, none, none⟩
theorem ti130_ok : TIok Tryd.prog 130 ti130 := TIok.none Tryd.underlying130 Tryd.type130 rfl trivial rfl rfl rfl (fun _ h => by cases h) (fun _ h => by cases h) rfl
def ti131 : TI := ⟨false, 1, 8, .other, none, none, none⟩
theorem ti131_ok : TIok Tryd.prog 131 ti131 := TIok.none Tryd.underlying131 Tryd.type131 rfl trivial rfl rfl rfl (fun _ h => by cases h) (fun _ h => by cases h) rfl
def ti133 : TI := ⟨false, 1, 8, .other, none, none, none⟩
theorem ti133_ok : TIok Tryd.prog 133 ti133 := TIok.none Tryd.underlying133 Tryd.type133 rfl trivial rfl rfl rfl (fun _ h => by cases h) (fun _ h => by cases h) rfl
def ti134 : TI := ⟨false, 1, 8, .int .u64, some [.int .u64 0], none, none⟩
theorem ti134_ok : TIok Tryd.prog 134 ti134 := TIok.agg Tryd.underlying134 Tryd.type134 rfl rfl rfl rfl rfl rfl rfl rfl rfl (fun h => by first | rfl | (cases h; done)) (fun _ h => by cases h) (fun _ h => by cases h) (fun _ h => by cases h)
def ti135 : TI := ⟨false, 1, 8, .other, none, none, none⟩
theorem ti135_ok : TIok Tryd.prog 135 ti135 := TIok.none Tryd.underlying135 Tryd.type135 rfl trivial rfl rfl rfl (fun _ h => by cases h) (fun _ h => by cases h) rfl
def ti136 : TI := ⟨true, 3, 48, .struct [(0, 9), (1, 9), (2, 85)], some [.str ⟨#[]⟩, .str ⟨#[]⟩, .cst .nilIface], none, none⟩
theorem ti136_ok : TIok Tryd.prog 136 ti136 := TIok.agg Tryd.underlying136 Tryd.type136 rfl (⟨_, rfl, rfl, by simp [show Tryd.prog.info? 9 = some Tryd.t9 from Tryd.type9, show Tryd.prog.info? 85 = some Tryd.t85 from Tryd.type85]⟩) rfl rfl rfl rfl rfl rfl rfl (fun h => by first | rfl | (cases h; done)) (fun _ h => by cases h) (fun _ h => by cases h) (fun _ h => by cases h)
def ti137 : TI := ⟨true, 3, 48, .struct [(0, 9), (1, 9), (2, 85)], some [.str ⟨#[]⟩, .str ⟨#[]⟩, .cst .nilIface], none, none⟩
theorem ti137_ok : TIok Tryd.prog 137 ti137 := TIok.agg Tryd.underlying137 Tryd.type137 rfl (⟨_, rfl, rfl, by simp [show Tryd.prog.info? 9 = some Tryd.t9 from Tryd.type9, show Tryd.prog.info? 85 = some Tryd.t85 from Tryd.type85]⟩) rfl rfl rfl rfl rfl rfl rfl (fun h => by first | rfl | (cases h; done)) (fun _ h => by cases h) (fun _ h => by cases h) (fun _ h => by cases h)
def ti138 : TI := ⟨false, 1, 8, .other, none, none, none⟩
theorem ti138_ok : TIok Tryd.prog 138 ti138 := TIok.none Tryd.underlying138 Tryd.type138 rfl trivial rfl rfl rfl (fun _ h => by cases h) (fun _ h => by cases h) rfl
def ti139 : TI := ⟨false, 1, 8, .other, none, none, none⟩
theorem ti139_ok : TIok Tryd.prog 139 ti139 := TIok.none Tryd.underlying139 Tryd.type139 rfl trivial rfl rfl rfl (fun _ h => by cases h) (fun _ h => by cases h) rfl
def ti140 : TI := ⟨false, 1, 8, .other, none, none, none⟩
theorem ti140_ok : TIok Tryd.prog 140 ti140 := TIok.none Tryd.underlying140 Tryd.type140 rfl trivial rfl rfl rfl (fun _ h => by cases h) (fun _ h => by cases h) rfl
def ti141 : TI := ⟨true, 20, 160, .array 20 124, none, none, none⟩
theorem ti141_ok : TIok Tryd.prog 141 ti141 := TIok.none Tryd.underlying141 Tryd.type141 rfl rfl rfl rfl rfl (fun _ h => by cases h) (fun _ h => by cases h) rfl
def ti142 : TI := ⟨false, 1, 4, .int .u32, some [.int .u32 0], none, none⟩
theorem ti142_ok : TIok Tryd.prog 142 ti142 := TIok.agg Tryd.underlying142 Tryd.type142 rfl rfl rfl rfl rfl rfl rfl rfl rfl (fun h => by first | rfl | (cases h; done)) (fun _ h => by cases h) (fun _ h => by cases h) (fun _ h => by cases h)
def ti143 : TI := ⟨true, 65, 65, .array 65 5, none, none, none⟩
theorem ti143_ok : TIok Tryd.prog 143 ti143 := TIok.none Tryd.underlying143 Tryd.type143 rfl rfl rfl rfl rfl (fun _ h => by cases h) (fun _ h => by cases h) rfl
def ti144 : TI := ⟨false, 1, 8, .other, none, none, none⟩
theorem ti144_ok : TIok Tryd.prog 144 ti144 := TIok.none Tryd.underlying144 Tryd.type144 rfl trivial rfl rfl rfl (fun _ h => by cases h) (fun _ h => by cases h) rfl
def ti145 : TI := ⟨false, 1, 8, .other, none, none, none⟩
theorem ti145_ok : TIok Tryd.prog 145 ti145 := TIok.none Tryd.underlying145 Tryd.type145 rfl trivial rfl rfl rfl (fun _ h => by cases h) (fun _ h => by cases h) rfl
def ti146 : TI := ⟨false, 1, 8, .other, some [.cst (.pointer none)], none, none⟩
theorem ti146_ok : TIok Tryd.prog 146 ti146 := TIok.agg Tryd.underlying146 Tryd.type146 rfl trivial rfl rfl rfl rfl rfl rfl rfl (fun h => by first | rfl | (cases h; done)) (fun _ h => by cases h) (fun _ h => by cases h) (fun _ h => by cases h)
def ti147 : TI := ⟨true, 1, 16, .struct [(0, 9)], some [.str ⟨#[]⟩], none, none⟩
theorem ti147_ok : TIok Tryd.prog 147 ti147 := TIok.agg Tryd.underlying147 Tryd.type147 rfl (⟨_, rfl, rfl, by simp [show Tryd.prog.info? 9 = some Tryd.t9 from Tryd.type9]⟩) rfl rfl rfl rfl rfl rfl rfl (fun h => by first | rfl | (cases h; done)) (fun _ h => by cases h) (fun _ h => by cases h) (fun _ h => by cases h)
def ti148 : TI := ⟨true, 1, 16, .struct [(0, 9)], some [.str ⟨#[]⟩], none, none⟩
theorem ti148_ok : TIok Tryd.prog 148 ti148 := TIok.agg Tryd.underlying148 Tryd.type148 rfl (⟨_, rfl, rfl, by simp [show Tryd.prog.info? 9 = some Tryd.t9 from Tryd.type9]⟩) rfl rfl rfl rfl rfl rfl rfl (fun h => by first | rfl | (cases h; done)) (fun _ h => by cases h) (fun _ h => by cases h) (fun _ h => by cases h)
def ti149 : TI := ⟨false, 1, 8, .other, none, none, none⟩
theorem ti149_ok : TIok Tryd.prog 149 ti149 := TIok.none Tryd.underlying149 Tryd.type149 rfl trivial rfl rfl rfl (fun _ h => by cases h) (fun _ h => by cases h) rfl
def ti150 : TI := ⟨true, 32, 32, .array 32 5, none, none, none⟩
theorem ti150_ok : TIok Tryd.prog 150 ti150 := TIok.none Tryd.underlying150 Tryd.type150 rfl rfl rfl rfl rfl (fun _ h => by cases h) (fun _ h => by cases h) rfl
def ti151 : TI := ⟨true, 64, 64, .array 64 5, none, none, none⟩
theorem ti151_ok : TIok Tryd.prog 151 ti151 := TIok.none Tryd.underlying151 Tryd.type151 rfl rfl rfl rfl rfl (fun _ h => by cases h) (fun _ h => by cases h) rfl
def ti152 : TI := ⟨true, 4, 40, .struct [(0, 17), (1, 17), (2, 17), (3, 9)], some [.cst (.pointer none), .cst (.pointer none), .cst (.pointer none), .str ⟨#[]⟩], none, none⟩
theorem ti152_ok : TIok Tryd.prog 152 ti152 := TIok.agg Tryd.underlying152 Tryd.type152 rfl (⟨_, rfl, rfl, by simp [show Tryd.prog.info? 9 = some Tryd.t9 from Tryd.type9, show Tryd.prog.info? 17 = some Tryd.t17 from Tryd.type17]⟩) rfl rfl rfl rfl rfl rfl rfl (fun h => by first | rfl | (cases h; done)) (fun _ h => by cases h) (fun _ h => by cases h) (fun _ h => by cases h)
def ti153 : TI := ⟨true, 4, 40, .struct [(0, 17), (1, 17), (2, 17), (3, 9)], some [.cst (.pointer none), .cst (.pointer none), .cst (.pointer none), .str ⟨#[]⟩], none, none⟩
theorem ti153_ok : TIok Tryd.prog 153 ti153 := TIok.agg Tryd.underlying153 Tryd.type153 rfl (⟨_, rfl, rfl, by simp [show Tryd.prog.info? 9 = some Tryd.t9 from Tryd.type9, show Tryd.prog.info? 17 = some Tryd.t17 from Tryd.type17]⟩) rfl rfl rfl rfl rfl rfl rfl (fun h => by first | rfl | (cases h; done)) (fun _ h => by cases h) (fun _ h => by cases h) (fun _ h => by cases h)
def ti154 : TI := ⟨true, 0, 0, .array 0 16, none, none, none⟩
theorem ti154_ok : TIok Tryd.prog 154 ti154 := TIok.none Tryd.underlying154 Tryd.type154 rfl rfl rfl rfl rfl (fun _ h => by cases h) (fun _ h => by cases h) rfl
def ti155 : TI := ⟨true, 0, 0, .struct [(0, 154)], none, none, none⟩
theorem ti155_ok : TIok Tryd.prog 155 ti155 := TIok.none Tryd.underlying155 Tryd.type155 rfl (⟨_, rfl, rfl, by simp [show Tryd.prog.info? 154 = some Tryd.t154 from Tryd.type154]⟩) rfl rfl rfl (fun _ h => by cases h) (fun _ h => by cases h) rfl
def ti156 : TI := ⟨true, 0, 0, .struct [(0, 154)], none, none, none⟩
theorem ti156_ok : TIok Tryd.prog 156 ti156 := TIok.none Tryd.underlying156 Tryd.type156 rfl (⟨_, rfl, rfl, by simp [show Tryd.prog.info? 154 = some Tryd.t154 from Tryd.type154]⟩) rfl rfl rfl (fun _ h => by cases h) (fun _ h => by cases h) rfl
def ti157 : TI := ⟨false, 1, 1, .int .u8, some [.int .u8 0], none, none⟩
theorem ti157_ok : TIok Tryd.prog 157 ti157 := TIok.agg Tryd.underlying157 Tryd.type157 rfl rfl rfl rfl rfl rfl rfl rfl rfl (fun h => by first | rfl | (cases h; done)) (fun _ h => by cases h) (fun _ h => by cases h) (fun _ h => by cases h)
def ti158 : TI := ⟨false, 1, 1, .int .u8, some [.int .u8 0], none, none⟩
theorem ti158_ok : TIok Tryd.prog 158 ti158 := TIok.agg Tryd.underlying158 Tryd.type158 rfl rfl rfl rfl rfl rfl rfl rfl rfl (fun h => by first | rfl | (cases h; done)) (fun _ h => by cases h) (fun _ h => by cases h) (fun _ h => by cases h)
def ti159 : TI := ⟨false, 1, 8, .other, none, none, none⟩
theorem ti159_ok : TIok Tryd.prog 159 ti159 := TIok.none Tryd.underlying159 Tryd.type159 rfl trivial rfl rfl rfl (fun _ h => by cases h) (fun _ h => by cases h) rfl
def ti160 : TI := ⟨false, 1, 4, .int .i32, some [.int .i32 0], none, none⟩
theorem ti160_ok : TIok Tryd.prog 160 ti160 := TIok.agg Tryd.underlying160 Tryd.type160 rfl rfl rfl rfl rfl rfl rfl rfl rfl (fun h => by first | rfl | (cases h; done)) (fun _ h => by cases h) (fun _ h => by cases h) (fun _ h => by cases h)
def ti161 : TI := ⟨false, 1, 4, .int .i32, some [.int .i32 0], none, none⟩
theorem ti161_ok : TIok Tryd.prog 161 ti161 := TIok.agg Tryd.underlying161 Tryd.type161 rfl rfl rfl rfl rfl rfl rfl rfl rfl (fun h => by first | rfl | (cases h; done)) (fun _ h => by cases h) (fun _ h => by cases h) (fun _ h => by cases h)
def ti162 : TI := ⟨true, 11, 48, .struct [(0, 12), (1, 12), (2, 142), (3, 157), (4, 5), (5, 5), (6, 158), (7, 159), (8, 97), (9, 160), (10, 161)], none, none, none⟩
theorem ti162_ok : TIok Tryd.prog 162 ti162 := TIok.none Tryd.underlying162 Tryd.type162 rfl (⟨_, rfl, rfl, by simp [show Tryd.prog.info? 5 = some Tryd.t5 from Tryd.type5, show Tryd.prog.info? 12 = some Tryd.t12 from Tryd.type12, show Tryd.prog.info? 97 = some Tryd.t97 from Tryd.type97, show Tryd.prog.info? 142 = some Tryd.t142 from Tryd.type142, show Tryd.prog.info? 157 = some Tryd.t157 from Tryd.type157, show Tryd.prog.info? 158 = some Tryd.t158 from Tryd.type158, show Tryd.prog.info? 159 = some Tryd.t159 from Tryd.type159, show Tryd.prog.info? 160 = some Tryd.t160 from Tryd.type160, show Tryd.prog.info? 161 = some Tryd.t161 from Tryd.type161]⟩) rfl rfl rfl (fun _ h => by cases h) (fun _ h => by cases h) rfl
def ti163 : TI := ⟨true, 11, 48, .struct [(0, 12), (1, 12), (2, 142), (3, 157), (4, 5), (5, 5), (6, 158), (7, 159), (8, 97), (9, 160), (10, 161)], none, none, none⟩
theorem ti163_ok : TIok Tryd.prog 163 ti163 := TIok.none Tryd.underlying163 Tryd.type163 rfl (⟨_, rfl, rfl, by simp [show Tryd.prog.info? 5 = some Tryd.t5 from Tryd.type5, show Tryd.prog.info? 12 = some Tryd.t12 from Tryd.type12, show Tryd.prog.info? 97 = some Tryd.t97 from Tryd.type97, show Tryd.prog.info? 142 = some Tryd.t142 from Tryd.type142, show Tryd.prog.info? 157 = some Tryd.t157 from Tryd.type157, show Tryd.prog.info? 158 = some Tryd.t158 from Tryd.type158, show Tryd.prog.info? 159 = some Tryd.t159 from Tryd.type159, show Tryd.prog.info? 160 = some Tryd.t160 from Tryd.type160, show Tryd.prog.info? 161 = some Tryd.t161 from Tryd.type161]⟩) rfl rfl rfl (fun _ h => by cases h) (fun _ h => by cases h) rfl
def D : TD := [(1, ti1), (2, ti2), (3, ti3), (4, ti4), (5, ti5), (6, ti6), (7, ti7), (8, ti8), (9, ti9), (10, ti10), (11, ti11), (12, ti12), (13, ti13), (14, ti14), (15, ti15), (16, ti16), (17, ti17), (18, ti18), (19, ti19), (20, ti20), (21, ti21), (22, ti22), (23, ti23), (24, ti24), (25, ti25), (27, ti27), (29, ti29), (30, ti30), (31, ti31), (32, ti32), (33, ti33), (34, ti34), (35, ti35), (36, ti36), (38, ti38), (39, ti39), (40, ti40), (42, ti42), (43, ti43), (44, ti44), (45, ti45), (46, ti46), (48, ti48), (49, ti49), (50, ti50), (51, ti51), (52, ti52), (53, ti53), (55, ti55), (56, ti56), (57, ti57), (58, ti58), (60, ti60), (61, ti61), (62, ti62), (63, ti63), (64, ti64), (65, ti65), (66, ti66), (67, ti67), (68, ti68), (69, ti69), (70, ti70), (71, ti71), (72, ti72), (73, ti73), (74, ti74), (75, ti75), (76, ti76), (77, ti77), (78, ti78), (79, ti79), (80, ti80), (81, ti81), (83, ti83), (84, ti84), (85, ti85), (87, ti87), (88, ti88), (89, ti89), (90, ti90), (91, ti91), (92, ti92), (93, ti93), (94, ti94), (95, ti95), (96, ti96), (97, ti97), (98, ti98), (99, ti99), (100, ti100), (102, ti102), (103, ti103), (104, ti104), (105, ti105), (106, ti106), (107, ti107), (108, ti108), (109, ti109), (111, ti111), (112, ti112), (113, ti113), (114, ti114), (115, ti115), (117, ti117), (118, ti118), (119, ti119), (120, ti120), (122, ti122), (123, ti123), (124, ti124), (125, ti125), (126, ti126), (128, ti128), (130, ti130), (131, ti131), (133, ti133), (134, ti134), (135, ti135), (136, ti136), (137, ti137), (138, ti138), (139, ti139), (140, ti140), (141, ti141), (142, ti142), (143, ti143), (144, ti144), (145, ti145), (146, ti146), (147, ti147), (148, ti148), (149, ti149), (150, ti150), (151, ti151), (152, ti152), (153, ti153), (154, ti154), (155, ti155), (156, ti156), (157, ti157), (158, ti158), (159, ti159), (160, ti160), (161, ti161), (162, ti162), (163, ti163)]
theorem D_ok : TDok Tryd.prog D := by
  intro t ti h
  unfold D at h
  rw [tyOf] at h
  split at h
  · rename_i e; subst e; cases h; exact ti1_ok
  rw [tyOf] at h
  split at h
  · rename_i e; subst e; cases h; exact ti2_ok
  rw [tyOf] at h
  split at h
  · rename_i e; subst e; cases h; exact ti3_ok
  rw [tyOf] at h
  split at h
  · rename_i e; subst e; cases h; exact ti4_ok
  rw [tyOf] at h
  split at h
  · rename_i e; subst e; cases h; exact ti5_ok
  rw [tyOf] at h
  split at h
  · rename_i e; subst e; cases h; exact ti6_ok
  rw [tyOf] at h
  split at h
  · rename_i e; subst e; cases h; exact ti7_ok
  rw [tyOf] at h
  split at h
  · rename_i e; subst e; cases h; exact ti8_ok
  rw [tyOf] at h
  split at h
  · rename_i e; subst e; cases h; exact ti9_ok
  rw [tyOf] at h
  split at h
  · rename_i e; subst e; cases h; exact ti10_ok
  rw [tyOf] at h
  split at h
  · rename_i e; subst e; cases h; exact ti11_ok
  rw [tyOf] at h
  split at h
  · rename_i e; subst e; cases h; exact ti12_ok
  rw [tyOf] at h
  split at h
  · rename_i e; subst e; cases h; exact ti13_ok
  rw [tyOf] at h
  split at h
  · rename_i e; subst e; cases h; exact ti14_ok
  rw [tyOf] at h
  split at h
  · rename_i e; subst e; cases h; exact ti15_ok
  rw [tyOf] at h
  split at h
  · rename_i e; subst e; cases h; exact ti16_ok
  rw [tyOf] at h
  split at h
  · rename_i e; subst e; cases h; exact ti17_ok
  rw [tyOf] at h
  split at h
  · rename_i e; subst e; cases h; exact ti18_ok
  rw [tyOf] at h
  split at h
  · rename_i e; subst e; cases h; exact ti19_ok
  rw [tyOf] at h
  split at h
  · rename_i e; subst e; cases h; exact ti20_ok
  rw [tyOf] at h
  split at h
  · rename_i e; subst e; cases h; exact ti21_ok
  rw [tyOf] at h
  split at h
  · rename_i e; subst e; cases h; exact ti22_ok
  rw [tyOf] at h
  split at h
  · rename_i e; subst e; cases h; exact ti23_ok
  rw [tyOf] at h
  split at h
  · rename_i e; subst e; cases h; exact ti24_ok
  rw [tyOf] at h
  split at h
  · rename_i e; subst e; cases h; exact ti25_ok
  rw [tyOf] at h
  split at h
  · rename_i e; subst e; cases h; exact ti27_ok
  rw [tyOf] at h
  split at h
  · rename_i e; subst e; cases h; exact ti29_ok
  rw [tyOf] at h
  split at h
  · rename_i e; subst e; cases h; exact ti30_ok
  rw [tyOf] at h
  split at h
  · rename_i e; subst e; cases h; exact ti31_ok
  rw [tyOf] at h
  split at h
  · rename_i e; subst e; cases h; exact ti32_ok
  rw [tyOf] at h
  split at h
  · rename_i e; subst e; cases h; exact ti33_ok
  rw [tyOf] at h
  split at h
  · rename_i e; subst e; cases h; exact ti34_ok
  rw [tyOf] at h
  split at h
  · rename_i e; subst e; cases h; exact ti35_ok
  rw [tyOf] at h
  split at h
  · rename_i e; subst e; cases h; exact ti36_ok
  rw [tyOf] at h
  split at h
  · rename_i e; subst e; cases h; exact ti38_ok
  rw [tyOf] at h
  split at h
  · rename_i e; subst e; cases h; exact ti39_ok
  rw [tyOf] at h
  split at h
  · rename_i e; subst e; cases h; exact ti40_ok
  rw [tyOf] at h
  split at h
  · rename_i e; subst e; cases h; exact ti42_ok
  rw [tyOf] at h
  split at h
  · rename_i e; subst e; cases h; exact ti43_ok
  rw [tyOf] at h
  split at h
  · rename_i e; subst e; cases h; exact ti44_ok
  rw [tyOf] at h
  split at h
  · rename_i e; subst e; cases h; exact ti45_ok
  rw [tyOf] at h
  split at h
  · rename_i e; subst e; cases h; exact ti46_ok
  rw [tyOf] at h
  split at h
  · rename_i e; subst e; cases h; exact ti48_ok
  rw [tyOf] at h
  split at h
  · rename_i e; subst e; cases h; exact ti49_ok
  rw [tyOf] at h
  split at h
  · rename_i e; subst e; cases h; exact ti50_ok
  rw [tyOf] at h
  split at h
  · rename_i e; subst e; cases h; exact ti51_ok
  rw [tyOf] at h
  split at h
  · rename_i e; subst e; cases h; exact ti52_ok
  rw [tyOf] at h
  split at h
  · rename_i e; subst e; cases h; exact ti53_ok
  rw [tyOf] at h
  split at h
  · rename_i e; subst e; cases h; exact ti55_ok
  rw [tyOf] at h
  split at h
  · rename_i e; subst e; cases h; exact ti56_ok
  rw [tyOf] at h
  split at h
  · rename_i e; subst e; cases h; exact ti57_ok
  rw [tyOf] at h
  split at h
  · rename_i e; subst e; cases h; exact ti58_ok
  rw [tyOf] at h
  split at h
  · rename_i e; subst e; cases h; exact ti60_ok
  rw [tyOf] at h
  split at h
  · rename_i e; subst e; cases h; exact ti61_ok
  rw [tyOf] at h
  split at h
  · rename_i e; subst e; cases h; exact ti62_ok
  rw [tyOf] at h
  split at h
  · rename_i e; subst e; cases h; exact ti63_ok
  rw [tyOf] at h
  split at h
  · rename_i e; subst e; cases h; exact ti64_ok
  rw [tyOf] at h
  split at h
  · rename_i e; subst e; cases h; exact ti65_ok
  rw [tyOf] at h
  split at h
  · rename_i e; subst e; cases h; exact ti66_ok
  rw [tyOf] at h
  split at h
  · rename_i e; subst e; cases h; exact ti67_ok
  rw [tyOf] at h
  split at h
  · rename_i e; subst e; cases h; exact ti68_ok
  rw [tyOf] at h
  split at h
  · rename_i e; subst e; cases h; exact ti69_ok
  rw [tyOf] at h
  split at h
  · rename_i e; subst e; cases h; exact ti70_ok
  rw [tyOf] at h
  split at h
  · rename_i e; subst e; cases h; exact ti71_ok
  rw [tyOf] at h
  split at h
  · rename_i e; subst e; cases h; exact ti72_ok
  rw [tyOf] at h
  split at h
  · rename_i e; subst e; cases h; exact ti73_ok
  rw [tyOf] at h
  split at h
  · rename_i e; subst e; cases h; exact ti74_ok
  rw [tyOf] at h
  split at h
  · rename_i e; subst e; cases h; exact ti75_ok
  rw [tyOf] at h
  split at h
  · rename_i e; subst e; cases h; exact ti76_ok
  rw [tyOf] at h
  split at h
  · rename_i e; subst e; cases h; exact ti77_ok
  rw [tyOf] at h
  split at h
  · rename_i e; subst e; cases h; exact ti78_ok
  rw [tyOf] at h
  split at h
  · rename_i e; subst e; cases h; exact ti79_ok
  rw [tyOf] at h
  split at h
  · rename_i e; subst e; cases h; exact ti80_ok
  rw [tyOf] at h
  split at h
  · rename_i e; subst e; cases h; exact ti81_ok
  rw [tyOf] at h
  split at h
  · rename_i e; subst e; cases h; exact ti83_ok
  rw [tyOf] at h
  split at h
  · rename_i e; subst e; cases h; exact ti84_ok
  rw [tyOf] at h
  split at h
  · rename_i e; subst e; cases h; exact ti85_ok
  rw [tyOf] at h
  split at h
  · rename_i e; subst e; cases h; exact ti87_ok
  rw [tyOf] at h
  split at h
  · rename_i e; subst e; cases h; exact ti88_ok
  rw [tyOf] at h
  split at h
  · rename_i e; subst e; cases h; exact ti89_ok
  rw [tyOf] at h
  split at h
  · rename_i e; subst e; cases h; exact ti90_ok
  rw [tyOf] at h
  split at h
  · rename_i e; subst e; cases h; exact ti91_ok
  rw [tyOf] at h
  split at h
  · rename_i e; subst e; cases h; exact ti92_ok
  rw [tyOf] at h
  split at h
  · rename_i e; subst e; cases h; exact ti93_ok
  rw [tyOf] at h
  split at h
  · rename_i e; subst e; cases h; exact ti94_ok
  rw [tyOf] at h
  split at h
  · rename_i e; subst e; cases h; exact ti95_ok
  rw [tyOf] at h
  split at h
  · rename_i e; subst e; cases h; exact ti96_ok
  rw [tyOf] at h
  split at h
  · rename_i e; subst e; cases h; exact ti97_ok
  rw [tyOf] at h
  split at h
  · rename_i e; subst e; cases h; exact ti98_ok
  rw [tyOf] at h
  split at h
  · rename_i e; subst e; cases h; exact ti99_ok
  rw [tyOf] at h
  split at h
  · rename_i e; subst e; cases h; exact ti100_ok
  rw [tyOf] at h
  split at h
  · rename_i e; subst e; cases h; exact ti102_ok
  rw [tyOf] at h
  split at h
  · rename_i e; subst e; cases h; exact ti103_ok
  rw [tyOf] at h
  split at h
  · rename_i e; subst e; cases h; exact ti104_ok
  rw [tyOf] at h
  split at h
  · rename_i e; subst e; cases h; exact ti105_ok
  rw [tyOf] at h
  split at h
  · rename_i e; subst e; cases h; exact ti106_ok
  rw [tyOf] at h
  split at h
  · rename_i e; subst e; cases h; exact ti107_ok
  rw [tyOf] at h
  split at h
  · rename_i e; subst e; cases h; exact ti108_ok
  rw [tyOf] at h
  split at h
  · rename_i e; subst e; cases h; exact ti109_ok
  rw [tyOf] at h
  split at h
  · rename_i e; subst e; cases h; exact ti111_ok
  rw [tyOf] at h
  split at h
  · rename_i e; subst e; cases h; exact ti112_ok
  rw [tyOf] at h
  split at h
  · rename_i e; subst e; cases h; exact ti113_ok
  rw [tyOf] at h
  split at h
  · rename_i e; subst e; cases h; exact ti114_ok
  rw [tyOf] at h
  split at h
  · rename_i e; subst e; cases h; exact ti115_ok
  rw [tyOf] at h
  split at h
  · rename_i e; subst e; cases h; exact ti117_ok
  rw [tyOf] at h
  split at h
  · rename_i e; subst e; cases h; exact ti118_ok
  rw [tyOf] at h
  split at h
  · rename_i e; subst e; cases h; exact ti119_ok
  rw [tyOf] at h
  split at h
  · rename_i e; subst e; cases h; exact ti120_ok
  rw [tyOf] at h
  split at h
  · rename_i e; subst e; cases h; exact ti122_ok
  rw [tyOf] at h
  split at h
  · rename_i e; subst e; cases h; exact ti123_ok
  rw [tyOf] at h
  split at h
  · rename_i e; subst e; cases h; exact ti124_ok
  rw [tyOf] at h
  split at h
  · rename_i e; subst e; cases h; exact ti125_ok
  rw [tyOf] at h
  split at h
  · rename_i e; subst e; cases h; exact ti126_ok
  rw [tyOf] at h
  split at h
  · rename_i e; subst e; cases h; exact ti128_ok
  rw [tyOf] at h
  split at h
  · rename_i e; subst e; cases h; exact ti130_ok
  rw [tyOf] at h
  split at h
  · rename_i e; subst e; cases h; exact ti131_ok
  rw [tyOf] at h
  split at h
  · rename_i e; subst e; cases h; exact ti133_ok
  rw [tyOf] at h
  split at h
  · rename_i e; subst e; cases h; exact ti134_ok
  rw [tyOf] at h
  split at h
  · rename_i e; subst e; cases h; exact ti135_ok
  rw [tyOf] at h
  split at h
  · rename_i e; subst e; cases h; exact ti136_ok
  rw [tyOf] at h
  split at h
  · rename_i e; subst e; cases h; exact ti137_ok
  rw [tyOf] at h
  split at h
  · rename_i e; subst e; cases h; exact ti138_ok
  rw [tyOf] at h
  split at h
  · rename_i e; subst e; cases h; exact ti139_ok
  rw [tyOf] at h
  split at h
  · rename_i e; subst e; cases h; exact ti140_ok
  rw [tyOf] at h
  split at h
  · rename_i e; subst e; cases h; exact ti141_ok
  rw [tyOf] at h
  split at h
  · rename_i e; subst e; cases h; exact ti142_ok
  rw [tyOf] at h
  split at h
  · rename_i e; subst e; cases h; exact ti143_ok
  rw [tyOf] at h
  split at h
  · rename_i e; subst e; cases h; exact ti144_ok
  rw [tyOf] at h
  split at h
  · rename_i e; subst e; cases h; exact ti145_ok
  rw [tyOf] at h
  split at h
  · rename_i e; subst e; cases h; exact ti146_ok
  rw [tyOf] at h
  split at h
  · rename_i e; subst e; cases h; exact ti147_ok
  rw [tyOf] at h
  split at h
  · rename_i e; subst e; cases h; exact ti148_ok
  rw [tyOf] at h
  split at h
  · rename_i e; subst e; cases h; exact ti149_ok
  rw [tyOf] at h
  split at h
  · rename_i e; subst e; cases h; exact ti150_ok
  rw [tyOf] at h
  split at h
  · rename_i e; subst e; cases h; exact ti151_ok
  rw [tyOf] at h
  split at h
  · rename_i e; subst e; cases h; exact ti152_ok
  rw [tyOf] at h
  split at h
  · rename_i e; subst e; cases h; exact ti153_ok
  rw [tyOf] at h
  split at h
  · rename_i e; subst e; cases h; exact ti154_ok
  rw [tyOf] at h
  split at h
  · rename_i e; subst e; cases h; exact ti155_ok
  rw [tyOf] at h
  split at h
  · rename_i e; subst e; cases h; exact ti156_ok
  rw [tyOf] at h
  split at h
  · rename_i e; subst e; cases h; exact ti157_ok
  rw [tyOf] at h
  split at h
  · rename_i e; subst e; cases h; exact ti158_ok
  rw [tyOf] at h
  split at h
  · rename_i e; subst e; cases h; exact ti159_ok
  rw [tyOf] at h
  split at h
  · rename_i e; subst e; cases h; exact ti160_ok
  rw [tyOf] at h
  split at h
  · rename_i e; subst e; cases h; exact ti161_ok
  rw [tyOf] at h
  split at h
  · rename_i e; subst e; cases h; exact ti162_ok
  rw [tyOf] at h
  split at h
  · rename_i e; subst e; cases h; exact ti163_ok
  cases h
end Go.Proofs.YtofjpelbjehddaaDoor
