/- What the machine knows of the types of this seat: printed by gentd.py. -/
import Derived.Test.YtofjpelbjehddaaRows
import Derived.Test.YtofjpelbjehddaaA6
namespace Go.Proofs.Ytofjpelbjehddaa
set_option linter.unusedVariables false
set_option linter.unusedSimpArgs false
set_option linter.unusedSectionVars false
open Go.RowKit
set_option maxRecDepth 100000
def ti1 : TI := ⟨false, 1, 8, .other, none, none, none⟩
theorem ti1_ok : TIok Try.prog 1 ti1 := TIok.none Try.underlying1 Try.type1 rfl trivial rfl rfl rfl (fun _ h => by cases h) (fun _ h => by cases h) rfl
def ti2 : TI := ⟨false, 1, 8, .int .i64, some [.int .i64 0], none, none⟩
theorem ti2_ok : TIok Try.prog 2 ti2 := TIok.agg Try.underlying2 Try.type2 rfl rfl rfl rfl rfl rfl rfl rfl rfl (fun h => by first | rfl | (cases h; done)) (fun _ h => by cases h) (fun _ h => by cases h) (fun _ h => by cases h)
def ti3 : TI := ⟨false, 1, 8, .int .i64, some [.int .i64 0], some .i64, none⟩
theorem ti3_ok : TIok Try.prog 3 ti3 := TIok.agg Try.underlying3 Try.type3 rfl rfl rfl rfl rfl rfl rfl rfl rfl (fun h => by first | rfl | (cases h; done)) (fun e h => by cases h; exact ⟨rfl, by decide⟩) (fun e h => by cases h; rfl) (fun _ h => by cases h)
def ti4 : TI := ⟨false, 1, 1, .bool, some [.bool false], some .boo, none⟩
theorem ti4_ok : TIok Try.prog 4 ti4 := TIok.agg Try.underlying4 Try.type4 rfl rfl rfl rfl rfl rfl rfl rfl rfl (fun h => by first | rfl | (cases h; done)) (fun e h => by cases h; exact ⟨rfl, by decide⟩) (fun e h => by cases h; rfl) (fun _ h => by cases h)
def ti5 : TI := ⟨false, 1, 1, .int .u8, some [.int .u8 0], some .u8, none⟩
theorem ti5_ok : TIok Try.prog 5 ti5 := TIok.agg Try.underlying5 Try.type5 rfl rfl rfl rfl rfl rfl rfl rfl rfl (fun h => by first | rfl | (cases h; done)) (fun e h => by cases h; exact ⟨rfl, by decide⟩) (fun e h => by cases h; rfl) (fun _ h => by cases h)
def ti6 : TI := ⟨false, 1, 1, .int .u8, some [.int .u8 0], none, none⟩
theorem ti6_ok : TIok Try.prog 6 ti6 := TIok.agg Try.underlying6 Try.type6 rfl rfl rfl rfl rfl rfl rfl rfl rfl (fun h => by first | rfl | (cases h; done)) (fun _ h => by cases h) (fun _ h => by cases h) (fun _ h => by cases h)
def ti7 : TI := ⟨true, 4, 24, .struct [(0, 2), (1, 3), (2, 4), (3, 6)], some [.int .i64 0, .int .i64 0, .bool false, .int .u8 0], none, none⟩
theorem ti7_ok : TIok Try.prog 7 ti7 := TIok.agg Try.underlying7 Try.type7 rfl (⟨_, rfl, rfl, by simp [show Try.prog.info? 2 = some Try.t2 from Try.type2, show Try.prog.info? 3 = some Try.t3 from Try.type3, show Try.prog.info? 4 = some Try.t4 from Try.type4, show Try.prog.info? 6 = some Try.t6 from Try.type6]⟩) rfl rfl rfl rfl rfl rfl rfl (fun h => by first | rfl | (cases h; done)) (fun _ h => by cases h) (fun _ h => by cases h) (fun _ h => by cases h)
def ti8 : TI := ⟨true, 4, 24, .struct [(0, 2), (1, 3), (2, 4), (3, 6)], some [.int .i64 0, .int .i64 0, .bool false, .int .u8 0], none, none⟩
theorem ti8_ok : TIok Try.prog 8 ti8 := TIok.agg Try.underlying8 Try.type8 rfl (⟨_, rfl, rfl, by simp [show Try.prog.info? 2 = some Try.t2 from Try.type2, show Try.prog.info? 3 = some Try.t3 from Try.type3, show Try.prog.info? 4 = some Try.t4 from Try.type4, show Try.prog.info? 6 = some Try.t6 from Try.type6]⟩) rfl rfl rfl rfl rfl rfl rfl (fun h => by first | rfl | (cases h; done)) (fun _ h => by cases h) (fun _ h => by cases h) (fun _ h => by cases h)
def ti9 : TI := ⟨false, 1, 16, .string, some [.str ⟨#[]⟩], some .str, none⟩
theorem ti9_ok : TIok Try.prog 9 ti9 := TIok.agg Try.underlying9 Try.type9 rfl rfl rfl rfl rfl rfl rfl rfl rfl (fun h => by first | rfl | (cases h; done)) (fun e h => by cases h; exact ⟨rfl, by decide⟩) (fun e h => by cases h; rfl) (fun _ h => by cases h)
def ti10 : TI := ⟨false, 1, 16, .string, some [.str ⟨#[]⟩], none, none⟩
theorem ti10_ok : TIok Try.prog 10 ti10 := TIok.agg Try.underlying10 Try.type10 rfl rfl rfl rfl rfl rfl rfl rfl rfl (fun h => by first | rfl | (cases h; done)) (fun _ h => by cases h) (fun _ h => by cases h) (fun _ h => by cases h)
def ti11 : TI := ⟨false, 1, 16, .string, some [.str ⟨#[]⟩], none, none⟩
theorem ti11_ok : TIok Try.prog 11 ti11 := TIok.agg Try.underlying11 Try.type11 rfl rfl rfl rfl rfl rfl rfl rfl rfl (fun h => by first | rfl | (cases h; done)) (fun _ h => by cases h) (fun _ h => by cases h) (fun _ h => by cases h)
def ti12 : TI := ⟨false, 1, 8, .int .u64, some [.int .u64 0], none, none⟩
theorem ti12_ok : TIok Try.prog 12 ti12 := TIok.agg Try.underlying12 Try.type12 rfl rfl rfl rfl rfl rfl rfl rfl rfl (fun h => by first | rfl | (cases h; done)) (fun _ h => by cases h) (fun _ h => by cases h) (fun _ h => by cases h)
def ti13 : TI := ⟨true, 2, 24, .struct [(0, 9), (1, 12)], some [.str ⟨#[]⟩, .int .u64 0], none, none⟩
theorem ti13_ok : TIok Try.prog 13 ti13 := TIok.agg Try.underlying13 Try.type13 rfl (⟨_, rfl, rfl, by simp [show Try.prog.info? 9 = some Try.t9 from Try.type9, show Try.prog.info? 12 = some Try.t12 from Try.type12]⟩) rfl rfl rfl rfl rfl rfl rfl (fun h => by first | rfl | (cases h; done)) (fun _ h => by cases h) (fun _ h => by cases h) (fun _ h => by cases h)
def ti14 : TI := ⟨true, 2, 24, .struct [(0, 9), (1, 12)], some [.str ⟨#[]⟩, .int .u64 0], none, none⟩
theorem ti14_ok : TIok Try.prog 14 ti14 := TIok.agg Try.underlying14 Try.type14 rfl (⟨_, rfl, rfl, by simp [show Try.prog.info? 9 = some Try.t9 from Try.type9, show Try.prog.info? 12 = some Try.t12 from Try.type12]⟩) rfl rfl rfl rfl rfl rfl rfl (fun h => by first | rfl | (cases h; done)) (fun _ h => by cases h) (fun _ h => by cases h) (fun _ h => by cases h)
def ti15 : TI := ⟨false, 1, 8, .other, some [.cst (.pointer none)], none, none⟩
theorem ti15_ok : TIok Try.prog 15 ti15 := TIok.agg Try.underlying15 Try.type15 rfl trivial rfl rfl rfl rfl rfl rfl rfl (fun h => by first | rfl | (cases h; done)) (fun _ h => by cases h) (fun _ h => by cases h) (fun _ h => by cases h)
def ti16 : TI := ⟨false, 1, 8, .other, some [.cst (.pointer none)], none, none⟩
theorem ti16_ok : TIok Try.prog 16 ti16 := TIok.agg Try.underlying16 Try.type16 rfl trivial rfl rfl rfl rfl rfl rfl rfl (fun h => by first | rfl | (cases h; done)) (fun _ h => by cases h) (fun _ h => by cases h) (fun _ h => by cases h)
def ti17 : TI := ⟨false, 1, 8, .other, some [.cst (.pointer none)], none, none⟩
theorem ti17_ok : TIok Try.prog 17 ti17 := TIok.agg Try.underlying17 Try.type17 rfl trivial rfl rfl rfl rfl rfl rfl rfl (fun h => by first | rfl | (cases h; done)) (fun _ h => by cases h) (fun _ h => by cases h) (fun _ h => by cases h)
def ti18 : TI := ⟨true, 1, 8, .struct [(0, 17)], some [.cst (.pointer none)], none, none⟩
theorem ti18_ok : TIok Try.prog 18 ti18 := TIok.agg Try.underlying18 Try.type18 rfl (⟨_, rfl, rfl, by simp [show Try.prog.info? 17 = some Try.t17 from Try.type17]⟩) rfl rfl rfl rfl rfl rfl rfl (fun h => by first | rfl | (cases h; done)) (fun _ h => by cases h) (fun _ h => by cases h) (fun _ h => by cases h)
def ti19 : TI := ⟨true, 1, 8, .struct [(0, 17)], some [.cst (.pointer none)], none, none⟩
theorem ti19_ok : TIok Try.prog 19 ti19 := TIok.agg Try.underlying19 Try.type19 rfl (⟨_, rfl, rfl, by simp [show Try.prog.info? 17 = some Try.t17 from Try.type17]⟩) rfl rfl rfl rfl rfl rfl rfl (fun h => by first | rfl | (cases h; done)) (fun _ h => by cases h) (fun _ h => by cases h) (fun _ h => by cases h)
def ti20 : TI := ⟨false, 1, 16, .iface, some [.cst .nilIface], none, none⟩
theorem ti20_ok : TIok Try.prog 20 ti20 := TIok.agg Try.underlying20 Try.type20 rfl (⟨_, rfl⟩) rfl rfl rfl rfl rfl rfl rfl (fun h => by first | rfl | (cases h; done)) (fun _ h => by cases h) (fun _ h => by cases h) (fun _ h => by cases h)
def ti21 : TI := ⟨false, 1, 4, .int .i32, some [.int .i32 0], none, none⟩
theorem ti21_ok : TIok Try.prog 21 ti21 := TIok.agg Try.underlying21 Try.type21 rfl rfl rfl rfl rfl rfl rfl rfl rfl (fun h => by first | rfl | (cases h; done)) (fun _ h => by cases h) (fun _ h => by cases h) (fun _ h => by cases h)
def ti22 : TI := ⟨false, 1, 24, .slice 9, some [.nil], none, none⟩
theorem ti22_ok : TIok Try.prog 22 ti22 := TIok.agg Try.underlying22 Try.type22 rfl (⟨rfl, by rw [show Try.prog.info? 9 = some Try.t9 from Try.type9]; rfl⟩) rfl rfl rfl rfl rfl rfl rfl (fun h => by first | rfl | (cases h; done)) (fun _ h => by cases h) (fun _ h => by cases h) (fun _ h => by cases h)
def ti23 : TI := ⟨false, 1, 24, .slice 3, some [.nil], none, none⟩
theorem ti23_ok : TIok Try.prog 23 ti23 := TIok.agg Try.underlying23 Try.type23 rfl (⟨rfl, by rw [show Try.prog.info? 3 = some Try.t3 from Try.type3]; rfl⟩) rfl rfl rfl rfl rfl rfl rfl (fun h => by first | rfl | (cases h; done)) (fun _ h => by cases h) (fun _ h => by cases h) (fun _ h => by cases h)
def ti24 : TI := ⟨true, 4, 64, .struct [(0, 3), (1, 3), (2, 22), (3, 23)], some [.int .i64 0, .int .i64 0, .nil, .nil], none, none⟩
theorem ti24_ok : TIok Try.prog 24 ti24 := TIok.agg Try.underlying24 Try.type24 rfl (⟨_, rfl, rfl, by simp [show Try.prog.info? 3 = some Try.t3 from Try.type3, show Try.prog.info? 22 = some Try.t22 from Try.type22, show Try.prog.info? 23 = some Try.t23 from Try.type23]⟩) rfl rfl rfl rfl rfl rfl rfl (fun h => by first | rfl | (cases h; done)) (fun _ h => by cases h) (fun _ h => by cases h) (fun _ h => by cases h)
def ti25 : TI := ⟨true, 4, 64, .struct [(0, 3), (1, 3), (2, 22), (3, 23)], some [.int .i64 0, .int .i64 0, .nil, .nil], none, none⟩
theorem ti25_ok : TIok Try.prog 25 ti25 := TIok.agg Try.underlying25 Try.type25 rfl (⟨_, rfl, rfl, by simp [show Try.prog.info? 3 = some Try.t3 from Try.type3, show Try.prog.info? 22 = some Try.t22 from Try.type22, show Try.prog.info? 23 = some Try.t23 from Try.type23]⟩) rfl rfl rfl rfl rfl rfl rfl (fun h => by first | rfl | (cases h; done)) (fun _ h => by cases h) (fun _ h => by cases h) (fun _ h => by cases h)
def ti26 : TI := ⟨false, 1, 8, .other, none, none, none⟩
theorem ti26_ok : TIok Try.prog 26 ti26 := TIok.none Try.underlying26 Try.type26 rfl trivial rfl rfl rfl (fun _ h => by cases h) (fun _ h => by cases h) rfl
def ti27 : TI := ⟨false, 1, 8, .other, none, none, none⟩
theorem ti27_ok : TIok Try.prog 27 ti27 := TIok.none Try.underlying27 Try.type27 rfl trivial rfl rfl rfl (fun _ h => by cases h) (fun _ h => by cases h) rfl
def ti28 : TI := ⟨false, 1, 8, .int .i64, some [.int .i64 0], none, none⟩
theorem ti28_ok : TIok Try.prog 28 ti28 := TIok.agg Try.underlying28 Try.type28 rfl rfl rfl rfl rfl rfl rfl rfl rfl (fun h => by first | rfl | (cases h; done)) (fun _ h => by cases h) (fun _ h => by cases h) (fun _ h => by cases h)
def ti30 : TI := ⟨false, 1, 8, .other, none, none, none⟩
theorem ti30_ok : TIok Try.prog 30 ti30 := TIok.none Try.underlying30 Try.type30 rfl trivial rfl rfl rfl (fun _ h => by cases h) (fun _ h => by cases h) rfl
def ti31 : TI := ⟨false, 1, 8, .other, none, none, none⟩
theorem ti31_ok : TIok Try.prog 31 ti31 := TIok.none Try.underlying31 Try.type31 rfl trivial rfl rfl rfl (fun _ h => by cases h) (fun _ h => by cases h) rfl
def ti32 : TI := ⟨false, 1, 24, .slice 43, some [.nil], none, none⟩
theorem ti32_ok : TIok Try.prog 32 ti32 := TIok.agg Try.underlying32 Try.type32 rfl (⟨rfl, by rw [show Try.prog.info? 43 = some Try.t43 from Try.type43]; rfl⟩) rfl rfl rfl rfl rfl rfl rfl (fun h => by first | rfl | (cases h; done)) (fun _ h => by cases h) (fun _ h => by cases h) (fun _ h => by cases h)
def ti34 : TI := ⟨false, 1, 8, .other, none, none, none⟩
theorem ti34_ok : TIok Try.prog 34 ti34 := TIok.none Try.underlying34 Try.type34 rfl trivial rfl rfl rfl (fun _ h => by cases h) (fun _ h => by cases h) rfl
def ti35 : TI := ⟨false, 1, 8, .other, none, none, none⟩
theorem ti35_ok : TIok Try.prog 35 ti35 := TIok.none Try.underlying35 Try.type35 rfl trivial rfl rfl rfl (fun _ h => by cases h) (fun _ h => by cases h) rfl
def ti36 : TI := ⟨false, 1, 8, .other, none, none, none⟩
theorem ti36_ok : TIok Try.prog 36 ti36 := TIok.none Try.underlying36 Try.type36 rfl trivial rfl rfl rfl (fun _ h => by cases h) (fun _ h => by cases h) rfl
def ti37 : TI := ⟨false, 1, 8, .other, none, none, none⟩
theorem ti37_ok : TIok Try.prog 37 ti37 := TIok.none Try.underlying37 Try.type37 rfl trivial rfl rfl rfl (fun _ h => by cases h) (fun _ h => by cases h) rfl
def ti38 : TI := ⟨false, 1, 8, .other, none, none, none⟩
theorem ti38_ok : TIok Try.prog 38 ti38 := TIok.none Try.underlying38 Try.type38 rfl trivial rfl rfl rfl (fun _ h => by cases h) (fun _ h => by cases h) rfl
def ti39 : TI := ⟨false, 1, 24, .slice 4, some [.nil], none, none⟩
theorem ti39_ok : TIok Try.prog 39 ti39 := TIok.agg Try.underlying39 Try.type39 rfl (⟨rfl, by rw [show Try.prog.info? 4 = some Try.t4 from Try.type4]; rfl⟩) rfl rfl rfl rfl rfl rfl rfl (fun h => by first | rfl | (cases h; done)) (fun _ h => by cases h) (fun _ h => by cases h) (fun _ h => by cases h)
def ti40 : TI := ⟨true, 3, 56, .struct [(0, 3), (1, 39), (2, 22)], some [.int .i64 0, .nil, .nil], none, none⟩
theorem ti40_ok : TIok Try.prog 40 ti40 := TIok.agg Try.underlying40 Try.type40 rfl (⟨_, rfl, rfl, by simp [show Try.prog.info? 3 = some Try.t3 from Try.type3, show Try.prog.info? 22 = some Try.t22 from Try.type22, show Try.prog.info? 39 = some Try.t39 from Try.type39]⟩) rfl rfl rfl rfl rfl rfl rfl (fun h => by first | rfl | (cases h; done)) (fun _ h => by cases h) (fun _ h => by cases h) (fun _ h => by cases h)
def ti41 : TI := ⟨true, 3, 56, .struct [(0, 3), (1, 39), (2, 22)], some [.int .i64 0, .nil, .nil], none, none⟩
theorem ti41_ok : TIok Try.prog 41 ti41 := TIok.agg Try.underlying41 Try.type41 rfl (⟨_, rfl, rfl, by simp [show Try.prog.info? 3 = some Try.t3 from Try.type3, show Try.prog.info? 22 = some Try.t22 from Try.type22, show Try.prog.info? 39 = some Try.t39 from Try.type39]⟩) rfl rfl rfl rfl rfl rfl rfl (fun h => by first | rfl | (cases h; done)) (fun _ h => by cases h) (fun _ h => by cases h) (fun _ h => by cases h)
def ti42 : TI := ⟨true, 3, 32, .struct [(0, 4), (1, 3), (2, 9)], some [.bool false, .int .i64 0, .str ⟨#[]⟩], none, none⟩
theorem ti42_ok : TIok Try.prog 42 ti42 := TIok.agg Try.underlying42 Try.type42 rfl (⟨_, rfl, rfl, by simp [show Try.prog.info? 3 = some Try.t3 from Try.type3, show Try.prog.info? 4 = some Try.t4 from Try.type4, show Try.prog.info? 9 = some Try.t9 from Try.type9]⟩) rfl rfl rfl rfl rfl rfl rfl (fun h => by first | rfl | (cases h; done)) (fun _ h => by cases h) (fun _ h => by cases h) (fun _ h => by cases h)
def ti43 : TI := ⟨true, 3, 32, .struct [(0, 4), (1, 3), (2, 9)], some [.bool false, .int .i64 0, .str ⟨#[]⟩], some .frm, some [1, 0, 2]⟩
theorem ti43_ok : TIok Try.prog 43 ti43 := TIok.agg Try.underlying43 Try.type43 rfl (⟨_, rfl, rfl, by simp [show Try.prog.info? 3 = some Try.t3 from Try.type3, show Try.prog.info? 4 = some Try.t4 from Try.type4, show Try.prog.info? 9 = some Try.t9 from Try.type9]⟩) rfl rfl rfl rfl rfl rfl rfl (fun h => by first | rfl | (cases h; done)) (fun e h => by cases h; exact ⟨rfl, by decide⟩) (fun e h => by cases h; rfl) (fun ks hks => by
    cases hks
    refine ⟨Try.eqGuardType43, rfl, fun vs us b h0 => ?_⟩
    obtain ⟨x0, r0, y0, q0, c0, rfl, rfl, h1, rfl⟩ := leaf1 h0
    obtain ⟨k1, x1, r1, y1, q1, c1, rfl, rfl, h2, rfl⟩ := leaf0 h1
    obtain ⟨x2, r2, y2, q2, c2, rfl, rfl, h3, rfl⟩ := leaf2 h2
    obtain ⟨rfl, rfl, rfl⟩ := leafN h3
    simp [eqV, eqFs, Bool.and_assoc, Try.underlying43, show Try.prog.info? 43 = some Try.t43 from Try.type43, show Try.t43.size = 3 from rfl, Try.stoodInHeld43, Try.underlying4, show Try.prog.info? 4 = some Try.t4 from Try.type4, show Try.t4.size = 1 from rfl, Try.underlying3, show Try.prog.info? 3 = some Try.t3 from Try.type3, show Try.t3.size = 1 from rfl, Try.underlying9, show Try.prog.info? 9 = some Try.t9 from Try.type9, show Try.t9.size = 1 from rfl])
def ti44 : TI := ⟨false, 1, 8, .other, none, none, none⟩
theorem ti44_ok : TIok Try.prog 44 ti44 := TIok.none Try.underlying44 Try.type44 rfl trivial rfl rfl rfl (fun _ h => by cases h) (fun _ h => by cases h) rfl
def ti45 : TI := ⟨false, 1, 8, .other, none, none, none⟩
theorem ti45_ok : TIok Try.prog 45 ti45 := TIok.none Try.underlying45 Try.type45 rfl trivial rfl rfl rfl (fun _ h => by cases h) (fun _ h => by cases h) rfl
def ti47 : TI := ⟨false, 1, 8, .other, none, none, none⟩
theorem ti47_ok : TIok Try.prog 47 ti47 := TIok.none Try.underlying47 Try.type47 rfl trivial rfl rfl rfl (fun _ h => by cases h) (fun _ h => by cases h) rfl
def ti48 : TI := ⟨false, 1, 8, .other, none, none, none⟩
theorem ti48_ok : TIok Try.prog 48 ti48 := TIok.none Try.underlying48 Try.type48 rfl trivial rfl rfl rfl (fun _ h => by cases h) (fun _ h => by cases h) rfl
def ti49 : TI := ⟨false, 1, 8, .other, none, none, none⟩
theorem ti49_ok : TIok Try.prog 49 ti49 := TIok.none Try.underlying49 Try.type49 rfl trivial rfl rfl rfl (fun _ h => by cases h) (fun _ h => by cases h) rfl
def ti50 : TI := ⟨false, 1, 8, .other, none, none, none⟩
theorem ti50_ok : TIok Try.prog 50 ti50 := TIok.none Try.underlying50 Try.type50 rfl trivial rfl rfl rfl (fun _ h => by cases h) (fun _ h => by cases h) rfl
def ti51 : TI := ⟨false, 1, 8, .map 3 4, none, none, none⟩
theorem ti51_ok : TIok Try.prog 51 ti51 := TIok.none Try.underlying51 Try.type51 rfl rfl rfl rfl rfl (fun _ h => by cases h) (fun _ h => by cases h) rfl
def ti52 : TI := ⟨false, 1, 8, .other, none, none, none⟩
theorem ti52_ok : TIok Try.prog 52 ti52 := TIok.none Try.underlying52 Try.type52 rfl trivial rfl rfl rfl (fun _ h => by cases h) (fun _ h => by cases h) rfl
def ti53 : TI := ⟨false, 1, 24, .slice 5, some [.nil], none, none⟩
theorem ti53_ok : TIok Try.prog 53 ti53 := TIok.agg Try.underlying53 Try.type53 rfl (⟨rfl, by rw [show Try.prog.info? 5 = some Try.t5 from Try.type5]; rfl⟩) rfl rfl rfl rfl rfl rfl rfl (fun h => by first | rfl | (cases h; done)) (fun _ h => by cases h) (fun _ h => by cases h) (fun _ h => by cases h)
def ti54 : TI := ⟨false, 1, 8, .other, none, none, none⟩
theorem ti54_ok : TIok Try.prog 54 ti54 := TIok.none Try.underlying54 Try.type54 rfl trivial rfl rfl rfl (fun _ h => by cases h) (fun _ h => by cases h) rfl
def ti55 : TI := ⟨false, 1, 8, .other, none, none, none⟩
theorem ti55_ok : TIok Try.prog 55 ti55 := TIok.none Try.underlying55 Try.type55 rfl trivial rfl rfl rfl (fun _ h => by cases h) (fun _ h => by cases h) rfl
def ti56 : TI := ⟨false, 1, 8, .other, none, none, none⟩
theorem ti56_ok : TIok Try.prog 56 ti56 := TIok.none Try.underlying56 Try.type56 rfl trivial rfl rfl rfl (fun _ h => by cases h) (fun _ h => by cases h) rfl
def ti57 : TI := ⟨false, 1, 24, .slice 59, some [.nil], none, none⟩
theorem ti57_ok : TIok Try.prog 57 ti57 := TIok.agg Try.underlying57 Try.type57 rfl (⟨rfl, by rw [show Try.prog.info? 59 = some Try.t59 from Try.type59]; rfl⟩) rfl rfl rfl rfl rfl rfl rfl (fun h => by first | rfl | (cases h; done)) (fun _ h => by cases h) (fun _ h => by cases h) (fun _ h => by cases h)
def ti58 : TI := ⟨true, 3, 32, .struct [(0, 3), (1, 9), (2, 5)], some [.int .i64 0, .str ⟨#[]⟩, .int .u8 0], none, none⟩
theorem ti58_ok : TIok Try.prog 58 ti58 := TIok.agg Try.underlying58 Try.type58 rfl (⟨_, rfl, rfl, by simp [show Try.prog.info? 3 = some Try.t3 from Try.type3, show Try.prog.info? 5 = some Try.t5 from Try.type5, show Try.prog.info? 9 = some Try.t9 from Try.type9]⟩) rfl rfl rfl rfl rfl rfl rfl (fun h => by first | rfl | (cases h; done)) (fun _ h => by cases h) (fun _ h => by cases h) (fun _ h => by cases h)
def ti59 : TI := ⟨true, 3, 32, .struct [(0, 3), (1, 9), (2, 5)], some [.int .i64 0, .str ⟨#[]⟩, .int .u8 0], some .act, none⟩
theorem ti59_ok : TIok Try.prog 59 ti59 := TIok.agg Try.underlying59 Try.type59 rfl (⟨_, rfl, rfl, by simp [show Try.prog.info? 3 = some Try.t3 from Try.type3, show Try.prog.info? 5 = some Try.t5 from Try.type5, show Try.prog.info? 9 = some Try.t9 from Try.type9]⟩) rfl rfl rfl rfl rfl rfl rfl (fun h => by first | rfl | (cases h; done)) (fun e h => by cases h; exact ⟨rfl, by decide⟩) (fun e h => by cases h; rfl) (fun _ h => by cases h)
def ti60 : TI := ⟨false, 1, 8, .other, none, none, none⟩
theorem ti60_ok : TIok Try.prog 60 ti60 := TIok.none Try.underlying60 Try.type60 rfl trivial rfl rfl rfl (fun _ h => by cases h) (fun _ h => by cases h) rfl
def ti61 : TI := ⟨false, 1, 8, .other, none, none, none⟩
theorem ti61_ok : TIok Try.prog 61 ti61 := TIok.none Try.underlying61 Try.type61 rfl trivial rfl rfl rfl (fun _ h => by cases h) (fun _ h => by cases h) rfl
def ti62 : TI := ⟨false, 1, 8, .other, none, none, none⟩
theorem ti62_ok : TIok Try.prog 62 ti62 := TIok.none Try.underlying62 Try.type62 rfl trivial rfl rfl rfl (fun _ h => by cases h) (fun _ h => by cases h) rfl
def ti63 : TI := ⟨false, 1, 8, .other, none, none, none⟩
theorem ti63_ok : TIok Try.prog 63 ti63 := TIok.none Try.underlying63 Try.type63 rfl trivial rfl rfl rfl (fun _ h => by cases h) (fun _ h => by cases h) rfl
def ti64 : TI := ⟨false, 1, 8, .other, none, none, none⟩
theorem ti64_ok : TIok Try.prog 64 ti64 := TIok.none Try.underlying64 Try.type64 rfl trivial rfl rfl rfl (fun _ h => by cases h) (fun _ h => by cases h) rfl
def ti65 : TI := ⟨false, 1, 8, .other, none, none, none⟩
theorem ti65_ok : TIok Try.prog 65 ti65 := TIok.none Try.underlying65 Try.type65 rfl trivial rfl rfl rfl (fun _ h => by cases h) (fun _ h => by cases h) rfl
def ti66 : TI := ⟨false, 1, 8, .other, none, none, none⟩
theorem ti66_ok : TIok Try.prog 66 ti66 := TIok.none Try.underlying66 Try.type66 rfl trivial rfl rfl rfl (fun _ h => by cases h) (fun _ h => by cases h) rfl
def ti67 : TI := ⟨false, 1, 8, .other, none, none, none⟩
theorem ti67_ok : TIok Try.prog 67 ti67 := TIok.none Try.underlying67 Try.type67 rfl trivial rfl rfl rfl (fun _ h => by cases h) (fun _ h => by cases h) rfl
def ti68 : TI := ⟨false, 1, 8, .other, none, none, none⟩
theorem ti68_ok : TIok Try.prog 68 ti68 := TIok.none Try.underlying68 Try.type68 rfl trivial rfl rfl rfl (fun _ h => by cases h) (fun _ h => by cases h) rfl
def ti69 : TI := ⟨false, 1, 8, .other, none, none, none⟩
theorem ti69_ok : TIok Try.prog 69 ti69 := TIok.none Try.underlying69 Try.type69 rfl trivial rfl rfl rfl (fun _ h => by cases h) (fun _ h => by cases h) rfl
def ti70 : TI := ⟨false, 1, 8, .other, none, none, none⟩
theorem ti70_ok : TIok Try.prog 70 ti70 := TIok.none Try.underlying70 Try.type70 rfl trivial rfl rfl rfl (fun _ h => by cases h) (fun _ h => by cases h) rfl
def ti71 : TI := ⟨false, 1, 8, .other, none, none, none⟩
theorem ti71_ok : TIok Try.prog 71 ti71 := TIok.none Try.underlying71 Try.type71 rfl trivial rfl rfl rfl (fun _ h => by cases h) (fun _ h => by cases h) rfl
def ti72 : TI := ⟨false, 1, 8, .other, none, none, none⟩
theorem ti72_ok : TIok Try.prog 72 ti72 := TIok.none Try.underlying72 Try.type72 rfl trivial rfl rfl rfl (fun _ h => by cases h) (fun _ h => by cases h) rfl
def ti73 : TI := ⟨false, 1, 8, .other, none, none, none⟩
theorem ti73_ok : TIok Try.prog 73 ti73 := TIok.none Try.underlying73 Try.type73 rfl trivial rfl rfl rfl (fun _ h => by cases h) (fun _ h => by cases h) rfl
def ti74 : TI := ⟨false, 1, 8, .other, none, none, none⟩
theorem ti74_ok : TIok Try.prog 74 ti74 := TIok.none Try.underlying74 Try.type74 rfl trivial rfl rfl rfl (fun _ h => by cases h) (fun _ h => by cases h) rfl
def ti75 : TI := ⟨false, 1, 8, .other, none, none, none⟩
theorem ti75_ok : TIok Try.prog 75 ti75 := TIok.none Try.underlying75 Try.type75 rfl trivial rfl rfl rfl (fun _ h => by cases h) (fun _ h => by cases h) rfl
def ti76 : TI := ⟨false, 1, 8, .other, none, none, none⟩
theorem ti76_ok : TIok Try.prog 76 ti76 := TIok.none Try.underlying76 Try.type76 rfl trivial rfl rfl rfl (fun _ h => by cases h) (fun _ h => by cases h) rfl
def ti77 : TI := ⟨false, 1, 8, .other, none, none, none⟩
theorem ti77_ok : TIok Try.prog 77 ti77 := TIok.none Try.underlying77 Try.type77 rfl trivial rfl rfl rfl (fun _ h => by cases h) (fun _ h => by cases h) rfl
def ti78 : TI := ⟨true, 4, 40, .struct [(0, 17), (1, 17), (2, 17), (3, 9)], some [.cst (.pointer none), .cst (.pointer none), .cst (.pointer none), .str ⟨#[]⟩], none, none⟩
theorem ti78_ok : TIok Try.prog 78 ti78 := TIok.agg Try.underlying78 Try.type78 rfl (⟨_, rfl, rfl, by simp [show Try.prog.info? 9 = some Try.t9 from Try.type9, show Try.prog.info? 17 = some Try.t17 from Try.type17]⟩) rfl rfl rfl rfl rfl rfl rfl (fun h => by first | rfl | (cases h; done)) (fun _ h => by cases h) (fun _ h => by cases h) (fun _ h => by cases h)
def ti79 : TI := ⟨true, 4, 40, .struct [(0, 17), (1, 17), (2, 17), (3, 9)], some [.cst (.pointer none), .cst (.pointer none), .cst (.pointer none), .str ⟨#[]⟩], none, none⟩
theorem ti79_ok : TIok Try.prog 79 ti79 := TIok.agg Try.underlying79 Try.type79 rfl (⟨_, rfl, rfl, by simp [show Try.prog.info? 9 = some Try.t9 from Try.type9, show Try.prog.info? 17 = some Try.t17 from Try.type17]⟩) rfl rfl rfl rfl rfl rfl rfl (fun h => by first | rfl | (cases h; done)) (fun _ h => by cases h) (fun _ h => by cases h) (fun _ h => by cases h)
def ti80 : TI := ⟨true, 0, 0, .array 0 16, none, none, none⟩
theorem ti80_ok : TIok Try.prog 80 ti80 := TIok.none Try.underlying80 Try.type80 rfl rfl rfl rfl rfl (fun _ h => by cases h) (fun _ h => by cases h) rfl
def ti81 : TI := ⟨true, 0, 0, .struct [(0, 80)], none, none, none⟩
theorem ti81_ok : TIok Try.prog 81 ti81 := TIok.none Try.underlying81 Try.type81 rfl (⟨_, rfl, rfl, by simp [show Try.prog.info? 80 = some Try.t80 from Try.type80]⟩) rfl rfl rfl (fun _ h => by cases h) (fun _ h => by cases h) rfl
def ti82 : TI := ⟨true, 0, 0, .struct [(0, 80)], none, none, none⟩
theorem ti82_ok : TIok Try.prog 82 ti82 := TIok.none Try.underlying82 Try.type82 rfl (⟨_, rfl, rfl, by simp [show Try.prog.info? 80 = some Try.t80 from Try.type80]⟩) rfl rfl rfl (fun _ h => by cases h) (fun _ h => by cases h) rfl
def ti83 : TI := ⟨false, 1, 8, .other, none, none, none⟩
theorem ti83_ok : TIok Try.prog 83 ti83 := TIok.none Try.underlying83 Try.type83 rfl trivial rfl rfl rfl (fun _ h => by cases h) (fun _ h => by cases h) rfl
def ti84 : TI := ⟨false, 1, 4, .int .u32, some [.int .u32 0], none, none⟩
theorem ti84_ok : TIok Try.prog 84 ti84 := TIok.agg Try.underlying84 Try.type84 rfl rfl rfl rfl rfl rfl rfl rfl rfl (fun h => by first | rfl | (cases h; done)) (fun _ h => by cases h) (fun _ h => by cases h) (fun _ h => by cases h)
def ti85 : TI := ⟨false, 1, 1, .int .u8, some [.int .u8 0], none, none⟩
theorem ti85_ok : TIok Try.prog 85 ti85 := TIok.agg Try.underlying85 Try.type85 rfl rfl rfl rfl rfl rfl rfl rfl rfl (fun h => by first | rfl | (cases h; done)) (fun _ h => by cases h) (fun _ h => by cases h) (fun _ h => by cases h)
def ti86 : TI := ⟨false, 1, 1, .int .u8, some [.int .u8 0], none, none⟩
theorem ti86_ok : TIok Try.prog 86 ti86 := TIok.agg Try.underlying86 Try.type86 rfl rfl rfl rfl rfl rfl rfl rfl rfl (fun h => by first | rfl | (cases h; done)) (fun _ h => by cases h) (fun _ h => by cases h) (fun _ h => by cases h)
def ti87 : TI := ⟨false, 1, 8, .other, none, none, none⟩
theorem ti87_ok : TIok Try.prog 87 ti87 := TIok.none Try.underlying87 Try.type87 rfl trivial rfl rfl rfl (fun _ h => by cases h) (fun _ h => by cases h) rfl
def ti88 : TI := ⟨false, 1, 8, .other, some [.cst (.pointer none)], none, none⟩
theorem ti88_ok : TIok Try.prog 88 ti88 := TIok.agg Try.underlying88 Try.type88 rfl trivial rfl rfl rfl rfl rfl rfl rfl (fun h => by first | rfl | (cases h; done)) (fun _ h => by cases h) (fun _ h => by cases h) (fun _ h => by cases h)
def ti89 : TI := ⟨false, 1, 4, .int .i32, some [.int .i32 0], none, none⟩
theorem ti89_ok : TIok Try.prog 89 ti89 := TIok.agg Try.underlying89 Try.type89 rfl rfl rfl rfl rfl rfl rfl rfl rfl (fun h => by first | rfl | (cases h; done)) (fun _ h => by cases h) (fun _ h => by cases h) (fun _ h => by cases h)
def ti90 : TI := ⟨false, 1, 4, .int .i32, some [.int .i32 0], none, none⟩
theorem ti90_ok : TIok Try.prog 90 ti90 := TIok.agg Try.underlying90 Try.type90 rfl rfl rfl rfl rfl rfl rfl rfl rfl (fun h => by first | rfl | (cases h; done)) (fun _ h => by cases h) (fun _ h => by cases h) (fun _ h => by cases h)
def ti91 : TI := ⟨true, 11, 48, .struct [(0, 12), (1, 12), (2, 84), (3, 85), (4, 5), (5, 5), (6, 86), (7, 87), (8, 88), (9, 89), (10, 90)], none, none, none⟩
theorem ti91_ok : TIok Try.prog 91 ti91 := TIok.none Try.underlying91 Try.type91 rfl (⟨_, rfl, rfl, by simp [show Try.prog.info? 5 = some Try.t5 from Try.type5, show Try.prog.info? 12 = some Try.t12 from Try.type12, show Try.prog.info? 84 = some Try.t84 from Try.type84, show Try.prog.info? 85 = some Try.t85 from Try.type85, show Try.prog.info? 86 = some Try.t86 from Try.type86, show Try.prog.info? 87 = some Try.t87 from Try.type87, show Try.prog.info? 88 = some Try.t88 from Try.type88, show Try.prog.info? 89 = some Try.t89 from Try.type89, show Try.prog.info? 90 = some Try.t90 from Try.type90]⟩) rfl rfl rfl (fun _ h => by cases h) (fun _ h => by cases h) rfl
def ti92 : TI := ⟨true, 11, 48, .struct [(0, 12), (1, 12), (2, 84), (3, 85), (4, 5), (5, 5), (6, 86), (7, 87), (8, 88), (9, 89), (10, 90)], none, none, none⟩
theorem ti92_ok : TIok Try.prog 92 ti92 := TIok.none Try.underlying92 Try.type92 rfl (⟨_, rfl, rfl, by simp [show Try.prog.info? 5 = some Try.t5 from Try.type5, show Try.prog.info? 12 = some Try.t12 from Try.type12, show Try.prog.info? 84 = some Try.t84 from Try.type84, show Try.prog.info? 85 = some Try.t85 from Try.type85, show Try.prog.info? 86 = some Try.t86 from Try.type86, show Try.prog.info? 87 = some Try.t87 from Try.type87, show Try.prog.info? 88 = some Try.t88 from Try.type88, show Try.prog.info? 89 = some Try.t89 from Try.type89, show Try.prog.info? 90 = some Try.t90 from Try.type90]⟩) rfl rfl rfl (fun _ h => by cases h) (fun _ h => by cases h) rfl
def D : TD := [(1, ti1), (2, ti2), (3, ti3), (4, ti4), (5, ti5), (6, ti6), (7, ti7), (8, ti8), (9, ti9), (10, ti10), (11, ti11), (12, ti12), (13, ti13), (14, ti14), (15, ti15), (16, ti16), (17, ti17), (18, ti18), (19, ti19), (20, ti20), (21, ti21), (22, ti22), (23, ti23), (24, ti24), (25, ti25), (26, ti26), (27, ti27), (28, ti28), (30, ti30), (31, ti31), (32, ti32), (34, ti34), (35, ti35), (36, ti36), (37, ti37), (38, ti38), (39, ti39), (40, ti40), (41, ti41), (42, ti42), (43, ti43), (44, ti44), (45, ti45), (47, ti47), (48, ti48), (49, ti49), (50, ti50), (51, ti51), (52, ti52), (53, ti53), (54, ti54), (55, ti55), (56, ti56), (57, ti57), (58, ti58), (59, ti59), (60, ti60), (61, ti61), (62, ti62), (63, ti63), (64, ti64), (65, ti65), (66, ti66), (67, ti67), (68, ti68), (69, ti69), (70, ti70), (71, ti71), (72, ti72), (73, ti73), (74, ti74), (75, ti75), (76, ti76), (77, ti77), (78, ti78), (79, ti79), (80, ti80), (81, ti81), (82, ti82), (83, ti83), (84, ti84), (85, ti85), (86, ti86), (87, ti87), (88, ti88), (89, ti89), (90, ti90), (91, ti91), (92, ti92)]
theorem D_ok : TDok Try.prog D := by
  intro t ti h
  unfold D at h
  rw [tyOf] at h
  split at h
  · rename_i e; subst e; cases h; exact ti1_ok
  rw [tyOf] at h
  split at h
  · rename_i e; subst e; cases h; exact ti2_ok
  rw [tyOf] at h
  split at h
  · rename_i e; subst e; cases h; exact ti3_ok
  rw [tyOf] at h
  split at h
  · rename_i e; subst e; cases h; exact ti4_ok
  rw [tyOf] at h
  split at h
  · rename_i e; subst e; cases h; exact ti5_ok
  rw [tyOf] at h
  split at h
  · rename_i e; subst e; cases h; exact ti6_ok
  rw [tyOf] at h
  split at h
  · rename_i e; subst e; cases h; exact ti7_ok
  rw [tyOf] at h
  split at h
  · rename_i e; subst e; cases h; exact ti8_ok
  rw [tyOf] at h
  split at h
  · rename_i e; subst e; cases h; exact ti9_ok
  rw [tyOf] at h
  split at h
  · rename_i e; subst e; cases h; exact ti10_ok
  rw [tyOf] at h
  split at h
  · rename_i e; subst e; cases h; exact ti11_ok
  rw [tyOf] at h
  split at h
  · rename_i e; subst e; cases h; exact ti12_ok
  rw [tyOf] at h
  split at h
  · rename_i e; subst e; cases h; exact ti13_ok
  rw [tyOf] at h
  split at h
  · rename_i e; subst e; cases h; exact ti14_ok
  rw [tyOf] at h
  split at h
  · rename_i e; subst e; cases h; exact ti15_ok
  rw [tyOf] at h
  split at h
  · rename_i e; subst e; cases h; exact ti16_ok
  rw [tyOf] at h
  split at h
  · rename_i e; subst e; cases h; exact ti17_ok
  rw [tyOf] at h
  split at h
  · rename_i e; subst e; cases h; exact ti18_ok
  rw [tyOf] at h
  split at h
  · rename_i e; subst e; cases h; exact ti19_ok
  rw [tyOf] at h
  split at h
  · rename_i e; subst e; cases h; exact ti20_ok
  rw [tyOf] at h
  split at h
  · rename_i e; subst e; cases h; exact ti21_ok
  rw [tyOf] at h
  split at h
  · rename_i e; subst e; cases h; exact ti22_ok
  rw [tyOf] at h
  split at h
  · rename_i e; subst e; cases h; exact ti23_ok
  rw [tyOf] at h
  split at h
  · rename_i e; subst e; cases h; exact ti24_ok
  rw [tyOf] at h
  split at h
  · rename_i e; subst e; cases h; exact ti25_ok
  rw [tyOf] at h
  split at h
  · rename_i e; subst e; cases h; exact ti26_ok
  rw [tyOf] at h
  split at h
  · rename_i e; subst e; cases h; exact ti27_ok
  rw [tyOf] at h
  split at h
  · rename_i e; subst e; cases h; exact ti28_ok
  rw [tyOf] at h
  split at h
  · rename_i e; subst e; cases h; exact ti30_ok
  rw [tyOf] at h
  split at h
  · rename_i e; subst e; cases h; exact ti31_ok
  rw [tyOf] at h
  split at h
  · rename_i e; subst e; cases h; exact ti32_ok
  rw [tyOf] at h
  split at h
  · rename_i e; subst e; cases h; exact ti34_ok
  rw [tyOf] at h
  split at h
  · rename_i e; subst e; cases h; exact ti35_ok
  rw [tyOf] at h
  split at h
  · rename_i e; subst e; cases h; exact ti36_ok
  rw [tyOf] at h
  split at h
  · rename_i e; subst e; cases h; exact ti37_ok
  rw [tyOf] at h
  split at h
  · rename_i e; subst e; cases h; exact ti38_ok
  rw [tyOf] at h
  split at h
  · rename_i e; subst e; cases h; exact ti39_ok
  rw [tyOf] at h
  split at h
  · rename_i e; subst e; cases h; exact ti40_ok
  rw [tyOf] at h
  split at h
  · rename_i e; subst e; cases h; exact ti41_ok
  rw [tyOf] at h
  split at h
  · rename_i e; subst e; cases h; exact ti42_ok
  rw [tyOf] at h
  split at h
  · rename_i e; subst e; cases h; exact ti43_ok
  rw [tyOf] at h
  split at h
  · rename_i e; subst e; cases h; exact ti44_ok
  rw [tyOf] at h
  split at h
  · rename_i e; subst e; cases h; exact ti45_ok
  rw [tyOf] at h
  split at h
  · rename_i e; subst e; cases h; exact ti47_ok
  rw [tyOf] at h
  split at h
  · rename_i e; subst e; cases h; exact ti48_ok
  rw [tyOf] at h
  split at h
  · rename_i e; subst e; cases h; exact ti49_ok
  rw [tyOf] at h
  split at h
  · rename_i e; subst e; cases h; exact ti50_ok
  rw [tyOf] at h
  split at h
  · rename_i e; subst e; cases h; exact ti51_ok
  rw [tyOf] at h
  split at h
  · rename_i e; subst e; cases h; exact ti52_ok
  rw [tyOf] at h
  split at h
  · rename_i e; subst e; cases h; exact ti53_ok
  rw [tyOf] at h
  split at h
  · rename_i e; subst e; cases h; exact ti54_ok
  rw [tyOf] at h
  split at h
  · rename_i e; subst e; cases h; exact ti55_ok
  rw [tyOf] at h
  split at h
  · rename_i e; subst e; cases h; exact ti56_ok
  rw [tyOf] at h
  split at h
  · rename_i e; subst e; cases h; exact ti57_ok
  rw [tyOf] at h
  split at h
  · rename_i e; subst e; cases h; exact ti58_ok
  rw [tyOf] at h
  split at h
  · rename_i e; subst e; cases h; exact ti59_ok
  rw [tyOf] at h
  split at h
  · rename_i e; subst e; cases h; exact ti60_ok
  rw [tyOf] at h
  split at h
  · rename_i e; subst e; cases h; exact ti61_ok
  rw [tyOf] at h
  split at h
  · rename_i e; subst e; cases h; exact ti62_ok
  rw [tyOf] at h
  split at h
  · rename_i e; subst e; cases h; exact ti63_ok
  rw [tyOf] at h
  split at h
  · rename_i e; subst e; cases h; exact ti64_ok
  rw [tyOf] at h
  split at h
  · rename_i e; subst e; cases h; exact ti65_ok
  rw [tyOf] at h
  split at h
  · rename_i e; subst e; cases h; exact ti66_ok
  rw [tyOf] at h
  split at h
  · rename_i e; subst e; cases h; exact ti67_ok
  rw [tyOf] at h
  split at h
  · rename_i e; subst e; cases h; exact ti68_ok
  rw [tyOf] at h
  split at h
  · rename_i e; subst e; cases h; exact ti69_ok
  rw [tyOf] at h
  split at h
  · rename_i e; subst e; cases h; exact ti70_ok
  rw [tyOf] at h
  split at h
  · rename_i e; subst e; cases h; exact ti71_ok
  rw [tyOf] at h
  split at h
  · rename_i e; subst e; cases h; exact ti72_ok
  rw [tyOf] at h
  split at h
  · rename_i e; subst e; cases h; exact ti73_ok
  rw [tyOf] at h
  split at h
  · rename_i e; subst e; cases h; exact ti74_ok
  rw [tyOf] at h
  split at h
  · rename_i e; subst e; cases h; exact ti75_ok
  rw [tyOf] at h
  split at h
  · rename_i e; subst e; cases h; exact ti76_ok
  rw [tyOf] at h
  split at h
  · rename_i e; subst e; cases h; exact ti77_ok
  rw [tyOf] at h
  split at h
  · rename_i e; subst e; cases h; exact ti78_ok
  rw [tyOf] at h
  split at h
  · rename_i e; subst e; cases h; exact ti79_ok
  rw [tyOf] at h
  split at h
  · rename_i e; subst e; cases h; exact ti80_ok
  rw [tyOf] at h
  split at h
  · rename_i e; subst e; cases h; exact ti81_ok
  rw [tyOf] at h
  split at h
  · rename_i e; subst e; cases h; exact ti82_ok
  rw [tyOf] at h
  split at h
  · rename_i e; subst e; cases h; exact ti83_ok
  rw [tyOf] at h
  split at h
  · rename_i e; subst e; cases h; exact ti84_ok
  rw [tyOf] at h
  split at h
  · rename_i e; subst e; cases h; exact ti85_ok
  rw [tyOf] at h
  split at h
  · rename_i e; subst e; cases h; exact ti86_ok
  rw [tyOf] at h
  split at h
  · rename_i e; subst e; cases h; exact ti87_ok
  rw [tyOf] at h
  split at h
  · rename_i e; subst e; cases h; exact ti88_ok
  rw [tyOf] at h
  split at h
  · rename_i e; subst e; cases h; exact ti89_ok
  rw [tyOf] at h
  split at h
  · rename_i e; subst e; cases h; exact ti90_ok
  rw [tyOf] at h
  split at h
  · rename_i e; subst e; cases h; exact ti91_ok
  rw [tyOf] at h
  split at h
  · rename_i e; subst e; cases h; exact ti92_ok
  cases h
end Go.Proofs.Ytofjpelbjehddaa
