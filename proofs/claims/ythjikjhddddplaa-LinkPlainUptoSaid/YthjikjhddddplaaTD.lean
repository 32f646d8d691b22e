/- What the machine knows of the types of this seat: printed by gentd.py. -/
import Derived.Test.YthjikjhddddplaaRows
import Derived.Test.YthjikjhddddplaaA6
namespace Go.Proofs.Ythjikjhddddplaa
set_option linter.unusedVariables false
set_option linter.unusedSimpArgs false
open Go.RowKit
def ti1 : TI := ⟨false, 1, 8, .other, none, none, none⟩
theorem ti1_ok : TIok Try.prog 1 ti1 := TIok.none Try.underlying1 Try.type1 rfl trivial rfl rfl rfl (fun _ h => by cases h) rfl
def ti2 : TI := ⟨false, 1, 8, .int .i64, some [.int .i64 0], none, none⟩
theorem ti2_ok : TIok Try.prog 2 ti2 := TIok.agg Try.underlying2 Try.type2 rfl rfl rfl rfl rfl rfl rfl rfl (fun _ h => by cases h) (fun _ h => by cases h)
def ti3 : TI := ⟨false, 1, 8, .int .i64, some [.int .i64 0], some .i64, none⟩
theorem ti3_ok : TIok Try.prog 3 ti3 := TIok.agg Try.underlying3 Try.type3 rfl rfl rfl rfl rfl rfl rfl rfl (fun e h => by cases h; exact ⟨rfl, by decide⟩) (fun _ h => by cases h)
def ti4 : TI := ⟨false, 1, 1, .bool, some [.bool false], none, none⟩
theorem ti4_ok : TIok Try.prog 4 ti4 := TIok.agg Try.underlying4 Try.type4 rfl rfl rfl rfl rfl rfl rfl rfl (fun _ h => by cases h) (fun _ h => by cases h)
def ti5 : TI := ⟨false, 1, 1, .int .u8, some [.int .u8 0], none, none⟩
theorem ti5_ok : TIok Try.prog 5 ti5 := TIok.agg Try.underlying5 Try.type5 rfl rfl rfl rfl rfl rfl rfl rfl (fun _ h => by cases h) (fun _ h => by cases h)
def ti6 : TI := ⟨false, 1, 1, .int .u8, some [.int .u8 0], none, none⟩
theorem ti6_ok : TIok Try.prog 6 ti6 := TIok.agg Try.underlying6 Try.type6 rfl rfl rfl rfl rfl rfl rfl rfl (fun _ h => by cases h) (fun _ h => by cases h)
def ti7 : TI := ⟨true, 4, 24, .struct [(0, 2), (1, 3), (2, 4), (3, 6)], some [.int .i64 0, .int .i64 0, .bool false, .int .u8 0], none, none⟩
theorem ti7_ok : TIok Try.prog 7 ti7 := TIok.agg Try.underlying7 Try.type7 rfl (⟨_, rfl, rfl, by simp [show Try.prog.info? 2 = some Try.t2 from Try.type2, show Try.prog.info? 3 = some Try.t3 from Try.type3, show Try.prog.info? 4 = some Try.t4 from Try.type4, show Try.prog.info? 6 = some Try.t6 from Try.type6]⟩) rfl rfl rfl rfl rfl rfl (fun _ h => by cases h) (fun _ h => by cases h)
def ti8 : TI := ⟨true, 4, 24, .struct [(0, 2), (1, 3), (2, 4), (3, 6)], some [.int .i64 0, .int .i64 0, .bool false, .int .u8 0], none, none⟩
theorem ti8_ok : TIok Try.prog 8 ti8 := TIok.agg Try.underlying8 Try.type8 rfl (⟨_, rfl, rfl, by simp [show Try.prog.info? 2 = some Try.t2 from Try.type2, show Try.prog.info? 3 = some Try.t3 from Try.type3, show Try.prog.info? 4 = some Try.t4 from Try.type4, show Try.prog.info? 6 = some Try.t6 from Try.type6]⟩) rfl rfl rfl rfl rfl rfl (fun _ h => by cases h) (fun _ h => by cases h)
def ti9 : TI := ⟨false, 1, 16, .string, some [.str ⟨#[]⟩], none, none⟩
theorem ti9_ok : TIok Try.prog 9 ti9 := TIok.agg Try.underlying9 Try.type9 rfl rfl rfl rfl rfl rfl rfl rfl (fun _ h => by cases h) (fun _ h => by cases h)
def ti10 : TI := ⟨false, 1, 16, .string, some [.str ⟨#[]⟩], none, none⟩
theorem ti10_ok : TIok Try.prog 10 ti10 := TIok.agg Try.underlying10 Try.type10 rfl rfl rfl rfl rfl rfl rfl rfl (fun _ h => by cases h) (fun _ h => by cases h)
def ti11 : TI := ⟨false, 1, 16, .string, some [.str ⟨#[]⟩], none, none⟩
theorem ti11_ok : TIok Try.prog 11 ti11 := TIok.agg Try.underlying11 Try.type11 rfl rfl rfl rfl rfl rfl rfl rfl (fun _ h => by cases h) (fun _ h => by cases h)
def ti12 : TI := ⟨false, 1, 8, .int .u64, some [.int .u64 0], none, none⟩
theorem ti12_ok : TIok Try.prog 12 ti12 := TIok.agg Try.underlying12 Try.type12 rfl rfl rfl rfl rfl rfl rfl rfl (fun _ h => by cases h) (fun _ h => by cases h)
def ti13 : TI := ⟨true, 2, 24, .struct [(0, 9), (1, 12)], some [.str ⟨#[]⟩, .int .u64 0], none, none⟩
theorem ti13_ok : TIok Try.prog 13 ti13 := TIok.agg Try.underlying13 Try.type13 rfl (⟨_, rfl, rfl, by simp [show Try.prog.info? 9 = some Try.t9 from Try.type9, show Try.prog.info? 12 = some Try.t12 from Try.type12]⟩) rfl rfl rfl rfl rfl rfl (fun _ h => by cases h) (fun _ h => by cases h)
def ti14 : TI := ⟨true, 2, 24, .struct [(0, 9), (1, 12)], some [.str ⟨#[]⟩, .int .u64 0], none, none⟩
theorem ti14_ok : TIok Try.prog 14 ti14 := TIok.agg Try.underlying14 Try.type14 rfl (⟨_, rfl, rfl, by simp [show Try.prog.info? 9 = some Try.t9 from Try.type9, show Try.prog.info? 12 = some Try.t12 from Try.type12]⟩) rfl rfl rfl rfl rfl rfl (fun _ h => by cases h) (fun _ h => by cases h)
def ti15 : TI := ⟨false, 1, 8, .other, none, none, none⟩
theorem ti15_ok : TIok Try.prog 15 ti15 := TIok.none Try.underlying15 Try.type15 rfl trivial rfl rfl rfl (fun _ h => by cases h) rfl
def ti16 : TI := ⟨false, 1, 8, .other, none, none, none⟩
theorem ti16_ok : TIok Try.prog 16 ti16 := TIok.none Try.underlying16 Try.type16 rfl trivial rfl rfl rfl (fun _ h => by cases h) rfl
def ti17 : TI := ⟨false, 1, 8, .other, none, none, none⟩
theorem ti17_ok : TIok Try.prog 17 ti17 := TIok.none Try.underlying17 Try.type17 rfl trivial rfl rfl rfl (fun _ h => by cases h) rfl
def ti18 : TI := ⟨true, 1, 8, .struct [(0, 17)], none, none, none⟩
theorem ti18_ok : TIok Try.prog 18 ti18 := TIok.none Try.underlying18 Try.type18 rfl (⟨_, rfl, rfl, by simp [show Try.prog.info? 17 = some Try.t17 from Try.type17]⟩) rfl rfl rfl (fun _ h => by cases h) rfl
def ti19 : TI := ⟨true, 1, 8, .struct [(0, 17)], none, none, none⟩
theorem ti19_ok : TIok Try.prog 19 ti19 := TIok.none Try.underlying19 Try.type19 rfl (⟨_, rfl, rfl, by simp [show Try.prog.info? 17 = some Try.t17 from Try.type17]⟩) rfl rfl rfl (fun _ h => by cases h) rfl
def ti20 : TI := ⟨false, 1, 16, .other, none, none, none⟩
theorem ti20_ok : TIok Try.prog 20 ti20 := TIok.none Try.underlying20 Try.type20 rfl trivial rfl rfl rfl (fun _ h => by cases h) rfl
def ti21 : TI := ⟨false, 1, 4, .int .i32, some [.int .i32 0], none, none⟩
theorem ti21_ok : TIok Try.prog 21 ti21 := TIok.agg Try.underlying21 Try.type21 rfl rfl rfl rfl rfl rfl rfl rfl (fun _ h => by cases h) (fun _ h => by cases h)
def ti22 : TI := ⟨false, 1, 24, .slice 51, some [.nil], none, none⟩
theorem ti22_ok : TIok Try.prog 22 ti22 := TIok.agg Try.underlying22 Try.type22 rfl (⟨rfl, by rw [show Try.prog.info? 51 = some Try.t51 from Try.type51]; rfl⟩) rfl rfl rfl rfl rfl rfl (fun _ h => by cases h) (fun _ h => by cases h)
def ti23 : TI := ⟨false, 1, 24, .slice 3, some [.nil], none, none⟩
theorem ti23_ok : TIok Try.prog 23 ti23 := TIok.agg Try.underlying23 Try.type23 rfl (⟨rfl, by rw [show Try.prog.info? 3 = some Try.t3 from Try.type3]; rfl⟩) rfl rfl rfl rfl rfl rfl (fun _ h => by cases h) (fun _ h => by cases h)
def ti24 : TI := ⟨true, 3, 56, .struct [(0, 3), (1, 22), (2, 23)], some [.int .i64 0, .nil, .nil], none, none⟩
theorem ti24_ok : TIok Try.prog 24 ti24 := TIok.agg Try.underlying24 Try.type24 rfl (⟨_, rfl, rfl, by simp [show Try.prog.info? 3 = some Try.t3 from Try.type3, show Try.prog.info? 22 = some Try.t22 from Try.type22, show Try.prog.info? 23 = some Try.t23 from Try.type23]⟩) rfl rfl rfl rfl rfl rfl (fun _ h => by cases h) (fun _ h => by cases h)
def ti25 : TI := ⟨true, 3, 56, .struct [(0, 3), (1, 22), (2, 23)], some [.int .i64 0, .nil, .nil], none, none⟩
theorem ti25_ok : TIok Try.prog 25 ti25 := TIok.agg Try.underlying25 Try.type25 rfl (⟨_, rfl, rfl, by simp [show Try.prog.info? 3 = some Try.t3 from Try.type3, show Try.prog.info? 22 = some Try.t22 from Try.type22, show Try.prog.info? 23 = some Try.t23 from Try.type23]⟩) rfl rfl rfl rfl rfl rfl (fun _ h => by cases h) (fun _ h => by cases h)
def ti26 : TI := ⟨true, 2, 24, .struct [(0, 3), (1, 9)], some [.int .i64 0, .str ⟨#[]⟩], none, none⟩
theorem ti26_ok : TIok Try.prog 26 ti26 := TIok.agg Try.underlying26 Try.type26 rfl (⟨_, rfl, rfl, by simp [show Try.prog.info? 3 = some Try.t3 from Try.type3, show Try.prog.info? 9 = some Try.t9 from Try.type9]⟩) rfl rfl rfl rfl rfl rfl (fun _ h => by cases h) (fun _ h => by cases h)
def ti27 : TI := ⟨true, 2, 24, .struct [(0, 3), (1, 9)], some [.int .i64 0, .str ⟨#[]⟩], some .pkt, some [0, 2]⟩
theorem ti27_ok : TIok Try.prog 27 ti27 := TIok.agg Try.underlying27 Try.type27 rfl (⟨_, rfl, rfl, by simp [show Try.prog.info? 3 = some Try.t3 from Try.type3, show Try.prog.info? 9 = some Try.t9 from Try.type9]⟩) rfl rfl rfl rfl rfl rfl (fun e h => by cases h; exact ⟨rfl, by decide⟩) (fun ks hks => by
    cases hks
    refine ⟨Try.eqGuardType27, rfl, fun vs us b h0 => ?_⟩
    obtain ⟨k0, x0, r0, y0, q0, c0, rfl, rfl, h1, rfl⟩ := leaf0 h0
    obtain ⟨x1, r1, y1, q1, c1, rfl, rfl, h2, rfl⟩ := leaf2 h1
    obtain ⟨rfl, rfl, rfl⟩ := leafN h2
    simp [eqV, eqFs, Bool.and_assoc, Try.underlying27, show Try.prog.info? 27 = some Try.t27 from Try.type27, show Try.t27.size = 2 from rfl, Try.stoodInHeld27, Try.underlying3, show Try.prog.info? 3 = some Try.t3 from Try.type3, show Try.t3.size = 1 from rfl, Try.underlying9, show Try.prog.info? 9 = some Try.t9 from Try.type9, show Try.t9.size = 1 from rfl])
def ti28 : TI := ⟨false, 1, 8, .other, none, none, none⟩
theorem ti28_ok : TIok Try.prog 28 ti28 := TIok.none Try.underlying28 Try.type28 rfl trivial rfl rfl rfl (fun _ h => by cases h) rfl
def ti29 : TI := ⟨false, 1, 8, .other, none, none, none⟩
theorem ti29_ok : TIok Try.prog 29 ti29 := TIok.none Try.underlying29 Try.type29 rfl trivial rfl rfl rfl (fun _ h => by cases h) rfl
def ti30 : TI := ⟨false, 1, 8, .int .i64, some [.int .i64 0], none, none⟩
theorem ti30_ok : TIok Try.prog 30 ti30 := TIok.agg Try.underlying30 Try.type30 rfl rfl rfl rfl rfl rfl rfl rfl (fun _ h => by cases h) (fun _ h => by cases h)
def ti32 : TI := ⟨false, 1, 8, .other, none, none, none⟩
theorem ti32_ok : TIok Try.prog 32 ti32 := TIok.none Try.underlying32 Try.type32 rfl trivial rfl rfl rfl (fun _ h => by cases h) rfl
def ti33 : TI := ⟨false, 1, 8, .other, none, none, none⟩
theorem ti33_ok : TIok Try.prog 33 ti33 := TIok.none Try.underlying33 Try.type33 rfl trivial rfl rfl rfl (fun _ h => by cases h) rfl
def ti34 : TI := ⟨false, 1, 8, .other, none, none, none⟩
theorem ti34_ok : TIok Try.prog 34 ti34 := TIok.none Try.underlying34 Try.type34 rfl trivial rfl rfl rfl (fun _ h => by cases h) rfl
def ti35 : TI := ⟨false, 1, 8, .other, none, none, none⟩
theorem ti35_ok : TIok Try.prog 35 ti35 := TIok.none Try.underlying35 Try.type35 rfl trivial rfl rfl rfl (fun _ h => by cases h) rfl
def ti36 : TI := ⟨false, 1, 24, .slice 27, some [.nil], none, none⟩
theorem ti36_ok : TIok Try.prog 36 ti36 := TIok.agg Try.underlying36 Try.type36 rfl (⟨rfl, by rw [show Try.prog.info? 27 = some Try.t27 from Try.type27]; rfl⟩) rfl rfl rfl rfl rfl rfl (fun _ h => by cases h) (fun _ h => by cases h)
def ti38 : TI := ⟨false, 1, 8, .other, none, none, none⟩
theorem ti38_ok : TIok Try.prog 38 ti38 := TIok.none Try.underlying38 Try.type38 rfl trivial rfl rfl rfl (fun _ h => by cases h) rfl
def ti39 : TI := ⟨false, 1, 8, .other, none, none, none⟩
theorem ti39_ok : TIok Try.prog 39 ti39 := TIok.none Try.underlying39 Try.type39 rfl trivial rfl rfl rfl (fun _ h => by cases h) rfl
def ti40 : TI := ⟨false, 1, 4, .int .u32, some [.int .u32 0], none, none⟩
theorem ti40_ok : TIok Try.prog 40 ti40 := TIok.agg Try.underlying40 Try.type40 rfl rfl rfl rfl rfl rfl rfl rfl (fun _ h => by cases h) (fun _ h => by cases h)
def ti41 : TI := ⟨false, 1, 8, .other, none, none, none⟩
theorem ti41_ok : TIok Try.prog 41 ti41 := TIok.none Try.underlying41 Try.type41 rfl trivial rfl rfl rfl (fun _ h => by cases h) rfl
def ti43 : TI := ⟨false, 1, 8, .other, none, none, none⟩
theorem ti43_ok : TIok Try.prog 43 ti43 := TIok.none Try.underlying43 Try.type43 rfl trivial rfl rfl rfl (fun _ h => by cases h) rfl
def ti44 : TI := ⟨false, 1, 8, .other, none, none, none⟩
theorem ti44_ok : TIok Try.prog 44 ti44 := TIok.none Try.underlying44 Try.type44 rfl trivial rfl rfl rfl (fun _ h => by cases h) rfl
def ti45 : TI := ⟨false, 1, 8, .other, none, none, none⟩
theorem ti45_ok : TIok Try.prog 45 ti45 := TIok.none Try.underlying45 Try.type45 rfl trivial rfl rfl rfl (fun _ h => by cases h) rfl
def ti46 : TI := ⟨false, 1, 8, .other, none, none, none⟩
theorem ti46_ok : TIok Try.prog 46 ti46 := TIok.none Try.underlying46 Try.type46 rfl trivial rfl rfl rfl (fun _ h => by cases h) rfl
def ti47 : TI := ⟨false, 1, 8, .other, none, none, none⟩
theorem ti47_ok : TIok Try.prog 47 ti47 := TIok.none Try.underlying47 Try.type47 rfl trivial rfl rfl rfl (fun _ h => by cases h) rfl
def ti48 : TI := ⟨false, 1, 8, .other, none, none, none⟩
theorem ti48_ok : TIok Try.prog 48 ti48 := TIok.none Try.underlying48 Try.type48 rfl trivial rfl rfl rfl (fun _ h => by cases h) rfl
def ti49 : TI := ⟨false, 1, 8, .other, none, none, none⟩
theorem ti49_ok : TIok Try.prog 49 ti49 := TIok.none Try.underlying49 Try.type49 rfl trivial rfl rfl rfl (fun _ h => by cases h) rfl
def ti50 : TI := ⟨true, 3, 32, .struct [(0, 27), (2, 3)], some [.int .i64 0, .str ⟨#[]⟩, .int .i64 0], none, none⟩
theorem ti50_ok : TIok Try.prog 50 ti50 := TIok.agg Try.underlying50 Try.type50 rfl (⟨_, rfl, rfl, by simp [show Try.prog.info? 3 = some Try.t3 from Try.type3, show Try.prog.info? 27 = some Try.t27 from Try.type27]⟩) rfl rfl rfl rfl rfl rfl (fun _ h => by cases h) (fun _ h => by cases h)
def ti51 : TI := ⟨true, 3, 32, .struct [(0, 27), (2, 3)], some [.int .i64 0, .str ⟨#[]⟩, .int .i64 0], some .flt, some [0, 2, 0]⟩
theorem ti51_ok : TIok Try.prog 51 ti51 := TIok.agg Try.underlying51 Try.type51 rfl (⟨_, rfl, rfl, by simp [show Try.prog.info? 3 = some Try.t3 from Try.type3, show Try.prog.info? 27 = some Try.t27 from Try.type27]⟩) rfl rfl rfl rfl rfl rfl (fun e h => by cases h; exact ⟨rfl, by decide⟩) (fun ks hks => by
    cases hks
    refine ⟨Try.eqGuardType51, rfl, fun vs us b h0 => ?_⟩
    obtain ⟨k0, x0, r0, y0, q0, c0, rfl, rfl, h1, rfl⟩ := leaf0 h0
    obtain ⟨x1, r1, y1, q1, c1, rfl, rfl, h2, rfl⟩ := leaf2 h1
    obtain ⟨k2, x2, r2, y2, q2, c2, rfl, rfl, h3, rfl⟩ := leaf0 h2
    obtain ⟨rfl, rfl, rfl⟩ := leafN h3
    simp [eqV, eqFs, Bool.and_assoc, Try.underlying51, show Try.prog.info? 51 = some Try.t51 from Try.type51, show Try.t51.size = 3 from rfl, Try.stoodInHeld51, Try.underlying27, show Try.prog.info? 27 = some Try.t27 from Try.type27, show Try.t27.size = 2 from rfl, Try.stoodInHeld27, Try.underlying3, show Try.prog.info? 3 = some Try.t3 from Try.type3, show Try.t3.size = 1 from rfl, Try.underlying9, show Try.prog.info? 9 = some Try.t9 from Try.type9, show Try.t9.size = 1 from rfl])
def ti52 : TI := ⟨false, 1, 8, .other, none, none, none⟩
theorem ti52_ok : TIok Try.prog 52 ti52 := TIok.none Try.underlying52 Try.type52 rfl trivial rfl rfl rfl (fun _ h => by cases h) rfl
def ti53 : TI := ⟨false, 1, 8, .int .i64, some [.int .i64 0], none, none⟩
theorem ti53_ok : TIok Try.prog 53 ti53 := TIok.agg Try.underlying53 Try.type53 rfl rfl rfl rfl rfl rfl rfl rfl (fun _ h => by cases h) (fun _ h => by cases h)
def ti54 : TI := ⟨false, 1, 8, .other, none, none, none⟩
theorem ti54_ok : TIok Try.prog 54 ti54 := TIok.none Try.underlying54 Try.type54 rfl trivial rfl rfl rfl (fun _ h => by cases h) rfl
def ti55 : TI := ⟨false, 1, 8, .other, none, none, none⟩
theorem ti55_ok : TIok Try.prog 55 ti55 := TIok.none Try.underlying55 Try.type55 rfl trivial rfl rfl rfl (fun _ h => by cases h) rfl
def ti56 : TI := ⟨false, 1, 8, .other, none, none, none⟩
theorem ti56_ok : TIok Try.prog 56 ti56 := TIok.none Try.underlying56 Try.type56 rfl trivial rfl rfl rfl (fun _ h => by cases h) rfl
def ti57 : TI := ⟨false, 1, 8, .other, none, none, none⟩
theorem ti57_ok : TIok Try.prog 57 ti57 := TIok.none Try.underlying57 Try.type57 rfl trivial rfl rfl rfl (fun _ h => by cases h) rfl
def ti58 : TI := ⟨false, 1, 8, .other, none, none, none⟩
theorem ti58_ok : TIok Try.prog 58 ti58 := TIok.none Try.underlying58 Try.type58 rfl trivial rfl rfl rfl (fun _ h => by cases h) rfl
def ti59 : TI := ⟨false, 1, 8, .other, none, none, none⟩
theorem ti59_ok : TIok Try.prog 59 ti59 := TIok.none Try.underlying59 Try.type59 rfl trivial rfl rfl rfl (fun _ h => by cases h) rfl
def ti60 : TI := ⟨false, 1, 8, .other, none, none, none⟩
theorem ti60_ok : TIok Try.prog 60 ti60 := TIok.none Try.underlying60 Try.type60 rfl trivial rfl rfl rfl (fun _ h => by cases h) rfl
def ti61 : TI := ⟨false, 1, 8, .other, none, none, none⟩
theorem ti61_ok : TIok Try.prog 61 ti61 := TIok.none Try.underlying61 Try.type61 rfl trivial rfl rfl rfl (fun _ h => by cases h) rfl
def ti62 : TI := ⟨false, 1, 8, .other, none, none, none⟩
theorem ti62_ok : TIok Try.prog 62 ti62 := TIok.none Try.underlying62 Try.type62 rfl trivial rfl rfl rfl (fun _ h => by cases h) rfl
def ti63 : TI := ⟨false, 1, 8, .other, none, none, none⟩
theorem ti63_ok : TIok Try.prog 63 ti63 := TIok.none Try.underlying63 Try.type63 rfl trivial rfl rfl rfl (fun _ h => by cases h) rfl
def ti64 : TI := ⟨true, 4, 40, .struct [(0, 17), (1, 17), (2, 17), (3, 9)], none, none, none⟩
theorem ti64_ok : TIok Try.prog 64 ti64 := TIok.none Try.underlying64 Try.type64 rfl (⟨_, rfl, rfl, by simp [show Try.prog.info? 9 = some Try.t9 from Try.type9, show Try.prog.info? 17 = some Try.t17 from Try.type17]⟩) rfl rfl rfl (fun _ h => by cases h) rfl
def ti65 : TI := ⟨true, 4, 40, .struct [(0, 17), (1, 17), (2, 17), (3, 9)], none, none, none⟩
theorem ti65_ok : TIok Try.prog 65 ti65 := TIok.none Try.underlying65 Try.type65 rfl (⟨_, rfl, rfl, by simp [show Try.prog.info? 9 = some Try.t9 from Try.type9, show Try.prog.info? 17 = some Try.t17 from Try.type17]⟩) rfl rfl rfl (fun _ h => by cases h) rfl
def ti66 : TI := ⟨true, 0, 0, .array 0 16, none, none, none⟩
theorem ti66_ok : TIok Try.prog 66 ti66 := TIok.none Try.underlying66 Try.type66 rfl rfl rfl rfl rfl (fun _ h => by cases h) rfl
def ti67 : TI := ⟨true, 0, 0, .struct [(0, 66)], none, none, none⟩
theorem ti67_ok : TIok Try.prog 67 ti67 := TIok.none Try.underlying67 Try.type67 rfl (⟨_, rfl, rfl, by simp [show Try.prog.info? 66 = some Try.t66 from Try.type66]⟩) rfl rfl rfl (fun _ h => by cases h) rfl
def ti68 : TI := ⟨true, 0, 0, .struct [(0, 66)], none, none, none⟩
theorem ti68_ok : TIok Try.prog 68 ti68 := TIok.none Try.underlying68 Try.type68 rfl (⟨_, rfl, rfl, by simp [show Try.prog.info? 66 = some Try.t66 from Try.type66]⟩) rfl rfl rfl (fun _ h => by cases h) rfl
def ti69 : TI := ⟨false, 1, 8, .other, none, none, none⟩
theorem ti69_ok : TIok Try.prog 69 ti69 := TIok.none Try.underlying69 Try.type69 rfl trivial rfl rfl rfl (fun _ h => by cases h) rfl
def ti70 : TI := ⟨false, 1, 1, .int .u8, some [.int .u8 0], none, none⟩
theorem ti70_ok : TIok Try.prog 70 ti70 := TIok.agg Try.underlying70 Try.type70 rfl rfl rfl rfl rfl rfl rfl rfl (fun _ h => by cases h) (fun _ h => by cases h)
def ti71 : TI := ⟨false, 1, 1, .int .u8, some [.int .u8 0], none, none⟩
theorem ti71_ok : TIok Try.prog 71 ti71 := TIok.agg Try.underlying71 Try.type71 rfl rfl rfl rfl rfl rfl rfl rfl (fun _ h => by cases h) (fun _ h => by cases h)
def ti72 : TI := ⟨false, 1, 8, .other, none, none, none⟩
theorem ti72_ok : TIok Try.prog 72 ti72 := TIok.none Try.underlying72 Try.type72 rfl trivial rfl rfl rfl (fun _ h => by cases h) rfl
def ti73 : TI := ⟨false, 1, 8, .other, none, none, none⟩
theorem ti73_ok : TIok Try.prog 73 ti73 := TIok.none Try.underlying73 Try.type73 rfl trivial rfl rfl rfl (fun _ h => by cases h) rfl
def ti74 : TI := ⟨false, 1, 4, .int .i32, some [.int .i32 0], none, none⟩
theorem ti74_ok : TIok Try.prog 74 ti74 := TIok.agg Try.underlying74 Try.type74 rfl rfl rfl rfl rfl rfl rfl rfl (fun _ h => by cases h) (fun _ h => by cases h)
def ti75 : TI := ⟨false, 1, 4, .int .i32, some [.int .i32 0], none, none⟩
theorem ti75_ok : TIok Try.prog 75 ti75 := TIok.agg Try.underlying75 Try.type75 rfl rfl rfl rfl rfl rfl rfl rfl (fun _ h => by cases h) (fun _ h => by cases h)
def ti76 : TI := ⟨true, 11, 48, .struct [(0, 12), (1, 12), (2, 40), (3, 70), (4, 5), (5, 5), (6, 71), (7, 72), (8, 73), (9, 74), (10, 75)], none, none, none⟩
theorem ti76_ok : TIok Try.prog 76 ti76 := TIok.none Try.underlying76 Try.type76 rfl (⟨_, rfl, rfl, by simp [show Try.prog.info? 5 = some Try.t5 from Try.type5, show Try.prog.info? 12 = some Try.t12 from Try.type12, show Try.prog.info? 40 = some Try.t40 from Try.type40, show Try.prog.info? 70 = some Try.t70 from Try.type70, show Try.prog.info? 71 = some Try.t71 from Try.type71, show Try.prog.info? 72 = some Try.t72 from Try.type72, show Try.prog.info? 73 = some Try.t73 from Try.type73, show Try.prog.info? 74 = some Try.t74 from Try.type74, show Try.prog.info? 75 = some Try.t75 from Try.type75]⟩) rfl rfl rfl (fun _ h => by cases h) rfl
def ti77 : TI := ⟨true, 11, 48, .struct [(0, 12), (1, 12), (2, 40), (3, 70), (4, 5), (5, 5), (6, 71), (7, 72), (8, 73), (9, 74), (10, 75)], none, none, none⟩
theorem ti77_ok : TIok Try.prog 77 ti77 := TIok.none Try.underlying77 Try.type77 rfl (⟨_, rfl, rfl, by simp [show Try.prog.info? 5 = some Try.t5 from Try.type5, show Try.prog.info? 12 = some Try.t12 from Try.type12, show Try.prog.info? 40 = some Try.t40 from Try.type40, show Try.prog.info? 70 = some Try.t70 from Try.type70, show Try.prog.info? 71 = some Try.t71 from Try.type71, show Try.prog.info? 72 = some Try.t72 from Try.type72, show Try.prog.info? 73 = some Try.t73 from Try.type73, show Try.prog.info? 74 = some Try.t74 from Try.type74, show Try.prog.info? 75 = some Try.t75 from Try.type75]⟩) rfl rfl rfl (fun _ h => by cases h) rfl
def D : TD := [(1, ti1), (2, ti2), (3, ti3), (4, ti4), (5, ti5), (6, ti6), (7, ti7), (8, ti8), (9, ti9), (10, ti10), (11, ti11), (12, ti12), (13, ti13), (14, ti14), (15, ti15), (16, ti16), (17, ti17), (18, ti18), (19, ti19), (20, ti20), (21, ti21), (22, ti22), (23, ti23), (24, ti24), (25, ti25), (26, ti26), (27, ti27), (28, ti28), (29, ti29), (30, ti30), (32, ti32), (33, ti33), (34, ti34), (35, ti35), (36, ti36), (38, ti38), (39, ti39), (40, ti40), (41, ti41), (43, ti43), (44, ti44), (45, ti45), (46, ti46), (47, ti47), (48, ti48), (49, ti49), (50, ti50), (51, ti51), (52, ti52), (53, ti53), (54, ti54), (55, ti55), (56, ti56), (57, ti57), (58, ti58), (59, ti59), (60, ti60), (61, ti61), (62, ti62), (63, ti63), (64, ti64), (65, ti65), (66, ti66), (67, ti67), (68, ti68), (69, ti69), (70, ti70), (71, ti71), (72, ti72), (73, ti73), (74, ti74), (75, ti75), (76, ti76), (77, ti77)]
theorem D_ok : TDok Try.prog D := by
  intro t ti h
  unfold D at h
  rw [tyOf] at h
  split at h
  · rename_i e; subst e; cases h; exact ti1_ok
  rw [tyOf] at h
  split at h
  · rename_i e; subst e; cases h; exact ti2_ok
  rw [tyOf] at h
  split at h
  · rename_i e; subst e; cases h; exact ti3_ok
  rw [tyOf] at h
  split at h
  · rename_i e; subst e; cases h; exact ti4_ok
  rw [tyOf] at h
  split at h
  · rename_i e; subst e; cases h; exact ti5_ok
  rw [tyOf] at h
  split at h
  · rename_i e; subst e; cases h; exact ti6_ok
  rw [tyOf] at h
  split at h
  · rename_i e; subst e; cases h; exact ti7_ok
  rw [tyOf] at h
  split at h
  · rename_i e; subst e; cases h; exact ti8_ok
  rw [tyOf] at h
  split at h
  · rename_i e; subst e; cases h; exact ti9_ok
  rw [tyOf] at h
  split at h
  · rename_i e; subst e; cases h; exact ti10_ok
  rw [tyOf] at h
  split at h
  · rename_i e; subst e; cases h; exact ti11_ok
  rw [tyOf] at h
  split at h
  · rename_i e; subst e; cases h; exact ti12_ok
  rw [tyOf] at h
  split at h
  · rename_i e; subst e; cases h; exact ti13_ok
  rw [tyOf] at h
  split at h
  · rename_i e; subst e; cases h; exact ti14_ok
  rw [tyOf] at h
  split at h
  · rename_i e; subst e; cases h; exact ti15_ok
  rw [tyOf] at h
  split at h
  · rename_i e; subst e; cases h; exact ti16_ok
  rw [tyOf] at h
  split at h
  · rename_i e; subst e; cases h; exact ti17_ok
  rw [tyOf] at h
  split at h
  · rename_i e; subst e; cases h; exact ti18_ok
  rw [tyOf] at h
  split at h
  · rename_i e; subst e; cases h; exact ti19_ok
  rw [tyOf] at h
  split at h
  · rename_i e; subst e; cases h; exact ti20_ok
  rw [tyOf] at h
  split at h
  · rename_i e; subst e; cases h; exact ti21_ok
  rw [tyOf] at h
  split at h
  · rename_i e; subst e; cases h; exact ti22_ok
  rw [tyOf] at h
  split at h
  · rename_i e; subst e; cases h; exact ti23_ok
  rw [tyOf] at h
  split at h
  · rename_i e; subst e; cases h; exact ti24_ok
  rw [tyOf] at h
  split at h
  · rename_i e; subst e; cases h; exact ti25_ok
  rw [tyOf] at h
  split at h
  · rename_i e; subst e; cases h; exact ti26_ok
  rw [tyOf] at h
  split at h
  · rename_i e; subst e; cases h; exact ti27_ok
  rw [tyOf] at h
  split at h
  · rename_i e; subst e; cases h; exact ti28_ok
  rw [tyOf] at h
  split at h
  · rename_i e; subst e; cases h; exact ti29_ok
  rw [tyOf] at h
  split at h
  · rename_i e; subst e; cases h; exact ti30_ok
  rw [tyOf] at h
  split at h
  · rename_i e; subst e; cases h; exact ti32_ok
  rw [tyOf] at h
  split at h
  · rename_i e; subst e; cases h; exact ti33_ok
  rw [tyOf] at h
  split at h
  · rename_i e; subst e; cases h; exact ti34_ok
  rw [tyOf] at h
  split at h
  · rename_i e; subst e; cases h; exact ti35_ok
  rw [tyOf] at h
  split at h
  · rename_i e; subst e; cases h; exact ti36_ok
  rw [tyOf] at h
  split at h
  · rename_i e; subst e; cases h; exact ti38_ok
  rw [tyOf] at h
  split at h
  · rename_i e; subst e; cases h; exact ti39_ok
  rw [tyOf] at h
  split at h
  · rename_i e; subst e; cases h; exact ti40_ok
  rw [tyOf] at h
  split at h
  · rename_i e; subst e; cases h; exact ti41_ok
  rw [tyOf] at h
  split at h
  · rename_i e; subst e; cases h; exact ti43_ok
  rw [tyOf] at h
  split at h
  · rename_i e; subst e; cases h; exact ti44_ok
  rw [tyOf] at h
  split at h
  · rename_i e; subst e; cases h; exact ti45_ok
  rw [tyOf] at h
  split at h
  · rename_i e; subst e; cases h; exact ti46_ok
  rw [tyOf] at h
  split at h
  · rename_i e; subst e; cases h; exact ti47_ok
  rw [tyOf] at h
  split at h
  · rename_i e; subst e; cases h; exact ti48_ok
  rw [tyOf] at h
  split at h
  · rename_i e; subst e; cases h; exact ti49_ok
  rw [tyOf] at h
  split at h
  · rename_i e; subst e; cases h; exact ti50_ok
  rw [tyOf] at h
  split at h
  · rename_i e; subst e; cases h; exact ti51_ok
  rw [tyOf] at h
  split at h
  · rename_i e; subst e; cases h; exact ti52_ok
  rw [tyOf] at h
  split at h
  · rename_i e; subst e; cases h; exact ti53_ok
  rw [tyOf] at h
  split at h
  · rename_i e; subst e; cases h; exact ti54_ok
  rw [tyOf] at h
  split at h
  · rename_i e; subst e; cases h; exact ti55_ok
  rw [tyOf] at h
  split at h
  · rename_i e; subst e; cases h; exact ti56_ok
  rw [tyOf] at h
  split at h
  · rename_i e; subst e; cases h; exact ti57_ok
  rw [tyOf] at h
  split at h
  · rename_i e; subst e; cases h; exact ti58_ok
  rw [tyOf] at h
  split at h
  · rename_i e; subst e; cases h; exact ti59_ok
  rw [tyOf] at h
  split at h
  · rename_i e; subst e; cases h; exact ti60_ok
  rw [tyOf] at h
  split at h
  · rename_i e; subst e; cases h; exact ti61_ok
  rw [tyOf] at h
  split at h
  · rename_i e; subst e; cases h; exact ti62_ok
  rw [tyOf] at h
  split at h
  · rename_i e; subst e; cases h; exact ti63_ok
  rw [tyOf] at h
  split at h
  · rename_i e; subst e; cases h; exact ti64_ok
  rw [tyOf] at h
  split at h
  · rename_i e; subst e; cases h; exact ti65_ok
  rw [tyOf] at h
  split at h
  · rename_i e; subst e; cases h; exact ti66_ok
  rw [tyOf] at h
  split at h
  · rename_i e; subst e; cases h; exact ti67_ok
  rw [tyOf] at h
  split at h
  · rename_i e; subst e; cases h; exact ti68_ok
  rw [tyOf] at h
  split at h
  · rename_i e; subst e; cases h; exact ti69_ok
  rw [tyOf] at h
  split at h
  · rename_i e; subst e; cases h; exact ti70_ok
  rw [tyOf] at h
  split at h
  · rename_i e; subst e; cases h; exact ti71_ok
  rw [tyOf] at h
  split at h
  · rename_i e; subst e; cases h; exact ti72_ok
  rw [tyOf] at h
  split at h
  · rename_i e; subst e; cases h; exact ti73_ok
  rw [tyOf] at h
  split at h
  · rename_i e; subst e; cases h; exact ti74_ok
  rw [tyOf] at h
  split at h
  · rename_i e; subst e; cases h; exact ti75_ok
  rw [tyOf] at h
  split at h
  · rename_i e; subst e; cases h; exact ti76_ok
  rw [tyOf] at h
  split at h
  · rename_i e; subst e; cases h; exact ti77_ok
  cases h
end Go.Proofs.Ythjikjhddddplaa
