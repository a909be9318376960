/-
  THE TYPES OF THE PROGRAM, WRITTEN OUT: printed by a program of our own.
-/
import Derived.Test.YtidfabbnobipkaaSv4
import Derived.Test.YtidfabbnobipkaaProg
import Derived.KernelRfl
namespace Go.Proofs.Ytidfabbnobipkaa.Sv
open Go
abbrev ty0 : TyI := ⟨.other, 1, 0, []⟩
abbrev ty1 : TyI := ⟨.other, 1, 8, []⟩
abbrev ty2 : TyI := ⟨.int .i64, 1, 8, [.int .i64 0]⟩
abbrev ty3 : TyI := ⟨.int .i64, 1, 8, [.int .i64 0]⟩
abbrev ty4 : TyI := ⟨.bool, 1, 1, [.bool false]⟩
abbrev ty5 : TyI := ⟨.int .u8, 1, 1, [.int .u8 0]⟩
abbrev ty6 : TyI := ⟨.int .u8, 1, 1, [.int .u8 0]⟩
abbrev ty7 : TyI := ⟨.struct [(0, 2), (1, 3), (2, 4), (3, 6)], 4, 24, [.int .i64 0, .int .i64 0, .bool false, .int .u8 0]⟩
abbrev ty8 : TyI := ⟨.struct [(0, 2), (1, 3), (2, 4), (3, 6)], 4, 24, [.int .i64 0, .int .i64 0, .bool false, .int .u8 0]⟩
abbrev ty9 : TyI := ⟨.string, 1, 16, [.str ⟨#[]⟩]⟩
abbrev ty10 : TyI := ⟨.string, 1, 16, [.str ⟨#[]⟩]⟩
abbrev ty11 : TyI := ⟨.string, 1, 16, [.str ⟨#[]⟩]⟩
abbrev ty12 : TyI := ⟨.int .u64, 1, 8, [.int .u64 0]⟩
abbrev ty13 : TyI := ⟨.struct [(0, 9), (1, 12)], 2, 24, [.str ⟨#[]⟩, .int .u64 0]⟩
abbrev ty14 : TyI := ⟨.struct [(0, 9), (1, 12)], 2, 24, [.str ⟨#[]⟩, .int .u64 0]⟩
abbrev ty15 : TyI := ⟨.ptr 103, 1, 8, [.nilp]⟩
abbrev ty16 : TyI := ⟨.ptr 106, 1, 8, [.nilp]⟩
abbrev ty17 : TyI := ⟨.ptr 115, 1, 8, [.nilp]⟩
abbrev ty18 : TyI := ⟨.struct [(0, 17)], 1, 8, [.nilp]⟩
abbrev ty19 : TyI := ⟨.struct [(0, 17)], 1, 8, [.nilp]⟩
abbrev ty20 : TyI := ⟨.other, 1, 16, []⟩
abbrev ty21 : TyI := ⟨.int .i32, 1, 4, [.int .i32 0]⟩
abbrev ty22 : TyI := ⟨.slice 29, 1, 24, [.nil]⟩
abbrev ty23 : TyI := ⟨.struct [(0, 3), (1, 22)], 2, 32, [.int .i64 0, .nil]⟩
abbrev ty24 : TyI := ⟨.struct [(0, 3), (1, 22)], 2, 32, [.int .i64 0, .nil]⟩
abbrev ty25 : TyI := ⟨.other, 1, 8, []⟩
abbrev ty26 : TyI := ⟨.other, 1, 8, []⟩
abbrev ty27 : TyI := ⟨.slice 59, 1, 24, [.nil]⟩
abbrev ty28 : TyI := ⟨.struct [(0, 3), (1, 27)], 2, 32, [.int .i64 0, .nil]⟩
abbrev ty29 : TyI := ⟨.struct [(0, 3), (1, 27)], 2, 32, [.int .i64 0, .nil]⟩
abbrev ty30 : TyI := ⟨.slice 52, 1, 24, [.nil]⟩
abbrev ty31 : TyI := ⟨.other, 1, 0, []⟩
abbrev ty32 : TyI := ⟨.other, 1, 8, []⟩
abbrev ty33 : TyI := ⟨.other, 1, 8, []⟩
abbrev ty34 : TyI := ⟨.other, 1, 8, []⟩
abbrev ty35 : TyI := ⟨.other, 1, 8, []⟩
abbrev ty36 : TyI := ⟨.other, 1, 8, []⟩
abbrev ty37 : TyI := ⟨.other, 1, 8, []⟩
abbrev ty38 : TyI := ⟨.other, 1, 8, []⟩
abbrev ty39 : TyI := ⟨.other, 1, 8, []⟩
abbrev ty40 : TyI := ⟨.other, 1, 8, []⟩
abbrev ty41 : TyI := ⟨.struct [(0, 3), (1, 9), (2, 3)], 3, 32, [.int .i64 0, .str ⟨#[]⟩, .int .i64 0]⟩
abbrev ty42 : TyI := ⟨.struct [(0, 3), (1, 9), (2, 3)], 3, 32, [.int .i64 0, .str ⟨#[]⟩, .int .i64 0]⟩
abbrev ty43 : TyI := ⟨.other, 1, 8, []⟩
abbrev ty44 : TyI := ⟨.other, 1, 8, []⟩
abbrev ty45 : TyI := ⟨.struct [(0, 24), (2, 29), (4, 30)], 5, 88, [.int .i64 0, .nil, .int .i64 0, .nil, .nil]⟩
abbrev ty46 : TyI := ⟨.struct [(0, 24), (2, 29), (4, 30)], 5, 88, [.int .i64 0, .nil, .int .i64 0, .nil, .nil]⟩
abbrev ty47 : TyI := ⟨.other, 1, 8, []⟩
abbrev ty48 : TyI := ⟨.slice 4, 1, 24, [.nil]⟩
abbrev ty49 : TyI := ⟨.other, 1, 8, []⟩
abbrev ty50 : TyI := ⟨.other, 1, 8, []⟩
abbrev ty51 : TyI := ⟨.other, 1, 8, []⟩
abbrev ty52 : TyI := ⟨.slice 3, 1, 24, [.nil]⟩
abbrev ty53 : TyI := ⟨.slice 5, 1, 24, [.nil]⟩
abbrev ty54 : TyI := ⟨.slice 57, 1, 24, [.nil]⟩
abbrev ty55 : TyI := ⟨.int .u32, 1, 4, [.int .u32 0]⟩
abbrev ty56 : TyI := ⟨.struct [(0, 3), (1, 3), (2, 3), (3, 3), (4, 3), (5, 3), (6, 3), (7, 55)], 8, 64, [.int .i64 0, .int .i64 0, .int .i64 0, .int .i64 0, .int .i64 0, .int .i64 0, .int .i64 0, .int .u32 0]⟩
abbrev ty57 : TyI := ⟨.struct [(0, 3), (1, 3), (2, 3), (3, 3), (4, 3), (5, 3), (6, 3), (7, 55)], 8, 64, [.int .i64 0, .int .i64 0, .int .i64 0, .int .i64 0, .int .i64 0, .int .i64 0, .int .i64 0, .int .u32 0]⟩
abbrev ty58 : TyI := ⟨.struct [(0, 54), (1, 3), (2, 3), (3, 3), (4, 3)], 5, 56, [.nil, .int .i64 0, .int .i64 0, .int .i64 0, .int .i64 0]⟩
abbrev ty59 : TyI := ⟨.struct [(0, 54), (1, 3), (2, 3), (3, 3), (4, 3)], 5, 56, [.nil, .int .i64 0, .int .i64 0, .int .i64 0, .int .i64 0]⟩
abbrev ty60 : TyI := ⟨.other, 1, 8, []⟩
abbrev ty61 : TyI := ⟨.struct [(0, 29), (2, 29), (4, 29), (6, 30), (7, 30)], 8, 144, [.int .i64 0, .nil, .int .i64 0, .nil, .int .i64 0, .nil, .nil, .nil]⟩
abbrev ty62 : TyI := ⟨.struct [(0, 29), (2, 29), (4, 29), (6, 30), (7, 30)], 8, 144, [.int .i64 0, .nil, .int .i64 0, .nil, .int .i64 0, .nil, .nil, .nil]⟩
abbrev ty63 : TyI := ⟨.other, 1, 8, []⟩
abbrev ty64 : TyI := ⟨.other, 1, 0, []⟩
abbrev ty65 : TyI := ⟨.other, 1, 8, []⟩
abbrev ty66 : TyI := ⟨.other, 1, 8, []⟩
abbrev ty67 : TyI := ⟨.other, 1, 8, []⟩
abbrev ty68 : TyI := ⟨.other, 1, 8, []⟩
abbrev ty69 : TyI := ⟨.other, 1, 8, []⟩
abbrev ty70 : TyI := ⟨.other, 1, 8, []⟩
abbrev ty71 : TyI := ⟨.other, 1, 8, []⟩
abbrev ty72 : TyI := ⟨.other, 1, 8, []⟩
abbrev ty73 : TyI := ⟨.ptr 76, 1, 8, [.nilp]⟩
abbrev ty74 : TyI := ⟨.slice 55, 1, 24, [.nil]⟩
abbrev ty75 : TyI := ⟨.struct [(0, 24), (2, 9), (3, 3), (4, 74), (5, 53), (6, 3), (7, 3), (8, 3)], 9, 128, [.int .i64 0, .nil, .str ⟨#[]⟩, .int .i64 0, .nil, .nil, .int .i64 0, .int .i64 0, .int .i64 0]⟩
abbrev ty76 : TyI := ⟨.struct [(0, 24), (2, 9), (3, 3), (4, 74), (5, 53), (6, 3), (7, 3), (8, 3)], 9, 128, [.int .i64 0, .nil, .str ⟨#[]⟩, .int .i64 0, .nil, .nil, .int .i64 0, .int .i64 0, .int .i64 0]⟩
abbrev ty77 : TyI := ⟨.other, 1, 8, []⟩
abbrev ty78 : TyI := ⟨.other, 1, 8, []⟩
abbrev ty79 : TyI := ⟨.other, 1, 8, []⟩
abbrev ty80 : TyI := ⟨.other, 1, 0, []⟩
abbrev ty81 : TyI := ⟨.other, 1, 8, []⟩
abbrev ty82 : TyI := ⟨.other, 1, 8, []⟩
abbrev ty83 : TyI := ⟨.other, 1, 8, []⟩
abbrev ty84 : TyI := ⟨.other, 1, 8, []⟩
abbrev ty85 : TyI := ⟨.other, 1, 8, []⟩
abbrev ty86 : TyI := ⟨.other, 1, 8, []⟩
abbrev ty87 : TyI := ⟨.slice 89, 1, 24, [.nil]⟩
abbrev ty88 : TyI := ⟨.struct [(0, 3), (1, 3)], 2, 16, [.int .i64 0, .int .i64 0]⟩
abbrev ty89 : TyI := ⟨.struct [(0, 3), (1, 3)], 2, 16, [.int .i64 0, .int .i64 0]⟩
abbrev ty90 : TyI := ⟨.ptr 89, 1, 8, [.nilp]⟩
abbrev ty91 : TyI := ⟨.other, 1, 8, []⟩
abbrev ty92 : TyI := ⟨.other, 1, 8, []⟩
abbrev ty93 : TyI := ⟨.int .i64, 1, 8, [.int .i64 0]⟩
abbrev ty94 : TyI := ⟨.other, 1, 0, []⟩
abbrev ty95 : TyI := ⟨.other, 1, 8, []⟩
abbrev ty96 : TyI := ⟨.int .u64, 1, 8, [.int .u64 0]⟩
abbrev ty97 : TyI := ⟨.other, 1, 8, []⟩
abbrev ty98 : TyI := ⟨.other, 1, 8, []⟩
abbrev ty99 : TyI := ⟨.other, 1, 8, []⟩
abbrev ty100 : TyI := ⟨.other, 1, 8, []⟩
abbrev ty101 : TyI := ⟨.other, 1, 8, []⟩
abbrev ty102 : TyI := ⟨.struct [(0, 17), (1, 17), (2, 17), (3, 9)], 4, 40, [.nilp, .nilp, .nilp, .str ⟨#[]⟩]⟩
abbrev ty103 : TyI := ⟨.struct [(0, 17), (1, 17), (2, 17), (3, 9)], 4, 40, [.nilp, .nilp, .nilp, .str ⟨#[]⟩]⟩
abbrev ty104 : TyI := ⟨.array 0 16, 0, 0, []⟩
abbrev ty105 : TyI := ⟨.other, 0, 0, []⟩
abbrev ty106 : TyI := ⟨.other, 0, 0, []⟩
abbrev ty107 : TyI := ⟨.other, 1, 8, []⟩
abbrev ty108 : TyI := ⟨.int .u8, 1, 1, [.int .u8 0]⟩
abbrev ty109 : TyI := ⟨.int .u8, 1, 1, [.int .u8 0]⟩
abbrev ty110 : TyI := ⟨.other, 1, 8, []⟩
abbrev ty111 : TyI := ⟨.ptr 5, 1, 8, [.nilp]⟩
abbrev ty112 : TyI := ⟨.int .i32, 1, 4, [.int .i32 0]⟩
abbrev ty113 : TyI := ⟨.int .i32, 1, 4, [.int .i32 0]⟩
abbrev ty114 : TyI := ⟨.struct [(0, 12), (1, 12), (2, 55), (3, 108), (4, 5), (5, 5), (6, 109), (7, 110), (8, 111), (9, 112), (10, 113)], 11, 48, []⟩
abbrev ty115 : TyI := ⟨.struct [(0, 12), (1, 12), (2, 55), (3, 108), (4, 5), (5, 5), (6, 109), (7, 110), (8, 111), (9, 112), (10, 113)], 11, 48, []⟩
abbrev ty116 : TyI := ⟨.other, 1, 8, [.nilp]⟩
def TI (t : Nat) : Option TyI := bif Nat.blt t 117 then (bif Nat.blt t 58 then (bif Nat.blt t 29 then (bif Nat.blt t 14 then (bif Nat.blt t 7 then (bif Nat.blt t 3 then (bif Nat.blt t 1 then some ty0 else (bif Nat.blt t 2 then some ty1 else some ty2)) else (bif Nat.blt t 5 then (bif Nat.blt t 4 then some ty3 else some ty4) else (bif Nat.blt t 6 then some ty5 else some ty6))) else (bif Nat.blt t 10 then (bif Nat.blt t 8 then some ty7 else (bif Nat.blt t 9 then some ty8 else some ty9)) else (bif Nat.blt t 12 then (bif Nat.blt t 11 then some ty10 else some ty11) else (bif Nat.blt t 13 then some ty12 else some ty13)))) else (bif Nat.blt t 21 then (bif Nat.blt t 17 then (bif Nat.blt t 15 then some ty14 else (bif Nat.blt t 16 then some ty15 else some ty16)) else (bif Nat.blt t 19 then (bif Nat.blt t 18 then some ty17 else some ty18) else (bif Nat.blt t 20 then some ty19 else some ty20))) else (bif Nat.blt t 25 then (bif Nat.blt t 23 then (bif Nat.blt t 22 then some ty21 else some ty22) else (bif Nat.blt t 24 then some ty23 else some ty24)) else (bif Nat.blt t 27 then (bif Nat.blt t 26 then some ty25 else some ty26) else (bif Nat.blt t 28 then some ty27 else some ty28))))) else (bif Nat.blt t 43 then (bif Nat.blt t 36 then (bif Nat.blt t 32 then (bif Nat.blt t 30 then some ty29 else (bif Nat.blt t 31 then some ty30 else some ty31)) else (bif Nat.blt t 34 then (bif Nat.blt t 33 then some ty32 else some ty33) else (bif Nat.blt t 35 then some ty34 else some ty35))) else (bif Nat.blt t 39 then (bif Nat.blt t 37 then some ty36 else (bif Nat.blt t 38 then some ty37 else some ty38)) else (bif Nat.blt t 41 then (bif Nat.blt t 40 then some ty39 else some ty40) else (bif Nat.blt t 42 then some ty41 else some ty42)))) else (bif Nat.blt t 50 then (bif Nat.blt t 46 then (bif Nat.blt t 44 then some ty43 else (bif Nat.blt t 45 then some ty44 else some ty45)) else (bif Nat.blt t 48 then (bif Nat.blt t 47 then some ty46 else some ty47) else (bif Nat.blt t 49 then some ty48 else some ty49))) else (bif Nat.blt t 54 then (bif Nat.blt t 52 then (bif Nat.blt t 51 then some ty50 else some ty51) else (bif Nat.blt t 53 then some ty52 else some ty53)) else (bif Nat.blt t 56 then (bif Nat.blt t 55 then some ty54 else some ty55) else (bif Nat.blt t 57 then some ty56 else some ty57)))))) else (bif Nat.blt t 87 then (bif Nat.blt t 72 then (bif Nat.blt t 65 then (bif Nat.blt t 61 then (bif Nat.blt t 59 then some ty58 else (bif Nat.blt t 60 then some ty59 else some ty60)) else (bif Nat.blt t 63 then (bif Nat.blt t 62 then some ty61 else some ty62) else (bif Nat.blt t 64 then some ty63 else some ty64))) else (bif Nat.blt t 68 then (bif Nat.blt t 66 then some ty65 else (bif Nat.blt t 67 then some ty66 else some ty67)) else (bif Nat.blt t 70 then (bif Nat.blt t 69 then some ty68 else some ty69) else (bif Nat.blt t 71 then some ty70 else some ty71)))) else (bif Nat.blt t 79 then (bif Nat.blt t 75 then (bif Nat.blt t 73 then some ty72 else (bif Nat.blt t 74 then some ty73 else some ty74)) else (bif Nat.blt t 77 then (bif Nat.blt t 76 then some ty75 else some ty76) else (bif Nat.blt t 78 then some ty77 else some ty78))) else (bif Nat.blt t 83 then (bif Nat.blt t 81 then (bif Nat.blt t 80 then some ty79 else some ty80) else (bif Nat.blt t 82 then some ty81 else some ty82)) else (bif Nat.blt t 85 then (bif Nat.blt t 84 then some ty83 else some ty84) else (bif Nat.blt t 86 then some ty85 else some ty86))))) else (bif Nat.blt t 102 then (bif Nat.blt t 94 then (bif Nat.blt t 90 then (bif Nat.blt t 88 then some ty87 else (bif Nat.blt t 89 then some ty88 else some ty89)) else (bif Nat.blt t 92 then (bif Nat.blt t 91 then some ty90 else some ty91) else (bif Nat.blt t 93 then some ty92 else some ty93))) else (bif Nat.blt t 98 then (bif Nat.blt t 96 then (bif Nat.blt t 95 then some ty94 else some ty95) else (bif Nat.blt t 97 then some ty96 else some ty97)) else (bif Nat.blt t 100 then (bif Nat.blt t 99 then some ty98 else some ty99) else (bif Nat.blt t 101 then some ty100 else some ty101)))) else (bif Nat.blt t 109 then (bif Nat.blt t 105 then (bif Nat.blt t 103 then some ty102 else (bif Nat.blt t 104 then some ty103 else some ty104)) else (bif Nat.blt t 107 then (bif Nat.blt t 106 then some ty105 else some ty106) else (bif Nat.blt t 108 then some ty107 else some ty108))) else (bif Nat.blt t 113 then (bif Nat.blt t 111 then (bif Nat.blt t 110 then some ty109 else some ty110) else (bif Nat.blt t 112 then some ty111 else some ty112)) else (bif Nat.blt t 115 then (bif Nat.blt t 114 then some ty113 else some ty114) else (bif Nat.blt t 116 then some ty115 else some ty116))))))) else none
theorem ti_all : (List.range 117).map TI = (List.range 117).map (tyOf Go.Proofs.Try.prog) := by kernel_rfl
theorem tok : TOk Go.Proofs.Try.prog TI := by
  intro t i h
  by_cases c : t < 117
  · have h1 : ((List.range 117).map TI)[t]? = ((List.range 117).map (tyOf Go.Proofs.Try.prog))[t]? := by rw [ti_all]
    rw [List.getElem?_map, List.getElem?_map, List.getElem?_range c] at h1
    simp only [Option.map_some, Option.some.injEq] at h1
    rw [← h1, h]
  · have h2 : Nat.blt t 117 = false := by
      rw [Bool.eq_false_iff]
      intro hc
      exact c (Nat.blt_eq.mp hc)
    unfold TI at h
    rw [h2] at h
    cases h
theorem mix : Go.Proofs.Try.prog.follows .mixedOrders = true := by kernel_rfl
end Go.Proofs.Ytidfabbnobipkaa.Sv
