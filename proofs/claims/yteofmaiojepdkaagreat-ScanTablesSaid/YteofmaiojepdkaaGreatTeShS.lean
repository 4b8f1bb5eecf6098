/- Encode of the reference, walked: formats 1, 2, 3, 4, 5. -/
import Derived.Test.YteofmaiojepdkaaGreatTeRefC3
import Derived.Shelf.SlLaysF0
import Derived.Test.YteofmaiojepdkaaGreatProg
set_option linter.all false
namespace Go.Proofs
open Go.Shelf
def Tryz.sortItm_ren : Go.Shelf.Ren := ⟨fun | 6 => 96 | 15 => 123 | 14 => 122 | 28 => 147 | 29 => 148 | 20 => 139 | 21 => 140 | 22 => 141 | 23 => 142 | 24 => 143 | 25 => 144 | 26 => 145 | 27 => 146 | 46 => 171 | 47 => 172 | 48 => 173 | 49 => 174 | 50 => 175 | 57 => 182 | n => n, fun | 22 => 48 | 24 => 55 | 25 => 180 | 3 => 3 | 39 => 77 | 0 => 0 | 53 => 43 | 55 => 220 | 4 => 4 | 46 => 212 | 45 => 211 | 50 => 216 | 5 => 5 | 9 => 9 | 66 => 237 | 70 => 241 | 76 => 249 | 77 => 250 | n => n, fun | n => n⟩
theorem Tryz.sortItm : Go.Proofs.SlLaysF0.n6 Tryz.prog Tryz.sortItm_ren := {
 mixed := by kernel_rfl
 f6 := ⟨Tryz.f96.name, by decide, Tryz.func96.trans (congrArg some (by kernel_rfl))⟩
 f14 := ⟨Tryz.f122.name, by decide, Tryz.func122.trans (congrArg some (by kernel_rfl))⟩
 f15 := Tryz.func123.trans (congrArg some (by kernel_rfl))
 f20 := ⟨Tryz.f139.name, by decide, Tryz.func139.trans (congrArg some (by kernel_rfl))⟩
 f21 := ⟨Tryz.f140.name, by decide, Tryz.func140.trans (congrArg some (by kernel_rfl))⟩
 f22 := ⟨Tryz.f141.name, by decide, Tryz.func141.trans (congrArg some (by kernel_rfl))⟩
 f23 := ⟨Tryz.f142.name, by decide, Tryz.func142.trans (congrArg some (by kernel_rfl))⟩
 f24 := ⟨Tryz.f143.name, by decide, Tryz.func143.trans (congrArg some (by kernel_rfl))⟩
 f25 := ⟨Tryz.f144.name, by decide, Tryz.func144.trans (congrArg some (by kernel_rfl))⟩
 f26 := ⟨Tryz.f145.name, by decide, Tryz.func145.trans (congrArg some (by kernel_rfl))⟩
 f27 := ⟨Tryz.f146.name, by decide, Tryz.func146.trans (congrArg some (by kernel_rfl))⟩
 f28 := Tryz.func147.trans (congrArg some (by kernel_rfl))
 f29 := Tryz.func148.trans (congrArg some (by kernel_rfl))
 f46 := ⟨Tryz.f171.name, by decide, Tryz.func171.trans (congrArg some (by kernel_rfl))⟩
 f47 := Tryz.func172.trans (congrArg some (by kernel_rfl))
 f48 := Tryz.func173.trans (congrArg some (by kernel_rfl))
 f49 := ⟨Tryz.f174.name, by decide, Tryz.func174.trans (congrArg some (by kernel_rfl))⟩
 f50 := ⟨Tryz.f175.name, by decide, Tryz.func175.trans (congrArg some (by kernel_rfl))⟩
 f57 := ⟨Tryz.f182.name, by decide, Tryz.func182.trans (congrArg some (by kernel_rfl))⟩
 t0 := Tryz.underlying0
 a0 := Tryz.isAgg0
 z0 := Tryz.sizeOf0
 v0 := Tryz.zeroValue0
 t3 := Tryz.underlying3
 a3 := Tryz.isAgg3
 z3 := Tryz.sizeOf3
 v3 := Tryz.zeroValue3
 t4 := Tryz.underlying4
 a4 := Tryz.isAgg4
 z4 := Tryz.sizeOf4
 v4 := Tryz.zeroValue4
 t5 := Tryz.underlying5
 a5 := Tryz.isAgg5
 z5 := Tryz.sizeOf5
 v5 := Tryz.zeroValue5
 t9 := Tryz.underlying9
 a9 := Tryz.isAgg9
 z9 := Tryz.sizeOf9
 v9 := Tryz.zeroValue9
 t22 := Tryz.underlying48
 a22 := Tryz.isAgg48
 z22 := Tryz.sizeOf48
 v22 := Tryz.zeroValue48
 t25 := Tryz.underlying180
 a25 := Tryz.isAgg180
 z25 := Tryz.sizeOf180
 v25 := Tryz.zeroValue180
 t39 := Tryz.underlying77
 a39 := Tryz.isAgg77
 z39 := Tryz.sizeOf77
 v39 := Tryz.zeroValue77
 t45 := Tryz.underlying211
 a45 := Tryz.isAgg211
 z45 := Tryz.sizeOf211
 v45 := Tryz.zeroValue211
 t46 := Tryz.underlying212
 a46 := Tryz.isAgg212
 z46 := Tryz.sizeOf212
 v46 := Tryz.zeroValue212
 t50 := Tryz.underlying216
 a50 := Tryz.isAgg216
 z50 := Tryz.sizeOf216
 v50 := Tryz.zeroValue216
 t53 := Tryz.underlying43
 a53 := Tryz.isAgg43
 z53 := Tryz.sizeOf43
 v53 := Tryz.zeroValue43
 t55 := Tryz.underlying220
 a55 := Tryz.isAgg220
 z55 := Tryz.sizeOf220
 v55 := Tryz.zeroValue220
 t66 := Tryz.underlying237
 a66 := Tryz.isAgg237
 z66 := Tryz.sizeOf237
 v66 := Tryz.zeroValue237
 t70 := Tryz.underlying241
 a70 := Tryz.isAgg241
 z70 := Tryz.sizeOf241
 v70 := Tryz.zeroValue241
 t76 := Tryz.underlying249
 a76 := Tryz.isAgg249
 z76 := Tryz.sizeOf249
 v76 := Tryz.zeroValue249
 t77 := Tryz.underlying250
 a77 := Tryz.isAgg250
 z77 := Tryz.sizeOf250
 v77 := Tryz.zeroValue250 }
def Tryz.sortIss_ren : Go.Shelf.Ren := ⟨fun | 6 => 98 | 15 => 123 | 14 => 124 | 28 => 147 | 29 => 148 | 20 => 149 | 21 => 150 | 22 => 151 | 23 => 152 | 24 => 153 | 25 => 154 | 26 => 155 | 27 => 156 | 46 => 176 | 47 => 172 | 48 => 173 | 49 => 177 | 50 => 178 | 57 => 183 | n => n, fun | 22 => 36 | 24 => 58 | 25 => 184 | 3 => 3 | 39 => 77 | 0 => 0 | 53 => 43 | 55 => 220 | 4 => 4 | 46 => 212 | 45 => 211 | 50 => 216 | 5 => 5 | 9 => 9 | 66 => 237 | 70 => 241 | 76 => 249 | 77 => 250 | n => n, fun | n => n⟩
theorem Tryz.sortIss : Go.Proofs.SlLaysF0.n6 Tryz.prog Tryz.sortIss_ren := {
 mixed := by kernel_rfl
 f6 := ⟨Tryz.f98.name, by decide, Tryz.func98.trans (congrArg some (by kernel_rfl))⟩
 f14 := ⟨Tryz.f124.name, by decide, Tryz.func124.trans (congrArg some (by kernel_rfl))⟩
 f15 := Tryz.func123.trans (congrArg some (by kernel_rfl))
 f20 := ⟨Tryz.f149.name, by decide, Tryz.func149.trans (congrArg some (by kernel_rfl))⟩
 f21 := ⟨Tryz.f150.name, by decide, Tryz.func150.trans (congrArg some (by kernel_rfl))⟩
 f22 := ⟨Tryz.f151.name, by decide, Tryz.func151.trans (congrArg some (by kernel_rfl))⟩
 f23 := ⟨Tryz.f152.name, by decide, Tryz.func152.trans (congrArg some (by kernel_rfl))⟩
 f24 := ⟨Tryz.f153.name, by decide, Tryz.func153.trans (congrArg some (by kernel_rfl))⟩
 f25 := ⟨Tryz.f154.name, by decide, Tryz.func154.trans (congrArg some (by kernel_rfl))⟩
 f26 := ⟨Tryz.f155.name, by decide, Tryz.func155.trans (congrArg some (by kernel_rfl))⟩
 f27 := ⟨Tryz.f156.name, by decide, Tryz.func156.trans (congrArg some (by kernel_rfl))⟩
 f28 := Tryz.func147.trans (congrArg some (by kernel_rfl))
 f29 := Tryz.func148.trans (congrArg some (by kernel_rfl))
 f46 := ⟨Tryz.f176.name, by decide, Tryz.func176.trans (congrArg some (by kernel_rfl))⟩
 f47 := Tryz.func172.trans (congrArg some (by kernel_rfl))
 f48 := Tryz.func173.trans (congrArg some (by kernel_rfl))
 f49 := ⟨Tryz.f177.name, by decide, Tryz.func177.trans (congrArg some (by kernel_rfl))⟩
 f50 := ⟨Tryz.f178.name, by decide, Tryz.func178.trans (congrArg some (by kernel_rfl))⟩
 f57 := ⟨Tryz.f183.name, by decide, Tryz.func183.trans (congrArg some (by kernel_rfl))⟩
 t0 := Tryz.underlying0
 a0 := Tryz.isAgg0
 z0 := Tryz.sizeOf0
 v0 := Tryz.zeroValue0
 t3 := Tryz.underlying3
 a3 := Tryz.isAgg3
 z3 := Tryz.sizeOf3
 v3 := Tryz.zeroValue3
 t4 := Tryz.underlying4
 a4 := Tryz.isAgg4
 z4 := Tryz.sizeOf4
 v4 := Tryz.zeroValue4
 t5 := Tryz.underlying5
 a5 := Tryz.isAgg5
 z5 := Tryz.sizeOf5
 v5 := Tryz.zeroValue5
 t9 := Tryz.underlying9
 a9 := Tryz.isAgg9
 z9 := Tryz.sizeOf9
 v9 := Tryz.zeroValue9
 t22 := Tryz.underlying36
 a22 := Tryz.isAgg36
 z22 := Tryz.sizeOf36
 v22 := Tryz.zeroValue36
 t25 := Tryz.underlying184
 a25 := Tryz.isAgg184
 z25 := Tryz.sizeOf184
 v25 := Tryz.zeroValue184
 t39 := Tryz.underlying77
 a39 := Tryz.isAgg77
 z39 := Tryz.sizeOf77
 v39 := Tryz.zeroValue77
 t45 := Tryz.underlying211
 a45 := Tryz.isAgg211
 z45 := Tryz.sizeOf211
 v45 := Tryz.zeroValue211
 t46 := Tryz.underlying212
 a46 := Tryz.isAgg212
 z46 := Tryz.sizeOf212
 v46 := Tryz.zeroValue212
 t50 := Tryz.underlying216
 a50 := Tryz.isAgg216
 z50 := Tryz.sizeOf216
 v50 := Tryz.zeroValue216
 t53 := Tryz.underlying43
 a53 := Tryz.isAgg43
 z53 := Tryz.sizeOf43
 v53 := Tryz.zeroValue43
 t55 := Tryz.underlying220
 a55 := Tryz.isAgg220
 z55 := Tryz.sizeOf220
 v55 := Tryz.zeroValue220
 t66 := Tryz.underlying237
 a66 := Tryz.isAgg237
 z66 := Tryz.sizeOf237
 v66 := Tryz.zeroValue237
 t70 := Tryz.underlying241
 a70 := Tryz.isAgg241
 z70 := Tryz.sizeOf241
 v70 := Tryz.zeroValue241
 t76 := Tryz.underlying249
 a76 := Tryz.isAgg249
 z76 := Tryz.sizeOf249
 v76 := Tryz.zeroValue249
 t77 := Tryz.underlying250
 a77 := Tryz.isAgg250
 z77 := Tryz.sizeOf250
 v77 := Tryz.zeroValue250 }
def Tryz.sortPlc_ren : Go.Shelf.Ren := ⟨fun | 6 => 104 | 15 => 123 | 14 => 128 | 28 => 147 | 29 => 148 | 20 => 157 | 21 => 158 | 22 => 159 | 23 => 160 | 24 => 161 | 25 => 162 | 26 => 163 | 27 => 164 | 46 => 179 | 47 => 172 | 48 => 173 | 49 => 180 | 50 => 181 | 57 => 184 | n => n, fun | 22 => 40 | 24 => 47 | 25 => 148 | 3 => 3 | 39 => 77 | 0 => 0 | 53 => 43 | 55 => 220 | 4 => 4 | 46 => 212 | 45 => 211 | 50 => 216 | 5 => 5 | 9 => 9 | 66 => 237 | 70 => 241 | 76 => 249 | 77 => 250 | n => n, fun | n => n⟩
theorem Tryz.sortPlc : Go.Proofs.SlLaysF0.n6 Tryz.prog Tryz.sortPlc_ren := {
 mixed := by kernel_rfl
 f6 := ⟨Tryz.f104.name, by decide, Tryz.func104.trans (congrArg some (by kernel_rfl))⟩
 f14 := ⟨Tryz.f128.name, by decide, Tryz.func128.trans (congrArg some (by kernel_rfl))⟩
 f15 := Tryz.func123.trans (congrArg some (by kernel_rfl))
 f20 := ⟨Tryz.f157.name, by decide, Tryz.func157.trans (congrArg some (by kernel_rfl))⟩
 f21 := ⟨Tryz.f158.name, by decide, Tryz.func158.trans (congrArg some (by kernel_rfl))⟩
 f22 := ⟨Tryz.f159.name, by decide, Tryz.func159.trans (congrArg some (by kernel_rfl))⟩
 f23 := ⟨Tryz.f160.name, by decide, Tryz.func160.trans (congrArg some (by kernel_rfl))⟩
 f24 := ⟨Tryz.f161.name, by decide, Tryz.func161.trans (congrArg some (by kernel_rfl))⟩
 f25 := ⟨Tryz.f162.name, by decide, Tryz.func162.trans (congrArg some (by kernel_rfl))⟩
 f26 := ⟨Tryz.f163.name, by decide, Tryz.func163.trans (congrArg some (by kernel_rfl))⟩
 f27 := ⟨Tryz.f164.name, by decide, Tryz.func164.trans (congrArg some (by kernel_rfl))⟩
 f28 := Tryz.func147.trans (congrArg some (by kernel_rfl))
 f29 := Tryz.func148.trans (congrArg some (by kernel_rfl))
 f46 := ⟨Tryz.f179.name, by decide, Tryz.func179.trans (congrArg some (by kernel_rfl))⟩
 f47 := Tryz.func172.trans (congrArg some (by kernel_rfl))
 f48 := Tryz.func173.trans (congrArg some (by kernel_rfl))
 f49 := ⟨Tryz.f180.name, by decide, Tryz.func180.trans (congrArg some (by kernel_rfl))⟩
 f50 := ⟨Tryz.f181.name, by decide, Tryz.func181.trans (congrArg some (by kernel_rfl))⟩
 f57 := ⟨Tryz.f184.name, by decide, Tryz.func184.trans (congrArg some (by kernel_rfl))⟩
 t0 := Tryz.underlying0
 a0 := Tryz.isAgg0
 z0 := Tryz.sizeOf0
 v0 := Tryz.zeroValue0
 t3 := Tryz.underlying3
 a3 := Tryz.isAgg3
 z3 := Tryz.sizeOf3
 v3 := Tryz.zeroValue3
 t4 := Tryz.underlying4
 a4 := Tryz.isAgg4
 z4 := Tryz.sizeOf4
 v4 := Tryz.zeroValue4
 t5 := Tryz.underlying5
 a5 := Tryz.isAgg5
 z5 := Tryz.sizeOf5
 v5 := Tryz.zeroValue5
 t9 := Tryz.underlying9
 a9 := Tryz.isAgg9
 z9 := Tryz.sizeOf9
 v9 := Tryz.zeroValue9
 t22 := Tryz.underlying40
 a22 := Tryz.isAgg40
 z22 := Tryz.sizeOf40
 v22 := Tryz.zeroValue40
 t25 := Tryz.underlying148
 a25 := Tryz.isAgg148
 z25 := Tryz.sizeOf148
 v25 := Tryz.zeroValue148
 t39 := Tryz.underlying77
 a39 := Tryz.isAgg77
 z39 := Tryz.sizeOf77
 v39 := Tryz.zeroValue77
 t45 := Tryz.underlying211
 a45 := Tryz.isAgg211
 z45 := Tryz.sizeOf211
 v45 := Tryz.zeroValue211
 t46 := Tryz.underlying212
 a46 := Tryz.isAgg212
 z46 := Tryz.sizeOf212
 v46 := Tryz.zeroValue212
 t50 := Tryz.underlying216
 a50 := Tryz.isAgg216
 z50 := Tryz.sizeOf216
 v50 := Tryz.zeroValue216
 t53 := Tryz.underlying43
 a53 := Tryz.isAgg43
 z53 := Tryz.sizeOf43
 v53 := Tryz.zeroValue43
 t55 := Tryz.underlying220
 a55 := Tryz.isAgg220
 z55 := Tryz.sizeOf220
 v55 := Tryz.zeroValue220
 t66 := Tryz.underlying237
 a66 := Tryz.isAgg237
 z66 := Tryz.sizeOf237
 v66 := Tryz.zeroValue237
 t70 := Tryz.underlying241
 a70 := Tryz.isAgg241
 z70 := Tryz.sizeOf241
 v70 := Tryz.zeroValue241
 t76 := Tryz.underlying249
 a76 := Tryz.isAgg249
 z76 := Tryz.sizeOf249
 v76 := Tryz.zeroValue249
 t77 := Tryz.underlying250
 a77 := Tryz.isAgg250
 z77 := Tryz.sizeOf250
 v77 := Tryz.zeroValue250 }
end Go.Proofs
namespace Go.Proofs.YteofmaiojepdkaaGreat
open Go.RowKit
set_option maxRecDepth 100000 in
set_option maxHeartbeats 40000000 in
theorem rencode_g0 (i : Ins) (hi : i.Ok) (hf : ze i.op = 1 ∨ ze i.op = 2 ∨ ze i.op = 3 ∨ ze i.op = 4 ∨ ze i.op = 5) (hv : zw i = true) (w : World) :
  Calls Tryz.prog 28 #[.agg #[.int .i64 (i).op, .int .i64 (i).d, .int .i64 (i).s, .int .u16 (i).imm, .int .u16 (i).aux, .int .i64 (i).bank, .int .i64 (i).size]] w fun e w' => e = .returned (.tuple #[.string (xu (i.op :: zL (ze i.op) i)), .int .i64 0]) ∧ Below w.heap.size w w' := by
 rcases hf with hf | hf | hf | hf | hf
 all_goals
  obtain ⟨-, ⟨o0, o1⟩, ⟨d0, d1⟩, ⟨s0, s1⟩, ⟨k0, k1⟩, -⟩ := yS i hi hv
  obtain ⟨m0, m1⟩ := hi.imm
  obtain ⟨x0, x1⟩ := hi.aux
  obtain ⟨i5, hi5, iz0, iz1, iz2⟩ := info_parts info5
  rw [valid_eq i hi] at hv
  have HF := zh hf
  have HV := zh hv
  clear hf hv
  have w1 : IntKind.u8.wrap i.op = i.op := IntWalk.u8_in _ (by omega)
  have w2 : IntKind.u8.wrap i.d = i.d := IntWalk.u8_in _ (by omega)
  have w3 : IntKind.u8.wrap (16 * i.d + i.s) = 16 * i.d + i.s := IntWalk.u8_in _ (by omega)
  have w4 : IntKind.u8.wrap i.bank = i.bank := IntWalk.u8_in _ (by omega)
  have w5 : IntKind.u8.wrap i.s = i.s := IntWalk.u8_in _ (by omega)
  go_enter Tryz.func28, Tryz.ntmps28
  go_upto_region 7 with (first
   | (go_at_call 59; refine (yi _ _).mono ?_; rintro e w1 ⟨rfl, hb1⟩; rw [HF.out]; have hz1 := hb1.size; simp at hz1; have HB1 := zh ((hb1.block w.heap.size (by simp)).trans (heap_alloc_new w _)))
   | (go_at_call 60; refine (jf i _).mono ?_; rintro e w2 ⟨rfl, hb2⟩; rw [HV.out]; have hz2 := hb2.size)
   | (refine wpList_load_row rfl _ (.tmp 1) rfl _ rfl _ _ _ _ HB1.out Tryz.underlying53 rfl ?_ ?_; kernel_rfl))
  have hc2 : ∀ o : Nat, w2.cell? ⟨w.heap.size, o, none⟩ = (#[Value.int .i64 i.op, .int .i64 i.d, .int .i64 i.s, .int .u16 i.imm, .int .u16 i.aux, .int .i64 i.bank, .int .i64 i.size] : Array Value)[o]? := fun o => cell_of_row w2 w.heap.size o _ _ _ ((hb2.block _ (by omega)).trans HB1.out)
  have hbb : Below w.heap.size w w2 := ((Below.refl _ _).alloc (zn _) _).trans ((hb1.mono (by simp)).trans (hb2.mono (by omega)))
  have HBB := zh hbb
  have hlt : w.heap.size < w2.heap.size := by omega
  clear hb1 hb2 hbb
  go_upto_region 12 with (first
   | (go_at_call 61; refine (two_any i.imm m0 m1 _).mono ?_; rintro e w3 ⟨rfl, rfl⟩)
   | (go_at_call 61; refine (two_any i.aux x0 x1 _).mono ?_; rintro e w3 ⟨rfl, rfl⟩))
  have hE : EHeld i w2.heap.size w (((w2.alloc (.cells #[.int .u8 i.op] 5)).alloc (.cells #[.int .u8 (i.imm % 256), .int .u8 (i.imm / 256)] 5)).alloc (.cells #[.int .u8 (i.aux % 256), .int .u8 (i.aux / 256)] 5)) := by
   have e1 : ((w2.alloc (.cells #[.int .u8 i.op] 5)).heap.size) = w2.heap.size + 1 := by simp
   have e2 : (((w2.alloc (.cells #[.int .u8 i.op] 5)).alloc (.cells #[.int .u8 (i.imm % 256), .int .u8 (i.imm / 256)] 5)).heap.size) = w2.heap.size + 2 := by simp
   refine ⟨fun o => ?_, fun o => ?_, fun o => ?_, ?_, (((HBB.out.alloc HBB.out.size _).alloc (by simp; omega) _).alloc (by simp; omega) _), hlt, by simp⟩
   ·rw [World.cell?_alloc_lt _ _ _ (by simp; omega), World.cell?_alloc_lt _ _ _ (by simp; omega), World.cell?_alloc_lt _ _ _ (by simp; omega)]; exact hc2 o
   ·rw [World.cell?_alloc_lt _ _ _ (by simp)]
    have := cell_of_row _ _ o _ _ _ (heap_alloc_new (w2.alloc (.cells #[.int .u8 i.op] 5)) (.cells #[.int .u8 (i.imm % 256), .int .u8 (i.imm / 256)] 5))
    rw [e1] at this; exact this
   ·have := cell_of_row _ _ o _ _ _ (heap_alloc_new ((w2.alloc (.cells #[.int .u8 i.op] 5)).alloc (.cells #[.int .u8 (i.imm % 256), .int .u8 (i.imm / 256)] 5)) (.cells #[.int .u8 (i.aux % 256), .int .u8 (i.aux / 256)] 5))
    rw [e2] at this; exact this
   ·exact ((World.ownsRow_lit (base := w2.heap.size) (size := 1) (e := 5) w2 #[.int .u8 i.op] 1 (zn _) (by decide) rfl).alloc _).alloc _
  have HE := zh hE
  clear hE
 ·have HTL := zh (show zL (ze i.op) i = [] from by rw [HF.out]; simp [zL])
  go_upto_region 42 with fail
  have hEE : EEnd i w2.heap.size (.slice (some ⟨w2.heap.size, 0, none⟩) 1 1) w (((w2.alloc (.cells #[.int .u8 i.op] 5)).alloc (.cells #[.int .u8 (i.imm % 256), .int .u8 (i.imm / 256)] 5)).alloc (.cells #[.int .u8 (i.aux % 256), .int .u8 (i.aux / 256)] 5)) := ⟨by rw [HTL.out]; exact HE.out.own, HE.out.hb⟩
  have hcv := zQ (P := Tryz.prog) _ 73 9 5 Tryz.underlying73 Tryz.underlying5 Tryz.underlying9 _ _ _ _ hEE.own
  go_wp2
  go_ret2
  exact ⟨rfl, hEE.hb⟩
 ·have HTL := zh (show zL (ze i.op) i = [i.d] from by rw [HF.out]; simp [zL])
  have hlit := World.ownsRow_lit (base := w2.heap.size) (size := 1) (e := 5) (((w2.alloc (.cells #[.int .u8 i.op] 5)).alloc (.cells #[.int .u8 (i.imm % 256), .int .u8 (i.imm / 256)] 5)).alloc (.cells #[.int .u8 (i.aux % 256), .int .u8 (i.aux / 256)] 5)) #[.int .u8 i.d] 1 (by simp <;> omega) (by decide) rfl
  simp only [World.size_alloc] at hlit
  have HLIT := zh hlit
  have HOWNA := zh (HE.out.alloc (.cells #[.int .u8 i.d] 5)).own
  clear hlit
  go_upto_region 42 with (at_builtin; go_must (refine zN rfl _ _ _ rfl w2.heap.size 5 i5 (.int .u8 0) 1 Tryz.underlying73 hi5 iz0 iz1 iz2 rfl _ _ _ rfl HOWNA.out _ _ _ _ rfl HLIT.out (by simp [Value.oneCell']) (by decide) (by decide) (by simp <;> omega) ?_); intro v6 w6 hown6 hg6; have HEE := zh ((HE.out.alloc (.cells #[.int .u8 i.d] 5)).end hg6 _ HTL.out hown6); clear hown6 hg6)
  have hEE := HEE.out
  have hcv := zQ (P := Tryz.prog) _ 73 9 5 Tryz.underlying73 Tryz.underlying5 Tryz.underlying9 _ _ _ _ hEE.own
  go_wp2
  go_ret2
  exact ⟨rfl, hEE.hb⟩
 ·have HTL := zh (show zL (ze i.op) i = [i.imm % 256] from by rw [HF.out]; simp [zL])
  have hlit := World.ownsRow_lit (base := w2.heap.size) (size := 1) (e := 5) (((w2.alloc (.cells #[.int .u8 i.op] 5)).alloc (.cells #[.int .u8 (i.imm % 256), .int .u8 (i.imm / 256)] 5)).alloc (.cells #[.int .u8 (i.aux % 256), .int .u8 (i.aux / 256)] 5)) #[.int .u8 (i.imm % 256)] 1 (by simp <;> omega) (by decide) rfl
  simp only [World.size_alloc] at hlit
  have HLIT := zh hlit
  have HOWNA := zh (HE.out.alloc (.cells #[.int .u8 (i.imm % 256)] 5)).own
  clear hlit
  go_upto_region 42 with (at_builtin; go_must (refine zN rfl _ _ _ rfl w2.heap.size 5 i5 (.int .u8 0) 1 Tryz.underlying73 hi5 iz0 iz1 iz2 rfl _ _ _ rfl HOWNA.out _ _ _ _ rfl HLIT.out (by simp [Value.oneCell']) (by decide) (by decide) (by simp <;> omega) ?_); intro v6 w6 hown6 hg6; have HEE := zh ((HE.out.alloc (.cells #[.int .u8 (i.imm % 256)] 5)).end hg6 _ HTL.out hown6); clear hown6 hg6)
  have hEE := HEE.out
  have hcv := zQ (P := Tryz.prog) _ 73 9 5 Tryz.underlying73 Tryz.underlying5 Tryz.underlying9 _ _ _ _ hEE.own
  go_wp2
  go_ret2
  exact ⟨rfl, hEE.hb⟩
 ·have HTL := zh (show zL (ze i.op) i = [16 * i.d + i.s] from by rw [HF.out]; simp [zL])
  have hlit := World.ownsRow_lit (base := w2.heap.size) (size := 1) (e := 5) (((w2.alloc (.cells #[.int .u8 i.op] 5)).alloc (.cells #[.int .u8 (i.imm % 256), .int .u8 (i.imm / 256)] 5)).alloc (.cells #[.int .u8 (i.aux % 256), .int .u8 (i.aux / 256)] 5)) #[.int .u8 (16 * i.d + i.s)] 1 (by simp <;> omega) (by decide) rfl
  simp only [World.size_alloc] at hlit
  have HLIT := zh hlit
  have HOWNA := zh (HE.out.alloc (.cells #[.int .u8 (16 * i.d + i.s)] 5)).own
  clear hlit
  go_upto_region 42 with (at_builtin; go_must (refine zN rfl _ _ _ rfl w2.heap.size 5 i5 (.int .u8 0) 1 Tryz.underlying73 hi5 iz0 iz1 iz2 rfl _ _ _ rfl HOWNA.out _ _ _ _ rfl HLIT.out (by simp [Value.oneCell']) (by decide) (by decide) (by simp <;> omega) ?_); intro v6 w6 hown6 hg6; have HEE := zh ((HE.out.alloc (.cells #[.int .u8 (16 * i.d + i.s)] 5)).end hg6 _ HTL.out hown6); clear hown6 hg6)
  have hEE := HEE.out
  have hcv := zQ (P := Tryz.prog) _ 73 9 5 Tryz.underlying73 Tryz.underlying5 Tryz.underlying9 _ _ _ _ hEE.own
  go_wp2
  go_ret2
  exact ⟨rfl, hEE.hb⟩
 ·have HTL := zh (show zL (ze i.op) i = [i.d, i.imm % 256] from by rw [HF.out]; simp [zL])
  have hlit := World.ownsRow_lit (base := w2.heap.size) (size := 1) (e := 5) (((w2.alloc (.cells #[.int .u8 i.op] 5)).alloc (.cells #[.int .u8 (i.imm % 256), .int .u8 (i.imm / 256)] 5)).alloc (.cells #[.int .u8 (i.aux % 256), .int .u8 (i.aux / 256)] 5)) #[.int .u8 i.d, .int .u8 (i.imm % 256)] 2 (by simp <;> omega) (by decide) rfl
  simp only [World.size_alloc] at hlit
  have HLIT := zh hlit
  have HOWNA := zh (HE.out.alloc (.cells #[.int .u8 i.d, .int .u8 (i.imm % 256)] 5)).own
  clear hlit
  go_upto_region 42 with (at_builtin; go_must (refine zN rfl _ _ _ rfl w2.heap.size 5 i5 (.int .u8 0) 1 Tryz.underlying73 hi5 iz0 iz1 iz2 rfl _ _ _ rfl HOWNA.out _ _ _ _ rfl HLIT.out (by simp [Value.oneCell']) (by decide) (by decide) (by simp <;> omega) ?_); intro v6 w6 hown6 hg6; have HEE := zh ((HE.out.alloc (.cells #[.int .u8 i.d, .int .u8 (i.imm % 256)] 5)).end hg6 _ HTL.out hown6); clear hown6 hg6)
  have hEE := HEE.out
  have hcv := zQ (P := Tryz.prog) _ 73 9 5 Tryz.underlying73 Tryz.underlying5 Tryz.underlying9 _ _ _ _ hEE.own
  go_wp2
  go_ret2
  exact ⟨rfl, hEE.hb⟩
end Go.Proofs.YteofmaiojepdkaaGreat
