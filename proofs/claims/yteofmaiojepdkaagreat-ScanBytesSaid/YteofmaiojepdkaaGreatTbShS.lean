/- fields of the reference, walked: formats 1, 2, 3, 4, 5. -/
import Derived.Test.YteofmaiojepdkaaGreatTbRefC3
import Derived.Shelf.SlLaysF0
import Derived.Test.YteofmaiojepdkaaGreatProg
set_option linter.all false
namespace Go.Proofs
open Go.Shelf
def Tryz.sortItm_ren : Go.Shelf.Ren := ⟨fun | 6 => 96 | 15 => 123 | 14 => 122 | 28 => 147 | 29 => 148 | 20 => 139 | 21 => 140 | 22 => 141 | 23 => 142 | 24 => 143 | 25 => 144 | 26 => 145 | 27 => 146 | 46 => 171 | 47 => 172 | 48 => 173 | 49 => 174 | 50 => 175 | 57 => 182 | n => n, fun | 22 => 48 | 24 => 55 | 25 => 180 | 3 => 3 | 39 => 77 | 0 => 0 | 53 => 43 | 55 => 220 | 4 => 4 | 46 => 212 | 45 => 211 | 50 => 216 | 5 => 5 | 9 => 9 | 66 => 237 | 70 => 241 | 76 => 249 | 77 => 250 | n => n, fun | n => n⟩
theorem Tryz.sortItm : Go.Proofs.SlLaysF0.n6 Tryz.prog Tryz.sortItm_ren := {
 mixed := by kernel_rfl
 f6 := ⟨Tryz.f96.name, by decide, Tryz.func96.trans (congrArg some (by kernel_rfl))⟩
 f14 := ⟨Tryz.f122.name, by decide, Tryz.func122.trans (congrArg some (by kernel_rfl))⟩
 f15 := Tryz.func123.trans (congrArg some (by kernel_rfl))
 f20 := ⟨Tryz.f139.name, by decide, Tryz.func139.trans (congrArg some (by kernel_rfl))⟩
 f21 := ⟨Tryz.f140.name, by decide, Tryz.func140.trans (congrArg some (by kernel_rfl))⟩
 f22 := ⟨Tryz.f141.name, by decide, Tryz.func141.trans (congrArg some (by kernel_rfl))⟩
 f23 := ⟨Tryz.f142.name, by decide, Tryz.func142.trans (congrArg some (by kernel_rfl))⟩
 f24 := ⟨Tryz.f143.name, by decide, Tryz.func143.trans (congrArg some (by kernel_rfl))⟩
 f25 := ⟨Tryz.f144.name, by decide, Tryz.func144.trans (congrArg some (by kernel_rfl))⟩
 f26 := ⟨Tryz.f145.name, by decide, Tryz.func145.trans (congrArg some (by kernel_rfl))⟩
 f27 := ⟨Tryz.f146.name, by decide, Tryz.func146.trans (congrArg some (by kernel_rfl))⟩
 f28 := Tryz.func147.trans (congrArg some (by kernel_rfl))
 f29 := Tryz.func148.trans (congrArg some (by kernel_rfl))
 f46 := ⟨Tryz.f171.name, by decide, Tryz.func171.trans (congrArg some (by kernel_rfl))⟩
 f47 := Tryz.func172.trans (congrArg some (by kernel_rfl))
 f48 := Tryz.func173.trans (congrArg some (by kernel_rfl))
 f49 := ⟨Tryz.f174.name, by decide, Tryz.func174.trans (congrArg some (by kernel_rfl))⟩
 f50 := ⟨Tryz.f175.name, by decide, Tryz.func175.trans (congrArg some (by kernel_rfl))⟩
 f57 := ⟨Tryz.f182.name, by decide, Tryz.func182.trans (congrArg some (by kernel_rfl))⟩
 t0 := Tryz.underlying0
 a0 := Tryz.isAgg0
 z0 := Tryz.sizeOf0
 v0 := Tryz.zeroValue0
 t3 := Tryz.underlying3
 a3 := Tryz.isAgg3
 z3 := Tryz.sizeOf3
 v3 := Tryz.zeroValue3
 t4 := Tryz.underlying4
 a4 := Tryz.isAgg4
 z4 := Tryz.sizeOf4
 v4 := Tryz.zeroValue4
 t5 := Tryz.underlying5
 a5 := Tryz.isAgg5
 z5 := Tryz.sizeOf5
 v5 := Tryz.zeroValue5
 t9 := Tryz.underlying9
 a9 := Tryz.isAgg9
 z9 := Tryz.sizeOf9
 v9 := Tryz.zeroValue9
 t22 := Tryz.underlying48
 a22 := Tryz.isAgg48
 z22 := Tryz.sizeOf48
 v22 := Tryz.zeroValue48
 t25 := Tryz.underlying180
 a25 := Tryz.isAgg180
 z25 := Tryz.sizeOf180
 v25 := Tryz.zeroValue180
 t39 := Tryz.underlying77
 a39 := Tryz.isAgg77
 z39 := Tryz.sizeOf77
 v39 := Tryz.zeroValue77
 t45 := Tryz.underlying211
 a45 := Tryz.isAgg211
 z45 := Tryz.sizeOf211
 v45 := Tryz.zeroValue211
 t46 := Tryz.underlying212
 a46 := Tryz.isAgg212
 z46 := Tryz.sizeOf212
 v46 := Tryz.zeroValue212
 t50 := Tryz.underlying216
 a50 := Tryz.isAgg216
 z50 := Tryz.sizeOf216
 v50 := Tryz.zeroValue216
 t53 := Tryz.underlying43
 a53 := Tryz.isAgg43
 z53 := Tryz.sizeOf43
 v53 := Tryz.zeroValue43
 t55 := Tryz.underlying220
 a55 := Tryz.isAgg220
 z55 := Tryz.sizeOf220
 v55 := Tryz.zeroValue220
 t66 := Tryz.underlying237
 a66 := Tryz.isAgg237
 z66 := Tryz.sizeOf237
 v66 := Tryz.zeroValue237
 t70 := Tryz.underlying241
 a70 := Tryz.isAgg241
 z70 := Tryz.sizeOf241
 v70 := Tryz.zeroValue241
 t76 := Tryz.underlying249
 a76 := Tryz.isAgg249
 z76 := Tryz.sizeOf249
 v76 := Tryz.zeroValue249
 t77 := Tryz.underlying250
 a77 := Tryz.isAgg250
 z77 := Tryz.sizeOf250
 v77 := Tryz.zeroValue250 }
def Tryz.sortIss_ren : Go.Shelf.Ren := ⟨fun | 6 => 98 | 15 => 123 | 14 => 124 | 28 => 147 | 29 => 148 | 20 => 149 | 21 => 150 | 22 => 151 | 23 => 152 | 24 => 153 | 25 => 154 | 26 => 155 | 27 => 156 | 46 => 176 | 47 => 172 | 48 => 173 | 49 => 177 | 50 => 178 | 57 => 183 | n => n, fun | 22 => 36 | 24 => 58 | 25 => 184 | 3 => 3 | 39 => 77 | 0 => 0 | 53 => 43 | 55 => 220 | 4 => 4 | 46 => 212 | 45 => 211 | 50 => 216 | 5 => 5 | 9 => 9 | 66 => 237 | 70 => 241 | 76 => 249 | 77 => 250 | n => n, fun | n => n⟩
theorem Tryz.sortIss : Go.Proofs.SlLaysF0.n6 Tryz.prog Tryz.sortIss_ren := {
 mixed := by kernel_rfl
 f6 := ⟨Tryz.f98.name, by decide, Tryz.func98.trans (congrArg some (by kernel_rfl))⟩
 f14 := ⟨Tryz.f124.name, by decide, Tryz.func124.trans (congrArg some (by kernel_rfl))⟩
 f15 := Tryz.func123.trans (congrArg some (by kernel_rfl))
 f20 := ⟨Tryz.f149.name, by decide, Tryz.func149.trans (congrArg some (by kernel_rfl))⟩
 f21 := ⟨Tryz.f150.name, by decide, Tryz.func150.trans (congrArg some (by kernel_rfl))⟩
 f22 := ⟨Tryz.f151.name, by decide, Tryz.func151.trans (congrArg some (by kernel_rfl))⟩
 f23 := ⟨Tryz.f152.name, by decide, Tryz.func152.trans (congrArg some (by kernel_rfl))⟩
 f24 := ⟨Tryz.f153.name, by decide, Tryz.func153.trans (congrArg some (by kernel_rfl))⟩
 f25 := ⟨Tryz.f154.name, by decide, Tryz.func154.trans (congrArg some (by kernel_rfl))⟩
 f26 := ⟨Tryz.f155.name, by decide, Tryz.func155.trans (congrArg some (by kernel_rfl))⟩
 f27 := ⟨Tryz.f156.name, by decide, Tryz.func156.trans (congrArg some (by kernel_rfl))⟩
 f28 := Tryz.func147.trans (congrArg some (by kernel_rfl))
 f29 := Tryz.func148.trans (congrArg some (by kernel_rfl))
 f46 := ⟨Tryz.f176.name, by decide, Tryz.func176.trans (congrArg some (by kernel_rfl))⟩
 f47 := Tryz.func172.trans (congrArg some (by kernel_rfl))
 f48 := Tryz.func173.trans (congrArg some (by kernel_rfl))
 f49 := ⟨Tryz.f177.name, by decide, Tryz.func177.trans (congrArg some (by kernel_rfl))⟩
 f50 := ⟨Tryz.f178.name, by decide, Tryz.func178.trans (congrArg some (by kernel_rfl))⟩
 f57 := ⟨Tryz.f183.name, by decide, Tryz.func183.trans (congrArg some (by kernel_rfl))⟩
 t0 := Tryz.underlying0
 a0 := Tryz.isAgg0
 z0 := Tryz.sizeOf0
 v0 := Tryz.zeroValue0
 t3 := Tryz.underlying3
 a3 := Tryz.isAgg3
 z3 := Tryz.sizeOf3
 v3 := Tryz.zeroValue3
 t4 := Tryz.underlying4
 a4 := Tryz.isAgg4
 z4 := Tryz.sizeOf4
 v4 := Tryz.zeroValue4
 t5 := Tryz.underlying5
 a5 := Tryz.isAgg5
 z5 := Tryz.sizeOf5
 v5 := Tryz.zeroValue5
 t9 := Tryz.underlying9
 a9 := Tryz.isAgg9
 z9 := Tryz.sizeOf9
 v9 := Tryz.zeroValue9
 t22 := Tryz.underlying36
 a22 := Tryz.isAgg36
 z22 := Tryz.sizeOf36
 v22 := Tryz.zeroValue36
 t25 := Tryz.underlying184
 a25 := Tryz.isAgg184
 z25 := Tryz.sizeOf184
 v25 := Tryz.zeroValue184
 t39 := Tryz.underlying77
 a39 := Tryz.isAgg77
 z39 := Tryz.sizeOf77
 v39 := Tryz.zeroValue77
 t45 := Tryz.underlying211
 a45 := Tryz.isAgg211
 z45 := Tryz.sizeOf211
 v45 := Tryz.zeroValue211
 t46 := Tryz.underlying212
 a46 := Tryz.isAgg212
 z46 := Tryz.sizeOf212
 v46 := Tryz.zeroValue212
 t50 := Tryz.underlying216
 a50 := Tryz.isAgg216
 z50 := Tryz.sizeOf216
 v50 := Tryz.zeroValue216
 t53 := Tryz.underlying43
 a53 := Tryz.isAgg43
 z53 := Tryz.sizeOf43
 v53 := Tryz.zeroValue43
 t55 := Tryz.underlying220
 a55 := Tryz.isAgg220
 z55 := Tryz.sizeOf220
 v55 := Tryz.zeroValue220
 t66 := Tryz.underlying237
 a66 := Tryz.isAgg237
 z66 := Tryz.sizeOf237
 v66 := Tryz.zeroValue237
 t70 := Tryz.underlying241
 a70 := Tryz.isAgg241
 z70 := Tryz.sizeOf241
 v70 := Tryz.zeroValue241
 t76 := Tryz.underlying249
 a76 := Tryz.isAgg249
 z76 := Tryz.sizeOf249
 v76 := Tryz.zeroValue249
 t77 := Tryz.underlying250
 a77 := Tryz.isAgg250
 z77 := Tryz.sizeOf250
 v77 := Tryz.zeroValue250 }
def Tryz.sortPlc_ren : Go.Shelf.Ren := ⟨fun | 6 => 104 | 15 => 123 | 14 => 128 | 28 => 147 | 29 => 148 | 20 => 157 | 21 => 158 | 22 => 159 | 23 => 160 | 24 => 161 | 25 => 162 | 26 => 163 | 27 => 164 | 46 => 179 | 47 => 172 | 48 => 173 | 49 => 180 | 50 => 181 | 57 => 184 | n => n, fun | 22 => 40 | 24 => 47 | 25 => 148 | 3 => 3 | 39 => 77 | 0 => 0 | 53 => 43 | 55 => 220 | 4 => 4 | 46 => 212 | 45 => 211 | 50 => 216 | 5 => 5 | 9 => 9 | 66 => 237 | 70 => 241 | 76 => 249 | 77 => 250 | n => n, fun | n => n⟩
theorem Tryz.sortPlc : Go.Proofs.SlLaysF0.n6 Tryz.prog Tryz.sortPlc_ren := {
 mixed := by kernel_rfl
 f6 := ⟨Tryz.f104.name, by decide, Tryz.func104.trans (congrArg some (by kernel_rfl))⟩
 f14 := ⟨Tryz.f128.name, by decide, Tryz.func128.trans (congrArg some (by kernel_rfl))⟩
 f15 := Tryz.func123.trans (congrArg some (by kernel_rfl))
 f20 := ⟨Tryz.f157.name, by decide, Tryz.func157.trans (congrArg some (by kernel_rfl))⟩
 f21 := ⟨Tryz.f158.name, by decide, Tryz.func158.trans (congrArg some (by kernel_rfl))⟩
 f22 := ⟨Tryz.f159.name, by decide, Tryz.func159.trans (congrArg some (by kernel_rfl))⟩
 f23 := ⟨Tryz.f160.name, by decide, Tryz.func160.trans (congrArg some (by kernel_rfl))⟩
 f24 := ⟨Tryz.f161.name, by decide, Tryz.func161.trans (congrArg some (by kernel_rfl))⟩
 f25 := ⟨Tryz.f162.name, by decide, Tryz.func162.trans (congrArg some (by kernel_rfl))⟩
 f26 := ⟨Tryz.f163.name, by decide, Tryz.func163.trans (congrArg some (by kernel_rfl))⟩
 f27 := ⟨Tryz.f164.name, by decide, Tryz.func164.trans (congrArg some (by kernel_rfl))⟩
 f28 := Tryz.func147.trans (congrArg some (by kernel_rfl))
 f29 := Tryz.func148.trans (congrArg some (by kernel_rfl))
 f46 := ⟨Tryz.f179.name, by decide, Tryz.func179.trans (congrArg some (by kernel_rfl))⟩
 f47 := Tryz.func172.trans (congrArg some (by kernel_rfl))
 f48 := Tryz.func173.trans (congrArg some (by kernel_rfl))
 f49 := ⟨Tryz.f180.name, by decide, Tryz.func180.trans (congrArg some (by kernel_rfl))⟩
 f50 := ⟨Tryz.f181.name, by decide, Tryz.func181.trans (congrArg some (by kernel_rfl))⟩
 f57 := ⟨Tryz.f184.name, by decide, Tryz.func184.trans (congrArg some (by kernel_rfl))⟩
 t0 := Tryz.underlying0
 a0 := Tryz.isAgg0
 z0 := Tryz.sizeOf0
 v0 := Tryz.zeroValue0
 t3 := Tryz.underlying3
 a3 := Tryz.isAgg3
 z3 := Tryz.sizeOf3
 v3 := Tryz.zeroValue3
 t4 := Tryz.underlying4
 a4 := Tryz.isAgg4
 z4 := Tryz.sizeOf4
 v4 := Tryz.zeroValue4
 t5 := Tryz.underlying5
 a5 := Tryz.isAgg5
 z5 := Tryz.sizeOf5
 v5 := Tryz.zeroValue5
 t9 := Tryz.underlying9
 a9 := Tryz.isAgg9
 z9 := Tryz.sizeOf9
 v9 := Tryz.zeroValue9
 t22 := Tryz.underlying40
 a22 := Tryz.isAgg40
 z22 := Tryz.sizeOf40
 v22 := Tryz.zeroValue40
 t25 := Tryz.underlying148
 a25 := Tryz.isAgg148
 z25 := Tryz.sizeOf148
 v25 := Tryz.zeroValue148
 t39 := Tryz.underlying77
 a39 := Tryz.isAgg77
 z39 := Tryz.sizeOf77
 v39 := Tryz.zeroValue77
 t45 := Tryz.underlying211
 a45 := Tryz.isAgg211
 z45 := Tryz.sizeOf211
 v45 := Tryz.zeroValue211
 t46 := Tryz.underlying212
 a46 := Tryz.isAgg212
 z46 := Tryz.sizeOf212
 v46 := Tryz.zeroValue212
 t50 := Tryz.underlying216
 a50 := Tryz.isAgg216
 z50 := Tryz.sizeOf216
 v50 := Tryz.zeroValue216
 t53 := Tryz.underlying43
 a53 := Tryz.isAgg43
 z53 := Tryz.sizeOf43
 v53 := Tryz.zeroValue43
 t55 := Tryz.underlying220
 a55 := Tryz.isAgg220
 z55 := Tryz.sizeOf220
 v55 := Tryz.zeroValue220
 t66 := Tryz.underlying237
 a66 := Tryz.isAgg237
 z66 := Tryz.sizeOf237
 v66 := Tryz.zeroValue237
 t70 := Tryz.underlying241
 a70 := Tryz.isAgg241
 z70 := Tryz.sizeOf241
 v70 := Tryz.zeroValue241
 t76 := Tryz.underlying249
 a76 := Tryz.isAgg249
 z76 := Tryz.sizeOf249
 v76 := Tryz.zeroValue249
 t77 := Tryz.underlying250
 a77 := Tryz.isAgg250
 z77 := Tryz.sizeOf250
 v77 := Tryz.zeroValue250 }
end Go.Proofs
namespace Go.Proofs.YteofmaiojepdkaaGreat
open Go.RowKit
set_option maxHeartbeats 400000 in
theorem zN (n : Int) (h0 : 0 ≤ n) (h1 : n < 256) (w : World) :
  Calls Tryz.prog 114 #[.int .u8 n] w fun e w' => e = .returned (.int .u16 (zH n)) ∧ w = w' := by
 by_cases h : n < 128
 ·have e1 : zH n = n := by unfold zH; rw [if_pos h]
  rw [e1]
  go_enter Tryz.func114, Tryz.ntmps114
  go_wp2
  go_ret
  exact ⟨rfl, rfl⟩
 ·have e1 : zH n = 65280 + n := by unfold zH; rw [if_neg h]; omega
  rw [e1]
  have h' : 128 ≤ n := by omega
  have hw : IntKind.u16.wrap n = n := IntWalk.u16_in _ (by omega)
  have hw2 : IntKind.u16.wrap (65280 + n) = 65280 + n := IntWalk.u16_in _ (by omega)
  go_enter Tryz.func114, Tryz.ntmps114
  go_wp2
  go_ret
  exact ⟨rfl, rfl⟩
end Go.Proofs.YteofmaiojepdkaaGreat
namespace Go.Proofs.YteofmaiojepdkaaGreat
open Go.RowKit
set_option maxHeartbeats 1000000 in
theorem xv (s : ByteArray) (k : Nat) (h : k + 1 < s.size) (hm : s.size ≤ 9223372036854775807) (kk : Int) (hk : kk = k) (w : World) :
  Calls Tryz.prog 115 #[.string s, .int .i64 kk] w fun e w' => e = .returned (.int .u16 (byt s k + 256 * byt s (k + 1))) ∧ Below w.heap.size w w' := by
 have ix : ∀ W, (Instr.index 9 (.string s) (.int .i64 kk)).run Tryz.prog W = .ok (.int .u8 (byt s k)) W := by subst hk; exact zl s k (by omega)
 have hkw : IntKind.i64.wrap (kk + 1) = kk + 1 := IntWalk.i64_in _ (by omega)
 have ix1 : ∀ W, (Instr.index 9 (.string s) (.int .i64 (kk + 1))).run Tryz.prog W = .ok (.int .u8 (byt s (k + 1))) W := by
  subst hk; have := zl s (k + 1) h; simpa using this
 obtain ⟨b0, b1⟩ := zL s k
 obtain ⟨c0, c1⟩ := zL s (k + 1)
 have k0 : 0 ≤ kk := by omega
 have k1 : kk ≤ 9223372036854775805 := by omega
 clear hk h hm
 generalize byt s k = x at *
 generalize byt s (k + 1) = y at *
 have h1 : IntKind.u16.wrap x = x := IntWalk.u16_in _ (by omega)
 have h2 : IntKind.u16.wrap y = y := IntWalk.u16_in _ (by omega)
 have h3 : IntKind.u16.wrap (256 * y) = 256 * y := IntWalk.u16_in _ (by omega)
 have h4 : IntKind.u16.wrap (x + 256 * y) = x + 256 * y := IntWalk.u16_in _ (by omega)
 go_enter Tryz.func115, Tryz.ntmps115
 go_upto_region 1 with fail
 go_quiet (fail)
 go_wp2
 go_ret
 exact ⟨rfl, rfl, rfl, rfl, zn _, fun _ _ => rfl⟩
def RFCut (s : ByteArray) (w : World) (v : Value) (w' : World) : Prop :=
 ∃ g, v = .pointer (some ⟨g, 0, none⟩) ∧ w'.heap[g]? = some (.cells #[Value.int .i64 (byt s 0), .int .i64 0, .int .i64 0, .int .u16 0, .int .u16 0, .int .i64 0, .int .i64 (zc (byt s 0))] 53 (0, 0)) ∧ w'.heap[w.heap.size]? = some (.cells #[Value.int .i64 0, .int .i64 0, .int .i64 0, .int .u16 0, .int .u16 0, .int .i64 0, .int .i64 0] 53 (0, 0)) ∧ w.heap.size < g ∧ g < w'.heap.size ∧ Below w.heap.size w w'
theorem RFCut.mk' {s w g w' W} (hW : w.alloc (.cells #[Value.int .i64 0, .int .i64 0, .int .i64 0, .int .u16 0, .int .u16 0, .int .i64 0, .int .i64 0] 53) = W) (h1 : w'.heap[g]? = some (.cells #[Value.int .i64 (byt s 0), .int .i64 0, .int .i64 0, .int .u16 0, .int .u16 0, .int .i64 0, .int .i64 (zc (byt s 0))] 53 (0, 0))) (h2 : w.heap.size < g) (h3 : g < w'.heap.size) (hb : Below (w.heap.size + 1) W w') : RFCut s w (.pointer (some ⟨g, 0, none⟩)) w' := by
 subst hW
 refine ⟨g, rfl, h1, ?_, h2, h3, ((Below.refl _ _).alloc (zn _) _).trans (hb.mono (by omega))⟩
 rw [hb.block _ (by omega)]; exact heap_alloc_new _ _
end Go.Proofs.YteofmaiojepdkaaGreat
namespace Go.Proofs.YteofmaiojepdkaaGreat
open Go.RowKit
set_option maxRecDepth 100000 in
set_option maxHeartbeats 20000000 in
theorem rfields_g0 (s : ByteArray) (hf : (zq (byt s 0) = 1 ∧ 1 ≤ s.size) ∨ (zq (byt s 0) = 2 ∧ 2 ≤ s.size) ∨ (zq (byt s 0) = 3 ∧ 2 ≤ s.size) ∨ (zq (byt s 0) = 4 ∧ 2 ≤ s.size) ∨ (zq (byt s 0) = 5 ∧ 3 ≤ s.size)) (hm : s.size ≤ 9223372036854775807) (w : World) :
  Calls Tryz.prog 84 #[.string s] w fun e w' => e = .returned (.agg (ze (rdF (zq (byt s 0)) (byt s) (byt s 0) (zc (byt s 0))))) ∧ Below w.heap.size w w' := by
 have ix : ∀ W, (Instr.index 9 (.string s) (.int .i64 0)).run Tryz.prog W = .ok (.int .u8 (byt s 0)) W := zl s 0 (by omega)
 obtain ⟨b0, b1⟩ := zL s 0
 have hw0 : IntKind.i64.wrap (byt s 0) = byt s 0 := IntWalk.i64_in _ (by omega)
 have HF := zh hf
 clear hf
 go_enter Tryz.func84, Tryz.ntmps84
 go_upto_region 1 with (fail)
 go_cut [3] (fun s3 wx => RFCut s w s3 wx)
 case first =>
  clear HF
  refine wp_region_noPanic ?_
  refine wp_region_held_drew (S := fun w' => True) (by kernel_rfl) trivial (fun hHeld => ?_)
  (refine tke 0 ?_)
  (refine tke 3 ?_)
  (refine tke 1 ?_)
  (refine tke 4 ?_)
  (refine tke 2 ?_)
  (refine wpAnyH_ready (rs := [5, 7]) (by kernel_rfl) (by simp) (AllReadyH.cons (o := _) rfl (fun K hK => ?_) (AllReadyH.cons (o := _) rfl (fun K hK => ?_) AllReadyH.nil)))
  ·rw [if_pos (by rfl)]
   go_simp
   refine (yH _ b0 b1 _).mono ?_
   rintro e w1 ⟨rfl, hb1⟩
   have hz := hb1.size
   simp at hz
   refine hK.out _ _ trivial (fun hHeld => ?_)
   (refine pts ?_)
   (refine tke 6 ?_)
   (refine wpAnyH_ready (rs := [7]) (by kernel_rfl) (by simp) (AllReadyH.cons (o := _) rfl (fun K hK => ?_) AllReadyH.nil))
   rw [if_pos (by rfl)]
   go_simp
   refine hK.out _ _ trivial (fun hHeld => ?_)
   (refine pts ?_)
   (refine wpAnyH_ready (rs := [8]) (by kernel_rfl) (by simp) (AllReadyH.cons (o := _) rfl (fun K hK => ?_) AllReadyH.nil))
   rw [if_pos (by rfl)]
   go_simp
   refine hK.out _ _ trivial (fun hHeld => wpAnyH_done (by kernel_rfl) ?_ _)
   (refine pts ?_)
   refine NoPanic.normal ?_
   go_wp2_with fail
   go_meet
   exact RFCut.mk' rfl (heap_alloc_new _ _) (by omega) (by simp) (((Below.refl _ _).drew.trans (hb1.mono (by simp))).alloc (by omega) _)
  ·rw [if_pos (by rfl)]
   go_simp
   refine hK.out _ _ trivial (fun hHeld => ?_)
   (refine pts ?_)
   (refine wpAnyH_ready (rs := [5]) (by kernel_rfl) (by simp) (AllReadyH.cons (o := _) rfl (fun K hK => ?_) AllReadyH.nil))
   rw [if_pos (by rfl)]
   go_simp
   refine (yH _ b0 b1 _).mono ?_
   rintro e w1 ⟨rfl, hb1⟩
   have hz := hb1.size
   simp at hz
   have hg1 : w1.heap[w.heap.size + 1]? = some (.cells #[Value.int .i64 0, .int .i64 0, .int .i64 0, .int .u16 0, .int .u16 0, .int .i64 0, .int .i64 0] 53 (0, 0)) := (hb1.block (w.heap.size + 1) (by simp <;> omega)).trans (news_row _ _ (by simp))
   refine hK.out _ _ trivial (fun hHeld => ?_)
   (refine pts ?_)
   (refine tke 6 ?_)
   (refine wpAnyH_ready (rs := [8]) (by kernel_rfl) (by simp) (AllReadyH.cons (o := _) rfl (fun K hK => ?_) AllReadyH.nil))
   rw [if_pos (by rfl)]
   refine wp_store_row _ _ _ rfl (w.heap.size + 1) _ rfl rfl _ _ hg1 ?_ ?_ ?_ ?_
   ·kernel_rfl
   ·rfl
   ·kernel_rfl
   refine hK.out _ _ trivial (fun hHeld => wpAnyH_done (by kernel_rfl) ?_ _)
   (refine pts ?_)
   refine NoPanic.normal ?_
   go_wp2_with fail
   go_meet
   exact RFCut.mk' rfl (setRow_heap _ _ _ _ _ _ hg1) (by omega) (by simp <;> omega) (below_setRow (((Below.refl _ _).alloc (by simp) _).drew.trans (hb1.mono (by simp))) (zn _) _)
 case rest =>
  obtain ⟨g, rfl, hg, hr, hlt, hlt2, hb⟩ := hcut
  have hq := cell_of_row wc g 0 _ _ _ hg
  have RR := zh hg
  have SS := zh hr
  have TT := zh hb
  clear hg hr hb
  have hf := HF.out
  clear HF
  rcases hf with ⟨hf, hs⟩ | ⟨hf, hs⟩ | ⟨hf, hs⟩ | ⟨hf, hs⟩ | ⟨hf, hs⟩
  all_goals
   have HF := zh hf
   clear hf
   go_upto_region 3 with (first
    | (go_at_call 59; refine (xo _ _).mono ?_; rintro e w3 ⟨rfl, hb3⟩; rw [HF.out]; have hz3 := hb3.size; replace RR := zh ((hb3.block g hlt2).trans RR.out); replace SS := zh ((hb3.block w.heap.size (by omega)).trans SS.out); replace TT := zh (TT.out.trans (hb3.mono TT.out.size)); clear hb3 hq))
   have hlt3 : g < w3.heap.size := by omega
   have hne : w.heap.size ≠ g := by omega
   have hle : w.heap.size ≤ g := by omega
   clear hz3 hlt2
   have hcz : ∀ j, w3.cell? ⟨g, j, none⟩ = (#[Value.int .i64 (byt s 0), .int .i64 0, .int .i64 0, .int .u16 0, .int .u16 0, .int .i64 0, .int .i64 (zc (byt s 0))] : Array Value)[j]? := fun j => cell_of_row w3 g j _ _ _ RR.out
   have hfz : ∀ j, w3.frozen? ⟨g, j, none⟩ = false := fun j => frozen_of_row w3 g j _ _ RR.out
  ·go_upto_region 52 with (first | (go_at_call 114; refine (zN _ (by omega) (by omega) _).mono ?_; rintro e ww ⟨rfl, rfl⟩))
   go_wp2_with (first
    | (refine wpList_load_row rfl _ (.tmp 3) rfl _ rfl _ #[.int .i64 (byt s 0), .int .i64 0, .int .i64 0, .int .u16 0, .int .u16 0, .int .i64 0, .int .i64 (zc (byt s 0))] _ _ RR.out Tryz.underlying53 rfl ?_ ?_; kernel_rfl)
    | (refine wpList_store_row rfl _ (.tmp 2) _ rfl _ #[.int .i64 (byt s 0), .int .i64 0, .int .i64 0, .int .u16 0, .int .u16 0, .int .i64 0, .int .i64 (zc (byt s 0))] rfl rfl _ _ SS.out ?_ ?_ ?_ ?_; kernel_rfl; rfl; kernel_rfl))
   refine bodyPost_ret (results_cell_row (cs := #[.int .i64 (byt s 0), .int .i64 0, .int .i64 0, .int .u16 0, .int .u16 0, .int .i64 0, .int .i64 (zc (byt s 0))]) (fr := (0, 0)) rfl _ _ w.heap.size 53 _ rfl (setRow_heap _ _ _ _ _ _ SS.out) (Tryz.underlying53) rfl (by kernel_rfl)) rfl ⟨?_, below_setRow TT.out (zn _) _⟩
   rw [HF.out]
   first | rfl | simp [rdF, ze, vi, vw]
  ·have ix1 : ∀ W, (Instr.index 9 (.string s) (.int .i64 1)).run Tryz.prog W = .ok (.int .u8 (byt s 1)) W := zl s 1 (by omega)
   obtain ⟨c1, d1⟩ := zL s 1
   have hx1 : IntKind.i64.wrap (byt s 1) = byt s 1 := IntWalk.i64_in _ (by omega)
   have hy1 : IntKind.u16.wrap (byt s 1) = byt s 1 := IntWalk.u16_in _ (by omega)
   go_upto_region 52 with (first | (go_at_call 114; refine (zN _ (by omega) (by omega) _).mono ?_; rintro e ww ⟨rfl, rfl⟩))
   have r0 := RR.out
   have s0 := SS.out
   have t0 := TT.out
   have r1 := heap_setCell_same _ g 1 _ _ (.int .i64 (byt s 1)) r0
   have s1 := (heap_setCell_other _ ⟨g, 1, none⟩ w.heap.size (.int .i64 (byt s 1)) hne).trans s0
   have t1 := t0.setCell (p := ⟨g, 1, none⟩) hle (.int .i64 (byt s 1))
   have rr : _ = some (Obj.cells #[.int .i64 (byt s 0), .int .i64 (byt s 1), .int .i64 0, .int .u16 0, .int .u16 0, .int .i64 0, .int .i64 (zc (byt s 0))] 53 (0, 0)) := r1
   replace RR := zh rr
   replace SS := zh s1
   replace TT := zh t1
   clear rr r0 s0 t0 r1 s1 t1
   go_wp2_with (first
    | (refine wpList_load_row rfl _ (.tmp 3) rfl _ rfl _ #[.int .i64 (byt s 0), .int .i64 (byt s 1), .int .i64 0, .int .u16 0, .int .u16 0, .int .i64 0, .int .i64 (zc (byt s 0))] _ _ RR.out Tryz.underlying53 rfl ?_ ?_; kernel_rfl)
    | (refine wpList_store_row rfl _ (.tmp 2) _ rfl _ #[.int .i64 (byt s 0), .int .i64 (byt s 1), .int .i64 0, .int .u16 0, .int .u16 0, .int .i64 0, .int .i64 (zc (byt s 0))] rfl rfl _ _ SS.out ?_ ?_ ?_ ?_; kernel_rfl; rfl; kernel_rfl))
   refine bodyPost_ret (results_cell_row (cs := #[.int .i64 (byt s 0), .int .i64 (byt s 1), .int .i64 0, .int .u16 0, .int .u16 0, .int .i64 0, .int .i64 (zc (byt s 0))]) (fr := (0, 0)) rfl _ _ w.heap.size 53 _ rfl (setRow_heap _ _ _ _ _ _ SS.out) (Tryz.underlying53) rfl (by kernel_rfl)) rfl ⟨?_, below_setRow TT.out (zn _) _⟩
   rw [HF.out]
   first | rfl | simp [rdF, ze, vi, vw]
  ·have ix1 : ∀ W, (Instr.index 9 (.string s) (.int .i64 1)).run Tryz.prog W = .ok (.int .u8 (byt s 1)) W := zl s 1 (by omega)
   obtain ⟨c1, d1⟩ := zL s 1
   have hx1 : IntKind.i64.wrap (byt s 1) = byt s 1 := IntWalk.i64_in _ (by omega)
   have hy1 : IntKind.u16.wrap (byt s 1) = byt s 1 := IntWalk.u16_in _ (by omega)
   go_upto_region 52 with (first | (go_at_call 114; refine (zN _ (by omega) (by omega) _).mono ?_; rintro e ww ⟨rfl, rfl⟩))
   have r0 := RR.out
   have s0 := SS.out
   have t0 := TT.out
   have r1 := heap_setCell_same _ g 3 _ _ (.int .u16 (byt s 1)) r0
   have s1 := (heap_setCell_other _ ⟨g, 3, none⟩ w.heap.size (.int .u16 (byt s 1)) hne).trans s0
   have t1 := t0.setCell (p := ⟨g, 3, none⟩) hle (.int .u16 (byt s 1))
   have rr : _ = some (Obj.cells #[.int .i64 (byt s 0), .int .i64 0, .int .i64 0, .int .u16 (byt s 1), .int .u16 0, .int .i64 0, .int .i64 (zc (byt s 0))] 53 (0, 0)) := r1
   replace RR := zh rr
   replace SS := zh s1
   replace TT := zh t1
   clear rr r0 s0 t0 r1 s1 t1
   go_wp2_with (first
    | (refine wpList_load_row rfl _ (.tmp 3) rfl _ rfl _ #[.int .i64 (byt s 0), .int .i64 0, .int .i64 0, .int .u16 (byt s 1), .int .u16 0, .int .i64 0, .int .i64 (zc (byt s 0))] _ _ RR.out Tryz.underlying53 rfl ?_ ?_; kernel_rfl)
    | (refine wpList_store_row rfl _ (.tmp 2) _ rfl _ #[.int .i64 (byt s 0), .int .i64 0, .int .i64 0, .int .u16 (byt s 1), .int .u16 0, .int .i64 0, .int .i64 (zc (byt s 0))] rfl rfl _ _ SS.out ?_ ?_ ?_ ?_; kernel_rfl; rfl; kernel_rfl))
   refine bodyPost_ret (results_cell_row (cs := #[.int .i64 (byt s 0), .int .i64 0, .int .i64 0, .int .u16 (byt s 1), .int .u16 0, .int .i64 0, .int .i64 (zc (byt s 0))]) (fr := (0, 0)) rfl _ _ w.heap.size 53 _ rfl (setRow_heap _ _ _ _ _ _ SS.out) (Tryz.underlying53) rfl (by kernel_rfl)) rfl ⟨?_, below_setRow TT.out (zn _) _⟩
   rw [HF.out]
   first | rfl | simp [rdF, ze, vi, vw]
  ·have ix1 : ∀ W, (Instr.index 9 (.string s) (.int .i64 1)).run Tryz.prog W = .ok (.int .u8 (byt s 1)) W := zl s 1 (by omega)
   obtain ⟨c1, d1⟩ := zL s 1
   have hx1 : IntKind.i64.wrap (byt s 1) = byt s 1 := IntWalk.i64_in _ (by omega)
   have hy1 : IntKind.u16.wrap (byt s 1) = byt s 1 := IntWalk.u16_in _ (by omega)
   have hx9 : (byt s 1).tdiv 16 = byt s 1 / 16 := Int.tdiv_eq_ediv_of_nonneg (by omega)
   have hxa : IntKind.u8.wrap (byt s 1 / 16) = byt s 1 / 16 := IntWalk.u8_in _ (by omega)
   have hx7 : IntKind.i64.wrap (byt s 1 / 16) = byt s 1 / 16 := IntWalk.i64_in _ (by omega)
   have hx8 : IntKind.i64.wrap (byt s 1 % 16) = byt s 1 % 16 := IntWalk.i64_in _ (by omega)
   go_upto_region 52 with (first | (go_at_call 114; refine (zN _ (by omega) (by omega) _).mono ?_; rintro e ww ⟨rfl, rfl⟩))
   have r0 := RR.out
   have s0 := SS.out
   have t0 := TT.out
   have r1 := heap_setCell_same _ g 1 _ _ (.int .i64 (byt s 1 / 16)) r0
   have s1 := (heap_setCell_other _ ⟨g, 1, none⟩ w.heap.size (.int .i64 (byt s 1 / 16)) hne).trans s0
   have t1 := t0.setCell (p := ⟨g, 1, none⟩) hle (.int .i64 (byt s 1 / 16))
   have r2 := heap_setCell_same _ g 2 _ _ (.int .i64 (byt s 1 % 16)) r1
   have s2 := (heap_setCell_other _ ⟨g, 2, none⟩ w.heap.size (.int .i64 (byt s 1 % 16)) hne).trans s1
   have t2 := t1.setCell (p := ⟨g, 2, none⟩) hle (.int .i64 (byt s 1 % 16))
   have rr : _ = some (Obj.cells #[.int .i64 (byt s 0), .int .i64 (byt s 1 / 16), .int .i64 (byt s 1 % 16), .int .u16 0, .int .u16 0, .int .i64 0, .int .i64 (zc (byt s 0))] 53 (0, 0)) := r2
   replace RR := zh rr
   replace SS := zh s2
   replace TT := zh t2
   clear rr r0 s0 t0 r1 s1 t1 r2 s2 t2
   go_wp2_with (first
    | (refine wpList_load_row rfl _ (.tmp 3) rfl _ rfl _ #[.int .i64 (byt s 0), .int .i64 (byt s 1 / 16), .int .i64 (byt s 1 % 16), .int .u16 0, .int .u16 0, .int .i64 0, .int .i64 (zc (byt s 0))] _ _ RR.out Tryz.underlying53 rfl ?_ ?_; kernel_rfl)
    | (refine wpList_store_row rfl _ (.tmp 2) _ rfl _ #[.int .i64 (byt s 0), .int .i64 (byt s 1 / 16), .int .i64 (byt s 1 % 16), .int .u16 0, .int .u16 0, .int .i64 0, .int .i64 (zc (byt s 0))] rfl rfl _ _ SS.out ?_ ?_ ?_ ?_; kernel_rfl; rfl; kernel_rfl))
   refine bodyPost_ret (results_cell_row (cs := #[.int .i64 (byt s 0), .int .i64 (byt s 1 / 16), .int .i64 (byt s 1 % 16), .int .u16 0, .int .u16 0, .int .i64 0, .int .i64 (zc (byt s 0))]) (fr := (0, 0)) rfl _ _ w.heap.size 53 _ rfl (setRow_heap _ _ _ _ _ _ SS.out) (Tryz.underlying53) rfl (by kernel_rfl)) rfl ⟨?_, below_setRow TT.out (zn _) _⟩
   rw [HF.out]
   first | rfl | simp [rdF, ze, vi, vw]
  ·have ix1 : ∀ W, (Instr.index 9 (.string s) (.int .i64 1)).run Tryz.prog W = .ok (.int .u8 (byt s 1)) W := zl s 1 (by omega)
   obtain ⟨c1, d1⟩ := zL s 1
   have ix2 : ∀ W, (Instr.index 9 (.string s) (.int .i64 2)).run Tryz.prog W = .ok (.int .u8 (byt s 2)) W := zl s 2 (by omega)
   obtain ⟨c2, d2⟩ := zL s 2
   have hx1 : IntKind.i64.wrap (byt s 1) = byt s 1 := IntWalk.i64_in _ (by omega)
   have hy1 : IntKind.u16.wrap (byt s 1) = byt s 1 := IntWalk.u16_in _ (by omega)
   have hx2 : IntKind.i64.wrap (byt s 2) = byt s 2 := IntWalk.i64_in _ (by omega)
   have hy2 : IntKind.u16.wrap (byt s 2) = byt s 2 := IntWalk.u16_in _ (by omega)
   go_upto_region 52 with (first | (go_at_call 114; refine (zN _ (by omega) (by omega) _).mono ?_; rintro e ww ⟨rfl, rfl⟩))
   have r0 := RR.out
   have s0 := SS.out
   have t0 := TT.out
   have r1 := heap_setCell_same _ g 1 _ _ (.int .i64 (byt s 1)) r0
   have s1 := (heap_setCell_other _ ⟨g, 1, none⟩ w.heap.size (.int .i64 (byt s 1)) hne).trans s0
   have t1 := t0.setCell (p := ⟨g, 1, none⟩) hle (.int .i64 (byt s 1))
   have r2 := heap_setCell_same _ g 3 _ _ (.int .u16 (zH (byt s 2))) r1
   have s2 := (heap_setCell_other _ ⟨g, 3, none⟩ w.heap.size (.int .u16 (zH (byt s 2))) hne).trans s1
   have t2 := t1.setCell (p := ⟨g, 3, none⟩) hle (.int .u16 (zH (byt s 2)))
   have rr : _ = some (Obj.cells #[.int .i64 (byt s 0), .int .i64 (byt s 1), .int .i64 0, .int .u16 (zH (byt s 2)), .int .u16 0, .int .i64 0, .int .i64 (zc (byt s 0))] 53 (0, 0)) := r2
   replace RR := zh rr
   replace SS := zh s2
   replace TT := zh t2
   clear rr r0 s0 t0 r1 s1 t1 r2 s2 t2
   go_wp2_with (first
    | (refine wpList_load_row rfl _ (.tmp 3) rfl _ rfl _ #[.int .i64 (byt s 0), .int .i64 (byt s 1), .int .i64 0, .int .u16 (zH (byt s 2)), .int .u16 0, .int .i64 0, .int .i64 (zc (byt s 0))] _ _ RR.out Tryz.underlying53 rfl ?_ ?_; kernel_rfl)
    | (refine wpList_store_row rfl _ (.tmp 2) _ rfl _ #[.int .i64 (byt s 0), .int .i64 (byt s 1), .int .i64 0, .int .u16 (zH (byt s 2)), .int .u16 0, .int .i64 0, .int .i64 (zc (byt s 0))] rfl rfl _ _ SS.out ?_ ?_ ?_ ?_; kernel_rfl; rfl; kernel_rfl))
   refine bodyPost_ret (results_cell_row (cs := #[.int .i64 (byt s 0), .int .i64 (byt s 1), .int .i64 0, .int .u16 (zH (byt s 2)), .int .u16 0, .int .i64 0, .int .i64 (zc (byt s 0))]) (fr := (0, 0)) rfl _ _ w.heap.size 53 _ rfl (setRow_heap _ _ _ _ _ _ SS.out) (Tryz.underlying53) rfl (by kernel_rfl)) rfl ⟨?_, below_setRow TT.out (zn _) _⟩
   rw [HF.out]
   first | rfl | simp [rdF, ze, vi, vw]
end Go.Proofs.YteofmaiojepdkaaGreat
