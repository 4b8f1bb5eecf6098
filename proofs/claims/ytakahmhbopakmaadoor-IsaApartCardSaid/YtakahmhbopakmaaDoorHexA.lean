/- strconv.FormatUint to base 16, for words: walked. Condition: one cell of the library's table of bits. -/
import Derived.Test.YtakahmhbopakmaaDoorIsaI
import Derived.LoopN
set_option linter.all false
namespace Go.Proofs.YtakahmhbopakmaaDoor
open Go.RowKit

theorem pow2_16 (w : World) : Calls Tryd.prog 98 #[.int .i64 16] w fun e w' => e = .returned (.bool true) ∧ w = w' := by
  go_enter Tryd.func98, Tryd.ntmps98
  go_wp2
  go_ret
  exact ⟨rfl, rfl⟩
theorem tz64_16 (w : World) (hT : w.cell? ⟨5, 15, none⟩ = some (.int .u8 4)) : Calls Tryd.prog 101 #[.int .u64 16] w fun e w' => e = .returned (.int .i64 4) ∧ w = w' := by
  have e : (IntKind.u64.wrap (bits BinOp.and IntKind.u64 16 (IntKind.u64.wrap (-16)) * 285870213051353865) / 288230376151711744).toNat = 15 := by decide +kernel
  have hc : w.cell? ⟨5, (IntKind.u64.wrap (bits BinOp.and IntKind.u64 16 (IntKind.u64.wrap (-16)) * 285870213051353865) / 288230376151711744).toNat, none⟩ = some (.int .u8 4) := by rw [e]; exact hT
  have hlt : IntKind.u64.wrap (bits BinOp.and IntKind.u64 16 (IntKind.u64.wrap (-16)) * 285870213051353865) / 288230376151711744 < 64 := by decide +kernel
  have hge : 0 ≤ IntKind.u64.wrap (bits BinOp.and IntKind.u64 16 (IntKind.u64.wrap (-16)) * 285870213051353865) / 288230376151711744 := by decide +kernel
  clear hT e
  go_enter Tryd.func101, Tryd.ntmps101
  go_wp2
  go_ret
  exact ⟨rfl, rfl⟩
theorem tz_16 (w : World) (hT : w.cell? ⟨5, 15, none⟩ = some (.int .u8 4)) : Calls Tryd.prog 99 #[.int .u64 16] w fun e w' => e = .returned (.int .i64 4) ∧ w = w' := by
  have h := tz64_16 w hT
  have H := Lib.hid h
  clear h hT
  go_enter Tryd.func99, Tryd.ntmps99
  go_wp2_with (go_at_call 101; refine H.out.mono ?_; rintro e ww ⟨rfl, rfl⟩)
  go_ret
  exact ⟨rfl, rfl⟩

def hdI (n : Int) : Int := if n < 10 then 48 + n else 87 + n
theorem hdI_bd (n : Int) (h0 : 0 ≤ n) (h1 : n < 16) : 48 ≤ hdI n ∧ hdI n < 103 := by unfold hdI; split <;> omega
abbrev digStr : ByteArray := { data := #[48, 49, 50, 51, 52, 53, 54, 55, 56, 57, 97, 98, 99, 100, 101, 102, 103, 104, 105, 106, 107, 108, 109, 110, 111, 112, 113, 114, 115, 116, 117, 118, 119, 120, 121, 122] }
theorem dig_at : ∀ k : Nat, k < 16 → byt digStr k = hdI k := by decide +kernel
theorem index_dig (n : Int) (h0 : 0 ≤ n) (h1 : n < 16) (w : World) : (Instr.index 9 (.string digStr) (.int .u64 n)).run Tryd.prog w = .ok (.int .u8 (hdI n)) w := by
  obtain ⟨k, rfl⟩ := Int.eq_ofNat_of_zero_le h0
  have hk : k < digStr.size := by have : digStr.size = 36 := rfl; omega
  rw [run_index_string _ _ _ _ _ Tryd.underlying9, dif_pos (by omega)]
  have := dig_at k (by omega)
  rw [← this]
  congr 2
  unfold byt
  have h2 : k < digStr.data.toList.length := by show k < 36; omega
  rw [List.getD_eq_getElem?_getD, List.getElem?_eq_getElem h2]
  rfl
theorem u64_and15 (n : Int) (h0 : 0 ≤ n) (h1 : n < 18446744073709551616) : bits .and .u64 n 15 = n % 16 := by
  rw [u64_and n 15 h0 h1 (by omega) (by omega)]
  have e : (15 : Int).toNat = 2 ^ 4 - 1 := rfl
  rw [e, Nat.and_two_pow_sub_one_eq_mod]
  omega

theorem run_conv_at (w : World) (src dst e : TypeId) (hs : Tryd.prog.underlying src = some (.slice e)) (he : Tryd.prog.underlying e = some (.int .u8)) (hd : Tryd.prog.underlying dst = some .string)
    (g o n c : Nat) (cs : Array Value) (t : TypeId) (fr : Nat × Nat) (l : List Int) (hg : w.heap[g]? = some (.cells cs t fr)) (hn : l.length = n) (hc : ∀ j u, (l.map (Value.int .u8))[j]? = some u → cs[o + j]? = some u) :
    (convert src dst (.slice (some ⟨g, o, none⟩) n c)).run Tryd.prog w = .ok (.string (strOf l)) w := by
  rw [run_convert_bytes_string w src dst e _ _ _ hs he hd]
  have hload : (loadCells ⟨g, o, none⟩ n).run Tryd.prog w = .ok (l.map (Value.int .u8)).toArray w := by
    have := run_loadCells_list (P := Tryd.prog) w ⟨g, o, none⟩ (l.map (Value.int .u8)) (fun j u hu => by
      have hadd : (⟨g, o, none⟩ : Addr).add j = ⟨g, o + j, none⟩ := by unfold Addr.add; split <;> simp_all
      rw [hadd, cell_of_row w g (o + j) cs t fr hg]
      exact hc j u hu)
    simpa [hn] using this
  rw [run_bytesToString w ⟨g, o, none⟩ n c l hload, foldl_push]
  simp [strOf, ByteArray.empty, ByteArray.emptyWithCapacity]
  try rfl
theorem wpList_convert {P : Program} {ops : Array Oper} {rest : List Oper} {o : Oper} {a : Act} {w : World} {Q : Exit → Act → World → Prop} (hgd : o.guard = none) (src dst : TypeId) (x : Operand) (ho : o.op = .convert src dst x) (v r : Value) (hx : a.eval x = v)
    (hr : (convert src dst v).run P w = .ok r w) (h : wpList P ops Q rest (a.put o.dst r) w) : wpList P ops Q (o :: rest) a w :=
  wpList_plain hgd fun K hK => by
    unfold Oper.wp
    rw [exec_convert src dst x ho v r hx hr]
    exact hK _ _ h
theorem z65 : Tryd.zeroCells151.size = 65 := by kernel_rfl
theorem dig_cells1 (a : Value) : ∀ j u, [a][j]? = some u → (Tryd.zeroCells151.setIfInBounds 64 a)[64 + j]? = some u := by
  intro j u h
  have hz := z65
  match j, h with
  | 0, h => simp at h; subst h; simp [hz]
theorem dig_cells2 (a b : Value) : ∀ j u, [a, b][j]? = some u → ((Tryd.zeroCells151.setIfInBounds 64 b).setIfInBounds 63 a)[63 + j]? = some u := by
  intro j u h
  have hz := z65
  match j, h with
  | 0, h => simp at h; subst h; simp [hz]
  | 1, h => simp at h; subst h; simp [hz]
theorem dig_cells3 (a b c : Value) : ∀ j u, [a, b, c][j]? = some u → (((Tryd.zeroCells151.setIfInBounds 64 c).setIfInBounds 63 b).setIfInBounds 62 a)[62 + j]? = some u := by
  intro j u h
  have hz := z65
  match j, h with
  | 0, h => simp at h; subst h; simp [hz]
  | 1, h => simp at h; subst h; simp [hz]
  | 2, h => simp at h; subst h; simp [hz]
theorem dig_cells4 (a b c d : Value) : ∀ j u, [a, b, c, d][j]? = some u → ((((Tryd.zeroCells151.setIfInBounds 64 d).setIfInBounds 63 c).setIfInBounds 62 b).setIfInBounds 61 a)[61 + j]? = some u := by
  intro j u h
  have hz := z65
  match j, h with
  | 0, h => simp at h; subst h; simp [hz]
  | 1, h => simp at h; subst h; simp [hz]
  | 2, h => simp at h; subst h; simp [hz]
  | 3, h => simp at h; subst h; simp [hz]

set_option maxRecDepth 100000 in
set_option maxHeartbeats 2000000 in
theorem bits16_1 (u : Int) (h0 : 0 ≤ u) (h1 : u < 16) (w : World) (hT : w.cell? ⟨5, 15, none⟩ = some (.int .u8 4)) (hlt : 5 < w.heap.size) :
    Calls Tryd.prog 91 #[.slice none 0 0, .int .u64 u, .int .i64 16, .bool false, .bool false] w fun e w' => e = .returned (.tuple #[.slice none 0 0, .string (strOf [hdI u])]) ∧ Below w.heap.size w w' := by
  have hp := pow2_16
  have hz := tz_16
  have HP := Lib.hid hp
  have HZ := Lib.hid hz
  clear hp hz
  have ix0 := index_dig (u) (by omega) (by omega)
  go_enter Tryd.func91, Tryd.ntmps91
  go_wp2_with (first
    | (go_at_call 98; refine (HP.out _).mono ?_; rintro e ww ⟨rfl, rfl⟩)
    | (go_at_call 99; refine (HZ.out _ ?_).mono ?_; (exact (World.cell?_alloc_lt _ _ _ hlt).trans hT); rintro e ww ⟨rfl, rfl⟩))
  refine wp_loop_rounds 1 ?_
  rw [rounds_succ]
  go_wp2_with (refine wpList_convert rfl _ _ _ rfl _ _ rfl (run_conv_at _ _ _ 5 Tryd.underlying36 Tryd.underlying5 Tryd.underlying9 w.heap.size 64 1 _ _ _ (0, 0) [hdI u] (heap_alloc_new _ _) rfl (dig_cells1 _)) ?_)
  go_ret2
  exact ⟨rfl, (Below.refl _ _).alloc (Nat.le_refl _) _⟩

set_option maxRecDepth 100000 in
set_option maxHeartbeats 2000000 in
theorem bits16_2 (u : Int) (h0 : 16 ≤ u) (h1 : u < 256) (w : World) (hT : w.cell? ⟨5, 15, none⟩ = some (.int .u8 4)) (hlt : 5 < w.heap.size) :
    Calls Tryd.prog 91 #[.slice none 0 0, .int .u64 u, .int .i64 16, .bool false, .bool false] w fun e w' => e = .returned (.tuple #[.slice none 0 0, .string (strOf [hdI (u / 16), hdI (u % 16)])]) ∧ Below w.heap.size w w' := by
  have hp := pow2_16
  have hz := tz_16
  have HP := Lib.hid hp
  have HZ := Lib.hid hz
  clear hp hz
  have ix0 := index_dig (u % 16) (by omega) (by omega)
  have an0 := u64_and15 (u) (by omega) (by omega)
  have ix1 := index_dig (u / 16) (by omega) (by omega)
  go_enter Tryd.func91, Tryd.ntmps91
  go_wp2_with (first
    | (go_at_call 98; refine (HP.out _).mono ?_; rintro e ww ⟨rfl, rfl⟩)
    | (go_at_call 99; refine (HZ.out _ ?_).mono ?_; (exact (World.cell?_alloc_lt _ _ _ hlt).trans hT); rintro e ww ⟨rfl, rfl⟩))
  refine wp_loop_rounds 2 ?_
  rw [rounds_succ]
  go_wp2_with (refine wpList_convert rfl _ _ _ rfl _ _ rfl (run_conv_at _ _ _ 5 Tryd.underlying36 Tryd.underlying5 Tryd.underlying9 w.heap.size 63 2 _ _ _ (0, 0) [hdI (u / 16), hdI (u % 16)] (heap_alloc_new _ _) rfl (dig_cells2 _ _)) ?_)
  rw [rounds_succ]
  go_wp2_with (refine wpList_convert rfl _ _ _ rfl _ _ rfl (run_conv_at _ _ _ 5 Tryd.underlying36 Tryd.underlying5 Tryd.underlying9 w.heap.size 63 2 _ _ _ (0, 0) [hdI (u / 16), hdI (u % 16)] (heap_alloc_new _ _) rfl (dig_cells2 _ _)) ?_)
  go_ret2
  exact ⟨rfl, (Below.refl _ _).alloc (Nat.le_refl _) _⟩

set_option maxRecDepth 100000 in
set_option maxHeartbeats 2000000 in
theorem bits16_3 (u : Int) (h0 : 256 ≤ u) (h1 : u < 4096) (w : World) (hT : w.cell? ⟨5, 15, none⟩ = some (.int .u8 4)) (hlt : 5 < w.heap.size) :
    Calls Tryd.prog 91 #[.slice none 0 0, .int .u64 u, .int .i64 16, .bool false, .bool false] w fun e w' => e = .returned (.tuple #[.slice none 0 0, .string (strOf [hdI (u / 16 / 16), hdI (u / 16 % 16), hdI (u % 16)])]) ∧ Below w.heap.size w w' := by
  have hp := pow2_16
  have hz := tz_16
  have HP := Lib.hid hp
  have HZ := Lib.hid hz
  clear hp hz
  have ix0 := index_dig (u % 16) (by omega) (by omega)
  have an0 := u64_and15 (u) (by omega) (by omega)
  have ix1 := index_dig (u / 16 % 16) (by omega) (by omega)
  have an1 := u64_and15 (u / 16) (by omega) (by omega)
  have ix2 := index_dig (u / 16 / 16) (by omega) (by omega)
  go_enter Tryd.func91, Tryd.ntmps91
  go_wp2_with (first
    | (go_at_call 98; refine (HP.out _).mono ?_; rintro e ww ⟨rfl, rfl⟩)
    | (go_at_call 99; refine (HZ.out _ ?_).mono ?_; (exact (World.cell?_alloc_lt _ _ _ hlt).trans hT); rintro e ww ⟨rfl, rfl⟩))
  refine wp_loop_rounds 3 ?_
  rw [rounds_succ]
  go_wp2_with (refine wpList_convert rfl _ _ _ rfl _ _ rfl (run_conv_at _ _ _ 5 Tryd.underlying36 Tryd.underlying5 Tryd.underlying9 w.heap.size 62 3 _ _ _ (0, 0) [hdI (u / 16 / 16), hdI (u / 16 % 16), hdI (u % 16)] (heap_alloc_new _ _) rfl (dig_cells3 _ _ _)) ?_)
  rw [rounds_succ]
  go_wp2_with (refine wpList_convert rfl _ _ _ rfl _ _ rfl (run_conv_at _ _ _ 5 Tryd.underlying36 Tryd.underlying5 Tryd.underlying9 w.heap.size 62 3 _ _ _ (0, 0) [hdI (u / 16 / 16), hdI (u / 16 % 16), hdI (u % 16)] (heap_alloc_new _ _) rfl (dig_cells3 _ _ _)) ?_)
  rw [rounds_succ]
  go_wp2_with (refine wpList_convert rfl _ _ _ rfl _ _ rfl (run_conv_at _ _ _ 5 Tryd.underlying36 Tryd.underlying5 Tryd.underlying9 w.heap.size 62 3 _ _ _ (0, 0) [hdI (u / 16 / 16), hdI (u / 16 % 16), hdI (u % 16)] (heap_alloc_new _ _) rfl (dig_cells3 _ _ _)) ?_)
  go_ret2
  exact ⟨rfl, (Below.refl _ _).alloc (Nat.le_refl _) _⟩

set_option maxRecDepth 100000 in
set_option maxHeartbeats 2000000 in
theorem bits16_4 (u : Int) (h0 : 4096 ≤ u) (h1 : u < 65536) (w : World) (hT : w.cell? ⟨5, 15, none⟩ = some (.int .u8 4)) (hlt : 5 < w.heap.size) :
    Calls Tryd.prog 91 #[.slice none 0 0, .int .u64 u, .int .i64 16, .bool false, .bool false] w fun e w' => e = .returned (.tuple #[.slice none 0 0, .string (strOf [hdI (u / 16 / 16 / 16), hdI (u / 16 / 16 % 16), hdI (u / 16 % 16), hdI (u % 16)])]) ∧ Below w.heap.size w w' := by
  have hp := pow2_16
  have hz := tz_16
  have HP := Lib.hid hp
  have HZ := Lib.hid hz
  clear hp hz
  have ix0 := index_dig (u % 16) (by omega) (by omega)
  have an0 := u64_and15 (u) (by omega) (by omega)
  have ix1 := index_dig (u / 16 % 16) (by omega) (by omega)
  have an1 := u64_and15 (u / 16) (by omega) (by omega)
  have ix2 := index_dig (u / 16 / 16 % 16) (by omega) (by omega)
  have an2 := u64_and15 (u / 16 / 16) (by omega) (by omega)
  have ix3 := index_dig (u / 16 / 16 / 16) (by omega) (by omega)
  go_enter Tryd.func91, Tryd.ntmps91
  go_wp2_with (first
    | (go_at_call 98; refine (HP.out _).mono ?_; rintro e ww ⟨rfl, rfl⟩)
    | (go_at_call 99; refine (HZ.out _ ?_).mono ?_; (exact (World.cell?_alloc_lt _ _ _ hlt).trans hT); rintro e ww ⟨rfl, rfl⟩))
  refine wp_loop_rounds 4 ?_
  rw [rounds_succ]
  go_wp2_with (refine wpList_convert rfl _ _ _ rfl _ _ rfl (run_conv_at _ _ _ 5 Tryd.underlying36 Tryd.underlying5 Tryd.underlying9 w.heap.size 61 4 _ _ _ (0, 0) [hdI (u / 16 / 16 / 16), hdI (u / 16 / 16 % 16), hdI (u / 16 % 16), hdI (u % 16)] (heap_alloc_new _ _) rfl (dig_cells4 _ _ _ _)) ?_)
  rw [rounds_succ]
  go_wp2_with (refine wpList_convert rfl _ _ _ rfl _ _ rfl (run_conv_at _ _ _ 5 Tryd.underlying36 Tryd.underlying5 Tryd.underlying9 w.heap.size 61 4 _ _ _ (0, 0) [hdI (u / 16 / 16 / 16), hdI (u / 16 / 16 % 16), hdI (u / 16 % 16), hdI (u % 16)] (heap_alloc_new _ _) rfl (dig_cells4 _ _ _ _)) ?_)
  rw [rounds_succ]
  go_wp2_with (refine wpList_convert rfl _ _ _ rfl _ _ rfl (run_conv_at _ _ _ 5 Tryd.underlying36 Tryd.underlying5 Tryd.underlying9 w.heap.size 61 4 _ _ _ (0, 0) [hdI (u / 16 / 16 / 16), hdI (u / 16 / 16 % 16), hdI (u / 16 % 16), hdI (u % 16)] (heap_alloc_new _ _) rfl (dig_cells4 _ _ _ _)) ?_)
  rw [rounds_succ]
  go_wp2_with (refine wpList_convert rfl _ _ _ rfl _ _ rfl (run_conv_at _ _ _ 5 Tryd.underlying36 Tryd.underlying5 Tryd.underlying9 w.heap.size 61 4 _ _ _ (0, 0) [hdI (u / 16 / 16 / 16), hdI (u / 16 / 16 % 16), hdI (u / 16 % 16), hdI (u % 16)] (heap_alloc_new _ _) rfl (dig_cells4 _ _ _ _)) ?_)
  go_ret2
  exact ⟨rfl, (Below.refl _ _).alloc (Nat.le_refl _) _⟩

end Go.Proofs.YtakahmhbopakmaaDoor
