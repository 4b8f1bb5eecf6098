/- package image: ObjectAt; package scan: seen, decode, the classes without code. Condition: addresses are words; the image's banks have 4096 bytes. -/
import Derived.Test.YteofmaiojepdkaaGreatSaIsaK
import Derived.Test.YteofmaiojepdkaaGreatSaSkA
set_option linter.all false
namespace Go.Proofs.YteofmaiojepdkaaGreat
open Go Go.RowKit Go.Maps
def ObjPost (b : Bool) (w : World) (e : Ending) (w' : World) : Prop := ∃ x y : Int, e = .returned (.tuple #[.int .i64 x, .int .u16 y, .bool b]) ∧ Below w.heap.size w w'
def hitO (b a : Int) (o : ObjI) : Bool := decide (o.bank = b) && decide (o.addr ≤ a) && decide (a < o.addr + o.size)
theorem any_take {α : Type} (p : α → Bool) (l : List α) (k : Nat) (x : α) (h : l[k]? = some x) : (l.take (k + 1)).any p = ((l.take k).any p || p x) := by
  rw [List.take_succ, h]
  simp
set_option maxRecDepth 100000 in
set_option maxHeartbeats 1000000 in
theorem iobj_any (I : zj) (hI : I.Ok) (ba : Option Addr) (bc : Nat) (da : Option Addr) (dc : Nat) (b a : Int) (a0 : 0 ≤ a) (a1 : a < 65536) (w : World) (hV : yL w I ba bc da dc) :
    Calls Tryz.prog 69 #[.slice da I.data.length dc, .int .i64 b, .int .u16 a] w (ObjPost (inObj I b a) w) := by
  have hlen := hI.od
  have hob := hI.ob
  have hV' := hV.dt
  have hin : inObj I b a = I.data.any (hitO b a) := rfl
  rw [hin]
  obtain ⟨D, hD⟩ : ∃ D, I.data = D := ⟨_, rfl⟩
  rw [hD] at hlen hob hV' ⊢
  have HV := zh hV'
  have HOB := zh hob
  clear hin hV hV' hob hI hD
  have hle : D.length ≤ dc := HV.out.le
  go_enter Tryz.func69, Tryz.ntmps69
  go_wp2
  go_loopw [13] (fun i wr => ∃ k : Nat, k ≤ D.length ∧ i = .int .i64 k ∧ (D.take k).any (hitO b a) = false ∧ Below w.heap.size w wr) (fun i _ => D.length - (intOf i).toNat)
  case atStart => exact ⟨0, Nat.zero_le _, rfl, rfl, Below.refl _ _⟩
  case round =>
    obtain ⟨k, hk, rfl, hno, hb⟩ := hrel
    by_cases hlt : k < D.length
    · obtain ⟨o, ho⟩ : ∃ o, D[k]? = some o := ⟨_, List.getElem?_eq_getElem hlt⟩
      have hom := HOB.out o (List.mem_of_getElem? ho)
      obtain ⟨⟨c0, c1⟩, ⟨x0, x1⟩, ⟨y0, y1⟩⟩ := hom
      have hrow := (HV.out.below hb).row hlt
      rw [flat_get objL 3 (fun _ => rfl) D k o ho] at hrow
      obtain ⟨g, off, cur, T, fr, rfl, hg, hex, -, -⟩ := hrow
      have HG := zh hg
      have HEX := zh hex
      have HNO := zh hno
      have HO := zh ho
      have HB := zh hb
      have hend := fun W => iend_any o ⟨x0, x1⟩ ⟨y0, y1⟩ W
      have HEND := zh hend
      clear hg hex hno ho hb hend
      by_cases h1 : o.bank = b
      · subst h1
        by_cases h2 : o.addr ≤ a
        · by_cases h3 : a < o.addr + o.size
          · go_wp2_with (first
              | (refine zr 137 _ rfl _ _ rfl _ _ _ (HG.out) ([.int .i64 o.bank, .int .u16 o.addr, .int .u16 o.size]) (HEX.out) ?_ ?_ ?_; kernel_rfl; kernel_rfl)
              | (refine wpList_store_row rfl _ _ _ rfl _ _ rfl rfl _ _ (heap_alloc_new _ _) ?_ ?_ ?_ ?_; kernel_rfl; rfl; kernel_rfl; rw [World.setRow_alloc_new])
              | (refine za 137 _ rfl _ rfl _ _ _ (heap_alloc_new _ _) ?_ ?_ ?_; kernel_rfl; kernel_rfl)
              | (go_at_call 92; refine (HEND.out _).mono ?_; rintro e w1 ⟨rfl, hb1⟩; have HB1 := zh hb1; have hc1 := fun o => cell_of_row w1 wr.heap.size o _ _ _ (zb hb1 (heap_alloc_new _ _)); clear hb1))
            have HANY := zh (show D.any (hitO o.bank a) = true from List.any_eq_true.2 ⟨o, List.mem_of_getElem? HO.out, by simp [hitO, h2, h3]⟩)
            go_quiet (fail)
            go_wp2
            go_ret3
            refine ⟨k, a - o.addr, ?_, below_drewN ((HB.out.alloc HB.out.size _).trans (HB1.out.mono (by have := HB.out.size; simp; omega))) _⟩
            rw [HANY.out]
            rfl
          · have h4 : o.addr + o.size ≤ a := by omega
            go_wp2_with (first
              | (refine zr 137 _ rfl _ _ rfl _ _ _ (HG.out) ([.int .i64 o.bank, .int .u16 o.addr, .int .u16 o.size]) (HEX.out) ?_ ?_ ?_; kernel_rfl; kernel_rfl)
              | (refine wpList_store_row rfl _ _ _ rfl _ _ rfl rfl _ _ (heap_alloc_new _ _) ?_ ?_ ?_ ?_; kernel_rfl; rfl; kernel_rfl; rw [World.setRow_alloc_new])
              | (refine za 137 _ rfl _ rfl _ _ _ (heap_alloc_new _ _) ?_ ?_ ?_; kernel_rfl; kernel_rfl)
              | (go_at_call 92; refine (HEND.out _).mono ?_; rintro e w1 ⟨rfl, hb1⟩; have HB1 := zh hb1; have hc1 := fun o => cell_of_row w1 wr.heap.size o _ _ _ (zb hb1 (heap_alloc_new _ _)); clear hb1))
            go_roundw
            case rel => exact ⟨k + 1, by omega, by go_num, by rw [any_take _ _ _ _ HO.out, HNO.out, Bool.false_or]; unfold hitO; simp [h3], (HB.out.alloc HB.out.size _).trans (HB1.out.mono (by have := HB.out.size; simp; omega))⟩
            case measure => simp [intOf]; omega
        · have h4 : a < o.addr := by omega
          go_wp2_with (first
              | (refine zr 137 _ rfl _ _ rfl _ _ _ (HG.out) ([.int .i64 o.bank, .int .u16 o.addr, .int .u16 o.size]) (HEX.out) ?_ ?_ ?_; kernel_rfl; kernel_rfl)
              | (refine wpList_store_row rfl _ _ _ rfl _ _ rfl rfl _ _ (heap_alloc_new _ _) ?_ ?_ ?_ ?_; kernel_rfl; rfl; kernel_rfl; rw [World.setRow_alloc_new])
              | (refine za 137 _ rfl _ rfl _ _ _ (heap_alloc_new _ _) ?_ ?_ ?_; kernel_rfl; kernel_rfl)
              | (go_at_call 92; refine (HEND.out _).mono ?_; rintro e w1 ⟨rfl, hb1⟩; have HB1 := zh hb1; have hc1 := fun o => cell_of_row w1 wr.heap.size o _ _ _ (zb hb1 (heap_alloc_new _ _)); clear hb1))
          go_roundw
          case rel => exact ⟨k + 1, by omega, by go_num, by rw [any_take _ _ _ _ HO.out, HNO.out, Bool.false_or]; unfold hitO; simp [h2], HB.out.alloc HB.out.size _⟩
          case measure => simp [intOf]; omega
      · have e1 : (o.bank == b) = false := by simp [h1]
        go_wp2_with (first
              | (refine zr 137 _ rfl _ _ rfl _ _ _ (HG.out) ([.int .i64 o.bank, .int .u16 o.addr, .int .u16 o.size]) (HEX.out) ?_ ?_ ?_; kernel_rfl; kernel_rfl)
              | (refine wpList_store_row rfl _ _ _ rfl _ _ rfl rfl _ _ (heap_alloc_new _ _) ?_ ?_ ?_ ?_; kernel_rfl; rfl; kernel_rfl; rw [World.setRow_alloc_new])
              | (refine za 137 _ rfl _ rfl _ _ _ (heap_alloc_new _ _) ?_ ?_ ?_; kernel_rfl; kernel_rfl)
              | (go_at_call 92; refine (HEND.out _).mono ?_; rintro e w1 ⟨rfl, hb1⟩; have HB1 := zh hb1; have hc1 := fun o => cell_of_row w1 wr.heap.size o _ _ _ (zb hb1 (heap_alloc_new _ _)); clear hb1))
        go_roundw
        case rel => exact ⟨k + 1, by omega, by go_num, by rw [any_take _ _ _ _ HO.out, HNO.out, Bool.false_or]; unfold hitO; simp [h1], HB.out.alloc HB.out.size _⟩
        case measure => simp [intOf]; omega
    · obtain rfl : k = D.length := by omega
      rw [List.take_of_length_le (zn _)] at hno
      go_wp2
      go_ret3
      exact ⟨0, 0, by rw [hno]; rfl, hb⟩
end Go.Proofs.YteofmaiojepdkaaGreat
