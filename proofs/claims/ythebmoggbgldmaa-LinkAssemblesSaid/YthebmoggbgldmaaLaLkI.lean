/- Package link: chunkOf. The condition: lines whose numbers lie in their ranges. -/
import Derived.Test.YthebmoggbgldmaaLaLkH
set_option linter.all false
namespace Go.Proofs.Ythebmoggbgldmaa
open Go Go.RowKit Go.Maps
structure CkW (w : World) (nm : ByteArray) (lv : Value) (F : Int → Option Int) (W : World) : Prop where
 bb : Below w.heap.size w W
 b0 : W.heap[w.heap.size]? = some (.cells #[.string nm, lv] 32 (0, 0))
 b1 : W.heap[w.heap.size + 1]? = some (.cells #[.string ⟨#[]⟩, .slice none 0 0, .map none] 74 (0, 0))
 mp : MapT (w.heap.size + 2) F W
 b3 : W.heap[w.heap.size + 3]? = some (.cells #[.string nm, lv, .map (some (w.heap.size + 2))] 74 (0, 0))
theorem CkW.z {w nm lv F W} (h : CkW w nm lv F W) : w.heap.size + 4 ≤ W.heap.size := (Array.getElem?_eq_some_iff.1 h.b3).1
theorem CkW.stay {w nm lv F W W'} (h : CkW w nm lv F W) (hb : Below W.heap.size W W') : CkW w nm lv F W' :=
 ⟨h.bb.trans (hb.mono h.bb.size), zf hb h.b0, zf hb h.b1, h.mp.same (hb.block _ h.mp.lt), zf hb h.b3⟩
theorem CkW.put {w nm lv F G W W'} (h : CkW w nm lv F W) (hg : W.grownBy W' (some (w.heap.size + 2))) (hm : MapT (w.heap.size + 2) G W') : CkW w nm lv G W' := by
 have hz := h.z
 have hk : ∀ {k o}, W.heap[k]? = some o → k ≠ w.heap.size + 2 → W'.heap[k]? = some o := fun {k o} h1 h2 => (hg.block k (Array.getElem?_eq_some_iff.1 h1).1 (fun e => h2 (Option.some.inj e))).trans h1
 exact ⟨⟨hg.os.trans h.bb.os, hg.tape.trans h.bb.tape, hg.output.trans h.bb.output, Nat.le_trans h.bb.size hg.size, fun k hk' => (hg.block k (by omega) (fun e => by cases e; omega)).trans (h.bb.block k hk')⟩, hk h.b0 (by omega), hk h.b1 (by omega), hm, hk h.b3 (by omega)⟩
theorem CkW.first (w : World) (nm : ByteArray) (lv : Value) : CkW w nm lv (xH []) ((((w.alloc (.cells #[.string nm, lv] 32)).alloc (.cells #[.string ⟨#[]⟩, .slice none 0 0, .map none] 74)).alloc (.map #[] 0)).alloc (.cells #[.string nm, lv, .map (some (w.heap.size + 2))] 74)) := by
 have h0 := heap_alloc2_old w (.cells #[.string nm, lv] 32) (.cells #[.string ⟨#[]⟩, .slice none 0 0, .map none] 74)
 have h1 := heap_alloc2_new w (.cells #[.string nm, lv] 32) (.cells #[.string ⟨#[]⟩, .slice none 0 0, .map none] 74)
 have hm := MapW.made (P := Try.prog) (I := 3) ((w.alloc (.cells #[.string nm, lv] 32)).alloc (.cells #[.string ⟨#[]⟩, .slice none 0 0, .map none] 74))
 have h3 := heap_alloc_new (((w.alloc (.cells #[.string nm, lv] 32)).alloc (.cells #[.string ⟨#[]⟩, .slice none 0 0, .map none] 74)).alloc (.map #[] 0)) (.cells #[.string nm, lv, .map (some (w.heap.size + 2))] 74)
 have e1 : ((w.alloc (.cells #[.string nm, lv] 32)).alloc (.cells #[.string ⟨#[]⟩, .slice none 0 0, .map none] 74)).heap.size = w.heap.size + 2 := by simp
 have e2 : (((w.alloc (.cells #[.string nm, lv] 32)).alloc (.cells #[.string ⟨#[]⟩, .slice none 0 0, .map none] 74)).alloc (.map #[] 0)).heap.size = w.heap.size + 3 := by simp
 rw [e1] at hm
 rw [e2] at h3
 have hf : xH [] = fun _ => none := by funext n; unfold xH; rw [labF_nil]; rfl
 rw [hf]
 refine ⟨((((Below.refl _ _).alloc (zn _) _).alloc (by simp) _).alloc (by simp <;> omega) _).alloc (by simp <;> omega) _, ?_, ?_, ?_, h3⟩
 ·exact (heap_alloc_old _ _ (by simp <;> omega)).trans ((heap_alloc_old _ _ (by simp <;> omega)).trans h0)
 ·exact (heap_alloc_old _ _ (by simp <;> omega)).trans ((heap_alloc_old _ _ (by simp <;> omega)).trans h1)
 ·exact hm.same (heap_alloc_old _ _ (by simp <;> omega))
def chunkNo : Ending := .returned (.tuple #[.agg #[.string ⟨#[]⟩, .slice none 0 0, .map none], .bool false])
def ChunkPost (w : World) (nm : ByteArray) (lv : Value) (ls : List zu) (nf no : Nat) (e : Ending) (w' : World) : Prop :=
 Below w.heap.size w w' ∧ ((¬ xP ls nf no ∧ e = chunkNo) ∨ (xP ls nf no ∧ ∃ g, w.heap.size ≤ g ∧ e = .returned (.tuple #[.agg #[.string nm, lv, .map (some g)], .bool true]) ∧ MapT g (xH ls) w'))
theorem labI_take {ls : List zu} {k : Nat} {l : zu} (hl : ls[k]? = some l) : ls.take (k + 1) = ls.take k ++ [l] := by
 rw [List.take_succ, hl]; rfl
theorem labs_no {ls : List zu} {k : Nat} {l : zu} (hl : ls[k]? = some l) (h : l.label ≠ -1) (h2 : l.label < 0 ∨ (yI (ls.take k) l.label).isSome = true) {nf no : Nat} : ¬ xP ls nf no := by
 rintro ⟨h1, -⟩
 obtain ⟨hk, rfl⟩ := List.getElem?_eq_some_iff.1 hl
 rcases h1 k hk with h3 | ⟨h3, h4⟩
 ·exact h h3
 ·rcases h2 with h2 | h2
  ·omega
  ·rw [h4] at h2; cases h2
theorem labs_succ {ls : List zu} {k : Nat} {l : zu} (hl : ls[k]? = some l) (hL : LabsOk (ls.take k)) (h : l.label = -1 ∨ (0 ≤ l.label ∧ yI (ls.take k) l.label = none)) : LabsOk (ls.take (k + 1)) := by
 obtain ⟨hk, rfl⟩ := List.getElem?_eq_some_iff.1 hl
 intro j hj
 rw [List.length_take] at hj
 by_cases e : j = k
 ·subst e
  rw [List.getElem_take, List.take_take, Nat.min_eq_left (by omega)]
  exact h
 ·have := hL j (by rw [List.length_take]; omega)
  rw [List.getElem_take, List.take_take, Nat.min_eq_left (show j ≤ k by omega)] at this
  rw [List.getElem_take, List.take_take, Nat.min_eq_left (show j ≤ k + 1 by omega)]
  exact this
theorem labI_no {ls : List zu} {k : Nat} {l : zu} (hl : ls[k]? = some l) (h : l.label = -1) : xH (ls.take (k + 1)) = xH (ls.take k) := by
 funext n
 unfold xH
 rw [labI_take hl, labF_snoc_no _ _ _ h]
theorem labI_put {ls : List zu} {k : Nat} {l : zu} (hl : ls[k]? = some l) (h : 0 ≤ l.label) (h2 : yI (ls.take k) l.label = none) : setF (xH (ls.take k)) l.label k = xH (ls.take (k + 1)) := by
 funext n
 unfold xH setF
 rw [labI_take hl, labF_snoc _ _ _ h2 h]
 have : (ls.take k).length = k := by have := (List.getElem?_eq_some_iff.1 hl).1; rw [List.length_take]; omega
 split
 ·rw [this]; rfl
 ·rfl
theorem labI_bd {ls : List zu} (hls : yV ls) (k : Nat) : ∀ n, xH (ls.take k) n ≠ none → 0 ≤ n ∧ n < 65536 := by
 intro n hn
 unfold xH at hn
 cases h : yI (ls.take k) n with
 | none => rw [h] at hn; exact absurd rfl hn
 | some j =>
  obtain ⟨hj, h1, h2⟩ := labF_lt h
  have := (hls.1 _ (List.mem_of_mem_take (List.getElem_mem hj))).label
  omega
theorem xI {ls : List zu} {k : Nat} {l : zu} (hl : ls[k]? = some l) {nf no : Nat} (h : zY (yI ls) nf no l = false) : ¬ xP ls nf no := by
 rintro ⟨-, h2⟩
 have := h2 l (List.mem_of_getElem? hl)
 rw [h] at this; cases this
theorem line_yes {ls : List zu} {k : Nat} {l : zu} {nf no : Nat} (h0 : ∀ j l, j < k → ls[j]? = some l → zY (yI ls) nf no l = true) (hl : ls[k]? = some l) (h : zY (yI ls) nf no l = true) : ∀ j l, j < k + 1 → ls[j]? = some l → zY (yI ls) nf no l = true := by
 intro j m hj hm
 by_cases e : j = k
 ·subst e; rw [hl] at hm; cases hm; exact h
 ·exact h0 j m (by omega) hm
theorem all_any {ls : List zu} {t : List Int} {b : Bool} (h : t.any (fun n => !(xH ls n).isSome) = b) : (t.all fun n => (yI ls n).isSome) = !b := by
 rw [← h, List.not_any_eq_all_not]
 simp [labI_some]
theorem form1_op {op : Int} (h : zK op = 1) : 0 ≤ op ∧ op ≤ 255 := by
 unfold zK at h
 split at h
 ·cases h
 ·split at h
  ·cases h
  ·split at h
   ·cases h
   ·split at h
    ·cases h
    ·rename_i h4
     simp at h4
     omega
theorem ok4 {L : Int → Option Nat} {nf no : Nat} {l : zu} (h : zK l.ins.op = 4) : zY L nf no l = ((decide (l.dest = -1) && decide (l.obj = -1) && decide (l.tab.length = 0)) && (decide (0 ≤ l.fn) && decide (l.fn < nf))) := by
 unfold zY
 rw [h, Bool.eq_iff_iff]
 simp
theorem ok3 {L : Int → Option Nat} {nf no : Nat} {l : zu} (h : zK l.ins.op = 3) : zY L nf no l = (((L l.dest).isSome && decide (l.fn = -1) && decide (l.obj = -1) && l.tab.all (fun n => (L n).isSome)) && (decide (0 ≤ l.ins.d) && decide (l.ins.d < 8) && decide (0 < l.tab.length) && decide (l.tab.length < 256))) := by
 unfold zY
 rw [h, Bool.eq_iff_iff]
 simp [← Option.isSome_iff_ne_none]
 grind
theorem ok1 {L : Int → Option Nat} {nf no : Nat} {l : zu} (h : zK l.ins.op = 1) : zY L nf no l = ((decide (l.dest = -1) && decide (l.fn = -1) && decide (l.tab.length = 0)) && (zQ { l.ins with size := zH l.ins.op } && (l.obj == -1 || (xR l.ins.op && decide (0 ≤ l.obj) && decide (l.obj < no))))) := by
 unfold zY
 rw [h, Bool.eq_iff_iff]
 simp
theorem sized_ok {i : Ins} (h : i.Ok) : (z6 i).Ok := ⟨h.op, h.d, h.s, h.imm, h.aux, h.bank, by have := sizeS_bd (i.op % 256); show zX (zH (i.op % 256)); unfold zX; omega⟩
set_option maxRecDepth 100000 in
set_option maxHeartbeats 8000000 in
theorem chunkOf_any (nm : ByteArray) (ls : List zu) (hls : yV ls) (ao : Option Addr) (cap : Nat) (nf no : Nat) (hnf : nf < 65536) (hno : no < 65536) (w : World) (hL : yJ w (.slice ao ls.length cap) ls) :
  Calls Try.prog 26 #[.agg #[.string nm, .slice ao ls.length cap], .int .i64 nf, .int .i64 no] w (ChunkPost w nm (.slice ao ls.length cap) ls nf no) := by
 have HL := zh hL
 have HLS := zh hls
 have hlen := hls.2
 have hC := CkW.first w nm (.slice ao ls.length cap)
 have hmm := @run_makeMap Try.prog
 clear hL hls
 go_enter Try.func26, Try.ntmps26
 go_wp2
 go_step3
 go_upto_region 2 with (first | (refine wpList_store_row rfl _ _ _ rfl _ _ rfl rfl _ _ (heap_alloc_new _ _) ?_ ?_ ?_ ?_; kernel_rfl; rfl; kernel_rfl; rw [World.setRow_alloc_new]) | (refine zs _ _ rfl _ rfl _ _ _ (heap_alloc2_old _ _ _) ?_ ?_ ?_; kernel_rfl; kernel_rfl))
 rw [show w.heap.size + 1 + 1 = w.heap.size + 2 from rfl, show w.heap.size + 2 + 1 = w.heap.size + 3 from rfl]
 obtain ⟨wc, hwc⟩ : ∃ wc : World, (((w.alloc (.cells #[.string nm, .slice ao ls.length cap] 32)).alloc (.cells #[.string ⟨#[]⟩, .slice none 0 0, .map none] 74)).alloc (.map #[] 0)).alloc (.cells #[.string nm, .slice ao ls.length cap, .map (some (w.heap.size + 2))] 74) = wc := ⟨_, rfl⟩
 rw [hwc] at hC ⊢
 have HC := zh hC
 clear hwc hC hmm
 have c1 := cell_of_row wc w.heap.size 1 _ _ _ HC.out.b0
 go_wp2_with fail
 clear c1
 go_loopw [25] (fun i wr => ∃ k : Nat, k ≤ ls.length ∧ i = .int .i64 k ∧ Hid (CkW w nm (.slice ao ls.length cap) (xH (ls.take k)) wr) ∧ Hid (LabsOk (ls.take k))) (fun i _ => ls.length - (intOf i).toNat)
 case atStart => exact ⟨0, Nat.zero_le _, rfl, HC, zh (by intro j hj; simp at hj)⟩
 case round =>
  obtain ⟨k, hk, rfl, HC, HLB⟩ := hrel
  by_cases hlt : k < ls.length
  ·obtain ⟨l, hl⟩ : ∃ l, ls[k]? = some l := ⟨_, List.getElem?_eq_getElem hlt⟩
   have HLk := zh hl
   have HOK := zh (HLS.out.1 l (List.mem_of_getElem? hl))
   obtain ⟨q, off, c, T', fr', tv, rfl, hq, hx, hti⟩ := (HL.out.below HC.out.bb).at hl
   obtain ⟨ta, tcp, rfl, -, -⟩ := id hti
   clear hti
   have HQ := zh hq
   have HX := zh hx
   clear hq hx hl
   go_upto_region 5 with (first | (refine wpList_store_row rfl _ _ _ rfl _ _ rfl rfl _ _ (heap_alloc_new _ _) ?_ ?_ ?_ ?_; kernel_rfl; rfl; kernel_rfl; rw [World.setRow_alloc_new]) | (refine z9 _ _ rfl _ _ rfl _ _ _ (HQ.out) ([.int .i64 (l).label, .int .i64 (l).ins.op, .int .i64 (l).ins.d, .int .i64 (l).ins.s, .int .u16 (l).ins.imm, .int .u16 (l).ins.aux, .int .i64 (l).ins.bank, .int .i64 (l).ins.size, .int .i64 (l).dest, .int .i64 (l).fn, .int .i64 (l).obj, .slice ta (l).tab.length tcp]) (HX.out) ?_ ?_ ?_; kernel_rfl; kernel_rfl))
   have hC1 := HC.out.stay ((Below.refl wr.heap.size wr).alloc (zn _) (.cells #[.int .i64 (l).label, .int .i64 (l).ins.op, .int .i64 (l).ins.d, .int .i64 (l).ins.s, .int .u16 (l).ins.imm, .int .u16 (l).ins.aux, .int .i64 (l).ins.bank, .int .i64 (l).ins.size, .int .i64 (l).dest, .int .i64 (l).fn, .int .i64 (l).obj, .slice ta (l).tab.length tcp] 58))
   have hn := heap_alloc_new wr (.cells #[.int .i64 (l).label, .int .i64 (l).ins.op, .int .i64 (l).ins.d, .int .i64 (l).ins.s, .int .u16 (l).ins.imm, .int .u16 (l).ins.aux, .int .i64 (l).ins.bank, .int .i64 (l).ins.size, .int .i64 (l).dest, .int .i64 (l).fn, .int .i64 (l).obj, .slice ta (l).tab.length tcp] 58)
   have hb1 := (Below.refl wr.heap.size wr).alloc (zn _) (.cells #[.int .i64 (l).label, .int .i64 (l).ins.op, .int .i64 (l).ins.d, .int .i64 (l).ins.s, .int .u16 (l).ins.imm, .int .u16 (l).ins.aux, .int .i64 (l).ins.bank, .int .i64 (l).ins.size, .int .i64 (l).dest, .int .i64 (l).fn, .int .i64 (l).obj, .slice ta (l).tab.length tcp] 58)
   obtain ⟨W, hW⟩ : ∃ W : World, wr.alloc (.cells #[.int .i64 (l).label, .int .i64 (l).ins.op, .int .i64 (l).ins.d, .int .i64 (l).ins.s, .int .u16 (l).ins.imm, .int .u16 (l).ins.aux, .int .i64 (l).ins.bank, .int .i64 (l).ins.size, .int .i64 (l).dest, .int .i64 (l).fn, .int .i64 (l).obj, .slice ta (l).tab.length tcp] 58) = W := ⟨_, rfl⟩
   obtain ⟨g, hg⟩ : ∃ g : Nat, wr.heap.size = g := ⟨_, rfl⟩
   rw [hW] at hC1 hn hb1 ⊢
   rw [hg] at hn ⊢
   clear hW
   have HC1 := zh hC1
   have c0 := cell_of_row W g 0 _ _ _ hn
   clear hC1 hn hg hb1
   simp only [Act.put]
   by_cases h1 : l.label = -1
   ·go_wp2_with fail
    go_roundw
    case rel => exact ⟨k + 1, by omega, by go_num, by rw [labI_no HLk.out h1]; exact HC1, zh (labs_succ HLk.out HLB.out (.inl h1))⟩
    case measure => simp [intOf]; omega
   ·have h1' : (l.label == -1) = false := by simp [h1]
    have c1 := cell_of_row W (w.heap.size + 3) 2 _ _ _ HC1.out.b3
    have HI := zh (show zX l.label by have := HOK.out.label; unfold zX; omega)
    by_cases h2 : (yI (ls.take k) l.label).isSome = true
    ·obtain ⟨j, hj⟩ := Option.isSome_iff_exists.1 h2
     have HF := zh (show xH (ls.take k) l.label = some (j : Int) by unfold xH; rw [hj]; rfl)
     have HNO := zh (labs_no HLk.out h1 (.inr h2) (nf := nf) (no := no))
     clear h2 hj
     go_wp2_with (first | (at_lookup; refine jN Try.underlying3 rfl _ _ 72 rfl Try.underlying72 (zeroI _) rfl HC1.out.mp l.label j rfl HI.out HF.out ?_) | (refine wpList_store_row rfl _ _ _ rfl _ _ rfl rfl _ _ (HC1.out.b1) ?_ ?_ ?_ ?_; kernel_rfl; rfl; kernel_rfl))
     rw [Exit.noGoto_ret]
     refine bodyPost_ret (zI (cs := #[.string ⟨#[]⟩, .slice none 0 0, .map none]) (fr := (0, 0)) Try.results26 _ _ (w.heap.size + 1) 74 _ rfl (setRow_heap _ _ _ _ _ _ HC1.out.b1) Try.underlying74 rfl (by kernel_rfl)) rfl ⟨below_setRow HC1.out.bb (by omega) _, .inl ⟨HNO.out, rfl⟩⟩
    ·have h2' : yI (ls.take k) l.label = none := by simpa using h2
     have HF := zh (show xH (ls.take k) l.label = none by unfold xH; rw [h2']; rfl)
     by_cases h3 : l.label < 0
     ·have HNO := zh (labs_no HLk.out h1 (.inl h3) (nf := nf) (no := no))
      clear h2 h2'
      go_wp2_with (first | (at_lookup; refine x9 Try.underlying3 rfl _ _ 72 rfl Try.underlying72 (zeroI _) rfl HC1.out.mp l.label rfl HI.out HF.out ?_) | (refine wpList_store_row rfl _ _ _ rfl _ _ rfl rfl _ _ (HC1.out.b1) ?_ ?_ ?_ ?_; kernel_rfl; rfl; kernel_rfl))
      rw [Exit.noGoto_ret]
      refine bodyPost_ret (zI (cs := #[.string ⟨#[]⟩, .slice none 0 0, .map none]) (fr := (0, 0)) Try.results26 _ _ (w.heap.size + 1) 74 _ rfl (setRow_heap _ _ _ _ _ _ HC1.out.b1) Try.underlying74 rfl (by kernel_rfl)) rfl ⟨below_setRow HC1.out.bb (by omega) _, .inl ⟨HNO.out, rfl⟩⟩
     ·have h3' : 0 ≤ l.label := by omega
      have HP := zh (labI_put HLk.out h3' h2')
      have HS := zh (labs_succ HLk.out HLB.out (.inr ⟨h3', h2'⟩))
      have HBD := zh (labI_bd HLS.out k)
      have HKK := zh (show zX (k : Int) by unfold zX; omega)
      clear h2 h2' h3
      go_wp2_with (first | (at_lookup; refine x9 Try.underlying3 rfl _ _ 72 rfl Try.underlying72 (zeroI _) rfl HC1.out.mp l.label rfl HI.out HF.out ?_) | (at_mapUpdate; refine wpList_update_ii Try.underlying3 rfl _ _ _ 72 rfl Try.underlying72 (zeroI _) rfl HC1.out.mp HBD.out l.label k rfl HI.out rfl HKK.out ?_; intro w7 hm7 hg7))
      go_roundw
      case rel => exact ⟨k + 1, by omega, by go_num, by rw [HP.out] at hm7; exact zh (HC1.out.put hg7 hm7), HS⟩
      case measure => simp [intOf]; omega
  ·have hke : k = ls.length := by omega
   subst hke
   clear hlt hk
   have HLA := zh (show LabsOk ls by have := HLB.out; rwa [List.take_length] at this)
   replace HC := zh (show CkW w nm (.slice ao ls.length cap) (xH ls) wr by have := HC.out; rwa [List.take_length] at this)
   obtain ⟨w2, rfl⟩ : ∃ w2 : World, w2 = wr := ⟨_, rfl⟩
   have c1 := cell_of_row w2 w.heap.size 1 _ _ _ HC.out.b0
   go_upto_block 2 with fail
   -- SECOND LOOP
   go_step3
   clear c1
   have c1 := cell_of_row w2 w.heap.size 1 _ _ _ HC.out.b0
   go_wp2_with fail
   clear c1
   go_loopw [57] (fun i wr => ∃ k : Nat, k ≤ ls.length ∧ i = .int .i64 k ∧ Hid (CkW w nm (.slice ao ls.length cap) (xH ls) wr) ∧ Hid (∀ j l, j < k → ls[j]? = some l → zY (yI ls) nf no l = true)) (fun i _ => ls.length - (intOf i).toNat)
   case atStart => exact ⟨0, Nat.zero_le _, rfl, HC, zh (by intro j l hj; omega)⟩
   case round =>
    obtain ⟨k, hk, rfl, HC, HLN⟩ := hrel
    by_cases hlt : k < ls.length
    ·obtain ⟨l, hl⟩ : ∃ l, ls[k]? = some l := ⟨_, List.getElem?_eq_getElem hlt⟩
     have HLk := zh hl
     have HOK := zh (HLS.out.1 l (List.mem_of_getElem? hl))
     obtain ⟨q, off, c, T', fr', tv, rfl, hq, hx, hti⟩ := (HL.out.below HC.out.bb).at hl
     obtain ⟨ta, tcp, rfl, -, -⟩ := id hti
     have HTI := zh hti
     have HQ := zh hq
     have HX := zh hx
     clear hq hx hl hti
     go_upto_region 14 with (first | (refine wpList_store_row rfl _ _ _ rfl _ _ rfl rfl _ _ (heap_alloc_new _ _) ?_ ?_ ?_ ?_; kernel_rfl; rfl; kernel_rfl; rw [World.setRow_alloc_new]) | (refine z9 _ _ rfl _ _ rfl _ _ _ (HQ.out) ([.int .i64 (l).label, .int .i64 (l).ins.op, .int .i64 (l).ins.d, .int .i64 (l).ins.s, .int .u16 (l).ins.imm, .int .u16 (l).ins.aux, .int .i64 (l).ins.bank, .int .i64 (l).ins.size, .int .i64 (l).dest, .int .i64 (l).fn, .int .i64 (l).obj, .slice ta (l).tab.length tcp]) (HX.out) ?_ ?_ ?_; kernel_rfl; kernel_rfl))
     have hC1 := HC.out.stay ((Below.refl wr.heap.size wr).alloc (zn _) (.cells #[.int .i64 (l).label, .int .i64 (l).ins.op, .int .i64 (l).ins.d, .int .i64 (l).ins.s, .int .u16 (l).ins.imm, .int .u16 (l).ins.aux, .int .i64 (l).ins.bank, .int .i64 (l).ins.size, .int .i64 (l).dest, .int .i64 (l).fn, .int .i64 (l).obj, .slice ta (l).tab.length tcp] 58))
     have hn := heap_alloc_new wr (.cells #[.int .i64 (l).label, .int .i64 (l).ins.op, .int .i64 (l).ins.d, .int .i64 (l).ins.s, .int .u16 (l).ins.imm, .int .u16 (l).ins.aux, .int .i64 (l).ins.bank, .int .i64 (l).ins.size, .int .i64 (l).dest, .int .i64 (l).fn, .int .i64 (l).obj, .slice ta (l).tab.length tcp] 58)
     replace HTI := zh (HTI.out.below ((Below.refl wr.heap.size wr).alloc (zn _) (.cells #[.int .i64 (l).label, .int .i64 (l).ins.op, .int .i64 (l).ins.d, .int .i64 (l).ins.s, .int .u16 (l).ins.imm, .int .u16 (l).ins.aux, .int .i64 (l).ins.bank, .int .i64 (l).ins.size, .int .i64 (l).dest, .int .i64 (l).fn, .int .i64 (l).obj, .slice ta (l).tab.length tcp] 58)))
     obtain ⟨W, hW⟩ : ∃ W : World, wr.alloc (.cells #[.int .i64 (l).label, .int .i64 (l).ins.op, .int .i64 (l).ins.d, .int .i64 (l).ins.s, .int .u16 (l).ins.imm, .int .u16 (l).ins.aux, .int .i64 (l).ins.bank, .int .i64 (l).ins.size, .int .i64 (l).dest, .int .i64 (l).fn, .int .i64 (l).obj, .slice ta (l).tab.length tcp] 58) = W := ⟨_, rfl⟩
     obtain ⟨g, hg⟩ : ∃ g : Nat, wr.heap.size = g := ⟨_, rfl⟩
     rw [hW] at hC1 hn HTI ⊢
     rw [hg] at hn ⊢
     clear hW
     have HC1 := zh hC1
     have HN := zh hn
     have c0 := cell_of_row W g 1 _ _ _ hn
     clear hC1 hn hg
     have HID := zh (show zX l.dest from HOK.out.dest)
     have HIM := zh (show zX (-1) by unfold zX; omega)
     rcases xL l.ins.op with hf | hf | hf | hf | hf
     ·as_aux_lemma =>
      have HF := zh (show ∀ V, Calls Try.prog 42 #[.int .i64 l.ins.op] V fun e w' => e = .returned (.int .i64 0) ∧ Below V.heap.size V w' from fun V => by have := xc l.ins.op V; rw [hf] at this; exact this)
      have HFE := zh hf
      clear hf
      go_upto_region 16 with (go_at_call 42; refine (HF.out _).mono ?_; rintro e W2 ⟨rfl, hb2⟩)
      have HC2 := zh (HC1.out.stay hb2)
      have HN2 := zh (zf hb2 HN.out)
      have HTI2 := zh (HTI.out.below hb2)
      have hcz : ∀ o : Nat, W2.cell? ⟨g, o, none⟩ = (#[.int .i64 (l).label, .int .i64 (l).ins.op, .int .i64 (l).ins.d, .int .i64 (l).ins.s, .int .u16 (l).ins.imm, .int .u16 (l).ins.aux, .int .i64 (l).ins.bank, .int .i64 (l).ins.size, .int .i64 (l).dest, .int .i64 (l).fn, .int .i64 (l).obj, .slice ta (l).tab.length tcp] : Array Value)[o]? := fun o => cell_of_row W2 g o _ _ _ HN2.out
      have c8 := cell_of_row W2 (w.heap.size + 3) 2 _ _ _ HC2.out.b3
      clear hb2 c0
      have HV := zh (show zY (yI ls) nf no l = false by unfold zY; rw [HFE.out]; simp [zK])
      have HNO := zh (xI HLk.out HV.out)
      go_wp2_with (first | (at_lookup; refine xz Try.underlying3 rfl _ _ 72 rfl Try.underlying72 (zeroI _) rfl HC2.out.mp l.dest rfl HID.out ?_) | (refine wpList_store_row rfl _ _ _ rfl _ _ rfl rfl _ _ (HC2.out.b1) ?_ ?_ ?_ ?_; kernel_rfl; rfl; kernel_rfl))
      try rw [Exit.noGoto_ret]
      refine bodyPost_ret (zI (cs := #[.string ⟨#[]⟩, .slice none 0 0, .map none]) (fr := (0, 0)) Try.results26 _ _ (w.heap.size + 1) 74 _ rfl (setRow_heap _ _ _ _ _ _ HC2.out.b1) Try.underlying74 rfl (by kernel_rfl)) rfl ⟨below_setRow HC2.out.bb (by omega) _, .inl ⟨HNO.out, rfl⟩⟩
     ·as_aux_lemma =>
      have HF := zh (show ∀ V, Calls Try.prog 42 #[.int .i64 l.ins.op] V fun e w' => e = .returned (.int .i64 1) ∧ Below V.heap.size V w' from fun V => by have := xc l.ins.op V; rw [hf] at this; exact this)
      have HFE := zh hf
      clear hf
      go_upto_region 16 with (go_at_call 42; refine (HF.out _).mono ?_; rintro e W2 ⟨rfl, hb2⟩)
      have HC2 := zh (HC1.out.stay hb2)
      have HN2 := zh (zf hb2 HN.out)
      have HTI2 := zh (HTI.out.below hb2)
      have hcz : ∀ o : Nat, W2.cell? ⟨g, o, none⟩ = (#[.int .i64 (l).label, .int .i64 (l).ins.op, .int .i64 (l).ins.d, .int .i64 (l).ins.s, .int .u16 (l).ins.imm, .int .u16 (l).ins.aux, .int .i64 (l).ins.bank, .int .i64 (l).ins.size, .int .i64 (l).dest, .int .i64 (l).fn, .int .i64 (l).obj, .slice ta (l).tab.length tcp] : Array Value)[o]? := fun o => cell_of_row W2 g o _ _ _ HN2.out
      have c8 := cell_of_row W2 (w.heap.size + 3) 2 _ _ _ HC2.out.b3
      clear hb2 c0
      have hop := form1_op HFE.out
      have HOP := zh hop
      clear hop
      go_upto_region 20 with (first | (at_lookup; refine xz Try.underlying3 rfl _ _ 72 rfl Try.underlying72 (zeroI _) rfl HC2.out.mp l.dest rfl HID.out ?_))
      have HSZ := zh (show ∀ V, Calls Try.prog 46 #[.agg #[.int .i64 l.ins.op, .int .i64 l.ins.d, .int .i64 l.ins.s, .int .u16 l.ins.imm, .int .u16 l.ins.aux, .int .i64 l.ins.bank, .int .i64 l.ins.size]] V fun e w' => e = .returned (.agg #[.int .i64 l.ins.op, .int .i64 l.ins.d, .int .i64 l.ins.s, .int .u16 l.ins.imm, .int .u16 l.ins.aux, .int .i64 l.ins.bank, .int .i64 (zH (l.ins.op % 256))]) ∧ Below V.heap.size V w' from fun V => sized_any l.ins V)
      have HVL := zh (show ∀ V, Calls Try.prog 45 #[.agg #[.int .i64 l.ins.op, .int .i64 l.ins.d, .int .i64 l.ins.s, .int .u16 l.ins.imm, .int .u16 l.ins.aux, .int .i64 l.ins.bank, .int .i64 (zH (l.ins.op % 256))]] V fun e w' => e = .returned (.bool (zQ { l.ins with size := zH l.ins.op })) ∧ Below V.heap.size V w' from fun V => by have := valid_any (z6 l.ins) (sized_ok HOK.out.ins) V; rw [show z6 l.ins = { l.ins with size := zH l.ins.op } by unfold z6; rw [Int.emod_eq_of_lt HOP.out.1 (by have := HOP.out.2; omega)]] at this; rw [Int.emod_eq_of_lt HOP.out.1 (by have := HOP.out.2; omega)]; exact this)
      have HWD := zh (fun V => wide_any l.ins.op V)
      by_cases h1 : l.dest = -1
      rotate_left
      ·have h1a : (l.dest == -1) = false := by simp [h1]
       have h1b : (l.dest != -1) = true := by simp [h1]
       have HV := zh (show zY (yI ls) nf no l = false by unfold zY; rw [HFE.out]; simp [h1])
       have HNO := zh (xI HLk.out HV.out)
       go_wp2_with (first | fail | (refine wpList_store_row rfl _ _ _ rfl _ _ rfl rfl _ _ (HC2.out.b1) ?_ ?_ ?_ ?_; kernel_rfl; rfl; kernel_rfl))
       try rw [Exit.noGoto_ret]
       refine bodyPost_ret (zI (cs := #[.string ⟨#[]⟩, .slice none 0 0, .map none]) (fr := (0, 0)) Try.results26 _ _ (w.heap.size + 1) 74 _ rfl (setRow_heap _ _ _ _ _ _ HC2.out.b1) Try.underlying74 rfl (by kernel_rfl)) rfl ⟨below_setRow HC2.out.bb (by omega) _, .inl ⟨HNO.out, rfl⟩⟩
      ·skip
       go_upto_region 21 with (first | fail)
       have HE1 := zh h1
       clear h1
       by_cases h2 : l.fn = -1
       rotate_left
       ·have h2a : (l.fn == -1) = false := by simp [h2]
        have h2b : (l.fn != -1) = true := by simp [h2]
        have HV := zh (show zY (yI ls) nf no l = false by unfold zY; rw [HFE.out]; simp [HE1.out, h2])
        have HNO := zh (xI HLk.out HV.out)
        go_wp2_with (first | fail | (refine wpList_store_row rfl _ _ _ rfl _ _ rfl rfl _ _ (HC2.out.b1) ?_ ?_ ?_ ?_; kernel_rfl; rfl; kernel_rfl))
        try rw [Exit.noGoto_ret]
        refine bodyPost_ret (zI (cs := #[.string ⟨#[]⟩, .slice none 0 0, .map none]) (fr := (0, 0)) Try.results26 _ _ (w.heap.size + 1) 74 _ rfl (setRow_heap _ _ _ _ _ _ HC2.out.b1) Try.underlying74 rfl (by kernel_rfl)) rfl ⟨below_setRow HC2.out.bb (by omega) _, .inl ⟨HNO.out, rfl⟩⟩
       ·skip
        go_upto_region 23 with (first | fail)
        have HE2 := zh h2
        clear h2
        by_cases h4 : 0 < l.tab.length
        ·skip
         have HV := zh (show zY (yI ls) nf no l = false by unfold zY; rw [HFE.out]; simp [HE1.out, HE2.out, h4])
         have HNO := zh (xI HLk.out HV.out)
         go_wp2_with (first | fail | (refine wpList_store_row rfl _ _ _ rfl _ _ rfl rfl _ _ (HC2.out.b1) ?_ ?_ ?_ ?_; kernel_rfl; rfl; kernel_rfl))
         try rw [Exit.noGoto_ret]
         refine bodyPost_ret (zI (cs := #[.string ⟨#[]⟩, .slice none 0 0, .map none]) (fr := (0, 0)) Try.results26 _ _ (w.heap.size + 1) 74 _ rfl (setRow_heap _ _ _ _ _ _ HC2.out.b1) Try.underlying74 rfl (by kernel_rfl)) rfl ⟨below_setRow HC2.out.bb (by omega) _, .inl ⟨HNO.out, rfl⟩⟩
        ·replace h4 : l.tab.length = 0 := by omega
         go_upto_region 30 with (first | fail)
         have HE4 := zh h4
         clear h4
         go_upto_region 30 with fail
         go_cut [166] (fun s wx => ∃ b : Bool, s = .bool b ∧ Hid (b = (zQ { l.ins with size := zH l.ins.op } && (l.obj == -1 || (xR l.ins.op && decide (0 ≤ l.obj) && decide (l.obj < no))))) ∧ Hid (CkW w nm (.slice (some ⟨q, off, none⟩) ls.length cap) (xH ls) wx))
         case first =>
          cases hv : zQ { l.ins with size := zH l.ins.op } with
          | false =>
           rw [hv] at HVL
           have HVV := zh hv
           clear hv
           go_wp2_with (first | (go_at_call 46; refine (HSZ.out _).mono ?_; rintro e W3 ⟨rfl, hb3⟩) | (go_at_call 45; refine (HVL.out _).mono ?_; rintro e W4 ⟨rfl, hb4⟩; have HC4 := zh ((HC2.out.stay hb3).stay hb4); have hcy : ∀ o : Nat, W4.cell? ⟨g, o, none⟩ = (#[.int .i64 (l).label, .int .i64 (l).ins.op, .int .i64 (l).ins.d, .int .i64 (l).ins.s, .int .u16 (l).ins.imm, .int .u16 (l).ins.aux, .int .i64 (l).ins.bank, .int .i64 (l).ins.size, .int .i64 (l).dest, .int .i64 (l).fn, .int .i64 (l).obj, .slice ta (l).tab.length tcp] : Array Value)[o]? := fun o => cell_of_row W4 g o _ _ _ (zf hb4 (zf hb3 HN2.out)); clear hb3 hb4) | (go_at_call 47; refine (HWD.out _).mono ?_; rintro e W5 ⟨rfl, rfl⟩))
           go_meet
           exact ⟨_, rfl, zh (by rw [HVV.out]; rfl), HC4⟩
          | true =>
           rw [hv] at HVL
           have HVV := zh hv
           clear hv
           by_cases h3 : l.obj = -1
           ·skip
            go_wp2_with (first | (go_at_call 46; refine (HSZ.out _).mono ?_; rintro e W3 ⟨rfl, hb3⟩) | (go_at_call 45; refine (HVL.out _).mono ?_; rintro e W4 ⟨rfl, hb4⟩; have HC4 := zh ((HC2.out.stay hb3).stay hb4); have hcy : ∀ o : Nat, W4.cell? ⟨g, o, none⟩ = (#[.int .i64 (l).label, .int .i64 (l).ins.op, .int .i64 (l).ins.d, .int .i64 (l).ins.s, .int .u16 (l).ins.imm, .int .u16 (l).ins.aux, .int .i64 (l).ins.bank, .int .i64 (l).ins.size, .int .i64 (l).dest, .int .i64 (l).fn, .int .i64 (l).obj, .slice ta (l).tab.length tcp] : Array Value)[o]? := fun o => cell_of_row W4 g o _ _ _ (zf hb4 (zf hb3 HN2.out)); clear hb3 hb4) | (go_at_call 47; refine (HWD.out _).mono ?_; rintro e W5 ⟨rfl, rfl⟩))
            go_meet
            exact ⟨_, rfl, zh (by rw [HVV.out]; simp [h3]), HC4⟩
           have h3a : (l.obj == -1) = false := by simp [h3]
           cases hw : xR l.ins.op with
           | false =>
            rw [hw] at HWD
            have HWW := zh hw
            clear hw
            go_wp2_with (first | (go_at_call 46; refine (HSZ.out _).mono ?_; rintro e W3 ⟨rfl, hb3⟩) | (go_at_call 45; refine (HVL.out _).mono ?_; rintro e W4 ⟨rfl, hb4⟩; have HC4 := zh ((HC2.out.stay hb3).stay hb4); have hcy : ∀ o : Nat, W4.cell? ⟨g, o, none⟩ = (#[.int .i64 (l).label, .int .i64 (l).ins.op, .int .i64 (l).ins.d, .int .i64 (l).ins.s, .int .u16 (l).ins.imm, .int .u16 (l).ins.aux, .int .i64 (l).ins.bank, .int .i64 (l).ins.size, .int .i64 (l).dest, .int .i64 (l).fn, .int .i64 (l).obj, .slice ta (l).tab.length tcp] : Array Value)[o]? := fun o => cell_of_row W4 g o _ _ _ (zf hb4 (zf hb3 HN2.out)); clear hb3 hb4) | (go_at_call 47; refine (HWD.out _).mono ?_; rintro e W5 ⟨rfl, rfl⟩))
            go_meet
            exact ⟨_, rfl, zh (by rw [HVV.out, HWW.out]; simp [h3]), HC4⟩
           | true =>
            rw [hw] at HWD
            have HWW := zh hw
            clear hw
            by_cases h5 : 0 ≤ l.obj
            rotate_left
            ·replace h5 : l.obj < 0 := by omega
             go_wp2_with (first | (go_at_call 46; refine (HSZ.out _).mono ?_; rintro e W3 ⟨rfl, hb3⟩) | (go_at_call 45; refine (HVL.out _).mono ?_; rintro e W4 ⟨rfl, hb4⟩; have HC4 := zh ((HC2.out.stay hb3).stay hb4); have hcy : ∀ o : Nat, W4.cell? ⟨g, o, none⟩ = (#[.int .i64 (l).label, .int .i64 (l).ins.op, .int .i64 (l).ins.d, .int .i64 (l).ins.s, .int .u16 (l).ins.imm, .int .u16 (l).ins.aux, .int .i64 (l).ins.bank, .int .i64 (l).ins.size, .int .i64 (l).dest, .int .i64 (l).fn, .int .i64 (l).obj, .slice ta (l).tab.length tcp] : Array Value)[o]? := fun o => cell_of_row W4 g o _ _ _ (zf hb4 (zf hb3 HN2.out)); clear hb3 hb4) | (go_at_call 47; refine (HWD.out _).mono ?_; rintro e W5 ⟨rfl, rfl⟩))
             go_meet
             exact ⟨_, rfl, zh (by rw [HVV.out, HWW.out]; simp [h3, show ¬ 0 ≤ l.obj by omega]), HC4⟩
            by_cases h6 : l.obj < no
            rotate_left
            ·replace h6 : (no : Int) ≤ l.obj := by omega
             go_wp2_with (first | (go_at_call 46; refine (HSZ.out _).mono ?_; rintro e W3 ⟨rfl, hb3⟩) | (go_at_call 45; refine (HVL.out _).mono ?_; rintro e W4 ⟨rfl, hb4⟩; have HC4 := zh ((HC2.out.stay hb3).stay hb4); have hcy : ∀ o : Nat, W4.cell? ⟨g, o, none⟩ = (#[.int .i64 (l).label, .int .i64 (l).ins.op, .int .i64 (l).ins.d, .int .i64 (l).ins.s, .int .u16 (l).ins.imm, .int .u16 (l).ins.aux, .int .i64 (l).ins.bank, .int .i64 (l).ins.size, .int .i64 (l).dest, .int .i64 (l).fn, .int .i64 (l).obj, .slice ta (l).tab.length tcp] : Array Value)[o]? := fun o => cell_of_row W4 g o _ _ _ (zf hb4 (zf hb3 HN2.out)); clear hb3 hb4) | (go_at_call 47; refine (HWD.out _).mono ?_; rintro e W5 ⟨rfl, rfl⟩))
             go_meet
             exact ⟨_, rfl, zh (by rw [HVV.out, HWW.out]; simp [h3, show ¬ l.obj < no by omega]), HC4⟩
            go_wp2_with (first | (go_at_call 46; refine (HSZ.out _).mono ?_; rintro e W3 ⟨rfl, hb3⟩) | (go_at_call 45; refine (HVL.out _).mono ?_; rintro e W4 ⟨rfl, hb4⟩; have HC4 := zh ((HC2.out.stay hb3).stay hb4); have hcy : ∀ o : Nat, W4.cell? ⟨g, o, none⟩ = (#[.int .i64 (l).label, .int .i64 (l).ins.op, .int .i64 (l).ins.d, .int .i64 (l).ins.s, .int .u16 (l).ins.imm, .int .u16 (l).ins.aux, .int .i64 (l).ins.bank, .int .i64 (l).ins.size, .int .i64 (l).dest, .int .i64 (l).fn, .int .i64 (l).obj, .slice ta (l).tab.length tcp] : Array Value)[o]? := fun o => cell_of_row W4 g o _ _ _ (zf hb4 (zf hb3 HN2.out)); clear hb3 hb4) | (go_at_call 47; refine (HWD.out _).mono ?_; rintro e W5 ⟨rfl, rfl⟩))
            go_meet
            exact ⟨_, rfl, zh (by rw [HVV.out, HWW.out]; simp [h3, h5, h6]), HC4⟩
         case rest =>
          obtain ⟨b, rfl, HBB, HC4⟩ := hcut
          cases b with
          | false =>
           have hbb : (zQ { l.ins with size := zH l.ins.op } && (l.obj == -1 || (xR l.ins.op && decide (0 ≤ l.obj) && decide (l.obj < no)))) = false := HBB.out.symm
           have HBC := zh hbb
           clear hbb HBB
           have HV := zh (show zY (yI ls) nf no l = false by rw [ok1 HFE.out, HBC.out]; simp [HE1.out, HE2.out, HE4.out])
           have HNO := zh (xI HLk.out HV.out)
           go_upto_region 17 with fail
           go_wp2_with (first | fail | (refine wpList_store_row rfl _ _ _ rfl _ _ rfl rfl _ _ (HC4.out.b1) ?_ ?_ ?_ ?_; kernel_rfl; rfl; kernel_rfl))
           try rw [Exit.noGoto_ret]
           refine bodyPost_ret (zI (cs := #[.string ⟨#[]⟩, .slice none 0 0, .map none]) (fr := (0, 0)) Try.results26 _ _ (w.heap.size + 1) 74 _ rfl (setRow_heap _ _ _ _ _ _ HC4.out.b1) Try.underlying74 rfl (by kernel_rfl)) rfl ⟨below_setRow HC4.out.bb (by omega) _, .inl ⟨HNO.out, rfl⟩⟩
          | true =>
           have hbb : (zQ { l.ins with size := zH l.ins.op } && (l.obj == -1 || (xR l.ins.op && decide (0 ≤ l.obj) && decide (l.obj < no)))) = true := HBB.out.symm
           have HBC := zh hbb
           clear hbb HBB
           have HV := zh (show zY (yI ls) nf no l = true by rw [ok1 HFE.out, HBC.out]; simp [HE1.out, HE2.out, HE4.out])
           go_wp2_with (first | fail)
           go_roundw
           case rel => exact ⟨k + 1, by omega, by go_num, HC4, zh (line_yes HLN.out HLk.out HV.out)⟩
           case measure => simp [intOf]; omega
     ·as_aux_lemma =>
      have HF := zh (show ∀ V, Calls Try.prog 42 #[.int .i64 l.ins.op] V fun e w' => e = .returned (.int .i64 2) ∧ Below V.heap.size V w' from fun V => by have := xc l.ins.op V; rw [hf] at this; exact this)
      have HFE := zh hf
      clear hf
      go_upto_region 16 with (go_at_call 42; refine (HF.out _).mono ?_; rintro e W2 ⟨rfl, hb2⟩)
      have HC2 := zh (HC1.out.stay hb2)
      have HN2 := zh (zf hb2 HN.out)
      have HTI2 := zh (HTI.out.below hb2)
      have hcz : ∀ o : Nat, W2.cell? ⟨g, o, none⟩ = (#[.int .i64 (l).label, .int .i64 (l).ins.op, .int .i64 (l).ins.d, .int .i64 (l).ins.s, .int .u16 (l).ins.imm, .int .u16 (l).ins.aux, .int .i64 (l).ins.bank, .int .i64 (l).ins.size, .int .i64 (l).dest, .int .i64 (l).fn, .int .i64 (l).obj, .slice ta (l).tab.length tcp] : Array Value)[o]? := fun o => cell_of_row W2 g o _ _ _ HN2.out
      have c8 := cell_of_row W2 (w.heap.size + 3) 2 _ _ _ HC2.out.b3
      clear hb2 c0
      cases hd : yI ls l.dest with
      | none =>
       have HG := zh (show xH ls l.dest = none by unfold xH; rw [hd]; rfl)
       have HV := zh (show zY (yI ls) nf no l = false by unfold zY; rw [HFE.out]; simp [hd])
       have HNO := zh (xI HLk.out HV.out)
       go_wp2_with (first | (at_lookup; refine x9 Try.underlying3 rfl _ _ 72 rfl Try.underlying72 (zeroI _) rfl HC2.out.mp l.dest rfl HID.out HG.out ?_) | (refine wpList_store_row rfl _ _ _ rfl _ _ rfl rfl _ _ (HC2.out.b1) ?_ ?_ ?_ ?_; kernel_rfl; rfl; kernel_rfl))
       try rw [Exit.noGoto_ret]
       refine bodyPost_ret (zI (cs := #[.string ⟨#[]⟩, .slice none 0 0, .map none]) (fr := (0, 0)) Try.results26 _ _ (w.heap.size + 1) 74 _ rfl (setRow_heap _ _ _ _ _ _ HC2.out.b1) Try.underlying74 rfl (by kernel_rfl)) rfl ⟨below_setRow HC2.out.bb (by omega) _, .inl ⟨HNO.out, rfl⟩⟩
      | some jd =>
       have HG := zh (show xH ls l.dest = some (jd : Int) by unfold xH; rw [hd]; rfl)
       go_upto_region 21 with (first | (at_lookup; refine jN Try.underlying3 rfl _ _ 72 rfl Try.underlying72 (zeroI _) rfl HC2.out.mp l.dest jd rfl HID.out HG.out ?_))
       by_cases h2 : l.fn = -1
       rotate_left
       ·have h2a : (l.fn == -1) = false := by simp [h2]
        have h2b : (l.fn != -1) = true := by simp [h2]
        have HV := zh (show zY (yI ls) nf no l = false by unfold zY; rw [HFE.out]; simp [hd, h2])
        have HNO := zh (xI HLk.out HV.out)
        go_wp2_with (first | fail | (refine wpList_store_row rfl _ _ _ rfl _ _ rfl rfl _ _ (HC2.out.b1) ?_ ?_ ?_ ?_; kernel_rfl; rfl; kernel_rfl))
        try rw [Exit.noGoto_ret]
        refine bodyPost_ret (zI (cs := #[.string ⟨#[]⟩, .slice none 0 0, .map none]) (fr := (0, 0)) Try.results26 _ _ (w.heap.size + 1) 74 _ rfl (setRow_heap _ _ _ _ _ _ HC2.out.b1) Try.underlying74 rfl (by kernel_rfl)) rfl ⟨below_setRow HC2.out.bb (by omega) _, .inl ⟨HNO.out, rfl⟩⟩
       ·skip
        go_upto_region 22 with (first | fail)
        have HE2 := zh h2
        clear h2
        by_cases h3 : l.obj = -1
        rotate_left
        ·have h3a : (l.obj == -1) = false := by simp [h3]
         have h3b : (l.obj != -1) = true := by simp [h3]
         have HV := zh (show zY (yI ls) nf no l = false by unfold zY; rw [HFE.out]; simp [hd, HE2.out, h3])
         have HNO := zh (xI HLk.out HV.out)
         go_wp2_with (first | fail | (refine wpList_store_row rfl _ _ _ rfl _ _ rfl rfl _ _ (HC2.out.b1) ?_ ?_ ?_ ?_; kernel_rfl; rfl; kernel_rfl))
         try rw [Exit.noGoto_ret]
         refine bodyPost_ret (zI (cs := #[.string ⟨#[]⟩, .slice none 0 0, .map none]) (fr := (0, 0)) Try.results26 _ _ (w.heap.size + 1) 74 _ rfl (setRow_heap _ _ _ _ _ _ HC2.out.b1) Try.underlying74 rfl (by kernel_rfl)) rfl ⟨below_setRow HC2.out.bb (by omega) _, .inl ⟨HNO.out, rfl⟩⟩
        ·skip
         go_upto_region 23 with (first | fail)
         have HE3 := zh h3
         clear h3
         by_cases h4 : 0 < l.tab.length
         ·skip
          have HV := zh (show zY (yI ls) nf no l = false by unfold zY; rw [HFE.out]; simp [hd, HE2.out, HE3.out, h4])
          have HNO := zh (xI HLk.out HV.out)
          go_wp2_with (first | fail | (refine wpList_store_row rfl _ _ _ rfl _ _ rfl rfl _ _ (HC2.out.b1) ?_ ?_ ?_ ?_; kernel_rfl; rfl; kernel_rfl))
          try rw [Exit.noGoto_ret]
          refine bodyPost_ret (zI (cs := #[.string ⟨#[]⟩, .slice none 0 0, .map none]) (fr := (0, 0)) Try.results26 _ _ (w.heap.size + 1) 74 _ rfl (setRow_heap _ _ _ _ _ _ HC2.out.b1) Try.underlying74 rfl (by kernel_rfl)) rfl ⟨below_setRow HC2.out.bb (by omega) _, .inl ⟨HNO.out, rfl⟩⟩
         ·replace h4 : l.tab.length = 0 := by omega
          go_upto_region 25 with (first | fail)
          have HE4 := zh h4
          clear h4
          have HV := zh (show zY (yI ls) nf no l = true by unfold zY; rw [HFE.out]; simp [hd, HE2.out, HE3.out, HE4.out])
          go_wp2_with (first | fail)
          go_roundw
          case rel => exact ⟨k + 1, by omega, by go_num, HC2, zh (line_yes HLN.out HLk.out HV.out)⟩
          case measure => simp [intOf]; omega
     ·as_aux_lemma =>
      have HF := zh (show ∀ V, Calls Try.prog 42 #[.int .i64 l.ins.op] V fun e w' => e = .returned (.int .i64 3) ∧ Below V.heap.size V w' from fun V => by have := xc l.ins.op V; rw [hf] at this; exact this)
      have HFE := zh hf
      clear hf
      go_upto_region 16 with (go_at_call 42; refine (HF.out _).mono ?_; rintro e W2 ⟨rfl, hb2⟩)
      have HC2 := zh (HC1.out.stay hb2)
      have HN2 := zh (zf hb2 HN.out)
      have HTI2 := zh (HTI.out.below hb2)
      have hcz : ∀ o : Nat, W2.cell? ⟨g, o, none⟩ = (#[.int .i64 (l).label, .int .i64 (l).ins.op, .int .i64 (l).ins.d, .int .i64 (l).ins.s, .int .u16 (l).ins.imm, .int .u16 (l).ins.aux, .int .i64 (l).ins.bank, .int .i64 (l).ins.size, .int .i64 (l).dest, .int .i64 (l).fn, .int .i64 (l).obj, .slice ta (l).tab.length tcp] : Array Value)[o]? := fun o => cell_of_row W2 g o _ _ _ HN2.out
      have c8 := cell_of_row W2 (w.heap.size + 3) 2 _ _ _ HC2.out.b3
      clear hb2 c0
      cases hd : yI ls l.dest with
      | none =>
       have HG := zh (show xH ls l.dest = none by unfold xH; rw [hd]; rfl)
       have HV := zh (show zY (yI ls) nf no l = false by unfold zY; rw [HFE.out]; simp [hd])
       have HNO := zh (xI HLk.out HV.out)
       go_wp2_with (first | (at_lookup; refine x9 Try.underlying3 rfl _ _ 72 rfl Try.underlying72 (zeroI _) rfl HC2.out.mp l.dest rfl HID.out HG.out ?_) | (refine wpList_store_row rfl _ _ _ rfl _ _ rfl rfl _ _ (HC2.out.b1) ?_ ?_ ?_ ?_; kernel_rfl; rfl; kernel_rfl))
       try rw [Exit.noGoto_ret]
       refine bodyPost_ret (zI (cs := #[.string ⟨#[]⟩, .slice none 0 0, .map none]) (fr := (0, 0)) Try.results26 _ _ (w.heap.size + 1) 74 _ rfl (setRow_heap _ _ _ _ _ _ HC2.out.b1) Try.underlying74 rfl (by kernel_rfl)) rfl ⟨below_setRow HC2.out.bb (by omega) _, .inl ⟨HNO.out, rfl⟩⟩
      | some jd =>
       have HG := zh (show xH ls l.dest = some (jd : Int) by unfold xH; rw [hd]; rfl)
       go_upto_region 21 with (first | (at_lookup; refine jN Try.underlying3 rfl _ _ 72 rfl Try.underlying72 (zeroI _) rfl HC2.out.mp l.dest jd rfl HID.out HG.out ?_))
       by_cases h2 : l.fn = -1
       rotate_left
       ·have h2a : (l.fn == -1) = false := by simp [h2]
        have h2b : (l.fn != -1) = true := by simp [h2]
        have HV := zh (show zY (yI ls) nf no l = false by unfold zY; rw [HFE.out]; simp [hd, h2])
        have HNO := zh (xI HLk.out HV.out)
        go_wp2_with (first | fail | (refine wpList_store_row rfl _ _ _ rfl _ _ rfl rfl _ _ (HC2.out.b1) ?_ ?_ ?_ ?_; kernel_rfl; rfl; kernel_rfl))
        try rw [Exit.noGoto_ret]
        refine bodyPost_ret (zI (cs := #[.string ⟨#[]⟩, .slice none 0 0, .map none]) (fr := (0, 0)) Try.results26 _ _ (w.heap.size + 1) 74 _ rfl (setRow_heap _ _ _ _ _ _ HC2.out.b1) Try.underlying74 rfl (by kernel_rfl)) rfl ⟨below_setRow HC2.out.bb (by omega) _, .inl ⟨HNO.out, rfl⟩⟩
       ·skip
        go_upto_region 22 with (first | fail)
        have HE2 := zh h2
        clear h2
        by_cases h3 : l.obj = -1
        rotate_left
        ·have h3a : (l.obj == -1) = false := by simp [h3]
         have h3b : (l.obj != -1) = true := by simp [h3]
         have HV := zh (show zY (yI ls) nf no l = false by unfold zY; rw [HFE.out]; simp [hd, HE2.out, h3])
         have HNO := zh (xI HLk.out HV.out)
         go_wp2_with (first | fail | (refine wpList_store_row rfl _ _ _ rfl _ _ rfl rfl _ _ (HC2.out.b1) ?_ ?_ ?_ ?_; kernel_rfl; rfl; kernel_rfl))
         try rw [Exit.noGoto_ret]
         refine bodyPost_ret (zI (cs := #[.string ⟨#[]⟩, .slice none 0 0, .map none]) (fr := (0, 0)) Try.results26 _ _ (w.heap.size + 1) 74 _ rfl (setRow_heap _ _ _ _ _ _ HC2.out.b1) Try.underlying74 rfl (by kernel_rfl)) rfl ⟨below_setRow HC2.out.bb (by omega) _, .inl ⟨HNO.out, rfl⟩⟩
        ·skip
         go_upto_region 23 with (first | fail)
         have HE3 := zh h3
         clear h3
         go_upto_region 27 with fail
         have HB0 := zh (rfl : (decide (0 ≤ l.ins.d) && decide (l.ins.d < 8) && decide (0 < l.tab.length) && decide (l.tab.length < 256)) = (decide (0 ≤ l.ins.d) && decide (l.ins.d < 8) && decide (0 < l.tab.length) && decide (l.tab.length < 256)))
         go_cut [134] (fun s wx => ∃ b : Bool, s = .bool b ∧ Hid (b = (decide (0 ≤ l.ins.d) && decide (l.ins.d < 8) && decide (0 < l.tab.length) && decide (l.tab.length < 256))) ∧ wx = W2)
         case first =>
          by_cases h5 : 0 ≤ l.ins.d
          rotate_left
          ·replace h5 : l.ins.d < 0 := by omega
           go_wp2_with fail
           go_meet
           exact ⟨_, rfl, zh (by simp [show ¬ 0 ≤ l.ins.d by omega] <;> omega), rfl⟩
          by_cases h6 : l.ins.d < 8
          rotate_left
          ·replace h6 : 8 ≤ l.ins.d := by omega
           go_wp2_with fail
           go_meet
           exact ⟨_, rfl, zh (by simp [show ¬ l.ins.d < 8 by omega] <;> omega), rfl⟩
          by_cases h4 : 0 < l.tab.length
          rotate_left
          ·replace h4 : l.tab.length = 0 := by omega
           go_wp2_with fail
           go_meet
           exact ⟨_, rfl, zh (by simp [h4] <;> omega), rfl⟩
          by_cases h7 : l.tab.length < 256
          rotate_left
          ·replace h7 : 256 ≤ l.tab.length := by omega
           have h7i : (256 : Int) ≤ (l.tab.length : Int) := by omega
           go_wp2_with fail
           go_meet
           exact ⟨_, rfl, zh (by simp [show ¬ l.tab.length < 256 by omega] <;> omega), rfl⟩
          have h7i : (l.tab.length : Int) < 256 := by omega
          go_wp2_with fail
          go_meet
          exact ⟨_, rfl, zh (by simp [h4, h5, h6, h7] <;> omega), rfl⟩
         case rest =>
          obtain ⟨b, rfl, HBB, rfl⟩ := hcut
          cases b with
          | false =>
           have hbb : (decide (0 ≤ l.ins.d) && decide (l.ins.d < 8) && decide (0 < l.tab.length) && decide (l.tab.length < 256)) = false := HBB.out.symm
           have HBC := zh hbb
           clear hbb HBB
           have HV := zh (show zY (yI ls) nf no l = false by rw [ok3 HFE.out, HBC.out]; simp [hd, HE2.out, HE3.out])
           have HNO := zh (xI HLk.out HV.out)
           go_upto_region 17 with fail
           go_wp2_with (first | fail | (refine wpList_store_row rfl _ _ _ rfl _ _ rfl rfl _ _ (HC2.out.b1) ?_ ?_ ?_ ?_; kernel_rfl; rfl; kernel_rfl))
           try rw [Exit.noGoto_ret]
           refine bodyPost_ret (zI (cs := #[.string ⟨#[]⟩, .slice none 0 0, .map none]) (fr := (0, 0)) Try.results26 _ _ (w.heap.size + 1) 74 _ rfl (setRow_heap _ _ _ _ _ _ HC2.out.b1) Try.underlying74 rfl (by kernel_rfl)) rfl ⟨below_setRow HC2.out.bb (by omega) _, .inl ⟨HNO.out, rfl⟩⟩
          | true =>
           have hbb : (decide (0 ≤ l.ins.d) && decide (l.ins.d < 8) && decide (0 < l.tab.length) && decide (l.tab.length < 256)) = true := HBB.out.symm
           simp only [Bool.and_eq_true, decide_eq_true_eq] at hbb
           obtain ⟨⟨⟨h5, h6⟩, h4⟩, h7⟩ := hbb
           clear HBB
           have htl := HOK.out.tlen
           have HMS := zh (missI_any l.tab HOK.out.tab ta tcp (w.heap.size + 3) (w.heap.size + 2) (xH ls) _ _ _ _ _ HC2.out.b3 HC2.out.mp HTI2.out htl)
           clear htl
           cases hm : l.tab.any (fun n => !(xH ls n).isSome) with
           | true =>
            rw [hm] at HMS
            have ham : (l.tab.all fun n => (yI ls n).isSome) = false := all_any hm
            have HAM := zh ham
            clear hm ham
            have HV := zh (show zY (yI ls) nf no l = false by unfold zY; rw [HFE.out]; simp [hd, HE2.out, HE3.out, h4, h5, h6, h7, HAM.out])
            have HNO := zh (xI HLk.out HV.out)
            go_wp2_with (first | (go_at_call 43; refine (HMS.out).mono ?_; rintro e w9 ⟨rfl, rfl⟩) | (refine wpList_store_row rfl _ _ _ rfl _ _ rfl rfl _ _ (HC2.out.b1) ?_ ?_ ?_ ?_; kernel_rfl; rfl; kernel_rfl))
            try rw [Exit.noGoto_ret]
            refine bodyPost_ret (zI (cs := #[.string ⟨#[]⟩, .slice none 0 0, .map none]) (fr := (0, 0)) Try.results26 _ _ (w.heap.size + 1) 74 _ rfl (setRow_heap _ _ _ _ _ _ HC2.out.b1) Try.underlying74 rfl (by kernel_rfl)) rfl ⟨below_setRow HC2.out.bb (by omega) _, .inl ⟨HNO.out, rfl⟩⟩
           | false =>
            rw [hm] at HMS
            have ham : (l.tab.all fun n => (yI ls n).isSome) = true := all_any hm
            have HAM := zh ham
            clear hm ham
            have HV := zh (show zY (yI ls) nf no l = true by unfold zY; rw [HFE.out]; simp [hd, HE2.out, HE3.out, h4, h5, h6, h7, HAM.out])
            go_wp2_with (first | (go_at_call 43; refine (HMS.out).mono ?_; rintro e w9 ⟨rfl, rfl⟩))
            go_roundw
            case rel => exact ⟨k + 1, by omega, by go_num, HC2, zh (line_yes HLN.out HLk.out HV.out)⟩
            case measure => simp [intOf]; omega
     ·as_aux_lemma =>
      have HF := zh (show ∀ V, Calls Try.prog 42 #[.int .i64 l.ins.op] V fun e w' => e = .returned (.int .i64 4) ∧ Below V.heap.size V w' from fun V => by have := xc l.ins.op V; rw [hf] at this; exact this)
      have HFE := zh hf
      clear hf
      go_upto_region 16 with (go_at_call 42; refine (HF.out _).mono ?_; rintro e W2 ⟨rfl, hb2⟩)
      have HC2 := zh (HC1.out.stay hb2)
      have HN2 := zh (zf hb2 HN.out)
      have HTI2 := zh (HTI.out.below hb2)
      have hcz : ∀ o : Nat, W2.cell? ⟨g, o, none⟩ = (#[.int .i64 (l).label, .int .i64 (l).ins.op, .int .i64 (l).ins.d, .int .i64 (l).ins.s, .int .u16 (l).ins.imm, .int .u16 (l).ins.aux, .int .i64 (l).ins.bank, .int .i64 (l).ins.size, .int .i64 (l).dest, .int .i64 (l).fn, .int .i64 (l).obj, .slice ta (l).tab.length tcp] : Array Value)[o]? := fun o => cell_of_row W2 g o _ _ _ HN2.out
      have c8 := cell_of_row W2 (w.heap.size + 3) 2 _ _ _ HC2.out.b3
      clear hb2 c0
      go_upto_region 20 with (first | (at_lookup; refine xz Try.underlying3 rfl _ _ 72 rfl Try.underlying72 (zeroI _) rfl HC2.out.mp l.dest rfl HID.out ?_))
      by_cases h1 : l.dest = -1
      rotate_left
      ·have h1a : (l.dest == -1) = false := by simp [h1]
       have h1b : (l.dest != -1) = true := by simp [h1]
       have HV := zh (show zY (yI ls) nf no l = false by unfold zY; rw [HFE.out]; simp [h1])
       have HNO := zh (xI HLk.out HV.out)
       go_wp2_with (first | fail | (refine wpList_store_row rfl _ _ _ rfl _ _ rfl rfl _ _ (HC2.out.b1) ?_ ?_ ?_ ?_; kernel_rfl; rfl; kernel_rfl))
       try rw [Exit.noGoto_ret]
       refine bodyPost_ret (zI (cs := #[.string ⟨#[]⟩, .slice none 0 0, .map none]) (fr := (0, 0)) Try.results26 _ _ (w.heap.size + 1) 74 _ rfl (setRow_heap _ _ _ _ _ _ HC2.out.b1) Try.underlying74 rfl (by kernel_rfl)) rfl ⟨below_setRow HC2.out.bb (by omega) _, .inl ⟨HNO.out, rfl⟩⟩
      ·skip
       go_upto_region 22 with (first | fail)
       have HE1 := zh h1
       clear h1
       by_cases h3 : l.obj = -1
       rotate_left
       ·have h3a : (l.obj == -1) = false := by simp [h3]
        have h3b : (l.obj != -1) = true := by simp [h3]
        have HV := zh (show zY (yI ls) nf no l = false by unfold zY; rw [HFE.out]; simp [HE1.out, h3])
        have HNO := zh (xI HLk.out HV.out)
        go_wp2_with (first | fail | (refine wpList_store_row rfl _ _ _ rfl _ _ rfl rfl _ _ (HC2.out.b1) ?_ ?_ ?_ ?_; kernel_rfl; rfl; kernel_rfl))
        try rw [Exit.noGoto_ret]
        refine bodyPost_ret (zI (cs := #[.string ⟨#[]⟩, .slice none 0 0, .map none]) (fr := (0, 0)) Try.results26 _ _ (w.heap.size + 1) 74 _ rfl (setRow_heap _ _ _ _ _ _ HC2.out.b1) Try.underlying74 rfl (by kernel_rfl)) rfl ⟨below_setRow HC2.out.bb (by omega) _, .inl ⟨HNO.out, rfl⟩⟩
       ·skip
        go_upto_region 23 with (first | fail)
        have HE3 := zh h3
        clear h3
        by_cases h4 : 0 < l.tab.length
        ·skip
         have HV := zh (show zY (yI ls) nf no l = false by unfold zY; rw [HFE.out]; simp [HE1.out, HE3.out, h4])
         have HNO := zh (xI HLk.out HV.out)
         go_wp2_with (first | fail | (refine wpList_store_row rfl _ _ _ rfl _ _ rfl rfl _ _ (HC2.out.b1) ?_ ?_ ?_ ?_; kernel_rfl; rfl; kernel_rfl))
         try rw [Exit.noGoto_ret]
         refine bodyPost_ret (zI (cs := #[.string ⟨#[]⟩, .slice none 0 0, .map none]) (fr := (0, 0)) Try.results26 _ _ (w.heap.size + 1) 74 _ rfl (setRow_heap _ _ _ _ _ _ HC2.out.b1) Try.underlying74 rfl (by kernel_rfl)) rfl ⟨below_setRow HC2.out.bb (by omega) _, .inl ⟨HNO.out, rfl⟩⟩
        ·replace h4 : l.tab.length = 0 := by omega
         go_upto_region 26 with (first | fail)
         have HE4 := zh h4
         clear h4
         go_upto_region 26 with fail
         have HB0 := zh (rfl : (decide (0 ≤ l.fn) && decide (l.fn < nf)) = (decide (0 ≤ l.fn) && decide (l.fn < nf)))
         go_cut [118] (fun s wx => ∃ b : Bool, s = .bool b ∧ Hid (b = (decide (0 ≤ l.fn) && decide (l.fn < nf))) ∧ wx = W2)
         case first =>
          by_cases h5 : 0 ≤ l.fn
          rotate_left
          ·replace h5 : l.fn < 0 := by omega
           go_wp2_with fail
           go_meet
           exact ⟨_, rfl, zh (by simp [show ¬ 0 ≤ l.fn by omega] <;> omega), rfl⟩
          by_cases h6 : l.fn < nf
          rotate_left
          ·replace h6 : (nf : Int) ≤ l.fn := by omega
           go_wp2_with fail
           go_meet
           exact ⟨_, rfl, zh (by simp [show ¬ l.fn < nf by omega] <;> omega), rfl⟩
          go_wp2_with fail
          go_meet
          exact ⟨_, rfl, zh (by simp [h5, h6] <;> omega), rfl⟩
         case rest =>
          obtain ⟨b, rfl, HBB, rfl⟩ := hcut
          cases b with
          | false =>
           have hbb : (decide (0 ≤ l.fn) && decide (l.fn < nf)) = false := HBB.out.symm
           have HBC := zh hbb
           clear hbb HBB
           have HV := zh (show zY (yI ls) nf no l = false by rw [ok4 HFE.out, HBC.out]; simp [HE1.out, HE3.out, HE4.out])
           have HNO := zh (xI HLk.out HV.out)
           go_upto_region 17 with fail
           go_wp2_with (first | fail | (refine wpList_store_row rfl _ _ _ rfl _ _ rfl rfl _ _ (HC2.out.b1) ?_ ?_ ?_ ?_; kernel_rfl; rfl; kernel_rfl))
           try rw [Exit.noGoto_ret]
           refine bodyPost_ret (zI (cs := #[.string ⟨#[]⟩, .slice none 0 0, .map none]) (fr := (0, 0)) Try.results26 _ _ (w.heap.size + 1) 74 _ rfl (setRow_heap _ _ _ _ _ _ HC2.out.b1) Try.underlying74 rfl (by kernel_rfl)) rfl ⟨below_setRow HC2.out.bb (by omega) _, .inl ⟨HNO.out, rfl⟩⟩
          | true =>
           have hbb : (decide (0 ≤ l.fn) && decide (l.fn < nf)) = true := HBB.out.symm
           have HBC := zh hbb
           clear hbb HBB
           have HV := zh (show zY (yI ls) nf no l = true by rw [ok4 HFE.out, HBC.out]; simp [HE1.out, HE3.out, HE4.out])
           go_wp2_with (first | fail)
           go_roundw
           case rel => exact ⟨k + 1, by omega, by go_num, HC2, zh (line_yes HLN.out HLk.out HV.out)⟩
           case measure => simp [intOf]; omega
    ·have hke : k = ls.length := by omega
     subst hke
     clear hlt hk
     have HOKC := zh (show xP ls nf no from ⟨HLA.out, fun l hl => by obtain ⟨j, hj, rfl⟩ := List.mem_iff_getElem.1 hl; exact HLN.out j _ hj (List.getElem?_eq_getElem hj)⟩)
     obtain ⟨w3, rfl⟩ : ∃ w3 : World, w3 = wr := ⟨_, rfl⟩
     go_wp2_with (first | (refine wpList_store_row rfl _ _ _ rfl _ _ rfl rfl _ _ (HC.out.b1) ?_ ?_ ?_ ?_; kernel_rfl; rfl; kernel_rfl) | (refine zs _ _ rfl _ rfl _ _ _ (HC.out.b3) ?_ ?_ ?_; kernel_rfl; kernel_rfl))
     rw [Exit.noGoto_ret]
     refine bodyPost_ret (zI (cs := #[.string nm, .slice ao ls.length cap, .map (some (w.heap.size + 2))]) (fr := (0, 0)) Try.results26 _ _ (w.heap.size + 1) 74 _ rfl (setRow_heap _ _ _ _ _ _ HC.out.b1) Try.underlying74 rfl (by kernel_rfl)) rfl ⟨below_setRow HC.out.bb (by omega) _, .inr ⟨HOKC.out, w.heap.size + 2, by omega, rfl, ?_⟩⟩
     exact HC.out.mp.same (setRow_other _ _ _ _ (by omega))
    end Go.Proofs.Ythebmoggbgldmaa
