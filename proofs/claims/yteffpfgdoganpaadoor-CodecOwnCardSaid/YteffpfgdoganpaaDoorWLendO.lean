/- LendBytes, KeptBytes. -/
import Derived.Test.YteffpfgdoganpaaDoorWBack
import Derived.Laws.CopyOwn
import Derived.Laws.MakeOwn
namespace Go.Proofs.YteffpfgdoganpaaDoor
open Go.RowKit

section
variable {w : World}
theorem wpList_make_bytes_w {ops : Array Oper} {rest : List Oper} {o : Oper} {a : Act} {Q : Exit → Act → World → Prop} (hgd : o.guard = none) (l c : Operand) (hop : o.op = Op.makeSlice 45 l c)
    (n : Nat) (z : Int) (hl : a.eval l = .int .i64 z) (hc : a.eval c = .int .i64 z) (hz : z = (n : Int)) (hn : n ≤ 281474976710656)
    (hK : ∀ cs : List Value, cs.length = n → wpList Tryd.prog ops Q rest (a.put o.dst (.slice (some ⟨w.heap.size, 0, none⟩) n n)) (w.alloc (.cells cs.toArray 5))) :
    wpList Tryd.prog ops Q (o :: rest) a w := by
  subst hz
  obtain ⟨i, hi, hz0, hz1, hz2⟩ := info_parts info_u8
  refine wpList_make_cells hgd l c _ hop _ i _ 1 Tryd.underlying45 hi hz0 hz1 hz2 n n hl hc (Nat.le_refl _) (by omega) (by omega) ?_
  have h := hK (madeCells (Value.int .u8 0).cells n).toList (by rw [Array.length_toList]; exact size_madeCells _ _)
  rwa [Array.toArray_toList] at h
end
set_option maxHeartbeats 1000000 in
set_option maxRecDepth 100000 in
theorem lend_any (A : Option Addr) (n c : Nat) (xs : List Int) (W : World) (hl : xs.length = n) (h : CellsAt W A (bvs xs)) (hn : n + 37 ≤ 281474976710656) :
    Calls Tryd.prog 30 #[.slice A n c] W fun e w' => ∃ g cur, e = .returned (.slice (some ⟨g, 0, none⟩) n (n + 37)) ∧ W.heap.size ≤ g ∧ Blk w' g 5 cur ∧ cur.toList = bvs (xs ++ List.replicate 37 169) ∧ Below W.heap.size W w' := by
  have H := Lib.hid h
  have HL := Lib.hid hl
  have HN := Lib.hid hn
  obtain ⟨cs, hcs⟩ : ∃ cs, cs = bvs xs := ⟨_, rfl⟩
  have HCS := Lib.hid hcs
  have hnn : (0 : Int) ≤ (n : Int) := by omega
  have hn9 : (n : Int) ≤ 281474976710619 := by omega
  clear h hl hn hcs
  go_enter Tryd.func30, Tryd.ntmps30
  go_wp2_with (first
    | (at_make; refine wpList_make_bytes_w rfl _ _ rfl (n + 37) _ rfl rfl (by omega) HN.out ?_; intro cs0 h0; have H0 := Lib.hid h0; clear h0)
    | ((with_reducible show wpList _ _ _ _ _ _); refine wpList_copy_splice rfl (.tmp 9) (.tmp 10) 45 45 rfl 5 Tryd.underlying45 u8_size (some ⟨W.heap.size, 0, none⟩) A (n + 37) (n + 37) n c rfl rfl W.heap.size 0 cs0 5 (Blk.new W _ _) cs (by rw [HCS.out, bvs_len, HL.out]; exact (Nat.min_eq_left (by omega)).symm) ?_ (by rw [HCS.out, bvs_len, HL.out, H0.out]; omega) (by rw [HCS.out]; exact bvs_one _) W.heap.size W ((Below.refl _ _).alloc (Nat.le_refl _) _) (Nat.le_refl _) ?_
       exact copy_src HCS.out H.out
       intro w2 hw2 hb2
       have HW2 := Lib.hid (show Blk w2 W.heap.size 5 (splice cs0 0 cs).toArray from hw2.out)
       have B2 := Lib.hid hb2
       clear hw2 hb2))
  have HS := Lib.hid (show (splice cs0 0 cs).toArray.size = n + 37 ∧ (splice cs0 0 cs).toArray.toList.take n = bvs xs by
    have h1 := H0.out
    have h2 := HL.out
    rw [HCS.out]
    refine ⟨?_, ?_⟩
    · rw [List.size_toArray, length_splice _ _ _ (by rw [bvs_len]; omega)]; exact h1
    · rw [List.toList_toArray]
      unfold splice
      rw [List.take_zero, List.nil_append, List.take_left' (by rw [bvs_len]; exact h2)])
  generalize (splice cs0 0 cs).toArray = cur at HW2 HS
  go_loopw [4] (fun i wr => ∃ (k : Nat) (cs : Array Value), n ≤ k ∧ k ≤ n + 37 ∧ i = .int .i64 k ∧ Hid (Blk wr W.heap.size 5 cs ∧ cs.size = n + 37 ∧ cs.toList.take k = bvs (xs ++ List.replicate (k - n) 169) ∧ Below W.heap.size W wr)) (fun i _ => n + 37 - (intOf i).toNat)
  case atStart => exact ⟨n, cur, Nat.le_refl _, by omega, rfl, Lib.hid ⟨HW2.out, HS.out.1, by simpa using HS.out.2, B2.out⟩⟩
  case round =>
    obtain ⟨k, cs2, hk1, hk2, rfl, HP⟩ := hrel
    by_cases hlt : k < n + 37
    · have hkc : k < cs2.size := by rw [HP.out.2.1]; exact hlt
      have hcr : wr.cell? ⟨W.heap.size, k, none⟩ = some (cs2[k]'hkc) := by rw [HP.out.1.cell k, Array.getElem?_eq_getElem hkc]
      have hfr : wr.frozen? ⟨W.heap.size, k, none⟩ = false := HP.out.1.frozen k
      go_wp2
      go_roundw
      case rel => exact ⟨k + 1, cs2.setIfInBounds k (.int .u8 169), by omega, by omega, by go_num, Lib.hid ⟨HP.out.1.set_ k _, by simpa using HP.out.2.1, fill_step cs2 xs 169 n k hk1 hkc HP.out.2.2.1, HP.out.2.2.2.setCell (Nat.le_refl _) _⟩⟩
      case measure => simp [intOf]; omega
    · go_wp2
      go_ret
      refine ⟨W.heap.size, cs2, rfl, Nat.le_refl _, HP.out.1, ?_, HP.out.2.2.2⟩
      have h := HP.out.2.2.1
      obtain rfl : k = n + 37 := by omega
      rw [List.take_of_length_le (by simp [HP.out.2.1])] at h
      rw [h]
      simp
end Go.Proofs.YteffpfgdoganpaaDoor
