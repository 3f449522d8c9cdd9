/- Layer 53: group. -/
import Derived.Test.YtdcjocldggmdbaaX53b
import Derived.Great.BuildSlice
set_option linter.unusedSimpArgs false
namespace Go.Proofs.Ytdcjocldggmdbaa
open Go.RowKit Go

abbrev entC : Ty := .pr .str (.pr .str (.pr (.sl (.int .i64)) (.pr (.sl (.int .i64)) (.pr .bool .un))))
theorem info_ent : (Try.prog.info? 111).map (fun i => (i.zero, i.size, i.bytes)) = some (some (.agg #[.string ⟨#[]⟩, .string ⟨#[]⟩, .slice none 0 0, .slice none 0 0, .bool false]), entC.sz, 88) := by kernel_rfl
theorem ent_rd {S : Nat → Prop} {w : World} : Rd entC S w [.string ⟨#[]⟩, .string ⟨#[]⟩, .slice none 0 0, .slice none 0 0, .bool false] (⟨#[]⟩, ⟨#[]⟩, [], [], false, ()) := by
  have rn : Rd (.sl (.int .i64)) S w [.slice none 0 0] [] := ⟨none, 0, 0, rfl, rfl, Nat.le_refl _, by decide, .inl rfl⟩
  exact ⟨[_], _, rfl, ⟨rfl, by decide⟩, [_], _, rfl, ⟨rfl, by decide⟩, [_], _, rfl, rn, [_], _, rfl, rn, [_], _, rfl, rfl, rfl⟩
def gN (n : Int) : Nat := min n.toNat 14
abbrev grpE (pe : Int) (ea : Option Addr) (el ec : Nat) : Array Value := grpV ⟨#[]⟩ 2026 1 pe none 0 0 (fun _ => 0) ea el ec
def GroupP (n pe : Int) (w : World) (e : Ending) (w' : World) : Prop := ∃ ea ec, e = .returned (.agg (grpE pe ea (gN n) ec)) ∧ Below w.heap.size w w'
set_option maxRecDepth 20000 in
set_option maxHeartbeats 4000000 in
theorem group53 (w : World) (n pe : Int) : Calls Try.prog 30 #[.int .i64 n, .int .i64 pe] w (GroupP n pe w) := by
  have hB1 := (Below.refl w.heap.size w).alloc (Nat.le_refl _) (.cells #[.string ⟨#[]⟩, .int .i64 0, .int .i64 0, .int .i64 0, .slice none 0 0, .int .i64 0, .int .i64 0, .int .i64 0, .int .i64 0, .int .i64 0, .int .i64 0, .int .i64 0, .int .i64 0, .int .i64 0, .int .i64 0, .int .i64 0, .int .i64 0, .int .i64 0, .int .i64 0, .int .i64 0, .slice none 0 0] 84)
  have hB2 := hB1.alloc (by simp) (.cells #[.string ⟨#[]⟩, .int .i64 0, .int .i64 0, .int .i64 0, .slice none 0 0, .int .i64 0, .int .i64 0, .int .i64 0, .int .i64 0, .int .i64 0, .int .i64 0, .int .i64 0, .int .i64 0, .int .i64 0, .int .i64 0, .int .i64 0, .int .i64 0, .int .i64 0, .int .i64 0, .int .i64 0, .slice none 0 0] 84)
  have hr0 := alloc_old' (o := .cells #[.string ⟨#[]⟩, .int .i64 0, .int .i64 0, .int .i64 0, .slice none 0 0, .int .i64 0, .int .i64 0, .int .i64 0, .int .i64 0, .int .i64 0, .int .i64 0, .int .i64 0, .int .i64 0, .int .i64 0, .int .i64 0, .int .i64 0, .int .i64 0, .int .i64 0, .int .i64 0, .int .i64 0, .slice none 0 0] 84) (alloc_new' (w := w) (o := .cells #[.string ⟨#[]⟩, .int .i64 0, .int .i64 0, .int .i64 0, .slice none 0 0, .int .i64 0, .int .i64 0, .int .i64 0, .int .i64 0, .int .i64 0, .int .i64 0, .int .i64 0, .int .i64 0, .int .i64 0, .int .i64 0, .int .i64 0, .int .i64 0, .int .i64 0, .int .i64 0, .int .i64 0, .slice none 0 0] 84) rfl)
  have hz := alloc_new' (w := w.alloc (.cells #[.string ⟨#[]⟩, .int .i64 0, .int .i64 0, .int .i64 0, .slice none 0 0, .int .i64 0, .int .i64 0, .int .i64 0, .int .i64 0, .int .i64 0, .int .i64 0, .int .i64 0, .int .i64 0, .int .i64 0, .int .i64 0, .int .i64 0, .int .i64 0, .int .i64 0, .int .i64 0, .int .i64 0, .slice none 0 0] 84)) (o := .cells #[.string ⟨#[]⟩, .int .i64 0, .int .i64 0, .int .i64 0, .slice none 0 0, .int .i64 0, .int .i64 0, .int .i64 0, .int .i64 0, .int .i64 0, .int .i64 0, .int .i64 0, .int .i64 0, .int .i64 0, .int .i64 0, .int .i64 0, .int .i64 0, .int .i64 0, .int .i64 0, .int .i64 0, .slice none 0 0] 84) (n := w.heap.size + 1) (by simp)
  have HZ := Lib.hid hz
  have hg := setRow_heap _ _ _ (grpE pe none 0 0) _ _ hz
  have hBG := below_setRow (n := w.heap.size) (p := w.heap.size + 1) hB2 (by omega) (grpE pe none 0 0)
  have hr := (setRow_other _ (w.heap.size + 1) w.heap.size (grpE pe none 0 0) (by omega)).trans hr0
  have HG := Lib.hid hg
  have HBG := Lib.hid hBG
  have HR := Lib.hid hr
  clear hB1 hB2 hr0 hz hg hBG hr
  go_enter Try.func30, Try.ntmps30
  go_wp2_with (first | refine wpList_buildTo rfl 84 _ rfl _ rfl (grpE pe none 0 0) (by kernel_rfl) ?_ | refine wpList_store_row rfl _ _ _ rfl (w.heap.size + 1) (grpE pe none 0 0) rfl rfl 84 _ HZ.out (by kernel_rfl) (by rfl) (by kernel_rfl) ?_)
  generalize hw3 : World.setRow (World.alloc (w.alloc _) _) _ _ = w3 at HG HBG HR ⊢
  clear hw3 HZ
  obtain ⟨rb, hrb⟩ : ∃ q, w.heap.size = q := ⟨_, rfl⟩
  have HRB := Lib.hid hrb
  rw [hrb] at HG HR ⊢
  clear hrb
  have hlt3 := blk_lt HG.out
  go_loopw [6] (fun i wr => ∃ (k : Nat) (va : Option Addr) (vl vc : Nat) (zs : List entC.den), k ≤ gN n ∧ i = .int .i64 k ∧ zs.length = k ∧ wr.heap[rb + 1]? = some (.cells (grpE pe va vl vc) 84 (0, 0)) ∧ Owns entC 111 w3.heap.size (fun _ => False) wr (.slice va vl vc) zs ∧ Gr (fun b => b = rb + 1 ∨ w3.heap.size ≤ b) w3 wr) (fun i _ => 14 - (intOf i).toNat)
  case atStart => exact ⟨0, none, 0, 0, [], Nat.zero_le _, rfl, rfl, HG.out, Owns.nil _ _ _ _, Gr.refl _ _⟩
  case round =>
    obtain ⟨k, va, vl, vc, zs, hk, rfl, hzl, hrow, hO, hGr⟩ := hrel
    have HROW := Lib.hid hrow
    have HO := Lib.hid hO
    have HGR := Lib.hid hGr
    have HZL := Lib.hid hzl
    have hvl : vl = k := by
      obtain ⟨a', l', c', he, hl', -⟩ := hO.slice
      simp only [Value.slice.injEq] at he
      omega
    clear hrow hO hGr hzl
    subst hvl
    have hk14 : vl ≤ 14 := by unfold gN at hk; omega
    by_cases hlt : vl < gN n
    · have hn1 : (vl : Int) < n := by unfold gN at hlt; omega
      have hn2 : (vl : Int) < 14 := by unfold gN at hlt; omega
      have g20 := blk_cell HROW.out 20
      rw [show (grpE pe va vl vc)[20]? = some (.slice va vl vc) from rfl] at g20
      go_wp2_with (at_builtin; go_must (refine wpList_app _ rfl _ _ 82 rfl (e := entC) (te := 111) info_ent Try.underlying82 rfl (by decide) (base := w3.heap.size) (S := fun _ => False) (v := .slice va vl vc) (xs := zs) rfl (HO.out.alloc _) (by have := HGR.out.size; simp only [World.size_alloc]; omega) rfl (ys := [(⟨#[]⟩, ⟨#[]⟩, [], [], false, ())]) (Src.new _ [_, _, _, _, _] _ _ _) (RdL.one (e := entC) ent_rd) (by have := HZL.out; simp only [List.length_singleton]; omega) (by have := HZL.out; simp only [List.length_singleton]; omega) ?_; intro v' w2 O2 g2 _ ob2; obtain ⟨xa, xl, xc, rfl, hxl, -⟩ := O2.slice; have hvg : (Value.slice va vl vc).ownBlock ≠ some (rb + 1) := (fun e => by have := (HO.out.own _ e).1; omega); have hr9 := blk_gr (Gr.of_grown g2) (alloc_old' (o := .cells #[.string ⟨#[]⟩, .string ⟨#[]⟩, .slice none 0 0, .slice none 0 0, .bool false] 111) HROW.out) hvg; have f9 := blk_frozen hr9 20; have q9 := (blk_cell hr9 20).trans (show (grpE pe va vl vc)[20]? = some (.slice va vl vc) from rfl); have HR9 := Lib.hid hr9; have HO9 := Lib.hid O2; have HXL := Lib.hid hxl; have HG9 := Lib.hid ((HGR.out.alloc (.cells #[.string ⟨#[]⟩, .string ⟨#[]⟩, .slice none 0 0, .slice none 0 0, .bool false] 111)).trans (Gr.of_grown g2) (fun x e => .inl (.inr (HO.out.own x e).1))); clear O2 g2 ob2 hxl hr9 hvg))
      have hgs : Gr (fun b => b = rb + 1) w2 (w2.setCell ⟨rb + 1, 20, none⟩ (.slice xa xl xc)) := (Gr.refl (fun b => b = rb + 1) w2).setCell (.inl rfl) _
      have hset : (w2.setCell ⟨rb + 1, 20, none⟩ (.slice xa xl xc)).heap[rb + 1]? = some (.cells (grpE pe xa xl xc) 84 (0, 0)) := blk_set (i := 20) HR9.out (.slice xa xl xc)
      refine ⟨⟨vl + 1, xa, xl, xc, zs ++ [(⟨#[]⟩, ⟨#[]⟩, [], [], false, ())], by omega, by go_num, by rw [List.length_append, HZL.out]; rfl, hset, HO9.out.gr hgs (fun _ h => h.elim) (fun b e1 e2 => by have := (HO9.out.own b e1).1; omega), HG9.out.trans hgs (fun x e => .inl (.inl e))⟩, by simp [intOf]; try omega⟩
    · obtain rfl : vl = gN n := by omega
      have hrr := (HGR.out.block _ (blk_lt HR.out) (fun e => by have := blk_lt HR.out; omega)).trans HR.out
      have HRR := Lib.hid hrr
      have HSET := Lib.hid (setRow_heap _ _ _ (grpE pe va (gN n) vc) _ _ hrr)
      have HB9 := Lib.hid ((gr_setRow wr rb (grpE pe va (gN n) vc)).below (n := rb) (fun b e => by omega) (by have := blk_lt hrr; omega))
      have hlt' := hlt
      clear hrr hlt
      by_cases hn1 : ((gN n : Nat) : Int) < n
      · have hn2 : ¬ ((gN n : Nat) : Int) < 14 := by
          unfold gN at hn1 ⊢
          omega
        generalize hgn : gN n = g at *
        go_wp2_with (first | refine wpList_load_row rfl 84 _ rfl (rb + 1) rfl 84 _ (0, 0) _ HROW.out Try.underlying84 rfl (by kernel_rfl) ?_ | refine wpList_store_row rfl _ _ _ rfl rb (grpE pe va g vc) rfl rfl 84 _ HRR.out (by kernel_rfl) (by rfl) (by kernel_rfl) ?_)
        refine bodyPost_ret (results_cell_row rfl _ _ rb 84 _ (0, 0) _ rfl HSET.out Try.underlying84 rfl (by kernel_rfl)) rfl ?_
        refine ⟨va, vc, by rw [hgn], ?_⟩
        have h1 : Below w.heap.size w w3 := HBG.out
        have h2 := HGR.out.below (n := rb) (fun b e => by omega) (by omega)
        rw [HRB.out] at h1 ⊢
        exact (h1.trans h2).trans HB9.out
      · generalize hgn : gN n = g at *
        go_wp2_with (first | refine wpList_load_row rfl 84 _ rfl (rb + 1) rfl 84 _ (0, 0) _ HROW.out Try.underlying84 rfl (by kernel_rfl) ?_ | refine wpList_store_row rfl _ _ _ rfl rb (grpE pe va g vc) rfl rfl 84 _ HRR.out (by kernel_rfl) (by rfl) (by kernel_rfl) ?_)
        refine bodyPost_ret (results_cell_row rfl _ _ rb 84 _ (0, 0) _ rfl HSET.out Try.underlying84 rfl (by kernel_rfl)) rfl ?_
        refine ⟨va, vc, by rw [hgn], ?_⟩
        have h1 : Below w.heap.size w w3 := HBG.out
        have h2 := HGR.out.below (n := rb) (fun b e => by omega) (by omega)
        rw [HRB.out] at h1 ⊢
        exact (h1.trans h2).trans HB9.out
end Go.Proofs.Ytdcjocldggmdbaa
