/- Layer 53: the reference's New. -/
import Derived.Test.YtdcjocldggmdbaaX53c
set_option linter.unusedSimpArgs false
namespace Go.Proofs.Ytdcjocldggmdbaa
open Go.RowKit Go

theorem results_cell_tmp {P : Program} {fn : Func} {p t : Tmp} {ty : TypeId} (h : fn.results = #[.cell p ty, .tmp t]) (tmps : Array Value) (w : World) (g : Nat) (te : TypeId) (cs : Array Value) (fr : Nat × Nat) (d : TypeDesc)
    (hp : tmps.getD p undef = .pointer (some ⟨g, 0, none⟩)) (hg : w.heap[g]? = some (.cells cs te fr))
    (hu : P.underlying ty = some d) (hd : (match d with | .struct _ | .array _ _ => true | _ => false) = true) (hi : (P.info? ty).map (·.size) = some cs.size) :
    (results fn tmps).run P w = .ok (.tuple #[.agg cs, tmps.getD t undef]) w := by
  have hp' : tmps[p]?.getD undef = .pointer (some ⟨g, 0, none⟩) := by simpa using hp
  simp [results, h, hp', asAddr, run_loadVar_row w g te ty cs fr d hg hu hd hi]
def RNewP (ts : List Tk) (el : Nat) (w : World) (e : Ending) (w' : World) : Prop :=
  ∃ (x1 x2 er : Int) (a : Option Addr) (l c : Nat), e = .returned (.tuple #[.agg #[.int .i64 x1, .int .i64 x2, .slice a l c, .slice none 0 0], .int .i64 er]) ∧ Below w.heap.size w w' ∧ ((1 ≤ el ∧ el ≤ 12 ∧ ValidT ts) ∧ er = 0 ∨ ¬ (1 ≤ el ∧ el ≤ 12 ∧ ValidT ts) ∧ er = 1)
set_option maxRecDepth 20000 in
set_option maxHeartbeats 4000000 in
theorem rnew53 {S : Nat → Prop} (w : World) (ea : Option Addr) (el ec : Nat) (hel : el ≤ 9223372036854775807) (a : Option Addr) (len cap : Nat) (xs : List taskT.den) (hx : Rd (.sl taskT) S w [.slice a len cap] xs) (hS : ∀ b, S b → b < w.heap.size) :
    Calls Try.prog 32 #[.agg (grpE 12 ea el ec), .slice a len cap] w (RNewP (xs.map tk) el w) := by
  have hB1 := (Below.refl w.heap.size w).alloc (Nat.le_refl _) (.cells (grpE 12 ea el ec) 84)
  have hB2 := hB1.alloc (by simp) (.cells #[.int .i64 0, .int .i64 0, .slice none 0 0, .slice none 0 0] 30)
  have hg := alloc_old' (o := .cells #[.int .i64 0, .int .i64 0, .slice none 0 0, .slice none 0 0] 30) (alloc_new' (w := w) (o := .cells (grpE 12 ea el ec) 84) rfl)
  have hr := alloc_new' (w := w.alloc (.cells (grpE 12 ea el ec) 84)) (o := .cells #[.int .i64 0, .int .i64 0, .slice none 0 0, .slice none 0 0] 30) (n := w.heap.size + 1) (by simp)
  have g20 := blk_cell hg 20
  rw [show (grpE 12 ea el ec)[20]? = some (.slice ea el ec) from rfl] at g20
  have g1 := blk_cell hg 1
  rw [show (grpE 12 ea el ec)[1]? = some (.int .i64 2026) from rfl] at g1
  have g2 := blk_cell hg 2
  rw [show (grpE 12 ea el ec)[2]? = some (.int .i64 1) from rfl] at g2
  have g3 := blk_cell hg 3
  rw [show (grpE 12 ea el ec)[3]? = some (.int .i64 12) from rfl] at g3
  have HX := Lib.hid hx
  have HS := Lib.hid hS
  have HG := Lib.hid hg
  have HR := Lib.hid hr
  have HB := Lib.hid hB2
  clear hx hS hg hr hB1 hB2
  go_enter Try.func32, Try.ntmps32
  go_wp2_with fail
  generalize hw1 : World.alloc (w.alloc _) _ = w1 at HG HR HB g20 g1 g2 g3 ⊢
  clear hw1
  obtain ⟨gb, hgb⟩ : ∃ q, w.heap.size = q := ⟨_, rfl⟩
  have HGB := Lib.hid hgb
  rw [hgb] at HG HR g20 g1 g2 g3 ⊢
  clear hgb
  refine (rcal53 w1).mono ?_
  rintro e w2 ⟨rfl, hB2⟩
  have HB2 := Lib.hid (below_step HB.out hB2)
  have HG2 := Lib.hid ((hB2.block _ (blk_lt HG.out)).trans HG.out)
  have HR2 := Lib.hid ((hB2.block _ (blk_lt HR.out)).trans HR.out)
  clear hB2 HG HR HB g20 g1 g2 g3
  have hle := blk_lt HR2.out
  by_cases e1 : (el : Int) < 1
  · have HH := Lib.hid (show ¬ 1 ≤ el by omega)
    have HSET := Lib.hid (setRow_heap _ _ _ #[.int .i64 0, .int .i64 0, .slice none 0 0, .slice none 0 0] _ _ HR2.out)
    have HBS := Lib.hid ((gr_setRow w2 (gb + 1) #[.int .i64 0, .int .i64 0, .slice none 0 0, .slice none 0 0]).below (n := gb) (fun b e => by omega) (by have := blk_lt HR2.out; omega))
    go_wp2_with (refine wpList_store_row rfl _ _ _ rfl (gb + 1) #[.int .i64 0, .int .i64 0, .slice none 0 0, .slice none 0 0] rfl rfl 30 _ HR2.out (by kernel_rfl) (by rfl) (by simp [Value.oneCell']) ?_)
    refine bodyPost_ret (results_cell_tmp rfl _ _ (gb + 1) 30 _ (0, 0) _ rfl HSET.out Try.underlying30 rfl (by kernel_rfl)) rfl ?_
    refine ⟨0, 0, 1, none, 0, 0, rfl, HB2.out.trans (HBS.out.mono (by rw [HGB.out]; exact Nat.le_refl _)), .inr ⟨fun h => HH.out h.1, rfl⟩⟩
  by_cases e2 : (12 : Int) < (el : Int)
  · have HH := Lib.hid (show ¬ el ≤ 12 by omega)
    have HSET := Lib.hid (setRow_heap _ _ _ #[.int .i64 0, .int .i64 0, .slice none 0 0, .slice none 0 0] _ _ HR2.out)
    have HBS := Lib.hid ((gr_setRow w2 (gb + 1) #[.int .i64 0, .int .i64 0, .slice none 0 0, .slice none 0 0]).below (n := gb) (fun b e => by omega) (by have := blk_lt HR2.out; omega))
    go_wp2_with (refine wpList_store_row rfl _ _ _ rfl (gb + 1) #[.int .i64 0, .int .i64 0, .slice none 0 0, .slice none 0 0] rfl rfl 30 _ HR2.out (by kernel_rfl) (by rfl) (by simp [Value.oneCell']) ?_)
    refine bodyPost_ret (results_cell_tmp rfl _ _ (gb + 1) 30 _ (0, 0) _ rfl HSET.out Try.underlying30 rfl (by kernel_rfl)) rfl ?_
    refine ⟨0, 0, 1, none, 0, 0, rfl, HB2.out.trans (HBS.out.mono (by rw [HGB.out]; exact Nat.le_refl _)), .inr ⟨fun h => HH.out h.2.1, rfl⟩⟩
  have HEL := Lib.hid (show 1 ≤ el ∧ el ≤ 12 by omega)
  go_wp2_with fail
  refine (rvalid53 w2 a len cap xs (HX.out.below HB2.out HS.out) (fun b hb => Nat.lt_of_lt_of_le (HS.out b hb) HB2.out.size)).mono ?_
  rintro e w3 ⟨bv, rfl, hB3, hbv⟩
  have HB3 := Lib.hid (below_step HB2.out hB3)
  have HG3 := Lib.hid ((hB3.block _ (blk_lt HG2.out)).trans HG2.out)
  have HR3 := Lib.hid ((hB3.block _ (blk_lt HR2.out)).trans HR2.out)
  have HBV := Lib.hid hbv
  clear hB3 hbv HG2 HR2
  cases bv
  · skip
    have HSET := Lib.hid (setRow_heap _ _ _ #[.int .i64 0, .int .i64 0, .slice none 0 0, .slice none 0 0] _ _ HR3.out)
    have HBS := Lib.hid ((gr_setRow w3 (gb + 1) #[.int .i64 0, .int .i64 0, .slice none 0 0, .slice none 0 0]).below (n := gb) (fun b e => by omega) (by have := blk_lt HR3.out; omega))
    go_wp2_with (refine wpList_store_row rfl _ _ _ rfl (gb + 1) #[.int .i64 0, .int .i64 0, .slice none 0 0, .slice none 0 0] rfl rfl 30 _ HR3.out (by kernel_rfl) (by rfl) (by simp [Value.oneCell']) ?_)
    refine bodyPost_ret (results_cell_tmp rfl _ _ (gb + 1) 30 _ (0, 0) _ rfl HSET.out Try.underlying30 rfl (by kernel_rfl)) rfl ?_
    refine ⟨0, 0, 1, none, 0, 0, rfl, HB3.out.trans (HBS.out.mono (by rw [HGB.out]; exact Nat.le_refl _)), .inr ⟨fun h => (by have := HBV.out.2 h.2.2; cases this), rfl⟩⟩
  have g3 := blk_cell HG3.out 3
  rw [show (grpE 12 ea el ec)[3]? = some (.int .i64 12) from rfl] at g3
  have HSET := Lib.hid (setRow_heap _ _ _ #[.int .i64 (el : Nat), .int .i64 12, .slice a len cap, .slice none 0 0] _ _ HR3.out)
  have HBS := Lib.hid ((gr_setRow w3 (gb + 1) #[.int .i64 (el : Nat), .int .i64 12, .slice a len cap, .slice none 0 0]).below (n := gb) (fun b e => by omega) (by have := blk_lt HR3.out; omega))
  go_wp2_with (refine wpList_store_row rfl _ _ _ rfl (gb + 1) #[.int .i64 (el : Nat), .int .i64 12, .slice a len cap, .slice none 0 0] rfl rfl 30 _ HR3.out (by kernel_rfl) (by rfl) (by simp [Value.oneCell']) ?_)
  refine bodyPost_ret (results_cell_tmp rfl _ _ (gb + 1) 30 _ (0, 0) _ rfl HSET.out Try.underlying30 rfl (by kernel_rfl)) rfl ?_
  exact ⟨_, _, 0, _, _, _, rfl, HB3.out.trans (HBS.out.mono (by rw [HGB.out]; exact Nat.le_refl _)), .inl ⟨⟨HEL.out.1, HEL.out.2, HBV.out.1 (by first | rfl | trivial)⟩, rfl⟩⟩
end Go.Proofs.Ytdcjocldggmdbaa
