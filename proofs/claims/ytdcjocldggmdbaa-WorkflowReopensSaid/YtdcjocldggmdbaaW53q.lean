/- Layer 53: New. -/
import Derived.Test.YtdcjocldggmdbaaW53p
set_option linter.unusedSimpArgs false
namespace Go.Proofs.Ytdcjocldggmdbaa
open Go.RowKit Go

theorem info_task : (Try.prog.info? 38).map (fun i => (i.zero, i.size, i.bytes)) = some (some (.agg #[.string ⟨#[]⟩, .slice none 0 0, .bool false, .bool false]), taskT.sz, 48) := by kernel_rfl
theorem task_rd {S : Nat → Prop} {w : World} {t : Tk} {na : Option Addr} {nl nc : Nat} (h1 : t.name.size ≤ maxLen) (h2 : Rd (.sl .str) S w [.slice na nl nc] t.needs) : Rd taskT S w [.string t.name, .slice na nl nc, .bool t.grp, .bool t.aft] (t.name, t.needs, t.grp, t.aft, ()) :=
  ⟨[_], _, rfl, ⟨rfl, h1⟩, [_], _, rfl, h2, [_], _, rfl, rfl, [_], _, rfl, rfl, rfl⟩
def Tk.d (t : Tk) : taskT.den := (t.name, t.needs, t.grp, t.aft, ())
theorem tk_d (t : Tk) : tk t.d = t := rfl
theorem d_tk (x : taskT.den) : (tk x).d = x := by obtain ⟨a, b, c, d, ⟨⟩⟩ := x; rfl
/-- A workflow that is made. -/
structure WfB (n0 : Nat) (w : World) (p m : Nat) (ne np : Int) (xs : List taskT.den) (v : Value) (SS : Nat → Prop) : Prop where
  row : w.heap[p]? = some (.cells #[v, .int .i64 ne, .int .i64 np, .map (some m)] 93 (0, 0))
  own : Owns taskT 38 n0 SS w v xs
  mp : MapS w m 0 (fun _ => none)
  hv : ∀ b, v.ownBlock = some b → b ≠ p ∧ b ≠ m
  hS : ∀ b, SS b → b ≠ p ∧ b ≠ m
  h0 : n0 ≤ p
  pm : p ≠ m
  hl : ∀ b, SS b → n0 ≤ b
theorem WfB.below {n0 : Nat} {w w' : World} {p m : Nat} {ne np : Int} {xs : List taskT.den} {v : Value} {SS : Nat → Prop} (h : WfB n0 w p m ne np xs v SS) (hB : Below w.heap.size w w') : WfB n0 w' p m ne np xs v SS :=
  ⟨(hB.block _ (blk_lt h.row)).trans h.row, h.own.below hB, h.mp.below hB, h.hv, h.hS, h.h0, h.pm, h.hl⟩
theorem WfB.wider {n0 : Nat} {w : World} {p m : Nat} {ne np : Int} {xs : List taskT.den} {v : Value} {SS SS' : Nat → Prop} (h : WfB n0 w p m ne np xs v SS) (hs : ∀ b, SS b → SS' b) (hb : ∀ b, SS' b → SS b ∨ (b < w.heap.size ∧ b ≠ p ∧ b ≠ m ∧ v.ownBlock ≠ some b ∧ n0 ≤ b)) : WfB n0 w p m ne np xs v SS' := by
  obtain ⟨vs, h1, h2, h3⟩ := h.own
  refine ⟨h.row, ⟨vs, h1, h2.keep (fun _ _ => rfl) hs, fun b hb' => ?_⟩, h.mp, h.hv, fun b hb' => ?_, h.h0, h.pm, fun b hb' => (hb b hb').elim (h.hl b) (fun h => h.2.2.2.2)⟩
  · rcases hb b hb' with h' | ⟨h1, -, -, h4, -⟩
    · exact h3 b h'
    · exact ⟨h4, h1⟩
  · rcases hb b hb' with h' | ⟨-, h2, h3, -, -⟩
    · exact h.hS b h'
    · exact ⟨h2, h3⟩
theorem WfB.put {n0 : Nat} {w w1 : World} {p m : Nat} {ne np : Int} {xs xs' : List taskT.den} {v v' : Value} {SS : Nat → Prop} (h : WfB n0 w p m ne np xs v SS) (g : w.grownBy w1 v.ownBlock) (ho : Owns taskT 38 n0 SS w1 v' xs') (hb : v'.ownBlock = v.ownBlock ∨ v'.ownBlock = some w.heap.size) :
    WfB n0 (w1.setCell ⟨p, 0, none⟩ v') p m ne np xs' v' SS ∧ Gr (fun b => v.ownBlock = some b ∨ b = p) w (w1.setCell ⟨p, 0, none⟩ v') := by
  have hvs : v.ownBlock ≠ some p := fun e => (h.hv p e).1 rfl
  have hv' : ∀ b, v'.ownBlock = some b → b ≠ p ∧ b ≠ m := fun b e => by
    rcases hb with e' | e'
    · exact h.hv b (e' ▸ e)
    · rw [e'] at e
      obtain rfl := Option.some.inj e
      exact ⟨fun e2 => by have := blk_lt h.row; omega, fun e2 => by have := h.mp.lt; omega⟩
  have hr1 := blk_gr (Gr.of_grown g) h.row hvs
  have hr2 := blk_set (i := 0) hr1 v'
  simp at hr2
  have hgs : Gr (fun b => b = p) w1 (w1.setCell ⟨p, 0, none⟩ v') := (Gr.refl (fun b => b = p) w1).setCell (.inl rfl) v'
  exact ⟨⟨hr2, ho.gr hgs (fun b hb e => (h.hS b hb).1 e) (fun b hb e => (hv' b hb).1 e), (h.mp.gr (Gr.of_grown g) (fun e => (h.hv _ e).2 rfl)).gr hgs (fun e => h.pm e.symm), hv', h.hS, h.h0, h.pm, h.hl⟩, ((Gr.of_grown g).mono (fun x e => .inl (.inl e))).trans hgs (fun x e => .inl (.inr e))⟩
theorem WfB.below0 {n0 : Nat} {w w' : World} {p m : Nat} {ne np : Int} {xs : List taskT.den} {v : Value} {SS : Nat → Prop} (h : WfB n0 w p m ne np xs v SS) (hg : Gr (fun b => v.ownBlock = some b ∨ b = p) w w') (hn : n0 ≤ w.heap.size) : Below n0 w w' :=
  hg.below (fun b hb => hb.elim (fun e => (h.own.own b e).1) (fun e => by rw [e]; exact h.h0)) hn
/-- It is a workflow. -/
theorem WfB.done {n0 : Nat} {w : World} {p m : Nat} {ne np : Nat} {xs : List taskT.den} {v : Value} {SS : Nat → Prop} (h : WfB n0 w p m ne np xs v SS) : WfIn (fun b => SS b ∨ v.ownBlock = some b) w p (xs.map tk) ne np m 0 (fun _ => none) := by
  obtain ⟨a, len, cap, rfl, -⟩ := h.own.slice
  exact ⟨⟨⟨a, len, cap, xs, h.row, h.own.rd _ (fun b hb => .inl hb) (fun b hb => .inr hb), rfl⟩, fun b hb => hb.elim (fun h' => (h.own.bound b h').2) (fun h' => (h.own.own b h').2)⟩, h.mp, fun b hb => hb.elim (fun h' => (h.hS b h').2) (fun h' => (h.hv b h').2), h.pm⟩
/-- A group's value. -/
def grpV (cur : ByteArray) (y mo pe : Int) (ca : Option Addr) (cl cc : Nat) (r : Fin 15 → Int) (ea : Option Addr) (el ec : Nat) : Array Value :=
  #[.string cur, .int .i64 y, .int .i64 mo, .int .i64 pe, .slice ca cl cc, .int .i64 (r 0), .int .i64 (r 1), .int .i64 (r 2), .int .i64 (r 3), .int .i64 (r 4), .int .i64 (r 5), .int .i64 (r 6), .int .i64 (r 7), .int .i64 (r 8), .int .i64 (r 9), .int .i64 (r 10), .int .i64 (r 11), .int .i64 (r 12), .int .i64 (r 13), .int .i64 (r 14), .slice ea el ec]
end Go.Proofs.Ytdcjocldggmdbaa
