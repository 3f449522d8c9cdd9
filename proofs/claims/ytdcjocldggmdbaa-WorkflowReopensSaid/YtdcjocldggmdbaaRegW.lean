/- A store into a map, in a drawn region. -/
import Derived.Test.YtdcjocldggmdbaaRegV
import Derived.Test.YtdcjocldggmdbaaFr
import Derived.Test.YtdcjocldggmdbaaColl
namespace Go.Proofs.Ytdcjocldggmdbaa
open Go.RowKit Go
theorem wp_mapset1 {P : Program} {o : Oper} {a : Act} {w w' : World} {K : Act → World → Prop} {Q : Exit → Act → World → Prop} (t : TypeId) (x y z : Operand) (ho : o.op = .mapUpdate t x y z) {m k v : Value}
    (hx : a.eval x = m) (hy : a.eval y = k) (hz : a.eval z = v) (hrun : (Instr.mapUpdate t m k v).run P w = .ok () w') (h : K (a.put o.dst undef) w') : o.wp P a w K Q := by
  unfold Oper.wp execOp
  simp only [ho, hx, hy, hz, Sem.run_bind, Sem.run_pure, Result.andThen_ok, hrun]
  exact h
theorem wp_store1 {P : Program} {o : Oper} {a : Act} {w w' : World} {K : Act → World → Prop} {Q : Exit → Act → World → Prop} (ty : TypeId) (x y : Operand) (ho : o.op = .store ty x y) (p : Addr) (v : Value)
    (hx : a.eval x = .pointer (some p)) (hy : a.eval y = v) (hrun : (storeVar ty p v).run P w = .ok () w') (h : K (a.put o.dst undef) w') : o.wp P a w K Q := by
  unfold Oper.wp execOp
  simp only [ho, hx, hy, Instr.storeAt, Instr.sureAddr, Sem.run_bind, Sem.run_pure, Result.andThen_ok, hrun]
  exact h
theorem below_setRow {n p : Nat} {w W : World} (h : Below n w W) (hp : n ≤ p) (cs : Array Value) : Below n w (W.setRow p cs) :=
  ⟨h.os, h.tape, h.output, by simpa using h.size, fun k hk => (setRow_other W p k _ (by omega)).trans (h.block k hk)⟩
theorem gr_setRow (w : World) (p : Nat) (cs : Array Value) : Gr (fun b => b = p) w (w.setRow p cs) := ⟨rfl, rfl, rfl, by simp, fun k hk hf => setRow_other _ _ _ _ hf⟩
end Go.Proofs.Ytdcjocldggmdbaa
