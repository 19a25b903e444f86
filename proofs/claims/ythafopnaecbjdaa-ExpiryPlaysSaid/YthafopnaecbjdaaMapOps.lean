/- The laws of maps at the operation, for the walk. -/
import Derived.Test.YthafopnaecbjdaaMapT
import Derived.Test.YthafopnaecbjdaaHeap
import Derived.Maps.AppendAt
import Derived.Deep.RegionLaw
namespace Go.Proofs.Ythafopnaecbjdaa
open Go Go.Maps Go.MapKept Go.ChangeMaps

theorem heap_setBlock_eq {w : World} {b : Nat} (o : Obj) (h : b < w.heap.size) : (setBlock w b o).heap[b]? = some o := by
  unfold setBlock
  simp [h]
section
variable {K : Type} [DecidableEq K] {P : Program} {k : TypeId} {enc : K → Value} {good : K → Prop} (w : World) {b : Nat} {l : List (K × Value)}
variable {ops : Array Oper} {rest : List Oper} {o : Oper} {a : Act} {Q : Exit → Act → World → Prop}

theorem wpList_mt_store (hgd : o.guard = none) (m x v : Operand) (t e : TypeId) (hop : o.op = Op.mapUpdate t m x v) (KE : KeyEnc P k enc good) (ht : P.underlying t = some (.map k e)) (hM : MapT w b enc good l) (hn : l.length < maxLen) {xk : K} (hx : good xk)
    (hm : a.eval m = .map (some b)) (hxe : a.eval x = enc xk) (y : Value) (hv : a.eval v = y)
    (hK : ∀ w', MapT w' b enc good (mput l xk y) → Touch [b] w w' → wpList P ops Q rest (a.put o.dst undef) w') : wpList P ops Q (o :: rest) a w := by
  refine wpList_plain hgd fun K' hK' => ?_
  obtain ⟨es', clock', hrun, r1, r2, r3, r4⟩ := hM.store KE ht hn hx y
  unfold Oper.wp
  simp [execOp, hop, hm, hxe, hv, hrun, Result.andThen]
  exact hK' _ _ (hK _ ⟨es', clock', heap_setBlock_eq _ hM.lt, r1, r2, r3, r4⟩ ((Touch.refl _ _).setBlock b _ (by simp)))

theorem wpList_mt_delete (hgd : o.guard = none) (m x : Operand) (t e : TypeId) (hop : o.op = Op.call { callee := Callee.builtin Builtin.delete, args := #[m, x], argTypes := #[t, k] }) (KE : KeyEnc P k enc good) (ht : P.underlying t = some (.map k e)) (hM : MapT w b enc good l) {xk : K} (hx : good xk)
    (hm : a.eval m = .map (some b)) (hxe : a.eval x = enc xk)
    (hK : ∀ w', MapT w' b enc good (mdel l xk) → Touch [b] w w' → wpList P ops Q rest (a.put o.dst (.tuple #[])) w') : wpList P ops Q (o :: rest) a w := by
  refine wpList_plain hgd fun K' hK' => ?_
  obtain ⟨es', clock', hrun, r1, r2, r3, r4⟩ := hM.drop KE ht hx o.type
  unfold Oper.wp
  simp [execOp, hop, resolve, invoke, builtin, hm, hxe, hrun, Result.andThen]
  exact hK' _ _ (hK _ ⟨es', clock', heap_setBlock_eq _ hM.lt, r1, r2, r3, r4⟩ ((Touch.refl _ _).setBlock b _ (by simp)))
end

/-- append, as one step of a region that draws its order. -/
theorem step_append_at {P : Program} {w : World} {ops : Array Oper} {o : Oper} {a : Act} {K : Act → World → Prop} {Q : Exit → Act → World → Prop} {E : Prop} (hgd : o.guard = none) (s x : Operand) (t : TypeId)
    (ho : o.op = .call { callee := .builtin .append, args := #[s, x], argTypes := #[t, t] })
    (base : Nat) (e : TypeId) (i : TypeInfo) (z : Value) (size bytes : Nat) (ht : P.underlying t = some (.slice e)) (hi : P.info? e = some i) (hz : i.zero = some z)
    (hsize : i.size = size) (hby : i.bytes = bytes) (hzs : z.cells.size = size) (hsz : 0 < size)
    (v : Value) (n : Nat) (xs : List Value) (hs : a.eval s = v) (hown : w.ownsRow base e size v n xs)
    (ad : Addr) (m c : Nat) (news : List Value) (hx : a.eval x = .slice (some ad) m c) (hl : news.length = m * size) (hnews : ∀ j u, news[j]? = some u → w.cell? (ad.add j) = some u) (h1 : ∀ u ∈ news, u.oneCell' = true)
    (h63 : n + m ≤ maxLen) (hbytes : (n + m) * bytes ≤ 140737488355328) (hbase : base ≤ w.heap.size)
    (h : ∀ v' w', w'.ownsRow base e size v' (n + m) (xs ++ news) → w.grownBy w' v.ownBlock → (v'.ownBlock = v.ownBlock ∨ v'.ownBlock = some w.heap.size) → K (a.put o.dst v') w') :
    if Region.wanted o (yielded ops a.tmps) = true then Oper.wp P o a w K Q else E := by
  have hw : Region.wanted o (yielded ops a.tmps) = true := by simp [Region.wanted, hgd]
  rw [if_pos hw]
  obtain ⟨v', w', hr, h2, h3, _, h5⟩ := run_append_own_at (P := P) w base t o.type e i z size bytes ht hi hz hsize hby hzs hsz v n xs hown ad m c news hl hnews h1 h63 hbytes hbase
  unfold Oper.wp execOp
  simp only [ho, resolve, invoke, builtin, Sem.run_bind, Sem.run_pure, Result.andThen_ok, List.map_toArray, List.map_cons, List.map_nil, hs, hx, hr]
  exact h v' w' h2 h3 h5
/-- The cells to be appended, out of a block that is known whole. -/
theorem news_of {w : World} {B : Nat} {cs : Array Value} {t : TypeId} {fr : Nat × Nat} (hb : w.heap[B]? = some (.cells cs t fr)) : ∀ j u, cs.toList[j]? = some u → w.cell? ((⟨B, 0, none⟩ : Addr).add j) = some u := fun j u hu => by
  have hadd : (⟨B, 0, none⟩ : Addr).add j = ⟨B, j, none⟩ := by unfold Addr.add; split <;> simp_all
  rw [hadd, cell_of hb]
  simpa using hu
end Go.Proofs.Ythafopnaecbjdaa
