/- The board and the document's board at once. -/
import Derived.Test.YtjmgookpmngmaabFlRef7
import Derived.Test.YtjmgookpmngmaabFlCopy
namespace Go.Proofs.Ytjmgookpmngmaab
open Go Go.RowKit Go.Maps

/-- The two lists tell the same. -/
structure Alike (M : BM) (L : List (Key × List Int)) : Prop where
  keys : (L.map (·.1)).Nodup
  len : L.length = M.fl.length
  at' : ∀ k, mget M.fl k = mget L k

theorem Alike.mem {M : BM} {L : List (Key × List Int)} (h : Alike M L) {p : Key × List Int} (hp : p ∈ L) : mget M.fl p.1 = some p.2 := by rw [h.at']; exact mem_mget h.keys hp
theorem Alike.has {M : BM} {L : List (Key × List Int)} {n : Nat} (h : Alike M L) (ok : M.Ok n) {c : Int} {k : Key} (hc : mget M.cl c = some k) : ∃ l, mget L k = some l ∧ c ∈ l := by
  obtain ⟨l, h1, h2⟩ := ok.into c k hc
  exact ⟨l, by rw [← h.at']; exact h1, h2⟩
theorem Alike.only {M : BM} {L : List (Key × List Int)} {n : Nat} (h : Alike M L) (ok : M.Ok n) {c : Int} {p : Key × List Int} (hp : p ∈ L) (hc : c ∈ p.2) : mget M.cl c = some p.1 :=
  (ok.back _ _ (h.mem hp)).2.2 c hc
theorem Alike.no {M : BM} {L : List (Key × List Int)} {n : Nat} (h : Alike M L) (ok : M.Ok n) {c : Int} (hc : mget M.cl c = none) : ∀ p ∈ L, c ∉ p.2 := fun p hp hm => by
  rw [h.only ok hp hm] at hc; cases hc

theorem Alike.put {M : BM} {L : List (Key × List Int)} (h : Alike M L) (k : Key) (l : List Int) (cl : List (Int × Key)) : Alike ⟨mput M.fl k l, cl⟩ (mput L k l) := by
  refine ⟨mput_nodup h.keys, ?_, fun k' => by simp only [mget_mput, h.at']⟩
  cases hk : mget M.fl k with
  | none =>
    have hk' : mget L k = none := by rw [← h.at']; exact hk
    simp only [mput_length_new hk, mput_length_new hk', h.len]
  | some u =>
    have hk' : mget L k = some u := by rw [← h.at']; exact hk
    simp only [mput_length_has hk, mput_length_has hk', h.len]
theorem Alike.del {M : BM} {L : List (Key × List Int)} {n : Nat} (h : Alike M L) (ok : M.Ok n) (k : Key) (cl : List (Int × Key)) : Alike ⟨mdel M.fl k, cl⟩ (mdel L k) := by
  refine ⟨mdel_nodup h.keys, ?_, fun k' => by simp only [mget_mdel, h.at']⟩
  cases hk : mget M.fl k with
  | none =>
    have hk' : mget L k = none := by rw [← h.at']; exact hk
    simp only
    rw [mdel_absent (mget_none.1 hk), mdel_absent (mget_none.1 hk'), h.len]
  | some u =>
    have hk' : mget L k = some u := by rw [← h.at']; exact hk
    have h1 := mdel_length h.keys hk'
    have h2 := mdel_length ok.fln hk
    have := h.len
    simp only
    omega
theorem mget_perm {K α : Type} [DecidableEq K] {l l' : List (K × α)} (hp : l'.Perm l) (hn : (l.map (·.1)).Nodup) (k : K) : mget l' k = mget l k := by
  have hn' : (l'.map (·.1)).Nodup := (hp.map (·.1)).nodup_iff.2 hn
  cases h : mget l k with
  | none => exact mget_none.2 fun p hp' => mget_none.1 h p (hp.mem_iff.1 hp')
  | some v => exact mem_mget hn' (hp.mem_iff.2 (mget_mem h))
theorem BM.Ok.perm {M M' : BM} {n : Nat} (ok : M.Ok n) (h1 : M'.fl.Perm M.fl) (h2 : M'.cl.Perm M.cl) : M'.Ok n := by
  have e1 := fun k => mget_perm h1 ok.fln k
  have e2 := fun c => mget_perm h2 ok.cln c
  refine ⟨(h2.map (·.1)).nodup_iff.2 ok.cln, (h1.map (·.1)).nodup_iff.2 ok.fln, by rw [h2.length_eq]; exact ok.cl, by rw [h1.length_eq]; exact ok.fl, fun k l h => ok.len k l (by rw [← e1]; exact h), fun c k h => ok.good c k (by rw [← e2]; exact h), fun c k h => ?_, fun k l h => ?_⟩
  · obtain ⟨l, a, b⟩ := ok.into c k (by rw [← e2]; exact h)
    exact ⟨l, by rw [e1]; exact a, b⟩
  · obtain ⟨a, b, c⟩ := ok.back k l (by rw [← e1]; exact h)
    exact ⟨a, b, fun x hx => by rw [e2]; exact c x hx⟩
theorem Alike.perm {M M' : BM} {L : List (Key × List Int)} {n : Nat} (h : Alike M L) (ok : M.Ok n) (h1 : M'.fl.Perm M.fl) : Alike M' L :=
  ⟨h.keys, by rw [h.len, h1.length_eq], fun k => by rw [mget_perm h1 ok.fln]; exact h.at' k⟩
end Go.Proofs.Ytjmgookpmngmaab
