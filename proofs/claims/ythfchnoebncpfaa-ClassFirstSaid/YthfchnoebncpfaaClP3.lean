/- class: the class of tokens, in plain words; the program's and the document's are that. -/
import Derived.Test.YthfchnoebncpfaaClP2
namespace Go.Proofs.Ythfchnoebncpfaa
open Go Go.RowKit Go.Maps Go.Proofs.Ythfchnoebncpfaa.Pu Go.Proofs.YthfchnoebncpfaaW.PrintWords Go.Proofs.YthfchnoebncpfaaW.PrintLast
set_option linter.unusedSimpArgs false
set_option linter.unusedVariables false

theorem bytes_of_toList {x : ByteArray} {b : List UInt8} (h : x.toList = b) : x = ⟨b.toArray⟩ := by
  have e : x.data.toList = b := by rw [← h, ByteArray.toList_eq]
  cases x
  simp only at e
  rw [← e]
def ofB (b : List UInt8) (q : Int) (tr tt : Bool) : Int := if b = [115, 101, 108, 101, 99, 116] then q else if b = [118, 97, 108, 117, 101, 115] then q else if b = [116, 97, 98, 108, 101] then q else if b = [119, 105, 116, 104] then q else if b = [105, 110, 115, 101, 114, 116] then 2 else if b = [117, 112, 100, 97, 116, 101] then 2 else if b = [100, 101, 108, 101, 116, 101] then 2 else if b = [116, 114, 117, 110, 99, 97, 116, 101] then 2 else if b = [109, 101, 114, 103, 101] then 2 else if b = [98, 101, 103, 105, 110] then 3 else if b = [115, 116, 97, 114, 116] then (if tr then 3 else 8) else if b = [99, 111, 109, 109, 105, 116] then 4 else if b = [101, 110, 100] then 4 else if b = [114, 111, 108, 108, 98, 97, 99, 107] then (if tt then 8 else 5) else if b = [97, 98, 111, 114, 116] then (if tt then 8 else 5) else if b = [115, 101, 116] then 6 else if b = [114, 101, 115, 101, 116] then 6 else if b = [100, 105, 115, 99, 97, 114, 100] then 6 else if b = [108, 105, 115, 116, 101, 110] then 6 else if b = [117, 110, 108, 105, 115, 116, 101, 110] then 6 else if b = [112, 114, 101, 112, 97, 114, 101] then 6 else if b = [100, 101, 97, 108, 108, 111, 99, 97, 116, 101] then 6 else if b = [100, 101, 99, 108, 97, 114, 101] then 6 else if b = [108, 111, 97, 100] then 6 else 8
def restP (b : List UInt8) : Int := if b = [105, 110, 115, 101, 114, 116] then 2 else if b = [117, 112, 100, 97, 116, 101] then 2 else if b = [100, 101, 108, 101, 116, 101] then 2 else if b = [116, 114, 117, 110, 99, 97, 116, 101] then 2 else if b = [109, 101, 114, 103, 101] then 2 else if b = [98, 101, 103, 105, 110] then 3 else if b = [99, 111, 109, 109, 105, 116] then 4 else if b = [101, 110, 100] then 4 else if b = [115, 101, 116] then 6 else if b = [114, 101, 115, 101, 116] then 6 else if b = [100, 105, 115, 99, 97, 114, 100] then 6 else if b = [108, 105, 115, 116, 101, 110] then 6 else if b = [117, 110, 108, 105, 115, 116, 101, 110] then 6 else if b = [112, 114, 101, 112, 97, 114, 101] then 6 else if b = [100, 101, 97, 108, 108, 111, 99, 97, 116, 101] then 6 else if b = [100, 101, 99, 108, 97, 114, 101] then 6 else if b = [108, 111, 97, 100] then 6 else 8
theorem rv0 : restF ⟨#[105, 110, 115, 101, 114, 116]⟩ = 2 := by kernel_rfl
theorem rv1 : restF ⟨#[117, 112, 100, 97, 116, 101]⟩ = 2 := by kernel_rfl
theorem rv2 : restF ⟨#[100, 101, 108, 101, 116, 101]⟩ = 2 := by kernel_rfl
theorem rv3 : restF ⟨#[116, 114, 117, 110, 99, 97, 116, 101]⟩ = 2 := by kernel_rfl
theorem rv4 : restF ⟨#[109, 101, 114, 103, 101]⟩ = 2 := by kernel_rfl
theorem rv5 : restF ⟨#[98, 101, 103, 105, 110]⟩ = 3 := by kernel_rfl
theorem rv6 : restF ⟨#[99, 111, 109, 109, 105, 116]⟩ = 4 := by kernel_rfl
theorem rv7 : restF ⟨#[101, 110, 100]⟩ = 4 := by kernel_rfl
theorem rv8 : restF ⟨#[115, 101, 116]⟩ = 6 := by kernel_rfl
theorem rv9 : restF ⟨#[114, 101, 115, 101, 116]⟩ = 6 := by kernel_rfl
theorem rv10 : restF ⟨#[100, 105, 115, 99, 97, 114, 100]⟩ = 6 := by kernel_rfl
theorem rv11 : restF ⟨#[108, 105, 115, 116, 101, 110]⟩ = 6 := by kernel_rfl
theorem rv12 : restF ⟨#[117, 110, 108, 105, 115, 116, 101, 110]⟩ = 6 := by kernel_rfl
theorem rv13 : restF ⟨#[112, 114, 101, 112, 97, 114, 101]⟩ = 6 := by kernel_rfl
theorem rv14 : restF ⟨#[100, 101, 97, 108, 108, 111, 99, 97, 116, 101]⟩ = 6 := by kernel_rfl
theorem rv15 : restF ⟨#[100, 101, 99, 108, 97, 114, 101]⟩ = 6 := by kernel_rfl
theorem rv16 : restF ⟨#[108, 111, 97, 100]⟩ = 6 := by kernel_rfl
theorem rest_eq (x : ByteArray) : restF x = restP x.toList := by
  unfold restP
  by_cases h0 : x.toList = [105, 110, 115, 101, 114, 116]
  · rw [if_pos h0]
    obtain rfl := bytes_of_toList h0
    exact rv0
  rw [if_neg h0]
  by_cases h1 : x.toList = [117, 112, 100, 97, 116, 101]
  · rw [if_pos h1]
    obtain rfl := bytes_of_toList h1
    exact rv1
  rw [if_neg h1]
  by_cases h2 : x.toList = [100, 101, 108, 101, 116, 101]
  · rw [if_pos h2]
    obtain rfl := bytes_of_toList h2
    exact rv2
  rw [if_neg h2]
  by_cases h3 : x.toList = [116, 114, 117, 110, 99, 97, 116, 101]
  · rw [if_pos h3]
    obtain rfl := bytes_of_toList h3
    exact rv3
  rw [if_neg h3]
  by_cases h4 : x.toList = [109, 101, 114, 103, 101]
  · rw [if_pos h4]
    obtain rfl := bytes_of_toList h4
    exact rv4
  rw [if_neg h4]
  by_cases h5 : x.toList = [98, 101, 103, 105, 110]
  · rw [if_pos h5]
    obtain rfl := bytes_of_toList h5
    exact rv5
  rw [if_neg h5]
  by_cases h6 : x.toList = [99, 111, 109, 109, 105, 116]
  · rw [if_pos h6]
    obtain rfl := bytes_of_toList h6
    exact rv6
  rw [if_neg h6]
  by_cases h7 : x.toList = [101, 110, 100]
  · rw [if_pos h7]
    obtain rfl := bytes_of_toList h7
    exact rv7
  rw [if_neg h7]
  by_cases h8 : x.toList = [115, 101, 116]
  · rw [if_pos h8]
    obtain rfl := bytes_of_toList h8
    exact rv8
  rw [if_neg h8]
  by_cases h9 : x.toList = [114, 101, 115, 101, 116]
  · rw [if_pos h9]
    obtain rfl := bytes_of_toList h9
    exact rv9
  rw [if_neg h9]
  by_cases h10 : x.toList = [100, 105, 115, 99, 97, 114, 100]
  · rw [if_pos h10]
    obtain rfl := bytes_of_toList h10
    exact rv10
  rw [if_neg h10]
  by_cases h11 : x.toList = [108, 105, 115, 116, 101, 110]
  · rw [if_pos h11]
    obtain rfl := bytes_of_toList h11
    exact rv11
  rw [if_neg h11]
  by_cases h12 : x.toList = [117, 110, 108, 105, 115, 116, 101, 110]
  · rw [if_pos h12]
    obtain rfl := bytes_of_toList h12
    exact rv12
  rw [if_neg h12]
  by_cases h13 : x.toList = [112, 114, 101, 112, 97, 114, 101]
  · rw [if_pos h13]
    obtain rfl := bytes_of_toList h13
    exact rv13
  rw [if_neg h13]
  by_cases h14 : x.toList = [100, 101, 97, 108, 108, 111, 99, 97, 116, 101]
  · rw [if_pos h14]
    obtain rfl := bytes_of_toList h14
    exact rv14
  rw [if_neg h14]
  by_cases h15 : x.toList = [100, 101, 99, 108, 97, 114, 101]
  · rw [if_pos h15]
    obtain rfl := bytes_of_toList h15
    exact rv15
  rw [if_neg h15]
  by_cases h16 : x.toList = [108, 111, 97, 100]
  · rw [if_pos h16]
    obtain rfl := bytes_of_toList h16
    exact rv16
  rw [if_neg h16]
  have hn : mget fstF x = none := by
    cases hm : mget fstF x with
    | none => rfl
    | some v =>
      exfalso
      simp only [fstF, Pu.putAll, fst0, fstW, fstS, List.foldl_cons, List.foldl_nil, mget_mput, mget] at hm
      rw [if_neg (fun e => h16 (by rw [← e]; kernel_rfl))] at hm
      rw [if_neg (fun e => h15 (by rw [← e]; kernel_rfl))] at hm
      rw [if_neg (fun e => h14 (by rw [← e]; kernel_rfl))] at hm
      rw [if_neg (fun e => h13 (by rw [← e]; kernel_rfl))] at hm
      rw [if_neg (fun e => h12 (by rw [← e]; kernel_rfl))] at hm
      rw [if_neg (fun e => h11 (by rw [← e]; kernel_rfl))] at hm
      rw [if_neg (fun e => h10 (by rw [← e]; kernel_rfl))] at hm
      rw [if_neg (fun e => h9 (by rw [← e]; kernel_rfl))] at hm
      rw [if_neg (fun e => h8 (by rw [← e]; kernel_rfl))] at hm
      rw [if_neg (fun e => h4 (by rw [← e]; kernel_rfl))] at hm
      rw [if_neg (fun e => h3 (by rw [← e]; kernel_rfl))] at hm
      rw [if_neg (fun e => h2 (by rw [← e]; kernel_rfl))] at hm
      rw [if_neg (fun e => h1 (by rw [← e]; kernel_rfl))] at hm
      rw [if_neg (fun e => h0 (by rw [← e]; kernel_rfl))] at hm
      rw [if_neg (fun e => h5 (by rw [← e]; kernel_rfl))] at hm
      rw [if_neg (fun e => h6 (by rw [← e]; kernel_rfl))] at hm
      rw [if_neg (fun e => h7 (by rw [← e]; kernel_rfl))] at hm
      cases hm
  unfold restF lookF
  rw [hn]
  rfl
def wTo : List ByteArray := [bTo]
/-- The class of what begins as a query. -/
def qP (l : List S33) : Int := if wrF eB (wdsF l) then 2 else if lockF (wdsF l) || callsF chgF (l.map tokOf) then 7 else 1
theorem qc_f (l : List S33) (k : Nat) (hk : 2 * l.length + 6 < k) (hl : l.length ≤ 17592186044416) : qcF k l = some (qP l) := by
  unfold qcF qP
  rw [writes_f l k (by omega) hl, locks_f l k (by omega) hl, Option.bind_some]
  split
  · rfl
  · rw [Option.bind_some]
    split <;> rfl
theorem rqc (l : List S33) (m : Nat) (hk : 2 * l.length + 30 < m) (hl : l.length ≤ 17592186044416) : ((pontoonref06_writes.f m l).bind fun t267 => (if t267 = true then (some (2 : Int)) else ((pontoonref06_Locks.f m l).bind fun t268 => (if t268 = true then (some 7) else ((pontoonref06_system.f m l).bind fun t269 => (if t269 = true then (some 7) else ((pontoonref06_Calls.f m l chgL).bind fun t273 => (if t273 = true then (some 7) else (some 1))))))))) = some (qP l) := by
  rw [rwrites_f l m (by omega) hl, rlocks_f l m (by omega) hl, rsys_f l m (by omega) hl, rcalls_f l chgL m (by show l.length + 8 + 1 < m; omega) hl (by decide)]
  unfold qP
  rw [show callsF chgF (l.map tokOf) = rcF chgF l from rfl, rcF_chg]
  simp only [Option.bind_some]
  cases wrF eB (wdsF l) <;> cases lockF (wdsF l) <;> cases rcF pgF l <;> cases rcF (fun s => inF s chgL) l <;> rfl
theorem has_to (l : List S33) : hasF l wTo = inF bTo (wdsF l) := by
  unfold hasF inF wdsF wTo
  rw [List.any_map]
  congr 1
  funext x
  have e : bTo.toList = [116, 111] := by kernel_rfl
  have e2 : eB.toList = [] := by kernel_rfl
  simp only [Function.comp, List.any_cons, List.any_nil, Bool.or_false, e]
  unfold wdF
  by_cases h : x.f0 = 1
  · rw [if_pos h, beq_iff_eq.2 h]
    exact (Bool.true_and _).trans BEq.comm
  · rw [if_neg h, beq_eq_false_iff_ne.2 h, e2]
    rfl
def trF (ws : List ByteArray) : Bool := (wAt ws 1).toList == wTrans
/-- The class of tokens. -/
def ofP (l : List S33) : Int := match wdsF l with | [] => 0 | x :: _ => ofB x.toList (qP l) (trF (wdsF l)) (inF bTo (wdsF l))
theorem ofW_b (b : List UInt8) (q : Int) (tr tt : Bool) : (if b == wSel || b == wVal || b == wTab || b == wWith then some q else if b == wStart then (if tr then some 3 else some (restP b)) else if (b == wRoll || b == wAbort) && !tt then some 5 else some (restP b)) = some (ofB b q tr tt) := by
  unfold ofB restP wSel wVal wTab wWith wStart wRoll wAbort
  by_cases h0 : b = [115, 101, 108, 101, 99, 116]
  · subst h0
    cases tr <;> cases tt <;> simp
  by_cases h1 : b = [118, 97, 108, 117, 101, 115]
  · subst h1
    cases tr <;> cases tt <;> simp
  by_cases h2 : b = [116, 97, 98, 108, 101]
  · subst h2
    cases tr <;> cases tt <;> simp
  by_cases h3 : b = [119, 105, 116, 104]
  · subst h3
    cases tr <;> cases tt <;> simp
  by_cases h4 : b = [105, 110, 115, 101, 114, 116]
  · subst h4
    cases tr <;> cases tt <;> simp
  by_cases h5 : b = [117, 112, 100, 97, 116, 101]
  · subst h5
    cases tr <;> cases tt <;> simp
  by_cases h6 : b = [100, 101, 108, 101, 116, 101]
  · subst h6
    cases tr <;> cases tt <;> simp
  by_cases h7 : b = [116, 114, 117, 110, 99, 97, 116, 101]
  · subst h7
    cases tr <;> cases tt <;> simp
  by_cases h8 : b = [109, 101, 114, 103, 101]
  · subst h8
    cases tr <;> cases tt <;> simp
  by_cases h9 : b = [98, 101, 103, 105, 110]
  · subst h9
    cases tr <;> cases tt <;> simp
  by_cases h10 : b = [115, 116, 97, 114, 116]
  · subst h10
    cases tr <;> cases tt <;> simp
  by_cases h11 : b = [99, 111, 109, 109, 105, 116]
  · subst h11
    cases tr <;> cases tt <;> simp
  by_cases h12 : b = [101, 110, 100]
  · subst h12
    cases tr <;> cases tt <;> simp
  by_cases h13 : b = [114, 111, 108, 108, 98, 97, 99, 107]
  · subst h13
    cases tr <;> cases tt <;> simp
  by_cases h14 : b = [97, 98, 111, 114, 116]
  · subst h14
    cases tr <;> cases tt <;> simp
  by_cases h15 : b = [115, 101, 116]
  · subst h15
    cases tr <;> cases tt <;> simp
  by_cases h16 : b = [114, 101, 115, 101, 116]
  · subst h16
    cases tr <;> cases tt <;> simp
  by_cases h17 : b = [100, 105, 115, 99, 97, 114, 100]
  · subst h17
    cases tr <;> cases tt <;> simp
  by_cases h18 : b = [108, 105, 115, 116, 101, 110]
  · subst h18
    cases tr <;> cases tt <;> simp
  by_cases h19 : b = [117, 110, 108, 105, 115, 116, 101, 110]
  · subst h19
    cases tr <;> cases tt <;> simp
  by_cases h20 : b = [112, 114, 101, 112, 97, 114, 101]
  · subst h20
    cases tr <;> cases tt <;> simp
  by_cases h21 : b = [100, 101, 97, 108, 108, 111, 99, 97, 116, 101]
  · subst h21
    cases tr <;> cases tt <;> simp
  by_cases h22 : b = [100, 101, 99, 108, 97, 114, 101]
  · subst h22
    cases tr <;> cases tt <;> simp
  by_cases h23 : b = [108, 111, 97, 100]
  · subst h23
    cases tr <;> cases tt <;> simp
  simp only [h0, h1, h2, h3, h4, h5, h6, h7, h8, h9, h10, h11, h12, h13, h14, h15, h16, h17, h18, h19, h20, h21, h22, h23, beq_iff_eq, Bool.or_eq_true, Bool.and_eq_true, or_self, false_and, if_false]
theorem of_f (l : List S33) (k : Nat) (hk : 2 * l.length + 40 < k) (hl : l.length ≤ 17592186044416) (hx : ∀ x ∈ l, (wdF x).size ≤ maxLen) : class_Of.f k l = some (ofP l) := by
  unfold class_Of.f ofF ofP
  rw [if_pos (by omega)]
  match l, hk, hl, hx with
  | [], _, _, _ => rfl
  | y :: r, hk, hl, hx =>
    rw [if_neg (by simp), words_f _ k (by omega) hl, Option.bind_some, if_pos (by rw [wds_len]; omega)]
    have hq := qc_f (y :: r) k (by omega) hl
    show ofW k (y :: r) (wdF y :: wdsF r) = some (ofB (wdF y).toList (qP (y :: r)) (trF (wdF y :: wdsF r)) (inF bTo (wdF y :: wdsF r)))
    rw [← ofW_b]
    unfold ofW
    simp only []
    rw [if_pos (hx y (by simp)), hq, rest_eq]
    split
    · rfl
    · split
      · cases r with
        | nil =>
          have : trF (wdF y :: wdsF []) = false := by
            show ((wAt [wdF y] 1).toList == wTrans) = false
            show (eB.toList == wTrans) = false
            kernel_rfl
          rw [this]
          rfl
        | cons z r => rfl
      · rfl
theorem ofR_b (l : List S33) (m : Nat) (b : List UInt8) (q : Int) (tr tt : Bool) (x : ByteArray) (hb : x.toList = b) (q0 : Option Int) (hq : q0 = some q) (t3 : Option Int) (ht : t3 = some (if tr then 3 else 8)) (h5 : Option Int) (hh : h5 = some (if tt then 8 else 5)) (J0 J1 J2 J3 : Bool → Option Int)
    (e0 : ∀ c, J0 c = if c = true then q0 else if b = [105, 110, 115, 101, 114, 116] then J1 (b == [105, 110, 115, 101, 114, 116]) else if b = [117, 112, 100, 97, 116, 101] then J1 (b == [117, 112, 100, 97, 116, 101]) else if b = [100, 101, 108, 101, 116, 101] then J1 (b == [100, 101, 108, 101, 116, 101]) else if b = [116, 114, 117, 110, 99, 97, 116, 101] then J1 (b == [116, 114, 117, 110, 99, 97, 116, 101]) else J1 (b == [109, 101, 114, 103, 101]))
    (e1 : ∀ c, J1 c = if c = true then some 2 else if b = [98, 101, 103, 105, 110] then some 3 else if b = [115, 116, 97, 114, 116] then t3 else if b = [99, 111, 109, 109, 105, 116] then J2 (b == [99, 111, 109, 109, 105, 116]) else J2 (b == [101, 110, 100]))
    (e2 : ∀ c, J2 c = if c = true then some 4 else if b = [114, 111, 108, 108, 98, 97, 99, 107] then J3 (b == [114, 111, 108, 108, 98, 97, 99, 107]) else J3 (b == [97, 98, 111, 114, 116]))
    (e3 : ∀ c, J3 c = if c = true then h5 else if b = [115, 101, 116] then some 6 else if b = [114, 101, 115, 101, 116] then some 6 else if b = [100, 105, 115, 99, 97, 114, 100] then some 6 else if b = [108, 105, 115, 116, 101, 110] then some 6 else if b = [117, 110, 108, 105, 115, 116, 101, 110] then some 6 else if b = [112, 114, 101, 112, 97, 114, 101] then some 6 else if b = [100, 101, 97, 108, 108, 111, 99, 97, 116, 101] then some 6 else if b = [100, 101, 99, 108, 97, 114, 101] then some 6 else if b = [108, 111, 97, 100] then some 6 else some 8) :
    (if b = [115, 101, 108, 101, 99, 116] then J0 (b == [115, 101, 108, 101, 99, 116]) else if b = [118, 97, 108, 117, 101, 115] then J0 (b == [118, 97, 108, 117, 101, 115]) else if b = [116, 97, 98, 108, 101] then J0 (b == [116, 97, 98, 108, 101]) else J0 (b == [119, 105, 116, 104])) = some (ofB b q tr tt) := by
  unfold ofB
  simp only [e0, e1, e2, e3, hq, ht, hh]
  clear e0 e1 e2 e3 hq ht hh hb
  by_cases h0 : b = [115, 101, 108, 101, 99, 116]
  · subst h0
    cases tr <;> cases tt <;> simp
  by_cases h1 : b = [118, 97, 108, 117, 101, 115]
  · subst h1
    cases tr <;> cases tt <;> simp
  by_cases h2 : b = [116, 97, 98, 108, 101]
  · subst h2
    cases tr <;> cases tt <;> simp
  by_cases h3 : b = [119, 105, 116, 104]
  · subst h3
    cases tr <;> cases tt <;> simp
  by_cases h4 : b = [105, 110, 115, 101, 114, 116]
  · subst h4
    cases tr <;> cases tt <;> simp
  by_cases h5 : b = [117, 112, 100, 97, 116, 101]
  · subst h5
    cases tr <;> cases tt <;> simp
  by_cases h6 : b = [100, 101, 108, 101, 116, 101]
  · subst h6
    cases tr <;> cases tt <;> simp
  by_cases h7 : b = [116, 114, 117, 110, 99, 97, 116, 101]
  · subst h7
    cases tr <;> cases tt <;> simp
  by_cases h8 : b = [109, 101, 114, 103, 101]
  · subst h8
    cases tr <;> cases tt <;> simp
  by_cases h9 : b = [98, 101, 103, 105, 110]
  · subst h9
    cases tr <;> cases tt <;> simp
  by_cases h10 : b = [115, 116, 97, 114, 116]
  · subst h10
    cases tr <;> cases tt <;> simp
  by_cases h11 : b = [99, 111, 109, 109, 105, 116]
  · subst h11
    cases tr <;> cases tt <;> simp
  by_cases h12 : b = [101, 110, 100]
  · subst h12
    cases tr <;> cases tt <;> simp
  by_cases h13 : b = [114, 111, 108, 108, 98, 97, 99, 107]
  · subst h13
    cases tr <;> cases tt <;> simp
  by_cases h14 : b = [97, 98, 111, 114, 116]
  · subst h14
    cases tr <;> cases tt <;> simp
  by_cases h15 : b = [115, 101, 116]
  · subst h15
    cases tr <;> cases tt <;> simp
  by_cases h16 : b = [114, 101, 115, 101, 116]
  · subst h16
    cases tr <;> cases tt <;> simp
  by_cases h17 : b = [100, 105, 115, 99, 97, 114, 100]
  · subst h17
    cases tr <;> cases tt <;> simp
  by_cases h18 : b = [108, 105, 115, 116, 101, 110]
  · subst h18
    cases tr <;> cases tt <;> simp
  by_cases h19 : b = [117, 110, 108, 105, 115, 116, 101, 110]
  · subst h19
    cases tr <;> cases tt <;> simp
  by_cases h20 : b = [112, 114, 101, 112, 97, 114, 101]
  · subst h20
    cases tr <;> cases tt <;> simp
  by_cases h21 : b = [100, 101, 97, 108, 108, 111, 99, 97, 116, 101]
  · subst h21
    cases tr <;> cases tt <;> simp
  by_cases h22 : b = [100, 101, 99, 108, 97, 114, 101]
  · subst h22
    cases tr <;> cases tt <;> simp
  by_cases h23 : b = [108, 111, 97, 100]
  · subst h23
    cases tr <;> cases tt <;> simp
  simp only [h0, h1, h2, h3, h4, h5, h6, h7, h8, h9, h10, h11, h12, h13, h14, h15, h16, h17, h18, h19, h20, h21, h22, h23, beq_iff_eq, if_false]
end Go.Proofs.Ythfchnoebncpfaa
