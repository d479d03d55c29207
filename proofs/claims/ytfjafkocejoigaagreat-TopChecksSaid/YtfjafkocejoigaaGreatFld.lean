/- Fields that are structs themselves: their addresses, and loads from within. No condition. -/
import Derived.Test.YtfjafkocejoigaaGreatBB
namespace Go.Um
open Go Go.RowKit

def AV.cdrop : AV → Nat → AV
  | c, 0 => c
  | .ccons _ b, i + 1 => b.cdrop i
  | _, _ + 1 => .cnil
def AV.ctake : AV → Nat → AV
  | _, 0 => .cnil
  | .ccons a b, k + 1 => .ccons a (b.ctake k)
  | _, _ + 1 => .cnil
def D.cdrop : D → Nat → D
  | c, 0 => c
  | .cons _ b, i + 1 => b.cdrop i
  | _, _ + 1 => .nil
def D.ctake : D → Nat → D
  | _, 0 => .nil
  | .cons a b, k + 1 => .cons a (b.ctake k)
  | _, _ + 1 => .nil

section
variable {P : Program} {ok : Nat → Prop} {w : World} {s : St} {β : Nat → Option Nat} {ν : Nat → Value}
theorem VR_cdrop : ∀ (i : Nat) (c : AV) {cs : List Value}, i ≤ c.len → VR P ok w s β ν c cs → VR P ok w s β ν (c.cdrop i) (cs.drop i)
  | 0, c, cs, _, h => by simpa [AV.cdrop] using h
  | i + 1, c, cs, hi, h => by
    cases c with
    | ccons a b =>
      obtain ⟨v, vs, rfl, _, h2⟩ := h
      exact VR_cdrop i b (by simpa [AV.len] using hi) h2
    | _ => simp [AV.len] at hi
theorem VR_ctake : ∀ (k : Nat) (c : AV) {cs : List Value}, k ≤ c.len → VR P ok w s β ν c cs → VR P ok w s β ν (c.ctake k) (cs.take k)
  | 0, c, cs, _, _ => by simp [AV.ctake, VR]
  | k + 1, c, cs, hk, h => by
    cases c with
    | ccons a b =>
      obtain ⟨v, vs, rfl, h1, h2⟩ := h
      exact ⟨v, vs.take k, rfl, h1, VR_ctake k b (by simpa [AV.len] using hk) h2⟩
    | _ => simp [AV.len] at hk
theorem R_cdrop : ∀ (i : Nat) (c : D) {cs : List Value}, i ≤ c.len → R P c ok w cs → R P (c.cdrop i) ok w (cs.drop i)
  | 0, c, cs, _, h => by simpa [D.cdrop] using h
  | i + 1, c, cs, hi, h => by
    cases c with
    | cons a b =>
      obtain ⟨v, vs, rfl, _, _, h2⟩ := h
      exact R_cdrop i b (by simpa [D.len] using hi) h2
    | _ => simp [D.len] at hi
theorem R_ctake : ∀ (k : Nat) (c : D) {cs : List Value}, k ≤ c.len → R P c ok w cs → R P (c.ctake k) ok w (cs.take k)
  | 0, c, cs, _, _ => by simp [D.ctake, R]
  | k + 1, c, cs, hk, h => by
    cases c with
    | cons a b =>
      obtain ⟨v, vs, rfl, h1, h2, h3⟩ := h
      exact ⟨v, vs.take k, rfl, h1, h2, R_ctake k b (by simpa [D.len] using hk) h3⟩
    | _ => simp [D.len] at hk
theorem R_clen : ∀ (c : D) {cs : List Value}, R P c ok w cs → c.len ≤ cs.length
  | .cons a b, cs, h => by
    obtain ⟨v, vs, rfl, _, _, h3⟩ := h
    have := R_clen b h3
    simp [D.len]
    exact this
  | .int .., _, _ => Nat.zero_le _
  | .bool _, _, _ => Nat.zero_le _
  | .str _, _, _ => Nat.zero_le _
  | .nil, _, _ => Nat.zero_le _
  | .agg _, _, _ => Nat.zero_le _
  | .tup _, _, _ => Nat.zero_le _
  | .list .., _, _ => Nat.zero_le _
  | .fn .., _, _ => Nat.zero_le _
  | .sl .., _, _ => Nat.zero_le _
  | .any, _, _ => Nat.zero_le _
  | .ptr _, _, _ => Nat.zero_le _
  | .clp _, _, _ => Nat.zero_le _
  | .ifc .., _, _ => Nat.zero_le _
end

section
variable {P : Program} {s : St} {o : Oper}
theorem p_fieldAddrA {x : Operand} {T i off ft k : Nat} {c : D} (ho : o.op = .fieldAddr T x i) (hF : IsField P T i off ft) (hs : Size P ft k) (hk0 : Nat.blt 0 k = true) (hx : Sees (ev s x) (.ptr (.agg c))) (hi : Nat.ble (off + k) c.len = true) :
    PStep P o (kx x) s (.ptr (.agg ((c.cdrop off).ctake k))) := by
  have hi' := Nat.le_of_ble_eq_true hi
  intro X t a w β ν hk hr
  obtain ⟨p, cs, hv, hp, hok, h1c, hcell, hR⟩ := vr_ptr (hr.sees hk hx)
  have hl := R_clen c hR
  refine ⟨rfl, .pointer (some (p.add off)), ?_, ?_⟩
  · unfold IsField at hF
    obtain ⟨dsc, h1, h2⟩ := Option.bind_eq_some_iff.1 hF
    cases dsc <;> simp at h2
    rename_i fs
    obtain ⟨fld, h3, h4, h5⟩ := h2
    subst h4 h5
    have hne : k ≠ 0 := by have := blt_lt hk0; omega
    simp [execOp, ho, Instr.fieldAt, hv, Instr.sureAddr, run_underlying' h1, h3, fieldPlace, run_sizeOf hs, hne]
  · rw [Addr.add_none hp]
    have hR2 : R P c (okAt X t β w) w cs := hR
    have hdl : k ≤ (c.cdrop off).len := by
      have key : ∀ (i : Nat) (c : D), (c.cdrop i).len = c.len - i := by
        intro i
        induction i with
        | zero => intro c; simp [D.cdrop]
        | succ i ih =>
          intro c
          cases c with
          | cons a b => simp [D.cdrop, D.len, ih b]
          | _ => simp [D.cdrop, D.len]
      rw [key]
      omega
    refine ⟨_, (cs.drop off).take k, rfl, rfl, hok, fun v hv => h1c v (List.mem_of_mem_drop (List.mem_of_mem_take hv)), ?_, R_ctake k _ hdl (R_cdrop off c (by omega) hR2)⟩
    intro j hj
    have hj' : j < k := by simp at hj; omega
    have h2 := hcell (off + j) (by simp at hj; omega)
    rw [List.getElem_take, List.getElem_drop]
    rw [← h2]
    congr 2
    simp only [Nat.add_assoc]

theorem cdrop_len : ∀ (i : Nat) (c : AV), (c.cdrop i).len = c.len - i
  | 0, c => by simp [AV.cdrop]
  | i + 1, c => by
    cases c with
    | ccons a b => simp [AV.cdrop, AV.len, cdrop_len i b]
    | _ => simp [AV.cdrop, AV.len]
theorem p_fieldRefO {x : Operand} {T i off o0 ft k ob u : Nat} {c : AV} (ho : o.op = .fieldAddr T x i) (hF : IsField P T i off ft) (hs : Size P ft k) (hk0 : Nat.blt 0 k = true) (hx : Sees (ev s x) (.ref ob u o0)) (hb : s ob = .box u c) :
    PStep P o (ob :: kx x) s (.ref ob u (o0 + off)) := by
  intro X t a w β ν hk hr
  obtain ⟨b, cs, ty, h1, h2, h3, h4, h5⟩ := hr.atBox hk hx hb
  have hob : t ob = .box u c := by rw [hk ob (by simp), hb]
  refine ⟨rfl, .pointer (some ⟨b, o0 + off, none⟩), ?_, ⟨_, u, rfl, by rw [hob]; rfl, Nat.le_refl _, fun _ _ => ⟨b, h2, rfl⟩⟩⟩
  unfold IsField at hF
  obtain ⟨dsc, q1, q2⟩ := Option.bind_eq_some_iff.1 hF
  cases dsc <;> simp at q2
  rename_i fs
  obtain ⟨fld, q3, q4, q5⟩ := q2
  subst q4 q5
  have hne : k ≠ 0 := by have := blt_lt hk0; omega
  simp [execOp, ho, Instr.fieldAt, h1, Instr.sureAddr, run_underlying' q1, q3, fieldPlace, run_sizeOf hs, hne, Addr.add_none]
theorem p_loadBSO {x : Operand} {T k ob u o0 : Nat} {c : AV} (ho : o.op = .load T x) (hT : IsAgg P T true) (hs : Size P T k) (hx : Sees (ev s x) (.ref ob u o0)) (hb : s ob = .box u c) (hc : ((c.cdrop o0).ctake k).isD = true) (hl : Nat.ble (o0 + k) c.len = true) (hk' : ((c.cdrop o0).ctake k).len = k) :
    PStep P o (ob :: kx x) s (.val (.agg ((c.cdrop o0).ctake k).toD)) := by
  have hl' := Nat.le_of_ble_eq_true hl
  intro X t a w β ν hk hr
  obtain ⟨b, cs, ty, h1, h2, h3, h4, h5⟩ := hr.atBox hk hx hb
  have h6 := VR_ctake k _ (by rw [cdrop_len]; omega) (VR_cdrop o0 c (by omega) h5)
  obtain ⟨g1, g2, g3⟩ := VR_toD _ hc h6
  refine ⟨rfl, .agg ((cs.toList.drop o0).take k).toArray, ?_, ⟨_, rfl, rfl, by simpa [R, Value.cells] using g1⟩⟩
  have hlc := run_loadCells_list (P := P) w ⟨b, o0, none⟩ ((cs.toList.drop o0).take k) (fun j v hj => by
    rw [Addr.add_none rfl]
    simp only [World.cell?, h3]
    rw [List.getElem?_take] at hj
    split at hj
    · rw [List.getElem?_drop] at hj
      simpa using hj
    · cases hj)
  rw [show ((cs.toList.drop o0).take k).length = k by omega] at hlc
  simp [execOp, ho, Instr.loadAt, h1, Instr.sureAddr, loadVar, run_isAgg hT, run_sizeOf hs, hlc]
end
end Go.Um
