/- Plain laws: how large a translation is. No program in sight. No condition. -/
import Derived.Test.YtfjafkocejoigaaGreatTr1
import Derived.Test.YtfjafkocejoigaaGreatTp4
namespace Go.Um
namespace Sp

theorem tr_room {n : Nat} {g ls : List (List Int)} {s : Trs} (h : Ti n g ls s) (hn : n ≤ 24) (hk : s.kn.length ≤ 4000) : (∀ c ∈ s.kn, Cl c ∧ Fine c) ∧ s.kn.flatten.length ≤ 100000 := by
  refine ⟨fun c hc => ⟨okc_nodup (h.okc c hc), (okc_fine (by omega) (h.okc c hc)).2⟩, ?_⟩
  have := flat_len (b := 24) s.kn (fun c hc => by have := okc_len (h.okc c hc); omega)
  omega
theorem tr_len {n : Nat} {g ls : List (List Int)} {s : Trs} (h : Ti n g ls s) (hn : n ≤ 24) (hk : s.kn.length ≤ 4000) {c : List Int} (hc : Okc n c) : (trOn s.kn c).1.length ≤ 101000 := by
  have h1 := on_room s.kn (c.map fun x => -x) (List.replicate (c.map fun x => -x).length (-1))
  have h2 := room_le s.kn (c.map fun x => -x)
  have h3 := (tr_room h hn hk).2
  have h4 := okc_len hc
  have hm : (c.map fun x => -x).length = c.length := List.length_map _
  unfold trOn
  omega
theorem tbk_down {kn : List (List Int)} {nu L W : List Int} {k : Nat} {q : Tq} (h : 0 < k) : tbk kn nu L W k q = tbk kn nu L W (k - 1) (tbS kn nu L W (k - 1) q) := by
  cases k with
  | zero => omega
  | succ k => rfl
theorem tb_down {n : Nat} {g kn : List (List Int)} {nu c L W : List Int} (hkn : ∀ c ∈ kn, Okc n c) (hrd : Rd kn c L W) {k : Nat} (h0 : 0 < k) (hk : k ≤ L.length) {q : Tq} (hj : c.length ≤ k - 1) (h : Tb n g kn nu L k q) : Tb n g kn nu L (k - 1) (tbS kn nu L W (k - 1) q) := by
  cases k with
  | zero => omega
  | succ k => exact tb_step hkn hrd (by omega) hj h
theorem rd_good {n : Nat} {kn : List (List Int)} {c L W : List Int} (hkn : ∀ c ∈ kn, Okc n c) (hc : Okc n c) (hrd : Rd kn c L W) {i : Nat} (hi : i < L.length) : L.getD i 0 ≠ 0 ∧ -(n : Int) ≤ L.getD i 0 ∧ L.getD i 0 ≤ n := by
  by_cases h : i < c.length
  · have h1 : L.getD i 0 ∈ L.take c.length := mem_take.2 ⟨i, h, hi, rfl⟩
    rw [hrd.pre] at h1
    obtain ⟨y, hy, e⟩ := List.mem_map.1 h1
    have := hc.1 y hy
    omega
  · exact (hkn _ (getD_mem kn _ [] (hrd.rng i (by omega) hi).2)).1 _ (hrd.mem i (by omega) hi)
theorem drop_consC {l : List (List Int)} {i : Nat} (hi : i < l.length) : l.drop i = l.getD i [] :: l.drop (i + 1) := by
  rw [List.drop_eq_getElem_cons hi, List.getD_eq_getElem?_getD, List.getElem?_eq_getElem hi]
  rfl
theorem trGo_done {s : Trs} (h : s.done = true) : ∀ l, trGo l s = (s.out, 0, 0)
  | [] => rfl
  | c :: l => by rw [trGo, if_pos h]
theorem trGo_many {st : List (List Int)} {s : Trs} {i : Nat} (hi : i < st.length) (h : s.done = false) (h2 : 2000 < (s.step (st.getD i [])).out.length) : trGo (st.drop i) s = ([], 2, -1) := by
  rw [drop_consC hi, trGo, if_neg (by rw [h]; decide), if_pos h2]
theorem trGo_next {st : List (List Int)} {s : Trs} {i : Nat} (hi : i < st.length) (h : s.done = false) (h2 : ¬ 2000 < (s.step (st.getD i [])).out.length) : trGo (st.drop i) s = trGo (st.drop (i + 1)) (s.step (st.getD i [])) := by
  rw [drop_consC hi, trGo, if_neg (by rw [h]; decide), if_neg h2]
theorem trGo_end {st : List (List Int)} {s : Trs} {i : Nat} (hi : st.length ≤ i) : trGo (st.drop i) s = (s.out, 0, 0) := by
  rw [List.drop_of_length_le hi]
  rfl
theorem nums_step {i : Nat} : ((List.range (i + 1)).map fun i : Nat => (i : Int)) = ((List.range i).map fun i : Nat => (i : Int)) ++ [(i : Int)] := by rw [List.range_succ, List.map_append]; rfl
theorem step_room {n : Nat} {g ls : List (List Int)} {s : Trs} (h : Ti n g ls s) (c : List Int) : (s.step c).kn.length = s.kn.length + 1 := by
  show (s.kn ++ [_]).length = _
  rw [List.length_append]
  rfl
end Sp
end Go.Um
