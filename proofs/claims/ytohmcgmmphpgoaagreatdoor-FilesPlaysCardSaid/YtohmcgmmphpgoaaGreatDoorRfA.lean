/- Plain: the document's paths are the program's. -/
import Derived.Test.YtohmcgmmphpgoaaGreatDoorFilZ
set_option linter.unusedSimpArgs false
set_option linter.unusedVariables false
namespace Go.Proofs.YtohmcgmmphpgoaaGreatDoor
open Go.RowKit Go.Tri
theorem rName_eq (x : List UInt8) : m_triremeref09_Name x = some (isNm x) := by
  unfold m_triremeref09_Name
  by_cases h1 : (x.length : Int) < 1
  · rw [if_pos h1]
    have : x = [] := List.eq_nil_of_length_eq_zero (by omega)
    rw [this]; rfl
  rw [if_neg h1]
  by_cases h2 : 8 < (x.length : Int)
  · rw [if_pos h2]
    unfold isNm
    rw [decide_eq_false (show ¬ x.length ≤ 8 by omega)]; simp
  rw [if_neg h2]
  rw [loop_fs x (fun c => if nmC c = true then none else some (.inr false)) (.inl ()) (fun i hi => ?_) ?_]
  · simp only [Option.bind_some]
    have hne : x ≠ [] := fun e => by rw [e] at h1; simp at h1
    by_cases ha : x.all nmC = true
    · have : x.findSome? (fun c => if nmC c = true then none else some (Sum.inr false : Unit ⊕ Bool)) = none := by
        rw [List.findSome?_eq_none_iff]
        intro c hc
        rw [if_pos (List.all_eq_true.1 ha c hc)]
      rw [this]
      unfold isNm
      rw [ha, decide_eq_true hne, decide_eq_true (show x.length ≤ 8 by omega)]; rfl
    · have : x.findSome? (fun c => if nmC c = true then none else some (Sum.inr false : Unit ⊕ Bool)) = some (.inr false) := by
        have ha' : ¬ ∀ c ∈ x, nmC c = true := fun h => ha (List.all_eq_true.2 h)
        clear ha h1 h2 hne
        induction x with
        | nil => exact (ha' (by simp)).elim
        | cons c x ih =>
          rw [List.findSome?_cons]
          by_cases hc : nmC c = true
          · rw [if_pos hc]
            exact ih fun h => ha' fun d hd => by
              rcases List.mem_cons.1 hd with rfl | hd
              · exact hc
              · exact h d hd
          · rw [if_neg hc]
      rw [this]
      unfold isNm
      rw [show x.all nmC = false by simpa using ha]; rfl
  · rw [if_neg (by omega)]
  · rw [if_pos (by omega), idxO_get hi]
    simp only [Option.bind_some]
    unfold nmC
    by_cases h1 : (x[i].toNat : Int) < 33
    · rw [if_pos h1, if_neg (by simp; omega)]
    · rw [if_neg h1]
      by_cases h2 : 126 < (x[i].toNat : Int)
      · rw [if_pos h2, if_neg (by simp; omega)]
      · rw [if_neg h2]
        by_cases h3 : (x[i].toNat : Int) = 47
        · rw [if_pos h3, if_neg (by simp; omega)]
        · rw [if_neg h3, if_pos (by simp; omega), i64_id (by omega) (by omega)]
          rfl
/-- What stands between two places. -/
def btw (p : List UInt8) (i j : Nat) : List UInt8 := (p.take j).drop i
theorem btw_mem {p : List UInt8} {i j : Nat} {c : UInt8} (h : c ∈ btw p i j) : ∃ k, ∃ hk : k < p.length, i ≤ k ∧ k < j ∧ p[k] = c := by
  unfold btw at h
  obtain ⟨k, hk, rfl⟩ := List.getElem_of_mem h
  simp only [List.length_drop, List.length_take] at hk
  exact ⟨i + k, by omega, by omega, by omega, by simp⟩
theorem btw_app {p : List UInt8} {i j : Nat} (h : i ≤ j) (hj : j < p.length) : p.drop i = btw p i j ++ p[j] :: p.drop (j + 1) := by
  unfold btw
  rw [← List.drop_eq_getElem_cons hj]
  conv => lhs; rw [← List.take_append_drop j p]
  rw [List.drop_append_of_le_length (by simp; omega)]
theorem btw_end {p : List UInt8} {i : Nat} : btw p i p.length = p.drop i := by unfold btw; rw [List.take_length]
structure SpI (p : List UInt8) (out : List (List UInt8)) (fr i : Nat) : Prop where
  fr1 : 1 ≤ fr
  le : fr ≤ i
  il : i ≤ p.length
  sp : sp p.tail = out ++ sp (p.drop fr)
  ok : ∀ x ∈ out, isNm x = true
  no : ∀ k (hk : k < p.length), fr ≤ k → k < i → p[k] ≠ 47
  ol : out.length ≤ fr
theorem rSplit_eq (p : List UInt8) : m_triremeref09_Split p = some (nmP p, okP p) := by
  unfold m_triremeref09_Split
  by_cases hr : p = [47]
  · rw [if_pos hr, hr]; rfl
  rw [if_neg hr]
  have hbad : okP p = false → some (([] : List (List UInt8)), false) = some (nmP p, okP p) := fun h => by rw [nmP_bad h, h]
  by_cases h1 : (p.length : Int) < 2
  · rw [if_pos h1]
    refine hbad ?_
    unfold okP
    rw [decide_eq_false hr]
    cases p with
    | nil => rfl
    | cons c p =>
      cases p with
      | nil =>
        have : c ≠ 47 := fun e => hr (by rw [e])
        simp [this]
      | cons d p => simp at h1; omega
  rw [if_neg h1]
  by_cases h2 : 24 < (p.length : Int)
  · rw [if_pos h2]
    refine hbad ?_
    unfold okP
    rw [decide_eq_false hr, decide_eq_false (show ¬ p.length ≤ 24 by omega)]; simp
  rw [if_neg h2]
  have h0 : 0 < p.length := by omega
  rw [show (0 : Int) = ((0 : Nat) : Int) from rfl, idxO_get h0]
  simp only [Option.bind_some]
  have hhead : p.head? = some p[0] := by
    cases p with
    | nil => simp at h0
    | cons c p => rfl
  by_cases h3 : (p[0].toNat : Int) = 47
  · rw [if_pos h3]
    have hp0 : p[0] = 47 := by rw [← UInt8.toNat_inj]; show p[0].toNat = 47; omega
    have hok : okP p = (sp p.tail).all isNm := by
      unfold okP
      rw [decide_eq_false hr, decide_eq_true (show p.length ≤ 24 by omega), hhead, hp0]; simp
    have htail : p.tail = p.drop 1 := by simp
    refine bind_run (fun k (t : (List (List UInt8)) × Int × Int) => t.2.2 = ((k + 1 : Nat) : Int) ∧ ∃ fr : Nat, t.2.1 = (fr : Int) ∧ ((k + 1 ≤ p.length ∧ SpI p t.1 fr (k + 1)) ∨ (k = p.length ∧ sp p.tail = t.1 ∧ ∀ x ∈ t.1, isNm x = true))) (fun r => (∃ out, r = .inl out ∧ sp p.tail = out ∧ ∀ x ∈ out, isNm x = true) ∨ (r = .inr (([] : List (List UInt8)), false) ∧ okP p = false)) p.length ⟨rfl, 1, rfl, .inl ⟨by omega, ⟨Nat.le_refl _, Nat.le_refl _, by omega, by rw [htail]; rfl, by simp, fun k hk a b => by omega, by simp⟩⟩⟩ ?_ ?_ ?_
    · rintro k ⟨out, f0, i0⟩ hk ⟨e1, fr, e2, e3⟩
      simp only at e1 e2 e3
      subst e1 e2
      have hI : SpI p out fr (k + 1) := e3.resolve_right (fun h => by omega) |>.2
      obtain ⟨q1, q2, q3, q4, q5, q6, q7⟩ := hI
      simp only
      rw [if_pos (by omega)]
      by_cases hlt : k + 1 < p.length
      · rw [if_pos (by omega), idxO_get hlt]
        simp only [Option.bind_some]
        by_cases hc : (p[k + 1].toNat : Int) = 47
        · have hc' : p[k + 1] = 47 := by rw [← UInt8.toNat_inj]; show p[k + 1].toNat = 47; omega
          rw [if_pos hc, slcO_of q2 (by omega)]
          simp only [Option.bind_some, rName_eq]
          have hx : sp (p.drop fr) = btw p fr (k + 1) :: sp (p.drop (k + 1 + 1)) := by
            rw [btw_app q2 hlt, hc']
            exact sp_app _ fun c hc2 => by
              obtain ⟨j, hj, a, b, rfl⟩ := btw_mem hc2
              exact q6 j hj a b
          show _ ∨ _
          by_cases hn : isNm (btw p fr (k + 1)) = true
          · refine .inl ?_
            rw [show (p.take (k + 1)).drop fr = btw p fr (k + 1) from rfl, hn, if_neg (by decide)]
            rw [appO_of (by simp; omega)]
            simp only [Option.bind_some, Sum.elim_inl]
            rw [i64_id (by omega) (by omega)]
            refine ⟨_, rfl, ?_, k + 1 + 1, ?_, .inl ⟨by omega, ⟨by omega, Nat.le_refl _, by omega, ?_, ?_, fun j hj a b => by omega, by simp; omega⟩⟩⟩
            · simp only; omega
            · simp only; omega
            · simp only
              rw [q4, hx]
              show _ = (out ++ [btw p fr (k + 1)]) ++ _
              simp
            · intro y hy
              rcases List.mem_append.1 hy with hy | hy
              · exact q5 y hy
              · simp at hy; rw [hy]; exact hn
          · refine .inr ?_
            have hn' : isNm (btw p fr (k + 1)) = false := by simpa using hn
            rw [show (p.take (k + 1)).drop fr = btw p fr (k + 1) from rfl, hn', if_pos (show (!false) = true from rfl)]
            refine ⟨_, rfl, .inr ⟨rfl, ?_⟩⟩
            rw [hok, q4, hx]
            simp [hn']
        · rw [if_neg hc]
          simp only [Option.bind_some, Sum.elim_inl]
          rw [i64_id (by omega) (by omega)]
          refine .inl ⟨_, rfl, ?_, fr, rfl, .inl ⟨by omega, ⟨q1, by omega, by omega, q4, q5, fun j hj a b => ?_, q7⟩⟩⟩
          · simp only; omega
          · by_cases e : j = k + 1
            · subst e
              intro e2
              exact hc (by rw [e2]; rfl)
            · exact q6 j hj a (by omega)
      · have hkp : k + 1 = p.length := by omega
        rw [if_neg (by omega), slcO_of q2 (by omega)]
        simp only [Option.bind_some, rName_eq]
        have hx : sp (p.drop fr) = [btw p fr (k + 1)] := by
          rw [hkp, btw_end]
          refine sp_one fun c hc2 => ?_
          rw [← btw_end] at hc2
          obtain ⟨j, hj, a, b, rfl⟩ := btw_mem hc2
          exact q6 j hj a (by omega)
        by_cases hn : isNm (btw p fr (k + 1)) = true
        · refine .inl ?_
          rw [show (p.take (k + 1)).drop fr = btw p fr (k + 1) from rfl, hn, if_neg (by decide)]
          rw [appO_of (by simp; omega)]
          simp only [Option.bind_some, Sum.elim_inl]
          rw [i64_id (by omega) (by omega)]
          refine ⟨_, rfl, ?_, k + 1 + 1, ?_, .inr ⟨by omega, ?_, ?_⟩⟩
          · simp only; omega
          · simp only; omega
          · simp only
            rw [q4, hx]; try rfl
          · intro y hy
            rcases List.mem_append.1 hy with hy | hy
            · exact q5 y hy
            · simp at hy; rw [hy]; exact hn
        · refine .inr ?_
          have hn' : isNm (btw p fr (k + 1)) = false := by simpa using hn
          rw [show (p.take (k + 1)).drop fr = btw p fr (k + 1) from rfl, hn', if_pos (show (!false) = true from rfl)]
          refine ⟨_, rfl, .inr ⟨rfl, ?_⟩⟩
          rw [hok, q4, hx]
          simp [hn']
    · rintro ⟨out, f0, i0⟩ ⟨e1, fr, e2, e3⟩
      simp only at e1 e2 e3
      subst e1 e2
      obtain ⟨_, g1, g2⟩ := e3.resolve_left (fun h => by omega)
      simp only
      rw [if_neg (by omega)]
      exact ⟨_, rfl, .inl ⟨out, rfl, g1, g2⟩⟩
    · rintro _ (⟨out, rfl, g1, g2⟩ | ⟨rfl, g⟩)
      · have hk : okP p = true := by rw [hok, g1]; exact List.all_eq_true.2 g2
        simp only [Sum.elim_inl]
        unfold nmP
        rw [if_neg hr, if_pos hk, hk, g1]
      · simp only [Sum.elim_inr]
        exact hbad g
  · rw [if_neg h3]
    refine hbad ?_
    unfold okP
    rw [decide_eq_false hr, hhead]
    have : p[0] ≠ 47 := fun e => h3 (by rw [e]; rfl)
    simp [this]
theorem rJoin_eq (xs : List (List UInt8)) (h : (pth xs).length ≤ 100000) (hn : xs.length ≤ 100000) : m_triremeref09_Join xs = some (pth xs) := by
  unfold m_triremeref09_Join
  by_cases h0 : (xs.length : Int) = 0
  · rw [if_pos h0]
    have : xs = [] := List.eq_nil_of_length_eq_zero (by omega)
    rw [this]; rfl
  rw [if_neg h0]
  have hstep : ∀ i, i < xs.length → (rst (xs.take i)).length ≤ 100001 := fun i hi => by
    unfold rst
    split
    · simp
    · have := jn_take (xs := xs) i
      simp only [pth, List.length_cons] at h ⊢
      omega
  have hrst : ∀ i (hi : i < xs.length), rst (xs.take i) ++ 47 :: xs[i] = rst (xs.take (i + 1)) := fun i hi => by
    rw [List.take_succ_eq_append_getElem hi]
    unfold rst
    by_cases hz : xs.take i = []
    · rw [if_pos hz, if_neg (fun e => List.cons_ne_nil _ _ (List.append_eq_nil_iff.1 e).2), hz]; simp [pth, jn_one]
    · rw [if_neg hz, if_neg (fun e => List.cons_ne_nil _ _ (List.append_eq_nil_iff.1 e).2)]
      unfold pth
      rw [jn_app _ _ hz (by simp), jn_one]; simp
  refine bind_run (fun k (t : List UInt8 × Int) => t = (rst (xs.take k), (k : Int))) (fun r => r = pth xs) xs.length rfl ?_ ?_ ?_
  · rintro k _ hk rfl
    simp only
    have h1 := hstep k hk
    have h2 : (rst (xs.take (k + 1))).length ≤ 100001 := by
      by_cases e : k + 1 < xs.length
      · exact hstep _ e
      · rw [List.take_of_length_le (by omega)]
        unfold rst
        split
        · simp
        · omega
    have h3 := congrArg List.length (hrst k hk)
    simp only [List.length_append, List.length_cons] at h3
    rw [if_pos (by omega), idxO_get hk]
    simp only [Option.bind_some]
    rw [appO_byte (by simp; omega)]
    simp only [Option.bind_some]
    rw [appO_byte (by simp; omega)]
    simp only [Option.bind_some]
    rw [i64_id (by omega) (by omega)]
    refine .inl ⟨_, rfl, ?_⟩
    rw [← hrst k hk]; rfl
  · rintro _ rfl
    simp only
    rw [if_neg (by omega), List.take_length]
    refine ⟨_, rfl, ?_⟩
    unfold rst
    rw [if_neg (fun e => h0 (by rw [e]; rfl))]
  · rintro _ rfl; rfl
theorem rRight_eq (p : List UInt8) : m_triremeref09_Right p = some (okP p) := by
  unfold m_triremeref09_Right; rw [rSplit_eq]; rfl
theorem nmP_len24 (p : List UInt8) : (nmP p).length ≤ 25 ∧ (pth (nmP p)).length ≤ 25 := by
  by_cases h : okP p = true
  · have h1 := (okP_pth h).2.2
    have h2 := (okP_pth h).2.1
    have h3 := nmP_len p
    rw [← h2]; omega
  · rw [nmP_bad (by simpa using h)]; simp [pth, jn_nil]
theorem rParent_eq (p : List UInt8) : m_triremeref09_Parent p = some (par p) := by
  unfold m_triremeref09_Parent par
  rw [rSplit_eq p]
  simp only [Option.bind_some]
  obtain ⟨hl, hj⟩ := nmP_len24 p
  by_cases h0 : nmP p = []
  · rw [if_pos (by rw [h0]; rfl), if_pos h0]
  · have hp : 0 < (nmP p).length := List.length_pos_iff.2 h0
    rw [if_neg (by omega), if_neg h0, i64_id (by omega) (by omega)]
    rw [show ((nmP p).length : Int) - 1 = (((nmP p).length - 1 : Nat) : Int) by omega, show (0 : Int) = ((0 : Nat) : Int) from rfl, slcO_of (Nat.zero_le _) (by omega)]
    simp only [Option.bind_some, List.drop_zero]
    have ht : (nmP p).take ((nmP p).length - 1) = (nmP p).dropLast := by rw [List.dropLast_eq_take]
    have := jn_take (xs := nmP p) ((nmP p).length - 1)
    rw [ht] at this ⊢
    simp only [pth, List.length_cons] at hj
    rw [rJoin_eq _ (by simp only [pth, List.length_cons]; omega) (by simp; omega)]; rfl
theorem rBase_eq (p : List UInt8) : m_triremeref09_Base p = some (bas p) := by
  unfold m_triremeref09_Base bas
  rw [rSplit_eq p]
  simp only [Option.bind_some]
  obtain ⟨hl, hj⟩ := nmP_len24 p
  by_cases h0 : nmP p = []
  · rw [if_pos (by rw [h0]; rfl), h0]; rfl
  · have hp : 0 < (nmP p).length := List.length_pos_iff.2 h0
    rw [if_neg (by omega), i64_id (by omega) (by omega), show ((nmP p).length : Int) - 1 = (((nmP p).length - 1 : Nat) : Int) by omega, idxO_get (by omega)]
    simp only [Option.bind_some]
    rw [List.getLast?_eq_getElem?, List.getElem?_eq_getElem (by omega)]; rfl
theorem rWithin_eq (p q : List UInt8) : m_triremeref09_Within p q = some (wthn p q) := by
  unfold m_triremeref09_Within
  rw [rRight_eq, rRight_eq]
  simp only [Option.bind_some]
  by_cases hp : okP p = true
  · rw [if_neg (by rw [hp]; decide)]
    by_cases hq : okP q = true
    · rw [if_neg (by rw [hq]; decide)]
      obtain ⟨p1, p2, p3⟩ := okP_pth hp
      obtain ⟨q1, q2, q3⟩ := okP_pth hq
      by_cases hr : p = [47]
      · rw [if_pos hr]
        have : wthn p q = true := (wthn_iff hp).2 ⟨hq, nmP q, by rw [hr, nmP_root]; rfl⟩
        rw [this]
      rw [if_neg hr]
      by_cases he : p = q
      · rw [if_pos he]
        have : wthn p q = true := (wthn_iff hp).2 ⟨hq, [], by rw [he]; simp⟩
        rw [this]
      rw [if_neg he]
      have hkey : wthn p q = true ↔ ∃ r, q = p ++ 47 :: r := by
        rw [wthn_iff hp]
        constructor
        · rintro ⟨_, c, hc⟩
          have hcn : c ≠ [] := fun e => he (by rw [p2, q2, hc, e, List.append_nil])
          rw [hc, pth_app (nmP_ne hp hr) c, ← p2] at q2
          unfold rst at q2
          rw [if_neg hcn] at q2
          exact ⟨jn c, q2⟩
        · rintro ⟨r, hrr⟩
          refine ⟨hq, sp r, ?_⟩
          have h1 : sp q.tail = nmP q := by
            have hq47 : q ≠ [47] := fun e => by
              rw [e] at hrr
              have := congrArg List.length hrr
              simp at this
              have hp0 := congrArg List.length p2
              simp [pth] at hp0
              omega
            unfold nmP
            rw [if_neg hq47, if_pos hq]
          rw [← h1, hrr]
          have hp2 : p = 47 :: jn (nmP p) := p2
          rw [hp2]
          show sp (jn (nmP p) ++ 47 :: r) = _
          have h3 : jn (nmP p) ++ 47 :: r = jn (nmP p ++ sp r) := by rw [jn_app _ _ (nmP_ne hp hr) (sp_ne r), jn_sp]
          have h4 : ∀ x ∈ nmP p ++ sp r, ∀ c ∈ x, c ≠ 47 := fun x hx => by
            rcases List.mem_append.1 hx with hx | hx
            · exact p1.sl x hx
            · have hall : ∀ (r : List UInt8), ∀ x ∈ sp r, ∀ c ∈ x, c ≠ 47 := by
                intro r
                induction r with
                | nil => intro x hx; simp [sp] at hx; simp [hx]
                | cons c r ih =>
                  intro x hx
                  simp only [sp] at hx
                  split at hx
                  · rcases List.mem_cons.1 hx with rfl | hx
                    · simp
                    · exact ih x hx
                  · rename_i hc
                    split at hx
                    · rename_i h t e
                      rw [e] at ih
                      rcases List.mem_cons.1 hx with rfl | hx
                      · intro d hd
                        rcases List.mem_cons.1 hd with rfl | hd
                        · exact hc
                        · exact ih h List.mem_cons_self d hd
                      · exact ih x (List.mem_cons_of_mem _ hx)
                    · simp at hx; subst hx; intro d hd; simp at hd; rw [hd]; exact hc
              exact hall r x hx
          rw [h3, sp_jn (by simp [nmP_ne hp hr]) h4]
          have h5 : nmP (47 :: jn (nmP p)) = nmP p := by rw [← hp2]
          rw [h5]
      by_cases hlt : (p.length : Int) < (q.length : Int)
      · rw [if_pos hlt, show (0 : Int) = ((0 : Nat) : Int) from rfl, slcO_of (Nat.zero_le _) (by omega)]
        simp only [Option.bind_some, List.drop_zero]
        by_cases ht : q.take p.length = p
        · rw [if_pos ht, idxO_get (show p.length < q.length by omega)]
          simp only [Option.bind_some]
          have hsplit : q = p ++ q[p.length] :: q.drop (p.length + 1) := by
            conv => lhs; rw [← List.take_append_drop p.length q]
            rw [ht, List.drop_eq_getElem_cons (show p.length < q.length by omega)]
          congr 1
          by_cases hc : (q[p.length].toNat : Int) = 47
          · rw [decide_eq_true hc]
            have hc' : q[p.length] = 47 := by rw [← UInt8.toNat_inj]; show q[p.length].toNat = 47; omega
            exact (hkey.2 ⟨q.drop (p.length + 1), by rw [← hc']; exact hsplit⟩).symm
          · rw [decide_eq_false hc]
            cases hw : wthn p q with
            | false => rfl
            | true =>
              obtain ⟨r, hr2⟩ := hkey.1 hw
              refine absurd ?_ hc
              have : q[p.length]? = some 47 := by rw [hr2]; simp
              rw [List.getElem?_eq_getElem (show p.length < q.length by omega)] at this
              rw [Option.some.inj this]; rfl
        · rw [if_neg ht]
          cases hw : wthn p q with
          | false => rfl
          | true =>
            obtain ⟨r, hr2⟩ := hkey.1 hw
            exact absurd (by rw [hr2]; simp) ht
      · rw [if_neg hlt]
        cases hw : wthn p q with
        | false => rfl
        | true =>
          obtain ⟨r, hr2⟩ := hkey.1 hw
          have := congrArg List.length hr2
          simp at this; omega
    · have hq' : okP q = false := by simpa using hq
      rw [hq', if_pos (show (!false) = true from rfl)]
      unfold wthn
      rw [hq']; simp
  · have hp' : okP p = false := by simpa using hp
    rw [hp', if_pos (show (!false) = true from rfl)]
    unfold wthn
    rw [hp']; simp
end Go.Proofs.YtohmcgmmphpgoaaGreatDoor
