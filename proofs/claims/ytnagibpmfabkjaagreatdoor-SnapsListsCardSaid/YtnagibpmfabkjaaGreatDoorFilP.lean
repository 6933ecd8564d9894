/- Plain: what is written as pairs is read again. -/
import Derived.Test.YtnagibpmfabkjaaGreatDoorFil
set_option linter.unusedSimpArgs false
set_option linter.unusedVariables false
namespace Go.Proofs.YtnagibpmfabkjaaGreatDoor
open Go.RowKit Go.Tri
def len2 (n : Nat) : List UInt8 := [u8 ((n / 256 ^ 1 % 256 : Nat) : Int), u8 ((n / 256 ^ 0 % 256 : Nat) : Int)]
theorem cloneB_eq (s : List UInt8) (h : s.length ≤ 274877906944) : cloneB s = some s := by
  unfold cloneB; rw [appO_of (by simp; omega)]; rfl
theorem penRaw_eq (p b : List UInt8) (h : p.length + b.length ≤ 274877906944) : penRaw p b = some (p ++ b) := by
  unfold penRaw; rw [appO_of h]; rfl
theorem foldl_app {α β : Type} (g : β → α) : ∀ (l : List β) (s : List α), l.foldl (fun s i => s ++ [g i]) s = s ++ l.map g
  | [], s => by simp
  | b :: l, s => by simp [foldl_app g l]
theorem penUint2 (p : List UInt8) (n : Nat) (hn : n ≤ 470) (hp : p.length ≤ 600) : penUint p (n : Int) 2 = some (0, p ++ len2 n) := by
  unfold penUint
  rw [if_neg (by omega), if_neg (by omega), if_pos (by omega)]
  rw [show IntKind.i64.wrap (8 * 2) = ((16 : Nat) : Int) from rfl, show IntKind.i64.wrap (2 - 1) = ((2 : Nat) : Int) - 1 from rfl]
  have hsh : shrO .u64 (n : Int) ((16 : Nat) : Int) = some (shrI .u64 (n : Int) ((16 : Nat) : Int)) := by unfold shrO; rw [if_pos (by omega)]
  rw [hsh]
  simp only [Option.bind_some]
  rw [shrI_nat .u64 _ _ (by show 16 ≤ 64; omega), if_neg (by have : n / 2 ^ 16 = 0 := Nat.div_eq_of_lt (by omega); omega)]
  rw [loop_down (fun (k : Nat) (s : List UInt8) => s ++ [u8 ((n / 256 ^ k % 256 : Nat) : Int)]) (fun s => s) (fun (k : Nat) (s : List UInt8) => k ≤ 8 ∧ s.length ≤ 10000 - k) ?hs2 ?he2 2 _ ⟨by omega, by omega⟩]
  case he2 => intro s _; rw [if_neg (by omega)]
  case hs2 =>
    intro k s ⟨hk, hl⟩
    refine ⟨?_, by omega, by simp; omega⟩
    rw [if_pos (by omega)]
    have h8 : IntKind.i64.wrap (8 * (k : Int)) = ((8 * k : Nat) : Int) := by rw [i64_id (by omega) (by omega)]; omega
    rw [h8]
    have hsh : shrO .u64 (n : Int) ((8 * k : Nat) : Int) = some (shrI .u64 (n : Int) ((8 * k : Nat) : Int)) := by unfold shrO; rw [if_pos (by omega)]
    rw [hsh]
    simp only [Option.bind_some]
    have hw : IntKind.u8.wrap (shrI .u64 (n : Int) ((8 * k : Nat) : Int)) = ((n / 256 ^ k % 256 : Nat) : Int) := by
      rw [shrI_nat .u64 _ _ (by show 8 * k ≤ 64; omega), wrap_u8', Nat.pow_mul]; rfl
    rw [hw, u8O_of (by omega) (by omega)]
    simp only [Option.bind_some]
    rw [appO_of (by simp; omega)]
    simp only [Option.bind_some]
    rw [i64_id (by omega) (by omega)]
  simp only [Option.bind_some]
  rw [foldl_app (fun k => u8 ((n / 256 ^ k % 256 : Nat) : Int))]
  rfl
/-- The pairs of a file's pieces. -/
def chk (p : List UInt8) : Nat → List (List UInt8) → List P2
  | _, [] => []
  | i, c :: cs => (99 :: (p ++ [0, u8 (i : Int)]), c) :: chk p (i + 1) cs
abbrev Ent := List UInt8 × (Bool × List UInt8)
def encE (x : Ent) : List P2 := if x.2.1 = true then [(110 :: x.1, [100])] else (110 :: x.1, 102 :: len2 x.2.2.length) :: chk x.1 0 (chunkL 64 x.2.2)
def prs2 (l : List Ent) : List P2 := sortPairs (l.flatMap encE)
theorem chunkL_len {γ : Type} (xs : List γ) (n : Nat) : (chunkL n xs).length = chunkC n xs.length := by simp [chunkL, chunkZ]
theorem chunkC_le {len : Nat} (h : len ≤ 192) : chunkC 64 len ≤ 3 := by
  unfold chunkC
  have := (Nat.div_lt_iff_lt_mul (k := 64) (by omega) (x := len + 64 - 1) (y := 4)).2 (by omega)
  omega
theorem chk_len (p : List UInt8) : ∀ (i : Nat) (cs : List (List UInt8)), (chk p i cs).length = cs.length
  | _, [] => rfl
  | i, c :: cs => by simp [chk, chk_len p (i + 1) cs]
theorem encE_len {x : Ent} (h : x.2.2.length ≤ 192) : (encE x).length ≤ 4 := by
  unfold encE
  split
  · simp
  · have := chunkC_le h
    simp only [List.length_cons, chk_len, chunkL_len]; omega
theorem chk_snd (p : List UInt8) : ∀ (i : Nat) (cs : List (List UInt8)), (chk p i cs).map (·.2) = cs
  | _, [] => rfl
  | i, c :: cs => by simp [chk, chk_snd p (i + 1) cs]
theorem chk_mem {p : List UInt8} : ∀ {i : Nat} {cs : List (List UInt8)} {x : P2}, x ∈ chk p i cs → ∃ j, i ≤ j ∧ j < i + cs.length ∧ x.1 = 99 :: (p ++ [0, u8 (j : Int)])
  | _, [], x, h => by cases h
  | i, c :: cs, x, h => by
    rcases List.mem_cons.1 h with rfl | h
    · exact ⟨i, Nat.le_refl _, by simp, rfl⟩
    · obtain ⟨j, h1, h2, h3⟩ := chk_mem h
      exact ⟨j, by omega, by simp at h2 ⊢; omega, h3⟩
theorem cmp_app : ∀ p a b : List UInt8, Lib.compareBytes (p ++ a) (p ++ b) = Lib.compareBytes a b
  | [], _, _ => rfl
  | c :: p, a, b => by simp [Lib.compareBytes, cmp_app p a b]
theorem u8_lt {i j : Nat} (h : i < j) (hj : j < 256) : u8 (i : Int) < u8 (j : Int) := by
  rw [UInt8.lt_iff_toNat_lt]
  unfold u8
  simp
  omega
theorem chk_lt {p : List UInt8} : ∀ {i : Nat} {cs : List (List UInt8)}, i + cs.length ≤ 256 → (chk p i cs).Pairwise ltP
  | _, [], _ => List.Pairwise.nil
  | i, c :: cs, h => by
    refine List.pairwise_cons.2 ⟨fun x hx => ?_, chk_lt (by simp at h; omega)⟩
    obtain ⟨j, h1, h2, h3⟩ := chk_mem hx
    simp only [List.length_cons] at h
    unfold ltP ltK
    rw [h3]
    show Lib.compareBytes ((99 :: p) ++ [0, u8 (i : Int)]) ((99 :: p) ++ [0, u8 (j : Int)]) < 0
    rw [cmp_app]
    simp only [Lib.compareBytes]
    rw [if_neg (by decide), if_neg (by decide), if_pos (u8_lt (by omega) (by omega))]
    omega
theorem ltP_ne {a b : P2} (h : ltP a b) : a.1 ≠ b.1 := fun e => by unfold ltP ltK at h; rw [e, cmp_self] at h; omega
theorem enc_key {e : Ent} {x : P2} (h : x ∈ encE e) : x.1 = 110 :: e.1 ∨ ∃ c, x.1 = 99 :: (e.1 ++ [0, c]) := by
  unfold encE at h
  split at h
  · simp at h; exact .inl (by rw [h])
  · rcases List.mem_cons.1 h with rfl | h
    · exact .inl rfl
    · obtain ⟨j, _, _, h3⟩ := chk_mem h
      exact .inr ⟨_, h3⟩
theorem enc_same {e e' : Ent} {x y : P2} (h : x ∈ encE e) (h' : y ∈ encE e') (hk : x.1 = y.1) : e.1 = e'.1 := by
  rcases enc_key h with h1 | ⟨c, h1⟩
  · rcases enc_key h' with h2 | ⟨c', h2⟩
    · rw [h1, h2] at hk; injection hk
    · rw [h1, h2] at hk; injection hk with hk; exact absurd hk (by decide)
  · rcases enc_key h' with h2 | ⟨c', h2⟩
    · rw [h1, h2] at hk; injection hk with hk; exact absurd hk (by decide)
    · rw [h1, h2] at hk
      injection hk with _ hk
      have := congrArg List.length hk
      exact (List.append_inj hk (by simpa using this)).1
theorem enc_nodup {l : List Ent} (hn : (l.map (·.1)).Nodup) (hb : ∀ x ∈ l, x.2.2.length ≤ 192) : ((l.flatMap encE).map (·.1)).Nodup := by
  rw [List.nodup_iff_pairwise_ne, List.pairwise_map, List.pairwise_flatMap]
  rw [List.nodup_iff_pairwise_ne, List.pairwise_map] at hn
  refine ⟨fun e he => ?_, hn.imp fun {a b} h x hx y hy e => h (enc_same hx hy e)⟩
  unfold encE
  split
  · simp
  · refine List.pairwise_cons.2 ⟨fun x hx e2 => ?_, (chk_lt ?_).imp fun h => ltP_ne h⟩
    · obtain ⟨j, _, _, h3⟩ := chk_mem hx
      rw [h3] at e2
      injection e2 with e2; exact absurd e2 (by decide)
    · have := chunkC_le (hb e he)
      rw [chunkL_len]; omega
theorem flat_len {l : List Ent} (hb : ∀ x ∈ l, x.2.2.length ≤ 192) : (l.flatMap encE).length ≤ 4 * l.length := by
  induction l with
  | nil => simp
  | cons x l ih =>
    have h1 := encE_len (hb x List.mem_cons_self)
    have h2 := ih fun y hy => hb y (List.mem_cons_of_mem _ hy)
    simp only [List.flatMap_cons, List.length_append, List.length_cons]; omega
theorem prs2_perm {l l' : List Ent} (hn : (l.map (·.1)).Nodup) (hb : ∀ x ∈ l, x.2.2.length ≤ 192) (hp : l'.Perm l) : prs2 l' = prs2 l := by
  have h1 : (l'.flatMap encE).Perm (l.flatMap encE) := hp.flatMap_right encE
  have hn' : (l'.map (·.1)).Nodup := (hp.map _).nodup_iff.2 hn
  have hb' : ∀ x ∈ l', x.2.2.length ≤ 192 := fun x hx => hb x (hp.mem_iff.1 hx)
  refine pairs_same (sortPairs_strict (enc_nodup hn' hb')) (sortPairs_strict (enc_nodup hn hb)) fun k => ?_
  exact (List.mergeSort_perm _ leP).mem_iff.trans (h1.mem_iff.trans (List.mergeSort_perm _ leP).mem_iff.symm)
theorem chk_fold (p : List UInt8) (hp : p.length ≤ 100000) {f : Int × List P2 → List UInt8 → Option ((Int × List P2) ⊕ Empty)} (hf : ∀ (i : Nat) (out : List P2) c, i < 200 → out.length ≤ 100000000 → c.length ≤ 1000 → f ((i : Int), out) c = some (.inl (((i + 1 : Nat) : Int), out ++ [(99 :: (p ++ [0, u8 (i : Int)]), c)]))) :
    ∀ (cs : List (List UInt8)) (i : Nat) (out : List P2), i + cs.length ≤ 200 → out.length + cs.length ≤ 100000000 → (∀ c ∈ cs, c.length ≤ 1000) → foldO f ((i : Int), out) cs = some (.inl (((i + cs.length : Nat) : Int), out ++ chk p i cs))
  | [], i, out, _, _, _ => by simp [foldO, chk]
  | c :: cs, i, out, h1, h2, h3 => by
    simp only [List.length_cons] at h1 h2
    show (f ((i : Int), out) c).bind _ = _
    rw [hf i out c (by omega) (by omega) (h3 c List.mem_cons_self)]
    show foldO f (((i + 1 : Nat) : Int), out ++ [(99 :: (p ++ [0, u8 (i : Int)]), c)]) cs = _
    rw [chk_fold p hp hf cs (i + 1) _ (by omega) (by simp; omega) fun d hd => h3 d (List.mem_cons_of_mem _ hd)]
    simp only [chk, List.length_cons, List.append_assoc, List.cons_append, List.nil_append]
    congr 4; omega
theorem chunk_mem_len {xs : List UInt8} {c : List UInt8} (h : c ∈ chunkL 64 xs) : c.length ≤ 64 := by
  unfold chunkL chunkZ at h
  rw [List.map_map] at h
  obtain ⟨k, _, rfl⟩ := List.mem_map.1 h
  simp; omega
set_option maxHeartbeats 1000000 in
theorem sPairs_eq {s : FS} {l : List Ent} (hE : Enum s l) (hl : l.length ≤ 1000000) (hb : ∀ x ∈ l, x.1.length ≤ 100000 ∧ x.2.2.length ≤ 192) : sPairs s = some (prs2 l) := by
  unfold sPairs
  refine detM_of hE fun l' hE' => ?_
  have hp : l'.Perm l := hE'.perm hE
  have hb' : ∀ x ∈ l', x.1.length ≤ 100000 ∧ x.2.2.length ≤ 192 := fun x hx => hb x (hp.mem_iff.1 hx)
  have hl' : l'.length ≤ 1000000 := by rw [hp.length_eq]; exact hl
  rw [(foldO_inv (fun (out : List P2) (x : Ent) => out ++ encE x) (fun pre out => out = pre.flatMap encE) l' l' [] [] rfl rfl ?_).1]
  · simp only [Option.bind_some, Sum.elim_inl]
    have : l'.foldl (fun (out : List P2) (x : Ent) => out ++ encE x) [] = l'.flatMap encE := by
      have key : ∀ (l' : List Ent) (o : List P2), l'.foldl (fun (out : List P2) (x : Ent) => out ++ encE x) o = o ++ l'.flatMap encE := by
        intro l'
        induction l' with
        | nil => intro o; simp
        | cons x l' ih => intro o; simp [ih]
      simpa using key l' []
    rw [this]
    unfold sortPs sortPO
    rw [if_pos ⟨enc_nodup hE'.1 fun x hx => (hb' x hx).2, by have := flat_len (l := l') fun x hx => (hb' x hx).2; omega⟩]
    simp only [Option.bind_some]
    congr 1
    exact prs2_perm hE.1 (fun x hx => (hb x hx).2) hp
  · rintro pre ⟨p, b, d⟩ post out hpp rfl
    refine ⟨?_, by simp⟩
    obtain ⟨hp1, hd1⟩ := hb' (p, b, d) (by rw [← hpp]; simp)
    simp only at hp1 hd1
    have hol : (pre.flatMap encE).length ≤ 4000000 := by
      have h1 := flat_len (l := pre) fun x hx => (hb' x (by rw [← hpp]; exact List.mem_append_left _ hx)).2
      have h2 := congrArg List.length hpp
      simp at h2; omega
    generalize pre.flatMap encE = out at hol ⊢
    simp only
    rw [appO_byte (by simp; omega)]
    simp only [Option.bind_some, List.cons_append, List.nil_append]
    cases b with
    | true =>
      simp only [if_true, encE]
      rw [show u8O 100 = some 100 from rfl]
      simp only [Option.bind_some]
      rw [appO_of (by simp; omega)]
      rfl
    | false =>
      simp only [encE]
      rw [show u8O 102 = some 102 from rfl]
      simp only [Option.bind_some, Bool.false_eq_true, if_false]
      rw [penRaw_eq _ _ (by simp)]
      simp only [Option.bind_some, List.nil_append]
      rw [u64_id (by omega) (by omega), penUint2 _ _ (by omega) (by simp)]
      simp only [Option.bind_some]
      unfold penData
      rw [cloneB_eq _ (by simp [len2])]
      simp only [Option.bind_some]
      rw [appO_of (by simp; omega)]
      simp only [Option.bind_some]
      have hcn : chunkN 64 d.length = some 64 := by unfold chunkN; rw [if_pos ⟨by omega, by omega, by omega⟩]; rfl
      rw [hcn]
      simp only [Option.bind_some]
      have hcl := chunkC_le hd1
      refine (congrArg (fun o => Option.bind (Option.bind o _) _) (chk_fold p hp1 (fun i o c hi ho hc => ?_) (chunkL 64 d) 0 (out ++ [(110 :: p, [102] ++ len2 d.length)]) (by rw [chunkL_len]; omega) (by simp [chunkL_len]; omega) fun c hc => by have := chunk_mem_len hc; omega)).trans ?_
      · simp only
        rw [appO_byte (by simp; omega)]
        simp only [Option.bind_some]
        rw [show u8O 0 = some 0 from rfl, wrap_u8', show ((i : Int) % 256) = (i : Int) by omega, u8O_of (by omega) (by omega)]
        simp only [Option.bind_some]
        rw [appO_byte (by simp; omega)]
        simp only [Option.bind_some]
        rw [cloneB_eq _ (by omega)]
        simp only [Option.bind_some]
        rw [appO_of (by simp; omega)]
        simp only [Option.bind_some]
        rw [i64_id (by omega) (by omega)]
        simp
      · simp
end Go.Proofs.YtnagibpmfabkjaaGreatDoor
