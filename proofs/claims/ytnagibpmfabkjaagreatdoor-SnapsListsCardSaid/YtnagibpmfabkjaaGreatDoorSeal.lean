/- Calls in a sealed world: what they make is new; pieces that are lent. -/
import Derived.Test.YtnagibpmfabkjaaGreatDoorOp
set_option linter.unusedSimpArgs false
set_option linter.unusedVariables false
namespace Go.Tri
open Go.RowKit
/-- What stays, from the block n on. -/
def Base.ge (B : Base) (n : Nat) : Base := fun b => if n ≤ b then B b else none
theorem Base.ge_mono {B B' : Base} (h : B.le B') (n : Nat) : (B.ge n).le (B'.ge n) := fun b o hb => by
  unfold Base.ge at hb ⊢
  split at hb
  · rename_i hn; rw [if_pos hn]; exact h b o hb
  · cases hb
section
variable {α : Type} {R : Rp α} {w0 w w' : World} {l : List HP} {p : Option Addr} {cap n0 : Nat} {xs : List α} {e : TypeId}
/-- A slice that stays, all of it in memory from the block n0 on. -/
def HP.nsl (n0 : Nat) (R : Rp α) (p : Option Addr) (cap : Nat) (xs : List α) : HP :=
  HP.pe (fun B => (HP.sl R p cap xs).pr (B.ge n0) default (fun _ => False) ∧ (0 < xs.length → ∃ b cur e, p = some ⟨b, 0, none⟩ ∧ (B.ge n0) b = some (.cells cur e (0, 0)) ∧ xs.length ≤ maxLen))
    (fun h hl => ⟨HP.mono (HP.sl R p cap xs) h.1 (Base.ge_mono hl n0), fun h0 => by obtain ⟨b, cur, e, h1, h2, h3⟩ := h.2 h0; exact ⟨b, cur, e, h1, Base.ge_mono hl n0 _ _ h2, h3⟩⟩)
def rSlN (n0 : Nat) (R : Rp α) : Rp (List α) := ⟨1, fun B cs xs => ∃ p cap, cs = [.slice p xs.length cap] ∧ (HP.nsl n0 R p cap xs).pr B default (fun _ => False), fun ⟨p, cap, h, k⟩ hl => ⟨p, cap, h, HP.mono _ k hl⟩, fun ⟨p, cap, h, k⟩ => by rw [h]; rfl, fun ⟨p, cap, h, k⟩ => by rw [h]; intro v hv; simp at hv; subst hv; rfl⟩
/-- What is known of a world in which all stays. -/
def Sealed (w : World) (L : List HP) : Prop := ∀ A ∈ L, A.pr (baseOf w) w (fun _ => False)
theorem Sealed.st {L : List HP} (h : Sealed w L) : St w w L := St.start0 w L h
end
section
variable {κ β : Type} [DecidableEq κ] {w0 w w' : World} {l : List HP} {p : Option Nat} {ek : κ → Value} {agg : Bool} {R R' : Rp β} {ok : κ → Prop} {m : κ → Option β}
theorem EsOk.conv {B B' : Base} {es : List (κ × (List Value × β))} (hR : ∀ {cs : List Value} {x : β}, R.rd B cs x → R'.rd B' cs x) (h : EsOk R ok B es m) : EsOk R' ok B' es m := ⟨h.nodup, h.ok, fun p hp => hR (h.rd p hp), h.get⟩
end
section
variable {α : Type} {R R' : Rp α} {B B' : Base} {n0 : Nat}
/-- Pairs of texts, in new memory. -/
abbrev rP2 : Rp (List UInt8 × List UInt8) := rPair (rSl rByte) (rSl rByte)
abbrev rP2N (n0 : Nat) : Rp (List UInt8 × List UInt8) := rPair (rSlN n0 rByte) (rSlN n0 rByte)
end
section
variable {w0 w w' : World} {l : List HP} {p : Option Addr} {cap n0 : Nat} {xs : List (List UInt8 × List UInt8)}
/-- Pairs that are one's own with all that they reach. -/
def HP.box (p : Option Addr) (cap : Nat) (xs : List (List UInt8 × List UInt8)) : HP :=
  HP.of (fun _ w S => ∃ B : Base, (∀ b o, B b = some o → S b ∧ w.heap[b]? = some o) ∧ (HP.nsl 0 (rP2N 0) p cap xs).pr B default (fun _ => False))
    (fun ⟨B, h1, h2⟩ hS => ⟨B, fun b o hb => ⟨(h1 b o hb).1, by rw [hS b (h1 b o hb).1]; exact (h1 b o hb).2⟩, h2⟩)
    (fun h _ => h)
end
end Go.Tri
