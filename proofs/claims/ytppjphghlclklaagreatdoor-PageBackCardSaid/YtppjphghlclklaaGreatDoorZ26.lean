/- Parts of a proof, laid together by a program of this session (slim.py). -/
import Derived.Test.YtppjphghlclklaaGreatDoorZ23
set_option maxHeartbeats 8000000
set_option maxRecDepth 100000
section
namespace Go.Proofs.YtppjphghlclklaaGreatDoor.P
open Go.RowKit Go.Proofs.YtppjphghlclklaaGreatDoorW.PrintWords Go.Proofs.YtppjphghlclklaaGreatDoorW.PrintLast Go.Proofs.YtppjphghlclklaaGreatDoorW.PrintMore
set_option linter.unusedVariables false
set_option linter.unusedSimpArgs false
theorem ByteL.one {x : Int} (h0 : 0 ≤ x) (h1 : x < 256) : ByteL [x] := fun y hy => by
 rw [List.mem_singleton.1 hy]
 exact ⟨h0, h1⟩
theorem ByteL.nil : ByteL [] := fun y hy => by simp at hy
theorem cellBy_byte (p : Nat) (x : It) (h1 : it1 x = true) (h2 : it2 x = true) (hb : ByteIt x) : ByteL (cellBy p x) := by
 obtain ⟨⟨a1, a2, a3, a4⟩, a5, a6⟩ := it12 h1 h2
 unfold cellBy
 rw [tagI_of a3 a4]
 refine (((vB_byte _ _).append (hb.1.drop _)).append (vB_byte _ _)).append ?_
 by_cases c : x.f2 > 512
 · rw [if_pos c]
   exact leB_byte _ _
 · rw [if_neg c]
   exact hb.2
theorem cellsL_byte (p : Nat) : ∀ (l : List It), (∀ x ∈ l, it1 x = true ∧ it2 x = true ∧ ByteIt x) → ByteL (cellsL p l)
 | [], h => ByteL.nil
 | y :: l, h => by
  have e : cellsL p (y :: l) = cellBy p y ++ cellsL p l := by simp [cellsL]
  obtain ⟨y1, y2, y3⟩ := h y (List.mem_cons_self ..)
  rw [e]
  exact (cellBy_byte p y y1 y2 y3).append (cellsL_byte p l (fun x hx => h x (List.mem_cons_of_mem _ hx)))
theorem slotsL_byte (p : Nat) : ∀ (l : List It) (a : Nat), ByteL (slotsL p a l)
 | [], a => ByteL.nil
 | y :: l, a => (leB_byte _ _).append (slotsL_byte p l _)
theorem leaf_byte {l : List It} {b : List Int} (hb : ∀ x ∈ l, ByteIt x) (h : encLeafR l = (b, 0)) : ByteL b := by
 unfold encLeafR at h
 by_cases c1 : mayR l = 0
 · rw [if_pos c1] at h
   by_cases c2 : sizeL l ≤ 4092
   · rw [if_pos c2] at h
     obtain ⟨hbb, _⟩ := Prod.mk.inj h
     obtain ⟨m0, m1, m2, m3⟩ := mayR_zero c1
     rw [← hbb]
     unfold leafBody topL
     refine ((((((ByteL.one (by decide) (by decide)).append (leB_byte _ _)).append (vB_byte _ _)).append ?_).append (slotsL_byte _ _ _)).append (cellsL_byte _ _ (fun x hx => ⟨List.all_eq_true.1 m1 x hx, List.all_eq_true.1 m2 x hx, hb x hx⟩))).append (zs_byte _)
     refine ByteL.take ?_ _
     match l, hb with
     | [], _ => exact ByteL.nil
     | y :: l, hb => exact (hb y (List.mem_cons_self ..)).1
   · rw [if_neg c2] at h
     exact absurd (Prod.mk.inj h).2 (by decide)
 · rw [if_neg c1] at h
   exact absurd (Prod.mk.inj h).2 c1
theorem branch_byte {lv : Int} {seps : List (List Int)} {kids : List Kid} {b : List Int} (hb : ∀ x ∈ seps, ByteL x) (h : encBranchR lv seps kids = (b, 0)) : ByteL b := by
 unfold encBranchR at h
 by_cases c1 : wrongR lv seps kids = 0
 · rw [if_pos c1] at h
   obtain ⟨w1, w2, _⟩ := wrongR_zero c1
   rw [← (Prod.mk.inj h).1]
   exact branchBody_byte _ _ _ (by omega) (by omega) hb
 · rw [if_neg c1] at h
   exact absurd (Prod.mk.inj h).2 c1
theorem listBytes_byte : ∀ (l : List Int), ByteL (listBytes l)
 | [] => ByteL.nil
 | y :: l => by
  have e : listBytes (y :: l) = leB 4 (y % 4294967296) ++ listBytes l := by simp [listBytes]
  rw [e]
  exact (leB_byte _ _).append (listBytes_byte l)
theorem chain_byte {k next n : Int} {d : List Int} (hk0 : 0 ≤ k) (hk1 : k < 256) (hd : ByteL d) (z : Nat) : ByteL (chainHead k next n ++ d ++ zs z) := by
 unfold chainHead
 exact ((((ByteL.one hk0 hk1).append (leB_byte _ _)).append (leB_byte _ _)).append hd).append (zs_byte _)
theorem data_byte {next : Int} {d b : List Int} (hd : ByteL d) (h : encDataR next d = (b, 0)) : ByteL b := by
 unfold encDataR at h
 by_cases c1 : nextB next = true
 · rw [if_pos c1] at h
   by_cases c2 : dataB next d.length = true
   · rw [if_pos c2] at h
     rw [← (Prod.mk.inj h).1]
     exact chain_byte (by decide) (by decide) hd _
   · rw [if_neg c2] at h
     exact absurd (Prod.mk.inj h).2 (by decide)
 · rw [if_neg c1] at h
   exact absurd (Prod.mk.inj h).2 (by decide)
theorem list_byte {next : Int} {d b : List Int} (h : encListR next d = (b, 0)) : ByteL b := by
 unfold encListR at h
 by_cases c1 : nextB next = true
 · rw [if_pos c1] at h
   by_cases c2 : listB next d = true
   · rw [if_pos c2] at h
     rw [← (Prod.mk.inj h).1]
     exact chain_byte (by decide) (by decide) (listBytes_byte _) _
   · rw [if_neg c2] at h
     exact absurd (Prod.mk.inj h).2 (by decide)
 · rw [if_neg c1] at h
   exact absurd (Prod.mk.inj h).2 (by decide)
theorem meta_byte {x : Hd7} {b : List Int} (h : encHd x = (b, 0)) : ByteL b := by
 unfold encHd encMetaR at h
 by_cases c1 : mayB x.v x.c x.r x.h x.k x.f x.n = true
 · rw [if_pos c1] at h
   rw [← (Prod.mk.inj h).1]
   unfold headBytes
   have hm1 : ByteL metaBegin := fun x hx => by
    simp only [metaBegin, List.mem_cons, List.not_mem_nil, or_false] at hx
    omega
   have hm2 : ByteL metaEnd := fun x hx => by
    simp only [metaEnd, List.mem_cons, List.not_mem_nil, or_false] at hx
    omega
   exact ((((((((hm1.append (leB_byte _ _)).append (leB_byte _ _)).append (leB_byte _ _)).append (leB_byte _ _)).append (leB_byte _ _)).append (leB_byte _ _)).append (leB_byte _ _)).append (zs_byte _)).append hm2
 · rw [if_neg c1] at h
   exact absurd (Prod.mk.inj h).2 (by decide)
theorem enc_byte {p : Pg} {c : List Int} (hb : ByteP p) (h : encPageR p = (c, 0)) : ByteL c := by
 unfold encPageR at h
 by_cases c0 : p.kind < 1 ∨ 5 < p.kind
 · rw [if_pos c0] at h
   exact absurd (Prod.mk.inj h).2 (by decide)
 rw [if_neg c0] at h
 by_cases c1 : bareB p = true
 rotate_left
 · rw [if_neg c1] at h
   exact absurd (Prod.mk.inj h).2 (by decide)
 rw [if_pos c1] at h
 by_cases c2 : (bodyR p).2 = 0
 rotate_left
 · rw [if_neg c2] at h
   exact absurd (Prod.mk.inj h).2 c2
 rw [if_pos c2] at h
 rw [← (Prod.mk.inj h).1]
 obtain ⟨b, hbb⟩ : ∃ b, (bodyR p).1 = b := ⟨_, rfl⟩
 have hbr : bodyR p = (b, 0) := by rw [← hbb, ← c2]
 rw [hbb]
 obtain ⟨b1, b2, b3⟩ := hb
 have hx : ByteL b := by
  unfold bodyR at hbr
  by_cases k1 : p.kind = 1
  · rw [if_pos k1] at hbr
    exact leaf_byte b1 hbr
  rw [if_neg k1] at hbr
  by_cases k2 : p.kind = 2
  · rw [if_pos k2] at hbr
    exact branch_byte b2 hbr
  rw [if_neg k2] at hbr
  by_cases k3 : p.kind = 3
  · rw [if_pos k3] at hbr
    exact data_byte b3 hbr
  rw [if_neg k3] at hbr
  by_cases k4 : p.kind = 4
  · rw [if_pos k4] at hbr
    exact list_byte hbr
  rw [if_neg k4] at hbr
  exact meta_byte hbr
 unfold sealR markOf
 refine hx.append (fun y hy => ?_)
 simp only [List.mem_cons, List.not_mem_nil, or_false] at hy
 omega
theorem enc_same {p q : Pg} {c d : List Int} (hsp : SmallP p) (hsq : SmallP q) (hbp : ByteP p) (hbq : ByteP q) (hp : encPageR p = (c, 0)) (hq : encPageR q = (d, 0)) {r : Bool} (hr : r = true ↔ p = q) : eqStr c d = r := by
 rw [Bool.eq_iff_iff, hr]
 constructor
 · intro h
   have e := eqStr_of (enc_byte hbp hp) (enc_byte hbq hq) h
   have h1 := (page_back hsp hp).1
   have h2 := (page_back hsq hq).1
   rw [e, h2] at h1
   exact (Prod.mk.inj h1).1.symm
 · intro e
   rw [e, hq] at hp
   rw [← (Prod.mk.inj hp).1]
   exact eqStr_self _
end Go.Proofs.YtppjphghlclklaaGreatDoor.P
end
