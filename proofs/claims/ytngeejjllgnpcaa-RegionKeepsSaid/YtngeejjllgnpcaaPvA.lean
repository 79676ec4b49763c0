/- The words of a small logic over the machine: what a slot, a local variable and a row of memory hold, told as plain data; and that it stays so while memory grows. -/
import Derived.Calls
import Derived.Orders
import Derived.Tactics
import Derived.Below
import Derived.KernelRfl
import Derived.WalkKit
namespace Go.Pv

inductive AV where
  | any
  | bool (b : Bool)
  | int (k : IntKind) (n : Int)
  | str (s : ByteArray)
  | nilp
  | nilS
  | nilM
  | ptr (id off : Nat)
  | rd (cells : List AV)
  | sl (xs : List (List AV))
  | own (id : Nat)
  | nilI
  | iface (t : TypeId) (v : AV)
  | nilF
  | fn (f : FuncId) (captured : List AV)
  | agg (cells : List AV)
  | tup (vs : List AV)
  | raw (v : Value)
  | eptr (id r c : Nat)

/-- blk: where a variable lies; own: what a row, or another thing of the call's own, is as a value; wd: how wide the elements of a row are; owner: whose a block is; top: up to where a block stands still. -/
structure G where
  blk : Nat → Option Nat
  own : Nat → Option Value
  wd : Nat → Nat
  owner : Nat → Option Nat
  top : Nat → Nat

def G.ofTop (top : Nat → Nat) : G := ⟨fun _ => none, fun _ => none, fun _ => 0, fun _ => none, top⟩

mutual
def Rep (w : World) (g : G) : AV → Value → Prop
  | .any, _ => True
  | .bool b, v => v = .bool b
  | .int k n, v => v = .int k n
  | .str s, v => v = .string s
  | .nilp, v => v = .pointer none
  | .nilS, v => v = .slice none 0 0
  | .nilM, v => v = .map none
  | .ptr id off, v => ∃ b, g.blk id = some b ∧ v = .pointer (some ⟨b, off, none⟩)
  | .rd cs, v => ∃ b o, v = .pointer (some ⟨b, o, none⟩) ∧ RepAt w g.top b o cs
  | .sl xs, v => ∃ a cap, v = .slice a xs.length cap ∧ xs.length ≤ cap ∧ (a = none → xs = []) ∧
      (∀ ad, a = some ad → (xs ≠ [] → ad.spot = none) ∧ RepRows w g.top ad.block ad.off xs)
  | .own id, v => g.own id = some v
  | .nilI, v => v = .nilIface
  | .iface t x, v => ∃ y, v = .iface t y ∧ Rep w g x y
  | .nilF, v => v = .nilFunc
  | .fn f cs, v => ∃ vs : List Value, v = .func (.func f) #[] vs.toArray ∧ RepL w g cs vs
  | .agg cs, v => ∃ vs : List Value, v = .agg vs.toArray ∧ RepL w g cs vs
  | .tup cs, v => ∃ vs : List Value, v = .tuple vs.toArray ∧ RepL w g cs vs
  | .raw u, v => v = u
  | .eptr id r c, v => ∃ ad l cap, g.own id = some (.slice (some ad) l cap) ∧ v = .pointer (some ⟨ad.block, ad.off + r * g.wd id + c, none⟩)
def RepAt (w : World) (top : Nat → Nat) (b o : Nat) : List AV → Prop
  | [] => True
  | x :: r => (o < top b ∧ ∃ v, w.cell? ⟨b, o, none⟩ = some v ∧ Rep w (G.ofTop top) x v) ∧ RepAt w top b (o + 1) r
def RepRows (w : World) (top : Nat → Nat) (b o : Nat) : List (List AV) → Prop
  | [] => True
  | x :: r => RepAt w top b o x ∧ RepRows w top b (o + x.length) r
def RepL (w : World) (g : G) : List AV → List Value → Prop
  | [], vs => vs = []
  | x :: r, vs => ∃ v vs', vs = v :: vs' ∧ Rep w g x v ∧ RepL w g r vs'
end

/-- What was told in one world is told in a later one: stable cells stand, variables lie where they lay. -/
structure MonoT (w : World) (top : Nat → Nat) (w' : World) (top' : Nat → Nat) : Prop where
  le : ∀ b, top b ≤ top' b
  cell : ∀ b o, o < top b → w'.cell? ⟨b, o, none⟩ = w.cell? ⟨b, o, none⟩

structure Mono (w : World) (g : G) (w' : World) (g' : G) : Prop where
  t : MonoT w g.top w' g'.top
  blk : ∀ id b, g.blk id = some b → g'.blk id = some b
  own : ∀ id v, g.own id = some v → g'.own id = some v
  wd : ∀ id v, g.own id = some v → g'.wd id = g.wd id

theorem MonoT.ofTop {w : World} {t : Nat → Nat} {w' : World} {t' : Nat → Nat} (h : MonoT w t w' t') : Mono w (G.ofTop t) w' (G.ofTop t') :=
  ⟨h, fun _ _ e => by simp [G.ofTop] at e, fun _ _ e => by simp [G.ofTop] at e, fun _ _ e => by simp [G.ofTop] at e⟩

mutual
theorem Rep.mono {w : World} {w' : World} : ∀ (x : AV) (v : Value) {g g' : G}, Mono w g w' g' → Rep w g x v → Rep w' g' x v
  | .any, _, _, _, _, _ => trivial
  | .bool _, _, _, _, _, r => r
  | .int _ _, _, _, _, _, r => r
  | .str _, _, _, _, _, r => r
  | .nilp, _, _, _, _, r => r
  | .nilS, _, _, _, _, r => r
  | .nilM, _, _, _, _, r => r
  | .ptr _ _, _, _, _, h, ⟨b, hb, e⟩ => ⟨b, h.blk _ _ hb, e⟩
  | .rd cs, _, _, _, h, ⟨b, o, e, r⟩ => ⟨b, o, e, RepAt.mono cs b o h.t r⟩
  | .sl xs, _, _, _, h, ⟨a, cap, e, hc, hn, hr⟩ => ⟨a, cap, e, hc, hn, fun ad ha => ⟨(hr ad ha).1, RepRows.mono xs _ _ h.t (hr ad ha).2⟩⟩
  | .own _, _, _, _, h, r => h.own _ _ r
  | .nilI, _, _, _, _, r => r
  | .iface _ x, _, _, _, h, ⟨y, e, r⟩ => ⟨y, e, Rep.mono x y h r⟩
  | .nilF, _, _, _, _, r => r
  | .fn _ cs, _, _, _, h, ⟨vs, e, r⟩ => ⟨vs, e, RepL.mono cs vs h r⟩
  | .agg cs, _, _, _, h, ⟨vs, e, r⟩ => ⟨vs, e, RepL.mono cs vs h r⟩
  | .tup cs, _, _, _, h, ⟨vs, e, r⟩ => ⟨vs, e, RepL.mono cs vs h r⟩
  | .raw _, _, _, _, _, r => r
  | .eptr _ _ _, _, _, _, h, ⟨ad, l, cap, e, r⟩ => ⟨ad, l, cap, h.own _ _ e, by rw [h.wd _ _ e]; exact r⟩
theorem RepAt.mono {w : World} {w' : World} : ∀ (cs : List AV) (b o : Nat) {t t' : Nat → Nat}, MonoT w t w' t' → RepAt w t b o cs → RepAt w' t' b o cs
  | [], _, _, _, _, _, _ => trivial
  | x :: cs, b, o, _, _, h, ⟨⟨ht, v, hv, r⟩, rest⟩ =>
    ⟨⟨Nat.lt_of_lt_of_le ht (h.le b), v, (h.cell b o ht).trans hv, Rep.mono x v h.ofTop r⟩, RepAt.mono cs b (o + 1) h rest⟩
theorem RepRows.mono {w : World} {w' : World} : ∀ (xs : List (List AV)) (b o : Nat) {t t' : Nat → Nat}, MonoT w t w' t' → RepRows w t b o xs → RepRows w' t' b o xs
  | [], _, _, _, _, _, _ => trivial
  | x :: xs, b, o, _, _, h, ⟨r, rest⟩ => ⟨RepAt.mono x b o h r, RepRows.mono xs b _ h rest⟩
theorem RepL.mono {w : World} {w' : World} : ∀ (cs : List AV) (vs : List Value) {g g' : G}, Mono w g w' g' → RepL w g cs vs → RepL w' g' cs vs
  | [], _, _, _, _, r => r
  | x :: cs, _, _, _, h, ⟨v, vs', e, r, rest⟩ => ⟨v, vs', e, Rep.mono x v h r, RepL.mono cs vs' h rest⟩
end

/-! ### rows -/

theorem RepAt.get {w : World} {t : Nat → Nat} {b : Nat} : ∀ {cs : List AV} {o i : Nat} {x : AV}, RepAt w t b o cs → cs[i]? = some x →
    o + i < t b ∧ ∃ v, w.cell? ⟨b, o + i, none⟩ = some v ∧ Rep w (G.ofTop t) x v
  | [], _, _, _, _, h => by simp at h
  | y :: cs, o, 0, x, h, hx => by
    simp at hx; subst hx; exact ⟨h.1.1, h.1.2⟩
  | y :: cs, o, i + 1, x, h, hx => by
    have := RepAt.get h.2 (i := i) (x := x) (by simpa using hx)
    rwa [Nat.add_assoc, Nat.add_comm 1 i] at this

theorem RepAt.drop {w : World} {t : Nat → Nat} {b : Nat} : ∀ {cs : List AV} {o : Nat} (k : Nat), RepAt w t b o cs → RepAt w t b (o + k) (cs.drop k)
  | cs, o, 0, h => by simpa using h
  | [], o, k + 1, h => by simp [RepAt]
  | y :: cs, o, k + 1, h => by
    have := RepAt.drop k h.2
    rw [Nat.add_assoc, Nat.add_comm 1 k] at this
    simpa using this

theorem RepAt.take {w : World} {t : Nat → Nat} {b : Nat} : ∀ {cs : List AV} {o : Nat} (k : Nat), RepAt w t b o cs → RepAt w t b o (cs.take k)
  | cs, o, 0, h => by simp [RepAt]
  | [], o, k + 1, h => by simp [RepAt]
  | y :: cs, o, k + 1, h => by
    simp only [List.take_succ_cons]
    exact ⟨h.1, RepAt.take k h.2⟩

theorem RepAt.append {w : World} {t : Nat → Nat} {b : Nat} : ∀ {cs ds : List AV} {o : Nat}, RepAt w t b o cs → RepAt w t b (o + cs.length) ds → RepAt w t b o (cs ++ ds)
  | [], ds, o, _, h => by simpa using h
  | y :: cs, ds, o, h, k => by
    refine ⟨h.1, RepAt.append h.2 ?_⟩
    simpa [Nat.add_assoc, Nat.add_comm 1] using k

theorem RepRows.append {w : World} {t : Nat → Nat} {b : Nat} : ∀ {xs ys : List (List AV)} {o : Nat}, RepRows w t b o xs → RepRows w t b (o + xs.flatten.length) ys →
    RepRows w t b o (xs ++ ys)
  | [], ys, o, _, h => by simpa using h
  | x :: xs, ys, o, h, k => by
    refine ⟨h.1, RepRows.append h.2 ?_⟩
    simpa [Nat.add_assoc] using k

theorem RepRows.flat {w : World} {t : Nat → Nat} {b : Nat} : ∀ {xs : List (List AV)} {o : Nat}, RepRows w t b o xs → RepAt w t b o xs.flatten
  | [], _, _ => trivial
  | x :: xs, o, h => by
    simp only [List.flatten_cons]
    exact RepAt.append h.1 (RepRows.flat h.2)

theorem RepRows.of_flat {w : World} {t : Nat → Nat} {b : Nat} : ∀ {xs : List (List AV)} {o : Nat}, RepAt w t b o xs.flatten → RepRows w t b o xs
  | [], _, _ => trivial
  | x :: xs, o, h => by
    simp only [List.flatten_cons] at h
    refine ⟨?_, RepRows.of_flat ?_⟩
    · have := RepAt.take x.length h
      simpa using this
    · have := RepAt.drop x.length h
      simpa using this

/-- Rows of one width. -/
def Wide (n : Nat) (xs : List (List AV)) : Prop := ∀ r ∈ xs, r.length = n

theorem Wide.flatten_length {n : Nat} : ∀ {xs : List (List AV)}, Wide n xs → xs.flatten.length = xs.length * n
  | [], _ => by simp
  | x :: xs, h => by
    have h1 : x.length = n := h x (by simp)
    have h2 : xs.flatten.length = xs.length * n := Wide.flatten_length (fun r hr => h r (by simp [hr]))
    simp only [List.flatten_cons, List.length_append, List.length_cons, h1, h2, Nat.add_mul, Nat.one_mul]
    omega

theorem RepRows.get {w : World} {t : Nat → Nat} {b n : Nat} : ∀ {xs : List (List AV)} {o i : Nat} {x : List AV}, Wide n xs → RepRows w t b o xs → xs[i]? = some x →
    RepAt w t b (o + i * n) x
  | [], _, _, _, _, _, h => by simp at h
  | y :: xs, o, 0, x, _, h, hx => by
    simp at hx; subst hx; simpa using h.1
  | y :: xs, o, i + 1, x, hw, h, hx => by
    have h1 : y.length = n := hw y (by simp)
    have := RepRows.get (n := n) (fun r hr => hw r (by simp [hr])) h.2 (i := i) (x := x) (by simpa using hx)
    rw [h1] at this
    rwa [Nat.add_mul, Nat.one_mul, Nat.add_comm (i * n), ← Nat.add_assoc]

theorem RepRows.drop {w : World} {t : Nat → Nat} {b n : Nat} : ∀ {xs : List (List AV)} {o : Nat} (k : Nat), Wide n xs → RepRows w t b o xs → k ≤ xs.length →
    RepRows w t b (o + k * n) (xs.drop k)
  | xs, o, 0, _, h, _ => by simpa using h
  | [], o, k + 1, _, h, hk => by simp at hk
  | y :: xs, o, k + 1, hw, h, hk => by
    have h1 : y.length = n := hw y (by simp)
    have := RepRows.drop k (fun r hr => hw r (by simp [hr])) h.2 (by simpa using hk)
    rw [h1] at this
    simp only [List.drop_succ_cons]
    rwa [Nat.add_mul, Nat.one_mul, Nat.add_comm (k * n), ← Nat.add_assoc]

theorem RepRows.take {w : World} {t : Nat → Nat} {b : Nat} : ∀ {xs : List (List AV)} {o : Nat} (k : Nat), RepRows w t b o xs → RepRows w t b o (xs.take k)
  | xs, o, 0, h => by simp [RepRows]
  | [], o, k + 1, h => by simp [RepRows]
  | y :: xs, o, k + 1, h => by
    simp only [List.take_succ_cons]
    exact ⟨h.1, RepRows.take k h.2⟩

theorem RepL.get {w : World} {g : G} : ∀ {cs : List AV} {vs : List Value} {i : Nat} {x : AV}, RepL w g cs vs → cs[i]? = some x → ∃ v, vs[i]? = some v ∧ Rep w g x v
  | [], _, _, _, _, h => by simp at h
  | y :: cs, _, 0, x, ⟨v, vs', e, r, rest⟩, h => by
    simp at h; subst h; subst e; exact ⟨v, by simp, r⟩
  | y :: cs, _, i + 1, x, ⟨v, vs', e, r, rest⟩, h => by
    subst e
    obtain ⟨u, hu, ru⟩ := RepL.get rest (i := i) (x := x) (by simpa using h)
    exact ⟨u, by simpa using hu, ru⟩

theorem RepL.length {w : World} {g : G} : ∀ {cs : List AV} {vs : List Value}, RepL w g cs vs → vs.length = cs.length
  | [], _, h => by simp [RepL] at h; simp [h]
  | _ :: cs, _, ⟨v, vs', e, _, rest⟩ => by subst e; simp [RepL.length rest]

theorem RepL.drop {w : World} {g : G} : ∀ {cs : List AV} {vs : List Value} (k : Nat), RepL w g cs vs → RepL w g (cs.drop k) (vs.drop k)
  | _, _, 0, h => by simpa using h
  | [], _, k + 1, h => by simp [RepL] at h; simp [RepL, h]
  | _ :: cs, _, k + 1, ⟨v, vs', e, _, rest⟩ => by subst e; simpa using RepL.drop k rest

theorem RepL.take {w : World} {g : G} : ∀ {cs : List AV} {vs : List Value} (k : Nat), RepL w g cs vs → RepL w g (cs.take k) (vs.take k)
  | _, _, 0, _ => by simp [RepL]
  | [], _, k + 1, h => by simp [RepL] at h; simp [RepL, h]
  | _ :: cs, _, k + 1, ⟨v, vs', e, r, rest⟩ => by subst e; simp only [List.take_succ_cons]; exact ⟨v, vs'.take k, rfl, r, RepL.take k rest⟩

theorem RepL.append {w : World} {g : G} : ∀ {cs ds : List AV} {vs us : List Value}, RepL w g cs vs → RepL w g ds us → RepL w g (cs ++ ds) (vs ++ us)
  | [], _, _, _, h, k => by simp [RepL] at h; simpa [h] using k
  | _ :: cs, _, _, _, ⟨v, vs', e, r, rest⟩, k => by subst e; exact ⟨v, vs' ++ _, rfl, r, RepL.append rest k⟩

theorem RepL.set {w : World} {g : G} : ∀ {cs : List AV} {vs : List Value} {i : Nat} {x : AV} {v : Value}, RepL w g cs vs → Rep w g x v → RepL w g (cs.set i x) (vs.set i v)
  | [], _, _, _, _, h, _ => by simp [RepL] at h; simp [RepL, h]
  | _ :: cs, _, 0, _, _, ⟨v, vs', e, r, rest⟩, k => by subst e; exact ⟨_, vs', rfl, k, rest⟩
  | _ :: cs, _, i + 1, _, _, ⟨v, vs', e, r, rest⟩, k => by subst e; exact ⟨v, _, rfl, r, RepL.set rest k⟩

end Go.Pv
