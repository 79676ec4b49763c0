/- The texts of a proof, put together by a program of this session's; names are short for the size's sake. -/
import Derived.Calls
import Derived.Orders
import Derived.Tactics
import Derived.Below
import Derived.KernelRfl
import Derived.WalkKit
import Derived.MapKept
import Derived.WideLaws
import Derived.Laws.CopyRow
namespace Go.Pv
theorem Z {α : Sort _} {a : α} : a = a := rfl
theorem Kd {α β : Type _} (a : α) (f : α → Option β) : (some a).bind f = f a := Option.bind_some a f
theorem Ke {α : Type _} {a b : α} (h : some a = some b) : a = b := Option.some.inj h
end Go.Pv
namespace Go.Pv
inductive Jf where
 | view (lo n : Nat)
inductive AV where
 | any
 | bool (b : Bool)
 | int (k : IntKind) (n : Int)
 | str (s : ByteArray)
 | nilp
 | nilS
 | nilM
 | ptr (id off : Nat)
 | rd (cells : List AV)
 | sl (xs : List (List AV))
 | own (id : Nat)
 | nilI
 | iface (t : TypeId) (v : AV)
 | nilF
 | fn (f : FuncId) (captured : List AV)
 | bfn (f : FuncId) (bound : List AV)
 | agg (cells : List AV)
 | tup (vs : List AV)
 | raw (v : Value)
 | eptr (id r c : Nat)
 | via (id : Nat) (k : Jf)
 | err (t : TypeId) (e : Option Int)
def Js (t : TypeId) : Option Int → Value
 | none => .nilIface
 | some n => .iface t (.int .i64 n)
structure G where
 blk : Nat → Option Nat
 own : Nat → Option Value
 wd : Nat → Nat
 owner : Nat → Option Nat
 top : Nat → Nat
def G.ofTop (top : Nat → Nat) : G := ⟨fun _ => none, fun _ => none, fun _ => 0, fun _ => none, top⟩
def Jf.rel : Jf → Nat → Value → Value → Prop
 | .view lo n, z, u, v => ∃ ad l cap, u = .slice (some ad) l cap ∧ lo + n ≤ cap ∧ v = .slice (some (if cap = lo then ad else ⟨ad.block, ad.off + lo * z, none⟩)) n (cap - lo)
mutual
def bU (w : World) (g : G) : AV → Value → Prop
 | .any, _ => True
 | .bool b, v => v = .bool b
 | .int k n, v => v = .int k n
 | .str s, v => v = .string s
 | .nilp, v => v = .pointer none
 | .nilS, v => v = .slice none 0 0
 | .nilM, v => v = .map none
 | .ptr id off, v => ∃ b, g.blk id = some b ∧ v = .pointer (some ⟨b, off, none⟩)
 | .rd cs, v => ∃ b o, v = .pointer (some ⟨b, o, none⟩) ∧ cq w g.top b o cs
 | .sl xs, v => ∃ a cap, v = .slice a xs.length cap ∧ xs.length ≤ cap ∧ (a = none → xs = []) ∧
  (∀ ad, a = some ad → (xs ≠ [] → ad.spot = none) ∧ bk w g.top ad.block ad.off xs)
 | .own id, v => g.own id = some v
 | .nilI, v => v = .nilIface
 | .err t e, v => v = Js t e
 | .iface t x, v => ∃ y, v = .iface t y ∧ bU w g x y
 | .nilF, v => v = .nilFunc
 | .fn f cs, v => ∃ vs : List Value, v = .func (.func f) #[] vs.toArray ∧ aG w g cs vs
 | .bfn f cs, v => ∃ vs : List Value, v = .func (.func f) vs.toArray #[] ∧ aG w g cs vs
 | .agg cs, v => ∃ vs : List Value, v = .agg vs.toArray ∧ aG w g cs vs
 | .tup cs, v => ∃ vs : List Value, v = .tuple vs.toArray ∧ aG w g cs vs
 | .raw u, v => v = u
 | .eptr id r c, v => ∃ ad l cap, g.own id = some (.slice (some ad) l cap) ∧ v = .pointer (some ⟨ad.block, ad.off + r * g.wd id + c, none⟩)
 | .via id k, v => ∃ u, g.own id = some u ∧ k.rel (g.wd id) u v ∧ v.oneCell' = true
def cq (w : World) (top : Nat → Nat) (b o : Nat) : List AV → Prop
 | [] => True
 | x :: r => (o < top b ∧ ∃ v, w.cell? ⟨b, o, none⟩ = some v ∧ bU w (G.ofTop top) x v) ∧ cq w top b (o + 1) r
def bk (w : World) (top : Nat → Nat) (b o : Nat) : List (List AV) → Prop
 | [] => True
 | x :: r => cq w top b o x ∧ bk w top b (o + x.length) r
def aG (w : World) (g : G) : List AV → List Value → Prop
 | [], vs => vs = []
 | x :: r, vs => ∃ v vs', vs = v :: vs' ∧ bU w g x v ∧ aG w g r vs'
end
structure pB (w : World) (top : Nat → Nat) (w' : World) (top' : Nat → Nat) : Prop where
 le : ∀ b, top b ≤ top' b
 cell : ∀ b o, o < top b → w'.cell? ⟨b, o, none⟩ = w.cell? ⟨b, o, none⟩
structure gC (w : World) (g : G) (w' : World) (g' : G) : Prop where
 t : pB w g.top w' g'.top
 blk : ∀ id b, g.blk id = some b → g'.blk id = some b
 own : ∀ id v, g.own id = some v → g'.own id = some v
 wd : ∀ id v, g.own id = some v → g'.wd id = g.wd id
def GL (o : Obj) : Prop := ∃ cs t fr v, o = .cells cs t fr ∧ cs[0]? = some v ∧ (v = .nilIface ∨ ∃ te pe, v = .iface te pe)
def Jk (k : IntKind) (zs : List Int) (o : Obj) : Prop := ∃ t fr, o = .cells (zs.map fun z => Value.int k z).toArray t fr
def In : List (Nat × (Obj → Prop)) :=
 [(1, GL), (2, GL), (3, Jk .u64 [1, 10, 100, 1000, 10000, 100000, 1000000, 10000000, 100000000, 1000000000, 10000000000, 100000000000, 1000000000000, 10000000000000, 100000000000000, 1000000000000000, 10000000000000000, 100000000000000000, 1000000000000000000, 10000000000000000000])]
def g8 (w : World) (g : G) : Prop := ∀ p ∈ In, g.owner p.1 = none ∧ ∃ o, w.heap[p.1]? = some o ∧ p.2 o
theorem g8.top {w : World} {g : G} (h : g8 w g) (t : Nat → Nat) : g8 w (G.ofTop t) := fun p hp => ⟨rfl, (h p hp).2⟩
theorem g8.owner {w : World} {g g' : G} (h : g8 w g) (k : ∀ b, g.owner b = none → g'.owner b = none) : g8 w g' := fun p hp => ⟨k _ (h p hp).1, (h p hp).2⟩
theorem pB.ofTop {w : World} {t : Nat → Nat} {w' : World} {t' : Nat → Nat} (h : pB w t w' t') : gC w (G.ofTop t) w' (G.ofTop t') :=
 ⟨h, fun _ _ e => by simp [G.ofTop] at e, fun _ _ e => by simp [G.ofTop] at e, fun _ _ e => by simp [G.ofTop] at e⟩
mutual
theorem bU.mono {w : World} {w' : World} : ∀ (x : AV) (v : Value) {g g' : G}, gC w g w' g' → bU w g x v → bU w' g' x v
 | .any, _, _, _, _, _ => trivial
 | .bool _, _, _, _, _, r => r
 | .int _ _, _, _, _, _, r => r
 | .str _, _, _, _, _, r => r
 | .nilp, _, _, _, _, r => r
 | .nilS, _, _, _, _, r => r
 | .nilM, _, _, _, _, r => r
 | .ptr _ _, _, _, _, h, ⟨b, hb, e⟩ => ⟨b, h.blk _ _ hb, e⟩
 | .rd cs, _, _, _, h, ⟨b, o, e, r⟩ => ⟨b, o, e, cq.mono cs b o h.t r⟩
 | .sl xs, _, _, _, h, ⟨a, cap, e, hc, hn, hr⟩ => ⟨a, cap, e, hc, hn, fun ad ha => ⟨(hr ad ha).1, bk.mono xs _ _ h.t (hr ad ha).2⟩⟩
 | .own _, _, _, _, h, r => h.own _ _ r
 | .nilI, _, _, _, _, r => r
 | .err _ _, _, _, _, _, r => r
 | .iface _ x, _, _, _, h, ⟨y, e, r⟩ => ⟨y, e, bU.mono x y h r⟩
 | .nilF, _, _, _, _, r => r
 | .fn _ cs, _, _, _, h, ⟨vs, e, r⟩ => ⟨vs, e, aG.mono cs vs h r⟩
 | .bfn _ cs, _, _, _, h, ⟨vs, e, r⟩ => ⟨vs, e, aG.mono cs vs h r⟩
 | .agg cs, _, _, _, h, ⟨vs, e, r⟩ => ⟨vs, e, aG.mono cs vs h r⟩
 | .tup cs, _, _, _, h, ⟨vs, e, r⟩ => ⟨vs, e, aG.mono cs vs h r⟩
 | .raw _, _, _, _, _, r => r
 | .eptr _ _ _, _, _, _, h, ⟨ad, l, cap, e, r⟩ => ⟨ad, l, cap, h.own _ _ e, by rw [h.wd _ _ e]; exact r⟩
 | .via _ _, _, _, _, h, ⟨u, e, r⟩ => ⟨u, h.own _ _ e, by rw [h.wd _ _ e]; exact r⟩
theorem cq.mono {w : World} {w' : World} : ∀ (cs : List AV) (b o : Nat) {t t' : Nat → Nat}, pB w t w' t' → cq w t b o cs → cq w' t' b o cs
 | [], _, _, _, _, _, _ => trivial
 | x :: cs, b, o, _, _, h, ⟨⟨ht, v, hv, r⟩, rest⟩ =>
  ⟨⟨Nat.lt_of_lt_of_le ht (h.le b), v, (h.cell b o ht).trans hv, bU.mono x v h.ofTop r⟩, cq.mono cs b (o + 1) h rest⟩
theorem bk.mono {w : World} {w' : World} : ∀ (xs : List (List AV)) (b o : Nat) {t t' : Nat → Nat}, pB w t w' t' → bk w t b o xs → bk w' t' b o xs
 | [], _, _, _, _, _, _ => trivial
 | x :: xs, b, o, _, _, h, ⟨r, rest⟩ => ⟨cq.mono x b o h r, bk.mono xs b _ h rest⟩
theorem aG.mono {w : World} {w' : World} : ∀ (cs : List AV) (vs : List Value) {g g' : G}, gC w g w' g' → aG w g cs vs → aG w' g' cs vs
 | [], _, _, _, _, r => r
 | x :: cs, _, _, _, h, ⟨v, vs', e, r, rest⟩ => ⟨v, vs', e, bU.mono x v h r, aG.mono cs vs' h rest⟩
end
theorem cq.get {w : World} {t : Nat → Nat} {b : Nat} : ∀ {cs : List AV} {o i : Nat} {x : AV}, cq w t b o cs → cs[i]? = some x →
  o + i < t b ∧ ∃ v, w.cell? ⟨b, o + i, none⟩ = some v ∧ bU w (G.ofTop t) x v
 | [], _, _, _, _, h => by simp at h
 | y :: cs, o, 0, x, h, hx => by
  simp at hx; subst hx; exact ⟨h.1.1, h.1.2⟩
 | y :: cs, o, i + 1, x, h, hx => by
  have := cq.get h.2 (i := i) (x := x) (by simpa using hx)
  rwa [Nat.add_assoc, Nat.add_comm 1 i] at this
theorem cq.drop {w : World} {t : Nat → Nat} {b : Nat} : ∀ {cs : List AV} {o : Nat} (k : Nat), cq w t b o cs → cq w t b (o + k) (cs.drop k)
 | cs, o, 0, h => by simpa using h
 | [], o, k + 1, h => by simp [cq]
 | y :: cs, o, k + 1, h => by
  have := cq.drop k h.2
  rw [Nat.add_assoc, Nat.add_comm 1 k] at this
  simpa using this
theorem cq.take {w : World} {t : Nat → Nat} {b : Nat} : ∀ {cs : List AV} {o : Nat} (k : Nat), cq w t b o cs → cq w t b o (cs.take k)
 | cs, o, 0, h => by simp [cq]
 | [], o, k + 1, h => by simp [cq]
 | y :: cs, o, k + 1, h => by
  simp only [List.take_succ_cons]
  exact ⟨h.1, cq.take k h.2⟩
theorem cq.append {w : World} {t : Nat → Nat} {b : Nat} : ∀ {cs ds : List AV} {o : Nat}, cq w t b o cs → cq w t b (o + cs.length) ds → cq w t b o (cs ++ ds)
 | [], ds, o, _, h => by simpa using h
 | y :: cs, ds, o, h, k => by
  refine ⟨h.1, cq.append h.2 ?_⟩
  simpa [Nat.add_assoc, Nat.add_comm 1] using k
theorem bk.append {w : World} {t : Nat → Nat} {b : Nat} : ∀ {xs ys : List (List AV)} {o : Nat}, bk w t b o xs → bk w t b (o + xs.flatten.length) ys →
  bk w t b o (xs ++ ys)
 | [], ys, o, _, h => by simpa using h
 | x :: xs, ys, o, h, k => by
  refine ⟨h.1, bk.append h.2 ?_⟩
  simpa [Nat.add_assoc] using k
theorem bk.flat {w : World} {t : Nat → Nat} {b : Nat} : ∀ {xs : List (List AV)} {o : Nat}, bk w t b o xs → cq w t b o xs.flatten
 | [], _, _ => trivial
 | x :: xs, o, h => by
  simp only [List.flatten_cons]
  exact cq.append h.1 (bk.flat h.2)
theorem bk.of_flat {w : World} {t : Nat → Nat} {b : Nat} : ∀ {xs : List (List AV)} {o : Nat}, cq w t b o xs.flatten → bk w t b o xs
 | [], _, _ => trivial
 | x :: xs, o, h => by
  simp only [List.flatten_cons] at h
  refine ⟨?_, bk.of_flat ?_⟩
  ·
   have := cq.take x.length h
   simpa using this
  ·
   have := cq.drop x.length h
   simpa using this
def eB (n : Nat) (xs : List (List AV)) : Prop := ∀ r ∈ xs, r.length = n
theorem eB.flatten_length {n : Nat} : ∀ {xs : List (List AV)}, eB n xs → xs.flatten.length = xs.length * n
 | [], _ => by simp
 | x :: xs, h => by
  have h1 : x.length = n := h x (by simp)
  have h2 : xs.flatten.length = xs.length * n := eB.flatten_length (fun r hr => h r (by simp [hr]))
  simp only [List.flatten_cons, List.length_append, List.length_cons, h1, h2, Nat.add_mul, Nat.one_mul]
  omega
theorem bk.get {w : World} {t : Nat → Nat} {b n : Nat} : ∀ {xs : List (List AV)} {o i : Nat} {x : List AV}, eB n xs → bk w t b o xs → xs[i]? = some x →
  cq w t b (o + i * n) x
 | [], _, _, _, _, _, h => by simp at h
 | y :: xs, o, 0, x, _, h, hx => by
  simp at hx; subst hx; simpa using h.1
 | y :: xs, o, i + 1, x, hw, h, hx => by
  have h1 : y.length = n := hw y (by simp)
  have := bk.get (n := n) (fun r hr => hw r (by simp [hr])) h.2 (i := i) (x := x) (by simpa using hx)
  rw [h1] at this
  rwa [Nat.add_mul, Nat.one_mul, Nat.add_comm (i * n), ← Nat.add_assoc]
theorem bk.drop {w : World} {t : Nat → Nat} {b n : Nat} : ∀ {xs : List (List AV)} {o : Nat} (k : Nat), eB n xs → bk w t b o xs → k ≤ xs.length →
  bk w t b (o + k * n) (xs.drop k)
 | xs, o, 0, _, h, _ => by simpa using h
 | [], o, k + 1, _, h, hk => by simp at hk
 | y :: xs, o, k + 1, hw, h, hk => by
  have h1 : y.length = n := hw y (by simp)
  have := bk.drop k (fun r hr => hw r (by simp [hr])) h.2 (by simpa using hk)
  rw [h1] at this
  simp only [List.drop_succ_cons]
  rwa [Nat.add_mul, Nat.one_mul, Nat.add_comm (k * n), ← Nat.add_assoc]
theorem bk.take {w : World} {t : Nat → Nat} {b : Nat} : ∀ {xs : List (List AV)} {o : Nat} (k : Nat), bk w t b o xs → bk w t b o (xs.take k)
 | xs, o, 0, h => by simp [bk]
 | [], o, k + 1, h => by simp [bk]
 | y :: xs, o, k + 1, h => by
  simp only [List.take_succ_cons]
  exact ⟨h.1, bk.take k h.2⟩
theorem aG.get {w : World} {g : G} : ∀ {cs : List AV} {vs : List Value} {i : Nat} {x : AV}, aG w g cs vs → cs[i]? = some x → ∃ v, vs[i]? = some v ∧ bU w g x v
 | [], _, _, _, _, h => by simp at h
 | y :: cs, _, 0, x, ⟨v, vs', e, r, rest⟩, h => by
  simp at h; subst h; subst e; exact ⟨v, by simp, r⟩
 | y :: cs, _, i + 1, x, ⟨v, vs', e, r, rest⟩, h => by
  subst e
  obtain ⟨u, hu, ru⟩ := aG.get rest (i := i) (x := x) (by simpa using h)
  exact ⟨u, by simpa using hu, ru⟩
theorem aG.length {w : World} {g : G} : ∀ {cs : List AV} {vs : List Value}, aG w g cs vs → vs.length = cs.length
 | [], _, h => by simp [aG] at h; simp [h]
 | _ :: cs, _, ⟨v, vs', e, _, rest⟩ => by subst e; simp [aG.length rest]
theorem aG.drop {w : World} {g : G} : ∀ {cs : List AV} {vs : List Value} (k : Nat), aG w g cs vs → aG w g (cs.drop k) (vs.drop k)
 | _, _, 0, h => by simpa using h
 | [], _, k + 1, h => by simp [aG] at h; simp [aG, h]
 | _ :: cs, _, k + 1, ⟨v, vs', e, _, rest⟩ => by subst e; simpa using aG.drop k rest
theorem aG.take {w : World} {g : G} : ∀ {cs : List AV} {vs : List Value} (k : Nat), aG w g cs vs → aG w g (cs.take k) (vs.take k)
 | _, _, 0, _ => by simp [aG]
 | [], _, k + 1, h => by simp [aG] at h; simp [aG, h]
 | _ :: cs, _, k + 1, ⟨v, vs', e, r, rest⟩ => by subst e; simp only [List.take_succ_cons]; exact ⟨v, vs'.take k, rfl, r, aG.take k rest⟩
theorem aG.append {w : World} {g : G} : ∀ {cs ds : List AV} {vs us : List Value}, aG w g cs vs → aG w g ds us → aG w g (cs ++ ds) (vs ++ us)
 | [], _, _, _, h, k => by simp [aG] at h; simpa [h] using k
 | _ :: cs, _, _, _, ⟨v, vs', e, r, rest⟩, k => by subst e; exact ⟨v, vs' ++ _, rfl, r, aG.append rest k⟩
theorem aG.set {w : World} {g : G} : ∀ {cs : List AV} {vs : List Value} {i : Nat} {x : AV} {v : Value}, aG w g cs vs → bU w g x v → aG w g (cs.set i x) (vs.set i v)
 | [], _, _, _, _, h, _ => by simp [aG] at h; simp [aG, h]
 | _ :: cs, _, 0, _, _, ⟨v, vs', e, r, rest⟩, k => by subst e; exact ⟨_, vs', rfl, k, rest⟩
 | _ :: cs, _, i + 1, _, _, ⟨v, vs', e, r, rest⟩, k => by subst e; exact ⟨v, _, rfl, r, aG.set rest k⟩
end Go.Pv
namespace Go.Pv
open Go.RowKit (Below)
structure H0 where
 p : World → (Nat → Nat) → (Nat → Prop) → Value → Prop
 keep : ∀ {w t B v w' t'}, p w t B v → (∀ b, B b → w'.heap[b]? = w.heap[b]? ∧ t' b = t b) → pB w t w' t' → p w' t' B v
inductive Kind where
 | row (z : Nat) (xs : List (List AV))
 | wr (z : Nat) (xs : List (List AV))
 | map (ks vs : List AV)
 | sem (s : H0)
def mM (id : Nat) (w : World) (g : G) (ad : Addr) (n : Nat) : Prop :=
 ad.spot = none ∧ g.owner ad.block = some id ∧ ∃ c e fr, w.heap[ad.block]? = some (.cells c e fr) ∧ ad.off + n ≤ c.size ∧ (fr = (0, 0) ∨ c.size ≤ fr.1)
def Kind.holds (id : Nat) (w : World) (g : G) : Kind → Prop
 | .row z xs => eB z xs ∧ g.wd id = z ∧ ∃ a cap, g.own id = some (.slice a xs.length cap) ∧ xs.length ≤ cap ∧ (a = none → xs = [] ∧ cap = 0) ∧
  ∀ ad, a = some ad → (xs ≠ [] → ad.spot = none) ∧ bk w g.top ad.block ad.off xs ∧ (cap = xs.length ∨ (mM id w g ad (cap * z) ∧ g.top ad.block = ad.off + xs.length * z))
 | .wr z xs => eB z xs ∧ g.wd id = z ∧ ∃ a cap, g.own id = some (.slice a xs.length cap) ∧ xs.length ≤ cap ∧ (a = none → xs = [] ∧ cap = 0) ∧
  ∀ ad, a = some ad → mM id w g ad (cap * z) ∧ g.top ad.block ≤ ad.off ∧ ∃ vs, aG w g xs.flatten vs ∧ ∀ j v, vs[j]? = some v → w.cell? ⟨ad.block, ad.off + j, none⟩ = some v
 | .map ks vs => ∃ b es clock, g.own id = some (.map (some b)) ∧ g.owner b = some id ∧ g.top b = 0 ∧ w.heap[b]? = some (.map es clock) ∧ Go.MapKept.Stamped es clock ∧ ∃ l : List MapEntry, l.Perm es.toList ∧ aG w g ks (l.map (·.key)) ∧ aG w g vs (l.map (·.val))
 | .sem s => ∃ v, g.own id = some v ∧ s.p w g.top (fun b => g.owner b = some id) v
structure F7 (id : Nat) (w : World) (g : G) (w' : World) (g' : G) : Prop where
 m : gC w g w' g'
 blk : ∀ b, g.owner b = some id → w'.heap[b]? = w.heap[b]? ∧ g'.owner b = some id ∧ g'.top b = g.top b
 conv : ∀ b, g'.owner b = some id → g.owner b = some id
theorem jJ {w w' : World} {b o : Nat} (h : w'.heap[b]? = w.heap[b]?) : w'.cell? ⟨b, o, none⟩ = w.cell? ⟨b, o, none⟩ := by simp only [World.cell?, h]
theorem tt {w : World} {b o : Nat} {c : Array Value} {e : TypeId} {fr : Nat × Nat} (h : w.heap[b]? = some (.cells c e fr)) (hf : fr = (0, 0) ∨ c.size ≤ fr.1) (ho : o < c.size) : w.frozen? ⟨b, o, none⟩ = false := by
 simp only [World.frozen?, h]
 rcases hf with rfl | hf
 · simp
 ·
  obtain ⟨f1, f2⟩ := fr
  simp only at hf
  have : ¬ f1 ≤ o := by omega
  simp [this]
theorem mM.keep {id : Nat} {w : World} {g : G} {w' : World} {g' : G} {ad : Addr} {n : Nat} (h : mM id w g ad n) (k : F7 id w g w' g') : mM id w' g' ad n := by
 obtain ⟨h1, h2, c, e, fr, h3, h4, h5⟩ := h
 obtain ⟨k1, k2, k3⟩ := k.blk _ h2
 exact ⟨h1, k2, c, e, fr, by rw [k1]; exact h3, h4, h5⟩
theorem Kind.keep {id : Nat} {w : World} {g : G} {w' : World} {g' : G} {K : Kind} (h : K.holds id w g) (k : F7 id w g w' g') : K.holds id w' g' := by
 cases K with
 | row z xs =>
  obtain ⟨h1, h0, a, cap, h2, h3, h4, h5⟩ := h
  refine ⟨h1, by rw [k.m.wd _ _ h2]; exact h0, a, cap, k.m.own _ _ h2, h3, h4, fun ad e => ?_⟩
  obtain ⟨q1, q2, q3⟩ := h5 ad e
  refine ⟨q1, bk.mono _ _ _ k.m.t q2, q3.imp _root_.id fun ⟨o, t⟩ => ⟨o.keep k, ?_⟩⟩
  rw [(k.blk _ o.2.1).2.2]; exact t
 | wr z xs =>
  obtain ⟨h1, h0, a, cap, h2, h3, h4, h5⟩ := h
  refine ⟨h1, by rw [k.m.wd _ _ h2]; exact h0, a, cap, k.m.own _ _ h2, h3, h4, fun ad e => ?_⟩
  obtain ⟨o, t, vs, r, c⟩ := h5 ad e
  have hb := k.blk _ o.2.1
  exact ⟨o.keep k, by rw [hb.2.2]; exact t, vs, aG.mono _ _ k.m r, fun j v hv => by rw [jJ hb.1]; exact c j v hv⟩
 | map ks vs =>
  obtain ⟨b, es, clock, h1, h2, h3, h4, ok, l, hp, h5, h6⟩ := h
  have hb := k.blk _ h2
  exact ⟨b, es, clock, k.m.own _ _ h1, hb.2.1, by rw [hb.2.2]; exact h3, by rw [hb.1]; exact h4, ok, l, hp, aG.mono _ _ k.m h5, aG.mono _ _ k.m h6⟩
 | sem s =>
  obtain ⟨v, h1, h2⟩ := h
  have : (fun b => g'.owner b = some id) = fun b => g.owner b = some id := by
   funext b; exact propext ⟨k.conv b, fun hb => (k.blk b hb).2.1⟩
  refine ⟨v, k.m.own _ _ h1, ?_⟩
  rw [this]
  exact s.keep h2 (fun b hb => ⟨(k.blk b hb).1, (k.blk b hb).2.2⟩) k.m.t
theorem Kind.own_some {id : Nat} {w : World} {g : G} {K : Kind} (h : K.holds id w g) : ∃ v, g.own id = some v := by
 cases K with
 | row z xs => obtain ⟨_, _, a, cap, h, _⟩ := h; exact ⟨_, h⟩
 | wr z xs => obtain ⟨_, _, a, cap, h, _⟩ := h; exact ⟨_, h⟩
 | map ks vs => obtain ⟨b, es, clock, h, _⟩ := h; exact ⟨_, h⟩
 | sem s => obtain ⟨v, h, _⟩ := h; exact ⟨_, h⟩
structure St where
 σ : List (Nat × AV)
 H : List (Nat × Nat × AV)
 O : List (Nat × Kind)
 n : Nat
def lk : List (Nat × AV) → Nat → AV
 | [], _ => .any
 | (t, v) :: r, u => if Nat.beq t u then v else lk r u
def d3 : List (Nat × Nat × AV) → Nat → Nat → Option AV
 | [], _, _ => none
 | (i, o, v) :: r, j, p => if Nat.beq i j && Nat.beq o p then some v else d3 r j p
def dk : List (Nat × Kind) → Nat → Option Kind
 | [], _ => none
 | (i, k) :: r, j => if Nat.beq i j then some k else dk r j
def St.put (s : St) (d : Option Tmp) (v : AV) : St :=
 match d with
 | some t => ⟨(t, v) :: s.σ, s.H, s.O, s.n⟩
 | none => s
def Ie (σ : List (Nat × AV)) (a : Act) (w : World) (g : G) : Prop := ∀ t, bU w g (lk σ t) (a.tmps.getD t undef)
def nW (H : List (Nat × Nat × AV)) (w : World) (g : G) : Prop :=
 ∀ id off x, d3 H id off = some x → ∃ b c e, g.blk id = some b ∧ w.heap[b]? = some (.cells c e (0, 0)) ∧ ∃ v, c[off]? = some v ∧ bU w g x v
def mL (O : List (Nat × Kind)) (w : World) (g : G) : Prop := ∀ id K, dk O id = some K → K.holds id w g
theorem mL.at {O : List (Nat × Kind)} {w : World} {g : G} (h : mL O w g) {id : Nat} {K : Kind} (hx : dk O id = some K) : K.holds id w g := h id K hx
structure WF (g : G) (w : World) (n : Nat) : Prop where
 topNew : ∀ b, w.heap.size ≤ b → g.top b = 0
 ownNew : ∀ b, w.heap.size ≤ b → g.owner b = none
 blkOwner : ∀ id b, g.blk id = some b → g.owner b = some id ∧ b < w.heap.size ∧ g.top b = 0 ∧ id < n
 ownLt : ∀ id v, g.own id = some v → id < n
 ownSl : ∀ id v, g.own id = some v → v.oneCell' = true
 sep : ∀ id b, g.blk id = some b → g.own id = none
 idLt : ∀ b i, g.owner b = some i → i < n
structure gx (w0 : World) (g0 : G) (n0 : Nat) (w : World) (g : G) : Prop where
 os : w.os = w0.os
 tape : w.tape = w0.tape
 output : w.output = w0.output
 size : w0.heap.size ≤ w.heap.size
 block : ∀ b, b < w0.heap.size → g0.owner b = none → w.heap[b]? = w0.heap[b]?
 foreign : ∀ b, b < w0.heap.size → g0.owner b = none → g.owner b = none ∧ g.top b = g0.top b
 top : ∀ b, g0.top b ≤ g.top b
 stable : ∀ b o, o < g0.top b → w.cell? ⟨b, o, none⟩ = w0.cell? ⟨b, o, none⟩
 blk : ∀ id, id < n0 → g.blk id = g0.blk id
 own : ∀ id, id < n0 → g.own id = g0.own id
 wd : ∀ id, id < n0 → g.wd id = g0.wd id
theorem gx.refl (w : World) (g : G) (n : Nat) : gx w g n w g :=
 ⟨rfl, rfl, rfl, Nat.le_refl _, fun _ _ _ => rfl, fun _ _ h => ⟨h, rfl⟩, fun _ => Nat.le_refl _, fun _ _ _ => rfl, fun _ _ => rfl, fun _ _ => rfl, fun _ _ => rfl⟩
theorem gx.trans {w0 : World} {g0 : G} {n0 : Nat} {w1 : World} {g1 : G} {n1 : Nat} {w2 : World} {g2 : G} (h : gx w0 g0 n0 w1 g1) (k : gx w1 g1 n1 w2 g2)
  (hn : n0 ≤ n1) : gx w0 g0 n0 w2 g2 where
 os := k.os.trans h.os
 tape := k.tape.trans h.tape
 output := k.output.trans h.output
 size := Nat.le_trans h.size k.size
 block b hb ho := (k.block b (Nat.lt_of_lt_of_le hb h.size) (h.foreign b hb ho).1).trans (h.block b hb ho)
 foreign b hb ho := by
  have h1 := h.foreign b hb ho
  have h2 := k.foreign b (Nat.lt_of_lt_of_le hb h.size) h1.1
  exact ⟨h2.1, h2.2.trans h1.2⟩
 top b := Nat.le_trans (h.top b) (k.top b)
 stable b o ho := (k.stable b o (Nat.lt_of_lt_of_le ho (h.top b))).trans (h.stable b o ho)
 blk id hi := (k.blk id (Nat.lt_of_lt_of_le hi hn)).trans (h.blk id hi)
 own id hi := (k.own id (Nat.lt_of_lt_of_le hi hn)).trans (h.own id hi)
 wd id hi := (k.wd id (Nat.lt_of_lt_of_le hi hn)).trans (h.wd id hi)
theorem gx.below {w0 : World} {g0 : G} {n0 : Nat} {w : World} {g : G} (h : gx w0 g0 n0 w g) (ho : ∀ b, g0.owner b = none) : Below w0.heap.size w0 w :=
 ⟨h.os, h.tape, h.output, h.size, fun b hb => h.block b hb (ho b)⟩
structure dh (N n0 : Nat) (w0 : World) (g0 : G) (s : St) (a : Act) (w : World) (g : G) : Prop where
 defers : a.defers = []
 size : a.tmps.size = N
 slots : Ie s.σ a w g
 cells : nW s.H w g
 owns : mL s.O w g
 wf : WF g w s.n
 frame : gx w0 g0 n0 w g
 nle : n0 ≤ s.n
 laid : g8 w0 g0
theorem dh.laidNow {N n0 : Nat} {w0 : World} {g0 : G} {s : St} {a : Act} {w : World} {g : G} (h : dh N n0 w0 g0 s a w g) : g8 w g := fun p hp => by
 obtain ⟨h1, o, h2, h3⟩ := h.laid p hp
 have hlt : p.1 < w0.heap.size := (Array.getElem?_eq_some_iff.1 h2).1
 exact ⟨(h.frame.foreign _ hlt h1).1, o, (h.frame.block _ hlt h1).trans h2, h3⟩
def bY := Exit → St → Prop
def bY.at (N n0 : Nat) (w0 : World) (g0 : G) (Q : bY) : Exit → Act → World → Prop :=
 fun e a w => ∃ s g, Q e s ∧ dh N n0 w0 g0 s a w g
def cg (P : Program) (N n0 : Nat) (c : Code) (Q : bY) (s : St) : Prop :=
 ∀ w0 g0 a w g, dh N n0 w0 g0 s a w g → c.wp P (Q.at N n0 w0 g0) a w
def bY.then (K : St → Prop) (Q : bY) : bY
 | .normal, s => K s
 | e, s => Q e s
def bY.inBlock (id : Nat) (Q : bY) : bY
 | .exit id', s => if id' = id then Q .normal s else Q (.exit id') s
 | e, s => Q e s
variable {P : Program} {N n0 : Nat} {Q : bY} {s : St}
theorem mj {x y : Code} (h : cg P N n0 x (bY.then (cg P N n0 y Q) Q) s) : cg P N n0 (.seq x y) Q s := by
 intro w0 g0 a w g hi
 refine wp_seq (wp_mono (h w0 g0 a w g hi) ?_)
 rintro e a' w' ⟨s', g', hq, hi'⟩
 cases e with
 | normal => exact hq w0 g0 a' w' g' hi'
 | _ => exact ⟨s', g', hq, hi'⟩
theorem yx (h : Q .normal s) : cg P N n0 .skip Q s := fun _ _ _ _ g hi => wp_skip ⟨s, g, h, hi⟩
theorem wZ (h : Q .ret s) : cg P N n0 .ret Q s := fun _ _ _ _ g hi => wp_ret ⟨s, g, h, hi⟩
theorem aW {id : Nat} (h : Q (.exit id) s) : cg P N n0 (.exit id) Q s := fun _ _ _ _ g hi => wp_exit ⟨s, g, h, hi⟩
theorem BM {id : Nat} {c : Code} (h : cg P N n0 c (bY.inBlock id Q) s) : cg P N n0 (.block id c) Q s := by
 intro w0 g0 a w g hi
 refine wp_block (wp_mono (h w0 g0 a w g hi) ?_)
 rintro e a' w' ⟨s', g', hq, hi'⟩
 cases e with
 | exit id' =>
  by_cases hid : id' = id
  ·
   simp only [Exit.inBlock, hid, if_true]
   simp only [bY.inBlock, hid, if_true] at hq
   exact ⟨s', g', hq, hi'⟩
  ·
   simp only [Exit.inBlock, hid, if_false]
   simp only [bY.inBlock, hid, if_false] at hq
   exact ⟨s', g', hq, hi'⟩
 | _ => exact ⟨s', g', hq, hi'⟩
theorem ak {K : St → Prop} (h : K s) : bY.then K Q .normal s := h
theorem an {K : St → Prop} (h : Q .ret s) : bY.then K Q .ret s := h
theorem cO {K : St → Prop} {id : Nat} (h : Q (.exit id) s) : bY.then K Q (.exit id) s := h
theorem ah {id : Nat} (h : Q .normal s) : bY.inBlock id Q .normal s := h
theorem ac {id : Nat} (h : Q .ret s) : bY.inBlock id Q .ret s := h
theorem bI {id : Nat} (h : Q .normal s) : bY.inBlock id Q (.exit id) s := by simpa [bY.inBlock] using h
theorem bE {id id' : Nat} (hne : Nat.beq id' id = false) (h : Q (.exit id') s) : bY.inBlock id Q (.exit id') s := by
 have : ¬ id' = id := fun e => by subst e; simp at hne
 simpa [bY.inBlock, this] using h
theorem DV {c : Code} {Q' : bY} (h : cg P N n0 c Q s) (hq : ∀ e s, Q e s → Q' e s) : cg P N n0 c Q' s :=
 fun w0 g0 a w g hi => wp_mono (h w0 g0 a w g hi) fun e _ _ ⟨s', g', q, i⟩ => ⟨s', g', hq e s' q, i⟩
def jI : Value → AV
 | .bool b => .bool b
 | .int k n => .int k n
 | .string s => .str s
 | .pointer none => .nilp
 | .slice none 0 0 => .nilS
 | .map none => .nilM
 | .nilIface => .nilI
 | .nilFunc => .nilF
 | _ => .any
def ev (σ : List (Nat × AV)) : Operand → AV
 | .tmp t => lk σ t
 | .const v => jI v
 | .func f => .fn f []
 | .global _ => .any
theorem iW {w : World} {g : G} (v : Value) : bU w g (jI v) v := by
 unfold jI
 split <;> first | exact rfl | exact trivial
theorem bA {a : Act} {w : World} {g : G} {σ : List (Nat × AV)} (h : Ie σ a w g) : ∀ x : Operand, bU w g (ev σ x) (a.eval x)
 | .tmp t => h t
 | .const v => iW v
 | .func _ => ⟨[], rfl, rfl⟩
 | .global _ => trivial
theorem yJ {c : Operand} {x y : Code} {b : Bool} (hc : ev s.σ c = .bool b) (ht : b = true → cg P N n0 x Q s) (hf : b = false → cg P N n0 y Q s) :
  cg P N n0 (.cond c x y) Q s := by
 intro w0 g0 a w g hi
 have hr := bA hi.slots c
 rw [hc] at hr
 exact wp_cond_split hr (fun h => ht h w0 g0 a w g hi) (fun h => hf h w0 g0 a w g hi)
mutual
def snap (O : List (Nat × Kind)) : AV → AV
 | .nilS => .sl []
 | .own id => match dk O id with | some (.row _ xs) => .sl xs | _ => .own id
 | .iface t x => .iface t (snap O x)
 | .fn f cs => .fn f (tG O cs)
 | .bfn f cs => .bfn f (tG O cs)
 | .agg cs => .agg (tG O cs)
 | .tup cs => .tup (tG O cs)
 | v => v
def tG (O : List (Nat × Kind)) : List AV → List AV
 | [] => []
 | x :: r => snap O x :: tG O r
end
mutual
theorem kr {w : World} {g : G} {O : List (Nat × Kind)} (h : mL O w g) : ∀ {x : AV} {v : Value}, bU w g x v → bU w g (snap O x) v
 | .nilS, _, r => ⟨none, 0, r, Nat.le_refl _, fun _ => rfl, fun _ h => by cases h⟩
 | .own id, v, r => by
  simp only [snap]
  cases ho : dk O id with
  | none => exact r
  | some K =>
   cases K with
   | row z xs =>
    obtain ⟨_, _, a, cap, ho', hc, hn, hs⟩ := h id _ ho
    have e : v = .slice a xs.length cap := by
     have : g.own id = some v := r
     rw [ho'] at this; exact (Ke this).symm
    exact ⟨a, cap, e, hc, fun h => (hn h).1, fun ad had => ⟨(hs ad had).1, (hs ad had).2.1⟩⟩
   | _ => exact r
 | .iface _ x, _, ⟨y, e, r⟩ => ⟨y, e, kr h r⟩
 | .fn _ cs, _, ⟨vs, e, r⟩ => ⟨vs, e, lC h r⟩
 | .bfn _ cs, _, ⟨vs, e, r⟩ => ⟨vs, e, lC h r⟩
 | .agg cs, _, ⟨vs, e, r⟩ => ⟨vs, e, lC h r⟩
 | .tup cs, _, ⟨vs, e, r⟩ => ⟨vs, e, lC h r⟩
 | .any, _, r => r
 | .bool _, _, r => r
 | .int _ _, _, r => r
 | .str _, _, r => r
 | .nilp, _, r => r
 | .nilM, _, r => r
 | .ptr _ _, _, r => r
 | .rd _, _, r => r
 | .sl _, _, r => r
 | .nilI, _, r => r
 | .err _ _, _, r => r
 | .nilF, _, r => r
 | .raw _, _, r => r
 | .eptr _ _ _, _, r => r
 | .via _ _, _, r => r
theorem lC {w : World} {g : G} {O : List (Nat × Kind)} (h : mL O w g) : ∀ {xs : List AV} {vs : List Value}, aG w g xs vs → aG w g (tG O xs) vs
 | [], _, r => r
 | _ :: _, _, ⟨v, vs', e, r, rest⟩ => ⟨v, vs', e, kr h r, lC h rest⟩
end
def gj (s : St) (x : Operand) : AV := snap s.O (ev s.σ x)
theorem dJ {N n0 : Nat} {w0 : World} {g0 : G} {s : St} {a : Act} {w : World} {g : G} (h : dh N n0 w0 g0 s a w g) (x : Operand) : bU w g (gj s x) (a.eval x) :=
 kr h.owns (bA h.slots x)
mutual
def AV.lim (n : Nat) : AV → Bool
 | .ptr id _ => Nat.blt id n
 | .own id => Nat.blt id n
 | .eptr id _ _ => Nat.blt id n
 | .via id _ => Nat.blt id n
 | .rd _ | .sl _ => true
 | .iface _ x => AV.lim n x
 | .fn _ cs | .bfn _ cs | .agg cs | .tup cs => dT n cs
 | _ => true
def dT (n : Nat) : List AV → Bool
 | [] => true
 | x :: r => AV.lim n x && dT n r
end
def G.cut (g : G) (n : Nat) : G :=
 {
  blk := fun i => if i < n then g.blk i else none, own := fun i => if i < n then g.own i else none, wd := fun i => if i < n then g.wd i else 0,
  owner := fun b => match g.owner b with | some i => if i < n then some i else none | none => none, top := g.top }
mutual
theorem bU.cut {w : World} {g : G} (n : Nat) : ∀ (x : AV) (v : Value), x.lim n = true → bU w g x v → bU w (g.cut n) x v
 | .any, _, _, _ => trivial
 | .bool _, _, _, r => r
 | .int _ _, _, _, r => r
 | .str _, _, _, r => r
 | .nilp, _, _, r => r
 | .nilS, _, _, r => r
 | .nilM, _, _, r => r
 | .ptr id _, _, h, ⟨b, hb, e⟩ => by
  have hi : id < n := by simpa [AV.lim] using h
  exact ⟨b, by simp [G.cut, hi, hb], e⟩
 | .rd _, _, _, r => r
 | .sl _, _, _, r => r
 | .own id, v, h, r => by
  have : id < n := by simpa [AV.lim] using h
  have hr : g.own id = some v := r
  show (g.cut n).own id = some v
  simp [G.cut, this, hr]
 | .eptr id _ _, v, h, ⟨ad, l, cap, e, r⟩ => by
  have : id < n := by simpa [AV.lim] using h
  exact ⟨ad, l, cap, by simp [G.cut, this, e], by simpa [G.cut, this] using r⟩
 | .via id _, v, h, ⟨u, e, r⟩ => by
  have : id < n := by simpa [AV.lim] using h
  exact ⟨u, by simp [G.cut, this, e], by simpa [G.cut, this] using r⟩
 | .raw _, _, _, r => r
 | .nilI, _, _, r => r
 | .err _ _, _, _, r => r
 | .iface _ x, _, h, ⟨y, e, r⟩ => ⟨y, e, bU.cut n x y (by simpa [AV.lim] using h) r⟩
 | .nilF, _, _, r => r
 | .fn _ cs, _, h, ⟨vs, e, r⟩ => ⟨vs, e, aG.cut n cs vs (by simpa [AV.lim] using h) r⟩
 | .bfn _ cs, _, h, ⟨vs, e, r⟩ => ⟨vs, e, aG.cut n cs vs (by simpa [AV.lim] using h) r⟩
 | .agg cs, _, h, ⟨vs, e, r⟩ => ⟨vs, e, aG.cut n cs vs (by simpa [AV.lim] using h) r⟩
 | .tup cs, _, h, ⟨vs, e, r⟩ => ⟨vs, e, aG.cut n cs vs (by simpa [AV.lim] using h) r⟩
theorem aG.cut {w : World} {g : G} (n : Nat) : ∀ (cs : List AV) (vs : List Value), dT n cs = true → aG w g cs vs → aG w (g.cut n) cs vs
 | [], _, _, r => r
 | x :: cs, _, h, ⟨v, vs', e, r, rest⟩ => by
  simp only [dT, Bool.and_eq_true] at h
  exact ⟨v, vs', e, bU.cut n x v h.1 r, aG.cut n cs vs' h.2 rest⟩
end
def D4 (σ : List (Nat × AV)) (n : Nat) : List (Nat × AV) → Prop
 | [] => True
 | (t, v) :: r => (lk σ t = v ∧ v.lim n = true) ∧ D4 σ n r
def Dc (H : List (Nat × Nat × AV)) (n : Nat) : List (Nat × Nat × AV) → Prop
 | [] => True
 | (i, o, v) :: r => (d3 H i o = some v ∧ v.lim n = true ∧ Nat.blt i n = true) ∧ Dc H n r
def fo (n : Nat) : List (List AV) → Bool
 | [] => true
 | x :: r => dT n x && fo n r
def Kind.lim (n : Nat) : Kind → Bool
 | .row _ _ => true
 | .wr _ xs => fo n xs
 | .map ks vs => dT n ks && dT n vs
 | .sem _ => true
def Dz (O : List (Nat × Kind)) (n : Nat) : List (Nat × Kind) → Prop
 | [] => True
 | (i, K) :: r => (dk O i = some K ∧ K.lim n = true ∧ Nat.blt i n = true) ∧ Dz O n r
theorem jh {n : Nat} : ∀ {xs ys : List AV}, dT n (xs ++ ys) = (dT n xs && dT n ys)
 | [], _ => rfl
 | x :: xs, ys => by simp only [List.cons_append, dT, jh (xs := xs), Bool.and_assoc]
theorem fA {n : Nat} : ∀ {xs : List (List AV)}, fo n xs = true → dT n xs.flatten = true
 | [], _ => rfl
 | x :: xs, h => by
  simp only [fo, Bool.and_eq_true] at h
  simp only [List.flatten_cons, jh, h.1, fA h.2, Bool.and_self]
theorem Kind.cut {id n : Nat} {w : World} {g : G} {K : Kind} (h : K.holds id w g) (hl : K.lim n = true) (hi : id < n) : K.holds id w (g.cut n) := by
 have ho : ∀ b, g.owner b = some id → (g.cut n).owner b = some id := fun b hb => by simp [G.cut, hb, hi]
 have hO : ∀ ad m, mM id w g ad m → mM id w (g.cut n) ad m := fun ad m ⟨h1, h2, h3⟩ => ⟨h1, ho _ h2, h3⟩
 cases K with
 | row z xs =>
  obtain ⟨h1, h0, a, cap, h2, h3, h4, h5⟩ := h
  exact ⟨h1, by simpa [G.cut, hi] using h0, a, cap, by simp [G.cut, hi, h2], h3, h4, fun ad e => ⟨(h5 ad e).1, (h5 ad e).2.1, (h5 ad e).2.2.imp _root_.id fun ⟨o, t⟩ => ⟨hO _ _ o, t⟩⟩⟩
 | wr z xs =>
  obtain ⟨h1, h0, a, cap, h2, h3, h4, h5⟩ := h
  refine ⟨h1, by simpa [G.cut, hi] using h0, a, cap, by simp [G.cut, hi, h2], h3, h4, fun ad e => ?_⟩
  obtain ⟨o, t, vs, r, c⟩ := h5 ad e
  exact ⟨hO _ _ o, t, vs, aG.cut n _ _ (fA hl) r, c⟩
 | map ks vs =>
  obtain ⟨b, es, clock, h1, h2, h3, h4, ok, l, hp, h5, h6⟩ := h
  simp only [Kind.lim, Bool.and_eq_true] at hl
  exact ⟨b, es, clock, by simp [G.cut, hi, h1], ho _ h2, h3, h4, ok, l, hp, aG.cut n _ _ hl.1 h5, aG.cut n _ _ hl.2 h6⟩
 | sem s =>
  obtain ⟨v, h1, h2⟩ := h
  have : (fun b => (g.cut n).owner b = some id) = fun b => g.owner b = some id := by
   funext b
   refine propext ⟨fun hb => ?_, ho b⟩
   simp only [G.cut] at hb
   split at hb
   ·
    split at hb
    · rename_i h1 _; rw [h1]; exact hb
    · cases hb
   · cases hb
  exact ⟨v, by simp [G.cut, hi, h1], by rw [this]; exact h2⟩
structure Sub (s s' : St) : Prop where
 n : s'.n ≤ s.n
 σ : D4 s.σ s'.n s'.σ
 H : Dc s.H s'.n s'.H
 O : Dz s.O s'.n s'.O
theorem D4.lk {σ : List (Nat × AV)} {n : Nat} : ∀ {σ' : List (Nat × AV)}, D4 σ n σ' → ∀ t, Go.Pv.lk σ' t = .any ∨ (Go.Pv.lk σ t = Go.Pv.lk σ' t ∧ (Go.Pv.lk σ' t).lim n = true)
 | [], _, _ => .inl rfl
 | (u, v) :: r, h, t => by
  simp only [Go.Pv.lk]
  by_cases hu : Nat.beq u t = true
  ·
   have : u = t := by simpa using hu
   subst this
   simp only [Nat.beq_refl, if_true]
   exact .inr h.1
  ·
   simp only [hu, if_false, Bool.false_eq_true]
   exact D4.lk h.2 t
theorem Dc.lk {H : List (Nat × Nat × AV)} {n : Nat} : ∀ {H' : List (Nat × Nat × AV)}, Dc H n H' → ∀ i o x, d3 H' i o = some x → d3 H i o = some x ∧ x.lim n = true ∧ i < n
 | [], _, _, _, _, e => by simp [d3] at e
 | (j, p, v) :: r, h, i, o, x, e => by
  simp only [d3] at e
  by_cases hu : (Nat.beq j i && Nat.beq p o) = true
  ·
   rw [if_pos hu] at e
   simp only [Bool.and_eq_true, Nat.beq_eq] at hu
   obtain ⟨rfl, rfl⟩ := hu
   obtain rfl := Ke e
   exact ⟨h.1.1, h.1.2.1, by simpa using h.1.2.2⟩
  ·
   rw [if_neg hu] at e
   exact Dc.lk h.2 i o x e
theorem Dz.lk {O : List (Nat × Kind)} {n : Nat} : ∀ {O' : List (Nat × Kind)}, Dz O n O' → ∀ i K, dk O' i = some K → dk O i = some K ∧ K.lim n = true ∧ i < n
 | [], _, _, _, e => by simp [dk] at e
 | (j, y) :: r, h, i, K, e => by
  simp only [dk] at e
  by_cases hu : Nat.beq j i = true
  ·
   rw [if_pos hu] at e
   simp only [Nat.beq_eq] at hu
   subst hu
   obtain rfl := Ke e
   exact ⟨h.1.1, h.1.2.1, by simpa using h.1.2.2⟩
  ·
   rw [if_neg hu] at e
   exact Dz.lk h.2 i K e
theorem dh.sub {N n0 : Nat} {w0 : World} {g0 : G} {s s' : St} {a : Act} {w : World} {g : G} (h : dh N n0 w0 g0 s a w g) (hs : Sub s s') (hn : n0 ≤ s'.n) :
  dh N n0 w0 g0 s' a w (g.cut s'.n) where
 defers := h.defers
 size := h.size
 slots t := by
  rcases hs.σ.lk t with e | ⟨e, hl⟩
  · rw [e]; trivial
  · have := h.slots t; rw [e] at this; exact bU.cut _ _ _ hl this
 cells i o x hx := by
  obtain ⟨h1, h2, h3⟩ := hs.H.lk i o x hx
  obtain ⟨b, c, e, hb, hw, v, hv, r⟩ := h.cells i o x h1
  exact ⟨b, c, e, by simp [G.cut, h3, hb], hw, v, hv, bU.cut _ _ _ h2 r⟩
 owns i K hx := by
  obtain ⟨h1, h2, h3⟩ := hs.O.lk i K hx
  exact Kind.cut (h.owns i K h1) h2 h3
 wf := {
  topNew := h.wf.topNew
  ownNew := fun b hb => by simp [G.cut, h.wf.ownNew b hb]
  blkOwner := fun id b hb => by
   simp only [G.cut] at hb
   split at hb
   ·
    rename_i hi
    obtain ⟨k1, k2, k3, k4⟩ := h.wf.blkOwner id b hb
    exact ⟨by simp [G.cut, k1, hi], k2, k3, hi⟩
   · cases hb
  ownLt := fun id v hv => by
   simp only [G.cut] at hv
   split at hv
   · assumption
   · cases hv
  ownSl := fun id v hv => by
   simp only [G.cut] at hv
   split at hv
   · exact h.wf.ownSl id v hv
   · cases hv
  sep := fun id b hb => by
   simp only [G.cut] at hb
   split at hb
   · rename_i hi; simp [G.cut, hi, h.wf.sep id b hb]
   · cases hb
  idLt := fun b i hb => by
   simp only [G.cut] at hb
   split at hb
   ·
    split at hb
    · rename_i hi; obtain rfl := Ke hb; exact hi
    · cases hb
   · cases hb }
 frame := {
  os := h.frame.os
  tape := h.frame.tape
  output := h.frame.output
  size := h.frame.size
  block := h.frame.block
  foreign := fun b hb ho => by
   obtain ⟨k1, k2⟩ := h.frame.foreign b hb ho
   exact ⟨by simp [G.cut, k1], k2⟩
  top := h.frame.top
  stable := h.frame.stable
  blk := fun id hi => by
   have : id < s'.n := Nat.lt_of_lt_of_le hi hn
   simp [G.cut, this, h.frame.blk id hi]
  own := fun id hi => by
   have : id < s'.n := Nat.lt_of_lt_of_le hi hn
   simp [G.cut, this, h.frame.own id hi]
  wd := fun id hi => by
   have : id < s'.n := Nat.lt_of_lt_of_le hi hn
   simp [G.cut, this, h.frame.wd id hi] }
 nle := hn
 laid := h.laid
theorem jt {p : Nat → Prop} (h : ∃ n, p n) : ∃ n, p n ∧ ∀ m, p m → n ≤ m := by
 obtain ⟨n, hn⟩ := h
 induction n using Nat.strongRecOn with
 | _ n ih =>
  by_cases hm : ∃ m, m < n ∧ p m
  · obtain ⟨m, hlt, hp⟩ := hm; exact ih m hlt hp
  · exact ⟨n, hn, fun m hp => Nat.le_of_not_lt fun hlt => hm ⟨m, hlt, hp⟩⟩
open Classical in
theorem eQ {c : Code} {ι : Type} (inv : ι → St) (fH : ι → Prop) (μ : ι → Nat) (i0 : ι) (h0 : fH i0) (hs : Sub s (inv i0)) (hn : ∀ i, n0 ≤ (inv i).n)
  (round : ∀ i, fH i → cg P N n0 c (bY.then (fun s' => ∃ j, fH j ∧ μ j < μ i ∧ Sub s' (inv j)) Q) (inv i)) : cg P N n0 (.loop c) Q s := by
 intro w0 g0 a w g hi
 let I : Act → World → Nat → Prop := fun a w m => ∃ i g, fH i ∧ μ i = m ∧ dh N n0 w0 g0 (inv i) a w g
 refine wp_loop (fun a w => ∃ m, I a w m) (fun a w => if h : ∃ m, I a w m then Classical.choose (jt h) else 0) ⟨_, i0, _, h0, rfl, hi.sub hs (hn i0)⟩ ?_
 intro a w hI
 obtain ⟨⟨i, g, hg, hm, hinv⟩, hleast⟩ := Classical.choose_spec (jt hI)
 refine wp_mono (round i hg w0 g0 a w g hinv) ?_
 rintro e a' w' ⟨s', g', hq, hi'⟩
 cases e with
 | normal =>
  obtain ⟨j, hj, hlt, hsub⟩ := hq
  have hI' : ∃ m, I a' w' m := ⟨_, j, _, hj, rfl, hi'.sub hsub (hn j)⟩
  refine ⟨hI', ?_⟩
  rw [dif_pos hI, dif_pos hI']
  have := (Classical.choose_spec (jt hI')).2 (μ j) ⟨j, _, hj, rfl, hi'.sub hsub (hn j)⟩
  omega
 | _ => exact ⟨s', g', hq, hi'⟩
end Go.Pv
namespace Go.Pv
set_option linter.unusedSimpArgs false
set_option linter.unusedSectionVars false
set_option linter.unusedVariables false
inductive TK where
 | bool | int (k : IntKind) | str | ptr (e : TypeId) | slice (e : TypeId) | struct (eqok : Bool) (fs : List (Nat × TypeId)) | iface (bare : Bool) | fn | map (k e : TypeId) | bad
structure TI where
 k : TK
 size : Nat
 bytes : Nat
 zero : List AV
 cmp : Bool
def pG (P : Program) (t : TypeId) : TypeDesc → TK
 | .bool => .bool
 | .int k => .int k
 | .string => .str
 | .pointer e => .ptr e
 | .slice e => .slice e
 | .struct fs => .struct (!P.stoodInHeld t && !P.eqGuardType P.depth t && fs.toList.all (·.name != "_")) (fs.toList.map fun f => (f.offset, f.type))
 | .interface ms => .iface ms.isEmpty
 | .func _ _ _ => .fn
 | .map k e => .map k e
 | _ => .bad
def EQ : TK → Value → Bool
 | .struct _ _, .agg _ => true
 | .struct _ _, _ => false
 | .bad, _ => true
 | _, v => v.oneCell'
def bn (P : Program) (t : TypeId) : Option TI :=
 match P.info? t, P.underlying t with
 | some i, some d => match i.zero with
  | some z => if EQ (pG P t d) z then some ⟨pG P t d, i.size, i.bytes, z.cells.toList.map jI, i.comparable⟩ else none
  | none => none
 | _, _ => none
def H5 : List (Nat × TI) → Nat → Option TI
 | [], _ => none
 | (t, i) :: r, u => if Nat.beq t u then some i else H5 r u
class dI (P : Program) where
 T : List (Nat × TI)
 ok : ∀ p ∈ T, bn P p.1 = some p.2
def ti (P : Program) [dI P] (t : TypeId) : Option TI := H5 (dI.T P) t
theorem AX : ∀ {l : List (Nat × TI)} {t : Nat} {i : TI}, H5 l t = some i → (t, i) ∈ l
 | [], _, _, h => by simp [H5] at h
 | (u, j) :: r, t, i, h => by
  simp only [H5] at h
  by_cases hu : Nat.beq u t = true
  ·
   rw [if_pos hu] at h
   simp only [Nat.beq_eq] at hu
   subst hu
   obtain rfl := Ke h
   simp
  ·
   rw [if_neg hu] at h
   exact List.mem_cons_of_mem _ (AX h)
theorem IH {P : Program} [dI P] {t : TypeId} {i : TI} (h : ti P t = some i) : bn P t = some i := dI.ok _ (AX h)
structure fU (P : Program) (t : TypeId) (i : TI) (inf : TypeInfo) (d : TypeDesc) (z : Value) : Prop where
 info : P.info? t = some inf
 und : P.underlying t = some d
 zero : inf.zero = some z
 k : i.k = pG P t d
 size : i.size = inf.size
 bytes : i.bytes = inf.bytes
 zeros : i.zero = z.cells.toList.map jI
 cmp : i.cmp = inf.comparable
 fit : EQ i.k z = true
theorem aV {P : Program} [dI P] {t : TypeId} {i : TI} (h : ti P t = some i) : ∃ inf d z, fU P t i inf d z := by
 have := IH h
 unfold bn at this
 split at this
 ·
  rename_i inf d h1 h2
  split at this
  ·
   rename_i z hz
   split at this
   ·
    rename_i hf
    obtain rfl := Ke this
    exact ⟨inf, d, z, ⟨h1, h2, hz, rfl, rfl, rfl, rfl, rfl, hf⟩⟩
   · cases this
  · cases this
 · cases this
section
variable {P : Program} {t : TypeId} {i : TI} {inf : TypeInfo} {d : TypeDesc} {z : Value} (h : fU P t i inf d z) (w : World)
include h
theorem fU.run_info : (typeInfo t).run P w = .ok inf w := by simp [typeInfo, h.info]
theorem fU.run_und : (underlying t).run P w = .ok d w := run_underlying h.und w
theorem fU.run_size : (sizeOf t).run P w = .ok i.size w := by simp [sizeOf, h.run_info, h.size]
theorem fU.run_zero : (zeroValue t).run P w = .ok z w := by simp [zeroValue, h.run_info, h.zero]
theorem fU.desc_bool (hk : i.k = .bool) : d = .bool := by have := h.k; rw [hk] at this; cases d <;> simp [pG] at this <;> first | rfl | simp_all
theorem fU.desc_int {k : IntKind} (hk : i.k = .int k) : d = .int k := by have := h.k; rw [hk] at this; cases d <;> simp [pG] at this <;> simp_all
theorem fU.desc_str (hk : i.k = .str) : d = .string := by have := h.k; rw [hk] at this; cases d <;> simp [pG] at this <;> first | rfl | simp_all
theorem fU.desc_ptr {e : TypeId} (hk : i.k = .ptr e) : d = .pointer e := by have := h.k; rw [hk] at this; cases d <;> simp [pG] at this <;> simp_all
theorem fU.desc_slice {e : TypeId} (hk : i.k = .slice e) : d = .slice e := by have := h.k; rw [hk] at this; cases d <;> simp [pG] at this <;> simp_all
theorem fU.desc_fn (hk : i.k = .fn) : ∃ a b c, d = .func a b c := by have := h.k; rw [hk] at this; cases d <;> simp [pG] at this <;> exact ⟨_, _, _, rfl⟩
theorem fU.desc_map {k e : TypeId} (hk : i.k = .map k e) : d = .map k e := by have := h.k; rw [hk] at this; cases d <;> simp [pG] at this <;> simp_all
theorem fU.desc_iface {b : Bool} (hk : i.k = .iface b) : ∃ ms, d = .interface ms ∧ ms.isEmpty = b := by have := h.k; rw [hk] at this; cases d <;> simp [pG] at this <;> exact ⟨_, rfl, by simp_all⟩
theorem fU.desc_struct {q : Bool} {fs : List (Nat × TypeId)} (hk : i.k = .struct q fs) : ∃ fl : Array Field, d = .struct fl ∧ fs = fl.toList.map (fun f => (f.offset, f.type)) ∧
  q = (!P.stoodInHeld t && !P.eqGuardType P.depth t && fl.toList.all (·.name != "_")) := by
 have := h.k; rw [hk] at this; cases d <;> simp only [pG] at this <;> first | (simp at this; done) | skip
 rename_i fl
 simp only [TK.struct.injEq] at this
 exact ⟨fl, rfl, this.2, this.1⟩
end
def TK.agg : TK → Option Bool
 | .struct _ _ => some true
 | .bad => none
 | _ => some false
theorem fU.run_agg {P : Program} {t : TypeId} {i : TI} {inf : TypeInfo} {d : TypeDesc} {z : Value} (h : fU P t i inf d z) {b : Bool} (hb : i.k.agg = some b) (w : World) :
  (isAgg t).run P w = .ok b w := by
 have hk := h.k
 simp only [isAgg, Sem.run_bind, h.run_und, Result.andThen_ok]
 cases d <;> simp [pG] at hk <;> simp [hk, TK.agg] at hb <;> simp [hb]
def Cq (H : List (Nat × Nat × AV)) (id off : Nat) : Nat → Option (List AV)
 | 0 => some []
 | n + 1 => match d3 H id off with
  | some x => match Cq H id (off + 1) n with
   | some r => some (x :: r)
   | none => none
  | none => none
def q8 (H : List (Nat × Nat × AV)) (i : TI) : AV → Option AV
 | .ptr id off => match i.k.agg with
  | some true => match Cq H id off i.size with
   | some cs => some (.agg cs)
   | none => none
  | some false => d3 H id off
  | none => none
 | .rd cs => match i.k.agg with
  | some true => if Nat.ble i.size cs.length then some (.agg (cs.take i.size)) else none
  | some false => cs.head?
  | none => none
 | _ => none
theorem dz (b o n : Nat) : Addr.add ⟨b, o, none⟩ n = ⟨b, o + n, none⟩ := Addr.add_lit b o n
theorem nW.cell {H : List (Nat × Nat × AV)} {w : World} {g : G} (h : nW H w g) {id off : Nat} {x : AV} (hx : d3 H id off = some x) :
  ∃ b v, g.blk id = some b ∧ w.cell? ⟨b, off, none⟩ = some v ∧ w.frozen? ⟨b, off, none⟩ = false ∧ bU w g x v := by
 obtain ⟨b, c, e, hb, hw, v, hv, r⟩ := h id off x hx
 exact ⟨b, v, hb, by simp [World.cell?, hw, hv], by simp [World.frozen?, hw], r⟩
theorem nW.cellsN {H : List (Nat × Nat × AV)} {w : World} {g : G} (h : nW H w g) {id b : Nat} (hb : g.blk id = some b) : ∀ {n off : Nat} {cs : List AV}, Cq H id off n = some cs →
  ∃ vs : List Value, vs.length = n ∧ aG w g cs vs ∧ ∀ j v, vs[j]? = some v → w.cell? ⟨b, off + j, none⟩ = some v
 | 0, off, cs, hc => by
  simp only [Cq] at hc
  obtain rfl := Ke hc
  exact ⟨[], rfl, rfl, fun j v h => by simp at h⟩
 | n + 1, off, cs, hc => by
  simp only [Cq] at hc
  cases hx : d3 H id off with
  | none => simp [hx] at hc
  | some x =>
   simp only [hx] at hc
   cases hr : Cq H id (off + 1) n with
   | none => simp [hr] at hc
   | some r =>
    simp only [hr] at hc
    obtain rfl := Ke hc
    obtain ⟨b', v, hb', hv, _, rv⟩ := h.cell hx
    obtain rfl : b' = b := by rw [hb] at hb'; exact (Ke hb').symm
    obtain ⟨vs, hl, hrep, hcell⟩ := nW.cellsN h hb hr
    refine ⟨v :: vs, by simp [hl], ⟨v, vs, rfl, rv, hrep⟩, fun j u hu => ?_⟩
    cases j with
    | zero => simp at hu; subst hu; simpa using hv
    | succ j =>
     have := hcell j u (by simpa using hu)
     rwa [show off + (j + 1) = off + 1 + j by omega]
theorem cq.cells {w : World} {top : Nat → Nat} {b : Nat} (g : G) : ∀ {cs : List AV} {o : Nat}, cq w top b o cs → g.top = top →
  ∃ vs : List Value, vs.length = cs.length ∧ aG w g cs vs ∧ ∀ j v, vs[j]? = some v → w.cell? ⟨b, o + j, none⟩ = some v
 | [], o, _, _ => ⟨[], rfl, rfl, fun j v h => by simp at h⟩
 | x :: cs, o, h, ht => by
  obtain ⟨⟨_, v, hv, rv⟩, hr⟩ := h
  obtain ⟨vs, hl, hrep, hcell⟩ := cq.cells g hr ht
  refine ⟨v :: vs, by simp [hl], ⟨v, vs, rfl, rv.mono x v ⟨⟨fun b => by simp [G.ofTop, ht], fun _ _ _ => rfl⟩, fun _ _ e => by simp [G.ofTop] at e, fun _ _ e => by simp [G.ofTop] at e, fun _ _ e => by simp [G.ofTop] at e⟩, hrep⟩, fun j u hu => ?_⟩
  cases j with
  | zero => simp at hu; subst hu; simpa using hv
  | succ j =>
   have := hcell j u (by simpa using hu)
   rwa [show o + (j + 1) = o + 1 + j by omega]
section
variable {P : Program} {w : World} {g : G}
theorem nA {H : List (Nat × Nat × AV)} {t : TypeId} {i : TI} {inf : TypeInfo} {d : TypeDesc} {z : Value} (ht : fU P t i inf d z) (hH : nW H w g)
  {x y : AV} {v : Value} (hx : bU w g x v) (hy : q8 H i x = some y) : ∃ u, (Instr.loadAt t v).run P w = .ok u w ∧ bU w g y u := by
 cases x <;> simp only [q8] at hy <;> first | (cases hy; done) | skip
 case ptr id off =>
  obtain ⟨b, hb, rfl⟩ := hx
  cases hg : i.k.agg with
  | none => simp [hg] at hy
  | some q =>
   simp only [hg] at hy
   cases q with
   | false =>
    obtain ⟨b', u, hb', hv, _, r⟩ := hH.cell hy
    obtain rfl : b' = b := by rw [hb] at hb'; exact (Ke hb').symm
    exact ⟨u, by simp [Instr.loadAt, Instr.sureAddr, loadVar, ht.run_agg hg, hv], r⟩
   | true =>
    cases hc : Cq H id off i.size with
    | none => simp [hc] at hy
    | some cs =>
     simp only [hc] at hy
     obtain rfl := Ke hy
     obtain ⟨vs, hl, hrep, hcell⟩ := hH.cellsN hb hc
     have hload := run_loadCells_list (P := P) w ⟨b, off, none⟩ vs (fun j v hv => by rw [dz]; exact hcell j v hv)
     rw [hl] at hload
     exact ⟨.agg vs.toArray, by simp [Instr.loadAt, Instr.sureAddr, loadVar, ht.run_agg hg, ht.run_size, hload], vs, rfl, hrep⟩
 case rd cs =>
  obtain ⟨b, o, rfl, hr⟩ := hx
  cases hg : i.k.agg with
  | none => simp [hg] at hy
  | some q =>
   simp only [hg] at hy
   obtain ⟨vs, hl, hrep, hcell⟩ := cq.cells g hr rfl
   cases q with
   | false =>
    cases cs with
    | nil => simp at hy
    | cons x cs =>
     simp at hy; subst hy
     obtain ⟨v, hv, r⟩ := aG.get hrep (i := 0) (x := x) (by simp)
     have : w.cell? ⟨b, o, none⟩ = some v := by simpa using hcell 0 v hv
     exact ⟨v, by simp [Instr.loadAt, Instr.sureAddr, loadVar, ht.run_agg hg, this], r⟩
   | true =>
    by_cases hb : Nat.ble i.size cs.length = true
    ·
     rw [if_pos hb] at hy
     obtain rfl := Ke hy
     have hle : i.size ≤ cs.length := by simpa using hb
     have hload := run_loadCells_list (P := P) w ⟨b, o, none⟩ (vs.take i.size) (fun j v hv => by
      rw [dz]; refine hcell j v ?_
      rw [List.getElem?_take] at hv
      split at hv
      · exact hv
      · cases hv)
     have hl' : (vs.take i.size).length = i.size := by simp [hl]; omega
     rw [hl'] at hload
     exact ⟨.agg (vs.take i.size).toArray, by simp [Instr.loadAt, Instr.sureAddr, loadVar, ht.run_agg hg, ht.run_size, hload], _, rfl, aG.take _ hrep⟩
    · rw [if_neg hb] at hy; cases hy
def sA (i : TI) (cs : List AV) (off : Nat) : Option AV :=
 match i.k.agg with
 | some true => some (.agg ((cs.drop off).take i.size))
 | some false => cs[off]?
 | none => none
theorem nz {t : TypeId} {i : TI} {inf : TypeInfo} {d : TypeDesc} {z : Value} (ht : fU P t i inf d z) {cs : List AV} {vs : List Value} {off : Nat} {y : AV}
  (hr : aG w g cs vs) (hy : sA i cs off = some y) : ∃ u, (part t vs.toArray off).run P w = .ok u w ∧ bU w g y u := by
 unfold sA at hy
 split at hy
 ·
  rename_i hg
  obtain rfl := Ke hy
  exact ⟨.agg (vs.toArray.extract off (off + i.size)), by simp [part, ht.run_agg hg, ht.run_size], (vs.drop off).take i.size, by simp [List.extract_toArray, List.extract_eq_take_drop], aG.take _ (aG.drop _ hr)⟩
 ·
  rename_i hg
  obtain ⟨v, hv, r⟩ := aG.get hr hy
  exact ⟨v, by simp [part, ht.run_agg hg, hv], r⟩
 · cases hy
def w4 (P : Program) [dI P] (f : TypeId → AV → AV → Option Bool) : List (Nat × TypeId) → List AV → List AV → Option Bool
 | [], _, _ => some true
 | (off, u) :: r, xs, ys => match ti P u with
  | none => none
  | some i => match sA i xs off, sA i ys off with
   | some a, some b => match f u a b, w4 P f r xs ys with
    | some p, some q => some (p && q)
    | _, _ => none
   | _, _ => none
def FN (P : Program) [dI P] : Nat → TypeId → AV → AV → Option Bool
 | 0, _, _, _ => none
 | n + 1, t, x, y => match ti P t with
  | none => none
  | some i => match i.k, x, y with
   | .bool, .bool a, .bool b => some (a == b)
   | .int _, .int k a, .int k' b => if k = k' then some (a == b) else none
   | .str, .str a, .str b => some (a.toList == b.toList)
   | .struct true fs, .agg xs, .agg ys => w4 P (FN P n) fs xs ys
   | _, _, _ => none
theorem tK [dI P] {f : TypeId → AV → AV → Option Bool} {n : Nat} {xs ys : List AV} {us vs : List Value} (hx : aG w g xs us) (hy : aG w g ys vs)
  (hf : ∀ t x y u v r, f t x y = some r → bU w g x u → bU w g y v → (Op.equalIn n t u v).run P w = .ok r w) :
  ∀ (fl : List Field) (r : Bool), fl.all (·.name != "_") = true → w4 P f (fl.map fun f => (f.offset, f.type)) xs ys = some r →
   (Op.eqFields n us.toArray vs.toArray fl).run P w = .ok r w
 | [], r, _, h => by
  simp only [List.map_nil, w4] at h
  obtain rfl := Ke h
  simp [Op.eqFields]
 | q :: fl, r, hn, h => by
  simp only [List.all_cons, Bool.and_eq_true] at hn
  simp only [List.map_cons, w4] at h
  cases hi : ti P q.type with
  | none => simp [hi] at h
  | some i =>
   simp only [hi] at h
   obtain ⟨inf, d, z, ht⟩ := aV hi
   cases ha : sA i xs q.offset with
   | none => simp [ha] at h
   | some a =>
    cases hb : sA i ys q.offset with
    | none => simp [ha, hb] at h
    | some b =>
     simp only [ha, hb] at h
     cases hp : f q.type a b with
     | none => simp [hp] at h
     | some p =>
      cases hq : w4 P f (fl.map fun f => (f.offset, f.type)) xs ys with
      | none => simp [hp, hq] at h
      | some k =>
       simp only [hp, hq] at h
       obtain rfl := Ke h
       obtain ⟨u, hu, ru⟩ := nz (w := w) (g := g) ht hx ha
       obtain ⟨v, hv, rv⟩ := nz (w := w) (g := g) ht hy hb
       have he := hf _ _ _ _ _ _ hp ru rv
       have ih := tK hx hy hf fl k hn.2 hq
       have hne : q.name ≠ "_" := by simpa using hn.1
       simp only [Op.eqFields, hne, ne_eq, not_false_eq_true, if_true, Sem.run_bind, hu, hv, he, Result.andThen_ok]
       cases p <;> simp [ih]
theorem qI [dI P] : ∀ (n : Nat) (t : TypeId) (x y : AV) (u v : Value) (r : Bool), FN P n t x y = some r → bU w g x u → bU w g y v → ∀ m, n ≤ m → (Op.equalIn m t u v).run P w = .ok r w
 | 0, _, _, _, _, _, _, h, _, _, _, _ => by simp [FN] at h
 | n + 1, t, x, y, u, v, r, h, hx, hy, m, hm => by
  obtain ⟨m, rfl⟩ : ∃ k, m = k + 1 := ⟨m - 1, by omega⟩
  simp only [FN] at h
  cases hi : ti P t with
  | none => simp [hi] at h
  | some i =>
   simp only [hi] at h
   obtain ⟨inf, d, z, ht⟩ := aV hi
   split at h
   ·
    rename_i hk
    obtain rfl := Ke h
    obtain rfl : u = _ := hx
    obtain rfl : v = _ := hy
    exact run_equalIn_bool w m t _ _ (by rw [ht.und, ht.desc_bool hk])
   ·
    rename_i hk
    split at h
    ·
     rename_i hkk; subst hkk
     obtain rfl := Ke h
     obtain rfl : u = _ := hx
     obtain rfl : v = _ := hy
     exact run_equalIn_int w m t _ _ _ _ (by rw [ht.und, ht.desc_int hk])
    · cases h
   ·
    rename_i hk
    obtain rfl := Ke h
    obtain rfl : u = _ := hx
    obtain rfl : v = _ := hy
    exact run_equalIn_string w m t _ _ (by rw [ht.und, ht.desc_str hk])
   ·
    rename_i fs xs ys hk
    obtain ⟨us, rfl, hus⟩ := hx
    obtain ⟨vs, rfl, hvs⟩ := hy
    obtain ⟨fl, hd, hfs, hq⟩ := ht.desc_struct hk
    subst hd
    replace hq := hq.symm
    simp only [Bool.and_eq_true, Bool.not_eq_true'] at hq
    have hfo : P.fieldsOf t = fl := by simp [Program.fieldsOf, ht.und]
    rw [run_equalIn_agg w m t _ _ (by rw [ht.und, hfo]) hq.1.1, hfo]
    rw [hfs] at h
    exact tK hus hvs (fun t x y u v r hr h1 h2 => qI n t x y u v r hr h1 h2 m (by omega)) fl.toList r hq.2 h
   · cases h
end
end Go.Pv
namespace Go.Pv
set_option linter.unusedSimpArgs false
set_option linter.unusedSectionVars false
set_option linter.unusedVariables false
def xf : Operand → Bool
 | .const _ => true
 | _ => false
def FT (P : Program) [dI P] (lit : Bool) : AV → AV → Option Bool
 | .nilI, .nilI => if lit then some true else none
 | .nilI, .iface _ _ => some false
 | .iface _ _, .nilI => some false
 | .iface t x, .iface u y => if Nat.beq t u then (match ti P t with
  | some i => if i.cmp then (match i.k, x, y with
   | .int _, .int k a, .int k' b => if k = k' then some (a == b) else none
   | _, _, _ => none) else none
  | none => none) else some false
 | _, _ => none
def eqv (P : Program) [dI P] (lit : Bool) (t : TypeId) (x y : AV) : Option Bool :=
 match ti P t with
 | none => none
 | some i => match i.k with
  | .iface _ => FT P lit x y
  | .ptr _ => match x, y with
   | .nilp, .nilp => some true
   | .nilp, .ptr _ _ => some false
   | .ptr _ _, .nilp => some false
   | _, _ => none
  | .slice _ => match x, y with
   | .nilS, .nilS => some true
   | .sl (_ :: _), .nilS => some false
   | .nilS, .sl (_ :: _) => some false
   | _, _ => none
  | .fn => match x, y with
   | .nilF, .nilF => some true
   | .fn _ _, .nilF => some false
   | .nilF, .fn _ _ => some false
   | _, _ => none
  | .bool => match x with | .bool _ => FN P 100 t x y | _ => none
  | .struct true _ => match x with | .agg _ => FN P 100 t x y | _ => none
  | _ => none
def B8 (op : BinOp) (k : IntKind) (a b : Int) : Option AV :=
 match op with
 | .add => some (.int k (k.wrap (a + b)))
 | .sub => some (.int k (k.wrap (a - b)))
 | .mul => some (.int k (k.wrap (a * b)))
 | .quo => if b = 0 then none else some (.int k (k.wrap (a.tdiv b)))
 | .rem => if b = 0 then none else some (.int k (a.tmod b))
 | .and => some (.int k (bits .and k a b))
 | .or => some (.int k (bits .or k a b))
 | .xor => some (.int k (bits .xor k a b))
 | .andNot => some (.int k (bits .andNot k a b))
 | .eql => some (.bool (a == b))
 | .neq => some (.bool (a != b))
 | .lss => some (.bool (decide (a < b)))
 | .leq => some (.bool (decide (a ≤ b)))
 | .gtr => some (.bool (decide (a > b)))
 | .geq => some (.bool (decide (a ≥ b)))
 | _ => none
def HS (op : BinOp) (k : IntKind) (a b : Int) : Option AV :=
 if b < 0 then none else match op with
 | .shl => some (.int k (k.wrap (a * 2 ^ min b.toNat k.bits)))
 | .shr => some (.int k (a.fdiv (2 ^ min b.toNat k.bits)))
 | _ => none
def Hn (op : BinOp) (a b : ByteArray) : Option AV :=
 match op with
 | .eql => some (.bool (a.toList == b.toList))
 | .neq => some (.bool !(a.toList == b.toList))
 | .lss => some (.bool (Op.bytesLess a.toList b.toList))
 | .leq => some (.bool (Op.bytesLess a.toList b.toList || a.toList == b.toList))
 | .gtr => some (.bool !(Op.bytesLess a.toList b.toList || a.toList == b.toList))
 | .geq => some (.bool !(Op.bytesLess a.toList b.toList))
 | _ => none
def v7 : BinOp → Bool
 | .shl | .shr => true
 | _ => false
def rB (P : Program) [dI P] (op : BinOp) (t : TypeId) (lit : Bool) (x y : AV) : Option AV :=
 match x, y with
 | .int k a, .int k' b => if v7 op then HS op k a b else if k = k' then B8 op k a b else none
 | .str a, .str b => Hn op a b
 | x, y => match op with
  | .eql => match eqv P lit t x y with | some r => some (.bool r) | none => none
  | .neq => match eqv P lit t x y with | some r => some (.bool !r) | none => none
  | _ => none
section
variable {P : Program} [dI P] {w : World} {g : G}
theorem zT {op : BinOp} {k : IntKind} {a b : Int} {r : AV} (hs : v7 op = false) (h : B8 op k a b = some r) (t : TypeId) :
  ∃ u, (binOp op t (.int k a) (.int k b)).run P w = .ok u w ∧ bU w g r u := by
 cases op <;> simp only [B8] at h <;> first | (simp [v7] at hs; done) | (cases h; done) | skip
 case quo =>
  split at h
  · cases h
  ·
   rename_i hb
   obtain rfl := Ke h
   exact ⟨.int k (k.wrap (a.tdiv b)), by simp [binOp, Op.intDiv, hb], rfl⟩
 case rem =>
  split at h
  · cases h
  ·
   rename_i hb
   obtain rfl := Ke h
   exact ⟨.int k (a.tmod b), by simp [binOp, Op.intDiv, hb], rfl⟩
 all_goals obtain rfl := Ke h
 case add => exact ⟨.int k (k.wrap (a + b)), by simp [binOp, Op.intArith], rfl⟩
 case sub => exact ⟨.int k (k.wrap (a - b)), by simp [binOp, Op.intArith], rfl⟩
 case mul => exact ⟨.int k (k.wrap (a * b)), by simp [binOp, Op.intArith], rfl⟩
 case and => exact ⟨.int k (bits .and k a b), by simp [binOp, intBits_and], rfl⟩
 case or => exact ⟨.int k (bits .or k a b), by simp [binOp, intBits_or], rfl⟩
 case xor => exact ⟨.int k (bits .xor k a b), by simp [binOp, intBits_xor], rfl⟩
 case andNot => exact ⟨.int k (bits .andNot k a b), by simp [binOp, intBits_andNot], rfl⟩
 case eql => exact ⟨.bool (a == b), by simp [binOp, Op.intCmp], rfl⟩
 case neq => exact ⟨.bool (a != b), by simp [binOp, Op.intCmp], rfl⟩
 case lss => exact ⟨.bool (decide (a < b)), by simp [binOp, Op.intCmp], rfl⟩
 case leq => exact ⟨.bool (decide (a ≤ b)), by simp [binOp, Op.intCmp], rfl⟩
 case gtr => exact ⟨.bool (decide (a > b)), by simp [binOp, Op.intCmp], rfl⟩
 case geq => exact ⟨.bool (decide (a ≥ b)), by simp [binOp, Op.intCmp], rfl⟩
theorem BZ {op : BinOp} {k k' : IntKind} {a b : Int} {r : AV} (h : HS op k a b = some r) (t : TypeId) :
  ∃ u, (binOp op t (.int k a) (.int k' b)).run P w = .ok u w ∧ bU w g r u := by
 unfold HS at h
 split at h
 · cases h
 ·
  rename_i hb
  cases op <;> first | (cases h; done) | skip
  all_goals obtain rfl := Ke h
  case shl => exact ⟨.int k (k.wrap (a * 2 ^ min b.toNat k.bits)), by simp [binOp, Op.shift, hb], rfl⟩
  case shr => exact ⟨.int k (a.fdiv (2 ^ min b.toNat k.bits)), by simp [binOp, Op.shift, hb], rfl⟩
theorem zp {op : BinOp} {a b : ByteArray} {r : AV} (h : Hn op a b = some r) (t : TypeId) :
  ∃ u, (binOp op t (.string a) (.string b)).run P w = .ok u w ∧ bU w g r u := by
 cases op <;> simp only [Hn] at h <;> first | (cases h; done) | skip
 all_goals obtain rfl := Ke h
 case eql => exact ⟨.bool (a.toList == b.toList), by simp [binOp, Op.stringOp], rfl⟩
 case neq => exact ⟨.bool !(a.toList == b.toList), by simp [binOp, Op.stringOp], rfl⟩
 case lss => exact ⟨.bool (Op.bytesLess a.toList b.toList), by simp [binOp, Op.stringOp], rfl⟩
 case leq => exact ⟨.bool (Op.bytesLess a.toList b.toList || a.toList == b.toList), by simp [binOp, Op.stringOp], rfl⟩
 case gtr => exact ⟨.bool !(Op.bytesLess a.toList b.toList || a.toList == b.toList), by simp [binOp, Op.stringOp], rfl⟩
 case geq => exact ⟨.bool !(Op.bytesLess a.toList b.toList), by simp [binOp, Op.stringOp], rfl⟩
theorem BO {op : BinOp} {lit : Bool} {X Y : Operand} {t : TypeId} {ms : Array (String × TypeId)} (hl : lit = (xf X || xf Y)) {x y : AV} {u v : Value} {r : Bool}
  (hu : P.underlying t = some (.interface ms)) (h : FT P lit x y = some r) (hx : bU w g x u) (hy : bU w g y v) :
  (eqGuard op t X Y u v).run P w = .ok () w ∧ (∀ n, (Op.equalIn (n + 2) t u v).run P w = .ok r w) ∧ (∀ k n, u ≠ .int k n) ∧ (∀ s, u ≠ .string s) ∧ (∀ k n, u ≠ .float k n) ∧ (∀ k n m, u ≠ .complex k n m) := by
 cases x <;> simp only [FT] at h <;> first | (cases h; done) | skip
 case nilI =>
  obtain rfl : u = _ := hx
  cases y <;> simp only [FT] at h <;> first | (cases h; done) | skip
  case nilI =>
   obtain rfl : v = _ := hy
   cases lit with
   | false => cases h
   | true =>
    simp only [if_true] at h
    obtain rfl := Ke h
    refine ⟨?_, fun n => by rw [Op.equalIn]; simp only [Sem.run_bind, run_underlying hu, Result.andThen_ok, Sem.run_pure], by simp, by simp, by simp, by simp⟩
    have hc : xf X = true ∨ xf Y = true := by simpa using hl.symm
    rcases hc with hc | hc
    ·
     cases X with
     | const c => simp [eqGuard_nil_constL]
     | _ => simp [xf] at hc
    ·
     cases Y with
     | const c => simp [eqGuard_nil_constR]
     | _ => simp [xf] at hc
  case iface t' y =>
   obtain ⟨z, rfl, _⟩ := hy
   obtain rfl := Ke h
   exact ⟨by simp [eqGuard_nil_iface], fun n => by rw [Op.equalIn]; simp only [Sem.run_bind, run_underlying hu, Result.andThen_ok, Sem.run_pure], by simp, by simp, by simp, by simp⟩
 case iface t' x =>
  obtain ⟨z, rfl, hz⟩ := hx
  cases y <;> simp only [FT] at h <;> first | (cases h; done) | skip
  case nilI =>
   obtain rfl : v = _ := hy
   obtain rfl := Ke h
   exact ⟨by simp [eqGuard_at_iface], fun n => by rw [Op.equalIn]; simp only [Sem.run_bind, run_underlying hu, Result.andThen_ok, Sem.run_pure], by simp, by simp, by simp, by simp⟩
  case iface t'' y =>
   obtain ⟨z', rfl, hz'⟩ := hy
   refine ⟨by simp [eqGuard_at_iface], fun n => ?_, by simp, by simp, by simp, by simp⟩
   by_cases hb : Nat.beq t' t'' = true
   ·
    rw [if_pos hb] at h
    simp only [Nat.beq_eq] at hb
    subst hb
    cases hi : ti P t' with
    | none => simp [hi] at h
    | some i =>
     simp only [hi] at h
     obtain ⟨inf, d, zz, ht⟩ := aV hi
     split at h
     ·
      rename_i hc
      split at h
      ·
       rename_i hk
       split at h
       ·
        rename_i hkk; subst hkk
        obtain rfl := Ke h
        obtain rfl : z = _ := hz
        obtain rfl : z' = _ := hz'
        have hcc : inf.comparable = true := by rw [← ht.cmp]; exact hc
        rw [Op.equalIn]
        simp only [Sem.run_bind, run_underlying hu, Result.andThen_ok, ne_eq, not_true_eq_false, if_false, ht.run_info, hcc, Bool.not_true, Bool.false_eq_true]
        exact run_equalIn_int w n t' _ _ _ _ (by rw [ht.und, ht.desc_int hk])
       · cases h
      · cases h
     · cases h
   ·
    rw [if_neg hb] at h
    obtain rfl := Ke h
    have hne : t' ≠ t'' := fun e => hb (by simp [e])
    rw [Op.equalIn]
    simp only [Sem.run_bind, run_underlying hu, Result.andThen_ok, ne_eq, hne, not_false_eq_true, if_true, Sem.run_pure]
def I7 : Value → Bool
 | .int _ _ | .float _ _ | .complex _ _ _ | .string _ => false
 | _ => true
theorem nw {t : TypeId} {u v : Value} {r : Bool} (ho : I7 u = true) (h : (Op.equal t u v).run P w = .ok r w) :
  (binOp .eql t u v).run P w = .ok (.bool r) w ∧ (binOp .neq t u v).run P w = .ok (.bool !r) w := by
 have e1 : binOp .eql t u v = (do pure (.bool (← Op.equal t u v)) : Sem Value) := by cases u <;> first | (simp [I7] at ho; done) | rfl
 have e2 : binOp .neq t u v = (do pure (.bool (!(← Op.equal t u v))) : Sem Value) := by cases u <;> first | (simp [I7] at ho; done) | rfl
 rw [e1, e2]
 simp [h]
theorem Fl {n : Nat} {t : TypeId} {xs : List AV} {y : AV} {r : Bool} (h : FN P (n + 1) t (.agg xs) y = some r) : ∃ ys, y = .agg ys := by
 simp only [FN] at h
 cases hi : ti P t with
 | none => simp [hi] at h
 | some i =>
  simp only [hi] at h
  split at h <;> first | (cases h; done) | skip
  all_goals first
   | (rename_i hk he; cases he; done)
   | exact ⟨_, rfl⟩
   | simp_all
theorem vk {op : BinOp} {lit : Bool} {X Y : Operand} {t : TypeId} (hl : lit = (xf X || xf Y)) {x y : AV} {u v : Value} {r : Bool}
  (h : eqv P lit t x y = some r) (hx : bU w g x u) (hy : bU w g y v) :
  (eqGuard op t X Y u v).run P w = .ok () w ∧ (Op.equal t u v).run P w = .ok r w ∧ I7 u = true := by
 unfold eqv at h
 cases hi : ti P t with
 | none => simp [hi] at h
 | some i =>
  simp only [hi] at h
  obtain ⟨inf, d, zz, ht⟩ := aV hi
  split at h
  ·
   rename_i hk
   obtain ⟨ms, hd, _⟩ := ht.desc_iface hk
   obtain ⟨h1, h2, h3, h4, h5, h6⟩ := BO (op := op) hl (by rw [ht.und, hd]) h hx hy
   exact ⟨h1, h2 9998, by cases u <;> first | rfl | (exact absurd rfl (h3 _ _)) | (exact absurd rfl (h4 _)) | (exact absurd rfl (h5 _ _)) | (exact absurd rfl (h6 _ _ _))⟩
  ·
   rename_i hk
   have hd := ht.desc_ptr hk
   subst hd
   split at h <;> first | (cases h; done) | skip
   ·
    obtain rfl := Ke h; obtain rfl : u = _ := hx; obtain rfl : v = _ := hy
    exact ⟨by simp [eqGuard_at_pointer], by simp only [Op.equal, Op.maxDepth]; rw [Op.equalIn]; simp only [Sem.run_bind, run_underlying ht.und, Result.andThen_ok, Sem.run_pure, Option.isNone], rfl⟩
   ·
    obtain rfl := Ke h; obtain rfl : u = _ := hx; obtain ⟨b, _, rfl⟩ := hy
    exact ⟨by simp [eqGuard_at_pointer], by simp only [Op.equal, Op.maxDepth]; rw [Op.equalIn]; simp only [Sem.run_bind, run_underlying ht.und, Result.andThen_ok, Sem.run_pure, Option.isNone], rfl⟩
   ·
    obtain rfl := Ke h; obtain ⟨b, _, rfl⟩ := hx; obtain rfl : v = _ := hy
    exact ⟨by simp [eqGuard_at_pointer], by simp only [Op.equal, Op.maxDepth]; rw [Op.equalIn]; simp only [Sem.run_bind, run_underlying ht.und, Result.andThen_ok, Sem.run_pure], rfl⟩
  ·
   rename_i hk
   have hd := ht.desc_slice hk
   subst hd
   split at h <;> first | (cases h; done) | skip
   ·
    obtain rfl := Ke h; obtain rfl : u = _ := hx; obtain rfl : v = _ := hy
    exact ⟨by simp [eqGuard_at_slice], by simp only [Op.equal, Op.maxDepth]; rw [Op.equalIn]; simp only [Sem.run_bind, run_underlying ht.und, Result.andThen_ok, Sem.run_pure, Option.isNone], rfl⟩
   ·
    obtain rfl := Ke h; obtain ⟨a, cap, rfl, _, hn, _⟩ := hx; obtain rfl : v = _ := hy
    cases a with
    | none => exact absurd (hn rfl) (by simp)
    | some ad => exact ⟨by simp [eqGuard_at_slice], by simp only [Op.equal, Op.maxDepth]; rw [Op.equalIn]; simp only [Sem.run_bind, run_underlying ht.und, Result.andThen_ok, Sem.run_pure], rfl⟩
   ·
    obtain rfl := Ke h; obtain rfl : u = _ := hx; obtain ⟨a, cap, rfl, _, hn, _⟩ := hy
    cases a with
    | none => exact absurd (hn rfl) (by simp)
    | some ad => exact ⟨by simp [eqGuard_at_slice], by simp only [Op.equal, Op.maxDepth]; rw [Op.equalIn]; simp only [Sem.run_bind, run_underlying ht.und, Result.andThen_ok, Sem.run_pure, Option.isNone], rfl⟩
  ·
   rename_i hk
   obtain ⟨a, b, c, hd⟩ := ht.desc_fn hk
   subst hd
   split at h <;> first | (cases h; done) | skip
   ·
    obtain rfl := Ke h; obtain rfl : u = _ := hx; obtain rfl : v = _ := hy
    exact ⟨by simp [eqGuard_at_nilFunc], by simp only [Op.equal, Op.maxDepth]; rw [Op.equalIn]; simp only [Sem.run_bind, run_underlying ht.und, Result.andThen_ok, Sem.run_pure], rfl⟩
   ·
    obtain rfl := Ke h; obtain ⟨_, rfl, _⟩ := hx; obtain rfl : v = _ := hy
    exact ⟨by simp [eqGuard_at_func], by simp only [Op.equal, Op.maxDepth]; rw [Op.equalIn]; simp only [Sem.run_bind, run_underlying ht.und, Result.andThen_ok, Sem.run_pure], rfl⟩
   ·
    obtain rfl := Ke h; obtain rfl : u = _ := hx; obtain ⟨_, rfl, _⟩ := hy
    exact ⟨by simp [eqGuard_at_nilFunc], by simp only [Op.equal, Op.maxDepth]; rw [Op.equalIn]; simp only [Sem.run_bind, run_underlying ht.und, Result.andThen_ok, Sem.run_pure], rfl⟩
  ·
   rename_i hk
   split at h
   ·
    obtain rfl : u = _ := hx
    exact ⟨by simp [eqGuard_at_bool], qI 100 t _ _ _ _ r h rfl hy 10000 (by omega), rfl⟩
   · cases h
  ·
   rename_i fs hk
   split at h
   ·
    have hh := qI (w := w) (g := g) 100 t _ _ _ _ r h hx hy 10000 (by omega)
    obtain ⟨us, rfl, hus⟩ := hx
    refine ⟨?_, hh, rfl⟩
    obtain ⟨fl, hd, hfs, hq⟩ := ht.desc_struct hk
    replace hq := hq.symm
    simp only [Bool.and_eq_true, Bool.not_eq_true'] at hq
    obtain ⟨ys, rfl⟩ := Fl (n := 99) h
    obtain ⟨vs, rfl, _⟩ := hy
    exact run_eqGuard_agg w op t X Y _ _ hq.1.2
   · cases h
  · cases h
theorem yY {op : BinOp} {t : TypeId} {X Y : Operand} {x y r : AV} {u v : Value} (h : rB P op t (xf X || xf Y) x y = some r) (hx : bU w g x u) (hy : bU w g y v) :
  ∃ q, (do eqGuard op t X Y u v; binOp op t u v : Sem Value).run P w = .ok q w ∧ bU w g r q := by
 unfold rB at h
 split at h
 ·
  obtain rfl : u = _ := hx
  obtain rfl : v = _ := hy
  split at h
  ·
   obtain ⟨q, hq, hr⟩ := BZ (P := P) (w := w) (g := g) (k' := ‹_›) h t
   exact ⟨q, by simp [eqGuard_at_int, hq], hr⟩
  ·
   rename_i hs
   split at h
   ·
    rename_i hk; subst hk
    obtain ⟨q, hq, hr⟩ := zT (P := P) (w := w) (g := g) (by simpa using hs) h t
    exact ⟨q, by simp [eqGuard_at_int, hq], hr⟩
   · cases h
 ·
  obtain rfl : u = _ := hx
  obtain rfl : v = _ := hy
  obtain ⟨q, hq, hr⟩ := zp (P := P) (w := w) (g := g) h t
  exact ⟨q, by simp [eqGuard_at_string, hq], hr⟩
 ·
  split at h
  ·
   cases he : eqv P (xf X || xf Y) t x y with
   | none => simp [he] at h
   | some b =>
    simp only [he] at h
    obtain rfl := Ke h
    obtain ⟨h1, h2, h3⟩ := vk (op := .eql) rfl he hx hy
    exact ⟨.bool b, by simp only [Sem.run_bind, h1, Result.andThen_ok, (nw h3 h2).1], rfl⟩
  ·
   cases he : eqv P (xf X || xf Y) t x y with
   | none => simp [he] at h
   | some b =>
    simp only [he] at h
    obtain rfl := Ke h
    obtain ⟨h1, h2, h3⟩ := vk (op := .neq) rfl he hx hy
    exact ⟨.bool !b, by simp only [Sem.run_bind, h1, Result.andThen_ok, (nw h3 h2).2], rfl⟩
  · cases h
end
end Go.Pv
namespace Go.Pv
set_option linter.unusedSimpArgs false
set_option linter.unusedSectionVars false
set_option linter.unusedVariables false
def ka : AV → Option (List AV)
 | .agg cs => some cs
 | .any => none
 | .tup _ => none
 | .raw v => if v.oneCell' then some [.raw v] else none
 | v => some [v]
def mH (cs : List AV) (off : Nat) : List AV → List AV
 | [] => cs
 | v :: r => mH (cs.set off v) (off + 1) r
def zc : List AV → Nat → List AV → List AV
 | l, _, [] => l
 | [], _, _ :: _ => []
 | _ :: r, 0, y :: ys => y :: zc r 0 ys
 | x :: r, k + 1, y :: ys => x :: zc r k (y :: ys)
theorem qd : ∀ (ys : List AV) (x : AV) (r : List AV) (k : Nat), mH (x :: r) (k + 1) ys = x :: mH r k ys
 | [], _, _, _ => rfl
 | y :: ys, x, r, k => by rw [mH, mH, List.set_cons_succ, qd ys]
theorem ya : ∀ (ys : List AV) (k : Nat), mH [] k ys = []
 | [], _ => rfl
 | y :: ys, k => by rw [mH, List.set_nil, ya ys]
theorem vJ : ∀ (l : List AV) (k : Nat) (ys : List AV), zc l k ys = mH l k ys
 | l, _, [] => by cases l <;> simp [zc, mH]
 | [], _, _ :: _ => by rw [ya]; rfl
 | _ :: r, 0, y :: ys => by rw [zc, vJ r 0 ys, mH, List.set_cons_zero, qd]
 | x :: r, k + 1, y :: ys => by rw [zc, vJ r k, qd]
def xI (P : Program) [dI P] (fs : List (Nat × TypeId)) (cs : List AV) : List (Nat × AV) → Option (List AV)
 | [] => some cs
 | (i, v) :: r => match fs[i]? with
  | none => none
  | some (off, t) => match ti P t, ka v with
   | some j, some vs => if Nat.beq vs.length j.size && Nat.ble (off + vs.length) cs.length then xI P fs (zc cs off vs) r else none
   | _, _ => none
def JL (op : UnOp) : AV → Option AV
 | .int k n => match op with
  | .neg => some (.int k (k.wrap (0 - n)))
  | .xor => some (.int k (bits .xor k (if k.signed then -1 else k.max) n))
  | _ => none
 | .bool b => match op with
  | .not => some (.bool !b)
  | _ => none
 | _ => none
def D7 (P : Program) [dI P] (src dst : TypeId) (x : AV) : Option AV :=
 match ti P src, ti P dst with
 | some i, some j => match i.k, j.k, x with
  | .int _, .int k, .int _ n => some (.int k (k.wrap n))
  | .str, .str, .str s => some (.str s)
  | _, _, _ => none
 | _, _ => none
def oV (P : Program) [dI P] (t : TypeId) (x : AV) (f : Nat) : Option AV :=
 match ti P t with
 | none => none
 | some i => match i.k with
  | .struct _ fs => match fs[f]? with
   | none => none
   | some (off, u) => match ti P u with
    | none => none
    | some j => if Nat.beq j.size 0 then none else match x with
     | .ptr id o => some (.ptr id (o + off))
     | .rd cs => some (.rd (cs.drop off))
     | .eptr id r c => some (.eptr id r (c + off))
     | _ => none
  | _ => none
def zV (P : Program) [dI P] (t : TypeId) (x : AV) (f : Nat) : Option AV :=
 match ti P t with
 | none => none
 | some i => match i.k with
  | .struct _ fs => match fs[f]? with
   | none => none
   | some (off, u) => match ti P u, x with
    | some j, .agg cs => sA j cs off
    | _, _ => none
  | _ => none
def tN (P : Program) [dI P] (b : Builtin) (ats : Array TypeId) (xs : List AV) : Option AV :=
 match b, xs with
 | .len, [x] => match ats[0]? with
  | some t => match ti P t with
   | some i => match i.k, x with
    | .str, .str s => some (.int .i64 s.size)
    | .slice _, .sl l => some (.int .i64 l.length)
    | _, _ => none
   | none => none
  | none => none
 | .min, [.int k x, .int k' y] => if k = k' then some (.int k (if y < x then y else x)) else none
 | .max, [.int k x, .int k' y] => if k = k' then some (.int k (if y > x then y else x)) else none
 | _, _ => none
def oF (P : Program) [dI P] (s : St) : Op → Option AV
 | .move x | .assign x => some (ev s.σ x)
 | .pick c a b => match ev s.σ c with
  | .bool true => some (ev s.σ a)
  | .bool false => some (ev s.σ b)
  | _ => none
 | .load t x => match ti P t with
  | some i => q8 s.H i (ev s.σ x)
  | none => none
 | .nilCheck x => match ev s.σ x with
  | .ptr i o => some (.ptr i o)
  | .rd c => some (.rd c)
  | .eptr i r c => some (.eptr i r c)
  | .fn f c => some (.fn f c)
  | _ => none
 | .binOp op t x y _ => rB P op t (xf x || xf y) (gj s x) (gj s y)
 | .unOp op _ x => JL op (ev s.σ x)
 | .convert src dst x => D7 P src dst (ev s.σ x)
 | .makeInterface t x => match ti P t with
  | some i => match i.k with
   | .iface _ => none
   | .bad => none
   | _ => some (.iface t (gj s x))
  | none => none
 | .makeFunc (.func f) first captured => match first.toList with
  | [] => some (.fn f (captured.toList.map (ev s.σ)))
  | _ => match captured.toList with
   | [] => some (.bfn f (first.toList.map (ev s.σ)))
   | _ => none
 | .fieldAddr t x f => oV P t (ev s.σ x) f
 | .field t x f => zV P t (ev s.σ x) f
 | .extract x i => match ev s.σ x with
  | .tup vs => vs[i]?
  | _ => none
 | .build t parts => match ti P t with
  | some i => match i.k with
   | .struct _ fs => if fs.all (fun p => (ti P p.2).isSome) = false then none else match xI P fs i.zero (parts.toList.map fun p => (p.1, ev s.σ p.2)) with
    | some cs => some (.agg cs)
    | none => none
   | _ => none
  | none => none
 | .call ⟨.builtin b, args, ats⟩ => tN P b ats (args.toList.map (gj s))
 | _ => none
section
variable {P : Program} [dI P] {w : World} {g : G}
theorem qK {v : Value} (h : v.oneCell' = true) : v.cells.toList = [v] := by cases v <;> first | rfl | (simp [Value.oneCell'] at h; done)
theorem ij {x : AV} {cs : List AV} {v : Value} (h : ka x = some cs) (hx : bU w g x v) (hs : ∀ id v, g.own id = some v → v.oneCell' = true) : aG w g cs v.cells.toList := by
 cases x <;> simp only [ka] at h <;> first | (cases h; done) | skip
 case agg ys =>
  obtain rfl := Ke h
  obtain ⟨vs, rfl, hv⟩ := hx
  simpa [Value.cells] using hv
 case raw u =>
  split at h
  ·
   rename_i h1
   obtain rfl := Ke h
   obtain rfl : v = _ := hx
   rw [qK h1]
   exact ⟨_, [], rfl, rfl, rfl⟩
  · cases h
 all_goals
  obtain rfl := Ke h
 case bool b => obtain rfl : v = _ := hx; exact ⟨_, [], rfl, rfl, rfl⟩
 case int k n => obtain rfl : v = _ := hx; exact ⟨_, [], rfl, rfl, rfl⟩
 case str k => obtain rfl : v = _ := hx; exact ⟨_, [], rfl, rfl, rfl⟩
 case nilp => obtain rfl : v = _ := hx; exact ⟨_, [], rfl, rfl, rfl⟩
 case nilS => obtain rfl : v = _ := hx; exact ⟨_, [], rfl, rfl, rfl⟩
 case nilM => obtain rfl : v = _ := hx; exact ⟨_, [], rfl, rfl, rfl⟩
 case ptr id off => obtain ⟨b, hb, rfl⟩ := hx; exact ⟨_, [], rfl, ⟨b, hb, rfl⟩, rfl⟩
 case rd c => obtain ⟨b, o, rfl, hr⟩ := hx; exact ⟨_, [], rfl, ⟨b, o, rfl, hr⟩, rfl⟩
 case sl c => obtain ⟨a, cap, rfl, hr⟩ := hx; exact ⟨_, [], rfl, ⟨a, cap, rfl, hr⟩, rfl⟩
 case nilI => obtain rfl : v = _ := hx; exact ⟨_, [], rfl, rfl, rfl⟩
 case err t e => obtain rfl : v = _ := hx; cases e <;> exact ⟨_, [], rfl, rfl, rfl⟩
 case iface t y => obtain ⟨z, rfl, hr⟩ := hx; exact ⟨_, [], rfl, ⟨z, rfl, hr⟩, rfl⟩
 case nilF => obtain rfl : v = _ := hx; exact ⟨_, [], rfl, rfl, rfl⟩
 case fn f c => obtain ⟨vs, rfl, hr⟩ := hx; exact ⟨_, [], rfl, ⟨vs, rfl, hr⟩, rfl⟩
 case bfn f c => obtain ⟨vs, rfl, hr⟩ := hx; exact ⟨_, [], rfl, ⟨vs, rfl, hr⟩, rfl⟩
 case eptr id r c => obtain ⟨ad, l, cap, e, rfl⟩ := hx; exact ⟨_, [], rfl, ⟨ad, l, cap, e, rfl⟩, rfl⟩
 case via id k =>
  rw [qK hx.choose_spec.2.2]
  exact ⟨_, [], rfl, hx, rfl⟩
 case own id =>
  rw [qK (hs id v hx)]
  exact ⟨_, [], rfl, hx, rfl⟩
theorem uU (off : Nat) : ∀ (vs : List (Value × Nat)) (cs : Array Value),
  (vs.foldl (fun (cs : Array Value) (p : Value × Nat) => cs.setIfInBounds (off + p.2) p.1) cs).toList = vs.foldl (fun (l : List Value) (p : Value × Nat) => l.set (off + p.2) p.1) cs.toList := by
 intro vs
 induction vs with
 | nil => intro cs; rfl
 | cons v vs ih => intro cs; simp only [List.foldl_cons]; rw [ih]; simp
theorem pd : ∀ {xs : List AV} {vs : List Value} {off k : Nat} {cs : List AV} {us : List Value}, aG w g cs us → aG w g xs vs →
  aG w g (mH cs (off + k) xs) ((vs.zipIdx k).foldl (fun (l : List Value) (p : Value × Nat) => l.set (off + p.2) p.1) us)
 | [], _, _, _, _, _, hc, hx => by simp [aG] at hx; subst hx; simpa [mH] using hc
 | x :: xs, _, off, k, cs, us, hc, ⟨v, vs', e, r, rest⟩ => by
  subst e
  simp only [List.zipIdx_cons, List.foldl_cons, mH]
  exact pd (off := off) (k := k + 1) (cs := cs.set (off + k) x) (us := us.set (off + k) v) (aG.set hc r) rest
theorem q9 (hs : ∀ id v, g.own id = some v → v.oneCell' = true) {fl : Array Field} {places : Nat → Option (Nat × Nat)}
  (hp : ∀ i off t j, (fl.toList.map fun f => (f.offset, f.type))[i]? = some (off, t) → ti P t = some j → places i = some (off, j.size)) :
  ∀ {parts : List (Nat × AV)} {vals : List (Nat × Value)} {cs : List AV} {us : Array Value} {r : List AV}, parts.length = vals.length →
   (∀ (i : Nat) (p : Nat × AV) (q : Nat × Value), parts[i]? = some p → vals[i]? = some q → p.1 = q.1 ∧ bU w g p.2 q.2) → aG w g cs us.toList →
   xI P (fl.toList.map fun f => (f.offset, f.type)) cs parts = some r → ∃ rs, Instr.fill places us vals = some rs ∧ aG w g r rs.toList
 | [], vals, cs, us, r, hl, _, hc, h => by
  have : vals = [] := by simpa using hl.symm
  subst this
  simp only [xI] at h
  obtain rfl := Ke h
  exact ⟨us, rfl, hc⟩
 | (i, v) :: parts, [], _, _, _, hl, _, _, _ => by simp at hl
 | (i, v) :: parts, (i', u) :: vals, cs, us, r, hl, hv, hc, h => by
  obtain ⟨rfl, hr⟩ := hv 0 _ _ rfl rfl
  simp only [xI] at h
  cases hi : (fl.toList.map fun f => (f.offset, f.type))[i]? with
  | none => simp [hi] at h
  | some q =>
   obtain ⟨off, t⟩ := q
   simp only [hi] at h
   cases hj : ti P t with
   | none => simp [hj] at h
   | some j =>
    cases hcv : ka v with
    | none => simp [hj, hcv] at h
    | some vs =>
     simp only [hj, hcv, vJ] at h
     split at h
     ·
      rename_i hb
      simp only [Bool.and_eq_true, Nat.beq_eq, Nat.ble_eq] at hb
      have hcells := ij hcv hr hs
      have hlen : u.cells.size = vs.length := by have := hcells.length; simpa using this
      have hus : us.size = cs.length := by have := hc.length; simpa using this
      obtain ⟨rs, h1, h2⟩ := q9 hs hp (parts := parts) (vals := vals) (cs := mH cs off vs)
       (us := u.cells.zipIdx.foldl (fun (cs : Array Value) (p : Value × Nat) => cs.setIfInBounds (off + p.2) p.1) us) (r := r) (by simpa using hl)
       (fun k p q h1 h2 => hv (k + 1) p q (by simpa using h1) (by simpa using h2)) (by
        have := pd (off := off) (k := 0) (cs := cs) (us := us.toList) hc hcells
        rw [← Array.foldl_toList, Array.toList_zipIdx, uU]
        simpa using this) h
      refine ⟨rs, ?_, h2⟩
      simp only [Instr.fill, hp i off t j hi hj, hlen, hb.1, ne_eq, not_true_eq_false, decide_false, Bool.false_or]
      rw [if_neg (by simp; omega)]
      exact h1
     · cases h
theorem map_toArray {α β : Type} (f : α → β) (xs : Array α) : xs.map f = (xs.toList.map f).toArray := by cases xs; simp
theorem yH {α β : Type} {f : α → Sem β} {k : α → β} : ∀ (l : List α), (∀ x ∈ l, (f x).run P w = .ok (k x) w) → (l.mapM f).run P w = .ok (l.map k) w
 | [], _ => rfl
 | x :: l, h => by
  simp only [List.mapM_cons, Sem.run_bind, h x (by simp), Result.andThen_ok, yH l (fun y hy => h y (by simp [hy])), Sem.run_pure, List.map_cons]
theorem dq {x : Sem Value} {u : Value} {w' : World} (h : x.run P w = .ok u w') : (do pure (.value (← x)) : Sem Next).run P w = .ok (.value u) w' := by simp [h]
theorem bG {x : Sem Value} {u : Value} (h : x.run P w = .ok u w) : (do pure (.value (← x)) : Sem Next).run P w = .ok (.value u) w := by simp [h]
theorem xo {src dst : TypeId} {x r : AV} {v : Value} (h : D7 P src dst x = some r) (hx : bU w g x v) : ∃ u, (convert src dst v).run P w = .ok u w ∧ bU w g r u := by
 unfold D7 at h
 cases hi : ti P src with
 | none => simp [hi] at h
 | some i =>
  cases hj : ti P dst with
  | none => simp [hi, hj] at h
  | some j =>
   simp only [hi, hj] at h
   obtain ⟨_, _, _, h1⟩ := aV hi
   obtain ⟨_, _, _, h2⟩ := aV hj
   split at h <;> first | (cases h; done) | skip
   ·
    rename_i hk1 hk2
    obtain rfl := Ke h
    obtain rfl : v = _ := hx
    have e1 := h1.desc_int hk1
    have e2 := h2.desc_int hk2
    subst e1; subst e2
    exact ⟨_, by simp only [convert, Sem.run_bind, h1.run_und, h2.run_und, Result.andThen_ok, Conv.intToInt]; rfl, rfl⟩
   ·
    rename_i hk1 hk2
    obtain rfl := Ke h
    obtain rfl : v = _ := hx
    have e1 := h1.desc_str hk1
    have e2 := h2.desc_str hk2
    subst e1; subst e2
    exact ⟨_, by simp only [convert, Sem.run_bind, h1.run_und, h2.run_und, Result.andThen_ok]; rfl, rfl⟩
theorem qJ {t : TypeId} {f : Nat} {x r : AV} {v : Value} (h : oV P t x f = some r) (hx : bU w g x v) : ∃ u, (Instr.fieldAt t v f).run P w = .ok u w ∧ bU w g r u := by
 unfold oV at h
 cases hi : ti P t with
 | none => simp [hi] at h
 | some i =>
  simp only [hi] at h
  obtain ⟨_, _, _, h1⟩ := aV hi
  split at h
  ·
   rename_i q fs hk
   obtain ⟨fl, hd, hfs, _⟩ := h1.desc_struct hk
   subst hd
   cases hf : fs[f]? with
   | none => simp [hf] at h
   | some p =>
    obtain ⟨off, u⟩ := p
    simp only [hf] at h
    cases hj : ti P u with
    | none => simp [hj] at h
    | some j =>
     simp only [hj] at h
     obtain ⟨_, _, _, h2⟩ := aV hj
     split at h
     · cases h
     ·
      rename_i hz
      have hz' : j.size ≠ 0 := fun e => hz (by simp [e])
      rw [hfs] at hf
      simp only [List.getElem?_map, Option.map_eq_some_iff, Prod.mk.injEq] at hf
      obtain ⟨q, hq, rfl, rfl⟩ := hf
      have hq' : fl[f]? = some q := by simpa using hq
      split at h
      ·
       obtain rfl := Ke h
       obtain ⟨b, hb, rfl⟩ := hx
       exact ⟨.pointer (some ⟨b, _ + q.offset, none⟩), by simp [Instr.fieldAt, h1.run_und, hq', Instr.sureAddr, fieldPlace, h2.run_size, hz', dz], b, hb, rfl⟩
      ·
       obtain rfl := Ke h
       obtain ⟨b, o, rfl, hr⟩ := hx
       exact ⟨.pointer (some ⟨b, o + q.offset, none⟩), by simp [Instr.fieldAt, h1.run_und, hq', Instr.sureAddr, fieldPlace, h2.run_size, hz', dz], b, _, rfl, cq.drop _ hr⟩
      ·
       obtain rfl := Ke h
       rename_i id r c
       obtain ⟨ad, l, cap, e, rfl⟩ := hx
       exact ⟨.pointer (some ⟨ad.block, ad.off + r * g.wd id + (c + q.offset), none⟩), by simp [Instr.fieldAt, h1.run_und, hq', Instr.sureAddr, fieldPlace, h2.run_size, hz', dz, Nat.add_assoc], ad, l, cap, e, rfl⟩
      · cases h
  · cases h
theorem wg {t : TypeId} {f : Nat} {x r : AV} {v : Value} (h : zV P t x f = some r) (hx : bU w g x v) : ∃ u, (Instr.field t v f).run P w = .ok u w ∧ bU w g r u := by
 unfold zV at h
 cases hi : ti P t with
 | none => simp [hi] at h
 | some i =>
  simp only [hi] at h
  obtain ⟨_, _, _, h1⟩ := aV hi
  split at h
  ·
   rename_i q fs hk
   obtain ⟨fl, hd, hfs, _⟩ := h1.desc_struct hk
   subst hd
   cases hf : fs[f]? with
   | none => simp [hf] at h
   | some p =>
    obtain ⟨off, u⟩ := p
    simp only [hf] at h
    rw [hfs] at hf
    simp only [List.getElem?_map, Option.map_eq_some_iff, Prod.mk.injEq] at hf
    obtain ⟨q, hq, rfl, rfl⟩ := hf
    have hq' : fl[f]? = some q := by simpa using hq
    split at h
    ·
     rename_i j cs hj
     obtain ⟨_, _, _, h2⟩ := aV hj
     obtain ⟨vs, rfl, hvs⟩ := hx
     obtain ⟨y, hy, hr⟩ := nz (w := w) (g := g) h2 hvs h
     exact ⟨y, by simp [Instr.field, h1.run_und, hq', asAgg, hy], hr⟩
    · cases h
  · cases h
theorem sL {b : Builtin} {ats : Array TypeId} {t : TypeId} {cs : Array Bool} {xs : List AV} {vs : List Value} {r : AV} (h : tN P b ats xs = some r) (hx : aG w g xs vs) :
  ∃ u, (builtin b ats t cs vs.toArray).run P w = .ok (.value u) w ∧ bU w g r u := by
 unfold tN at h
 split at h
 ·
  obtain ⟨v, _, rfl, hv, rfl⟩ := hx
  cases h0 : ats[0]? with
  | none => simp [h0] at h
  | some t0 =>
   simp only [h0] at h
   cases hi : ti P t0 with
   | none => simp [hi] at h
   | some i =>
    simp only [hi] at h
    obtain ⟨_, _, _, h1⟩ := aV hi
    split at h
    ·
     rename_i hk
     obtain rfl := Ke h
     obtain rfl : v = _ := hv
     have e := h1.desc_str hk
     subst e
     exact ⟨_, by simp only [builtin]; refine bG (u := .int .i64 _) ?_; simp [Builtin.len_, h0, h1.run_und, goInt], rfl⟩
    ·
     rename_i hk
     obtain rfl := Ke h
     obtain ⟨a, cap, rfl, _⟩ := hv
     have e := h1.desc_slice hk
     subst e
     exact ⟨_, by simp only [builtin]; refine bG (u := .int .i64 _) ?_; simp [Builtin.len_, h0, h1.run_und, goInt], rfl⟩
    · cases h
 ·
  obtain ⟨v, _, rfl, hv, u, _, rfl, hu, rfl⟩ := hx
  obtain rfl : v = _ := hv
  obtain rfl : u = _ := hu
  split at h
  ·
   rename_i hk; subst hk
   obtain rfl := Ke h
   exact ⟨_, by simp only [builtin]; refine bG (u := .int _ _) ?_; simp [Builtin.min_, Builtin.min2], rfl⟩
  · cases h
 ·
  obtain ⟨v, _, rfl, hv, u, _, rfl, hu, rfl⟩ := hx
  obtain rfl : v = _ := hv
  obtain rfl : u = _ := hu
  split at h
  ·
   rename_i hk; subst hk
   obtain rfl := Ke h
   exact ⟨_, by simp only [builtin]; refine bG (u := .int _ _) ?_; simp [Builtin.max_, Builtin.max2], rfl⟩
  · cases h
 · cases h
theorem lz {N n0 : Nat} {w0 : World} {g0 : G} {s : St} {a : Act} (hi : dh N n0 w0 g0 s a w g) : ∀ l : List Operand, aG w g (l.map (gj s)) (l.map a.eval)
 | [] => rfl
 | x :: l => ⟨_, _, rfl, dJ hi x, lz hi l⟩
theorem qk {N n0 : Nat} {w0 : World} {g0 : G} {s : St} {a : Act} (hi : dh N n0 w0 g0 s a w g) : ∀ l : List Operand, aG w g (l.map (ev s.σ)) (l.map a.eval)
 | [] => rfl
 | x :: l => ⟨_, _, rfl, bA hi.slots x, qk hi l⟩
theorem iV {N n0 : Nat} {w0 : World} {g0 : G} {s : St} {a : Act} (hi : dh N n0 w0 g0 s a w g) {o : Oper} {r : AV} (h : oF P s o.op = some r) :
  ∃ u, (execOp a.eval o).run P w = .ok (.value u) w ∧ bU w g r u := by
 obtain ⟨dst, op, type, pos, after, guard⟩ := o
 cases op <;> simp only [oF] at h <;> first | (cases h; done) | skip
 case move x =>
  obtain rfl := Ke h
  exact ⟨_, rfl, bA hi.slots x⟩
 case assign x =>
  obtain rfl := Ke h
  exact ⟨_, rfl, bA hi.slots x⟩
 case pick c x y =>
  have hc := bA hi.slots c
  split at h
  ·
   rename_i e; rw [e] at hc
   obtain rfl := Ke h
   have hc' : a.eval c = .bool true := hc
   exact ⟨_, by simp [execOp, hc', asBool], bA hi.slots x⟩
  ·
   rename_i e; rw [e] at hc
   obtain rfl := Ke h
   have hc' : a.eval c = .bool false := hc
   exact ⟨_, by simp [execOp, hc', asBool], bA hi.slots y⟩
  · cases h
 case load t x =>
  cases hj : ti P t with
  | none => simp [hj] at h
  | some j =>
   simp only [hj] at h
   obtain ⟨_, _, _, h1⟩ := aV hj
   obtain ⟨u, hu, hr⟩ := nA h1 hi.cells (bA hi.slots x) h
   exact ⟨u, bG hu, hr⟩
 case nilCheck x =>
  have hx := bA hi.slots x
  split at h <;> first | (cases h; done) | skip
  ·
   rename_i e; rw [e] at hx
   obtain rfl := Ke h
   obtain ⟨b, hb, he⟩ := hx
   exact ⟨_, by simp [execOp, he], b, hb, rfl⟩
  ·
   rename_i e; rw [e] at hx
   obtain rfl := Ke h
   obtain ⟨b, o, he, hr⟩ := hx
   exact ⟨_, by simp [execOp, he], b, o, rfl, hr⟩
  ·
   rename_i e; rw [e] at hx
   obtain rfl := Ke h
   obtain ⟨ad, l, cap, e, he⟩ := hx
   exact ⟨_, by simp [execOp, he], ad, l, cap, e, rfl⟩
  ·
   rename_i e; rw [e] at hx
   obtain rfl := Ke h
   obtain ⟨vs, he, hr⟩ := hx
   exact ⟨_, by simp [execOp, he], vs, rfl, hr⟩
 case binOp op t x y yt =>
  obtain ⟨q, hq, hr⟩ := yY h (dJ hi x) (dJ hi y)
  exact ⟨q, bG hq, hr⟩
 case unOp op t x =>
  have hx := bA hi.slots x
  unfold JL at h
  split at h
  ·
   rename_i k n e; rw [e] at hx
   have hx' : a.eval x = .int k n := hx
   split at h <;> first | (cases h; done) | skip
   ·
    obtain rfl := Ke h
    exact ⟨.int k (k.wrap (0 - n)), by simp [execOp, hx', Op.unary, Op.intArith], rfl⟩
   ·
    obtain rfl := Ke h
    exact ⟨.int k (bits .xor k (if k.signed then -1 else k.max) n), by simp [execOp, hx', Op.unary, intBits_xor], rfl⟩
  ·
   rename_i b e; rw [e] at hx
   have hx' : a.eval x = .bool b := hx
   split at h <;> first | (cases h; done) | skip
   obtain rfl := Ke h
   exact ⟨.bool !b, by simp [execOp, hx', Op.unary], rfl⟩
  · cases h
 case convert src dst' x =>
  obtain ⟨u, hu, hr⟩ := xo h (bA hi.slots x)
  exact ⟨u, bG hu, hr⟩
 case makeInterface t x =>
  cases hj : ti P t with
  | none => simp [hj] at h
  | some j =>
   simp only [hj] at h
   obtain ⟨_, d, _, h1⟩ := aV hj
   have hrun : (Instr.makeInterface t (a.eval x)).run P w = .ok (.iface t (a.eval x)) w := by
    have hk := h1.k
    simp only [Instr.makeInterface, Sem.run_bind, h1.run_und, Result.andThen_ok]
    cases d <;> simp only [pG] at hk <;> simp only [hk] at h <;> first | rfl | (cases h; done)
   have h' : some (AV.iface t (gj s x)) = some r := by
    split at h <;> first | (cases h; done) | exact h
   obtain rfl := Ke h'
   exact ⟨_, bG hrun, _, rfl, dJ hi x⟩
 case makeFunc fn first captured =>
  cases fn <;> simp only [oF] at h <;> first | (cases h; done) | skip
  split at h
  ·
   rename_i hf
   obtain rfl := Ke h
   have hf' : first = #[] := by simpa using hf
   subst hf'
   exact ⟨_, rfl, captured.toList.map a.eval, by rw [← map_toArray]; simp, qk hi captured.toList⟩
  ·
   split at h
   ·
    rename_i hf
    obtain rfl := Ke h
    have hf' : captured = #[] := by simpa using hf
    subst hf'
    exact ⟨_, rfl, first.toList.map a.eval, by rw [← map_toArray]; simp, qk hi first.toList⟩
   · cases h
 case fieldAddr t x f =>
  obtain ⟨u, hu, hr⟩ := qJ h (bA hi.slots x)
  exact ⟨u, bG hu, hr⟩
 case field t x f =>
  obtain ⟨u, hu, hr⟩ := wg h (bA hi.slots x)
  exact ⟨u, bG hu, hr⟩
 case extract x i =>
  have hx := bA hi.slots x
  split at h
  ·
   rename_i vs e; rw [e] at hx
   obtain ⟨us, he, hr⟩ := hx
   obtain ⟨u, hu, hr'⟩ := hr.get h
   exact ⟨u, by simp [execOp, he, Instr.extract, hu], hr'⟩
  · cases h
 case build t parts =>
  cases hj : ti P t with
  | none => simp [hj] at h
  | some j =>
   simp only [hj] at h
   obtain ⟨_, d, z, h1⟩ := aV hj
   split at h
   ·
    rename_i q fs hk
    obtain ⟨fl, hd, hfs, _⟩ := h1.desc_struct hk
    subst hd
    split at h
    · cases h
    rename_i hall
    split at h
    ·
     rename_i cs hcs
     obtain rfl := Ke h
     have hsz : ∀ f ∈ fl.toList, (do pure (f.offset, ← sizeOf f.type) : Sem (Nat × Nat)).run P w = .ok (f.offset, ((ti P f.type).map (·.size)).getD 0) w := by
      intro f hf
      have : (ti P f.type).isSome = true := by
       have hall' : fs.all (fun p => (ti P p.2).isSome) = true := by simpa only [Bool.not_eq_false] using hall
       rw [hfs, List.all_eq_true] at hall'
       exact hall' (f.offset, f.type) (List.mem_map.2 ⟨f, hf, rfl⟩)
      obtain ⟨k, hk⟩ := Option.isSome_iff_exists.1 this
      obtain ⟨_, _, _, h2⟩ := aV hk
      simp [h2.run_size, hk]
     have hmap := yH (P := P) (w := w) (f := fun f : Field => (do pure (f.offset, ← sizeOf f.type) : Sem (Nat × Nat))) fl.toList hsz
     have hz : aG w g j.zero z.cells.toList := by
      rw [h1.zeros]
      generalize z.cells.toList = l
      induction l with
      | nil => rfl
      | cons v l ih => exact ⟨v, l, rfl, iW v, ih⟩
     rw [hfs] at hcs
     obtain ⟨rs, hf1, hf2⟩ := q9 (P := P) (w := w) (g := g) hi.wf.ownSl (fl := fl) (places := fun i => (fl.toList.map fun f => (f.offset, ((ti P f.type).map (·.size)).getD 0))[i]?)
      (fun i off t j h1 h2 => by
       simp only [List.getElem?_map, Option.map_eq_some_iff, Prod.mk.injEq] at h1 ⊢
       obtain ⟨q, hq, rfl, rfl⟩ := h1
       exact ⟨q, hq, rfl, by simp [h2]⟩)
      (parts := parts.toList.map fun p => (p.1, ev s.σ p.2)) (vals := parts.toList.map fun p => (p.1, a.eval p.2)) (us := z.cells) (by simp)
      (fun k p q h1 h2 => by
       simp only [List.getElem?_map, Option.map_eq_some_iff] at h1 h2
       obtain ⟨p', hp', rfl⟩ := h1
       obtain ⟨q', hq', rfl⟩ := h2
       obtain rfl : p' = q' := by rw [hp'] at hq'; exact Ke hq'
       exact ⟨rfl, bA hi.slots p'.2⟩) hz hcs
     refine ⟨.agg rs, bG ?_, rs.toList, by simp, hf2⟩
     simp only [Instr.build, Sem.run_bind, h1.run_zero, h1.run_und, Result.andThen_ok, Array.mapM_eq_mapM_toList, Sem.run_map]
     rw [hmap]
     simp only [Result.andThen_ok]
     have hf1' : Instr.fill (fun x => (List.map (fun f : Field => (f.offset, ((ti P f.type).map (·.size)).getD 0)) fl.toList).toArray[x]?) z.cells (Array.map (fun x => (x.fst, a.eval x.snd)) parts).toList = some rs := by
      simpa using hf1
     simp only [hf1', Sem.run_pure]
    · cases h
   · cases h
 case call c =>
  obtain ⟨callee, args, ats⟩ := c
  cases callee <;> simp only [oF] at h <;> first | (cases h; done) | skip
  rename_i b
  change ∃ u, (builtin b ats type _ (args.map a.eval)).run P w = _ ∧ _
  have h2 := fun cs => sL (P := P) (w := w) (g := g) (t := type) (cs := cs) h (lz hi args.toList)
  rw [← map_toArray] at h2
  exact h2 _
end
end Go.Pv
namespace Go.Pv
open Go.RowKit (Below)
set_option linter.unusedSimpArgs false
set_option linter.unusedSectionVars false
set_option linter.unusedVariables false
def uw (N : Nat) : Option Tmp → Bool
 | none => true
 | some t => Nat.blt t N
section
variable {P : Program} {N n0 : Nat} {Q : bY} {s : St} {w0 : World} {g0 : G} {a : Act} {w : World} {g : G}
theorem dh.put (h : dh N n0 w0 g0 s a w g) {d : Option Tmp} {v : AV} {val : Value} (hr : bU w g v val) (hd : uw N d = true) : dh N n0 w0 g0 (s.put d v) (a.put d val) w g := by
 cases d with
 | none => exact h
 | some d =>
  have hlt : d < a.tmps.size := by rw [h.size]; simpa [uw] using hd
  refine { h with size := ?_, slots := fun t => ?_, defers := h.defers }
  · simp [Act.put, h.size]
  ·
   simp only [St.put, lk, Act.put]
   by_cases ht : Nat.beq d t = true
   ·
    have e : d = t := by simpa using ht
    subst e
    rw [if_pos ht]
    simpa [Array.getD_eq_getD_getElem?, hlt] using hr
   ·
    rw [if_neg ht]
    have e : d ≠ t := fun e => ht (by simp [e])
    have := h.slots t
    simpa [Array.getD_eq_getD_getElem?, Array.getElem?_setIfInBounds, e] using this
theorem dh.putS (h : dh N n0 w0 g0 s a w g) {d : Tmp} {v : AV} (hr : bU w g v (a.tmps.getD d undef)) : dh N n0 w0 g0 (s.put (some d) v) a w g := by
 refine { h with slots := fun t => ?_ }
 simp only [St.put, lk]
 by_cases ht : Nat.beq d t = true
 ·
  have e : d = t := by simpa using ht
  subst e
  rw [if_pos ht]; exact hr
 · rw [if_neg ht]; exact h.slots t
def aM (P : Program) (N n0 : Nat) (ops : Array Oper) (l : List Oper) (Q : bY) (s : St) : Prop :=
 ∀ w0 g0 a w g, dh N n0 w0 g0 s a w g → wpList P ops (Q.at N n0 w0 g0) l a w
theorem iM {id : Nat} {l : List Oper} (h : aM P N n0 l.toArray l Q s) : cg P N n0 (.region id l.toArray false) Q s :=
 fun w0 g0 a w g hi => wp_region_lit (h w0 g0 a w g hi)
variable {ops : Array Oper} {o : Oper} {rest : List Oper}
theorem Ee (h : Q .normal s) : aM P N n0 ops [] Q s := fun _ _ _ _ g hi => ⟨s, g, h, hi⟩
theorem hZ (hg : o.guard = none) {K : Exit → Act → World → Prop} (h : o.wp P a w (wpList P ops K rest) K) : wpList P ops K (o :: rest) a w := by
 unfold wpList
 rw [if_pos (by simp [Region.wanted, hg])]
 exact .inl h
theorem p0 (hg : o.guard = none) {K : Exit → Act → World → Prop} {v : Value} {w' : World} (hr : (execOp a.eval o).run P w = .ok (.value v) w')
  (h : wpList P ops K rest (a.put o.dst v) w') : wpList P ops K (o :: rest) a w :=
 hZ hg (by simp only [Oper.wp, hr, Oper.upon]; exact h)
theorem gV {s' : St} (hg : o.guard = none)
  (h : ∀ w0 g0 a w g, dh N n0 w0 g0 s a w g → ∃ v w' g', (execOp a.eval o).run P w = .ok (.value v) w' ∧ dh N n0 w0 g0 s' (a.put o.dst v) w' g')
  (k : aM P N n0 ops rest Q s') : aM P N n0 ops (o :: rest) Q s := by
 intro w0 g0 a w g hi
 obtain ⟨v, w', g', hr, hi'⟩ := h w0 g0 a w g hi
 exact p0 hg hr (k w0 g0 _ _ _ hi')
theorem qE {s' : St} (hg : o.guard = none) (hd : o.dst = none)
  (h : ∀ w0 g0 a w g, dh N n0 w0 g0 s a w g → ∃ w' g', (execOp a.eval o).run P w = .ok .skip w' ∧ dh N n0 w0 g0 s' a w' g')
  (k : aM P N n0 ops rest Q s') : aM P N n0 ops (o :: rest) Q s := by
 intro w0 g0 a w g hi
 obtain ⟨w', g', hr, hi'⟩ := h w0 g0 a w g hi
 refine hZ hg ?_
 simp only [Oper.wp, hr, Oper.upon, hd, Act.put]
 exact k w0 g0 _ _ _ hi'
theorem yr [dI P] {v : AV} (hg : o.guard = none) (hd : uw N o.dst = true) (hv : oF P s o.op = some v) (k : aM P N n0 ops rest Q (s.put o.dst v)) :
  aM P N n0 ops (o :: rest) Q s :=
 gV hg (fun w0 g0 a w g hi => by
  obtain ⟨u, hu, hr⟩ := iV hi hv
  exact ⟨u, w, g, hu, hi.put hr hd⟩) k
def fq (ops : Array Oper) (j : Nat) : Option Tmp := (ops[j]?).bind (·.dst)
theorem kz {j d : Nat} (hj : fq ops j = some d) (hd : Nat.blt d N = true) (hs : a.tmps.size = N) {b : Bool} (hb : a.tmps.getD d undef = .bool b) : yielded ops a.tmps j = some b := by
 have hlt : d < a.tmps.size := by rw [hs]; simpa using hd
 have : a.tmps[d]? = some (.bool b) := by
  rw [Array.getD_eq_getD_getElem?] at hb
  rw [Array.getElem?_eq_getElem hlt] at hb ⊢
  simpa using hb
 unfold fq at hj
 simp [yielded, hj, this]
theorem oo {j d : Nat} (hj : fq ops j = some d) (hd : Nat.blt d N = true) (hs : a.tmps.size = N) (hb : a.tmps.getD d undef = undef) : yielded ops a.tmps j = none := by
 have hlt : d < a.tmps.size := by rw [hs]; simpa using hd
 have : a.tmps[d]? = some undef := by
  rw [Array.getD_eq_getD_getElem?] at hb
  rw [Array.getElem?_eq_getElem hlt] at hb ⊢
  simpa using hb
 unfold fq at hj
 simp [yielded, hj, this, undef]
theorem ox {K : Exit → Act → World → Prop} (hw : Region.wanted o (yielded ops a.tmps) = true) (h : wpList P ops K ({ o with guard := none } :: rest) a w) :
  wpList P ops K (o :: rest) a w := by
 unfold wpList at h ⊢
 rw [if_pos hw]
 rw [if_pos (by simp [Region.wanted])] at h
 exact h
theorem jB {K : Exit → Act → World → Prop} (hw : Region.wanted o (yielded ops a.tmps) = false) (h : wpList P ops K rest (a.put o.dst undef) w) :
  wpList P ops K (o :: rest) a w := by
 unfold wpList
 rw [if_neg (by simp [hw])]
 exact h
theorem lD : bU w g (.tup []) undef := ⟨[], rfl, rfl⟩
theorem sG {j d : Nat} {want : Bool} (hg : o.guard = some (j, want)) (hj : fq ops j = some d) (hd : Nat.blt d N = true) (hb : lk s.σ d = .bool want)
  (k : aM P N n0 ops ({ o with guard := none } :: rest) Q s) : aM P N n0 ops (o :: rest) Q s := by
 intro w0 g0 a w g hi
 have hr := hi.slots d
 rw [hb] at hr
 refine ox ?_ (k w0 g0 a w g hi)
 simp [Region.wanted, hg, kz hj hd hi.size hr]
theorem uH {j d : Nat} {want : Bool} (hg : o.guard = some (j, want)) (hj : fq ops j = some d) (hd : Nat.blt d N = true) (hb : lk s.σ d = .bool (!want)) (hdst : uw N o.dst = true)
  (k : aM P N n0 ops rest Q (s.put o.dst (.tup []))) : aM P N n0 ops (o :: rest) Q s := by
 intro w0 g0 a w g hi
 have hr := hi.slots d
 rw [hb] at hr
 refine jB ?_ (k w0 g0 _ w g (hi.put lD hdst))
 simp [Region.wanted, hg, kz hj hd hi.size hr]
theorem qr {j d : Nat} {want : Bool} (hg : o.guard = some (j, want)) (hj : fq ops j = some d) (hd : Nat.blt d N = true) (hb : lk s.σ d = .tup []) (hdst : uw N o.dst = true)
  (k : aM P N n0 ops rest Q (s.put o.dst (.tup []))) : aM P N n0 ops (o :: rest) Q s := by
 intro w0 g0 a w g hi
 have hr := hi.slots d
 rw [hb] at hr
 obtain ⟨vs, e, hvs⟩ := hr
 obtain rfl : vs = [] := hvs
 refine jB ?_ (k w0 g0 _ w g (hi.put lD hdst))
 simp [Region.wanted, hg, oo hj hd hi.size e]
theorem yX {j d : Nat} {want b : Bool} (hg : o.guard = some (j, want)) (hj : fq ops j = some d) (hd : Nat.blt d N = true) (hb : lk s.σ d = .bool b) (hdst : uw N o.dst = true)
  (yes : b = want → aM P N n0 ops ({ o with guard := none } :: rest) Q (s.put (some d) (.bool want)))
  (no : b = (!want) → aM P N n0 ops rest Q ((s.put (some d) (.bool !want)).put o.dst (.tup []))) : aM P N n0 ops (o :: rest) Q s := by
 intro w0 g0 a w g hi
 have hr := hi.slots d
 rw [hb] at hr
 by_cases h : b = want
 ·
  refine ox ?_ (yes h w0 g0 a w g (hi.putS (by rw [← h]; exact hr)))
  simp [Region.wanted, hg, kz hj hd hi.size hr, h]
 ·
  have h' : b = !want := by cases b <;> cases want <;> simp_all
  refine jB ?_ (no h' w0 g0 _ w g ((hi.putS (by rw [← h']; exact hr)).put lD hdst))
  simp [Region.wanted, hg, kz hj hd hi.size hr, h]
def gX (id off : Nat) : List AV → List (Nat × Nat × AV) → List (Nat × Nat × AV)
 | [], H => H
 | x :: r, H => (id, off, x) :: gX id (off + 1) r H
theorem jX {id : Nat} : ∀ {cs : List AV} {off : Nat} {H : List (Nat × Nat × AV)} (i o : Nat), d3 (gX id off cs H) i o = if i = id ∧ off ≤ o ∧ o < off + cs.length then cs[o - off]? else d3 H i o
 | [], off, H, i, o => by
  rw [if_neg (by simp only [List.length_nil]; omega)]; rfl
 | x :: r, off, H, i, o => by
  simp only [gX, d3, jX (cs := r), List.length_cons]
  by_cases h1 : i = id
  ·
   subst h1
   by_cases h2 : o = off
   · subst h2; simp
   ·
    by_cases h3 : off ≤ o ∧ o < off + (r.length + 1)
    ·
     have h4 : off + 1 ≤ o ∧ o < off + 1 + r.length := by omega
     have h5 : o - off = (o - (off + 1)) + 1 := by omega
     have : Nat.beq off o = false := by rw [Bool.eq_false_iff, ne_eq, Nat.beq_eq]; omega
     simp [h3, h4, this, h5]
    ·
     have h4 : ¬ (off + 1 ≤ o ∧ o < off + 1 + r.length) := by omega
     have : Nat.beq off o = false := by rw [Bool.eq_false_iff, ne_eq, Nat.beq_eq]; omega
     simp [h3, h4, this]
  ·
   have : Nat.beq id i = false := by rw [Bool.eq_false_iff, ne_eq, Nat.beq_eq]; omega
   simp [h1, this]
theorem mR {h : Array Obj} {o : Obj} {k : Nat} (hk : k < h.size) : (h.push o)[k]? = h[k]? := by
 rw [Array.getElem?_push]; simp [Nat.ne_of_lt hk]
theorem u5 {w : World} {o : Obj} {b p : Nat} (hb : b < w.heap.size) : World.cell? { w with heap := w.heap.push o } ⟨b, p, none⟩ = w.cell? ⟨b, p, none⟩ := by
 simp only [World.cell?, mR hb]
theorem WF.topLt {n : Nat} (h : WF g w n) {b o : Nat} (ho : o < g.top b) : b < w.heap.size := by
 refine Nat.lt_of_not_le fun hb => ?_
 rw [h.topNew b hb] at ho
 exact Nat.not_lt_zero _ ho
theorem WF.ownerLt {n : Nat} (h : WF g w n) {b i : Nat} (ho : g.owner b = some i) : b < w.heap.size := by
 refine Nat.lt_of_not_le fun hb => ?_
 rw [h.ownNew b hb] at ho
 cases ho
theorem dh.allocAt (h : dh N n0 w0 g0 s a w g) {cs : List AV} {vs : List Value} (hr : aG w g cs vs) (e : TypeId) {k n' : Nat} (hn : g.blk k = none) (hno : g.own k = none) (hk : k < n')
  (hn' : s.n ≤ n') (hk0 : n0 ≤ k) :
  ∃ g', dh N n0 w0 g0 ⟨s.σ, gX k 0 cs s.H, s.O, n'⟩ a { w with heap := w.heap.push (.cells vs.toArray e (0, 0)) } g' ∧ g'.blk k = some w.heap.size ∧
   (∀ i, i ≠ k → g'.blk i = g.blk i) ∧ g'.own = g.own ∧ g'.top = g.top ∧ g'.wd = g.wd := by
 let g' : G := { g with blk := fun i => if i = k then some w.heap.size else g.blk i, owner := fun b => if b = w.heap.size then some k else g.owner b }
 let w' : World := { w with heap := w.heap.push (.cells vs.toArray e (0, 0)) }
 have hm : gC w g w' g' := ⟨⟨fun _ => Nat.le_refl _, fun b o ho => u5 (h.wf.topLt ho)⟩, fun id b hb => by
  have : id ≠ k := fun e => by rw [e, hn] at hb; cases hb
  simp [g', this, hb], fun _ _ hv => hv, fun _ _ _ => rfl⟩
 refine ⟨g', ?_, by simp [g'], fun i hi => by simp [g', hi], rfl, rfl, rfl⟩
 exact {
  defers := h.defers
  size := h.size
  slots := fun t => (h.slots t).mono _ _ hm
  cells := fun id off x hx => by
   rw [jX] at hx
   split at hx
   ·
    rename_i hc
    obtain ⟨hid, _, hlt⟩ := hc
    subst hid
    simp only [Nat.sub_zero] at hx
    obtain ⟨v, hv, rv⟩ := hr.get hx
    exact ⟨w.heap.size, vs.toArray, e, by simp [g'], by simp, v, by simpa using hv, rv.mono _ _ hm⟩
   ·
    obtain ⟨b, c, e', hb, hw, v, hv, rv⟩ := h.cells id off x hx
    exact ⟨b, c, e', hm.blk _ _ hb, by rw [show w'.heap[b]? = w.heap[b]? from mR (h.wf.blkOwner _ _ hb).2.1]; exact hw, v, hv, rv.mono _ _ hm⟩
  owns := fun id K hx => by
   refine Kind.keep (h.owns.at hx) ⟨hm, fun b hb => ?_, fun b hb => ?_⟩
   ·
    have hlt := h.wf.ownerLt hb
    exact ⟨mR hlt, by simp [g', Nat.ne_of_lt hlt, hb], rfl⟩
   ·
    simp only [g'] at hb
    split at hb
    ·
     obtain rfl := Ke hb
     obtain ⟨v, hv⟩ := Kind.own_some (h.owns.at hx)
     rw [hno] at hv; cases hv
    · exact hb
  wf := {
   topNew := fun b hb => h.wf.topNew b (by simp at hb; omega)
   ownNew := fun b hb => by
    have hb' : w.heap.size + 1 ≤ b := by simpa using hb
    have : b ≠ w.heap.size := by omega
    simp [g', this, h.wf.ownNew b (by omega)]
   blkOwner := fun id b hb => by
    simp only [g'] at hb ⊢
    split at hb
    ·
     rename_i hid
     obtain rfl := Ke hb
     exact ⟨by simp [hid], by simp, h.wf.topNew _ (Nat.le_refl _), by omega⟩
    ·
     obtain ⟨k1, k2, k3, k4⟩ := h.wf.blkOwner id b hb
     exact ⟨by simp [Nat.ne_of_lt k2, k1], by simp; omega, k3, by omega⟩
   ownLt := fun id v hv => Nat.lt_of_lt_of_le (h.wf.ownLt id v hv) hn'
   ownSl := h.wf.ownSl
   sep := fun id b hb => by
    simp only [g'] at hb ⊢
    split at hb
    · rename_i hid; rw [hid]; exact hno
    · exact h.wf.sep id b hb
   idLt := fun b i hb => by
    simp only [g'] at hb
    split at hb
    · obtain rfl := Ke hb; exact hk
    · exact Nat.lt_of_lt_of_le (h.wf.idLt b i hb) hn' }
  frame := {
   os := h.frame.os
   tape := h.frame.tape
   output := h.frame.output
   size := by simp; exact Nat.le_succ_of_le h.frame.size
   block := fun b hb ho => (mR (Nat.lt_of_lt_of_le hb h.frame.size)).trans (h.frame.block b hb ho)
   foreign := fun b hb ho => by
    obtain ⟨k1, k2⟩ := h.frame.foreign b hb ho
    have : b ≠ w.heap.size := Nat.ne_of_lt (Nat.lt_of_lt_of_le hb h.frame.size)
    exact ⟨by simp [g', this, k1], k2⟩
   top := h.frame.top
   stable := fun b o ho => (u5 (h.wf.topLt (Nat.lt_of_lt_of_le ho (h.frame.top b)))).trans (h.frame.stable b o ho)
   blk := fun id hid => by
    have : id ≠ k := Nat.ne_of_lt (Nat.lt_of_lt_of_le hid hk0)
    simp [g', this, h.frame.blk id hid]
   own := fun id hid => h.frame.own id hid
   wd := h.frame.wd }
  nle := Nat.le_trans h.nle hn'
  laid := h.laid }
theorem dh.alloc (h : dh N n0 w0 g0 s a w g) {cs : List AV} {vs : List Value} (hr : aG w g cs vs) (e : TypeId) :
  ∃ g', dh N n0 w0 g0 ⟨s.σ, gX s.n 0 cs s.H, s.O, s.n + 1⟩ a { w with heap := w.heap.push (.cells vs.toArray e (0, 0)) } g' ∧ g'.blk s.n = some w.heap.size := by
 have hn : g.blk s.n = none := by
  cases hb : g.blk s.n with
  | none => rfl
  | some b => exact absurd (h.wf.blkOwner _ _ hb).2.2.2 (Nat.lt_irrefl _)
 have hno : g.own s.n = none := by
  cases hb : g.own s.n with
  | none => rfl
  | some b => exact absurd (h.wf.ownLt _ _ hb) (Nat.lt_irrefl _)
 obtain ⟨g', h1, h2, _⟩ := h.allocAt hr e hn hno (Nat.lt_succ_self _) (Nat.le_succ _) h.nle
 exact ⟨g', h1, h2⟩
theorem zi [dI P] {t : TypeId} {i : TI} (hg : o.guard = none) (hop : o.op = .alloc t) (hd : uw N o.dst = true) (ht : ti P t = some i)
  (k : aM P N n0 ops rest Q (St.put ⟨s.σ, gX s.n 0 i.zero s.H, s.O, s.n + 1⟩ o.dst (.ptr s.n 0))) : aM P N n0 ops (o :: rest) Q s := by
 refine gV hg (fun w0 g0 a w g hi => ?_) k
 obtain ⟨inf, d, z, h1⟩ := aV ht
 have hz : aG w g i.zero z.cells.toList := by
  rw [h1.zeros]
  generalize z.cells.toList = l
  induction l with
  | nil => rfl
  | cons v l ih => exact ⟨v, l, rfl, iW v, ih⟩
 obtain ⟨g', hi', hb⟩ := hi.alloc hz t
 have hrun : (Instr.alloc t true (.tuple #[])).run P w = .ok (.pointer (some ⟨w.heap.size, 0, none⟩)) { w with heap := w.heap.push (.cells z.cells.toList.toArray t (0, 0)) } := by
  simp [Instr.alloc, h1.run_zero, newVar, newRow]
 refine ⟨.pointer (some ⟨w.heap.size, 0, none⟩), _, g', ?_, hi'.put ⟨_, hb, rfl⟩ hd⟩
 obtain ⟨dst, op, type, pos, after, guard⟩ := o
 subst hop
 exact dq hrun
theorem Dk [dI P] {t : TypeId} {x : Operand} {cs : List AV} (hg : o.guard = none) (hop : o.op = .box t x) (hd : uw N o.dst = true) (hc : ka (ev s.σ x) = some cs)
  (k : aM P N n0 ops rest Q (St.put ⟨s.σ, gX s.n 0 cs s.H, s.O, s.n + 1⟩ o.dst (.ptr s.n 0))) : aM P N n0 ops (o :: rest) Q s := by
 refine gV hg (fun w0 g0 a w g hi => ?_) k
 have hz := ij hc (bA hi.slots x) hi.wf.ownSl
 obtain ⟨g', hi', hb⟩ := hi.alloc hz t
 have hrun : (Instr.box t (a.eval x)).run P w = .ok (.pointer (some ⟨w.heap.size, 0, none⟩)) { w with heap := w.heap.push (.cells (a.eval x).cells.toList.toArray t (0, 0)) } := by
  simp [Instr.box, newVar, newRow]
 refine ⟨.pointer (some ⟨w.heap.size, 0, none⟩), _, g', ?_, hi'.put ⟨_, hb, rfl⟩ hd⟩
 obtain ⟨dst, op, type, pos, after, guard⟩ := o
 subst hop
 exact dq hrun
def AV.one : AV → Bool
 | .agg _ | .tup _ | .any => false
 | .raw v => v.oneCell'
 | _ => true
theorem Gy {x : AV} {v : Value} (hs : ∀ id v, g.own id = some v → v.oneCell' = true) (hx : bU w g x v) (h : x.one = true) : v.oneCell' = true := by
 cases x <;> simp only [AV.one] at h <;> first | (cases h; done) | skip
 case bool b => obtain rfl : v = _ := hx; rfl
 case int k n => obtain rfl : v = _ := hx; rfl
 case str k => obtain rfl : v = _ := hx; rfl
 case nilp => obtain rfl : v = _ := hx; rfl
 case nilS => obtain rfl : v = _ := hx; rfl
 case nilM => obtain rfl : v = _ := hx; rfl
 case ptr id off => obtain ⟨b, hb, rfl⟩ := hx; rfl
 case rd c => obtain ⟨b, o, rfl, hr⟩ := hx; rfl
 case sl c => obtain ⟨a, cap, rfl, hr⟩ := hx; rfl
 case nilI => obtain rfl : v = _ := hx; rfl
 case err t e => obtain rfl : v = _ := hx; cases e <;> rfl
 case iface t y => obtain ⟨z, rfl, hr⟩ := hx; rfl
 case nilF => obtain rfl : v = _ := hx; rfl
 case fn f c => obtain ⟨vs, rfl, hr⟩ := hx; rfl
 case bfn f c => obtain ⟨vs, rfl, hr⟩ := hx; rfl
 case own id => exact hs id v hx
 case raw u => obtain rfl : v = _ := hx; exact h
 case eptr id r c => obtain ⟨ad, l, cap, e, rfl⟩ := hx; rfl
 case via id k => obtain ⟨u, e, r, o⟩ := hx; exact o
theorem aG.ones (hs : ∀ id v, g.own id = some v → v.oneCell' = true) : ∀ {cs : List AV} {vs : List Value}, aG w g cs vs → cs.all AV.one = true → ∀ v ∈ vs, v.oneCell' = true
 | [], _, h, _ => by simp [aG] at h; simp [h]
 | x :: cs, _, ⟨v, vs', e, r, rest⟩, h => by
  subst e
  simp only [List.all_cons, Bool.and_eq_true] at h
  intro u hu
  rcases List.mem_cons.1 hu with rfl | hu
  · exact Gy hs r h.1
  · exact aG.ones (cs := cs) (vs := vs') hs rest h.2 u hu
theorem l0 (l vs : List Value) (k j : Nat) (hk : k + vs.length ≤ l.length) :
  (l.take k ++ vs ++ l.drop (k + vs.length))[j]? = if k ≤ j ∧ j < k + vs.length then vs[j - k]? else l[j]? := by
 by_cases h1 : j < k
 · rw [if_neg (by omega), List.append_assoc, List.getElem?_append_left (by simp; omega), List.getElem?_take, if_pos h1]
 ·
  by_cases h2 : j < k + vs.length
  ·
   rw [if_pos ⟨by omega, h2⟩, List.getElem?_append_left (by simp; omega), List.getElem?_append_right (by simp; omega)]
   congr 1
   simp; omega
  ·
   rw [if_neg (by omega), List.getElem?_append_right (by simp; omega), List.getElem?_drop]
   congr 1
   simp; omega
theorem kW {w : World} {b c o : Nat} {cs : Array Value} (h : b ≠ c) : (w.setRow c cs).cell? ⟨b, o, none⟩ = w.cell? ⟨b, o, none⟩ := by
 simp only [World.cell?, setRow_other w c b cs h]
theorem kK {w : World} {c : Nat} {cs : Array Value} : (w.setRow c cs).heap.size = w.heap.size := by simp [World.setRow]
theorem dh.store (h : dh N n0 w0 g0 s a w g) {id off b : Nat} {cs old : List AV} {vs : List Value} (hb : g.blk id = some b) (hr : aG w g cs vs) (hold : Cq s.H id off cs.length = some old)
  (hne : cs ≠ []) : ∃ cur e, w.heap[b]? = some (.cells cur e (0, 0)) ∧ off + vs.length ≤ cur.size ∧
   dh N n0 w0 g0 ⟨s.σ, gX id off cs s.H, s.O, s.n⟩ a (w.setRow b (cur.toList.take off ++ vs ++ cur.toList.drop (off + vs.length)).toArray) g := by
 have hlen := hr.length
 obtain ⟨us, hul, _, hcell⟩ := h.cells.cellsN hb hold
 obtain ⟨x, cs', rfl⟩ : ∃ x cs', cs = x :: cs' := by cases cs with | nil => exact absurd rfl hne | cons x cs' => exact ⟨x, cs', rfl⟩
 have h0 : ∃ y, d3 s.H id off = some y := by
  simp only [List.length_cons, Cq] at hold
  cases hx : d3 s.H id off with
  | none => simp [hx] at hold
  | some y => exact ⟨y, rfl⟩
 obtain ⟨y, hy⟩ := h0
 obtain ⟨b', cur, e, hb', hw, _⟩ := h.cells id off y hy
 obtain rfl : b' = b := by rw [hb] at hb'; exact (Ke hb').symm
 have hbound : off + vs.length ≤ cur.size := by
  have hl : 0 < us.length := by rw [hul]; simp
  have := hcell (us.length - 1) _ (List.getElem?_eq_getElem (by omega))
  simp only [World.cell?, hw] at this
  have h2 : off + (us.length - 1) < cur.size := by
   refine Nat.lt_of_not_le fun hle => ?_
   simp [Array.getElem?_eq_none hle] at this
  rw [hlen, ← hul]; omega
 refine ⟨cur, e, hw, hbound, ?_⟩
 obtain ⟨ho, hbs, ht0, hidn⟩ := h.wf.blkOwner id b' hb
 let row := (cur.toList.take off ++ vs ++ cur.toList.drop (off + vs.length)).toArray
 have hm : gC w g (w.setRow b' row) g := ⟨⟨fun _ => Nat.le_refl _, fun b o hlt => kW (fun e => by subst e; omega)⟩, fun _ _ h => h, fun _ _ h => h, fun _ _ _ => rfl⟩
 have hother : ∀ i c, g.blk i = some c → i ≠ id → c ≠ b' := fun i c hc hi e => by
  subst e
  have := (h.wf.blkOwner i c hc).1
  rw [ho] at this
  exact hi (Ke this).symm
 exact {
  defers := h.defers
  size := h.size
  slots := fun t => (h.slots t).mono _ _ hm
  cells := fun i p z hz => by
   rw [jX] at hz
   split at hz
   ·
    rename_i hc
    obtain ⟨hid, h1, h2⟩ := hc
    subst hid
    obtain ⟨v, hv, rv⟩ := hr.get hz
    refine ⟨b', row, e, hb, setRow_heap w b' cur row e _ hw, v, ?_, rv.mono _ _ hm⟩
    show row[p]? = some v
    simp only [row, List.getElem?_toArray]
    rw [l0 _ _ _ _ (by simpa using hbound), if_pos ⟨h1, by rw [hlen]; exact h2⟩]
    exact hv
   ·
    rename_i hc
    obtain ⟨c, ar, e', hcb, hcw, v, hv, rv⟩ := h.cells i p z hz
    by_cases hi : i = id
    ·
     subst hi
     obtain rfl : c = b' := by rw [hb] at hcb; exact (Ke hcb).symm
     rw [hw] at hcw
     obtain ⟨rfl, rfl, _⟩ : cur = ar ∧ e = e' ∧ True := by
      have := Ke hcw
      injection this with h1 h2 h3
      exact ⟨h1, h2, trivial⟩
     refine ⟨c, row, e, hb, setRow_heap w c cur row e _ hw, v, ?_, rv.mono _ _ hm⟩
     show row[p]? = some v
     simp only [row, List.getElem?_toArray]
     rw [l0 _ _ _ _ (by simpa using hbound), if_neg (by rw [hlen]; exact fun hh => hc ⟨rfl, hh⟩)]
     simpa using hv
    · exact ⟨c, ar, e', hcb, by rw [setRow_other _ _ _ _ (hother i c hcb hi)]; exact hcw, v, hv, rv.mono _ _ hm⟩
  owns := fun i K hx => by
   refine Kind.keep (h.owns.at hx) ⟨hm, fun c hc => ⟨setRow_other _ _ _ _ fun e => ?_, hc, rfl⟩, fun c hc => hc⟩
   subst e
   rw [ho] at hc
   obtain rfl := Ke hc
   obtain ⟨v, hv⟩ := Kind.own_some (h.owns.at hx)
   rw [h.wf.sep _ _ hb] at hv; cases hv
  wf := {
   topNew := fun b hb => h.wf.topNew b (by rwa [kK] at hb)
   ownNew := fun b hb => h.wf.ownNew b (by rwa [kK] at hb)
   blkOwner := fun i b hb => by
    obtain ⟨k1, k2, k3, k4⟩ := h.wf.blkOwner i b hb
    exact ⟨k1, by rw [kK]; exact k2, k3, k4⟩
   ownLt := h.wf.ownLt
   ownSl := h.wf.ownSl
   sep := h.wf.sep
   idLt := h.wf.idLt }
  frame := {
   os := h.frame.os
   tape := h.frame.tape
   output := h.frame.output
   size := by rw [kK]; exact h.frame.size
   block := fun c hc hco => by
    have hne : c ≠ b' := fun e => by
     subst e
     rw [(h.frame.foreign c hc hco).1] at ho
     cases ho
    rw [setRow_other _ _ _ _ hne]
    exact h.frame.block c hc hco
   foreign := h.frame.foreign
   top := h.frame.top
   stable := fun c p hp => by
    have hne : c ≠ b' := fun e => by
     subst e
     have := h.frame.top c
     omega
    rw [kW hne]
    exact h.frame.stable c p hp
   blk := h.frame.blk
   own := h.frame.own
   wd := h.frame.wd }
  nle := h.nle
  laid := h.laid }
theorem y5 [dI P] {t : TypeId} {x y : Operand} {i : TI} {id off : Nat} {cs old : List AV} (hg : o.guard = none) (hop : o.op = .store t x y) (hd : o.dst = none) (ht : ti P t = some i)
  (hx : ev s.σ x = .ptr id off) (hc : ka (ev s.σ y) = some cs) (hsz : Nat.beq cs.length i.size = true) (h1 : cs.all AV.one = true) (hold : Cq s.H id off cs.length = some old) (hne : cs.isEmpty = false)
  (k : aM P N n0 ops rest Q ⟨s.σ, gX id off cs s.H, s.O, s.n⟩) : aM P N n0 ops (o :: rest) Q s := by
 refine qE hg hd (fun w0 g0 a w g hi => ?_) k
 obtain ⟨inf, d, z, h2⟩ := aV ht
 have hz := ij hc (bA hi.slots y) hi.wf.ownSl
 have hp := bA hi.slots x
 rw [hx] at hp
 obtain ⟨b, hb, hpe⟩ := hp
 obtain ⟨cur, e, hw, hbound, hi'⟩ := hi.store hb hz hold (by intro e; simp [e] at hne)
 refine ⟨_, g, ?_, hi'⟩
 obtain ⟨dst, op, type, pos, after, guard⟩ := o
 subst hop
 have hst := run_storeCells_at P b off e (a.eval y).cells.toList 0 cur w hw (by simpa using hbound) (aG.ones hi.wf.ownSl hz h1)
 have hlen : (a.eval y).cells.size = i.size := by
  have := hz.length
  simp only [Nat.beq_eq] at hsz
  simpa [hsz] using this
 simp only [Nat.add_zero] at hst
 simp [execOp, Instr.storeAt, hpe, Instr.sureAddr, storeVar, hlen, h2.run_size, hst]
end
end Go.Pv
