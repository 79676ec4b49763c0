/- The logic itself: states told as plain data, what holds of a frame and a world that a state tells of, and the rules for sequences, branches, blocks, loops and returns. -/
import Derived.Test.YtngeejjllgnpcaaPvA
namespace Go.Pv
open Go.RowKit (Below)

/-! ### things of a call's own, beside its variables -/

/-- A thing told by what holds of the machine: it hangs on its own blocks, and on what stands still, alone. -/
structure Thing where
  p : World → (Nat → Nat) → (Nat → Prop) → Value → Prop
  keep : ∀ {w t B v w' t'}, p w t B v → (∀ b, B b → w'.heap[b]? = w.heap[b]? ∧ t' b = t b) → MonoT w t w' t' → p w' t' B v

inductive Kind where
  /-- a row that is added to; what is there stands still -/
  | row (z : Nat) (xs : List (List AV))
  /-- a row that is written into -/
  | wr (z : Nat) (xs : List (List AV))
  /-- a map, its entries in the order of the machine's -/
  | map (ks vs : List AV)
  | sem (s : Thing)

/-- The cells of a row of the call's own, n of them. -/
def Ours (id : Nat) (w : World) (g : G) (ad : Addr) (n : Nat) : Prop :=
  ad.spot = none ∧ g.owner ad.block = some id ∧ ∃ c e fr, w.heap[ad.block]? = some (.cells c e fr) ∧ ad.off + n ≤ c.size ∧ (fr = (0, 0) ∨ c.size ≤ fr.1)

def Kind.holds (id : Nat) (w : World) (g : G) : Kind → Prop
  | .row z xs => Wide z xs ∧ g.wd id = z ∧ ∃ a cap, g.own id = some (.slice a xs.length cap) ∧ xs.length ≤ cap ∧ (a = none → xs = [] ∧ cap = 0) ∧
      ∀ ad, a = some ad → (xs ≠ [] → ad.spot = none) ∧ RepRows w g.top ad.block ad.off xs ∧ (cap = xs.length ∨ (Ours id w g ad (cap * z) ∧ g.top ad.block = ad.off + xs.length * z))
  | .wr z xs => Wide z xs ∧ g.wd id = z ∧ ∃ a cap, g.own id = some (.slice a xs.length cap) ∧ xs.length ≤ cap ∧ (a = none → xs = [] ∧ cap = 0) ∧
      ∀ ad, a = some ad → Ours id w g ad (cap * z) ∧ g.top ad.block ≤ ad.off ∧ ∃ vs, RepL w g xs.flatten vs ∧ ∀ j v, vs[j]? = some v → w.cell? ⟨ad.block, ad.off + j, none⟩ = some v
  | .map ks vs => ∃ b es clock, g.own id = some (.map (some b)) ∧ g.owner b = some id ∧ g.top b = 0 ∧ w.heap[b]? = some (.map es clock) ∧ RepL w g ks (es.toList.map (·.key)) ∧ RepL w g vs (es.toList.map (·.val))
  | .sem s => ∃ v, g.own id = some v ∧ s.p w g.top (fun b => g.owner b = some id) v

/-- Where nothing of a thing's is touched. -/
structure Keeps (id : Nat) (w : World) (g : G) (w' : World) (g' : G) : Prop where
  m : Mono w g w' g'
  blk : ∀ b, g.owner b = some id → w'.heap[b]? = w.heap[b]? ∧ g'.owner b = some id ∧ g'.top b = g.top b
  conv : ∀ b, g'.owner b = some id → g.owner b = some id

theorem cell_of_heap {w w' : World} {b o : Nat} (h : w'.heap[b]? = w.heap[b]?) : w'.cell? ⟨b, o, none⟩ = w.cell? ⟨b, o, none⟩ := by simp only [World.cell?, h]
theorem frozen_of_heap {w w' : World} {b o : Nat} (h : w'.heap[b]? = w.heap[b]?) : w'.frozen? ⟨b, o, none⟩ = w.frozen? ⟨b, o, none⟩ := by simp only [World.frozen?, h]

theorem frozen_not {w : World} {b o : Nat} {c : Array Value} {e : TypeId} {fr : Nat × Nat} (h : w.heap[b]? = some (.cells c e fr)) (hf : fr = (0, 0) ∨ c.size ≤ fr.1) (ho : o < c.size) : w.frozen? ⟨b, o, none⟩ = false := by
  simp only [World.frozen?, h]
  rcases hf with rfl | hf
  · simp
  · obtain ⟨f1, f2⟩ := fr
    simp only at hf
    have : ¬ f1 ≤ o := by omega
    simp [this]

theorem Ours.keep {id : Nat} {w : World} {g : G} {w' : World} {g' : G} {ad : Addr} {n : Nat} (h : Ours id w g ad n) (k : Keeps id w g w' g') : Ours id w' g' ad n := by
  obtain ⟨h1, h2, c, e, fr, h3, h4, h5⟩ := h
  obtain ⟨k1, k2, k3⟩ := k.blk _ h2
  exact ⟨h1, k2, c, e, fr, by rw [k1]; exact h3, h4, h5⟩

theorem Kind.keep {id : Nat} {w : World} {g : G} {w' : World} {g' : G} {K : Kind} (h : K.holds id w g) (k : Keeps id w g w' g') : K.holds id w' g' := by
  cases K with
  | row z xs =>
    obtain ⟨h1, h0, a, cap, h2, h3, h4, h5⟩ := h
    refine ⟨h1, by rw [k.m.wd _ _ h2]; exact h0, a, cap, k.m.own _ _ h2, h3, h4, fun ad e => ?_⟩
    obtain ⟨q1, q2, q3⟩ := h5 ad e
    refine ⟨q1, RepRows.mono _ _ _ k.m.t q2, q3.imp _root_.id fun ⟨o, t⟩ => ⟨o.keep k, ?_⟩⟩
    rw [(k.blk _ o.2.1).2.2]; exact t
  | wr z xs =>
    obtain ⟨h1, h0, a, cap, h2, h3, h4, h5⟩ := h
    refine ⟨h1, by rw [k.m.wd _ _ h2]; exact h0, a, cap, k.m.own _ _ h2, h3, h4, fun ad e => ?_⟩
    obtain ⟨o, t, vs, r, c⟩ := h5 ad e
    have hb := k.blk _ o.2.1
    exact ⟨o.keep k, by rw [hb.2.2]; exact t, vs, RepL.mono _ _ k.m r, fun j v hv => by rw [cell_of_heap hb.1]; exact c j v hv⟩
  | map ks vs =>
    obtain ⟨b, es, clock, h1, h2, h3, h4, h5, h6⟩ := h
    have hb := k.blk _ h2
    exact ⟨b, es, clock, k.m.own _ _ h1, hb.2.1, by rw [hb.2.2]; exact h3, by rw [hb.1]; exact h4, RepL.mono _ _ k.m h5, RepL.mono _ _ k.m h6⟩
  | sem s =>
    obtain ⟨v, h1, h2⟩ := h
    have : (fun b => g'.owner b = some id) = fun b => g.owner b = some id := by
      funext b; exact propext ⟨k.conv b, fun hb => (k.blk b hb).2.1⟩
    refine ⟨v, k.m.own _ _ h1, ?_⟩
    rw [this]
    exact s.keep h2 (fun b hb => ⟨(k.blk b hb).1, (k.blk b hb).2.2⟩) k.m.t

theorem Kind.own_some {id : Nat} {w : World} {g : G} {K : Kind} (h : K.holds id w g) : ∃ v, g.own id = some v := by
  cases K with
  | row z xs => obtain ⟨_, _, a, cap, h, _⟩ := h; exact ⟨_, h⟩
  | wr z xs => obtain ⟨_, _, a, cap, h, _⟩ := h; exact ⟨_, h⟩
  | map ks vs => obtain ⟨b, es, clock, h, _⟩ := h; exact ⟨_, h⟩
  | sem s => obtain ⟨v, h, _⟩ := h; exact ⟨_, h⟩

/-! ### states -/

/-- σ: slots; H: cells of local variables (number, place, content); O: rows and other things of the call's own (number, content); n: the next number. -/
structure St where
  σ : List (Nat × AV)
  H : List (Nat × Nat × AV)
  O : List (Nat × Kind)
  n : Nat

def lk : List (Nat × AV) → Nat → AV
  | [], _ => .any
  | (t, v) :: r, u => if Nat.beq t u then v else lk r u

def lkH : List (Nat × Nat × AV) → Nat → Nat → Option AV
  | [], _, _ => none
  | (i, o, v) :: r, j, p => if Nat.beq i j && Nat.beq o p then some v else lkH r j p

def lkO : List (Nat × Kind) → Nat → Option Kind
  | [], _ => none
  | (i, k) :: r, j => if Nat.beq i j then some k else lkO r j

def St.put (s : St) (d : Option Tmp) (v : AV) : St :=
  match d with
  | some t => ⟨(t, v) :: s.σ, s.H, s.O, s.n⟩
  | none => s

def RelS (σ : List (Nat × AV)) (a : Act) (w : World) (g : G) : Prop := ∀ t, Rep w g (lk σ t) (a.tmps.getD t undef)

def RelH (H : List (Nat × Nat × AV)) (w : World) (g : G) : Prop :=
  ∀ id off x, lkH H id off = some x → ∃ b c e, g.blk id = some b ∧ w.heap[b]? = some (.cells c e (0, 0)) ∧ ∃ v, c[off]? = some v ∧ Rep w g x v

def RelO (O : List (Nat × Kind)) (w : World) (g : G) : Prop := ∀ id K, lkO O id = some K → K.holds id w g

theorem RelO.at {O : List (Nat × Kind)} {w : World} {g : G} (h : RelO O w g) {id : Nat} {K : Kind} (hx : lkO O id = some K) : K.holds id w g := h id K hx

structure WF (g : G) (w : World) (n : Nat) : Prop where
  topNew : ∀ b, w.heap.size ≤ b → g.top b = 0
  ownNew : ∀ b, w.heap.size ≤ b → g.owner b = none
  blkOwner : ∀ id b, g.blk id = some b → g.owner b = some id ∧ b < w.heap.size ∧ g.top b = 0 ∧ id < n
  ownLt : ∀ id v, g.own id = some v → id < n
  ownSl : ∀ id v, g.own id = some v → v.oneCell' = true
  sep : ∀ id b, g.blk id = some b → g.own id = none
  idLt : ∀ b i, g.owner b = some i → i < n

/-- From where a call began (w0, g0, its n0 numbers handed in) to here: the rest of memory stands. -/
structure Frame (w0 : World) (g0 : G) (n0 : Nat) (w : World) (g : G) : Prop where
  os : w.os = w0.os
  tape : w.tape = w0.tape
  output : w.output = w0.output
  size : w0.heap.size ≤ w.heap.size
  block : ∀ b, b < w0.heap.size → g0.owner b = none → w.heap[b]? = w0.heap[b]?
  foreign : ∀ b, b < w0.heap.size → g0.owner b = none → g.owner b = none ∧ g.top b = g0.top b
  top : ∀ b, g0.top b ≤ g.top b
  stable : ∀ b o, o < g0.top b → w.cell? ⟨b, o, none⟩ = w0.cell? ⟨b, o, none⟩
  blk : ∀ id, id < n0 → g.blk id = g0.blk id
  own : ∀ id, id < n0 → g.own id = g0.own id
  wd : ∀ id, id < n0 → g.wd id = g0.wd id

theorem Frame.refl (w : World) (g : G) (n : Nat) : Frame w g n w g :=
  ⟨rfl, rfl, rfl, Nat.le_refl _, fun _ _ _ => rfl, fun _ _ h => ⟨h, rfl⟩, fun _ => Nat.le_refl _, fun _ _ _ => rfl, fun _ _ => rfl, fun _ _ => rfl, fun _ _ => rfl⟩

theorem Frame.trans {w0 : World} {g0 : G} {n0 : Nat} {w1 : World} {g1 : G} {n1 : Nat} {w2 : World} {g2 : G} (h : Frame w0 g0 n0 w1 g1) (k : Frame w1 g1 n1 w2 g2)
    (hn : n0 ≤ n1) : Frame w0 g0 n0 w2 g2 where
  os := k.os.trans h.os
  tape := k.tape.trans h.tape
  output := k.output.trans h.output
  size := Nat.le_trans h.size k.size
  block b hb ho := (k.block b (Nat.lt_of_lt_of_le hb h.size) (h.foreign b hb ho).1).trans (h.block b hb ho)
  foreign b hb ho := by
    have h1 := h.foreign b hb ho
    have h2 := k.foreign b (Nat.lt_of_lt_of_le hb h.size) h1.1
    exact ⟨h2.1, h2.2.trans h1.2⟩
  top b := Nat.le_trans (h.top b) (k.top b)
  stable b o ho := (k.stable b o (Nat.lt_of_lt_of_le ho (h.top b))).trans (h.stable b o ho)
  blk id hi := (k.blk id (Nat.lt_of_lt_of_le hi hn)).trans (h.blk id hi)
  own id hi := (k.own id (Nat.lt_of_lt_of_le hi hn)).trans (h.own id hi)
  wd id hi := (k.wd id (Nat.lt_of_lt_of_le hi hn)).trans (h.wd id hi)

theorem Frame.below {w0 : World} {g0 : G} {n0 : Nat} {w : World} {g : G} (h : Frame w0 g0 n0 w g) (ho : ∀ b, g0.owner b = none) : Below w0.heap.size w0 w :=
  ⟨h.os, h.tape, h.output, h.size, fun b hb => h.block b hb (ho b)⟩

/-- The whole of what a state says, N slots, from a beginning (w0, g0) with n0 numbers. -/
structure Inv (N n0 : Nat) (w0 : World) (g0 : G) (s : St) (a : Act) (w : World) (g : G) : Prop where
  defers : a.defers = []
  size : a.tmps.size = N
  slots : RelS s.σ a w g
  cells : RelH s.H w g
  owns : RelO s.O w g
  wf : WF g w s.n
  frame : Frame w0 g0 n0 w g
  nle : n0 ≤ s.n

def Post := Exit → St → Prop

/-- The states that a triple's end may be in, read as the machine's. -/
def Post.at (N n0 : Nat) (w0 : World) (g0 : G) (Q : Post) : Exit → Act → World → Prop :=
  fun e a w => ∃ s g, Q e s ∧ Inv N n0 w0 g0 s a w g

def awp (P : Program) (N n0 : Nat) (c : Code) (Q : Post) (s : St) : Prop :=
  ∀ w0 g0 a w g, Inv N n0 w0 g0 s a w g → c.wp P (Q.at N n0 w0 g0) a w

def Post.then (K : St → Prop) (Q : Post) : Post
  | .normal, s => K s
  | e, s => Q e s

def Post.inBlock (id : Nat) (Q : Post) : Post
  | .exit id', s => if id' = id then Q .normal s else Q (.exit id') s
  | e, s => Q e s

variable {P : Program} {N n0 : Nat} {Q : Post} {s : St}

theorem awp_seq {x y : Code} (h : awp P N n0 x (Post.then (awp P N n0 y Q) Q) s) : awp P N n0 (.seq x y) Q s := by
  intro w0 g0 a w g hi
  refine wp_seq (wp_mono (h w0 g0 a w g hi) ?_)
  rintro e a' w' ⟨s', g', hq, hi'⟩
  cases e with
  | normal => exact hq w0 g0 a' w' g' hi'
  | _ => exact ⟨s', g', hq, hi'⟩

theorem awp_skip (h : Q .normal s) : awp P N n0 .skip Q s := fun _ _ _ _ g hi => wp_skip ⟨s, g, h, hi⟩
theorem awp_ret (h : Q .ret s) : awp P N n0 .ret Q s := fun _ _ _ _ g hi => wp_ret ⟨s, g, h, hi⟩
theorem awp_exit {id : Nat} (h : Q (.exit id) s) : awp P N n0 (.exit id) Q s := fun _ _ _ _ g hi => wp_exit ⟨s, g, h, hi⟩

theorem awp_block {id : Nat} {c : Code} (h : awp P N n0 c (Post.inBlock id Q) s) : awp P N n0 (.block id c) Q s := by
  intro w0 g0 a w g hi
  refine wp_block (wp_mono (h w0 g0 a w g hi) ?_)
  rintro e a' w' ⟨s', g', hq, hi'⟩
  cases e with
  | exit id' =>
    by_cases hid : id' = id
    · simp only [Exit.inBlock, hid, if_true]
      simp only [Post.inBlock, hid, if_true] at hq
      exact ⟨s', g', hq, hi'⟩
    · simp only [Exit.inBlock, hid, if_false]
      simp only [Post.inBlock, hid, if_false] at hq
      exact ⟨s', g', hq, hi'⟩
  | _ => exact ⟨s', g', hq, hi'⟩

theorem then_normal {K : St → Prop} (h : K s) : Post.then K Q .normal s := h
theorem then_ret {K : St → Prop} (h : Q .ret s) : Post.then K Q .ret s := h
theorem then_exit {K : St → Prop} {id : Nat} (h : Q (.exit id) s) : Post.then K Q (.exit id) s := h
theorem inBlock_normal {id : Nat} (h : Q .normal s) : Post.inBlock id Q .normal s := h
theorem inBlock_ret {id : Nat} (h : Q .ret s) : Post.inBlock id Q .ret s := h
theorem inBlock_exit {id : Nat} (h : Q .normal s) : Post.inBlock id Q (.exit id) s := by simpa [Post.inBlock] using h
theorem inBlock_other {id id' : Nat} (hne : Nat.beq id' id = false) (h : Q (.exit id') s) : Post.inBlock id Q (.exit id') s := by
  have : ¬ id' = id := fun e => by subst e; simp at hne
  simpa [Post.inBlock, this] using h

theorem awp_mono {c : Code} {Q' : Post} (h : awp P N n0 c Q s) (hq : ∀ e s, Q e s → Q' e s) : awp P N n0 c Q' s :=
  fun w0 g0 a w g hi => wp_mono (h w0 g0 a w g hi) fun e _ _ ⟨s', g', q, i⟩ => ⟨s', g', hq e s' q, i⟩

/-! ### operands -/

def ofConst : Value → AV
  | .bool b => .bool b
  | .int k n => .int k n
  | .string s => .str s
  | .pointer none => .nilp
  | .slice none 0 0 => .nilS
  | .map none => .nilM
  | .nilIface => .nilI
  | .nilFunc => .nilF
  | _ => .any

def ev (σ : List (Nat × AV)) : Operand → AV
  | .tmp t => lk σ t
  | .const v => ofConst v
  | .func f => .fn f []
  | .global _ => .any

theorem rep_const {w : World} {g : G} (v : Value) : Rep w g (ofConst v) v := by
  unfold ofConst
  split <;> first | exact rfl | exact trivial

theorem rep_ev {a : Act} {w : World} {g : G} {σ : List (Nat × AV)} (h : RelS σ a w g) : ∀ x : Operand, Rep w g (ev σ x) (a.eval x)
  | .tmp t => h t
  | .const v => rep_const v
  | .func _ => ⟨[], rfl, rfl⟩
  | .global _ => trivial

theorem awp_cond {c : Operand} {x y : Code} {b : Bool} (hc : ev s.σ c = .bool b) (ht : b = true → awp P N n0 x Q s) (hf : b = false → awp P N n0 y Q s) :
    awp P N n0 (.cond c x y) Q s := by
  intro w0 g0 a w g hi
  have hr := rep_ev hi.slots c
  rw [hc] at hr
  exact wp_cond_split hr (fun h => ht h w0 g0 a w g hi) (fun h => hf h w0 g0 a w g hi)

/-! ### a slot's content as a plain one -/

mutual
/-- A row of the call's own, or no row, as what it holds. -/
def snap (O : List (Nat × Kind)) : AV → AV
  | .nilS => .sl []
  | .own id => match lkO O id with | some (.row _ xs) => .sl xs | _ => .own id
  | .iface t x => .iface t (snap O x)
  | .fn f cs => .fn f (snapL O cs)
  | .agg cs => .agg (snapL O cs)
  | .tup cs => .tup (snapL O cs)
  | v => v
def snapL (O : List (Nat × Kind)) : List AV → List AV
  | [] => []
  | x :: r => snap O x :: snapL O r
end

mutual
theorem rep_snap {w : World} {g : G} {O : List (Nat × Kind)} (h : RelO O w g) : ∀ {x : AV} {v : Value}, Rep w g x v → Rep w g (snap O x) v
  | .nilS, _, r => ⟨none, 0, r, Nat.le_refl _, fun _ => rfl, fun _ h => by cases h⟩
  | .own id, v, r => by
    simp only [snap]
    cases ho : lkO O id with
    | none => exact r
    | some K =>
      cases K with
      | row z xs =>
        obtain ⟨_, _, a, cap, ho', hc, hn, hs⟩ := h id _ ho
        have e : v = .slice a xs.length cap := by
          have : g.own id = some v := r
          rw [ho'] at this; exact (Option.some.inj this).symm
        exact ⟨a, cap, e, hc, fun h => (hn h).1, fun ad had => ⟨(hs ad had).1, (hs ad had).2.1⟩⟩
      | _ => exact r
  | .iface _ x, _, ⟨y, e, r⟩ => ⟨y, e, rep_snap h r⟩
  | .fn _ cs, _, ⟨vs, e, r⟩ => ⟨vs, e, rep_snapL h r⟩
  | .agg cs, _, ⟨vs, e, r⟩ => ⟨vs, e, rep_snapL h r⟩
  | .tup cs, _, ⟨vs, e, r⟩ => ⟨vs, e, rep_snapL h r⟩
  | .any, _, r => r
  | .bool _, _, r => r
  | .int _ _, _, r => r
  | .str _, _, r => r
  | .nilp, _, r => r
  | .nilM, _, r => r
  | .ptr _ _, _, r => r
  | .rd _, _, r => r
  | .sl _, _, r => r
  | .nilI, _, r => r
  | .nilF, _, r => r
  | .raw _, _, r => r
  | .eptr _ _ _, _, r => r
theorem rep_snapL {w : World} {g : G} {O : List (Nat × Kind)} (h : RelO O w g) : ∀ {xs : List AV} {vs : List Value}, RepL w g xs vs → RepL w g (snapL O xs) vs
  | [], _, r => r
  | _ :: _, _, ⟨v, vs', e, r, rest⟩ => ⟨v, vs', e, rep_snap h r, rep_snapL h rest⟩
end

def evs (s : St) (x : Operand) : AV := snap s.O (ev s.σ x)

theorem rep_evs {N n0 : Nat} {w0 : World} {g0 : G} {s : St} {a : Act} {w : World} {g : G} (h : Inv N n0 w0 g0 s a w g) (x : Operand) : Rep w g (evs s x) (a.eval x) :=
  rep_snap h.owns (rep_ev h.slots x)

/-! ### a state that says less -/

mutual
def AV.lim (n : Nat) : AV → Bool
  | .ptr id _ => Nat.blt id n
  | .own id => Nat.blt id n
  | .eptr id _ _ => Nat.blt id n
  | .rd _ | .sl _ => true
  | .iface _ x => AV.lim n x
  | .fn _ cs | .agg cs | .tup cs => limL n cs
  | _ => true
def limL (n : Nat) : List AV → Bool
  | [] => true
  | x :: r => AV.lim n x && limL n r
end

def G.cut (g : G) (n : Nat) : G :=
  { blk := fun i => if i < n then g.blk i else none, own := fun i => if i < n then g.own i else none, wd := fun i => if i < n then g.wd i else 0,
    owner := fun b => match g.owner b with | some i => if i < n then some i else none | none => none, top := g.top }

mutual
theorem Rep.cut {w : World} {g : G} (n : Nat) : ∀ (x : AV) (v : Value), x.lim n = true → Rep w g x v → Rep w (g.cut n) x v
  | .any, _, _, _ => trivial
  | .bool _, _, _, r => r
  | .int _ _, _, _, r => r
  | .str _, _, _, r => r
  | .nilp, _, _, r => r
  | .nilS, _, _, r => r
  | .nilM, _, _, r => r
  | .ptr id _, _, h, ⟨b, hb, e⟩ => by
    have hi : id < n := by simpa [AV.lim] using h
    exact ⟨b, by simp [G.cut, hi, hb], e⟩
  | .rd _, _, _, r => r
  | .sl _, _, _, r => r
  | .own id, v, h, r => by
    have : id < n := by simpa [AV.lim] using h
    have hr : g.own id = some v := r
    show (g.cut n).own id = some v
    simp [G.cut, this, hr]
  | .eptr id _ _, v, h, ⟨ad, l, cap, e, r⟩ => by
    have : id < n := by simpa [AV.lim] using h
    exact ⟨ad, l, cap, by simp [G.cut, this, e], by simpa [G.cut, this] using r⟩
  | .raw _, _, _, r => r
  | .nilI, _, _, r => r
  | .iface _ x, _, h, ⟨y, e, r⟩ => ⟨y, e, Rep.cut n x y (by simpa [AV.lim] using h) r⟩
  | .nilF, _, _, r => r
  | .fn _ cs, _, h, ⟨vs, e, r⟩ => ⟨vs, e, RepL.cut n cs vs (by simpa [AV.lim] using h) r⟩
  | .agg cs, _, h, ⟨vs, e, r⟩ => ⟨vs, e, RepL.cut n cs vs (by simpa [AV.lim] using h) r⟩
  | .tup cs, _, h, ⟨vs, e, r⟩ => ⟨vs, e, RepL.cut n cs vs (by simpa [AV.lim] using h) r⟩
theorem RepL.cut {w : World} {g : G} (n : Nat) : ∀ (cs : List AV) (vs : List Value), limL n cs = true → RepL w g cs vs → RepL w (g.cut n) cs vs
  | [], _, _, r => r
  | x :: cs, _, h, ⟨v, vs', e, r, rest⟩ => by
    simp only [limL, Bool.and_eq_true] at h
    exact ⟨v, vs', e, Rep.cut n x v h.1 r, RepL.cut n cs vs' h.2 rest⟩
end

def SubS (σ : List (Nat × AV)) (n : Nat) : List (Nat × AV) → Prop
  | [] => True
  | (t, v) :: r => (lk σ t = v ∧ v.lim n = true) ∧ SubS σ n r

def SubH (H : List (Nat × Nat × AV)) (n : Nat) : List (Nat × Nat × AV) → Prop
  | [] => True
  | (i, o, v) :: r => (lkH H i o = some v ∧ v.lim n = true ∧ Nat.blt i n = true) ∧ SubH H n r

def limLL (n : Nat) : List (List AV) → Bool
  | [] => true
  | x :: r => limL n x && limLL n r

def Kind.lim (n : Nat) : Kind → Bool
  | .row _ _ => true
  | .wr _ xs => limLL n xs
  | .map ks vs => limL n ks && limL n vs
  | .sem _ => true

def SubO (O : List (Nat × Kind)) (n : Nat) : List (Nat × Kind) → Prop
  | [] => True
  | (i, K) :: r => (lkO O i = some K ∧ K.lim n = true ∧ Nat.blt i n = true) ∧ SubO O n r

theorem limL_append {n : Nat} : ∀ {xs ys : List AV}, limL n (xs ++ ys) = (limL n xs && limL n ys)
  | [], _ => rfl
  | x :: xs, ys => by simp only [List.cons_append, limL, limL_append (xs := xs), Bool.and_assoc]

theorem limLL_flatten {n : Nat} : ∀ {xs : List (List AV)}, limLL n xs = true → limL n xs.flatten = true
  | [], _ => rfl
  | x :: xs, h => by
    simp only [limLL, Bool.and_eq_true] at h
    simp only [List.flatten_cons, limL_append, h.1, limLL_flatten h.2, Bool.and_self]

theorem Kind.cut {id n : Nat} {w : World} {g : G} {K : Kind} (h : K.holds id w g) (hl : K.lim n = true) (hi : id < n) : K.holds id w (g.cut n) := by
  have ho : ∀ b, g.owner b = some id → (g.cut n).owner b = some id := fun b hb => by simp [G.cut, hb, hi]
  have hO : ∀ ad m, Ours id w g ad m → Ours id w (g.cut n) ad m := fun ad m ⟨h1, h2, h3⟩ => ⟨h1, ho _ h2, h3⟩
  cases K with
  | row z xs =>
    obtain ⟨h1, h0, a, cap, h2, h3, h4, h5⟩ := h
    exact ⟨h1, by simpa [G.cut, hi] using h0, a, cap, by simp [G.cut, hi, h2], h3, h4, fun ad e => ⟨(h5 ad e).1, (h5 ad e).2.1, (h5 ad e).2.2.imp _root_.id fun ⟨o, t⟩ => ⟨hO _ _ o, t⟩⟩⟩
  | wr z xs =>
    obtain ⟨h1, h0, a, cap, h2, h3, h4, h5⟩ := h
    refine ⟨h1, by simpa [G.cut, hi] using h0, a, cap, by simp [G.cut, hi, h2], h3, h4, fun ad e => ?_⟩
    obtain ⟨o, t, vs, r, c⟩ := h5 ad e
    exact ⟨hO _ _ o, t, vs, RepL.cut n _ _ (limLL_flatten hl) r, c⟩
  | map ks vs =>
    obtain ⟨b, es, clock, h1, h2, h3, h4, h5, h6⟩ := h
    simp only [Kind.lim, Bool.and_eq_true] at hl
    exact ⟨b, es, clock, by simp [G.cut, hi, h1], ho _ h2, h3, h4, RepL.cut n _ _ hl.1 h5, RepL.cut n _ _ hl.2 h6⟩
  | sem s =>
    obtain ⟨v, h1, h2⟩ := h
    have : (fun b => (g.cut n).owner b = some id) = fun b => g.owner b = some id := by
      funext b
      refine propext ⟨fun hb => ?_, ho b⟩
      simp only [G.cut] at hb
      split at hb
      · split at hb
        · rename_i h1 _; rw [h1]; exact hb
        · cases hb
      · cases hb
    exact ⟨v, by simp [G.cut, hi, h1], by rw [this]; exact h2⟩

/-- s says all that s' says. -/
structure Sub (s s' : St) : Prop where
  n : s'.n ≤ s.n
  σ : SubS s.σ s'.n s'.σ
  H : SubH s.H s'.n s'.H
  O : SubO s.O s'.n s'.O

theorem SubS.lk {σ : List (Nat × AV)} {n : Nat} : ∀ {σ' : List (Nat × AV)}, SubS σ n σ' → ∀ t, Go.Pv.lk σ' t = .any ∨ (Go.Pv.lk σ t = Go.Pv.lk σ' t ∧ (Go.Pv.lk σ' t).lim n = true)
  | [], _, _ => .inl rfl
  | (u, v) :: r, h, t => by
    simp only [Go.Pv.lk]
    by_cases hu : Nat.beq u t = true
    · have : u = t := by simpa using hu
      subst this
      simp only [Nat.beq_refl, if_true]
      exact .inr h.1
    · simp only [hu, if_false, Bool.false_eq_true]
      exact SubS.lk h.2 t

theorem SubH.lk {H : List (Nat × Nat × AV)} {n : Nat} : ∀ {H' : List (Nat × Nat × AV)}, SubH H n H' → ∀ i o x, lkH H' i o = some x → lkH H i o = some x ∧ x.lim n = true ∧ i < n
  | [], _, _, _, _, e => by simp [lkH] at e
  | (j, p, v) :: r, h, i, o, x, e => by
    simp only [lkH] at e
    by_cases hu : (Nat.beq j i && Nat.beq p o) = true
    · rw [if_pos hu] at e
      simp only [Bool.and_eq_true, Nat.beq_eq] at hu
      obtain ⟨rfl, rfl⟩ := hu
      obtain rfl := Option.some.inj e
      exact ⟨h.1.1, h.1.2.1, by simpa using h.1.2.2⟩
    · rw [if_neg hu] at e
      exact SubH.lk h.2 i o x e

theorem SubO.lk {O : List (Nat × Kind)} {n : Nat} : ∀ {O' : List (Nat × Kind)}, SubO O n O' → ∀ i K, lkO O' i = some K → lkO O i = some K ∧ K.lim n = true ∧ i < n
  | [], _, _, _, e => by simp [lkO] at e
  | (j, y) :: r, h, i, K, e => by
    simp only [lkO] at e
    by_cases hu : Nat.beq j i = true
    · rw [if_pos hu] at e
      simp only [Nat.beq_eq] at hu
      subst hu
      obtain rfl := Option.some.inj e
      exact ⟨h.1.1, h.1.2.1, by simpa using h.1.2.2⟩
    · rw [if_neg hu] at e
      exact SubO.lk h.2 i K e

theorem Inv.sub {N n0 : Nat} {w0 : World} {g0 : G} {s s' : St} {a : Act} {w : World} {g : G} (h : Inv N n0 w0 g0 s a w g) (hs : Sub s s') (hn : n0 ≤ s'.n) :
    Inv N n0 w0 g0 s' a w (g.cut s'.n) where
  defers := h.defers
  size := h.size
  slots t := by
    rcases hs.σ.lk t with e | ⟨e, hl⟩
    · rw [e]; trivial
    · have := h.slots t; rw [e] at this; exact Rep.cut _ _ _ hl this
  cells i o x hx := by
    obtain ⟨h1, h2, h3⟩ := hs.H.lk i o x hx
    obtain ⟨b, c, e, hb, hw, v, hv, r⟩ := h.cells i o x h1
    exact ⟨b, c, e, by simp [G.cut, h3, hb], hw, v, hv, Rep.cut _ _ _ h2 r⟩
  owns i K hx := by
    obtain ⟨h1, h2, h3⟩ := hs.O.lk i K hx
    exact Kind.cut (h.owns i K h1) h2 h3
  wf := {
    topNew := h.wf.topNew
    ownNew := fun b hb => by simp [G.cut, h.wf.ownNew b hb]
    blkOwner := fun id b hb => by
      simp only [G.cut] at hb
      split at hb
      · rename_i hi
        obtain ⟨k1, k2, k3, k4⟩ := h.wf.blkOwner id b hb
        exact ⟨by simp [G.cut, k1, hi], k2, k3, hi⟩
      · cases hb
    ownLt := fun id v hv => by
      simp only [G.cut] at hv
      split at hv
      · assumption
      · cases hv
    ownSl := fun id v hv => by
      simp only [G.cut] at hv
      split at hv
      · exact h.wf.ownSl id v hv
      · cases hv
    sep := fun id b hb => by
      simp only [G.cut] at hb
      split at hb
      · rename_i hi; simp [G.cut, hi, h.wf.sep id b hb]
      · cases hb
    idLt := fun b i hb => by
      simp only [G.cut] at hb
      split at hb
      · split at hb
        · rename_i hi; obtain rfl := Option.some.inj hb; exact hi
        · cases hb
      · cases hb }
  frame := {
    os := h.frame.os
    tape := h.frame.tape
    output := h.frame.output
    size := h.frame.size
    block := h.frame.block
    foreign := fun b hb ho => by
      obtain ⟨k1, k2⟩ := h.frame.foreign b hb ho
      exact ⟨by simp [G.cut, k1], k2⟩
    top := h.frame.top
    stable := h.frame.stable
    blk := fun id hi => by
      have : id < s'.n := Nat.lt_of_lt_of_le hi hn
      simp [G.cut, this, h.frame.blk id hi]
    own := fun id hi => by
      have : id < s'.n := Nat.lt_of_lt_of_le hi hn
      simp [G.cut, this, h.frame.own id hi]
    wd := fun id hi => by
      have : id < s'.n := Nat.lt_of_lt_of_le hi hn
      simp [G.cut, this, h.frame.wd id hi] }
  nle := hn

theorem awp_sub {c : Code} {s' : St} (hs : Sub s s') (hn : n0 ≤ s'.n) (h : awp P N n0 c Q s') : awp P N n0 c Q s :=
  fun w0 g0 a w _ hi => h w0 g0 a w _ (hi.sub hs hn)

theorem least_of {p : Nat → Prop} (h : ∃ n, p n) : ∃ n, p n ∧ ∀ m, p m → n ≤ m := by
  obtain ⟨n, hn⟩ := h
  induction n using Nat.strongRecOn with
  | _ n ih =>
    by_cases hm : ∃ m, m < n ∧ p m
    · obtain ⟨m, hlt, hp⟩ := hm; exact ih m hlt hp
    · exact ⟨n, hn, fun m hp => Nat.le_of_not_lt fun hlt => hm ⟨m, hlt, hp⟩⟩

open Classical in
theorem awp_loop {c : Code} {ι : Type} (inv : ι → St) (good : ι → Prop) (μ : ι → Nat) (i0 : ι) (h0 : good i0) (hs : Sub s (inv i0)) (hn : ∀ i, n0 ≤ (inv i).n)
    (round : ∀ i, good i → awp P N n0 c (Post.then (fun s' => ∃ j, good j ∧ μ j < μ i ∧ Sub s' (inv j)) Q) (inv i)) : awp P N n0 (.loop c) Q s := by
  intro w0 g0 a w g hi
  let I : Act → World → Nat → Prop := fun a w m => ∃ i g, good i ∧ μ i = m ∧ Inv N n0 w0 g0 (inv i) a w g
  refine wp_loop (fun a w => ∃ m, I a w m) (fun a w => if h : ∃ m, I a w m then Classical.choose (least_of h) else 0) ⟨_, i0, _, h0, rfl, hi.sub hs (hn i0)⟩ ?_
  intro a w hI
  obtain ⟨⟨i, g, hg, hm, hinv⟩, hleast⟩ := Classical.choose_spec (least_of hI)
  refine wp_mono (round i hg w0 g0 a w g hinv) ?_
  rintro e a' w' ⟨s', g', hq, hi'⟩
  cases e with
  | normal =>
    obtain ⟨j, hj, hlt, hsub⟩ := hq
    have hI' : ∃ m, I a' w' m := ⟨_, j, _, hj, rfl, hi'.sub hsub (hn j)⟩
    refine ⟨hI', ?_⟩
    rw [dif_pos hI, dif_pos hI']
    have := (Classical.choose_spec (least_of hI')).2 (μ j) ⟨j, _, hj, rfl, hi'.sub hsub (hn j)⟩
    omega
  | _ => exact ⟨s', g', hq, hi'⟩

end Go.Pv
