/- The texts Tx1 .. Tx16 of this proof, one behind the other. -/
import Derived.Below
import Derived.OrdersHeld
import Derived.Tactics
import Derived.Laws.OwnMore
import Derived.KernelRfl
import Derived.Deep.Slices
import Derived.Stop.Asserts
import Derived.Deep.AppendSrc
import Derived.Laws.MakeOwn
import Derived.Laws.RangeString
import Derived.Laws.BytesString
import Derived.MapKept
import Derived.Carry
import Derived.LoopN
/- The symbolic values, the environment, the heap of a function's own objects, and the one lemma by which a world's step keeps them. -/
theorem aI{α:Type}{p:α→Prop}{q:Prop}(h:q)(s:∀m,p m:=by intro _;omega):(∀m,p m)∧q:=⟨s,h⟩
theorem sI{α:Type _}{a b:α}:(some a=some b)=(a=b):=Option.some.injEq a b
theorem pI{α:Type _}{β:Type _}{a c:α}{b d:β}:((a,b)=(c,d))=(a=c∧b=d):=Prod.mk.injEq a b c d
namespace Go.Pl
noncomputable def yO(a:Nat):Nat:=Classical.choose (⟨a,rfl⟩:∃ x:Nat,x=a)
theorem qQ(a:Nat):yO a=a:=Classical.choose_spec (⟨a,rfl⟩:∃ x:Nat,x=a)
noncomputable def qB(n i:Nat):Nat:=yO (n / 18446744073709551616^i%18446744073709551616)
end Go.Pl
namespace Go.Sx
open Go.RowKit

abbrev yT:=List (Nat×Nat×Nat)
inductive qG where
  | v (x : Value)
  | s (pt : Bool) (sz n : Nat) (c : Nat → Nat → qG)
def qTy(c:Nat→Nat→qG)(k j:Nat)(l:List qG):Nat→Nat→qG:=fun k' j' =>
 bif Nat.beq k' k&&Nat.ble j j' then(match l[j' - j]? with | some x=>x | none=>c k' j') else c k' j'
def lc(sz:Nat)(l:List qG):Nat→Nat→qG:=fun k j=>l.getD (k*sz+j) (.v undef)
def qJg(n:Nat)(c c2:Nat→Nat→qG):Nat→Nat→qG:=fun k j=>bif Nat.blt k n then c k j else c2 (k-n) j
def qVx(z:List Value):Nat→Nat→qG:=fun _ j=>.v (z.getD j undef)
inductive Ct where
  | fn (c : Nat → Nat → qG)
  | app (n : Nat) (a b : Ct)
  | upd (a : Ct) (k j : Nat) (l : List qG)
  | lit (sz : Nat) (l : List qG)
  | zero (z : List Value)
def Ct.at:Ct→Nat→Nat→qG
 | .fn c=>c
 | .app n a b=>qJg n a.at b.at
 | .upd a k j l=>qTy a.at k j l
 | .lit sz l=>lc sz l
 | .zero z=>qVx z
inductive SV where
  | v (x : Value)
  | bl (b : Bool)
  | p (i off : Nat)
  | o (i : Nat)
  | q (i off : Nat)
  | m (i : Nat)
  | sl (i off len cap : Nat)
  | x (i : Nat) (p : yT)
  | xp (i : Nat) (p : yT) (sz k j : Nat)
  | qk (i sz k j : Nat)
  | agg (cs : List SV)
  | tup (cs : List SV)
  | fn (f : Fn) (first cap : List SV)
  | ifc (t : TypeId) (y : SV)

inductive Mc where
  | unit
  | ints (q : IntKind) (l : List Int)
  | svs (xs : List SV)
def qX:List IntKind→List Int→List Value
 | k::ks,x::xs=>.int k x::qX ks xs
 | _,_=>[]
def mkT(ag:Bool)(ks:List IntKind)(xs:List Int):Value:=if ag then .agg (qX ks xs).toArray else(qX ks xs).headD undef
def mpE(ag:Bool)(ks:List IntKind):Nat→List (List Int)→List Value→List MapEntry
 | i,k::r,v::t=>⟨mkT ag ks k,v,i⟩::mpE ag ks (i+1) r t
 | _,_,_=>[]
def mpO(ag:Bool)(ks:List IntKind)(kl:List (List Int))(vs:List Value):Obj:=.map (mpE ag ks 0 kl vs).toArray kl.length
structure Env where
  blk : Nat → Nat
  row : Nat → Value
  val : Nat → yT → Value
  one : ∀ i p, (val i p).oneCell' = true
  z : Nat → Prop
def qSt(v:Value)(n:Nat):Value :=
 match v with
 | .slice (some a) _ _=>.pointer (some (a.add n))
 | .pointer (some a)=>.pointer (some (a.add n))
 | _=>.pointer none
def qFt(v:Value)(n:Nat):Value :=
 match v with
 | .slice (some a) _ _=>.pointer (some ⟨a.block,n,none⟩)
 | _=>.pointer none
mutual
def den (e : Env) : SV → Value
  | .v x => x
  | .bl b => .bool b
  | .p i off => .pointer (some ⟨e.blk i, off, none⟩)
  | .o i => e.row i
  | .q i off => match e.row i with | .slice (some a) _ _ => .pointer (some ⟨a.block, off, none⟩) | _ => .pointer none
  | .m i => .map (some (e.blk i))
  | .sl i off len cap => .slice (some ⟨e.blk i, off, none⟩) len cap
  | .x i p => e.val i p
  | .xp i p sz k j => qSt (e.val i p) (k * sz + j)
  | .qk i sz k j => qFt (e.row i) (k * sz + j)
  | .agg cs => .agg (qS e cs).toArray
  | .tup cs => .tuple (qS e cs).toArray
  | .fn f a c => .func f (qS e a).toArray (qS e c).toArray
  | .ifc t y => .iface t (den e y)
def qS (e : Env) : List SV → List Value
  | [] => []
  | x :: r => den e x :: qS e r
end
theorem yQ(e:Env)(l:List SV):qS e l=l.map (den e):=by
 induction l with
 | nil=>rfl
 | cons x r ih=>simp [qS,ih]
theorem qV(e:Env)(l:List SV):(qS e l).length=l.length:=by simp [yQ]
mutual
def ws (n : Nat) : SV → Prop
  | .v _ => True
  | .bl _ => True
  | .p i _ => i < n
  | .o i => i < n
  | .q i _ => i < n
  | .m i => i < n
  | .sl i _ _ _ => i < n
  | .x i _ => i < n
  | .xp i _ _ _ _ => i < n
  | .qk i _ _ _ => i < n
  | .agg cs => wsL n cs
  | .tup cs => wsL n cs
  | .fn _ a c => wsL n a ∧ wsL n c
  | .ifc _ y => ws n y
def wsL (n : Nat) : List SV → Prop
  | [] => True
  | x :: r => ws n x ∧ wsL n r
end
theorem xD(n:Nat)(l:List SV):wsL n l↔∀ x∈l,ws n x:=by
 induction l with
 | nil=>simp [wsL]
 | cons x r ih=>simp [wsL,ih]
def Mc.den(e:Env)(n:Nat):Mc→List Value
 | .unit=>List.replicate n (.agg #[])
 | .ints q l=>l.map (Value.int q)
 | .svs xs=>qS e xs
def Mc.ws(n:Nat):Mc→Prop
 | .svs xs=>wsL n xs
 | _=>True
def Mc.map(g:List SV→List SV):Mc→Mc
 | .svs xs=>.svs (g xs)
 | .unit=>.unit
 | .ints q l=>.ints q l
theorem Mc.den_map(e e':Env)(n:Nat)(g:List SV→List SV):∀(c:Mc),(∀ xs,c=.svs xs→qS e' (g xs)=qS e xs)→(c.map g).den e' n=c.den e n
 | .unit,_=>rfl
 | .ints _ _,_=>rfl
 | .svs xs,h=>h xs rfl
theorem Mc.ws_map(n m:Nat)(g:List SV→List SV):∀(c:Mc),(∀ xs,c=.svs xs→wsL n xs→wsL m (g xs))→c.ws n→(c.map g).ws m
 | .unit,_,_=>trivial
 | .ints _ _,_,_=>trivial
 | .svs xs,h,hs=>h xs rfl hs
def zN(n:Nat)(e e':Env):Prop:=(∀ i,i<n→e'.blk i=e.blk i∧e'.row i=e.row i∧e'.val i=e.val i)∧e'.z=e.z
theorem zN.refl(n:Nat)(e:Env):zN n e e:=⟨fun _ _=>⟨rfl,rfl,rfl⟩,rfl⟩
theorem zN.trans{n m:Nat}{a b c:Env}(h:zN n a b)(k:zN m b c)(hnm:n≤m):zN n a c :=
 ⟨fun i hi=>⟨((k.1 i (by omega)).1).trans (h.1 i hi).1,((k.1 i (by omega)).2.1).trans (h.1 i hi).2.1,((k.1 i (by omega)).2.2).trans (h.1 i hi).2.2⟩,k.2.trans h.2⟩
mutual
theorem yS {n : Nat} {e e' : Env} (h : zN n e e') : ∀ (s : SV), ws n s → den e' s = den e s
  | .v _, _ => rfl
  | .bl _, _ => rfl
  | .p i off, hs => by simp only [den, (h.1 i hs).1]
  | .o i, hs => by simp only [den, (h.1 i hs).2.1]
  | .q i off, hs => by simp only [den, (h.1 i hs).2.1]
  | .m i, hs => by simp only [den, (h.1 i hs).1]
  | .sl i _ _ _, hs => by simp only [den, (h.1 i hs).1]
  | .x i p, hs => by simp only [den, (h.1 i hs).2.2]
  | .xp i p sz k j, hs => by simp only [den, (h.1 i hs).2.2]
  | .qk i sz k j, hs => by simp only [den, (h.1 i hs).2.1]
  | .agg cs, hs => by simp only [den, jL h cs hs]
  | .tup cs, hs => by simp only [den, jL h cs hs]
  | .fn f a c, hs => by simp only [den, jL h a hs.1, jL h c hs.2]
  | .ifc t y, hs => by simp only [den, yS h y hs]
theorem jL {n : Nat} {e e' : Env} (h : zN n e e') : ∀ (l : List SV), wsL n l → qS e' l = qS e l
  | [], _ => rfl
  | x :: r, hs => by simp only [qS, yS h x hs.1, jL h r hs.2]
end
mutual
theorem wB {n m : Nat} (h : n ≤ m) : ∀ (s : SV), ws n s → ws m s
  | .v _, _ => trivial
  | .bl _, _ => trivial
  | .p _ _, hs => Nat.lt_of_lt_of_le hs h
  | .o _, hs => Nat.lt_of_lt_of_le hs h
  | .q _ _, hs => Nat.lt_of_lt_of_le hs h
  | .m _, hs => Nat.lt_of_lt_of_le hs h
  | .sl _ _ _ _, hs => Nat.lt_of_lt_of_le hs h
  | .x _ _, hs => Nat.lt_of_lt_of_le hs h
  | .xp _ _ _ _ _, hs => Nat.lt_of_lt_of_le hs h
  | .qk _ _ _ _, hs => Nat.lt_of_lt_of_le hs h
  | .agg cs, hs => yY h cs hs
  | .tup cs, hs => yY h cs hs
  | .fn _ a c, hs => ⟨yY h a hs.1, yY h c hs.2⟩
  | .ifc _ y, hs => wB h y hs
theorem yY {n m : Nat} (h : n ≤ m) : ∀ (l : List SV), wsL n l → wsL m l
  | [], _ => trivial
  | x :: r, hs => ⟨wB h x hs.1, yY h r hs.2⟩
end

inductive HO where
  | cells (cs : List SV) (T : TypeId)
  | row (T : TypeId) (size n : Nat) (xs : List SV)
  | rowc (T : TypeId) (size n : Nat) (c : Ct)
  | ext (b : Bool) (c : qG)
  | obj (o : Obj)
  | mp (ag : Bool) (ks : List IntKind) (kl : List (List Int)) (c : Mc)
  | gone

def HO.ws(n:Nat):HO→Prop
 | .cells cs _=>wsL n cs
 | .row _ _ _ xs=>wsL n xs
 | .mp _ _ _ c=>c.ws n
 | _=>True
theorem HO.ws_mono{n m:Nat}(h:n≤m):∀ {ho:HO},ho.ws n→ho.ws m
 | .cells cs _,hs=>yY h cs hs
 | .row _ _ _ xs,hs=>yY h xs hs
 | .rowc ..,_=>trivial
 | .ext ..,_=>trivial
 | .obj _,_=>trivial
 | .mp _ _ _ (.svs xs),hs=>yY h xs hs
 | .mp _ _ _ .unit,_=>trivial
 | .mp _ _ _ (.ints _ _),_=>trivial
 | .gone,_=>trivial
def HO.own(e:Env)(i:Nat):HO→Option Nat
 | .cells _ _=>some (e.blk i)
 | .row ..=>(e.row i).ownBlock
 | .rowc ..=>(e.row i).ownBlock
 | .ext ..=>none
 | .obj _=>some (e.blk i)
 | .mp ..=>some (e.blk i)
 | .gone=>none
def qXz:Obj→Bool
 | .cells ..=>true
 | _=>false
abbrev Mem:=Nat→Option Obj
def Mem.le(M M':Mem):Prop:=∀ b o,M b=some o→M' b=some o
theorem Mem.le.refl(M:Mem):M.le M:=fun _ _ h=>h
theorem Mem.le.trans{a b c:Mem}(h:a.le b)(k:b.le c):a.le c:=fun _ _ x=>k _ _ (h _ _ x)
open Classical in
noncomputable def Mem.sub(M:Mem)(z:Nat→Prop):Mem:=fun b=>if z b then none else M b
theorem Mem.sub_le(M:Mem)(z:Nat→Prop):(M.sub z).le M:=by
 intro b o h
 unfold Mem.sub at h
 split at h
 ·cases h
 ·exact h
theorem Mem.sub_mono{M M':Mem}(h:M.le M')(z:Nat→Prop):(M.sub z).le (M'.sub z):=by
 intro b o hb
 unfold Mem.sub at hb ⊢
 split at hb
 ·cases hb
 ·rename_i hz
  rw[if_neg hz]
  exact h _ _ hb
def jM(F:Mem→Prop):Prop:=∀ M M',Mem.le M M'→F M→F M'
def Mem.cell? (M:Mem) (a:Addr):Option Value :=
 match M a.block with
 | some (.cells c _ _)=>if a.spot.isSome then none else c[a.off]?
 | _=>none
theorem Mem.cell_mono{M M':Mem}(h:M.le M'){a:Addr}{v:Value}(hc:M.cell? a=some v):M'.cell? a=some v:=by
 unfold Mem.cell? at hc ⊢
 cases hM:M a.block with
 | none=>rw[hM] at hc; cases hc
 | some o=>rw[hM] at hc; rw[h _ _ hM]; exact hc
def qZc(pt:Bool)(n:Nat)(v:Value)(oa:Option Addr):Prop :=
 match pt with
 | true=>v=.pointer oa
 | false=>∃ cap,v=.slice oa n cap∧n≤cap
def qAa(M:Mem)(f:yT→Value):qG→yT→Prop
 | .v x,p=>f p=x
 | .s pt sz n c,p=>∃ oa,qZc pt n (f p) oa∧(n=0∨∃ ad,oa=some ad∧∀ k,k<n→∀ j,j<sz→M.cell? (ad.add (k*sz+j))=some (f (p++[(sz,k,j)]))∧qAa M f (c k j) (p++[(sz,k,j)]))
theorem zR{M M':Mem}(h:M.le M')(f:yT→Value):∀(c:qG) (p:yT),qAa M f c p→qAa M' f c p
 | .v _,_,hr=>hr
 | .s _ _ _ c,_,⟨oa,h1,h2⟩=>⟨oa,h1,h2.imp id fun⟨ad,h3,h4⟩=>⟨ad,h3,fun k hk j hj=>⟨Mem.cell_mono h (h4 k hk j hj).1,zR h f (c k j) _ (h4 k hk j hj).2⟩⟩⟩
theorem xO{M:Mem}(f:yT→Value)(q:yT):∀(c:qG) (p:yT),qAa M (fun r=>f (q++r)) c p↔qAa M f c (q++p)
 | .v _,_=>Iff.rfl
 | .s pt sz n c,p=>by
  simp only[qAa]
  refine exists_congr fun oa=>and_congr Iff.rfl (or_congr Iff.rfl (exists_congr fun ad=>and_congr Iff.rfl ?_))
  refine forall_congr' fun k=>forall_congr' fun _=>forall_congr' fun j=>forall_congr' fun _=>?_
  rw[xO f q (c k j),List.append_assoc]
def xF(M:Mem)(u:Value)(c:qG):Prop:=∃ f:yT→Value,(∀ p,(f p).oneCell'=true)∧f []=u∧qAa M f c []
theorem qCs{M M':Mem}(h:M.le M'){u:Value}{c:qG}:xF M u c→xF M' u c
 | ⟨f,h1,h2,h3⟩=>⟨f,h1,h2,zR h f c [] h3⟩
def xC(M:Mem)(size n:Nat)(c:Nat→Nat→qG)(zB:List Value):Prop:=∀ k,k<n→∀ j,j<size→∃ u,zB[k*size+j]?=some u∧xF M u (c k j)
theorem zO{M M':Mem}(h:M.le M'){size n:Nat}{c:Nat→Nat→qG}{zB:List Value}(hr:xC M size n c zB):xC M' size n c zB :=
 fun k hk j hj=>by
  obtain⟨u,h1,h2⟩:=hr k hk j hj
  exact⟨u,h1,qCs h h2⟩
def HO.sat(e:Env)(M:Mem)(i:Nat)(w:World):HO→Prop
 | .cells cs T=>w.heap[e.blk i]?=some (.cells (qS e cs).toArray T (0,0))
 | .row T size n xs=>w.ownsRow 0 T size (e.row i) n (qS e xs)∧∀ u∈qS e xs,u.oneCell'=true
 | .rowc T size n c=>∃ zB,w.ownsRow 0 T size (e.row i) n zB∧(∀ u∈zB,u.oneCell'=true)∧xC (M.sub e.z) size n c.at zB
 | .ext b c=>qAa (if b then M else M.sub e.z) (e.val i) c []
 | .obj o=>w.heap[e.blk i]?=some o∧qXz o=false
 | .mp ag ks kl c=>w.heap[e.blk i]?=some (mpO ag ks kl (c.den e kl.length))∧(c.den e kl.length).length=kl.length∧∀ k∈kl,k.length=ks.length
 | .gone=>True
def qAe(e:Env)(h:List HO)(b:Nat):Prop:=∃(i:Nat) (ho:HO),h[i]?=some ho∧ho.own e i=some b
open Classical in
noncomputable def mem(w:World)(e:Env)(h:List HO):Mem:=fun b=>if qAe e h b then none else w.heap[b]?
def xL(w:World):Mem:=fun b=>w.heap[b]?
theorem jE(w:World)(e:Env)(h:List HO):(mem w e h).le (xL w):=by
 intro b o hb
 unfold mem at hb
 split at hb
 ·cases hb
 ·exact hb
structure qDe where
  w : World
  z : Nat → Prop
  /-- how many of the first objects stand for what the caller has given -/
  m : Nat
  e0 : Env
structure qW (F : Mem → Prop) (w0 : qDe) (h : List HO) (e : Env) (w : World) : Prop where
  os : w.os = w0.w.os
  tape : w.tape = w0.w.tape
  output : w.output = w0.w.output
  sat : ∀ (i : Nat) (ho : HO), h[i]? = some ho → ho.sat e (mem w e h) i w
  ws : ∀ (i : Nat) (ho : HO), h[i]? = some ho → ho.ws h.length
  one : ∀ (i j : Nat) (ho ho' : HO) (b : Nat), h[i]? = some ho → h[j]? = some ho' → ho.own e i = some b → ho'.own e j = some b → i = j
  fact : F (mem w e h)
  nz : ∀ (i : Nat) (ho : HO) (b : Nat), h[i]? = some ho → ho.own e i = some b → ¬ e.z b
  zlt : ∀ b, e.z b → b < w.heap.size
  ez : e.z = w0.z
  pin : w0.m ≤ h.length ∧ ∀ i, i < w0.m → e.blk i = w0.e0.blk i ∧ e.row i = w0.e0.row i ∧ e.val i = w0.e0.val i

theorem HO.own_lt{e:Env}{M:Mem}{i:Nat}{w:World}{ho:HO}(hs:ho.sat e M i w){b:Nat}(hb:ho.own e i=some b):b<w.heap.size:=by
 cases ho with
 | cells cs T =>
  simp only[HO.own,sI] at hb
  subst hb
  exact(Array.getElem?_eq_some_iff.1 hs).1
 | row T size n xs=>exact(World.ownsRow.lt hs.1 b hb).2
 | rowc T size n c =>
  obtain⟨zB,h1,_⟩:=hs
  exact(World.ownsRow.lt h1 b hb).2
 | ext b c=>simp [HO.own] at hb
 | obj o =>
  simp only[HO.own,sI] at hb
  subst hb
  exact(Array.getElem?_eq_some_iff.1 hs.1).1
 | mp ag ks kl c =>
  simp only[HO.own,sI] at hb
  subst hb
  exact(Array.getElem?_eq_some_iff.1 hs.1).1
 | gone=>simp [HO.own] at hb
theorem qAj{w w':World}{T:TypeId}{size n:Nat}{v:Value}{xs:List Value}(h:w.ownsRow 0 T size v n xs)(hk:∀ b,v.ownBlock=some b→w'.heap[b]?=w.heap[b]?):w'.ownsRow 0 T size v n xs:=by
 obtain⟨h1,h2⟩:=h
 refine⟨h1,?_⟩
 rcases h2 with h2 | ⟨g,cap,cur,hv,hg,hh,r⟩
 ·exact .inl h2
 ·refine .inr ⟨g,cap,cur,hv,hg,?_,r⟩
  rw[hk g (by simp [hv,Value.ownBlock])]
  exact hh
theorem HO.sat_keep{e e':Env}{M M':Mem}{i n:Nat}{w w':World}{ho:HO}(hM:M.le M')(hi:i<n)(hag:zN n e e')(hws:ho.ws n)(hs:ho.sat e M i w)(hk:∀ b,ho.own e i=some b→w'.heap[b]?=w.heap[b]?):ho.sat e' M' i w':=by
 cases ho with
 | cells cs T =>
  simp only[HO.sat,jL hag cs hws,(hag.1 i hi).1]
  rw[hk _ rfl]
  exact hs
 | row T size n xs =>
  simp only[HO.sat,jL hag xs hws,(hag.1 i hi).2.1]
  exact⟨qAj hs.1 fun b hb=>hk b hb,hs.2⟩
 | rowc T size n c =>
  obtain⟨zB,h1,h2,h3⟩:=hs
  simp only[HO.sat,(hag.1 i hi).2.1,hag.2]
  exact⟨zB,qAj h1 fun b hb=>hk b hb,h2,zO (Mem.sub_mono hM _) h3⟩
 | ext b c =>
  simp only[HO.sat,(hag.1 i hi).2.2,hag.2] at hs ⊢
  cases b with
  | true=>exact zR hM _ c [] hs
  | false=>exact zR (Mem.sub_mono hM _) _ c [] hs
 | obj o =>
  simp only[HO.sat,(hag.1 i hi).1]
  rw[hk _ rfl]
  exact hs
 | mp ag ks kl c =>
  have hc:c.den e' kl.length=c.den e kl.length:=by
   cases c with
   | svs xs=>exact jL hag xs hws
   | _=>rfl
  simp only[HO.sat,(hag.1 i hi).1,hc]
  rw[hk _ rfl]
  exact hs
 | gone=>trivial
theorem HO.own_agree{e e':Env}{i n:Nat}{ho:HO}(hi:i<n)(hag:zN n e e'):ho.own e' i=ho.own e i:=by
 cases ho <;> simp [HO.own,(hag.1 i hi).1,(hag.1 i hi).2]
theorem qW.next{F:Mem→Prop}(hF:jM F){w0:qDe}{h h':List HO}{e e':Env}{w w':World}(S:qW F w0 h e w)(k:Nat)(hk':HO)(hlen:h.length≤h'.length)(hk:h'[k]?=some hk')(hag:zN h.length e e')(xA:∀ i ho,i≠k→h'[i]?=some ho→h[i]?=some ho∨ho=.gone)(_hold':∀ i ho,i≠k→h[i]?=some ho→h'[i]?=some ho∨h'[i]?=some .gone)(beta:Option Nat)(hbeta:∀ b,beta=some b→∃ j ho,h[j]?=some ho∧ho.own e j=some b∧(j=k∨h'[j]?=some .gone))(_hkold:∀ ho b,h[k]?=some ho→ho.own e k=some b→beta=some b∧hk'.own e' k=some b)(hsat:(mem w e h).le (mem w' e' h')→hk'.sat e' (mem w' e' h') k w')(hws:hk'.ws h'.length)(hown:∀ b,hk'.own e' k=some b→w.heap.size≤b∨beta=some b)(hframe:∀ b,b<w.heap.size→beta≠some b→w'.heap[b]?=w.heap[b]?)(hsize:w.heap.size≤w'.heap.size)(hos:w'.os=w.os)(htape:w'.tape=w.tape)(hout:w'.output=w.output):qW F w0 h' e' w':=by
 have keepOwn:∀ i ho,i≠k→h'[i]?=some ho→ho≠.gone→i<h.length∧ho.own e' i=ho.own e i∧h[i]?=some ho:=by
  intro i ho hik hi hg
  rcases xA i ho hik hi with hi0 | hi0
  ·have hlt:i<h.length:=(List.getElem?_eq_some_iff.1 hi0).1
   exact⟨hlt,HO.own_agree hlt hag,hi0⟩
  ·exact absurd hi0 hg
 have hMem:(mem w e h).le (mem w' e' h'):=by
  intro b o hb
  unfold mem at hb ⊢
  split at hb
  ·cases hb
  ·rename_i hno
   have hlt:b<w.heap.size:=by
    rcases Nat.lt_or_ge b w.heap.size with hh | hh
    ·exact hh
    ·rw[Array.getElem?_eq_none hh] at hb; cases hb
   have hnb:beta≠some b:=fun hbb=>by
    obtain⟨j,hoj,hj,hoj',_⟩:=hbeta b hbb
    exact hno ⟨j,hoj,hj,hoj'⟩
   have hno':¬ qAe e' h' b:=by
    rintro⟨i,ho,hi,hb2⟩
    by_cases hik:i=k
    ·subst hik
     rw[hk] at hi
     cases hi
     rcases hown b hb2 with hge | hbb
     ·omega
     ·exact hnb hbb
    ·have hg:ho≠.gone:=fun hh=>by subst hh; simp [HO.own] at hb2
     obtain⟨_,ho2,hi0⟩:=keepOwn i ho hik hi hg
     rw[ho2] at hb2
     exact hno ⟨i,ho,hi0,hb2⟩
   rw[if_neg hno',hframe b hlt hnb]
   exact hb
 have keepSat:∀ i ho,i≠k→h'[i]?=some ho→ho≠.gone→ho.sat e' (mem w' e' h') i w'∧ho.own e' i=ho.own e i∧h[i]?=some ho:=by
  intro i ho hik hi hg
  obtain⟨hlt,ho2,hi0⟩:=keepOwn i ho hik hi hg
  refine⟨HO.sat_keep hMem hlt hag (S.ws i ho hi0) (S.sat i ho hi0) (fun b hb=>hframe b (HO.own_lt (S.sat i ho hi0) hb) ?_),ho2,hi0⟩
  intro hbb
  obtain⟨j,hoj,hj,hoj',hjk⟩:=hbeta b hbb
  have hij:=S.one i j ho hoj b hi0 hj hb hoj'
  subst hij
  rcases hjk with rfl | hjk
  ·exact hik rfl
  ·rw[hi] at hjk
   exact hg (Option.some.inj hjk)
 refine⟨hos.trans S.os,htape.trans S.tape,hout.trans S.output,?_,?_,?_,hF _ _ hMem S.fact,?_,fun b hb=>?_,hag.2.trans S.ez,Nat.le_trans S.pin.1 hlen,fun i hi=>?_⟩
 ·intro i ho hi
  by_cases hik:i=k
  ·subst hik
   rw[hk] at hi
   cases hi
   exact hsat hMem
  ·by_cases hg:ho=.gone
   ·subst hg; trivial
   ·exact(keepSat i ho hik hi hg).1
 ·intro i ho hi
  by_cases hik:i=k
  ·subst hik
   rw[hk] at hi
   cases hi
   exact hws
  ·rcases xA i ho hik hi with hi0 | rfl
   ·exact HO.ws_mono hlen (S.ws i ho hi0)
   ·trivial
 ·intro i j ho ho' b hi hj hb hb'
  by_cases hik:i=k
  ·by_cases hjk:j=k
   ·rw[hik,hjk]
   ·exfalso
    subst hik
    rw[hk] at hi
    cases hi
    have hg:ho'≠.gone:=fun hh=>by subst hh; simp [HO.own] at hb'
    obtain⟨_,ho2,hj0⟩:=keepSat j ho' hjk hj hg
    rw[ho2] at hb'
    rcases hown b hb with hge | hbb
    ·have:=HO.own_lt (S.sat j ho' hj0) hb'
     omega
    ·obtain⟨j2,hoj,hj2,hoj',hor⟩:=hbeta b hbb
     have hij:=S.one j j2 ho' hoj b hj0 hj2 hb' hoj'
     subst hij
     rcases hor with rfl | hor
     ·exact hjk rfl
     ·rw[hj] at hor
      exact hg (Option.some.inj hor)
  ·by_cases hjk:j=k
   ·exfalso
    subst hjk
    rw[hk] at hj
    cases hj
    have hg:ho≠.gone:=fun hh=>by subst hh; simp [HO.own] at hb
    obtain⟨_,ho2,hi0⟩:=keepSat i ho hik hi hg
    rw[ho2] at hb
    rcases hown b hb' with hge | hbb
    ·have:=HO.own_lt (S.sat i ho hi0) hb
     omega
    ·obtain⟨j2,hoj,hj2,hoj',hor⟩:=hbeta b hbb
     have hij:=S.one i j2 ho hoj b hi0 hj2 hb hoj'
     subst hij
     rcases hor with rfl | hor
     ·exact hik rfl
     ·rw[hi] at hor
      exact hg (Option.some.inj hor)
   ·have hg:ho≠.gone:=fun hh=>by subst hh; simp [HO.own] at hb
    have hg':ho'≠.gone:=fun hh=>by subst hh; simp [HO.own] at hb'
    obtain⟨_,ho2,hi0⟩:=keepSat i ho hik hi hg
    obtain⟨_,ho3,hj0⟩:=keepSat j ho' hjk hj hg'
    rw[ho2] at hb
    rw[ho3] at hb'
    exact S.one i j ho ho' b hi0 hj0 hb hb'
 ·intro i ho b hi hb
  rw[hag.2]
  by_cases hik:i=k
  ·subst hik
   rw[hk] at hi
   cases hi
   rcases hown b hb with hge | hbb
   ·intro hz
    have:=S.zlt b hz
    omega
   ·obtain⟨j2,hoj,hj2,hoj',_⟩:=hbeta b hbb
    exact S.nz j2 hoj b hj2 hoj'
  ·have hg:ho≠.gone:=fun hh=>by subst hh; simp [HO.own] at hb
   obtain⟨_,ho2,hi0⟩:=keepOwn i ho hik hi hg
   rw[ho2] at hb
   exact S.nz i ho b hi0 hb
 ·rw[hag.2] at hb
  have:=S.zlt b hb
  omega
 ·obtain⟨a1,a2,a3⟩:=hag.1 i (Nat.lt_of_lt_of_le hi S.pin.1)
  obtain⟨b1,b2,b3⟩:=S.pin.2 i hi
  exact⟨a1.trans b1,a2.trans b2,a3.trans b3⟩
theorem qW.drew{F:Mem→Prop}{w0:qDe}{h:List HO}{e:Env}{w:World}(S:qW F w0 h e w):qW F w0 h e w.drew :=
 ⟨S.os,S.tape,S.output,fun i ho hi=>by
  have:=S.sat i ho hi
  cases ho <;> exact this,S.ws,S.one,S.fact,S.nz,S.zlt,S.ez,S.pin⟩

/-! ### what lies at a path -/
def yU:qG→yT→Option qG
 | c,[]=>some c
 | .s _ sz' _ g,(sz,k,j)::p=>bif Nat.beq sz sz'&&Nat.blt j sz then yU (g k j) p else none
 | .v _,_::_=>none
def pvs:qG→yT→List Prop
 | _,[]=>[]
 | .s _ _ n g,(_,k,j)::p=>(k<n)::pvs (g k j) p
 | .v _,_::_=>[]
theorem nav{M:Mem}{f:yT→Value}:∀(q:yT) (c:qG) (p:yT) {c':qG},qAa M f c p→yU c q=some c'→(∀ x∈pvs c q,x)→qAa M f c' (p++q)
 | [],c,p,c',h,hc,_=>by
  have:c=c':=by cases c <;> simpa[yU] using hc
  subst this
  simpa using h
 | (sz,k,j)::q,.v x,p,c',h,hc,_=>by cases hc
 | (sz,k,j)::q,.s pt sz' n g,p,c',h,hc,hb=>by
  simp only[yU] at hc
  cases hbb:Nat.beq sz sz'&&Nat.blt j sz with
  | false=>rw[hbb] at hc; cases hc
  | true =>
   rw[hbb] at hc
   simp only[cond_true] at hc
   rw[Bool.and_eq_true] at hbb
   have h1:sz=sz':=Nat.eq_of_beq_eq_true hbb.1
   have h2:j<sz:=by have:=Nat.le_of_ble_eq_true hbb.2; omega
   subst h1
   simp only[pvs,List.mem_cons] at hb
   have hk:k<n:=hb _ (.inl rfl)
   obtain⟨oa,_,hr⟩:=h
   rcases hr with rfl | ⟨ad,_,hr⟩
   ·omega
   ·have:=nav q (g k j) _ (hr k hk j h2).2 hc (fun x hx=>hb x (.inr hx))
    rwa [List.append_assoc] at this
end Go.Sx
/- What an operation that writes nothing comes to, reckoned, and that it is so. -/
namespace Go.Sx
open Go.RowKit

abbrev zD:=Mem→Prop
def xA(F:Mem→Prop)(l:List zD):Prop:=∀ s∈l,∀ M,F M→s M
inductive Dec where
  | t
  | f
  | ld (s : SV)
  | lo (i : Nat) (s : SV)
  | lx (vs : List Value)
  | as (t : Nat) (s : SV)

def lk:List (Nat×SV)→Nat→Option SV
 | [],_=>none
 | (k,s)::r,t=>bif Nat.beq k t then some s else lk r t
def del:List (Nat×SV)→Nat→List (Nat×SV)
 | [],_=>[]
 | (k,s)::r,t=>bif Nat.beq k t then del r t else(k,s)::del r t
def evO(tm:List (Nat×SV)):Operand→Option SV
 | .tmp t=>lk tm t
 | .const v=>some (.v v)
 | .global g=>some (.v (.pointer (some ⟨g,0,none⟩)))
 | .func f=>some (.fn (.func f) [] [])
theorem xU(tm:List (Nat×SV))(t u:Nat)(hne:t≠u):lk (del tm t) u=lk tm u:=by
 induction tm with
 | nil=>rfl
 | cons x r ih =>
  obtain⟨k,s⟩:=x
  simp only[del,lk]
  cases h:Nat.beq k t with
  | true =>
   have hk:k=t:=Nat.eq_of_beq_eq_true h
   have:Nat.beq k u=false:=by
    cases hb:Nat.beq k u with
    | false=>rfl
    | true=>exact absurd (hk.symm.trans (Nat.eq_of_beq_eq_true hb)) hne
   simp [this,ih]
  | false=>simp [lk,ih]
structure zC (n hl : Nat) (tm : List (Nat × SV)) (e : Env) (a : Act) : Prop where
  size : a.tmps.size = n
  defers : a.defers = []
  get : ∀ t s, lk tm t = some s → a.tmps[t]? = some (den e s)
  wsc : ∀ t s, lk tm t = some s → ws hl s

theorem qH{n hl:Nat}{tm:List (Nat×SV)}{e:Env}{a:Act}(T:zC n hl tm e a){x:Operand}{s:SV}(h:evO tm x=some s):a.eval x=den e s∧ws hl s:=by
 cases x with
 | tmp t =>
  have:=T.get t s h
  exact⟨by simp [Act.eval,this],T.wsc t s h⟩
 | const v=>simp only[evO,sI] at h; subst h; exact⟨rfl,trivial⟩
 | global g=>simp only[evO,sI] at h; subst h; exact⟨rfl,trivial⟩
 | func f=>simp only[evO,sI] at h; subst h; exact⟨rfl,⟨trivial,trivial⟩⟩
theorem zC.put{n hl hl':Nat}{tm:List (Nat×SV)}{e e':Env}{a:Act}(T:zC n hl tm e a)(hag:zN hl e e')(hle:hl≤hl')(d:Nat)(hd:d<n)(s:SV)(v:Value)(hv:den e' s=v)(hw:ws hl' s):
  zC n hl' ((d,s)::del tm d) e' (a.put (some d) v):=by
 subst hv
 refine⟨by simp [Act.put,T.size],T.defers,?_,?_⟩
 ·intro t u hu
  simp only[lk] at hu
  cases hb:Nat.beq d t with
  | true =>
   have:d=t:=Nat.eq_of_beq_eq_true hb
   subst this
   simp only[hb,cond_true,sI] at hu
   subst hu
   simp [Act.put,T.size,hd]
  | false =>
   have hne:d≠t:=fun h=>by subst h; simp at hb
   simp only[hb,cond_false] at hu
   rw[xU tm d t hne] at hu
   have:=T.get t u hu
   rw[yS hag u (T.wsc t u hu)]
   simpa[Act.put,Array.getElem?_setIfInBounds_ne hne] using this
 ·intro t u hu
  simp only[lk] at hu
  cases hb:Nat.beq d t with
  | true=>simp only[hb,cond_true,sI] at hu; subst hu; exact hw
  | false =>
   have hne:d≠t:=fun h=>by subst h; simp at hb
   simp only[hb,cond_false] at hu
   rw[xU tm d t hne] at hu
   exact wB hle u (T.wsc t u hu)
theorem zC.move{n hl hl':Nat}{tm:List (Nat×SV)}{e e':Env}{a:Act}(T:zC n hl tm e a)(hag:zN hl e e')(hle:hl≤hl'):zC n hl' tm e' a :=
 ⟨T.size,T.defers,fun t s h=>by rw[yS hag s (T.wsc t s h)]; exact T.get t s h,fun t s h=>wB hle s (T.wsc t s h)⟩
theorem zC.sub{n hl:Nat}{tm tm':List (Nat×SV)}{e:Env}{a:Act}(T:zC n hl tm e a)(h:∀ t s,lk tm' t=some s→lk tm t=some s):zC n hl tm' e a :=
 ⟨T.size,T.defers,fun t s hs=>T.get t s (h t s hs),fun t s hs=>T.wsc t s (h t s hs)⟩
theorem zC.sub'{n hl:Nat}{tm tm':List (Nat×SV)}{e:Env}{a:Act}(T:zC n hl tm e a)(h:∀ t s,lk tm' t=some s→∃ s',lk tm t=some s'∧den e s'=den e s∧ws hl s):zC n hl tm' e a :=
 ⟨T.size,T.defers,fun t s hs=>by
  obtain⟨s',h1,h2,_⟩:=h t s hs
  rw[← h2]
  exact T.get t s' h1,fun t s hs=>by
  obtain⟨s',h1,h2,h3⟩:=h t s hs
  exact h3⟩

/-! ### plain values -/
mutual
def jS : SV → Option Value
  | .v x => some x
  | .bl b => some (.bool b)
  | .agg cs => match qAc cs with | some l => some (.agg l.toArray) | none => none
  | .tup cs => match qAc cs with | some l => some (.tuple l.toArray) | none => none
  | .fn f a c => match qAc a, qAc c with | some x, some y => some (.func f x.toArray y.toArray) | _, _ => none
  | .ifc t y => match jS y with | some x => some (.iface t x) | none => none
  | _ => none
def qAc : List SV → Option (List Value)
  | [] => some []
  | x :: r => match jS x, qAc r with | some a, some l => some (a :: l) | _, _ => none
end
mutual
theorem jH (e : Env) : ∀ (s : SV) {x : Value}, jS s = some x → den e s = x
  | .v y, x, h => by simpa [jS, den] using h
  | .bl b, x, h => by simpa [jS, den] using h
  | .agg cs, x, h => by
    simp only [jS] at h
    split at h
    · rename_i l hl
      simp only [Option.some.injEq] at h
      simp only [den, yH e cs hl, h]
    · cases h
  | .tup cs, x, h => by
    simp only [jS] at h
    split at h
    · rename_i l hl
      simp only [Option.some.injEq] at h
      simp only [den, yH e cs hl, h]
    · cases h
  | .fn f a c, x, h => by
    simp only [jS] at h
    split at h
    · rename_i l1 l2 h1 h2
      simp only [Option.some.injEq] at h
      simp only [den, yH e a h1, yH e c h2, h]
    · cases h
  | .ifc t y, x, h => by
    simp only [jS] at h
    split at h
    · rename_i l hl
      simp only [Option.some.injEq] at h
      simp only [den, jH e y hl, h]
    · cases h
  | .p _ _, x, h => by cases h
  | .o _, x, h => by cases h
  | .q _ _, x, h => by cases h
  | .m _, x, h => by cases h
  | .sl _ _ _ _, x, h => by cases h
  | .x _ _, x, h => by cases h
  | .xp _ _ _ _ _, x, h => by cases h
  | .qk _ _ _ _, x, h => by cases h
theorem yH (e : Env) : ∀ (l : List SV) {x : List Value}, qAc l = some x → qS e l = x
  | [], x, h => by simpa [qAc, qS] using h
  | s :: r, x, h => by
    simp only [qAc] at h
    split at h
    · rename_i a l h1 h2
      simp only [Option.some.injEq] at h
      simp only [qS, jH e s h1, yH e r h2, h]
    · cases h
end

def qFj{α:Type}(P:Program):Sem α→Option α
 | .pure a=>some a
 | .program k=>qFj P (k P)
 | .mark _ k=>qFj P k
 | _=>none
theorem jW{α:Type}{P:Program}{s:Sem α}{a:α}(h:qFj P s=some a)(w:World):s.run P w=.ok a w:=by
 induction s with
 | pure x=>simpa[qFj,Sem.run] using h
 | program k ih=>exact ih P (by simpa[qFj] using h)
 | mark m k ih=>exact ih (by simpa[qFj] using h)
 | _=>simp [qFj] at h

/-! ### types -/
def qFk(P:Program)(t:TypeId):Option Bool :=
 match P.underlying t with
 | some (.struct _)=>some true
 | some (.array _ _)=>some true
 | some _=>some false
 | none=>none
theorem qCl{P:Program}{t:TypeId}{b:Bool}(h:qFk P t=some b)(w:World):(isAgg t).run P w=.ok b w:=by
 unfold qFk at h
 cases hu:P.underlying t with
 | none=>simp [hu] at h
 | some d =>
  unfold isAgg
  rw[Sem.run_bind,run_underlying hu w]
  rw[hu] at h
  cases d <;> simp at h <;> subst h <;> rfl
def jO(P:Program)(t:TypeId):Option Nat :=
 match P.info? t with
 | some i=>some i.size
 | none=>none
theorem zH{P:Program}{t:TypeId}{n:Nat}(h:jO P t=some n)(w:World):(sizeOf t).run P w=.ok n w:=by
 unfold jO at h
 cases hu:P.info? t with
 | none=>simp [hu] at h
 | some d =>
  simp only[hu,sI] at h
  subst h
  simp [sizeOf,typeInfo,hu]

/-! ### loads -/
structure xR (F : Mem → Prop) (h : List HO) (e : Env) (w : World) : Prop where
  sat : ∀ (i : Nat) (ho : HO), h[i]? = some ho → ho.sat e (mem w e h) i w
  fact : F (mem w e h)
theorem qW.q{F:Mem→Prop}{w0:qDe}{h:List HO}{e:Env}{w:World}(S:qW F w0 h e w):xR F h e w:=⟨S.sat,S.fact⟩
theorem wV{M:Mem}{w:World}(hle:M.le (xL w)){a:Addr}{v:Value}(h:M.cell? a=some v):w.cell? a=some v:=by
 unfold Mem.cell? at h
 cases hM:M a.block with
 | none=>simp [hM] at h
 | some o =>
  have hw:w.heap[a.block]?=some o:=hle _ _ hM
  rw[hM] at h
  unfold World.cell?
  rw[hw]
  exact h
def qLy(M:Mem)(oa:Option Addr)(vs:List Value):Prop:=∃ ad,oa=some ad∧∀ j v,vs[j]?=some v→M.cell? (ad.add j)=some v
theorem qLy.mono{M M':Mem}(h:M.le M'){oa:Option Addr}{vs:List Value}(k:qLy M oa vs):qLy M' oa vs:=by
 obtain⟨ad,h1,h2⟩:=k
 refine⟨ad,h1,fun j v hv=>?_⟩
 have:=h2 j v hv
 unfold Mem.cell? at this ⊢
 cases hM:M (ad.add j).block with
 | none=>rw[hM] at this; cases this
 | some o=>rw[hM] at this; rw[h _ _ hM]; exact this
theorem qBi{P:Program}{t:TypeId}{w:World}{ad:Addr}{vs:List Value}(ha:qFk P t=some true)(hn:jO P t=some vs.length)(h:∀ j v,vs[j]?=some v→w.cell? (ad.add j)=some v):(loadVar t ad).run P w=.ok (.agg vs.toArray) w:=by
 simp [loadVar,qCl ha w,zH hn w,run_loadCells_list w ad vs h]
theorem qBw{P:Program}{t:TypeId}{w:World}{ad:Addr}{v:Value}(ha:qFk P t=some false)(h:w.cell? ad=some v):(loadVar t ad).run P w=.ok v w:=by
 simp [loadVar,qCl ha w,h]
def qHt(P:Program)(t:TypeId)(k:Nat)(cs:List SV)(off:Nat)(D:List Dec):Option (SV×List zD×List Dec) :=
 match qFk P t,jO P t with
 | some true,some n =>
  match D with
  | .lo k' (.agg ss)::D' =>
   bif Nat.beq k k' then(bif Nat.beq ss.length n then some (.agg ss,[fun _=>(cs.drop off).take n=ss],D') else none)
   else(bif Nat.beq ((cs.drop off).take n).length n then some (.agg ((cs.drop off).take n),[],D) else none)
  | _=>bif Nat.beq ((cs.drop off).take n).length n then some (.agg ((cs.drop off).take n),[],D) else none
 | some false,_ =>
  match D with
  | .lo k' s::D' =>
   bif Nat.beq k k' then some (s,[fun _=>cs[off]?=some s],D')
   else match cs[off]? with | some s=>some (s,[],D) | none=>none
  | _=>match cs[off]? with | some s=>some (s,[],D) | none=>none
 | _,_=>none
theorem qCf{P:Program}{t:TypeId}{k:Nat}{cs:List SV}{off:Nat}{D D':List Dec}{s:SV}{sd:List zD}{M:Mem}(h:qHt P t k cs off D=some (s,sd,D'))(hsd:∀ x∈sd,x M){w:World}{e:Env}{g:Nat}(hc:∀ j v,(qS e cs)[j]?=some v→w.cell? ⟨g,j,none⟩=some v){hl:Nat}(hw:wsL hl cs):
  (loadVar t ⟨g,off,none⟩).run P w=.ok (den e s) w∧ws hl s:=by
 rw[xD] at hw
 have aggCase:∀(n:Nat),qFk P t=some true→jO P t=some n→((cs.drop off).take n).length=n →
   (loadVar t ⟨g,off,none⟩).run P w=.ok (den e (.agg ((cs.drop off).take n))) w∧ws hl (.agg ((cs.drop off).take n)):=by
  intro n ha hn hlen
  constructor
  ·simp only[den]
   refine qBi ha (by rw[hn,qV,hlen]) ?_
   intro j v hv
   have hadd:(⟨g,off,none⟩:Addr).add j=⟨g,off+j,none⟩:=Addr.add_lit g off j
   rw[hadd]
   refine hc (off+j) v ?_
   rw[yQ,List.getElem?_map] at hv ⊢
   rw[List.getElem?_take,List.getElem?_drop] at hv
   split at hv
   ·exact hv
   ·simp at hv
  ·simp only[ws]
   rw[xD]
   intro x hx
   exact hw x (List.mem_of_mem_drop (List.mem_of_mem_take hx))
 have oneCase:∀(s:SV),qFk P t=some false→cs[off]?=some s→(loadVar t ⟨g,off,none⟩).run P w=.ok (den e s) w∧ws hl s:=by
  intro s ha hs
  refine⟨qBw ha (hc off _ ?_),hw s (List.mem_of_getElem? hs)⟩
  rw[yQ,List.getElem?_map,hs]
  rfl
 unfold qHt at h
 split at h
 ·rename_i n ha hn
  split at h
  ·rename_i k' ss D2
   cases hk:Nat.beq k k' with
   | true =>
    simp only[hk,cond_true] at h
    cases hl:Nat.beq ss.length n with
    | false=>simp only[hl,cond_false] at h; cases h
    | true =>
     simp only[hl,cond_true,sI,pI] at h
     obtain⟨rfl,rfl,rfl⟩:=h
     have hss:(cs.drop off).take n=ss:=hsd _ List.mem_cons_self
     have hlen:ss.length=n:=Nat.eq_of_beq_eq_true hl
     have:=aggCase n ha hn (by rw[hss]; exact hlen)
     rw[hss] at this
     exact this
   | false =>
    simp only[hk,cond_false] at h
    cases hl:Nat.beq ((cs.drop off).take n).length n with
    | false=>simp only[hl,cond_false] at h; cases h
    | true =>
     simp only[hl,cond_true,sI,pI] at h
     obtain⟨rfl,rfl,rfl⟩:=h
     exact aggCase n ha hn (Nat.eq_of_beq_eq_true hl)
  ·cases hl:Nat.beq ((cs.drop off).take n).length n with
   | false=>simp only[hl,cond_false] at h; cases h
   | true =>
    simp only[hl,cond_true,sI,pI] at h
    obtain⟨rfl,rfl,rfl⟩:=h
    exact aggCase n ha hn (Nat.eq_of_beq_eq_true hl)
 ·rename_i ha
  split at h
  ·rename_i k' s2 D2
   cases hk:Nat.beq k k' with
   | true =>
    simp only[hk,cond_true,sI,pI] at h
    obtain⟨rfl,rfl,rfl⟩:=h
    exact oneCase _ ha (hsd _ List.mem_cons_self)
   | false =>
    simp only[hk,cond_false] at h
    split at h
    ·rename_i s3 hs3
     simp only[sI,pI] at h
     obtain⟨rfl,rfl,rfl⟩:=h
     exact oneCase _ ha hs3
    ·cases h
  ·split at h
   ·rename_i s3 hs3
    simp only[sI,pI] at h
    obtain⟨rfl,rfl,rfl⟩:=h
    exact oneCase _ ha hs3
   ·cases h
 ·cases h
def qQm(P:Program)(t:TypeId)(oa:Option Addr)(D:List Dec):Option (SV×List zD×List Dec) :=
 match qFk P t,jO P t,D with
 | some true,some n,.ld s::D' =>
  match s with
  | .agg ss=>match qAc ss with
   | some vs=>bif Nat.beq vs.length n then some (s,[fun M=>qLy M oa vs],D') else none
   | none=>none
  | _=>none
 | some false,_,.ld s::D'=>match jS s with
  | some v=>some (s,[fun M=>qLy M oa [v]],D')
  | none=>none
 | _,_,_=>none
mutual
theorem qHr (n : Nat) : ∀ (s : SV) {x : Value}, jS s = some x → ws n s
  | .v y, x, h => trivial
  | .bl b, x, h => trivial
  | .agg cs, x, h => by
    simp only [jS] at h
    split at h
    · rename_i l hl; exact qAp n cs hl
    · cases h
  | .tup cs, x, h => by
    simp only [jS] at h
    split at h
    · rename_i l hl; exact qAp n cs hl
    · cases h
  | .fn f a c, x, h => by
    simp only [jS] at h
    split at h
    · rename_i l1 l2 h1 h2; exact ⟨qAp n a h1, qAp n c h2⟩
    · cases h
  | .ifc t y, x, h => by
    simp only [jS] at h
    split at h
    · rename_i l hl; exact qHr n y hl
    · cases h
  | .p _ _, x, h => by cases h
  | .o _, x, h => by cases h
  | .q _ _, x, h => by cases h
  | .m _, x, h => by cases h
  | .sl _ _ _ _, x, h => by cases h
  | .x _ _, x, h => by cases h
  | .xp _ _ _ _ _, x, h => by cases h
  | .qk _ _ _ _, x, h => by cases h
theorem qAp (n : Nat) : ∀ (l : List SV) {x : List Value}, qAc l = some x → wsL n l
  | [], x, h => trivial
  | s :: r, x, h => by
    simp only [qAc] at h
    split at h
    · rename_i a l h1 h2; exact ⟨qHr n s h1, qAp n r h2⟩
    · cases h
end

theorem qNg{P:Program}{t:TypeId}{oa:Option Addr}{D D':List Dec}{s:SV}{sd:List zD}{M:Mem}(h:qQm P t oa D=some (s,sd,D'))(hsd:∀ x∈sd,x M){w:World}(hM:M.le (xL w))(e:Env)(hl:Nat):
  (Instr.loadAt t (.pointer oa)).run P w=.ok (den e s) w∧ws hl s:=by
 unfold qQm at h
 split at h
 ·rename_i n s1 D1 ha hn
  split at h
  ·rename_i ss
   split at h
   ·rename_i vs hvs
    cases hb:Nat.beq vs.length n with
    | false=>simp [hb] at h
    | true =>
     simp only[hb,cond_true,sI,pI] at h
     obtain⟨rfl,rfl,rfl⟩:=h
     obtain⟨ad,rfl,hc⟩:=hsd _ List.mem_cons_self
     refine⟨?_,qAp hl ss hvs⟩
     simp only[den,yH e ss hvs,Instr.loadAt,Instr.sureAddr,Sem.run_bind,Sem.run_pure,Result.andThen_ok]
     exact qBi ha (by rw[hn,Nat.eq_of_beq_eq_true hb]) (fun j v hv=>wV hM (hc j v hv))
   ·cases h
  ·cases h
 ·rename_i s1 D1 ha
  split at h
  ·rename_i v hv
   simp only[sI,pI] at h
   obtain⟨rfl,rfl,rfl⟩:=h
   obtain⟨ad,rfl,hc⟩:=hsd _ List.mem_cons_self
   refine⟨?_,qHr hl s1 hv⟩
   simp only[jH e s1 hv,Instr.loadAt,Instr.sureAddr,Sem.run_bind,Sem.run_pure,Result.andThen_ok]
   have:=hc 0 v rfl
   rw[Addr.add_zero'] at this
   exact qBw ha (wV hM this)
  ·cases h
 ·cases h

/-! ### loads from frozen memory and from own rows of known content -/
def qRr(i:Nat)(p:yT):qG→SV
 | .v x=>.v x
 | .s ..=>.x i p
theorem qLi{M:Mem}{e:Env}{i:Nat}{c:qG}{p:yT}(h:qAa M (e.val i) c p):den e (qRr i p c)=e.val i p:=by
 cases c with
 | v x=>exact h.symm
 | s=>rfl
theorem qPg{hl i:Nat}(hi:i<hl)(p:yT)(c:qG):ws hl (qRr i p c):=by
 cases c with
 | v x=>trivial
 | s=>exact hi
theorem qVq(e:Env)(l:List Value):qS e (l.map SV.v)=l:=by
 induction l with
 | nil=>rfl
 | cons x r ih=>simp [qS,den,ih]
theorem zAk(n:Nat)(l:List Value):wsL n (l.map SV.v):=by
 induction l with
 | nil=>trivial
 | cons x r ih=>exact⟨trivial,ih⟩
def qGu(i:Nat)(p:yT)(sz k j n:Nat)(g:Nat→qG):List SV:=(List.range n).map fun d=>qRr i (p++[(sz,k,j+d)]) (g (j+d))
def wA(l:List Prop):List zD:=l.map fun(x:Prop)=>fun(_:Mem)=>x
theorem zX{l:List Prop}{M:Mem}(h:∀ x∈wA l,x M):∀ x∈l,x :=
 fun x hx=>h (fun(_:Mem)=>x) (List.mem_map.2 ⟨x,hx,rfl⟩)
def qCu(P:Program)(t:TypeId)(h:List HO)(i:Nat)(p:yT)(sz k j:Nat)(D:List Dec):Option (SV×List zD×List Dec) :=
 match h[i]? with
 | some (.ext _ c0)=>match yU c0 p with
  | some (.s _ sz' n g)=>bif Nat.beq sz sz' then
    match qFk P t,jO P t with
    | some true,some m=>bif Nat.ble (j+m) sz then some (.agg (qGu i p sz k j m (g k)),wA (pvs c0 p++[k<n]),D) else none
    | some false,_=>bif Nat.blt j sz then some (qRr i (p++[(sz,k,j)]) (g k j),wA (pvs c0 p++[k<n]),D) else none
    | _,_=>none
   else none
  | _=>none
 | _=>none
theorem qLt{P:Program}{t:TypeId}{h:List HO}{i:Nat}{p:yT}{sz k j:Nat}{D D':List Dec}{s:SV}{sd:List zD}{b0:Bool}{c0:qG}{pt:Bool}{sz' n:Nat}{g:Nat→Nat→qG}(hi:h[i]?=some (.ext b0 c0))(hc:yU c0 p=some (.s pt sz' n g))(hq:qCu P t h i p sz k j D=some (s,sd,D')):sd=wA (pvs c0 p++[k<n]):=by
 unfold qCu at hq
 simp only[hi,hc] at hq
 cases hb:Nat.beq sz sz' with
 | false=>rw[hb] at hq; cases hq
 | true =>
  rw[hb] at hq
  simp only[cond_true] at hq
  split at hq
  ·rename_i m _ _
   cases hb2:Nat.ble (j+m) sz with
   | false=>rw[hb2] at hq; cases hq
   | true =>
    rw[hb2] at hq
    simp only[cond_true,sI,pI] at hq
    exact hq.2.1.symm
  ·cases hb2:Nat.blt j sz with
   | false=>rw[hb2] at hq; cases hq
   | true =>
    rw[hb2] at hq
    simp only[cond_true,sI,pI] at hq
    exact hq.2.1.symm
  ·cases hq
theorem qEo{F:Mem→Prop}{h:List HO}{e:Env}{w:World}(S:xR F h e w){i:Nat}{b0:Bool}{c0 c:qG}{p:yT}(hi:h[i]?=some (.ext b0 c0))(hc:yU c0 p=some c)(hb:∀ x∈pvs c0 p,x):
  qAa (mem w e h) (e.val i) c p:=by
 have:=S.sat i _ hi
 simp only[HO.sat] at this
 have h2:=nav p c0 [] this hc hb
 rw[List.nil_append] at h2
 cases b0 with
 | true=>exact h2
 | false=>exact zR (Mem.sub_le _ _) _ _ _ h2
theorem qJy{F:Mem→Prop}{h:List HO}{e:Env}{w:World}(S:xR F h e w){i:Nat}{c0 c:qG}{p:yT}(hi:h[i]?=some (.ext false c0))(hc:yU c0 p=some c)(hb:∀ x∈pvs c0 p,x):
  qAa ((mem w e h).sub e.z) (e.val i) c p:=by
 have:=S.sat i _ hi
 simp only[HO.sat] at this
 have h2:=nav p c0 [] this hc hb
 rwa [List.nil_append] at h2
theorem qCn{pt:Bool}{n:Nat}{v:Value}{ad:Addr}(h:qZc pt n v (some ad))(m:Nat):qSt v m=.pointer (some (ad.add m)):=by
 cases pt with
 | true=>simp only[qZc] at h; subst h; rfl
 | false=>obtain⟨cap,rfl,_⟩:=h; rfl
theorem qEf{P:Program}{F:Mem→Prop}{t:TypeId}{h:List HO}{i:Nat}{p:yT}{sz k j:Nat}{D D':List Dec}{s:SV}{sd:List zD}{e:Env}{w:World}(S:xR F h e w)(hq:qCu P t h i p sz k j D=some (s,sd,D'))(hsd:∀ x∈sd,x (mem w e h)):
  (Instr.loadAt t (qSt (e.val i p) (k*sz+j))).run P w=.ok (den e s) w∧ws h.length s:=by
 unfold qCu at hq
 split at hq
 ·rename_i b0 c0 hi
  have hlt:i<h.length:=(List.getElem?_eq_some_iff.1 hi).1
  split at hq
  ·rename_i pt sz' n g hc
   cases hsz:Nat.beq sz sz' with
   | false=>rw[hsz] at hq; cases hq
   | true =>
    rw[hsz] at hq
    simp only[cond_true] at hq
    have:=Nat.eq_of_beq_eq_true hsz
    subst this
    have key:(∀ x∈wA (pvs c0 p++[k<n]),x (mem w e h))→∃ ad,qZc pt n (e.val i p) (some ad)∧∀ j,j<sz→(mem w e h).cell? (ad.add (k*sz+j))=some (e.val i (p++[(sz,k,j)]))∧qAa (mem w e h) (e.val i) (g k j) (p++[(sz,k,j)]):=by
     intro hs
     have hs:=zX hs
     have hb:∀ x∈pvs c0 p,x:=fun x hx=>hs x (List.mem_append_left _ hx)
     have hk:k<n:=hs _ (List.mem_append_right _ List.mem_cons_self)
     obtain⟨oa,hr,h2⟩:=qEo S hi hc hb
     rcases h2 with rfl | ⟨ad,rfl,h3⟩
     ·omega
     ·exact⟨ad,hr,h3 k hk⟩
    split at hq
    ·rename_i m ha hm
     cases hb:Nat.ble (j+m) sz with
     | false=>rw[hb] at hq; cases hq
     | true =>
      rw[hb] at hq
      simp only[cond_true,sI,pI] at hq
      obtain⟨rfl,rfl,rfl⟩:=hq
      have hjm:=Nat.le_of_ble_eq_true hb
      obtain⟨ad,hr,hcell⟩:=key hsd
      rw[qCn hr]
      refine⟨?_,?_⟩
      ·simp only[Instr.loadAt,Instr.sureAddr,Sem.run_bind,Sem.run_pure,Result.andThen_ok,den]
       refine qBi ha (by rw[hm,qV,qGu,List.length_map,List.length_range]) ?_
       intro d v hv
       rw[yQ,qGu,List.map_map,List.getElem?_map] at hv
       cases hr2:(List.range m)[d]? with
       | none=>rw[hr2] at hv; cases hv
       | some d' =>
        rw[hr2] at hv
        obtain⟨hd,rfl⟩:d<m∧d=d':=by
         rw[List.getElem?_eq_some_iff] at hr2
         obtain⟨h1,h2⟩:=hr2
         simp at h1 h2
         exact⟨h1,h2⟩
        simp only[Option.map_some,Function.comp,sI] at hv
        obtain⟨c1,c2⟩:=hcell (j+d) (by omega)
        rw[qLi c2] at hv
        subst hv
        have:=wV (jE w e h) c1
        rwa [Go.Deep.add_add,Nat.add_assoc]
      ·simp only[ws]
       rw[xD]
       intro x hx
       rw[qGu,List.mem_map] at hx
       obtain⟨d,_,rfl⟩:=hx
       exact qPg hlt _ _
    ·rename_i ha
     cases hb:Nat.blt j sz with
     | false=>rw[hb] at hq; cases hq
     | true =>
      rw[hb] at hq
      simp only[cond_true,sI,pI] at hq
      obtain⟨rfl,rfl,rfl⟩:=hq
      have hjm:j<sz:=by have:=Nat.le_of_ble_eq_true hb; omega
      obtain⟨ad,hr,hcell⟩:=key hsd
      obtain⟨c1,c2⟩:=hcell j hjm
      rw[qCn hr,qLi c2]
      refine⟨?_,qPg hlt _ _⟩
      simp only[Instr.loadAt,Instr.sureAddr,Sem.run_bind,Sem.run_pure,Result.andThen_ok]
      exact qBw ha (wV (jE w e h) c1)
    ·cases hq
  ·cases hq
 ·cases hq
def qEi(g:Nat→qG)(j:Nat):Nat→Option (List Value)
 | 0=>some []
 | m+1=>match g j,qEi g (j+1) m with
  | .v x,some l=>some (x::l)
  | _,_=>none
theorem qGa{g:Nat→qG}:∀(m j:Nat) {l:List Value},qEi g j m=some l→l.length=m
 | 0,j,l,h=>by simp only[qEi,sI] at h; subst h; rfl
 | m+1,j,l,h=>by
  simp only[qEi] at h
  split at h
  ·rename_i x r h1 h2
   simp only[sI] at h
   subst h
   simp [qGa m _ h2]
  ·cases h
theorem qMa{g:Nat→qG}:∀(m j:Nat) {l:List Value},qEi g j m=some l→∀ d v,l[d]?=some v→g (j+d)=.v v
 | 0,j,l,h,d,v,hv=>by simp only[qEi,sI] at h; subst h; cases hv
 | m+1,j,l,h,d,v,hv=>by
  simp only[qEi] at h
  split at h
  ·rename_i x r h1 h2
   simp only[sI] at h
   subst h
   cases d with
   | zero=>simp only[List.getElem?_cons_zero,sI] at hv; subst hv; exact h1
   | succ d =>
    have:=qMa m _ h2 d v (by simpa using hv)
    rwa [show j+1+d=j+(d+1) by omega] at this
  ·cases h
def qLg(P:Program)(t:TypeId)(h:List HO)(i sz k j:Nat)(D:List Dec):Option (SV×List zD×List Dec) :=
 match h[i]? with
 | some (.rowc _ sz' n c)=>bif Nat.beq sz sz' then
   match qFk P t,jO P t with
   | some true,some m=>bif Nat.ble (j+m) sz then
     match qEi (c.at k) j m with
     | some l=>some (.agg (l.map SV.v),[fun _=>k<n],D)
     | none=>none
    else none
   | some false,_=>bif Nat.blt j sz then
     match c.at k j with
     | .v x=>some (.v x,[fun _=>k<n],D)
     | _=>none
    else none
   | _,_=>none
  else none
 | _=>none
theorem qIo{F:Mem→Prop}{h:List HO}{e:Env}{w:World}(S:xR F h e w){i:Nat}{T:TypeId}{sz n:Nat}{c:Ct}(hi:h[i]?=some (.rowc T sz n c))(h0:0<n):
  ∃ g cap cur,e.row i=.slice (some ⟨g,0,none⟩) n cap∧w.heap[g]?=some (.cells cur T (0,0))∧n*sz≤cur.size∧xC ((mem w e h).sub e.z) sz n c.at (cur.toList.take (n*sz))∧(∀ u∈cur.toList.take (n*sz),u.oneCell'=true):=by
 obtain⟨zB,⟨h1,h2⟩,h3,h4⟩:=S.sat i _ hi
 rcases h2 with ⟨_,hn⟩ | ⟨g,cap,cur,hv,_,hh,hnc,_,hcs,ht⟩
 ·omega
 ·refine⟨g,cap,cur,hv,hh,by rw[hcs]; exact Nat.mul_le_mul_right _ hnc,by rw[ht]; exact h4,by rw[ht]; exact h3⟩
theorem qMo{P:Program}{F:Mem→Prop}{t:TypeId}{h:List HO}{i sz k j:Nat}{D D':List Dec}{s:SV}{sd:List zD}{e:Env}{w:World}(S:xR F h e w)(hq:qLg P t h i sz k j D=some (s,sd,D'))(hsd:∀ x∈sd,x (mem w e h)):
  (Instr.loadAt t (qFt (e.row i) (k*sz+j))).run P w=.ok (den e s) w∧ws h.length s:=by
 unfold qLg at hq
 split at hq
 ·rename_i T sz' n c hi
  cases hsz:Nat.beq sz sz' with
  | false=>rw[hsz] at hq; cases hq
  | true =>
   rw[hsz] at hq
   simp only[cond_true] at hq
   have:=Nat.eq_of_beq_eq_true hsz
   subst this
   have key:k<n→∃ g,e.row i=.slice (some ⟨g,0,none⟩) n (match e.row i with | .slice _ _ c=>c | _=>0)∧∀ j x,j<sz→c.at k j=.v x→w.cell? ⟨g,k*sz+j,none⟩=some x:=by
    intro hk
    obtain⟨g,cap,cur,hv,hh,hle,hr,_⟩:=qIo S hi (by omega)
    refine⟨g,by rw[hv],fun j x hj hx=>?_⟩
    obtain⟨u,hu,f,_,h0,hf⟩:=hr k hk j hj
    rw[hx] at hf
    simp only[qAa] at hf
    rw[h0] at hf
    subst hf
    rw[cell_of_row w g (k*sz+j) cur T _ hh]
    rw[List.getElem?_take] at hu
    split at hu
    ·simpa using hu
    ·cases hu
   split at hq
   ·rename_i m ha hm
    cases hb:Nat.ble (j+m) sz with
    | false=>rw[hb] at hq; cases hq
    | true =>
     rw[hb] at hq
     simp only[cond_true] at hq
     split at hq
     ·rename_i l hl
      simp only[sI,pI] at hq
      obtain⟨rfl,rfl,rfl⟩:=hq
      have hjm:=Nat.le_of_ble_eq_true hb
      obtain⟨g,hv,hcell⟩:=key (hsd _ List.mem_cons_self)
      rw[hv]
      refine⟨?_,zAk _ _⟩
      simp only[qFt,Instr.loadAt,Instr.sureAddr,Sem.run_bind,Sem.run_pure,Result.andThen_ok,den]
      rw[qVq]
      refine qBi ha (by rw[hm,qGa m j hl]) ?_
      intro d v hv2
      have hd:d<m:=by
       have:=(List.getElem?_eq_some_iff.1 hv2).1
       rwa [qGa m j hl] at this
      rw[Addr.add_lit,Nat.add_assoc]
      exact hcell (j+d) v (by omega) (qMa m j hl d v hv2)
     ·cases hq
   ·rename_i ha
    cases hb:Nat.blt j sz with
    | false=>rw[hb] at hq; cases hq
    | true =>
     rw[hb] at hq
     simp only[cond_true] at hq
     split at hq
     ·rename_i x hx
      simp only[sI,pI] at hq
      obtain⟨rfl,rfl,rfl⟩:=hq
      have hjm:j<sz:=by have:=Nat.le_of_ble_eq_true hb; omega
      obtain⟨g,hv,hcell⟩:=key (hsd _ List.mem_cons_self)
      rw[hv]
      refine⟨?_,trivial⟩
      simp only[qFt,Instr.loadAt,Instr.sureAddr,Sem.run_bind,Sem.run_pure,Result.andThen_ok,den]
      exact qBw ha (hcell j x hjm hx)
     ·cases hq
   ·cases hq
 ·cases hq
end Go.Sx
/- The operations that write nothing, one by one. -/
namespace Go.Sx
open Go.RowKit

abbrev QR:=Option (SV×List zD×List Dec)
def jA:List IntKind→List Value→Option (List Int)
 | [],[]=>some []
 | k::ks,.int k' x::xs=>bif decide (k=k') then(match jA ks xs with | some l=>some (x::l) | none=>none) else none
 | _,_=>none
theorem qAi:∀(ks:List IntKind) (vs:List Value) {xs:List Int},jA ks vs=some xs→vs=qX ks xs∧xs.length=ks.length
 | [],[],xs,h=>by simp only[jA,sI] at h; subst h; exact⟨rfl,rfl⟩
 | k::ks,.int k' x::vs,xs,h=>by
  simp only[jA] at h
  by_cases hk:k=k'
  ·subst hk
   simp only[decide_true,cond_true] at h
   cases hr:jA ks vs with
   | none=>simp [hr] at h
   | some l =>
    simp only[hr,sI] at h
    subst h
    obtain⟨h1,h2⟩:=qAi ks vs hr
    exact⟨by simp [qX,← h1],by simp [h2]⟩
  ·simp [hk] at h
 | [],_::_,xs,h=>by simp [jA] at h
 | _::_,[],xs,h=>by simp [jA] at h
 | _::_,.bool _::_,xs,h=>by simp [jA] at h
 | _::_,.float _ _::_,xs,h=>by simp [jA] at h
 | _::_,.complex _ _ _::_,xs,h=>by simp [jA] at h
 | _::_,.string _::_,xs,h=>by simp [jA] at h
 | _::_,.pointer _::_,xs,h=>by simp [jA] at h
 | _::_,.slice _ _ _::_,xs,h=>by simp [jA] at h
 | _::_,.map _::_,xs,h=>by simp [jA] at h
 | _::_,.chan _::_,xs,h=>by simp [jA] at h
 | _::_,.func _ _ _::_,xs,h=>by simp [jA] at h
 | _::_,.nilFunc::_,xs,h=>by simp [jA] at h
 | _::_,.iface _ _::_,xs,h=>by simp [jA] at h
 | _::_,.nilIface::_,xs,h=>by simp [jA] at h
 | _::_,.agg _::_,xs,h=>by simp [jA] at h
 | _::_,.tuple _::_,xs,h=>by simp [jA] at h
def yR:List (List Int)→List Value→List Int→Nat→Option (Nat×Value)
 | k::r,v::t,x,i=>if x=k then some (i,v) else yR r t x (i+1)
 | _,_,_,_=>none
structure qNj (P : Program) (t : TypeId) (ag : Bool) (ks : List IntKind) : Prop where
  one : ag = false → ks.length = 1
  chk : ∀ b xs (w : World), xs.length = ks.length → (Instr.checkKey b 10000 t (mkT ag ks xs)).run P w = .ok () w
  fnd : ∀ kl vs xs (w : World), xs.length = ks.length → (∀ k ∈ kl, k.length = ks.length) → vs.length = kl.length → (Instr.findKey t (mkT ag ks xs) (mpE ag ks 0 kl vs)).run P w = .ok (yR kl vs xs 0) w

structure Ext (P : Program) where
  ext : FuncId → List Value → Option (Value × Prop)
  extOk : ∀ f vs v p w, ext f vs = some (v, p) → p → (callFunc f vs.toArray).run P w = .ok (.value v) w
  eq : TypeId → Option (List IntKind)
  eqOk : ∀ t ks xs ys (x y : Operand) w, eq t = some ks → xs.length = ks.length → ys.length = ks.length →
    (do eqGuard .eql t x y (.agg (qX ks xs).toArray) (.agg (qX ks ys).toArray); binOp .eql t (.agg (qX ks xs).toArray) (.agg (qX ks ys).toArray)).run P w = .ok (.bool (decide (xs = ys))) w ∧
    (do eqGuard .neq t x y (.agg (qX ks xs).toArray) (.agg (qX ks ys).toArray); binOp .neq t (.agg (qX ks xs).toArray) (.agg (qX ks ys).toArray)).run P w = .ok (.bool (!decide (xs = ys))) w
  key : TypeId → Option (Bool × List IntKind)
  keyOk : ∀ t ag ks, key t = some (ag, ks) → qNj P t ag ks

/-! ### all operands plain: the model's own reckoning -/
def rho(tm:List (Nat×SV))(x:Operand):Value:=match evO tm x with | some s=>(jS s).getD undef | none=>undef
def qQc(tm:List (Nat×SV))(x:Operand):Bool:=match evO tm x with | some s=>(jS s).isSome | none=>false
def qPm:Op→Bool
 | .select ..=>false
 | _=>true
def qGg(P:Program)(tm:List (Nat×SV))(D:List Dec)(o:Oper):QR :=
 bif qPm o.op&&o.op.operands.toList.all (qQc tm) then
  match qFj P (execOp (rho tm) o) with
  | some (.value v)=>some (.v v,[],D)
  | _=>none
 else none
section
variable {P : Program} {tm : List (Nat × SV)} {n hl : Nat} {e : Env} {a : Act} {w : World} {D D' : List Dec} {s : SV} {sd : List zD}

theorem zEv(T:zC n hl tm e a){x:Operand}(h:qQc tm x=true):rho tm x=a.eval x:=by
 unfold qQc at h
 unfold rho
 cases hx:evO tm x with
 | none=>simp [hx] at h
 | some s =>
  simp only[hx] at h ⊢
  cases hp:jS s with
  | none=>simp [hp] at h
  | some v=>rw[(qH T hx).1,jH e s hp]; rfl
theorem zQ(T:zC n hl tm e a){o:Oper}(h:qGg P tm D o=some (s,sd,D')):
  (execOp a.eval o).run P w=.ok (.value (den e s)) w∧ws hl s:=by
 unfold qGg at h
 cases hb:qPm o.op&&o.op.operands.toList.all (qQc tm) with
 | false=>rw[hb] at h; cases h
 | true =>
  simp only[hb,cond_true] at h
  rw[Bool.and_eq_true] at hb
  have hcon:execOp (rho tm) o=execOp a.eval o:=by
   refine execOp_congr o (fun cs b hh=>?_) (fun x hx=>zEv T (List.all_eq_true.1 hb.2 x (Array.mem_toList_iff.2 hx)))
   have:=hb.1
   rw[hh] at this
   cases this
  split at h
  ·rename_i v hv
   simp only[sI,pI] at h
   obtain⟨rfl,rfl,rfl⟩:=h
   rw[hcon] at hv
   exact⟨jW hv w,trivial⟩
  ·cases h
end

/-! ### the shapes of results -/
def qFq(tm:List (Nat×SV))(x:Operand):Option (IntKind×Int) :=
 match evO tm x with
 | some (.v (.int k n))=>some (k,n)
 | _=>none
def qDj(tm:List (Nat×SV))(x:Operand):Option Value :=
 match evO tm x with
 | some s=>jS s
 | none=>none
section
variable {P : Program} {tm : List (Nat × SV)} {n hl : Nat} {e : Env} {a : Act} {w : World}
theorem yG(T:zC n hl tm e a){x:Operand}{k:IntKind}{m:Int}(h:qFq tm x=some (k,m)):a.eval x=.int k m:=by
 unfold qFq at h
 split at h
 ·rename_i k' m' hx
  simp only[sI,pI] at h
  obtain⟨rfl,rfl⟩:=h
  exact(qH T hx).1
 ·cases h
theorem zL(T:zC n hl tm e a){x:Operand}{v:Value}(h:qDj tm x=some v):a.eval x=v:=by
 unfold qDj at h
 split at h
 ·rename_i s hx
  rw[(qH T hx).1,jH e s h]
 ·cases h
end

def zAw(op:BinOp)(k:IntKind)(x:Int)(y:Int)(D:List Dec):QR :=
 match op with
 | .shl=>some (.v (.int k (k.wrap (x*2^(min y.toNat k.bits)))),[fun _=>¬ y<0],D)
 | .shr=>some (.v (.int k (x.fdiv (2^(min y.toNat k.bits)))),[fun _=>¬ y<0],D)
 | .quo=>some (.v (.int k (k.wrap (x.tdiv y))),[fun _=>¬ y=0],D)
 | .rem=>some (.v (.int k (x.tmod y)),[fun _=>¬ y=0],D)
 | _=>none
def qOs:Option HO→Bool
 | some (.row ..)=>true
 | some (.rowc ..)=>true
 | _=>false
def zI(h:List HO):SV→Option (List SV)
 | .agg cs=>some cs
 | .v (.agg cs)=>some (cs.toList.map SV.v)
 | .v (.tuple _)=>none
 | .tup _=>none
 | .v (.bool b)=>some [.v (.bool b)]
 | .v (.int k x)=>some [.v (.int k x)]
 | .v (.string x)=>some [.v (.string x)]
 | .v (.pointer x)=>some [.v (.pointer x)]
 | .v (.slice x l c)=>some [.v (.slice x l c)]
 | .v (.map x)=>some [.v (.map x)]
 | .v (.iface t x)=>some [.v (.iface t x)]
 | .v .nilIface=>some [.v .nilIface]
 | .v (.func f x c)=>some [.v (.func f x c)]
 | .v .nilFunc=>some [.v .nilFunc]
 | .v _=>none
 | .o i=>bif qOs h[i]? then some [.o i] else none
 | s=>some [s]
theorem qAm(e:Env)(l:List Value):qS e (l.map SV.v)=l:=by
 induction l with
 | nil=>rfl
 | cons x r ih=>simp [qS,den,ih]
theorem qDu(n:Nat)(l:List Value):wsL n (l.map SV.v):=by
 induction l with
 | nil=>trivial
 | cons x r ih=>exact⟨trivial,ih⟩
theorem qCv{F:Mem→Prop}{h:List HO}{e:Env}{w:World}(S:xR F h e w){i:Nat}(hi:qOs h[i]?=true):∃ oa n c,e.row i=.slice oa n c:=by
 unfold qOs at hi
 split at hi
 ·rename_i T size n xs hr
  obtain⟨⟨_,hr2⟩,_⟩:=S.sat i _ hr
  rcases hr2 with ⟨hv,_⟩ | ⟨g,cap,cur,hv,_⟩
  ·exact⟨_,_,_,hv⟩
  ·exact⟨_,_,_,hv⟩
 ·rename_i T size n c hr
  obtain⟨zB,⟨_,hr2⟩,_⟩:=S.sat i _ hr
  rcases hr2 with ⟨hv,_⟩ | ⟨g,cap,cur,hv,_⟩
  ·exact⟨_,_,_,hv⟩
  ·exact⟨_,_,_,hv⟩
 ·cases hi
theorem zBg{v:Value}(h:v.oneCell'=true):v.cells=#[v]:=by
 cases v <;> first | rfl | cases h
theorem xN{F:Mem→Prop}{h:List HO}{e:Env}{w:World}(S:xR F h e w){s:SV}{cs:List SV}(hc:zI h s=some cs):
  (den e s).cells=(qS e cs).toArray∧(∀ n,ws n s→wsL n cs):=by
 cases s with
 | v x =>
  cases x <;> simp only[zI,sI,reduceCtorEq] at hc <;> subst hc
  case agg c =>
   refine⟨?_,fun n _=>qDu n _⟩
   rw[qAm]
   simp [den,Value.cells]
  all_goals exact⟨rfl,fun _ _=>⟨trivial,trivial⟩⟩
 | agg c=>simp only[zI,sI] at hc; subst hc; exact⟨rfl,fun n hn=>hn⟩
 | tup c=>cases hc
 | o i =>
  simp only[zI] at hc
  cases hr:qOs h[i]? with
  | false=>rw[hr] at hc; cases hc
  | true =>
   rw[hr] at hc
   simp only[cond_true,sI] at hc
   subst hc
   obtain⟨oa,n,c,hv⟩:=qCv S hr
   refine⟨?_,fun n hn=>⟨hn,trivial⟩⟩
   simp only[den,qS,hv]
   rfl
 | q i off =>
  simp only[zI,sI] at hc
  subst hc
  refine⟨?_,fun n hn=>⟨hn,trivial⟩⟩
  simp only[den,qS]
  split <;> rfl
 | x i p =>
  simp only[zI,sI] at hc
  subst hc
  exact⟨by simp only[den,qS]; exact zBg (e.one i p),fun n hn=>⟨hn,trivial⟩⟩
 | xp i p sz k j =>
  simp only[zI,sI] at hc
  subst hc
  refine⟨?_,fun n hn=>⟨hn,trivial⟩⟩
  simp only[den,qS,qSt]
  split <;> rfl
 | qk i sz k j =>
  simp only[zI,sI] at hc
  subst hc
  refine⟨?_,fun n hn=>⟨hn,trivial⟩⟩
  simp only[den,qS,qFt]
  split <;> rfl
 | bl b=>simp only[zI,sI] at hc; subst hc; exact⟨rfl,fun n hn=>⟨hn,trivial⟩⟩
 | p i off=>simp only[zI,sI] at hc; subst hc; exact⟨rfl,fun n hn=>⟨hn,trivial⟩⟩
 | m i=>simp only[zI,sI] at hc; subst hc; exact⟨rfl,fun n hn=>⟨hn,trivial⟩⟩
 | sl i off l c=>simp only[zI,sI] at hc; subst hc; exact⟨rfl,fun n hn=>⟨hn,trivial⟩⟩
 | fn f a c=>simp only[zI,sI] at hc; subst hc; exact⟨rfl,fun n hn=>⟨hn,trivial⟩⟩
 | ifc t y=>simp only[zI,sI] at hc; subst hc; exact⟨rfl,fun n hn=>⟨hn,trivial⟩⟩
end Go.Sx
/- The operations that write nothing: the reckoner and its truth. -/
namespace Go.Sx
open Go.RowKit

def qIp(h:List HO)(k:Nat):SV→Option (SV×List zD)
 | .p i off=>some (.p i (off+k),[])
 | .q i off=>match h[i]? with
  | some (.row _ _ _ xs)=>some (.q i (off+k),[fun _=>0<xs.length])
  | _=>none
 | .v (.pointer oa)=>some (.v (.pointer (oa.map fun ad=>ad.add k)),[fun _=>oa.isSome=true])
 | .xp i p sz kk j=>match h[i]? with
  | some (.ext _ c0)=>match yU c0 p with
   | some (.s _ _ n _)=>some (.xp i p sz kk (j+k),wA (pvs c0 p++[kk<n]))
   | _=>none
  | _=>none
 | .x i p=>match h[i]? with
  | some (.ext _ c0)=>match yU c0 p with
   | some (.s true sz n _)=>some (.xp i p sz 0 k,wA (pvs c0 p++[0<n]))
   | _=>none
  | _=>none
 | .qk i sz kk j=>match h[i]? with
  | some (.rowc _ _ n _)=>some (.qk i sz kk (j+k),[fun _=>kk<n])
  | _=>none
 | _=>none
section
variable {P : Program} {F : Mem → Prop} {h : List HO} {e : Env} {w : World} {M : Mem}

theorem qTe(S:xR F h e w){i:Nat}{T:TypeId}{sz n:Nat}{xs:List SV}(hi:h[i]?=some (.row T sz n xs))(hx:0<xs.length):
  ∃ g cap cur,e.row i=.slice (some ⟨g,0,none⟩) n cap∧w.heap[g]?=some (.cells cur T (0,0))∧cur.toList.take (n*sz)=qS e xs:=by
 obtain⟨⟨h1,h2⟩,_⟩:=S.sat i _ hi
 rcases h2 with ⟨hv,hn⟩ | ⟨g,cap,cur,hv,_,hh,_,_,_,ht⟩
 ·subst hn
  rw[qV] at h1
  omega
 ·exact⟨g,cap,cur,hv,hh,ht⟩
theorem qAl(S:xR F h e w){k:Nat}{s s':SV}{sd:List zD}(hp:qIp h k s=some (s',sd))(hsd:∀ x∈sd,x M):
  (∃ ad,den e s=.pointer (some ad)∧den e s'=.pointer (some (ad.add k)))∧∀ n,ws n s→ws n s':=by
 unfold qIp at hp
 split at hp
 ·simp only[sI,pI] at hp
  obtain⟨rfl,rfl⟩:=hp
  exact⟨⟨_,rfl,by simp only[den,Addr.add_lit]⟩,fun _ hh=>hh⟩
 ·rename_i i off
  split at hp
  ·rename_i T sz nn xs hr
   simp only[sI,pI] at hp
   obtain⟨rfl,rfl⟩:=hp
   obtain⟨g,cap,cur,hv,_,_⟩:=qTe S hr (hsd _ List.mem_cons_self)
   exact⟨⟨⟨g,off,none⟩,by simp only[den,hv],by simp only[den,hv,Addr.add_lit]⟩,fun _ hh=>hh⟩
  ·cases hp
 ·rename_i oa
  simp only[sI,pI] at hp
  obtain⟨rfl,rfl⟩:=hp
  have:=hsd _ List.mem_cons_self
  cases oa with
  | none=>simp at this
  | some ad=>exact⟨⟨ad,rfl,rfl⟩,fun _ hh=>hh⟩
 ·rename_i i p sz kk j
  split at hp
  ·rename_i b0 c0 hi
   split at hp
   ·rename_i pt sz' n g hc
    simp only[sI,pI] at hp
    obtain⟨rfl,rfl⟩:=hp
    have hs:=zX hsd
    have hk:kk<n:=hs _ (List.mem_append_right _ List.mem_cons_self)
    obtain⟨oa,hr,h2⟩:=qEo S hi hc (fun x hx=>hs x (List.mem_append_left _ hx))
    rcases h2 with rfl | ⟨ad,rfl,_⟩
    ·omega
    ·exact⟨⟨ad.add (kk*sz+j),by simp only[den,qCn hr],by simp only[den,qCn hr,Go.Deep.add_add,Nat.add_assoc]⟩,fun _ hh=>hh⟩
   ·cases hp
  ·cases hp
 ·rename_i i p
  split at hp
  ·rename_i b0 c0 hi
   split at hp
   ·rename_i sz' n g hc
    simp only[sI,pI] at hp
    obtain⟨rfl,rfl⟩:=hp
    have hs:=zX hsd
    have hk:0<n:=hs _ (List.mem_append_right _ List.mem_cons_self)
    obtain⟨oa,hr,h2⟩:=qEo S hi hc (fun x hx=>hs x (List.mem_append_left _ hx))
    rcases h2 with rfl | ⟨ad,rfl,_⟩
    ·omega
    ·refine⟨⟨ad,by simp only[den]; exact hr,by simp only[den,qCn hr,Nat.zero_mul,Nat.zero_add]⟩,fun _ hh=>hh⟩
   ·cases hp
  ·cases hp
 ·rename_i i sz kk j
  split at hp
  ·rename_i T sz' n c hi
   simp only[sI,pI] at hp
   obtain⟨rfl,rfl⟩:=hp
   have hk:kk<n:=hsd _ List.mem_cons_self
   obtain⟨g,cap,cur,hv,_⟩:=qIo S hi (by omega)
   exact⟨⟨⟨g,kk*sz+j,none⟩,by simp only[den,hv,qFt],by simp only[den,hv,qFt,Addr.add_lit,Nat.add_assoc]⟩,fun _ hh=>hh⟩
  ·cases hp
 ·cases hp
theorem qVh{S0:TypeId}{fs:Array Field}{f:Nat}{fd:Field}{n:Nat}{ad:Addr}(hu:P.underlying S0=some (.struct fs))(hf:fs[f]?=some fd)(hn:jO P fd.type=some n)(h0:n≠0):(Instr.fieldAt S0 (.pointer (some ad)) f).run P w=.ok (.pointer (some (ad.add fd.offset))) w:=by
 simp [Instr.fieldAt,run_underlying hu,hf,Instr.sureAddr,fieldPlace,zH hn,h0]
theorem qHo{T:TypeId}{len el sz:Nat}{k:IntKind}{i:Int}{ad:Addr}(hu:P.underlying T=some (.array len el))(hn:jO P el=some sz)(h0:0≤i∧i<len):(Instr.indexAt T (.pointer (some ad)) (.int k i)).run P w=.ok (.pointer (some (ad.add (i.toNat*sz)))) w:=by
 simp [Instr.indexAt,asIntOf,run_underlying hu,Instr.sureAddr,h0,zH hn]
theorem jQ{T:TypeId}{len cap el sz:Nat}{k:IntKind}{i:Int}{ad:Addr}(hu:P.underlying T=some (.slice el))(hn:jO P el=some sz)(h0:0≤i∧i<len):(Instr.indexAt T (.slice (some ad) len cap) (.int k i)).run P w=.ok (.pointer (some (ad.add (i.toNat*sz)))) w:=by
 simp [Instr.indexAt,asIntOf,run_underlying hu,h0,zH hn]
end

def qNq(tm:List (Nat×SV))(x:Option Operand)(dflt qDt:Nat):Option (Nat×List zD) :=
 match x with
 | none=>some (dflt,[])
 | some x=>match qFq tm x with
  | some (_,i)=>some (i.toNat,[fun _=>0≤i∧i≤(qDt:Int)])
  | none=>none
def qPh(tm:List (Nat×SV))(len cap:Nat)(lo hi mx:Option Operand):Option ((Nat×Nat×Nat)×List zD) :=
 match hi,mx with
 | none,some _=>none
 | _,_ =>
  match qNq tm mx cap cap with
  | none=>none
  | some (m,s1)=>match qNq tm hi len m with
   | none=>none
   | some (hh,s2)=>match qNq tm lo 0 hh with
    | none=>none
    | some (l,s3)=>some ((l,hh,m),s1++s2++s3)
section
variable {P : Program} {tm : List (Nat × SV)} {n hl : Nat} {e : Env} {a : Act} {w : World} {M : Mem}
theorem wO(T:zC n hl tm e a){x:Operand}{d u r:Nat}{sd:List zD}(h:qNq tm (some x) d u=some (r,sd))(hsd:∀ x∈sd,x M)(c:BoundsCode):
  (Instr.sliceBound (a.eval x) u c).run P w=.ok r w:=by
 unfold qNq at h
 simp only at h
 split at h
 ·rename_i k i hi
  simp only[sI,pI] at h
  obtain⟨rfl,rfl⟩:=h
  have:=hsd _ List.mem_cons_self
  rw[yG T hi]
  simp [Instr.sliceBound,asIntOf,this]
 ·cases h
theorem qBp(T:zC n hl tm e a){len cap:Nat}{lo hi mx:Option Operand}{r:Nat×Nat×Nat}{sd:List zD}(h:qPh tm len cap lo hi mx=some (r,sd))(hsd:∀ x∈sd,x M)(b:Bool):
  (Instr.sliceBounds b len cap (lo.map a.eval) (hi.map a.eval) (mx.map a.eval)).run P w=.ok r w:=by
 unfold qPh at h
 split at h
 ·cases h
 ·rename_i hne
  split at h
  ·cases h
  ·rename_i m s1 h1
   split at h
   ·cases h
   ·rename_i hh s2 h2
    split at h
    ·cases h
    ·rename_i l s3 h3
     simp only[sI,pI] at h
     obtain⟨rfl,rfl⟩:=h
     have hs1:∀ x∈s1,x M:=fun x hx=>hsd x (by simp [hx])
     have hs2:∀ x∈s2,x M:=fun x hx=>hsd x (by simp [hx])
     have hs3:∀ x∈s3,x M:=fun x hx=>hsd x (by simp [hx])
     cases mx with
     | none =>
      simp only[qNq,sI,pI] at h1
      obtain⟨rfl,_⟩:=h1
      cases hi with
      | none =>
       simp only[qNq,sI,pI] at h2
       obtain⟨rfl,_⟩:=h2
       cases lo with
       | none =>
        simp only[qNq,sI,pI] at h3
        obtain⟨rfl,_⟩:=h3
        simp [Instr.sliceBounds]
       | some z =>
        have b3:=fun c=>wO (P:=P) (w:=w) T h3 hs3 c
        simp [Instr.sliceBounds,b3]
      | some y =>
       have b2:=fun c=>wO (P:=P) (w:=w) T h2 hs2 c
       cases lo with
       | none =>
        simp only[qNq,sI,pI] at h3
        obtain⟨rfl,_⟩:=h3
        simp [Instr.sliceBounds,b2]
       | some z =>
        have b3:=fun c=>wO (P:=P) (w:=w) T h3 hs3 c
        simp [Instr.sliceBounds,b2,b3]
     | some x =>
      have b1:=fun c=>wO (P:=P) (w:=w) T h1 hs1 c
      cases hi with
      | none=>exact absurd rfl (hne _ rfl)
      | some y =>
       have b2:=fun c=>wO (P:=P) (w:=w) T h2 hs2 c
       cases lo with
       | none =>
        simp only[qNq,sI,pI] at h3
        obtain⟨rfl,_⟩:=h3
        simp [Instr.sliceBounds,b1,b2]
       | some z =>
        have b3:=fun c=>wO (P:=P) (w:=w) T h3 hs3 c
        simp [Instr.sliceBounds,b1,b2,b3]
end
end Go.Sx
/- The reckoner of the operations that write nothing. -/
namespace Go.Sx
open Go.RowKit

def qNu(cells:List SV)(off:Nat)(cs:List SV):List SV:=cells.take off++cs++cells.drop (off+cs.length)
theorem qUd{cells:List SV}{off:Nat}{cs:List SV}(h:off+cs.length≤cells.length):(qNu cells off cs).length=cells.length:=by
 simp [qNu]; omega
theorem qMz{n:Nat}{a b:List SV}:wsL n (a++b)↔wsL n a∧wsL n b:=by
 simp only[xD,List.mem_append]
 exact⟨fun h=>⟨fun x hx=>h x (.inl hx),fun x hx=>h x (.inr hx)⟩,fun h x hx=>hx.elim (h.1 x) (h.2 x)⟩
theorem qSf{n k:Nat}{a:List SV}(h:wsL n a):wsL n (a.take k):=(xD _ _).2 fun x hx=>(xD _ _).1 h x (List.mem_of_mem_take hx)
theorem qTg{n k:Nat}{a:List SV}(h:wsL n a):wsL n (a.drop k):=(xD _ _).2 fun x hx=>(xD _ _).1 h x (List.mem_of_mem_drop hx)
theorem qLv{n:Nat}{cells:List SV}{off:Nat}{cs:List SV}(h:wsL n cells)(k:wsL n cs):wsL n (qNu cells off cs) :=
 qMz.2 ⟨qMz.2 ⟨qSf h,k⟩,qTg h⟩
theorem qEj(e:Env)(a b:List SV):qS e (a++b)=qS e a++qS e b:=by simp [yQ]
theorem qPa(e:Env)(a:List SV)(k:Nat):qS e (a.take k)=(qS e a).take k:=by simp [yQ,List.map_take]
theorem qIr(e:Env)(a:List SV)(k:Nat):qS e (a.drop k)=(qS e a).drop k:=by simp [yQ,List.map_drop]
theorem qEz(e:Env)(cells:List SV)(off:Nat)(cs:List SV):qS e (qNu cells off cs)=(qS e cells).take off++qS e cs++(qS e cells).drop (off+(qS e cs).length):=by
 simp [qNu,qEj,qPa,qIr,qV]
theorem qOe(off:Nat):∀(cs:List Value) (k:Nat) (cells:List Value),off+k+cs.length≤cells.length →
  (cs.zipIdx k).foldl (fun(acc:Array Value) (x:Value×Nat)=>acc.setIfInBounds (off+x.2) x.1) cells.toArray=(cells.take (off+k)++cs++cells.drop (off+k+cs.length)).toArray
 | [],k,cells,_=>by simp
 | c::cs,k,cells,h=>by
  simp only[List.zipIdx_cons,List.foldl_cons,List.length_cons] at h ⊢
  have:cells.toArray.setIfInBounds (off+k) c=(cells.set (off+k) c).toArray:=by simp
  rw[this,qOe off cs (k+1) (cells.set (off+k) c) (by simp; omega)]
  congr 1
  have hlt:off+k<cells.length:=by omega
  have e1:(cells.set (off+k) c).take (off+(k+1))=cells.take (off+k)++[c]:=by
   rw[show off+(k+1)=(off+k)+1 from by omega,List.take_succ_eq_append_getElem (by simpa using hlt)]
   simp [List.take_set_of_le]
  have e2:(cells.set (off+k) c).drop (off+(k+1)+cs.length)=cells.drop (off+k+(cs.length+1)):=by
   rw[List.drop_set_of_lt (by omega)]
   congr 1
   omega
  rw[e1,e2]
  simp
theorem qVo(l:List Value):List.mapIdx (fun i a=>(a,i)) l=l.zipIdx:=by
 rw[List.mapIdx_eq_zipIdx_map]
 simp
def qMb(h:List HO)(place:Nat→Option (Nat×Nat))(cells:List SV):List (Nat×SV)→Option (List SV)
 | []=>some cells
 | (i,s)::r =>
  match place i,zI h s with
  | some (off,size),some cs=>bif Nat.beq cs.length size&&Nat.ble (off+cs.length) cells.length then qMb h place (qNu cells off cs) r else none
  | _,_=>none
theorem qBf{F:Mem→Prop}{h:List HO}{e:Env}{w:World}(S:xR F h e w)(hl:Nat)(place:Nat→Option (Nat×Nat)):
  ∀(parts:List (Nat×SV)) (cells:List SV) {r:List SV},qMb h place cells parts=some r→wsL hl cells→(∀ x∈parts,ws hl x.2) →
   Instr.fill place (qS e cells).toArray (parts.map fun x=>(x.1,den e x.2))=some (qS e r).toArray∧wsL hl r
 | [],cells,r,hr,hc,_=>by
  simp only[qMb,sI] at hr
  subst hr
  exact⟨rfl,hc⟩
 | (i,s)::rest,cells,r,hr,hc,hp=>by
  simp only[qMb] at hr
  split at hr
  ·rename_i off size cs hpl hcs
   cases hb:Nat.beq cs.length size&&Nat.ble (off+cs.length) cells.length with
   | false=>rw[hb] at hr; cases hr
   | true =>
    rw[hb] at hr
    simp only[cond_true] at hr
    rw[Bool.and_eq_true] at hb
    have h1:cs.length=size:=Nat.eq_of_beq_eq_true hb.1
    have h2:off+cs.length≤cells.length:=Nat.le_of_ble_eq_true hb.2
    obtain⟨c1,c2⟩:=xN S hcs
    have hws:=c2 hl (hp (i,s) List.mem_cons_self)
    obtain⟨q1,q2⟩:=qBf S hl place rest (qNu cells off cs) hr (qLv hc hws) (fun x hx=>hp x (List.mem_cons_of_mem _ hx))
    refine⟨?_,q2⟩
    simp only[List.map_cons,Instr.fill,hpl,c1,List.size_toArray,qV,h1,ne_eq,not_true_eq_false,decide_false,Bool.false_or,gt_iff_lt,decide_eq_true_eq]
    rw[if_neg (by omega)]
    rw[← q1]
    congr 1
    have:=qOe off (qS e cs) 0 (qS e cells) (by simp [qV]; omega)
    simp only[Nat.add_zero] at this
    rw[qEz,← this]
    simp [Array.zipIdx]
    rw[qVo]
  ·cases hr
def qEq(tm:List (Nat×SV)):List (Nat×Operand)→Option (List (Nat×SV))
 | []=>some []
 | (i,x)::r=>match evO tm x,qEq tm r with
  | some s,some l=>some ((i,s)::l)
  | _,_=>none
theorem qCa{n hl:Nat}{tm:List (Nat×SV)}{e:Env}{a:Act}(T:zC n hl tm e a):∀(l:List (Nat×Operand)) {r:List (Nat×SV)},qEq tm l=some r →
  (l.map fun x=>(x.1,a.eval x.2))=(r.map fun x=>(x.1,den e x.2))∧∀ x∈r,ws hl x.2
 | [],r,h=>by simp only[qEq,sI] at h; subst h; exact⟨rfl,fun x hx=>by cases hx⟩
 | (i,x)::rest,r,h=>by
  simp only[qEq] at h
  split at h
  ·rename_i s l h1 h2
   simp only[sI] at h
   subst h
   obtain⟨q1,q2⟩:=qCa T rest h2
   obtain⟨p1,p2⟩:=qH T h1
   refine⟨by simp [q1,p1],fun y hy=>?_⟩
   rcases List.mem_cons.1 hy with rfl | hy
   ·exact p2
   ·exact q2 y hy
  ·cases h
def qDl(tm:List (Nat×SV)):List Operand→Option (List SV)
 | []=>some []
 | x::r=>match evO tm x,qDl tm r with
  | some s,some l=>some (s::l)
  | _,_=>none
theorem jV{n hl:Nat}{tm:List (Nat×SV)}{e:Env}{a:Act}(T:zC n hl tm e a):∀(l:List Operand) {r:List SV},qDl tm l=some r →
  l.map a.eval=qS e r∧wsL hl r
 | [],r,h=>by simp only[qDl,sI] at h; subst h; exact⟨rfl,trivial⟩
 | x::rest,r,h=>by
  simp only[qDl] at h
  split at h
  ·rename_i s l h1 h2
   simp only[sI] at h
   subst h
   obtain⟨q1,q2⟩:=jV T rest h2
   obtain⟨p1,p2⟩:=qH T h1
   exact⟨by simp [q1,p1,qS],p2,q2⟩
  ·cases h
def zIl(s:ByteArray)(i:Nat):Int:=(((s.data.toList[i]?).getD 0).toNat:Int)
def one(x:Option SV)(D:List Dec):QR:=match x with | some s=>some (s,[],D) | none=>none
def zDp(tm:List (Nat×SV))(D:List Dec)(c x y:Operand):QR :=
 match evO tm c with
 | some (.bl true)=>one (evO tm x) D
 | some (.bl false)=>one (evO tm y) D
 | some (.v (.bool z))=>match D with
  | .t::D'=>match evO tm x with | some s=>some (s,[fun _=>z=true],D') | none=>none
  | .f::D'=>match evO tm y with | some s=>some (s,[fun _=>z=false],D') | none=>none
  | _=>none
 | _=>none
def zDx(P:Program)(tm:List (Nat×SV))(h:List HO)(D:List Dec)(t:TypeId)(x:Operand):QR :=
 match evO tm x with
 | some (.p i off)=>match h[i]? with
  | some (.cells cs _)=>qHt P t i cs off D
  | _=>none
 | some (.q i off)=>match h[i]? with
  | some (.row _ _ _ xs)=>match qHt P t i xs off D with
   | some (s,sd,D')=>some (s,(fun _=>0<xs.length)::sd,D')
   | none=>none
  | _=>none
 | some (.v (.pointer oa))=>qQm P t oa D
 | some (.xp i p sz k j)=>qCu P t h i p sz k j D
 | some (.x i p)=>match h[i]? with
  | some (.ext _ c0)=>match yU c0 p with
   | some (.s true sz _ _)=>qCu P t h i p sz 0 0 D
   | _=>none
  | _=>none
 | some (.qk i sz k j)=>qLg P t h i sz k j D
 | _=>none
def qUf(h:List HO)(D:List Dec)(s:SV):QR :=
 match qIp h 0 s with
 | some (_,sd)=>some (s,sd,D)
 | none=>none
def zJe(P:Program)(tm:List (Nat×SV))(h:List HO)(D:List Dec)(o:Oper)(x:Operand):QR :=
 match evO tm x with
 | some (.p i off)=>some (.p i off,[],D)
 | some (.fn (.func f) a c)=>some (.fn (.func f) a c,[],D)
 | some (.ifc t y)=>some (.ifc t y,[],D)
 | some (.v (.pointer oa))=>some (.v (.pointer oa),[fun _=>oa.isSome=true],D)
 | some (.x i p)=>qUf h D (.x i p)
 | some (.xp i p sz k j)=>qUf h D (.xp i p sz k j)
 | some (.qk i sz k j)=>qUf h D (.qk i sz k j)
 | _=>qGg P tm D o
def qGc(P:Program)(tm:List (Nat×SV))(h:List HO)(D:List Dec)(S0:TypeId)(x:Operand)(f:Nat):QR :=
 match P.underlying S0 with
 | some (.struct fs)=>match fs[f]? with
  | some fd=>match jO P fd.type,evO tm x with
   | some (_+1),some s=>match qIp h fd.offset s with
    | some (s',sd)=>some (s',sd,D)
    | none=>none
   | _,_=>none
  | none=>none
 | _=>none
def qFx(P:Program)(tm:List (Nat×SV))(h:List HO)(D:List Dec)(T:TypeId)(x ix:Operand):QR :=
 match qFq tm ix with
 | none=>none
 | some (_,i) =>
  match P.underlying T with
  | some (.array len el)=>match jO P el,evO tm x with
   | some sz,some s=>match qIp h (i.toNat*sz) s with
    | some (s',sd)=>some (s',(fun _=>0≤i∧i<(len:Int))::sd,D)
    | none=>none
   | _,_=>none
  | some (.slice el)=>match jO P el,evO tm x with
   | some sz,some (.o j)=>match h[j]? with
    | some (.row _ _ nn _)=>some (.q j (i.toNat*sz),[fun _=>0≤i∧i<(nn:Int)],D)
    | some (.rowc _ _ nn _)=>some (.qk j sz i.toNat 0,[fun _=>0≤i∧i<(nn:Int)],D)
    | _=>none
   | some sz,some (.x j p)=>match h[j]? with
    | some (.ext _ c0)=>match yU c0 p with
     | some (.s false _ nn _)=>some (.xp j p sz i.toNat 0,wA (pvs c0 p++[0≤i∧i<(nn:Int)]),D)
     | _=>none
    | _=>none
   | some sz,some (.sl j off len _)=>some (.p j (off+i.toNat*sz),[fun _=>0≤i∧i<(len:Int)],D)
   | some sz,some (.v (.slice oa len _))=>some (.v (.pointer (oa.map fun ad=>ad.add (i.toNat*sz))),[fun _=>0≤i∧i<(len:Int),fun _=>oa.isSome=true],D)
   | _,_=>none
  | _=>none
def qYk(P:Program)(t:TypeId)(cs:List SV)(off:Nat):Option SV :=
 match qFk P t,jO P t with
 | some true,some n=>bif Nat.beq ((cs.drop off).take n).length n then some (.agg ((cs.drop off).take n)) else none
 | some false,_=>cs[off]?
 | _,_=>none
def qXv(P:Program)(tm:List (Nat×SV))(D:List Dec)(o:Oper)(T:TypeId)(x ix:Operand):QR :=
 match qFq tm ix with
 | none=>none
 | some (_,i) =>
  match P.underlying T,evO tm x with
  | some (.array len el),some s=>match jO P el,s with
   | some sz,.agg cs=>match qYk P el cs (i.toNat*sz) with
    | some r=>some (r,[fun _=>0≤i∧i<(len:Int)],D)
    | none=>none
   | _,_=>qGg P tm D o
  | some .string,some (.v (.string s))=>some (.v (.int .u8 (zIl s i.toNat)),[fun _=>0≤i∧i<(s.size:Int)],D)
  | _,_=>none
def qXm(P:Program)(tm:List (Nat×SV))(D:List Dec)(o:Oper)(T:TypeId)(x:Operand)(f:Nat):QR :=
 match P.underlying T,evO tm x with
 | some (.struct fs),some (.agg cs)=>match fs[f]? with
  | some fd=>one (qYk P fd.type cs fd.offset) D
  | none=>none
 | _,_=>qGg P tm D o
def qMg(P:Program)(tm:List (Nat×SV))(D:List Dec)(o:Oper)(x:Operand)(ix:Nat):QR :=
 match evO tm x with
 | some (.tup cs)=>one cs[ix]? D
 | _=>qGg P tm D o
def qXe(P:Program)(tm:List (Nat×SV))(D:List Dec)(T:TypeId)(x:Operand):QR :=
 match P.underlying T,evO tm x with
 | some (.interface _),_=>none
 | some _,some s=>some (.ifc T s,[],D)
 | _,_=>none
def qXc(P:Program)(tm:List (Nat×SV))(h:List HO)(D:List Dec)(t:TypeId)(parts:Array (Nat×Operand)):QR :=
 match qFj P (zeroValue t),qEq tm parts.toList with
 | some z,some ps=>match P.underlying t with
  | some (.struct fs)=>match qFj P (fs.mapM fun f=>do pure (f.offset,← sizeOf f.type)) with
   | some places=>match qMb h (fun i=>places[i]?) (z.cells.toList.map SV.v) ps with
    | some r=>some (.agg r,[],D)
    | none=>none
   | none=>none
  | some (.array _ el)=>match jO P el with
   | some sz=>match qMb h (fun i=>some (i*sz,sz)) (z.cells.toList.map SV.v) ps with
    | some r=>some (.agg r,[],D)
    | none=>none
   | none=>none
  | _=>none
 | _,_=>none
def zXe(a b:ByteArray):ByteArray:=a++b
def zMn(P:Program)(X:Ext P)(tm:List (Nat×SV))(D:List Dec)(o:Oper)(op:BinOp)(T:TypeId)(x y:Operand):QR :=
 match qDj tm x,qDj tm y with
 | some (.int k m),some (.int k' m')=>match op with
  | .shl=>zAw .shl k m m' D
  | .shr=>zAw .shr k m m' D
  | .quo=>bif decide (k=k') then zAw .quo k m m' D else none
  | .rem=>bif decide (k=k') then zAw .rem k m m' D else none
  | _=>qGg P tm D o
 | some (.agg A),some (.agg B)=>match X.eq T with
  | some ks=>match jA ks A.toList,jA ks B.toList with
   | some xs,some ys=>match op with
    | .eql=>some (.v (.bool (decide (xs=ys))),[],D)
    | .neq=>some (.v (.bool (!decide (xs=ys))),[],D)
    | _=>none
   | _,_=>none
  | none=>none
 | some (.string a),some (.string b)=>match op with
  | .add=>some (.v (.string (zXe a b)),[fun _=>a.size+b.size≤9223372036854775807],D)
  | _=>qGg P tm D o
 | _,_=>qGg P tm D o
def qWz(P:Program)(tm:List (Nat×SV))(D:List Dec)(T:TypeId)(x:Operand)(lo hi mx:Option Operand):QR :=
 match P.underlying T with
 | some (.array n el)=>match jO P el,evO tm x with
  | some sz,some (.p i off)=>match qPh tm n n lo hi mx with
   | some ((l,hh,m),sd)=>some (.sl i (if m=l then off else off+l*sz) (hh-l) (m-l),sd,D)
   | none=>none
  | _,_=>none
 | some .string=>match evO tm x,mx with
  | some (.v (.string s)),none=>match qPh tm s.size s.size lo hi none with
   | some ((l,hh,_),sd)=>some (.v (.string (s.extract l hh)),sd,D)
   | none=>none
  | _,_=>none
 | some (.slice el)=>match jO P el,evO tm x with
  | some sz,some (.v (.slice oa len cap))=>match qPh tm len cap lo hi mx with
   | some ((l,hh,m),sd)=>some (.v (.slice (if m=l then oa else oa.map fun ad=>ad.add (l*sz)) (hh-l) (m-l)),sd,D)
   | none=>none
  | some sz,some (.sl i off len cap)=>match qPh tm len cap lo hi mx with
   | some ((l,hh,m),sd)=>some (.sl i (if m=l then off else off+l*sz) (hh-l) (m-l),sd,D)
   | none=>none
  | _,_=>none
 | _=>none
def zEr(P:Program)(X:Ext P)(tm:List (Nat×SV))(h:List HO)(D:List Dec)(o:Oper)(c:Call):QR :=
 match c.callee with
 | .builtin .len=>match c.args.toList,c.argTypes.toList with
  | [x],[T]=>match P.underlying T with
   | some (.slice _)=>match evO tm x with
    | some (.o i)=>match h[i]? with
     | some (.row _ _ nn _)=>some (.v (.int .i64 nn),[],D)
     | some (.rowc _ _ nn _)=>some (.v (.int .i64 nn),[],D)
     | _=>none
    | some (.x j p)=>match h[j]? with
     | some (.ext _ c0)=>match yU c0 p with
      | some (.s false _ nn _)=>some (.v (.int .i64 nn),wA (pvs c0 p),D)
      | _=>none
     | _=>none
    | some (.sl _ _ len _)=>some (.v (.int .i64 len),[],D)
    | _=>qGg P tm D o
   | _=>qGg P tm D o
  | _,_=>none
 | .value (.func f)=>match qDl tm c.args.toList with
  | some ss=>match qAc ss with
   | some vs=>match X.ext f vs with
    | some (v,p)=>some (.v v,[fun _=>p],D)
    | none=>none
   | none=>none
  | none=>none
 | .builtin _=>qGg P tm D o
 | _=>none
def zPw(P:Program)(tm:List (Nat×SV))(h:List HO)(D:List Dec)(T:TypeId)(x:Operand):QR :=
 match P.underlying T with
 | some (.array n _)=>match evO tm x with
  | some (.sl i off len _)=>some (.p i off,[fun _=>n≤len],D)
  | some (.v (.slice oa len _))=>some (.v (.pointer oa),[fun _=>n≤len],D)
  | some (.o i)=>match h[i]? with
   | some (.row _ _ nn _)=>some (.q i 0,[fun _=>n≤nn∧0<nn],D)
   | _=>none
  | _=>none
 | _=>none
def qRi(P:Program)(tm:List (Nat×SV))(D:List Dec)(o:Oper)(x:Operand)(asserted:TypeId)(ok:Bool):QR :=
 match qDj tm x,P.underlying asserted,ok with
 | some (.iface t v),some (.interface want),true =>
  match (P.info? t).map (fun i=>(lacking want i.methods).isEmpty) with
  | some true=>some (.v (.tuple #[.iface t v,.bool true]),[],D)
  | some false=>match (P.info? asserted).map (·.zero) with
   | some (some z)=>some (.v (.tuple #[z,.bool false]),[],D)
   | _=>none
  | none=>none
 | _,_,_=>qGg P tm D o
def xq(P:Program)(X:Ext P)(tm:List (Nat×SV))(h:List HO)(D:List Dec)(o:Oper):QR :=
 match o.op with
 | .move x=>one (evO tm x) D
 | .assign x=>one (evO tm x) D
 | .pick c x y=>zDp tm D c x y
 | .load t x=>zDx P tm h D t x
 | .nilCheck x=>zJe P tm h D o x
 | .fieldAddr S0 x f=>qGc P tm h D S0 x f
 | .indexAddr T x ix=>qFx P tm h D T x ix
 | .index T x ix=>qXv P tm D o T x ix
 | .field T x f=>qXm P tm D o T x f
 | .extract x ix=>qMg P tm D o x ix
 | .makeInterface T x=>qXe P tm D T x
 | .makeFunc f a c=>match qDl tm a.toList,qDl tm c.toList with
  | some x,some y=>some (.fn f x y,[],D)
  | _,_=>none
 | .build t parts=>qXc P tm h D t parts
 | .binOp op T x y _=>zMn P X tm D o op T x y
 | .slice T x lo hi mx=>qWz P tm D T x lo hi mx
 | .call c=>zEr P X tm h D o c
 | .unOp ..=>qGg P tm D o
 | .convert ..=>qGg P tm D o
 | .typeAssert x _ t ok=>qRi P tm D o x t ok
 | .sliceToArrayPointer T x=>zPw P tm h D T x
 | _=>none
end Go.Sx
/- The reckoner of the operations that write nothing: its truth. -/
namespace Go.Sx
open Go.RowKit

section
variable {P : Program} {X : Ext P} {F : Mem → Prop} {tm : List (Nat × SV)} {n : Nat} {h : List HO} {e : Env} {a : Act} {w : World} {D D' : List Dec} {s : SV} {sd : List zD}

def qDb(P:Program)(h:List HO)(e:Env)(a:Act)(w:World)(o:Oper)(s:SV):Prop :=
 (execOp a.eval o).run P w=.ok (.value (den e s)) w∧ws h.length s
theorem qEr(T:zC n h.length tm e a){x:Operand}(hq:one (evO tm x) D=some (s,sd,D')):a.eval x=den e s∧ws h.length s:=by
 unfold one at hq
 split at hq
 ·rename_i s0 hs
  simp only[sI,pI] at hq
  obtain⟨rfl,rfl,rfl⟩:=hq
  exact qH T hs
 ·cases hq
theorem qUi(T:zC n h.length tm e a){o:Oper}{c x y:Operand}(ho:o.op=.pick c x y)(hq:zDp tm D c x y=some (s,sd,D')){M:Mem}(hsd:∀ x∈sd,x M):qDb P h e a w o s:=by
 have fin:∀(z:Bool) (u:Operand),a.eval c=.bool z→u=(if z then x else y)→a.eval u=den e s∧ws h.length s→qDb P h e a w o s:=by
  intro z u hz hu hr
  refine⟨?_,hr.2⟩
  simp only[execOp,ho,hz,asBool,Sem.run_bind,Sem.run_pure,Result.andThen_ok]
  rw[← hr.1,hu]
  cases z <;> rfl
 unfold zDp at hq
 split at hq
 ·rename_i hc
  exact fin true x (by rw[(qH T hc).1]; rfl) rfl (qEr T hq)
 ·rename_i hc
  exact fin false y (by rw[(qH T hc).1]; rfl) rfl (qEr T hq)
 ·rename_i z hc
  have hz:a.eval c=.bool z:=by rw[(qH T hc).1]; rfl
  split at hq
  ·split at hq
   ·rename_i s0 hs
    simp only[sI,pI] at hq
    obtain⟨rfl,rfl,rfl⟩:=hq
    have:z=true:=hsd _ List.mem_cons_self
    exact fin z x hz (by rw[this]; rfl) (qH T hs)
   ·cases hq
  ·split at hq
   ·rename_i s0 hs
    simp only[sI,pI] at hq
    obtain⟨rfl,rfl,rfl⟩:=hq
    have:z=false:=hsd _ List.mem_cons_self
    exact fin z y hz (by rw[this]; rfl) (qH T hs)
   ·cases hq
  ·cases hq
 ·cases hq
theorem qTo{cs:List SV}{T0:TypeId}{i:Nat}(S:xR F h e w)(hi:h[i]?=some (.cells cs T0)):
  ∀ j v,(qS e cs)[j]?=some v→w.cell? ⟨e.blk i,j,none⟩=some v:=by
 intro j v hv
 have:=S.sat i _ hi
 simp only[HO.sat] at this
 rw[cell_of_row w (e.blk i) j _ T0 _ this]
 simpa using hv
theorem qSp(T:zC n h.length tm e a)(S:xR F h e w)(W:∀(i:Nat) (ho:HO),h[i]?=some ho→ho.ws h.length){o:Oper}{t:TypeId}{x:Operand}(ho:o.op=.load t x)(hq:zDx P tm h D t x=some (s,sd,D'))(hsd:∀ x∈sd,x (mem w e h)):qDb P h e a w o s:=by
 unfold zDx at hq
 split at hq
 ·rename_i i off hx
  split at hq
  ·rename_i cs T0 hi
   obtain⟨r1,r2⟩:=qCf hq hsd (qTo S hi) (W i _ hi)
   refine⟨?_,r2⟩
   simp only[execOp,ho,(qH T hx).1,den,Instr.loadAt,Instr.sureAddr,Sem.run_bind,Sem.run_pure,Result.andThen_ok,r1]
  ·cases hq
 ·rename_i i off hx
  split at hq
  ·rename_i T0 sz nn xs hi
   split at hq
   ·rename_i s1 sd1 D1 hl
    simp only[sI,pI] at hq
    obtain⟨rfl,rfl,rfl⟩:=hq
    obtain⟨g,cap,cur,hv,hh,ht⟩:=qTe S hi (hsd _ List.mem_cons_self)
    have hc:∀ j v,(qS e xs)[j]?=some v→w.cell? ⟨g,j,none⟩=some v:=by
     intro j v hjv
     rw[cell_of_row w g j cur T0 _ hh]
     rw[← ht,List.getElem?_take] at hjv
     split at hjv
     ·simpa using hjv
     ·cases hjv
    obtain⟨r1,r2⟩:=qCf hl (fun x hx=>hsd x (List.mem_cons_of_mem _ hx)) hc (W i _ hi)
    refine⟨?_,r2⟩
    simp only[execOp,ho,(qH T hx).1,den,hv,Instr.loadAt,Instr.sureAddr,Sem.run_bind,Sem.run_pure,Result.andThen_ok,r1]
   ·cases hq
  ·cases hq
 ·rename_i oa hx
  obtain⟨r1,r2⟩:=qNg (hl:=h.length) hq hsd (jE w e h) e
  refine⟨?_,r2⟩
  simp only[execOp,ho,(qH T hx).1,den,Sem.run_bind,r1,Result.andThen_ok]
  rfl
 ·rename_i i p sz k j hx
  obtain⟨r1,r2⟩:=qEf S hq hsd
  refine⟨?_,r2⟩
  simp only[execOp,ho,(qH T hx).1,den,Sem.run_bind,r1,Result.andThen_ok]
  rfl
 ·rename_i i p hx
  split at hq
  ·rename_i b0 c0 hi
   split at hq
   ·rename_i sz n0 g hc
    obtain⟨r1,r2⟩:=qEf S hq hsd
    refine⟨?_,r2⟩
    have hs:∀ x∈wA (pvs c0 p++[0<n0]),x (mem w e h):=by
     rw[qLt hi hc hq] at hsd
     exact hsd
    obtain⟨⟨ad,e1,e2⟩,_⟩:=qAl (k:=0) (s:=.x i p) (s':=.xp i p sz 0 0) (sd:=wA (pvs c0 p++[0<n0])) S (by simp only[qIp,hi,hc]) hs
    simp only[den] at e1 e2
    rw[Addr.add_zero',← e1] at e2
    rw[e2] at r1
    simp only[execOp,ho,(qH T hx).1,den,Sem.run_bind,r1,Result.andThen_ok]
    rfl
   ·cases hq
  ·cases hq
 ·rename_i i sz k j hx
  obtain⟨r1,r2⟩:=qMo S hq hsd
  refine⟨?_,r2⟩
  simp only[execOp,ho,(qH T hx).1,den,Sem.run_bind,r1,Result.andThen_ok]
  rfl
 ·cases hq
theorem qXp(T:zC n h.length tm e a)(S:xR F h e w){w':World}{o:Oper}{x:Operand}(ho:o.op=.nilCheck x)(hq:zJe P tm h D o x=some (s,sd,D'))(hsd:∀ x∈sd,x (mem w e h)):qDb P h e a w' o s:=by
 have key:∀ s0,evO tm x=some s0→qUf h D s0=some (s,sd,D')→qDb P h e a w' o s:=by
  intro s0 hx hh
  unfold qUf at hh
  split at hh
  ·rename_i s1 sd1 hp
   simp only[sI,pI] at hh
   obtain⟨rfl,rfl,rfl⟩:=hh
   obtain⟨⟨ad,e1,_⟩,_⟩:=qAl S hp hsd
   refine⟨?_,(qH T hx).2⟩
   simp only[execOp,ho,(qH T hx).1,e1]
   rfl
  ·cases hh
 unfold zJe at hq
 split at hq
 ·rename_i i off hx
  simp only[sI,pI] at hq
  obtain⟨rfl,rfl,rfl⟩:=hq
  refine⟨?_,(qH T hx).2⟩
  simp only[execOp,ho,(qH T hx).1,den]
  rfl
 ·rename_i f x1 c1 hx
  simp only[sI,pI] at hq
  obtain⟨rfl,rfl,rfl⟩:=hq
  refine⟨?_,(qH T hx).2⟩
  simp only[execOp,ho,(qH T hx).1,den]
  rfl
 ·rename_i t y hx
  simp only[sI,pI] at hq
  obtain⟨rfl,rfl,rfl⟩:=hq
  refine⟨?_,(qH T hx).2⟩
  simp only[execOp,ho,(qH T hx).1,den]
  rfl
 ·rename_i oa hx
  simp only[sI,pI] at hq
  obtain⟨rfl,rfl,rfl⟩:=hq
  refine⟨?_,(qH T hx).2⟩
  have:=hsd _ List.mem_cons_self
  cases oa with
  | none=>simp at this
  | some ad =>
   simp only[execOp,ho,(qH T hx).1,den]
   rfl
 ·rename_i i p hx
  exact key _ hx hq
 ·rename_i i p sz k j hx
  exact key _ hx hq
 ·rename_i i sz k j hx
  exact key _ hx hq
 ·exact zQ T hq
theorem qHy(T:zC n h.length tm e a)(S:xR F h e w){w':World}{o:Oper}{S0:TypeId}{x:Operand}{f:Nat}(ho:o.op=.fieldAddr S0 x f)(hq:qGc P tm h D S0 x f=some (s,sd,D'))(hsd:∀ x∈sd,x (mem w e h)):qDb P h e a w' o s:=by
 unfold qGc at hq
 split at hq
 ·rename_i fs hu
  split at hq
  ·rename_i fd hf
   split at hq
   ·rename_i k s0 hk hx
    split at hq
    ·rename_i s' sd' hp
     simp only[sI,pI] at hq
     obtain⟨rfl,rfl,rfl⟩:=hq
     obtain⟨⟨ad,e1,e2⟩,hw⟩:=qAl S hp hsd
     refine⟨?_,hw _ (qH T hx).2⟩
     simp only[execOp,ho,(qH T hx).1,e1,e2,Sem.run_bind,qVh hu hf hk (Nat.succ_ne_zero k),Result.andThen_ok]
     rfl
    ·cases hq
   ·cases hq
  ·cases hq
 ·cases hq
theorem qIc(T:zC n h.length tm e a)(S:xR F h e w){w':World}{o:Oper}{T0:TypeId}{x ix:Operand}(ho:o.op=.indexAddr T0 x ix)(hq:qFx P tm h D T0 x ix=some (s,sd,D'))(hsd:∀ x∈sd,x (mem w e h)):qDb P h e a w' o s:=by
 unfold qFx at hq
 split at hq
 ·cases hq
 ·rename_i k i hi
  have ei:=yG T hi
  split at hq
  ·rename_i len el hu
   split at hq
   ·rename_i sz s0 hsz hx
    split at hq
    ·rename_i s' sd' hp
     simp only[sI,pI] at hq
     obtain⟨rfl,rfl,rfl⟩:=hq
     obtain⟨⟨ad,e1,e2⟩,hw⟩:=qAl S hp (fun x hx=>hsd x (List.mem_cons_of_mem _ hx))
     have h0:=hsd _ List.mem_cons_self
     refine⟨?_,hw _ (qH T hx).2⟩
     simp only[execOp,ho,(qH T hx).1,ei,e1,e2,Sem.run_bind,qHo hu hsz h0,Result.andThen_ok]
     rfl
    ·cases hq
   ·cases hq
  ·rename_i el hu
   split at hq
   ·rename_i sz j hsz hx
    split at hq
    ·rename_i T1 sz1 nn xs hr
     simp only[sI,pI] at hq
     obtain⟨rfl,rfl,rfl⟩:=hq
     have h0:0≤i∧i<(nn:Int):=hsd _ List.mem_cons_self
     obtain⟨⟨_,hr2⟩,_⟩:=S.sat j _ hr
     refine⟨?_,(qH T hx).2⟩
     rcases hr2 with ⟨_,hn⟩ | ⟨g,cap,cur,hv,_⟩
     ·omega
     ·simp only[execOp,ho,(qH T hx).1,ei,den,hv,Sem.run_bind,jQ hu hsz h0,Result.andThen_ok,Addr.add_lit,Nat.zero_add]
      rfl
    ·rename_i T1 sz1 nn c hr
     simp only[sI,pI] at hq
     obtain⟨rfl,rfl,rfl⟩:=hq
     have h0:0≤i∧i<(nn:Int):=hsd _ List.mem_cons_self
     obtain⟨g,cap,cur,hv,_⟩:=qIo S hr (by omega)
     refine⟨?_,(qH T hx).2⟩
     simp only[execOp,ho,(qH T hx).1,ei,den,hv,qFt,Sem.run_bind,jQ hu hsz h0,Result.andThen_ok,Addr.add_lit,Nat.zero_add,Nat.add_zero]
     rfl
    ·cases hq
   ·rename_i sz j p hsz hx
    split at hq
    ·rename_i b0 c0 hi2
     split at hq
     ·rename_i sz1 nn g hc
      simp only[sI,pI] at hq
      obtain⟨rfl,rfl,rfl⟩:=hq
      have hs:=zX hsd
      have h0:0≤i∧i<(nn:Int):=hs _ (List.mem_append_right _ List.mem_cons_self)
      obtain⟨oa,hr,h2⟩:=qEo S hi2 hc (fun x hx=>hs x (List.mem_append_left _ hx))
      rcases h2 with rfl | ⟨ad,rfl,_⟩
      ·omega
      ·refine⟨?_,(qH T hx).2⟩
       have hr':=hr
       obtain⟨cap,hv,_⟩:=hr'
       simp only[execOp,ho,(qH T hx).1,ei,den,hv,Sem.run_bind,jQ hu hsz h0,Result.andThen_ok,Nat.add_zero]
       rfl
     ·cases hq
    ·cases hq
   ·rename_i sz j off len cap hsz hx
    simp only[sI,pI] at hq
    obtain⟨rfl,rfl,rfl⟩:=hq
    have h0:0≤i∧i<(len:Int):=hsd _ List.mem_cons_self
    refine⟨?_,(qH T hx).2⟩
    simp only[execOp,ho,(qH T hx).1,ei,den,Sem.run_bind,jQ hu hsz h0,Result.andThen_ok,Addr.add_lit]
    rfl
   ·rename_i sz oa len cap hsz hx
    simp only[sI,pI] at hq
    obtain⟨rfl,rfl,rfl⟩:=hq
    have h0:0≤i∧i<(len:Int):=hsd _ List.mem_cons_self
    have h1:oa.isSome=true:=hsd _ (List.mem_cons_of_mem _ List.mem_cons_self)
    refine⟨?_,trivial⟩
    cases oa with
    | none=>cases h1
    | some ad =>
     simp only[execOp,ho,(qH T hx).1,ei,den,Sem.run_bind,jQ hu hsz h0,Result.andThen_ok]
     rfl
   ·cases hq
  ·cases hq
theorem qIx{t:TypeId}{cs:List SV}{off:Nat}(hq:qYk P t cs off=some s)(hw:wsL h.length cs):
  (part t (qS e cs).toArray off).run P w=.ok (den e s) w∧ws h.length s:=by
 unfold qYk at hq
 split at hq
 ·rename_i k ha hk
  cases hb:Nat.beq ((cs.drop off).take k).length k with
  | false=>rw[hb] at hq; cases hq
  | true =>
   rw[hb] at hq
   simp only[cond_true,sI] at hq
   subst hq
   refine⟨?_,qSf (qTg hw)⟩
   simp only[part,Sem.run_bind,qCl ha,Result.andThen_ok,zH hk,Sem.run_ite,if_true,Sem.run_pure]
   simp only[den,qPa,qIr]
   congr 2
   simp
 ·rename_i ha
  refine⟨?_,(xD _ _).1 hw s (List.mem_of_getElem? hq)⟩
  have:(qS e cs).toArray[off]?=some (den e s):=by simp [yQ,hq]
  simp only[part,Sem.run_bind,qCl ha,Result.andThen_ok,Bool.false_eq_true,if_false,this]
  rfl
 ·cases hq
theorem qRp(T:zC n h.length tm e a){o:Oper}{T0:TypeId}{x ix:Operand}(ho:o.op=.index T0 x ix)(hq:qXv P tm D o T0 x ix=some (s,sd,D')){M:Mem}(hsd:∀ x∈sd,x M):qDb P h e a w o s:=by
 unfold qXv at hq
 split at hq
 ·cases hq
 ·rename_i k i hi
  have ei:=yG T hi
  split at hq
  ·rename_i len el s0 hu hx
   split at hq
   ·rename_i sz cs hsz
    split at hq
    ·rename_i r hp
     simp only[sI,pI] at hq
     obtain⟨rfl,rfl,rfl⟩:=hq
     have h0:0≤i∧i<(len:Int):=hsd _ List.mem_cons_self
     obtain⟨q1,q2⟩:=qIx (P:=P) (e:=e) (w:=w) hp (qH T hx).2
     refine⟨?_,q2⟩
     simp only[execOp,ho,(qH T hx).1,ei,den,Instr.index,asIntOf,Sem.run_bind,Sem.run_pure,Result.andThen_ok,run_underlying hu,Sem.run_ite,h0,and_self,if_true,zH hsz,q1]
    ·cases hq
   ·exact zQ T hq
  ·rename_i s0 hu hx
   simp only[sI,pI] at hq
   obtain⟨rfl,rfl,rfl⟩:=hq
   have h0:0≤i∧i<(s0.size:Int):=hsd _ List.mem_cons_self
   refine⟨?_,trivial⟩
   have hlt:i.toNat<s0.size:=by omega
   simp only[execOp,ho,(qH T hx).1,ei,den,Instr.index,asIntOf,Sem.run_bind,Sem.run_pure,Result.andThen_ok,run_underlying hu,h0.1,if_true]
   have e1:s0[i.toNat]?=some s0[i.toNat]:=getElem?_pos s0 i.toNat hlt
   simp only[e1,Sem.run_pure,Result.andThen_ok]
   congr 3
   unfold zIl
   have:s0.data.toList[i.toNat]?=some s0[i.toNat]:=by
    rw[List.getElem?_eq_getElem (by simpa using hlt)]
    rfl
   rw[this]
   rfl
  ·cases hq
theorem qPx(T:zC n h.length tm e a){o:Oper}{T0:TypeId}{x:Operand}{f:Nat}(ho:o.op=.field T0 x f)(hq:qXm P tm D o T0 x f=some (s,sd,D')):qDb P h e a w o s:=by
 unfold qXm at hq
 split at hq
 ·rename_i fs cs hu hx
  split at hq
  ·rename_i fd hf
   unfold one at hq
   split at hq
   ·rename_i s0 hp
    simp only[sI,pI] at hq
    obtain⟨rfl,rfl,rfl⟩:=hq
    obtain⟨q1,q2⟩:=qIx (P:=P) (e:=e) (w:=w) hp (qH T hx).2
    refine⟨?_,q2⟩
    simp only[execOp,ho,(qH T hx).1,den,Instr.field,Sem.run_bind,run_underlying hu,Result.andThen_ok,hf,asAgg,Sem.run_pure,q1]
   ·cases hq
  ·cases hq
 ·exact zQ T hq
theorem qKn(T:zC n h.length tm e a){o:Oper}{x:Operand}{ix:Nat}(ho:o.op=.extract x ix)(hq:qMg P tm D o x ix=some (s,sd,D')):qDb P h e a w o s:=by
 unfold qMg at hq
 split at hq
 ·rename_i cs hx
  unfold one at hq
  split at hq
  ·rename_i s0 hp
   simp only[sI,pI] at hq
   obtain⟨rfl,rfl,rfl⟩:=hq
   have:(qS e cs).toArray[ix]?=some (den e s0):=by simp [yQ,hp]
   refine⟨?_,(xD _ _).1 (qH T hx).2 s0 (List.mem_of_getElem? hp)⟩
   simp only[execOp,ho,(qH T hx).1,den,Instr.extract,this,Sem.run_bind,Sem.run_pure,Result.andThen_ok]
  ·cases hq
 ·exact zQ T hq
theorem qQa(T:zC n h.length tm e a){o:Oper}{T0:TypeId}{x:Operand}(ho:o.op=.makeInterface T0 x)(hq:qXe P tm D T0 x=some (s,sd,D')):qDb P h e a w o s:=by
 unfold qXe at hq
 split at hq
 ·cases hq
 ·rename_i d s0 hne hu hx
  simp only[sI,pI] at hq
  obtain⟨rfl,rfl,rfl⟩:=hq
  refine⟨?_,(qH T hx).2⟩
  simp only[execOp,ho,(qH T hx).1,den,Instr.makeInterface,Sem.run_bind,run_underlying hu,Result.andThen_ok]
  cases d with
  | interface ms=>exact(hne ms rfl).elim
  | _=>rfl
 ·cases hq
end
end Go.Sx
/- The reckoner of the operations that write nothing: its truth, the rest. -/
namespace Go.Sx
open Go.RowKit

section
variable {P : Program} {X : Ext P} {F : Mem → Prop} {tm : List (Nat × SV)} {n : Nat} {h : List HO} {e : Env} {a : Act} {w : World} {D D' : List Dec} {s : SV} {sd : List zD}

theorem qQd(T:zC n h.length tm e a)(S:xR F h e w){w':World}{o:Oper}{t:TypeId}{parts:Array (Nat×Operand)}(ho:o.op=.build t parts)(hq:qXc P tm h D t parts=some (s,sd,D')):qDb P h e a w' o s:=by
 unfold qXc at hq
 split at hq
 ·rename_i z ps hz hps
  have hz':=fun w=>jW hz w
  obtain⟨p1,p2⟩:=qCa T parts.toList hps
  have hparts:(parts.map fun(x:Nat×Operand)=>(x.1,a.eval x.2)).toList=ps.map fun x=>(x.1,den e x.2):=by
   rw[Array.toList_map]; exact p1
  have hzc:z.cells=(qS e (z.cells.toList.map SV.v)).toArray:=by rw[qAm]
  split at hq
  ·rename_i fs hu
   split at hq
   ·rename_i places hpl
    split at hq
    ·rename_i r hr
     simp only[sI,pI] at hq
     obtain⟨rfl,rfl,rfl⟩:=hq
     obtain⟨f1,f2⟩:=qBf S h.length _ ps _ hr (qDu _ _) p2
     refine⟨?_,f2⟩
     simp only[execOp,ho,Instr.build,Sem.run_bind,hz' w',Result.andThen_ok,run_underlying hu,jW hpl w']
     rw[hparts,hzc]
     simp only[f1,Sem.run_pure,den,Result.andThen_ok]
    ·cases hq
   ·cases hq
  ·rename_i len el hu
   split at hq
   ·rename_i sz hsz
    split at hq
    ·rename_i r hr
     simp only[sI,pI] at hq
     obtain⟨rfl,rfl,rfl⟩:=hq
     obtain⟨f1,f2⟩:=qBf S h.length _ ps _ hr (qDu _ _) p2
     refine⟨?_,f2⟩
     simp only[execOp,ho,Instr.build,Sem.run_bind,hz' w',Result.andThen_ok,run_underlying hu,zH hsz w']
     rw[hparts,hzc]
     simp only[f1,Sem.run_pure,den,Result.andThen_ok]
    ·cases hq
   ·cases hq
  ·cases hq
 ·cases hq
theorem qDo{op:BinOp}{k k':IntKind}{x y:Int}(hk:(op=.quo∨op=.rem)→k=k')(hq:zAw op k x y D=some (s,sd,D')){M:Mem}(hsd:∀ x∈sd,x M):
  (∀(T:TypeId) (u v:Operand),(do eqGuard op T u v (.int k x) (.int k' y); binOp op T (.int k x) (.int k' y):Sem Value).run P w=.ok (den e s) w)∧ws h.length s:=by
 unfold zAw at hq
 split at hq
 ·simp only[sI,pI] at hq
  obtain⟨rfl,rfl,rfl⟩:=hq
  have h0:¬ y<0:=hsd _ List.mem_cons_self
  refine⟨fun T u v=>?_,trivial⟩
  simp [eqGuard,binOp,Op.shift,den,h0]
 ·simp only[sI,pI] at hq
  obtain⟨rfl,rfl,rfl⟩:=hq
  have h0:¬ y<0:=hsd _ List.mem_cons_self
  refine⟨fun T u v=>?_,trivial⟩
  simp [eqGuard,binOp,Op.shift,den,h0]
 ·simp only[sI,pI] at hq
  obtain⟨rfl,rfl,rfl⟩:=hq
  have h0:¬ y=0:=hsd _ List.mem_cons_self
  have hkk:=hk (.inl rfl)
  subst hkk
  refine⟨fun T u v=>?_,trivial⟩
  simp [eqGuard,binOp,Op.intDiv,den,h0]
 ·simp only[sI,pI] at hq
  obtain⟨rfl,rfl,rfl⟩:=hq
  have h0:¬ y=0:=hsd _ List.mem_cons_self
  have hkk:=hk (.inr rfl)
  subst hkk
  refine⟨fun T u v=>?_,trivial⟩
  simp [eqGuard,binOp,Op.intDiv,den,h0]
 ·cases hq
theorem qVn(T:zC n h.length tm e a){o:Oper}{op:BinOp}{t yt:TypeId}{x y:Operand}(ho:o.op=.binOp op t x y yt)(hq:zMn P X tm D o op t x y=some (s,sd,D')){M:Mem}(hsd:∀ x∈sd,x M):qDb P h e a w o s:=by
 unfold zMn at hq
 have fin:∀(u v:Value),a.eval x=u→a.eval y=v→(do eqGuard op t x y u v; binOp op t u v:Sem Value).run P w=.ok (den e s) w→(execOp a.eval o).run P w=.ok (.value (den e s)) w:=by
  intro u v hu hv hr
  simp only[execOp,ho,hu,hv]
  rw[Sem.run_bind,hr]
  rfl
 split at hq
 ·rename_i k m k' m' hx hy
  have ex:=zL T hx
  have ey:=zL T hy
  split at hq
  ·obtain⟨r1,r2⟩:=qDo (P:=P) (h:=h) (e:=e) (w:=w) (k':=k') (fun hh=>by rcases hh with hh | hh <;> cases hh) hq hsd
   exact⟨fin _ _ ex ey (r1 t x y),r2⟩
  ·obtain⟨r1,r2⟩:=qDo (P:=P) (h:=h) (e:=e) (w:=w) (k':=k') (fun hh=>by rcases hh with hh | hh <;> cases hh) hq hsd
   exact⟨fin _ _ ex ey (r1 t x y),r2⟩
  ·by_cases hk:k=k'
   ·subst hk
    simp only[decide_true,cond_true] at hq
    obtain⟨r1,r2⟩:=qDo (P:=P) (h:=h) (e:=e) (w:=w) (k':=k) (fun _=>rfl) hq hsd
    exact⟨fin _ _ ex ey (r1 t x y),r2⟩
   ·simp only[hk,decide_false,cond_false] at hq
    cases hq
  ·by_cases hk:k=k'
   ·subst hk
    simp only[decide_true,cond_true] at hq
    obtain⟨r1,r2⟩:=qDo (P:=P) (h:=h) (e:=e) (w:=w) (k':=k) (fun _=>rfl) hq hsd
    exact⟨fin _ _ ex ey (r1 t x y),r2⟩
   ·simp only[hk,decide_false,cond_false] at hq
    cases hq
  ·exact zQ T hq
 ·rename_i A B hx hy
  have ex:=zL T hx
  have ey:=zL T hy
  split at hq
  ·rename_i ks hks
   split at hq
   ·rename_i xs ys hxs hys
    obtain⟨x1,x2⟩:=qAi ks _ hxs
    obtain⟨y1,y2⟩:=qAi ks _ hys
    have hA:A=(qX ks xs).toArray:=by rw[← x1]
    have hB:B=(qX ks ys).toArray:=by rw[← y1]
    obtain⟨q1,q2⟩:=X.eqOk t ks xs ys x y w hks x2 y2
    split at hq
    ·simp only[sI,pI] at hq
     obtain⟨rfl,rfl,rfl⟩:=hq
     refine⟨fin _ _ ex ey ?_,trivial⟩
     rw[hA,hB]
     exact q1
    ·simp only[sI,pI] at hq
     obtain⟨rfl,rfl,rfl⟩:=hq
     refine⟨fin _ _ ex ey ?_,trivial⟩
     rw[hA,hB]
     exact q2
    ·cases hq
   ·cases hq
  ·cases hq
 ·rename_i u v hx hy
  have ex:=zL T hx
  have ey:=zL T hy
  split at hq
  ·simp only[sI,pI] at hq
   obtain⟨rfl,rfl,rfl⟩:=hq
   have hle:u.size+v.size≤9223372036854775807:=hsd _ List.mem_cons_self
   refine⟨fin _ _ ex ey ?_,trivial⟩
   have hmax:¬ ((u.size+v.size:Nat):Int)>IntKind.i64.max:=by
    have:IntKind.i64.max=9223372036854775807:=by decide
    rw[this]
    omega
   simp only[Sem.run_bind,eqGuard,binOp,Op.stringOp]
   rw[if_neg hmax]
   rfl
  ·exact zQ T hq
 ·exact zQ T hq
theorem qRu(T:zC n h.length tm e a){o:Oper}{t:TypeId}{x:Operand}{lo hi mx:Option Operand}(ho:o.op=.slice t x lo hi mx)(hq:qWz P tm D t x lo hi mx=some (s,sd,D')){M:Mem}(hsd:∀ x∈sd,x M):qDb P h e a w o s:=by
 unfold qWz at hq
 split at hq
 ·rename_i nn el hu
  split at hq
  ·rename_i sz i off hsz hx
   split at hq
   ·rename_i l hh m sd1 hb
    simp only[sI,pI] at hq
    obtain⟨rfl,rfl,rfl⟩:=hq
    refine⟨?_,(qH T hx).2⟩
    have:=qBp (P:=P) (w:=w) T hb hsd false
    simp only[execOp,ho,(qH T hx).1,den,Instr.sliceAt,Sem.run_bind,run_underlying hu,Result.andThen_ok,Instr.sureAddr,Sem.run_pure,this,zH hsz]
    congr 4
    split <;> simp [Addr.add_lit]
   ·cases hq
  ·cases hq
 ·rename_i hu
  split at hq
  ·rename_i _ s0 hx
   split at hq
   ·rename_i l hh m sd1 hb
    simp only[sI,pI] at hq
    obtain⟨rfl,rfl,rfl⟩:=hq
    refine⟨?_,trivial⟩
    have:=qBp (P:=P) (w:=w) T hb hsd false
    simp only[Option.map_none] at this
    simp only[execOp,ho,(qH T hx).1,den,Instr.sliceAt,Instr.slice,Sem.run_bind,run_underlying hu,Result.andThen_ok,Option.map_none,Option.isSome_none,Bool.false_eq_true,if_false,Sem.run_pure,this]
   ·cases hq
  ·cases hq
 ·rename_i el hu
  split at hq
  ·rename_i sz oa len cap hsz hx
   split at hq
   ·rename_i l hh m sd1 hb
    simp only[sI,pI] at hq
    obtain⟨rfl,rfl,rfl⟩:=hq
    refine⟨?_,trivial⟩
    have:=qBp (P:=P) (w:=w) T hb hsd true
    simp only[execOp,ho,(qH T hx).1,den,Instr.sliceAt,Instr.slice,Sem.run_bind,run_underlying hu,Result.andThen_ok,Sem.run_pure,this,zH hsz]
   ·cases hq
  ·rename_i sz i off len cap hsz hx
   split at hq
   ·rename_i l hh m sd1 hb
    simp only[sI,pI] at hq
    obtain⟨rfl,rfl,rfl⟩:=hq
    refine⟨?_,(qH T hx).2⟩
    have:=qBp (P:=P) (w:=w) T hb hsd true
    simp only[execOp,ho,(qH T hx).1,den,Instr.sliceAt,Instr.slice,Sem.run_bind,run_underlying hu,Result.andThen_ok,Sem.run_pure,this,zH hsz]
    congr 4
    split <;> simp [Addr.add_lit]
   ·cases hq
  ·cases hq
 ·cases hq
theorem qVl(T:zC n h.length tm e a)(S:xR F h e w){w':World}{o:Oper}{c:Call}(ho:o.op=.call c)(hq:zEr P X tm h D o c=some (s,sd,D'))(hsd:∀ x∈sd,x (mem w e h)):qDb P h e a w' o s:=by
 unfold zEr at hq
 split at hq
 ·rename_i hc
  split at hq
  ·rename_i x T0 hargs htys
   have ha:c.args=#[x]:=by rw[← hargs]
   have ht:c.argTypes=#[T0]:=by rw[← htys]
   split at hq
   ·rename_i el hu
    split at hq
    ·rename_i i hx
     split at hq
     ·rename_i T1 sz nn xs hr
      simp only[sI,pI] at hq
      obtain⟨rfl,rfl,rfl⟩:=hq
      refine⟨?_,trivial⟩
      obtain⟨⟨_,hr2⟩,_⟩:=S.sat i _ hr
      have hv:∃ oa cap,e.row i=.slice oa nn cap:=by
       rcases hr2 with ⟨hv,hn⟩ | ⟨g,cap,cur,hv,_⟩
       ·subst hn; exact⟨_,_,hv⟩
       ·exact⟨_,_,hv⟩
      obtain⟨oa,cap,hv⟩:=hv
      simp [execOp,ho,resolve,hc,ha,ht,invoke,builtin,Builtin.len_,(qH T hx).1,den,hv,run_underlying hu,goInt]
     ·rename_i T1 sz nn xs hr
      simp only[sI,pI] at hq
      obtain⟨rfl,rfl,rfl⟩:=hq
      refine⟨?_,trivial⟩
      obtain⟨zB,⟨_,hr2⟩,_⟩:=S.sat i _ hr
      have hv:∃ oa cap,e.row i=.slice oa nn cap:=by
       rcases hr2 with ⟨hv,hn⟩ | ⟨g,cap,cur,hv,_⟩
       ·subst hn; exact⟨_,_,hv⟩
       ·exact⟨_,_,hv⟩
      obtain⟨oa,cap,hv⟩:=hv
      simp [execOp,ho,resolve,hc,ha,ht,invoke,builtin,Builtin.len_,(qH T hx).1,den,hv,run_underlying hu,goInt]
     ·cases hq
    ·rename_i j p hx
     split at hq
     ·rename_i b0 c0 hi
      split at hq
      ·rename_i sz nn g hcc
       simp only[sI,pI] at hq
       obtain⟨rfl,rfl,rfl⟩:=hq
       refine⟨?_,trivial⟩
       obtain⟨oa,hr,_⟩:=qEo S hi hcc (zX hsd)
       obtain⟨cap,hv,_⟩:=hr
       simp [execOp,ho,resolve,hc,ha,ht,invoke,builtin,Builtin.len_,(qH T hx).1,den,hv,run_underlying hu,goInt]
      ·cases hq
     ·cases hq
    ·rename_i i off len cap hx
     simp only[sI,pI] at hq
     obtain⟨rfl,rfl,rfl⟩:=hq
     refine⟨?_,trivial⟩
     simp [execOp,ho,resolve,hc,ha,ht,invoke,builtin,Builtin.len_,(qH T hx).1,den,run_underlying hu,goInt]
    ·exact zQ T hq
   ·exact zQ T hq
  ·cases hq
 ·rename_i f hc
  split at hq
  ·rename_i ss hss
   split at hq
   ·rename_i vs hvs
    split at hq
    ·rename_i v p hext
     simp only[sI,pI] at hq
     obtain⟨rfl,rfl,rfl⟩:=hq
     refine⟨?_,trivial⟩
     have hp:p:=hsd _ List.mem_cons_self
     obtain⟨e1,_⟩:=jV T _ hss
     have e2:c.args.map a.eval=vs.toArray:=by
      apply Array.ext'
      rw[Array.toList_map,e1,yH e ss hvs]
     have:=X.extOk f vs v p w' hext hp
     simp [execOp,ho,resolve,hc,e2,invoke,Deferred.ofValue,Act.eval,this,den]
    ·cases hq
   ·cases hq
  ·cases hq
 ·exact zQ T hq
 ·cases hq
theorem qXf(T:zC n h.length tm e a)(S:xR F h e w){w':World}{o:Oper}{t:TypeId}{x:Operand}(ho:o.op=.sliceToArrayPointer t x)(hq:zPw P tm h D t x=some (s,sd,D')){M:Mem}(hsd:∀ x∈sd,x M):qDb P h e a w' o s:=by
 unfold zPw at hq
 split at hq
 ·rename_i nn el hu
  split at hq
  ·rename_i i off len cap hx
   simp only[sI,pI] at hq
   obtain⟨rfl,rfl,rfl⟩:=hq
   have hle:nn≤len:=hsd _ List.mem_cons_self
   refine⟨?_,(qH T hx).2⟩
   simp only[execOp,ho,(qH T hx).1,den,Instr.arrayAt,Sem.run_bind,run_underlying hu,Result.andThen_ok]
   rw[if_neg (by omega)]
   rfl
  ·rename_i oa len cap hx
   simp only[sI,pI] at hq
   obtain⟨rfl,rfl,rfl⟩:=hq
   have hle:nn≤len:=hsd _ List.mem_cons_self
   refine⟨?_,trivial⟩
   simp only[execOp,ho,(qH T hx).1,den,Instr.arrayAt,Sem.run_bind,run_underlying hu,Result.andThen_ok]
   rw[if_neg (by omega)]
   rfl
  ·rename_i i hx
   split at hq
   ·rename_i T1 sz m xs hr
    simp only[sI,pI] at hq
    obtain⟨rfl,rfl,rfl⟩:=hq
    obtain⟨hle,hpos⟩:nn≤m∧0<m:=hsd _ List.mem_cons_self
    refine⟨?_,(qH T hx).2⟩
    obtain⟨⟨_,hr2⟩,_⟩:=S.sat i _ hr
    rcases hr2 with ⟨hv,hn⟩ | ⟨g,cap,cur,hv,_⟩
    ·omega
    ·simp only[execOp,ho,(qH T hx).1,den,hv,Instr.arrayAt,Sem.run_bind,run_underlying hu,Result.andThen_ok]
     rw[if_neg (by omega)]
     rfl
   ·cases hq
  ·cases hq
 ·cases hq
theorem qNp(T:zC n h.length tm e a){w':World}{o:Oper}{x:Operand}{xT t:TypeId}{ok:Bool}(ho:o.op=.typeAssert x xT t ok)(hq:qRi P tm D o x t ok=some (s,sd,D')):qDb P h e a w' o s:=by
 unfold qRi at hq
 split at hq
 ·rename_i t1 v want hx hu
  split at hq
  ·rename_i hl
   simp only[sI,pI] at hq
   obtain⟨rfl,rfl,rfl⟩:=hq
   refine⟨?_,trivial⟩
   have:=run_typeAssert_hasB (P:=P) hu hl v xT w'
   simp [execOp,ho,zL T hx,this,den]
  ·rename_i hl
   split at hq
   ·rename_i z hz
    simp only[sI,pI] at hq
    obtain⟨rfl,rfl,rfl⟩:=hq
    refine⟨?_,trivial⟩
    have:=run_typeAssert_lacksB (P:=P) hu hl hz v xT w'
    simp [execOp,ho,zL T hx,this,den]
   ·cases hq
  ·cases hq
 ·exact zQ T hq
theorem qTq(T:zC n h.length tm e a)(S:xR F h e w)(W:∀(i:Nat) (ho:HO),h[i]?=some ho→ho.ws h.length){o:Oper}(hq:xq P X tm h D o=some (s,sd,D'))(hsd:xA F sd)(w':World)(hS:(match o.op with | .load ..=>true | _=>false)=true→xR F h e w'):qDb P h e a w' o s:=by
 have hs:∀ x∈sd,x (mem w e h):=fun x hx=>hsd x hx _ S.fact
 unfold xq at hq
 split at hq
 ·rename_i x ho
  obtain⟨q1,q2⟩:=qEr T hq
  refine⟨?_,q2⟩
  simp only[execOp,ho,q1]
  rfl
 ·rename_i x ho
  obtain⟨q1,q2⟩:=qEr T hq
  refine⟨?_,q2⟩
  simp only[execOp,ho,q1]
  rfl
 ·rename_i ho; exact qUi T ho hq hs
 ·rename_i ho
  have S':=hS (by rw[ho])
  exact qSp T S' W ho hq (fun x hx=>hsd x hx _ S'.fact)
 ·rename_i ho; exact qXp T S ho hq hs
 ·rename_i ho; exact qHy T S ho hq hs
 ·rename_i ho; exact qIc T S ho hq hs
 ·rename_i ho; exact qRp T ho hq hs
 ·rename_i ho; exact qPx T ho hq
 ·rename_i ho; exact qKn T ho hq
 ·rename_i ho; exact qQa T ho hq
 ·rename_i f x1 c1 ho
  split at hq
  ·rename_i x y hx hy
   simp only[sI,pI] at hq
   obtain⟨rfl,rfl,rfl⟩:=hq
   obtain⟨q1,q2⟩:=jV T _ hx
   obtain⟨p1,p2⟩:=jV T _ hy
   refine⟨?_,q2,p2⟩
   have e1:x1.map a.eval=(qS e x).toArray:=by apply Array.ext'; rw[Array.toList_map,q1]
   have e2:c1.map a.eval=(qS e y).toArray:=by apply Array.ext'; rw[Array.toList_map,p1]
   simp only[execOp,ho,e1,e2,den,Instr.makeFunc]
   rfl
  ·cases hq
 ·rename_i ho; exact qQd T S ho hq
 ·rename_i ho; exact qVn T ho hq hs
 ·rename_i ho; exact qRu T ho hq hs
 ·rename_i ho; exact qVl T S ho hq hs
 ·exact zQ T hq
 ·exact zQ T hq
 ·rename_i ho; exact qNp T ho hq
 ·rename_i ho; exact qXf T S ho hq hs
 ·cases hq
def asD:List Dec→Oper→Option (SV×List Dec)
 | .as t s::D',o=>match o.dst with
  | some d=>bif Nat.beq d t then some (s,D') else none
  | none=>none
 | _,_=>none
def xqa(P:Program)(X:Ext P)(tm:List (Nat×SV))(h:List HO)(D:List Dec)(o:Oper):QR :=
 match asD D o with
 | some (s,D')=>match xq P X tm h D' o with
  | some (x,sd,D2)=>match jS x,jS s with
   | some a,some b=>some (s,sd++[fun(_:Mem)=>a=b],D2)
   | _,_=>none
  | none=>none
 | none=>xq P X tm h D o
theorem qPd(T:zC n h.length tm e a)(S:xR F h e w)(W:∀(i:Nat) (ho:HO),h[i]?=some ho→ho.ws h.length){o:Oper}(hq:xqa P X tm h D o=some (s,sd,D'))(hsd:xA F sd)(w':World)(hS:(match o.op with | .load ..=>true | _=>false)=true→xR F h e w'):qDb P h e a w' o s:=by
 unfold xqa at hq
 split at hq
 ·split at hq
  ·rename_i x sd1 D2 hx
   split at hq
   ·rename_i u v hu hv
    simp only[sI,pI] at hq
    obtain⟨rfl,rfl,rfl⟩:=hq
    have hg:=qTq T S W hx (fun y hy=>hsd y (List.mem_append_left _ hy)) w' hS
    have heq:u=v:=hsd _ (List.mem_append_right _ List.mem_cons_self) _ S.fact
    refine⟨?_,qHr _ _ hv⟩
    rw[hg.1,jH e x hu,jH e _ hv,heq]
   ·cases hq
  ·cases hq
 ·exact qTq T S W hq hsd w' hS
end
end Go.Sx
/- append onto a row of the function's own, of whatever is appended. -/
namespace Go.Sx
open Go.RowKit

section
variable {P : Program} (w : World)
theorem qFl(t tx ty e:TypeId)(i:TypeInfo)(ht:P.underlying t=some (.slice e))(hi:P.info? e=some i)(g sLen sCap:Nat)(cur:Array Value)(hg:w.heap[g]?=some (.cells cur e (0,0)))(x:Value)(m:Nat)(news:List Value)(hs:Src P i.size tx x m news w)(hroom:sLen+m≤sCap)(hfit:sLen*i.size+news.length≤cur.size):
  (Builtin.append_ #[t,tx] ty #[.slice (some ⟨g,0,none⟩) sLen sCap,x]).run P w =
   .ok (.slice (some ⟨g,0,none⟩) (sLen+m) sCap) (w.setRow g (cur.toList.take (sLen*i.size)++news++cur.toList.drop (sLen*i.size+news.length)).toArray):=by
 have hst:=run_storeCells_at P g (sLen*i.size) e news 0 cur w hg (by simpa using hfit) hs.one
 simp only[Nat.add_zero] at hst
 rcases hs.kind with ⟨e',hk⟩ | hk <;> simp [Builtin.append_,run_underlying ht,run_underlying hk,sizeOf,typeInfo,hi,hs.len,hroom,hs.cells,Addr.add_lit,hst]
theorem qJk(need old:Nat)(h:old<need):Builtin.nextslicecap need old≤2*need:=by
 unfold Builtin.nextslicecap
 split
 ·omega
 ·split
  ·omega
  ·have key:∀(r c:Nat),c<2*need→256≤c→Builtin.growBy need r c≤2*need:=by
    intro r
    induction r with
    | zero=>intro c hc _; unfold Builtin.growBy; omega
    | succ r ih =>
     intro c hc h2
     unfold Builtin.growBy
     split
     ·omega
     ·by_cases hh:c+(c+768) / 4<2*need
      ·exact ih _ hh (by omega)
      ·have:Builtin.growBy need r (c+(c+768) / 4)=c+(c+768) / 4:=by
        cases r with
        | zero=>rfl
        | succ r=>unfold Builtin.growBy; rw[if_pos (by omega)]
       rw[this]
       omega
   exact key 4 old (by omega) (by omega)
theorem qKt(t tx ty e:TypeId)(i:TypeInfo)(z:Value)(ht:P.underlying t=some (.slice e))(hi:P.info? e=some i)(hz:i.zero=some z)(hzs:z.cells.size=i.size)(v:Value)(n:Nat)(xs:List Value)(hown:w.ownsRow 0 e i.size v n xs)(x:Value)(m:Nat)(news:List Value)(hs:Src P i.size tx x m news w)(hbytes:(n+m)*i.bytes≤140737488355328)(h63:n+m≤140737488355328):
  ∃ v' w',(Builtin.append_ #[t,tx] ty #[v,x]).run P w=.ok v' w'∧w'.ownsRow 0 e i.size v' (n+m) (xs++news)∧w.grownBy w' v.ownBlock∧(∀ b,v'.ownBlock=some b→w.heap.size≤b∨v.ownBlock=some b):=by
 have hlen:(xs++news).length=(n+m)*i.size:=by rw[List.length_append,hown.1,hs.newsLen,Nat.add_mul]
 have grow:∀(base:Option Addr) (old:Nat),(Builtin.firstCells i.size n (.slice base n old)).run P w.drew=.ok xs.toArray w.drew→old<n+m→∀ row,
   ∃ v' w',(Builtin.append_ #[t,tx] ty #[.slice base n old,x]).run P w=.ok v' w'∧w'.ownsRow 0 e i.size v' (n+m) (xs++news)∧w.grownBy w' row∧(∀ b,v'.ownBlock=some b→w.heap.size≤b):=by
  intro base old xA ho row
  have hcap:=qJk (n+m) old ho
  have hr:=run_append_grow_src (P:=P) w t tx ty e i z ht hi hz base n old xs xA x m news hs ho (by omega)
   (Nat.le_trans (Nat.mul_le_mul_right _ hcap) (by rw[Nat.mul_assoc]; omega))
  refine⟨_,_,hr,?_,?_,?_⟩
  ·have hge:=grownCap_ge w (n+m) old e
   have hcm:grownCap w (n+m) old e≤maxLen:=grownCap_le_maxLen w (n+m) old e (by unfold maxLen; omega)
   refine⟨hlen,.inr ⟨w.heap.size,_,_,rfl,Nat.zero_le _,heap_alloc_new w.drew _,hge,hcm,?_,?_⟩⟩
   ·simp only[Array.size_append,List.size_toArray,size_zeroCells,hzs,hlen,← Nat.add_mul]
    congr 1
    omega
   ·simp only[Array.toList_append]
    rw[← hlen]
    exact List.take_left
  ·exact⟨rfl,rfl,rfl,by simp,fun k hk _=>heap_alloc_old w.drew _ k hk⟩
  ·intro b hb
   simp only[Value.ownBlock,sI] at hb
   omega
 rcases hown.2 with ⟨rfl,rfl⟩ | ⟨g,cap,cur,rfl,hbg,hg,hnc,hcm,hcs,htake⟩
 ·have hx:xs=[]:=List.eq_nil_of_length_eq_zero (by simpa using hown.1)
  subst hx
  by_cases hm:m=0
  ·subst hm
   have hn:news=[]:=List.eq_nil_of_length_eq_zero (by simpa using hs.newsLen)
   subst hn
   refine⟨.slice none 0 0,w,?_,World.ownsRow_nil w 0 e i.size,⟨rfl,rfl,rfl,Nat.le_refl _,fun _ _ _=>rfl⟩,fun b hb=>by cases hb⟩
   rcases hs.kind with ⟨e',hk⟩ | hk <;> simp [Builtin.append_,run_underlying ht,run_underlying hk,sizeOf,typeInfo,hi,hs.len,hs.cells]
  ·obtain⟨v',w',r1,r2,r3,r4⟩:=grow none 0 (run_firstCells_none w.drew i.size 0 0 0) (by omega) (Value.ownBlock (.slice none 0 0))
   exact⟨v',w',r1,r2,r3,fun b hb=>.inl (r4 b hb)⟩
 ·by_cases hroom:n+m≤cap
  ·have hfit:n*i.size+news.length≤cur.size:=by
    rw[hs.newsLen,hcs,← Nat.add_mul]
    exact Nat.mul_le_mul_right _ hroom
   refine⟨_,_,qFl w t tx ty e i ht hi g n cap cur hg x m news hs hroom hfit,?_,?_,fun b hb=>.inr hb⟩
   ·refine⟨hlen,.inr ⟨g,cap,_,rfl,hbg,setRow_heap w g cur _ e (0,0) hg,hroom,hcm,?_,?_⟩⟩
    ·rw[← hcs]
     simp
     omega
    ·have hnl:(cur.toList.take (n*i.size)).length=n*i.size:=by
      rw[htake,hown.1]
     simp only[]
     rw[htake]
     have:(n+m)*i.size=(xs++news).length:=hlen.symm
     rw[this]
     exact List.take_left
   ·refine⟨rfl,rfl,rfl,by simp,fun k hk hne=>setRow_other w g k _ (fun hh=>hne (by subst hh; rfl))⟩
  ·have xA:(Builtin.firstCells i.size n (.slice (some ⟨g,0,none⟩) n cap)).run P w.drew=.ok xs.toArray w.drew:=by
    refine run_firstCells_some w.drew i.size n ⟨g,0,none⟩ n cap xs (by rw[hown.1]) ?_
    intro j u hu
    rw[World.cell?_drew]
    exact hown.cells rfl j u hu
   obtain⟨v',w',r1,r2,r3,r4⟩:=grow (some ⟨g,0,none⟩) cap xA (by omega) (Value.ownBlock (.slice (some ⟨g,0,none⟩) n cap))
   exact⟨v',w',r1,r2,r3,fun b hb=>.inl (r4 b hb)⟩
end
end Go.Sx
/- The operations that make or write memory. -/
namespace Go.Sx
open Go.RowKit

def Env.setB(e:Env)(i b:Nat):Env:=⟨fun j=>if j=i then b else e.blk j,e.row,e.val,e.one,e.z⟩
def Env.setR(e:Env)(i:Nat)(v:Value):Env:=⟨e.blk,fun j=>if j=i then v else e.row j,e.val,e.one,e.z⟩
def Env.setV(e:Env)(i:Nat)(f:yT→Value)(hf:∀ p,(f p).oneCell'=true):Env:=⟨e.blk,e.row,fun j=>if j=i then f else e.val j,fun j p=>by
 split
 ·exact hf p
 ·exact e.one j p,e.z⟩
theorem yX(e:Env)(i b:Nat):zN i e (e.setB i b):=⟨fun j hj=>⟨by simp [Env.setB,Nat.ne_of_lt hj],rfl,rfl⟩,rfl⟩
theorem wI(e:Env)(i:Nat)(v:Value):zN i e (e.setR i v):=⟨fun j hj=>⟨rfl,by simp [Env.setR,Nat.ne_of_lt hj],rfl⟩,rfl⟩
theorem wH(e:Env)(i:Nat)(f:yT→Value)(hf:∀ p,(f p).oneCell'=true):zN i e (e.setV i f hf):=⟨fun j hj=>⟨rfl,rfl,by simp [Env.setV,Nat.ne_of_lt hj]⟩,rfl⟩
def qJn(h:List HO):SV→Bool
 | .v (.agg _)=>false
 | .v (.tuple _)=>false
 | .v (.bool _)=>true
 | .v (.int _ _)=>true
 | .v (.string _)=>true
 | .v (.pointer _)=>true
 | .v (.slice _ _ _)=>true
 | .v (.map _)=>true
 | .v (.func _ _ _)=>true
 | .v .nilFunc=>true
 | .v (.iface _ _)=>true
 | .v .nilIface=>true
 | .v _=>false
 | .agg _=>false
 | .tup _=>false
 | .o i=>qOs h[i]?
 | _=>true
theorem qGb{F:Mem→Prop}{h:List HO}{e:Env}{w:World}(S:xR F h e w){s:SV}(ho:qJn h s=true):(den e s).oneCell'=true:=by
 cases s with
 | v x=>cases x <;> first | rfl | cases ho
 | o i =>
  obtain⟨oa,n,c,hv⟩:=qCv S (i:=i) ho
  simp only[den,hv]
  rfl
 | q i off =>
  simp only[den]
  split <;> rfl
 | agg c=>cases ho
 | tup c=>cases ho
 | x i p=>exact e.one i p
 | xp i p sz k j =>
  simp only[den,qSt]
  split <;> rfl
 | qk i sz k j =>
  simp only[den,qFt]
  split <;> rfl
 | bl b=>rfl
 | p i off=>rfl
 | m i=>rfl
 | sl i off l c=>rfl
 | fn f a c=>rfl
 | ifc t y=>rfl
theorem qSo{F:Mem→Prop}{h:List HO}{e:Env}{w:World}(S:xR F h e w){l:List SV}(ho:l.all (qJn h)=true):∀ u∈qS e l,u.oneCell'=true:=by
 intro u hu
 rw[yQ,List.mem_map] at hu
 obtain⟨s,hs,rfl⟩:=hu
 exact qGb S (List.all_eq_true.1 ho s hs)
def qLp(h:List HO)(s:SV):Option (qG×List zD) :=
 match s with
 | .x i p=>match h[i]? with
  | some (.ext false c0)=>match yU c0 p with
   | some c=>some (c,wA (pvs c0 p))
   | none=>none
  | _=>none
 | s=>match jS s with
  | some x=>bif qJn h (.v x) then some (.v x,[]) else none
  | none=>none
theorem qFz{M:Mem}{x:Value}(hx:x.oneCell'=true):xF M x (.v x):=⟨fun _=>x,fun _=>hx,rfl,rfl⟩
theorem qHd{M:Mem}{e:Env}{i:Nat}{c:qG}{p:yT}(h:qAa M (e.val i) c p):xF M (e.val i p) c :=
 ⟨fun q=>e.val i (p++q),fun q=>e.one i _,by simp,(xO (e.val i) p c []).2 (by simpa using h)⟩
theorem qHc{F:Mem→Prop}{h:List HO}{e:Env}{w:World}(S:xR F h e w){s:SV}{c:qG}{sd:List zD}(hc:qLp h s=some (c,sd))(hsd:∀ x∈sd,x (mem w e h)):
  xF ((mem w e h).sub e.z) (den e s) c∧(den e s).oneCell'=true:=by
 have key:∀ s0:SV,(match jS s0 with
  | some x=>bif qJn h (.v x) then some (qG.v x,([]:List zD)) else none
  | none=>none)=some (c,sd)→xF ((mem w e h).sub e.z) (den e s0) c∧(den e s0).oneCell'=true:=by
  intro s0 hh
  cases hp:jS s0 with
  | none=>rw[hp] at hh; cases hh
  | some x =>
   rw[hp] at hh
   simp only at hh
   cases ho:qJn h (.v x) with
   | false=>rw[ho] at hh; cases hh
   | true =>
    rw[ho] at hh
    simp only[cond_true,sI,pI] at hh
    obtain⟨rfl,rfl⟩:=hh
    rw[jH e s0 hp]
    have:=qGb S ho
    exact⟨qFz this,this⟩
 cases s with
 | x i p =>
  simp only[qLp] at hc
  split at hc
  ·rename_i c0 hi
   split at hc
   ·rename_i c1 hc1
    simp only[sI,pI] at hc
    obtain⟨rfl,rfl⟩:=hc
    exact⟨qHd (qJy S hi hc1 (zX hsd)),e.one i p⟩
   ·cases hc
  ·cases hc
 | _=>exact key _ hc
def wQ(h:List HO):List SV→Option (List qG×List zD)
 | []=>some ([],[])
 | s::r=>match qLp h s,wQ h r with
  | some (c,s1),some (l,s2)=>some (c::l,s1++s2)
  | _,_=>none
theorem qCe{F:Mem→Prop}{h:List HO}{e:Env}{w:World}(S:xR F h e w):∀(l:List SV) {cs:List qG} {sd:List zD},wQ h l=some (cs,sd)→(∀ x∈sd,x (mem w e h)) →
  cs.length=l.length∧(∀(d:Nat) (c:qG),cs[d]?=some c→∃ u,(qS e l)[d]?=some u∧xF ((mem w e h).sub e.z) u c)∧∀ u∈qS e l,u.oneCell'=true
 | [],cs,sd,hc,_=>by
  simp only[wQ,sI,pI] at hc
  obtain⟨rfl,rfl⟩:=hc
  exact⟨rfl,fun d c hd=>(by cases hd),fun u hu=>(by cases hu)⟩
 | s::r,cs,sd,hc,hs=>by
  simp only[wQ] at hc
  split at hc
  ·rename_i c s1 l s2 h1 h2
   simp only[sI,pI] at hc
   obtain⟨rfl,rfl⟩:=hc
   obtain⟨a1,a2⟩:=qHc S h1 fun x hx=>hs x (List.mem_append_left _ hx)
   obtain⟨b1,b2,b3⟩:=qCe S r h2 fun x hx=>hs x (List.mem_append_right _ hx)
   refine⟨by simp [b1],fun d c' hd=>?_,fun u hu=>?_⟩
   ·cases d with
    | zero =>
     simp only[List.getElem?_cons_zero,sI] at hd
     subst hd
     exact⟨den e s,rfl,a1⟩
    | succ d=>exact b2 d c' (by simpa using hd)
   ·simp only[qS,List.mem_cons] at hu
    rcases hu with rfl | hu
    ·exact a2
    ·exact b3 u hu
  ·cases hc
abbrev LR:=Option (Option SV×List HO×List zD×List Dec)
def qWa(P:Program)(h:List HO)(D:List Dec)(T:TypeId):LR :=
 match qFj P (zeroValue T) with
 | some z=>some (some (.p h.length 0),h++[.cells (z.cells.toList.map SV.v) T],[],D)
 | none=>none
def zMs(tm:List (Nat×SV))(h:List HO)(D:List Dec)(T:TypeId)(x:Operand):LR :=
 match evO tm x with
 | some s=>match zI h s with
  | some cs=>some (some (.p h.length 0),h++[.cells cs T],[],D)
  | none=>none
 | none=>none
def qWh(P:Program)(tm:List (Nat×SV))(h:List HO)(D:List Dec)(T:TypeId)(x y:Operand):LR :=
 match evO tm y with
 | none=>none
 | some s=>match zI h s,jO P T with
  | some cs,some n=>bif Nat.beq cs.length n&&cs.all (qJn h) then
    match evO tm x with
    | some (.p i off)=>match h[i]? with
     | some (.cells old T0)=>some (none,h.set i (.cells (qNu old off cs) T0),[fun _=>off+cs.length≤old.length],D)
     | _=>none
    | some (.q i off)=>match h[i]? with
     | some (.row T0 sz nn old)=>some (none,h.set i (.row T0 sz nn (qNu old off cs)),[fun _=>0<old.length∧off+cs.length≤old.length],D)
     | _=>none
    | _=>none
   else none
  | _,_=>none
def qQz(P:Program)(tm:List (Nat×SV))(h:List HO)(D:List Dec)(T:TypeId)(x y:Operand):LR :=
 match evO tm y with
 | none=>none
 | some s=>match zI h s,jO P T with
  | some cs,some n=>match wQ h cs with
   | some (l,sd)=>bif Nat.beq l.length n then
    match evO tm x with
    | some (.qk i sz k j)=>match h[i]? with
     | some (.rowc T0 sz' nn c)=>bif Nat.beq sz sz'&&Nat.ble (j+l.length) sz then some (none,h.set i (.rowc T0 sz nn (.upd c k j l)),sd++wA [k<nn],D) else none
     | _=>none
    | _=>none
    else none
   | none=>none
  | _,_=>none
def qDv(P:Program)(tm:List (Nat×SV))(h:List HO)(D:List Dec)(t:TypeId)(len:Nat)(parts:Array (Nat×Operand)):LR :=
 match P.underlying t,qEq tm parts.toList with
 | some (.slice el),some ps=>match jO P el,qFj P (zeroValue el) with
  | some sz,some z =>
   bif Nat.ble (len*sz) 16777216&&Nat.ble len 16777216 then
    match qMb h (fun i=>some (i*sz,sz)) (((Array.range (len*sz)).map fun j=>(if len*sz=0 then(#[]:Array Value) else z.cells)[j%(if len*sz=0 then(#[]:Array Value) else z.cells).size]!).toList.map SV.v) ps with
    | some cs=>bif cs.all (qJn h)&&Nat.beq cs.length (len*sz) then some (some (.o h.length),h++[.row el sz len cs],[],D) else none
    | none=>none
   else none
  | _,_=>none
 | _,_=>none
section
variable {P : Program} {F : Mem → Prop} {w0 : qDe} {tm : List (Nat × SV)} {n : Nat} {h h' : List HO} {e : Env} {a : Act} {w : World} {D D' : List Dec} {r : Option SV} {sd : List zD}

def xZ(o:Oper):Bool :=
 match o.op with
 | .alloc _=>true
 | .box ..=>true
 | .buildSlice ..=>true
 | .slice ..=>true
 | .makeSlice ..=>true
 | .range ..=>true
 | .load ..=>true
 | .move _=>true
 | .assign _=>true
 | .pick ..=>true
 | .fieldAddr ..=>true
 | .indexAddr ..=>true
 | .index ..=>true
 | .field ..=>true
 | .extract ..=>true
 | .makeInterface ..=>true
 | .makeFunc ..=>true
 | .build ..=>true
 | .binOp ..=>true
 | .unOp ..=>true
 | .typeAssert ..=>true
 | .lookup ..=>true
 | _=>false
def qJm(w w':World):Prop:=∀ b,b<w.heap.size→w'.heap[b]?=w.heap[b]?
def wW(P:Program)(F:Mem→Prop)(w0:qDe)(h h':List HO)(e:Env)(a:Act)(w:World)(o:Oper)(r:Option SV):Prop :=
  ∃ e' w',zN h.length e e'∧h.length≤h'.length∧qW F w0 h' e' w'∧(xZ o=true→qJm w w') ∧
    (match r with
     | some s=>(execOp a.eval o).run P w=.ok (.value (den e' s)) w'∧ws h'.length s
     | none=>(execOp a.eval o).run P w=.ok .skip w')
theorem qW.newCells(hF:jM F)(S:qW F w0 h e w)(cs:List SV)(T:TypeId)(hw:wsL h.length cs):
  qW F w0 (h++[.cells cs T]) (e.setB h.length w.heap.size) (w.alloc (.cells (qS e cs).toArray T)):=by
 refine S.next hF h.length (.cells cs T) (by simp) (by simp) (yX e _ _) ?_ ?_ none (by simp) ?_ ?_ ?_ ?_ ?_ ?_ rfl rfl rfl
 ·intro i ho hi hi'
  refine .inl ?_
  rw[List.getElem?_append] at hi'
  split at hi'
  ·exact hi'
  ·rename_i hlt
   have:i-h.length≠0:=by omega
   cases hk:i-h.length with
   | zero=>omega
   | succ k=>rw[hk] at hi'; simp at hi'
 ·intro i ho _ hi
  refine .inl ?_
  rw[List.getElem?_append_left (List.getElem?_eq_some_iff.1 hi).1]
  exact hi
 ·intro ho b hi _
  have:=(List.getElem?_eq_some_iff.1 hi).1
  omega
 ·intro _
  simp only[HO.sat]
  show(w.alloc (.cells (qS e cs).toArray T)).heap[if h.length=h.length then w.heap.size else e.blk h.length]?=_
  rw[if_pos rfl,heap_alloc_new]
  have:qS (e.setB h.length w.heap.size) cs=qS e cs:=jL (yX e h.length w.heap.size) cs hw
  rw[this]
 ·exact yY (by simp) cs hw
 ·intro b hb
  simp only[HO.own,Env.setB,if_true,sI] at hb
  exact .inl (by omega)
 ·intro b hb _
  exact heap_alloc_old w _ b hb
 ·simp
theorem qW.newRow(hF:jM F)(S:qW F w0 h e w){w':World}(T:TypeId)(sz nn:Nat)(cs:List SV)(v:Value)(hw:wsL h.length cs)(hr:w'.ownsRow 0 T sz v nn (qS e cs))(h1:∀ u∈qS e cs,u.oneCell'=true)(hfr:∀ b,v.ownBlock=some b→w.heap.size≤b)(hg:w.grownBy w' none):qW F w0 (h++[.row T sz nn cs]) (e.setR h.length v) w':=by
 have hag:=wI e h.length v
 refine S.next hF h.length (.row T sz nn cs) (by simp) (by simp) hag ?_ ?_ none (by simp) ?_ ?_ ?_ ?_ ?_ ?_ hg.os hg.tape hg.output
 ·intro i ho hi hi'
  refine .inl ?_
  rw[List.getElem?_append] at hi'
  split at hi'
  ·exact hi'
  ·rename_i hlt
   cases hk:i-h.length with
   | zero=>omega
   | succ k=>rw[hk] at hi'; simp at hi'
 ·intro i ho _ hi
  refine .inl ?_
  rw[List.getElem?_append_left (List.getElem?_eq_some_iff.1 hi).1]
  exact hi
 ·intro ho b hi _
  have:=(List.getElem?_eq_some_iff.1 hi).1
  omega
 ·intro _
  simp only[HO.sat,jL hag cs hw]
  have:(e.setR h.length v).row h.length=v:=by simp [Env.setR]
  rw[this]
  exact⟨hr,h1⟩
 ·exact yY (by simp) cs hw
 ·intro b hb
  have:(e.setR h.length v).row h.length=v:=by simp [Env.setR]
  simp only[HO.own,this] at hb
  exact .inl (hfr b hb)
 ·intro b hb _
  exact hg.block b hb (by simp)
 ·exact hg.size
theorem qW.newRowc(hF:jM F)(S:qW F w0 h e w){w':World}(T:TypeId)(sz nn:Nat)(c:Ct)(v:Value)(hr:(mem w e h).le (mem w' (e.setR h.length v) (h++[.rowc T sz nn c]))→∃ zB,w'.ownsRow 0 T sz v nn zB∧(∀ u∈zB,u.oneCell'=true)∧xC ((mem w' (e.setR h.length v) (h++[.rowc T sz nn c])).sub e.z) sz nn c.at zB)(hfr:∀ b,v.ownBlock=some b→w.heap.size≤b)(hg:w.grownBy w' none):qW F w0 (h++[.rowc T sz nn c]) (e.setR h.length v) w':=by
 have hag:=wI e h.length v
 have hrow:(e.setR h.length v).row h.length=v:=by simp [Env.setR]
 refine S.next hF h.length (.rowc T sz nn c) (by simp) (by simp) hag ?_ ?_ none (by simp) ?_ ?_ trivial ?_ ?_ ?_ hg.os hg.tape hg.output
 ·intro i ho hi hi'
  refine .inl ?_
  rw[List.getElem?_append] at hi'
  split at hi'
  ·exact hi'
  ·rename_i hlt
   cases hk:i-h.length with
   | zero=>omega
   | succ k=>rw[hk] at hi'; simp at hi'
 ·intro i ho _ hi
  refine .inl ?_
  rw[List.getElem?_append_left (List.getElem?_eq_some_iff.1 hi).1]
  exact hi
 ·intro ho b hi _
  have:=(List.getElem?_eq_some_iff.1 hi).1
  omega
 ·intro hM
  simp only[HO.sat,hrow]
  exact hr hM
 ·intro b hb
  simp only[HO.own,hrow] at hb
  exact .inl (hfr b hb)
 ·intro b hb _
  exact hg.block b hb (by simp)
 ·exact hg.size
theorem qRt(hF:jM F)(S:qW F w0 h e w){o:Oper}{T0:TypeId}(ho:o.op=.alloc T0)(hq:qWa P h D T0=some (r,h',sd,D')):wW P F w0 h h' e a w o r:=by
 unfold qWa at hq
 split at hq
 ·rename_i z hz
  simp only[sI,pI] at hq
  obtain⟨rfl,rfl,rfl,rfl⟩:=hq
  refine⟨_,_,yX e h.length w.heap.size,by simp,S.newCells hF (z.cells.toList.map SV.v) T0 (qDu _ _),fun _ b hb=>heap_alloc_old w _ b hb,?_,?_⟩
  ·simp only[execOp,ho,Instr.alloc,Sem.run_bind,jW hz w,Result.andThen_ok,newVar,newRow,run_newObj,Sem.run_pure,den,Env.setB,if_true,qAm,Array.toArray_toList]
   rfl
  ·simp [ws]
 ·cases hq
theorem qXq(hF:jM F)(T:zC n h.length tm e a)(S:qW F w0 h e w){o:Oper}{T0:TypeId}{x:Operand}(ho:o.op=.box T0 x)(hq:zMs tm h D T0 x=some (r,h',sd,D')):wW P F w0 h h' e a w o r:=by
 unfold zMs at hq
 split at hq
 ·rename_i s hx
  split at hq
  ·rename_i cs hcs
   simp only[sI,pI] at hq
   obtain⟨rfl,rfl,rfl,rfl⟩:=hq
   obtain⟨c1,c2⟩:=xN S.q hcs
   refine⟨_,_,yX e h.length w.heap.size,by simp,S.newCells hF cs T0 (c2 _ (qH T hx).2),fun _ b hb=>heap_alloc_old w _ b hb,?_,?_⟩
   ·simp only[execOp,ho,(qH T hx).1,Instr.box,newVar,newRow,c1,Sem.run_bind,run_newObj,Result.andThen_ok,Sem.run_pure,den,Env.setB,if_true]
    rfl
   ·simp [ws]
  ·cases hq
 ·cases hq
theorem qGr(hF:jM F)(T:zC n h.length tm e a)(S:qW F w0 h e w){o:Oper}{t:TypeId}{len:Nat}{parts:Array (Nat×Operand)}(ho:o.op=.buildSlice t len parts)(hq:qDv P tm h D t len parts=some (r,h',sd,D')):wW P F w0 h h' e a w o r:=by
 unfold qDv at hq
 split at hq
 ·rename_i el ps hu hps
  split at hq
  ·rename_i sz z hsz hz
   cases hb:Nat.ble (len*sz) 16777216&&Nat.ble len 16777216 with
   | false=>rw[hb] at hq; cases hq
   | true =>
    rw[hb] at hq
    simp only[cond_true] at hq
    rw[Bool.and_eq_true] at hb
    have b1:=Nat.le_of_ble_eq_true hb.1
    have b2:=Nat.le_of_ble_eq_true hb.2
    split at hq
    ·rename_i cs hcs
     cases hb2:cs.all (qJn h)&&Nat.beq cs.length (len*sz) with
     | false=>rw[hb2] at hq; cases hq
     | true =>
      rw[hb2] at hq
      simp only[cond_true,sI,pI] at hq
      obtain⟨rfl,rfl,rfl,rfl⟩:=hq
      rw[Bool.and_eq_true] at hb2
      have hlen:=Nat.eq_of_beq_eq_true hb2.2
      obtain⟨p1,p2⟩:=qCa T parts.toList hps
      have hparts:(parts.map fun(x:Nat×Operand)=>(x.1,a.eval x.2)).toList=ps.map fun x=>(x.1,den e x.2):=by
       rw[Array.toList_map]; exact p1
      obtain⟨f1,f2⟩:=qBf S.q h.length _ ps _ hcs (qDu _ _) p2
      rw[qAm,Array.toArray_toList] at f1
      refine⟨_,_,wI e h.length (.slice (some ⟨w.heap.size,0,none⟩) len len),by simp,S.newRow hF (w':=w.alloc (.cells (qS e cs).toArray el)) el sz len cs _ f2 ?_ (qSo S.q hb2.1) ?_ (World.grownBy_alloc w _ none),fun _ b hb=>heap_alloc_old w _ b hb,?_,?_⟩
      ·have:=World.ownsRow_lit (base:=0) (e:=el) (size:=sz) w (qS e cs).toArray len (Nat.zero_le _) (by unfold maxLen; omega) (by simp [qV,hlen])
       simpa using this
      ·intro b hb
       simp only[Value.ownBlock,sI] at hb
       omega
      ·have hbig:¬ len*sz>2^24:=by omega
       have e1:(execOp a.eval o).run P w=((do let x ← Instr.buildSlice t len (parts.map fun(x:Nat×Operand)=>(x.1,a.eval x.2)); pure (Next.value x):Sem Next)).run P w:=by
        simp only[execOp,ho]
       rw[e1]
       simp only[Instr.buildSlice,hparts]
       by_cases hz0:len*sz=0
       ·have hb0:¬ (0>2^24):=by omega
        simp only[hz0,if_true] at f1
        simp only[hb0,if_false,Sem.run_bind,run_underlying hu,Result.andThen_ok,zH hsz,Sem.run_pure,hz0,if_true,f1,newRow,run_newObj,den,Env.setR]
        rfl
       ·simp only[hz0,if_false] at f1
        simp only[Sem.run_bind,run_underlying hu,Result.andThen_ok,zH hsz,Sem.run_pure,hz0,if_false,hbig,jW hz w,f1,newRow,run_newObj,den,Env.setR]
        rfl
      ·simp [ws]
    ·cases hq
  ·cases hq
 ·cases hq
end
end Go.Sx
/- Stores, appends, makes, iterators over strings. -/
namespace Go.Sx
open Go.RowKit

section
variable {P : Program} {F : Mem → Prop} {w0 : qDe} {tm : List (Nat × SV)} {n : Nat} {h h' : List HO} {e : Env} {a : Act} {w : World} {D D' : List Dec} {r : Option SV} {sd : List zD}

theorem qKg{h:List HO}{i j:Nat}{x ho:HO}(hij:j≠i)(hj:(h.set i x)[j]?=some ho):h[j]?=some ho:=by
 rw[List.getElem?_set_ne (Ne.symm hij)] at hj; exact hj
theorem qW.turn(hF:jM F)(S:qW F w0 h e w){i:Nat}{old ho:HO}(hi:h[i]?=some old){w':World}(b:Nat)(hob:old.own e i=some b)(hob':ho.own e i=some b)(hs:(mem w e h).le (mem w' e (h.set i ho))→ho.sat e (mem w' e (h.set i ho)) i w')(hw:ho.ws h.length)(hfr:∀ k,k<w.heap.size→k≠b→w'.heap[k]?=w.heap[k]?)(hsize:w.heap.size≤w'.heap.size)(hos:w'.os=w.os)(ht:w'.tape=w.tape)(hout:w'.output=w.output):
  qW F w0 (h.set i ho) e w':=by
 have hlt:i<h.length:=(List.getElem?_eq_some_iff.1 hi).1
 refine S.next hF i ho (by simp) (by simp [hlt]) (zN.refl _ _) ?_ ?_ (some b) ?_ ?_ hs (HO.ws_mono (by simp) hw) ?_ ?_ hsize hos ht hout
 ·intro j x hj hx
  exact .inl (qKg hj hx)
 ·intro j x hj hx
  refine .inl ?_
  rw[List.getElem?_set_ne (Ne.symm hj)]
  exact hx
 ·intro b' hb'
  simp only[sI] at hb'
  subst hb'
  exact⟨i,old,hi,hob,.inl rfl⟩
 ·intro x b' hx hb'
  rw[hi] at hx
  cases hx
  rw[hob] at hb'
  exact⟨hb',hob'.trans hb'⟩
 ·intro b' hb'
  rw[hob'] at hb'
  exact .inr hb'
 ·intro k hk hne
  exact hfr k hk (fun hh=>hne (by rw[hh]))
theorem qRo(hF:jM F)(T:zC n h.length tm e a)(S:qW F w0 h e w){o:Oper}{T0:TypeId}{x y:Operand}(ho:o.op=.store T0 x y)(hq:qWh P tm h D T0 x y=some (r,h',sd,D'))(hsd:∀ x∈sd,x (mem w e h)):wW P F w0 h h' e a w o r:=by
 unfold qWh at hq
 split at hq
 ·cases hq
 ·rename_i s hy
  split at hq
  ·rename_i cs k hcs hk
   cases hb:Nat.beq cs.length k&&cs.all (qJn h) with
   | false=>rw[hb] at hq; cases hq
   | true =>
    rw[hb] at hq
    simp only[cond_true] at hq
    rw[Bool.and_eq_true] at hb
    have hlen:=Nat.eq_of_beq_eq_true hb.1
    obtain⟨c1,c2⟩:=xN S.q hcs
    have hws:=c2 _ (qH T hy).2
    have hone:=qSo S.q hb.2
    have hrun:∀(g off:Nat) (cur:Array Value) (t:TypeId),w.heap[g]?=some (.cells cur t (0,0))→off+cs.length≤cur.size →
      (Instr.storeAt T0 (.pointer (some ⟨g,off,none⟩)) (den e s)).run P w=.ok () (w.setRow g (cur.toList.take off++qS e cs++cur.toList.drop (off+(qS e cs).length)).toArray):=by
     intro g off cur t hg hle
     have hst:=run_storeCells_at P g off t (qS e cs) 0 cur w hg (by simpa[qV] using hle) hone
     simp only[Nat.add_zero] at hst
     simp [Instr.storeAt,Instr.sureAddr,storeVar,c1,qV,hlen,zH hk w,hst]
    split at hq
    ·rename_i i off hx
     split at hq
     ·rename_i old T1 hi
      simp only[sI,pI] at hq
      obtain⟨rfl,rfl,rfl,rfl⟩:=hq
      have hle:off+cs.length≤old.length:=hsd _ List.mem_cons_self
      have hg:=S.sat i _ hi
      simp only[HO.sat] at hg
      have hr:=hrun (e.blk i) off (qS e old).toArray T1 hg (by simpa[qV] using hle)
      refine⟨e,_,zN.refl _ _,by simp,S.turn hF hi (e.blk i) rfl rfl (w':=w.setRow (e.blk i) (qS e (qNu old off cs)).toArray) ?_ (qLv (S.ws i _ hi) hws) (fun k _ hne=>setRow_other w _ k _ hne) (by simp) rfl rfl rfl,(fun hk=>by rw[xZ,ho] at hk; cases hk),?_⟩
      ·intro _
       simp only[HO.sat]
       exact setRow_heap w _ _ _ T1 (0,0) hg
      ·simp only[execOp,ho,(qH T hx).1,(qH T hy).1]
       rw[Sem.run_bind]
       simp only[den]
       rw[hr]
       simp only[qEz]
       rfl
     ·cases hq
    ·rename_i i off hx
     split at hq
     ·rename_i T1 sz nn old hi
      simp only[sI,pI] at hq
      obtain⟨rfl,rfl,rfl,rfl⟩:=hq
      have hside:0<old.length∧off+cs.length≤old.length:=hsd _ List.mem_cons_self
      obtain⟨hpos,hle⟩:=hside
      obtain⟨⟨h1,h2⟩,h3⟩:=S.sat i _ hi
      rcases h2 with ⟨_,hn⟩ | ⟨g,cap,cur,hv,hbg,hg,hnc,hcm,hcs',ht⟩
      ·subst hn
       rw[qV] at h1
       omega
      ·have hsz:nn*sz≤cur.size:=by rw[hcs']; exact Nat.mul_le_mul_right _ hnc
       have xA:old.length=nn*sz:=by rw[← h1,qV]
       have hr:=hrun g off cur T1 hg (by omega)
       have hown:(HO.row T1 sz nn old).own e i=some g:=by simp [HO.own,hv,Value.ownBlock]
       refine⟨e,_,zN.refl _ _,by simp,S.turn hF hi g hown (by simpa[HO.own] using hown) (w':=w.setRow g (cur.toList.take off++qS e cs++cur.toList.drop (off+(qS e cs).length)).toArray) ?_ (qLv (S.ws i _ hi) hws) (fun k _ hne=>setRow_other w _ k _ hne) (by simp) rfl rfl rfl,(fun hk=>by rw[xZ,ho] at hk; cases hk),?_⟩
       ·intro _
        refine⟨⟨by rw[qV,qUd hle,← qV e,h1],.inr ⟨g,cap,_,hv,hbg,setRow_heap w g cur _ T1 (0,0) hg,hnc,hcm,?_,?_⟩⟩,?_⟩
        ·simp [qV]
         omega
        ·rw[qEz,← ht]
         simp only[]
         rw[qV]
         rw[List.take_append,List.take_append]
         simp only[List.length_append,List.length_take,Array.length_toList,qV,List.take_take,List.drop_take]
         have e1:min off cur.size=off:=by omega
         have e2:min (nn*sz) off=off:=by omega
         have e3:min off (nn*sz)=off:=by omega
         rw[e1,e2,e3]
         congr 1
         congr 1
         rw[List.take_of_length_le (by rw[qV]; omega)]
        ·intro u hu
         rw[qEz,List.mem_append,List.mem_append] at hu
         rcases hu with (hu | hu) | hu
         ·exact h3 u (List.mem_of_mem_take hu)
         ·exact hone u hu
         ·exact h3 u (List.mem_of_mem_drop hu)
       ·simp only[execOp,ho,(qH T hx).1,(qH T hy).1]
        rw[Sem.run_bind]
        simp only[den,hv]
        rw[hr]
        rfl
     ·cases hq
    ·cases hq
  ·cases hq


/-! ### rows of known content -/
def qIv(n sz:Nat)(g:Nat→Nat→Value):List Value:=(List.range n).flatMap fun k=>(List.range sz).map (g k)
theorem qDn(n sz:Nat)(g:Nat→Nat→Value):(qIv n sz g).length=n*sz:=by
 induction n with
 | zero=>simp [qIv]
 | succ n ih =>
  unfold qIv at ih ⊢
  rw[List.range_succ,List.flatMap_append,List.length_append,ih]
  simp [Nat.add_mul]
theorem qGh{k n j sz:Nat}(hk:k<n)(hj:j<sz):k*sz+j<n*sz:=by
 have:(k+1)*sz≤n*sz:=Nat.mul_le_mul_right _ hk
 rw[Nat.add_mul] at this
 omega
theorem qIg{sz:Nat}(g:Nat→Nat→Value):∀ {n k j:Nat},k<n→j<sz→(qIv n sz g)[k*sz+j]?=some (g k j)
 | n+1,k,j,hk,hj=>by
  have hl:=qDn n sz g
  unfold qIv at hl ⊢
  rw[List.range_succ,List.flatMap_append]
  by_cases h:k<n
  ·rw[List.getElem?_append_left (by rw[hl]; exact qGh h hj)]
   exact qIg g h hj
  ·have:k=n:=by omega
   subst this
   rw[List.getElem?_append_right (by rw[hl]; omega),hl,show k*sz+j-k*sz=j by omega]
   simp [hj]
theorem zAq{sz n:Nat}{g:Nat→Nat→Value}{u:Value}(h:u∈qIv n sz g):∃ k j,k<n∧j<sz∧u=g k j:=by
 unfold qIv at h
 rw[List.mem_flatMap] at h
 obtain⟨k,hk,hu⟩:=h
 rw[List.mem_map] at hu
 obtain⟨j,hj,rfl⟩:=hu
 exact⟨k,j,by simpa using hk,by simpa using hj,rfl⟩
theorem zFz{d sz n:Nat}(h:d<n*sz):∃ k j,k<n∧j<sz∧d=k*sz+j:=by
 have h0:0<sz:=by
  rcases Nat.eq_zero_or_pos sz with h0 | h0
  ·subst h0; omega
  ·exact h0
 refine⟨d / sz,d%sz,?_,Nat.mod_lt _ h0,?_⟩
 ·rw[Nat.div_lt_iff_lt_mul h0]; exact h
 ·rw[Nat.mul_comm]; exact(Nat.div_add_mod d sz).symm
theorem qAy{M:Mem}{v:Value}{n sz:Nat}{c:Nat→Nat→qG}{zB:List Value}(oa:Option Addr)(cap:Nat)(hv:v=.slice oa n cap)(hcap:n≤cap)(hc:n=0∨∃ ad,oa=some ad∧∀ d u,d<n*sz→zB[d]?=some u→M.cell? (ad.add d)=some u)(hr:xC M sz n c zB):xF M v (.s false sz n c):=by
 classical
 let f:yT→Value:=fun p=>match p with
  | []=>v
  | (s',k,j)::q=>if h:k<n∧j<sz∧s'=sz then Classical.choose (Classical.choose_spec (hr k h.1 j h.2.1)).2 q else .nilFunc
 have hf:∀ k (hk:k<n) j (hj:j<sz),∃ u,zB[k*sz+j]?=some u∧f [(sz,k,j)]=u∧(∀ q,(f ((sz,k,j)::q)).oneCell'=true)∧qAa M (fun q=>f ([(sz,k,j)]++q)) (c k j) []:=by
  intro k hk j hj
  have h:k<n∧j<sz∧sz=sz:=⟨hk,hj,rfl⟩
  have h1:=Classical.choose_spec (hr k hk j hj)
  obtain⟨h2,h3,h4⟩:=Classical.choose_spec h1.2
  have e1:∀ q,f ((sz,k,j)::q)=Classical.choose h1.2 q:=fun q=>by
   show(if h:k<n∧j<sz∧sz=sz then _ else _)=_
   rw[dif_pos h]
  refine⟨_,h1.1,by rw[e1]; exact h3,fun q=>by rw[e1]; exact h2 q,?_⟩
  have e2:(fun q=>f ([(sz,k,j)]++q))=Classical.choose h1.2:=funext e1
  rw[e2]
  exact h4
 refine⟨f,?_,rfl,?_⟩
 ·intro p
  match p with
  | []=>show v.oneCell'=true; rw[hv]; rfl
  | (s',k,j)::q =>
   by_cases h:k<n∧j<sz∧s'=sz
   ·obtain⟨hk,hj,rfl⟩:=h
    obtain⟨_,_,_,h3,_⟩:=hf k hk j hj
    exact h3 q
   ·have e3:f ((s',k,j)::q)=.nilFunc:=dif_neg h
    rw[e3]; rfl
 ·simp only[qAa]
  refine⟨oa,⟨cap,hv,hcap⟩,?_⟩
  rcases hc with h0 | ⟨ad,rfl,hc⟩
  ·exact .inl h0
  ·refine .inr ⟨ad,rfl,fun k hk j hj=>?_⟩
   obtain⟨u,h1,h2,_,h4⟩:=hf k hk j hj
   rw[List.nil_append,h2]
   refine⟨hc _ u (qGh hk hj) h1,?_⟩
   have:=(xO f [(sz,k,j)] (c k j) []).1 h4
   simpa using this
theorem qRq{F:Mem→Prop}{h:List HO}{e:Env}{w:World}(S:xR F h e w){xs:List SV}{l:List qG}{sd:List zD}(hc:wQ h xs=some (l,sd))(hsd:∀ x∈sd,x (mem w e h)){sz n:Nat}(hl:(qS e xs).length=n*sz):
  xC ((mem w e h).sub e.z) sz n (lc sz l) (qS e xs):=by
 obtain⟨a1,a2,_⟩:=qCe S xs hc hsd
 intro k hk j hj
 have hlt:k*sz+j<l.length:=by rw[a1,← qV e,hl]; exact qGh hk hj
 obtain⟨u,h1,h2⟩:=a2 (k*sz+j) l[k*sz+j] (List.getElem?_eq_getElem hlt)
 refine⟨u,h1,?_⟩
 unfold lc
 rw[List.getD_eq_getElem?_getD,List.getElem?_eq_getElem hlt]
 exact h2
theorem qW.drop(hF:jM F)(S:qW F w0 h e w)(j:Nat)(hj:j<h.length):qW F w0 (h.set j .gone) e w∧(mem w e h).le (mem w e (h.set j .gone)):=by
 have hle:(mem w e h).le (mem w e (h.set j .gone)):=by
  intro b o hb
  unfold mem at hb ⊢
  split at hb
  ·cases hb
  ·rename_i hno
   rw[if_neg,hb]
   rintro⟨i,ho,hi,hob⟩
   by_cases hij:i=j
   ·subst hij
    simp [hj] at hi
    subst hi
    simp [HO.own] at hob
   ·rw[List.getElem?_set_ne (Ne.symm hij)] at hi
    exact hno ⟨i,ho,hi,hob⟩
 have old:∀ i ho,(h.set j .gone)[i]?=some ho→ho=.gone∨(i≠j∧h[i]?=some ho):=by
  intro i ho hi
  by_cases hij:i=j
  ·subst hij; simp [hj] at hi; exact .inl hi.symm
  ·exact .inr ⟨hij,qKg hij hi⟩
 refine⟨⟨S.os,S.tape,S.output,fun i ho hi=>?_,fun i ho hi=>?_,fun i j2 ho ho' b hi hj2 hb hb'=>?_,hF _ _ hle S.fact,fun i ho b hi hb=>?_,S.zlt,S.ez,by rw[List.length_set]; exact S.pin⟩,hle⟩
 ·rcases old i ho hi with rfl | ⟨_,hi⟩
  ·trivial
  ·exact HO.sat_keep hle (List.getElem?_eq_some_iff.1 hi).1 (zN.refl _ _) (S.ws i ho hi) (S.sat i ho hi) fun _ _=>rfl
 ·rw[List.length_set]
  rcases old i ho hi with rfl | ⟨_,hi⟩
  ·trivial
  ·exact S.ws i ho hi
 ·rcases old i ho hi with rfl | ⟨_,hi⟩
  ·simp [HO.own] at hb
  ·rcases old j2 ho' hj2 with rfl | ⟨_,hj2⟩
   ·simp [HO.own] at hb'
   ·exact S.one i j2 ho ho' b hi hj2 hb hb'
 ·rcases old i ho hi with rfl | ⟨_,hi⟩
  ·simp [HO.own] at hb
  ·exact S.nz i ho b hi hb
theorem qVy(S:qW F w0 h e w){j:Nat}{ho:HO}{b:Nat}(hj:h[j]?=some ho)(hb:ho.own e j=some b):¬ qAe e (h.set j .gone) b:=by
 rintro⟨i,ho2,hi,hob⟩
 by_cases hij:i=j
 ·subst hij
  have:=(List.getElem?_eq_some_iff.1 hj).1
  simp [this] at hi
  subst hi
  simp [HO.own] at hob
 ·rw[List.getElem?_set_ne (Ne.symm hij)] at hi
  exact hij (S.one i j ho2 ho b hi hj hob hb)
theorem qW.frozen(S:qW F w0 h e w){j:Nat}{ho:HO}(hj:h[j]?=some ho)(hown:ho.own e j=(e.row j).ownBlock){T:TypeId}{sz n:Nat}{c:Nat→Nat→qG}{zB:List Value}(h1:w.ownsRow 0 T sz (e.row j) n zB)(hle:(mem w e h).le (mem w e (h.set j .gone)))(h2:xC ((mem w e h).sub e.z) sz n c zB):xF ((mem w e (h.set j .gone)).sub e.z) (e.row j) (.s false sz n c):=by
 obtain⟨hl,h1⟩:=h1
 rcases h1 with ⟨hv,hn⟩ | ⟨g,cap,cur,hv,_,hg,hnc,_,hcs,ht⟩
 ·subst hn
  exact qAy none 0 hv (Nat.le_refl _) (.inl rfl) (zO (Mem.sub_mono hle _) h2)
 ·refine qAy (some ⟨g,0,none⟩) cap hv hnc (.inr ⟨_,rfl,fun d u hd hu=>?_⟩) (zO (Mem.sub_mono hle _) h2)
  have hb:((mem w e (h.set j .gone)).sub e.z) g=some (.cells cur T (0,0)):=by
   unfold Mem.sub
   rw[if_neg (S.nz j ho g hj (by rw[hown,hv]; rfl))]
   unfold mem
   rw[if_neg (qVy S hj (by rw[hown,hv]; rfl))]
   exact hg
  rw[Addr.add_lit]
  unfold Mem.cell?
  simp only[hb]
  rw[← ht,List.getElem?_take,if_pos hd] at hu
  simpa using hu
def frz(h:List HO):List SV→Option (List qG×List zD×List HO)
 | []=>some ([],[],h)
 | s::r=>match s with
  | .o j=>match h[j]? with
   | some (.rowc _ sz n c)=>match frz (h.set j .gone) r with
    | some (l,sd,h2)=>some (.s false sz n c.at::l,sd,h2)
    | none=>none
   | some (.row _ sz n xs)=>match wQ h xs,frz (h.set j .gone) r with
    | some (l0,s0),some (l,sd,h2)=>some (.s false sz n (lc sz l0)::l,s0++sd,h2)
    | _,_=>none
   | _=>none
  | s=>match qLp h s,frz h r with
   | some (c,s1),some (l,sd,h2)=>some (c::l,s1++sd,h2)
   | _,_=>none
def qFb(h h2:List HO):Prop:=h2.length=h.length∧∀(i:Nat) (ho:HO),h2[i]?=some ho→h[i]?=some ho∨ho=HO.gone
theorem qPo(hF:jM F):∀(l:List SV) (h:List HO) {cs:List qG} {sd:List zD} {h2:List HO},qW F w0 h e w→frz h l=some (cs,sd,h2)→xA F sd→wsL h.length l → 
  qW F w0 h2 e w∧(mem w e h).le (mem w e h2)∧qFb h h2∧cs.length=l.length∧(∀(d:Nat) (c:qG),cs[d]?=some c→∃ u,(qS e l)[d]?=some u∧xF ((mem w e h2).sub e.z) u c)∧∀ u∈qS e l,u.oneCell'=true
 | [],h,cs,sd,h2,S,hc,_,_=>by
  simp only[frz,sI,pI] at hc
  obtain⟨rfl,rfl,rfl⟩:=hc
  exact⟨S,Mem.le.refl _,⟨rfl,fun i ho hi=>.inl hi⟩,rfl,fun d c hd=>(by cases hd),fun u hu=>(by cases hu)⟩
 | s::r,h,cs,sd,h2,S,hc,hs,hw=>by
  have fin:∀(h1:List HO) (c:qG) (l:List qG) (s2:List zD) (u:Value),qW F w0 h1 e w→(mem w e h).le (mem w e h1)→qFb h h1→frz h1 r=some (l,s2,h2)→xA F s2→wsL h1.length r →
    den e s=u→u.oneCell'=true→xF ((mem w e h1).sub e.z) u c→cs=c::l → 
    qW F w0 h2 e w∧(mem w e h).le (mem w e h2)∧qFb h h2∧cs.length=(s::r).length∧(∀(d:Nat) (c:qG),cs[d]?=some c→∃ u,(qS e (s::r))[d]?=some u∧xF ((mem w e h2).sub e.z) u c)∧∀ u∈qS e (s::r),u.oneCell'=true:=by
   intro h1 c l s2 u S1 hle hlen hf hs2 hw2 hu h1u hrep hcs
   obtain⟨b1,b2,b3,b4,b5,b6⟩:=qPo hF r h1 S1 hf hs2 hw2
   refine⟨b1,hle.trans b2,⟨b3.1.trans hlen.1,fun i ho hi=>?_⟩,by rw[hcs]; simp [b4],fun d c' hd=>?_,fun u' hu'=>?_⟩
   ·rcases b3.2 i ho hi with hh | hh
    ·exact hlen.2 i ho hh
    ·exact .inr hh
   ·rw[hcs] at hd
    cases d with
    | zero =>
     simp only[List.getElem?_cons_zero,sI] at hd
     subst hd
     exact⟨u,by simp only[qS,List.getElem?_cons_zero,hu],qCs (Mem.sub_mono b2 _) hrep⟩
    | succ d=>exact b5 d c' (by simpa using hd)
   ·simp only[qS,List.mem_cons] at hu'
    rcases hu' with rfl | hu'
    ·rw[hu]; exact h1u
    ·exact b6 u' hu'
  have key:∀ s0,s0=s→(match qLp h s0,frz h r with
   | some (c,s1),some (l,sd,h2)=>some (c::l,s1++sd,h2)
   | _,_=>none)=some (cs,sd,h2)→qW F w0 h2 e w∧(mem w e h).le (mem w e h2)∧qFb h h2∧cs.length=(s::r).length∧(∀(d:Nat) (c:qG),cs[d]?=some c→∃ u,(qS e (s::r))[d]?=some u∧xF ((mem w e h2).sub e.z) u c)∧∀ u∈qS e (s::r),u.oneCell'=true:=by
   intro s0 h0 hh
   subst h0
   split at hh
   ·rename_i c s1 l s2 h3 q1 q2
    simp only[sI,pI] at hh
    obtain⟨rfl,rfl,rfl⟩:=hh
    obtain⟨a1,a2⟩:=qHc S.q q1 fun x hx=>hs x (List.mem_append_left _ hx) _ S.fact
    exact fin h c l s2 _ S (Mem.le.refl _) ⟨rfl,fun i ho hi=>.inl hi⟩ q2 (fun x hx=>hs x (List.mem_append_right _ hx)) hw.2 rfl a2 a1 rfl
   ·cases hh
  have setLen:∀ j,j<h.length→qFb h (h.set j .gone):=fun j hj=>⟨by simp,fun i ho hi=>by
   by_cases hij:i=j
   ·subst hij; simp [hj] at hi; exact .inr hi.symm
   ·exact .inl (qKg hij hi)⟩
  cases s with
  | o j =>
   simp only[frz] at hc
   split at hc
   ·rename_i T sz n c hj
    have hlt:=(List.getElem?_eq_some_iff.1 hj).1
    split at hc
    ·rename_i l s2 h3 q2
     simp only[sI,pI] at hc
     obtain⟨rfl,rfl,rfl⟩:=hc
     obtain⟨S1,hle⟩:=S.drop hF j hlt
     obtain⟨zB,v1,v2,v3⟩:=S.sat j _ hj
     refine fin _ _ l s2 (e.row j) S1 hle (setLen j hlt) q2 hs (by simpa using hw.2) rfl ?_ (S.frozen hj rfl v1 hle v3) rfl
     obtain⟨oa,n',cap,hv⟩:=qCv S.q (i:=j) (by rw[hj]; rfl)
     rw[hv]; rfl
    ·cases hc
   ·rename_i T sz n xs hj
    have hlt:=(List.getElem?_eq_some_iff.1 hj).1
    split at hc
    ·rename_i l0 s0 l s2 h3 q1 q2
     simp only[sI,pI] at hc
     obtain⟨rfl,rfl,rfl⟩:=hc
     obtain⟨S1,hle⟩:=S.drop hF j hlt
     obtain⟨v1,v2⟩:=S.sat j _ hj
     refine fin _ _ l s2 (e.row j) S1 hle (setLen j hlt) q2 (fun x hx=>hs x (List.mem_append_right _ hx)) (by simpa using hw.2) rfl ?_ (S.frozen hj rfl v1 hle (qRq S.q q1 (fun x hx=>hs x (List.mem_append_left _ hx) _ S.fact) v1.1)) rfl
     obtain⟨oa,n',cap,hv⟩:=qCv S.q (i:=j) (by rw[hj]; rfl)
     rw[hv]; rfl
    ·cases hc
   ·cases hc
  | _=>exact key _ rfl hc
def zJy(P:Program)(tm:List (Nat×SV))(h:List HO)(size:Nat)(T:TypeId)(x:Operand):Option (Nat×Ct×List zD×List HO) :=
 match P.underlying T with
 | some (.slice _)=>match evO tm x with
  | some (.o j)=>match h[j]? with
   | some (.row _ sz m xs)=>bif Nat.beq sz size then(match frz h xs with
    | some (l,sd,h1)=>some (m,.lit size l,sd,h1)
    | none=>none) else none
   | some (.rowc _ sz m c)=>bif Nat.beq sz size then some (m,c,[],h) else none
   | _=>none
  | some (.x i p)=>match h[i]? with
   | some (.ext false c0)=>match yU c0 p with
    | some (.s false sz m c)=>bif Nat.beq sz size then some (m,.fn c,wA (pvs c0 p),h) else none
    | _=>none
   | _=>none
  | some (.v (.slice none 0 0))=>some (0,.lit 1 [],[],h)
  | _=>none
 | _=>none
theorem qWi(hF:jM F)(T:zC n h.length tm e a)(S:qW F w0 h e w){size:Nat}{T0:TypeId}{x:Operand}{m:Nat}{c:Ct}{h1:List HO}(hq:zJy P tm h size T0 x=some (m,c,sd,h1))(hsd:xA F sd):
  ∃ news,Src P size T0 (a.eval x) m news w∧qW F w0 h1 e w∧(mem w e h).le (mem w e h1)∧qFb h h1∧xC ((mem w e h1).sub e.z) size m c.at news:=by
 unfold zJy at hq
 split at hq
 ·rename_i el hu
  split at hq
  ·rename_i j hx
   split at hq
   ·rename_i T1 sz m1 xs hj
    cases hb:Nat.beq sz size with
    | false=>rw[hb] at hq; cases hq
    | true =>
     rw[hb] at hq
     simp only[cond_true] at hq
     have:=Nat.eq_of_beq_eq_true hb
     subst this
     split at hq
     ·rename_i l s1 h2 hf
      simp only[sI,pI] at hq
      obtain⟨rfl,rfl,rfl,rfl⟩:=hq
      obtain⟨b1,b2,b3,b4,b5,b6⟩:=qPo hF xs h S hf hsd (S.ws j _ hj)
      obtain⟨⟨v1,v2⟩,v3⟩:=S.sat j _ hj
      refine⟨qS e xs,?_,b1,b2,b3,?_⟩
      ·rw[(qH T hx).1]
       simp only[den]
       rcases v2 with ⟨hv,hn⟩ | ⟨g,cap,cur,hv,hrest⟩
       ·subst hn
        have:qS e xs=[]:=List.eq_nil_of_length_eq_zero (by rw[v1]; simp)
        rw[hv,this]
        exact Src.ofNil w hu 0
       ·rw[hv]
        refine Src.ofSlice w hu ⟨g,0,none⟩ m1 cap (qS e xs) v1 ?_ v3
        have hown':w.ownsRow 0 T1 sz (e.row j) m1 (qS e xs):=⟨v1,.inr ⟨g,cap,cur,hv,hrest⟩⟩
        exact hown'.cells (by rw[hv]; rfl)
      ·intro k hk j' hj'
       have hlt:k*sz+j'<l.length:=by rw[b4,← qV e,v1]; exact qGh hk hj'
       obtain⟨u,q1,q2⟩:=b5 (k*sz+j') l[k*sz+j'] (List.getElem?_eq_getElem hlt)
       refine⟨u,q1,?_⟩
       show xF _ u (lc sz l k j')
       unfold lc
       rw[List.getD_eq_getElem?_getD,List.getElem?_eq_getElem hlt]
       exact q2
     ·cases hq
   ·rename_i T1 sz m1 c1 hj
    cases hb:Nat.beq sz size with
    | false=>rw[hb] at hq; cases hq
    | true =>
     rw[hb] at hq
     simp only[cond_true,sI,pI] at hq
     obtain⟨rfl,rfl,rfl,rfl⟩:=hq
     have:=Nat.eq_of_beq_eq_true hb
     subst this
     obtain⟨zB,⟨v1,v2⟩,v3,v4⟩:=S.sat j _ hj
     refine⟨zB,?_,S,Mem.le.refl _,⟨rfl,fun i ho hi=>.inl hi⟩,v4⟩
     rw[(qH T hx).1]
     simp only[den]
     rcases v2 with ⟨hv,hn⟩ | ⟨g,cap,cur,hv,hrest⟩
     ·subst hn
      have:zB=[]:=List.eq_nil_of_length_eq_zero (by rw[v1]; simp)
      rw[hv,this]
      exact Src.ofNil w hu 0
     ·rw[hv]
      refine Src.ofSlice w hu ⟨g,0,none⟩ m1 cap zB v1 ?_ v3
      have hown':w.ownsRow 0 T1 sz (e.row j) m1 zB:=⟨v1,.inr ⟨g,cap,cur,hv,hrest⟩⟩
      exact hown'.cells (by rw[hv]; rfl)
   ·cases hq
  ·rename_i i p hx
   split at hq
   ·rename_i c0 hi
    split at hq
    ·rename_i sz m1 c1 hc
     cases hb:Nat.beq sz size with
     | false=>rw[hb] at hq; cases hq
     | true =>
      rw[hb] at hq
      simp only[cond_true,sI,pI] at hq
      obtain⟨rfl,rfl,rfl,rfl⟩:=hq
      have:=Nat.eq_of_beq_eq_true hb
      subst this
      obtain⟨oa,⟨cap,hv,_⟩,h2⟩:=qJy S.q hi hc (zX fun x hx=>hsd x hx _ S.fact)
      rcases h2 with rfl | ⟨ad,rfl,h3⟩
      ·refine⟨[],?_,S,Mem.le.refl _,⟨rfl,fun i ho hi=>.inl hi⟩,fun k hk=>by omega⟩
       rw[(qH T hx).1]
       simp only[den]
       rw[hv]
       cases oa with
       | none=>exact Src.ofNil w hu cap
       | some ad=>exact Src.ofSlice w hu ad 0 cap [] (by simp) (fun j u hj=>by cases hj) (fun u hu=>by cases hu)
      ·refine⟨qIv m1 sz fun k j=>e.val i (p++[(sz,k,j)]),?_,S,Mem.le.refl _,⟨rfl,fun i ho hi=>.inl hi⟩,fun k hk j hj=>⟨_,qIg _ hk hj,qHd (h3 k hk j hj).2⟩⟩
       rw[(qH T hx).1]
       simp only[den]
       rw[hv]
       refine Src.ofSlice w hu ad m1 cap _ (qDn _ _ _) (fun d u hd=>?_) (fun u hu=>?_)
       ·have hlt:d<m1*sz:=by
         have:=(List.getElem?_eq_some_iff.1 hd).1
         rwa [qDn] at this
        obtain⟨k,j,hk,hj,rfl⟩:=zFz hlt
        rw[qIg _ hk hj] at hd
        simp only[sI] at hd
        subst hd
        exact wV ((Mem.sub_le _ _).trans (jE w e h)) (h3 k hk j hj).1
       ·obtain⟨k,j,_,_,rfl⟩:=zAq hu
        exact e.one i _
    ·cases hq
   ·cases hq
  ·rename_i hx
   simp only[sI,pI] at hq
   obtain⟨rfl,rfl,rfl,rfl⟩:=hq
   refine⟨[],?_,S,Mem.le.refl _,⟨rfl,fun i ho hi=>.inl hi⟩,fun k hk=>by omega⟩
   rw[(qH T hx).1]
   exact Src.ofNil w hu 0
  ·cases hq
 ·cases hq
def zQg(h:List HO)(el size:Nat)(j:Nat):Option (Nat×Ct×List zD×Option Nat) :=
 match h[j]? with
 | some (.row T1 sz nn xs)=>bif Nat.beq T1 el&&Nat.beq sz size then(match wQ h xs with
  | some (l,sd)=>some (nn,.lit size l,sd,some j)
  | none=>none) else none
 | some (.rowc T1 sz nn c)=>bif Nat.beq T1 el&&Nat.beq sz size then some (nn,c,[],some j) else none
 | _=>none
def zNr(h:List HO)(el size:Nat)(s:SV):Option (Nat×Ct×List zD×Option Nat) :=
 match s with
 | .o j=>zQg h el size j
 | .v (.slice none 0 0)=>some (0,.lit 1 [],[],none)
 | _=>none
def zKn(h:List HO)(e:Env)(b:Option Nat):Option Nat→Prop
 | some j=>j<h.length∧∃ ho,h[j]?=some ho∧ho.own e j=b
 | none=>b=none
theorem qXd(S:qW F w0 h e w){el size:Nat}{s:SV}{nn:Nat}{c:Ct}{oj:Option Nat}(hq:zNr h el size s=some (nn,c,sd,oj))(hsd:xA F sd):
  ∃ zB,w.ownsRow 0 el size (den e s) nn zB∧(∀ u∈zB,u.oneCell'=true)∧xC ((mem w e h).sub e.z) size nn c.at zB ∧
   zKn h e (den e s).ownBlock oj:=by
 unfold zNr at hq
 split at hq
 ·rename_i j
  unfold zQg at hq
  split at hq
  ·rename_i T1 sz n1 xs hj
   cases hb:Nat.beq T1 el&&Nat.beq sz size with
   | false=>rw[hb] at hq; cases hq
   | true =>
    rw[hb] at hq
    simp only[cond_true] at hq
    rw[Bool.and_eq_true] at hb
    have q1:=Nat.eq_of_beq_eq_true hb.1
    have q2:=Nat.eq_of_beq_eq_true hb.2
    subst q1
    subst q2
    split at hq
    ·rename_i l s1 hl
     simp only[sI,pI] at hq
     obtain⟨rfl,rfl,rfl,rfl⟩:=hq
     obtain⟨v1,v2⟩:=S.sat j _ hj
     exact⟨qS e xs,v1,v2,qRq S.q hl (fun x hx=>hsd x hx _ S.fact) v1.1,(List.getElem?_eq_some_iff.1 hj).1,_,hj,rfl⟩
    ·cases hq
  ·rename_i T1 sz n1 c1 hj
   cases hb:Nat.beq T1 el&&Nat.beq sz size with
   | false=>rw[hb] at hq; cases hq
   | true =>
    rw[hb] at hq
    simp only[cond_true,sI,pI] at hq
    rw[Bool.and_eq_true] at hb
    have q1:=Nat.eq_of_beq_eq_true hb.1
    have q2:=Nat.eq_of_beq_eq_true hb.2
    subst q1
    subst q2
    obtain⟨rfl,rfl,rfl,rfl⟩:=hq
    obtain⟨zB,v1,v2,v3⟩:=S.sat j _ hj
    exact⟨zB,v1,v2,v3,(List.getElem?_eq_some_iff.1 hj).1,_,hj,rfl⟩
  ·cases hq
 ·simp only[sI,pI] at hq
  obtain⟨rfl,rfl,rfl,rfl⟩:=hq
  exact⟨[],World.ownsRow_nil w 0 el size,fun u hu=>(by cases hu),fun k hk=>by omega,rfl⟩
 ·cases hq
theorem zEp{M:Mem}{sz n m:Nat}{c c2:Nat→Nat→qG}{zB news:List Value}(hl:zB.length=n*sz)(h1:xC M sz n c zB)(h2:xC M sz m c2 news):xC M sz (n+m) (qJg n c c2) (zB++news):=by
 intro k hk j hj
 unfold qJg
 by_cases h:k<n
 ·have hb:Nat.blt k n=true:=Nat.ble_eq_true_of_le h
  rw[hb,cond_true,List.getElem?_append_left (by rw[hl]; exact qGh h hj)]
  exact h1 k h j hj
 ·have hb:Nat.blt k n=false:=by
   rw[Bool.eq_false_iff]
   intro hh
   have:=Nat.le_of_ble_eq_true hh
   omega
  have hge:n*sz≤k*sz:=Nat.mul_le_mul_right _ (by omega)
  rw[hb,cond_false,List.getElem?_append_right (by rw[hl]; omega),hl,show k*sz+j-n*sz=(k-n)*sz+j by rw[Nat.sub_mul]; omega]
  exact h2 (k-n) (by omega) j hj
def qOj(h:List HO):Option Nat→List HO
 | some j=>h.set j .gone
 | none=>h
def qQg(P:Program)(tm:List (Nat×SV))(h:List HO)(D:List Dec)(T Tx:TypeId)(s x:Operand):LR :=
 match P.underlying T with
 | some (.slice el)=>match P.info? el with
  | some i=>match i.zero with
   | some z=>bif Nat.beq z.cells.size i.size then
     match zJy P tm h i.size Tx x with
     | some (m,c2,sd1,h1)=>match evO tm s with
      | some sv=>match zNr h1 el i.size sv with
       | some (nn,c,sd2,oj)=>some (some (.o h1.length),qOj h1 oj++[.rowc el i.size (nn+m) (.app nn c c2)],sd1++sd2++wA [(nn+m)*i.bytes≤140737488355328∧nn+m≤140737488355328],D)
       | none=>none
      | none=>none
     | none=>none
    else none
   | none=>none
  | none=>none
 | _=>none
theorem jR(h:List HO)(oj:Option Nat):(qOj h oj).length=h.length:=by cases oj <;> simp [qOj]
theorem qNh(hF:jM F)(T:zC n h.length tm e a)(S0:qW F w0 h e w){o:Oper}{cl:Call}{T0 Tx:TypeId}{s x:Operand}(ho:o.op=.call cl)(hc1:cl.callee=.builtin .append)(hc2:cl.args=#[s,x])(hc3:cl.argTypes=#[T0,Tx])(hq:qQg P tm h D T0 Tx s x=some (r,h',sd,D'))(hsd:xA F sd):wW P F w0 h h' e a w o r:=by
 have hexec:∀ v' w',(Builtin.append_ #[T0,Tx] o.type #[a.eval s,a.eval x]).run P w=.ok v' w'→(execOp a.eval o).run P w=.ok (.value v') w':=by
  intro v' w' hr
  simp [execOp,ho,resolve,hc1,hc2,hc3,invoke,builtin,hr]
 unfold qQg at hq
 split at hq
 ·rename_i el hu
  split at hq
  ·rename_i i hi
   split at hq
   ·rename_i z hz
    cases hb:Nat.beq z.cells.size i.size with
    | false=>rw[hb] at hq; cases hq
    | true =>
     rw[hb] at hq
     simp only[cond_true] at hq
     have hzs:=Nat.eq_of_beq_eq_true hb
     split at hq
     ·rename_i m c2 sd1 h1 hsrc
      split at hq
      ·rename_i sv hs
       split at hq
       ·rename_i nn c sd2 oj hdst
        simp only[sI,pI] at hq
        obtain⟨rfl,rfl,rfl,rfl⟩:=hq
        obtain⟨news,s1,S,s3,s4,s5⟩:=qWi hF T S0 hsrc fun x hx=>hsd x (List.mem_append_left _ (List.mem_append_left _ hx))
        obtain⟨zB,d1,d2,d3,d4⟩:=qXd S hdst fun x hx=>hsd x (List.mem_append_left _ (List.mem_append_right _ hx))
        obtain⟨hbytes,h63⟩:=zX (fun x hx=>hsd x (List.mem_append_right _ hx) _ S.fact) _ List.mem_cons_self
        obtain⟨v',w',r1,r2,r3,r4⟩:=qKt w T0 Tx o.type el i z hu hi hz hzs (den e sv) nn zB d1 (a.eval x) m news s1 hbytes h63
        have hag:=wI e h1.length v'
        have hrow:(e.setR h1.length v').row h1.length=v':=by simp [Env.setR]
        have hagh:zN h.length e (e.setR h1.length v'):=by rw[← s4.1]; exact hag
        refine⟨e.setR h1.length v',w',hagh,by have:=s4.1; simp only[List.length_append,jR]; omega,?_,(fun hk=>by rw[xZ,ho] at hk; cases hk),?_,?_⟩
        ·refine S.next hF h1.length (.rowc el i.size (nn+m) (.app nn c c2)) (by rw[List.length_append,jR]; omega) (by rw[List.getElem?_append_right (by rw[jR]; omega),jR]; simp) hag ?_ ?_ (den e sv).ownBlock ?_ ?_ ?_ trivial ?_ ?_ r3.size r3.os r3.tape r3.output
         ·intro k ho hk hk'
          rw[List.getElem?_append] at hk'
          split at hk'
          ·cases oj with
           | none=>exact .inl hk'
           | some j =>
            simp only[qOj] at hk'
            by_cases hkj:k=j
            ·subst hkj
             simp [d4.1] at hk'
             exact .inr hk'.symm
            ·exact .inl (qKg hkj hk')
          ·rename_i hge
           rw[jR] at hge hk'
           cases hk2:k-h1.length with
           | zero=>omega
           | succ q=>rw[hk2] at hk'; simp at hk'
         ·intro k ho hk hk'
          have hklt:=(List.getElem?_eq_some_iff.1 hk').1
          rw[List.getElem?_append_left (by rw[jR]; exact hklt)]
          cases oj with
          | none=>exact .inl hk'
          | some j =>
           simp only[qOj]
           by_cases hkj:k=j
           ·subst hkj
            right
            simp [d4.1]
           ·left
            rw[List.getElem?_set_ne (Ne.symm hkj)]
            exact hk'
         ·intro b hb'
          cases oj with
          | none=>rw[show(den e sv).ownBlock=none from d4] at hb'; cases hb'
          | some j =>
           obtain⟨hlt,ho',hj,hown⟩:=d4
           refine⟨j,ho',hj,by rw[hown]; exact hb',.inr ?_⟩
           rw[List.getElem?_append_left (by rw[jR]; exact hlt)]
           simp [qOj,hlt]
         ·intro ho b hk _
          have:=(List.getElem?_eq_some_iff.1 hk).1
          omega
         ·intro hM
          simp only[HO.sat,hrow]
          refine⟨zB++news,r2,fun u hu=>?_,zEp d1.1 (zO (Mem.sub_mono hM _) d3) (zO (Mem.sub_mono hM _) s5)⟩
          rcases List.mem_append.1 hu with hu | hu
          ·exact d2 u hu
          ·exact s1.one u hu
         ·intro b hb'
          simp only[HO.own,hrow] at hb'
          exact r4 b hb'
         ·intro b hb' hne
          exact r3.block b hb' (fun hh=>hne hh.symm)
        ·rw[hexec v' w' (by rw[(qH T hs).1]; exact r1)]
         simp only[den,hrow]
        ·simp only[ws]
         rw[List.length_append,jR]
         simp
       ·cases hq
      ·cases hq
     ·cases hq
   ·cases hq
  ·cases hq
 ·cases hq

/-! ### stores into rows of known content -/
theorem zEq{M:Mem}{sz n k j:Nat}{c:Nat→Nat→qG}{l:List qG}{zB ds:List Value}(hlen:l.length=ds.length)(hk:k<n)(hjl:j+l.length≤sz)(hvl:zB.length=n*sz)(hr:xC M sz n c zB)(hl:∀(d:Nat) (x:qG),l[d]?=some x→∃ u,ds[d]?=some u∧xF M u x):
  xC M sz n (qTy c k j l) (zB.take (k*sz+j)++ds++zB.drop (k*sz+j+ds.length)):=by
 intro k' hk' j' hj'
 have hin:k*sz+j+ds.length≤n*sz:=by
  have:(k+1)*sz≤n*sz:=Nat.mul_le_mul_right _ hk
  rw[Nat.add_mul] at this
  omega
 have e1:(zB.take (k*sz+j)).length=k*sz+j:=by rw[List.length_take]; omega
 have old:(k'*sz+j'<k*sz+j∨k*sz+j+ds.length≤k'*sz+j')→(zB.take (k*sz+j)++ds++zB.drop (k*sz+j+ds.length))[k'*sz+j']?=zB[k'*sz+j']?:=by
  intro hh
  rcases hh with hh | hh
  ·rw[List.append_assoc,List.getElem?_append_left (by rw[e1]; exact hh),List.getElem?_take,if_pos hh]
  ·rw[List.getElem?_append_right (by rw[List.length_append,e1]; exact hh),List.length_append,e1,List.getElem?_drop]
   congr 1
   omega
 unfold qTy
 by_cases hkk:k'=k
 ·subst hkk
  rw[Nat.beq_refl,Bool.true_and]
  by_cases hjj:j≤j'
  ·have hb:Nat.ble j j'=true:=Nat.ble_eq_true_of_le hjj
   rw[hb,cond_true]
   by_cases hd:j' - j<l.length
   ·obtain⟨u,h1,h2⟩:=hl (j' - j) l[j' - j] (List.getElem?_eq_getElem hd)
    rw[List.getElem?_eq_getElem hd]
    refine⟨u,?_,h2⟩
    rw[List.append_assoc,List.getElem?_append_right (by rw[e1]; omega),e1,List.getElem?_append_left (by omega)]
    rw[← h1]
    congr 1
    omega
   ·rw[show l[j' - j]?=none from List.getElem?_eq_none (by omega)]
    rw[old (by omega)]
    exact hr k' hk' j' hj'
  ·have hb:Nat.ble j j'=false:=by
    rw[Bool.eq_false_iff]
    intro hh
    exact hjj (Nat.le_of_ble_eq_true hh)
   rw[hb,cond_false,old (by omega)]
   exact hr k' hk' j' hj'
 ·have hb:Nat.beq k' k=false:=by
   rw[Bool.eq_false_iff]
   intro hh
   exact hkk (Nat.eq_of_beq_eq_true hh)
  rw[hb,Bool.false_and,cond_false,old ?_]
  ·exact hr k' hk' j' hj'
  ·rcases Nat.lt_or_gt_of_ne hkk with h | h
   ·have:(k'+1)*sz≤k*sz:=Nat.mul_le_mul_right _ h
    rw[Nat.add_mul] at this
    omega
   ·have:(k+1)*sz≤k'*sz:=Nat.mul_le_mul_right _ h
    rw[Nat.add_mul] at this
    omega
theorem qNi(hF:jM F)(T:zC n h.length tm e a)(S:qW F w0 h e w){o:Oper}{T0:TypeId}{x y:Operand}(ho:o.op=.store T0 x y)(hq:qQz P tm h D T0 x y=some (r,h',sd,D'))(hsd:∀ x∈sd,x (mem w e h)):wW P F w0 h h' e a w o r:=by
 unfold qQz at hq
 split at hq
 ·cases hq
 ·rename_i s hy
  split at hq
  ·rename_i cs k hcs hk
   obtain⟨c1,c2⟩:=xN S.q hcs
   split at hq
   ·rename_i l sd1 hl
    cases hb:Nat.beq l.length k with
    | false=>rw[hb] at hq; cases hq
    | true =>
    rw[hb] at hq
    simp only[cond_true] at hq
    have hlen:=Nat.eq_of_beq_eq_true hb
    split at hq
    ·rename_i i sz kk j hx
     split at hq
     ·rename_i T1 sz' nn c hi
      cases hb2:Nat.beq sz sz'&&Nat.ble (j+l.length) sz with
      | false=>rw[hb2] at hq; cases hq
      | true =>
       rw[hb2] at hq
       simp only[cond_true,sI,pI] at hq
       obtain⟨rfl,rfl,rfl,rfl⟩:=hq
       rw[Bool.and_eq_true] at hb2
       have:=Nat.eq_of_beq_eq_true hb2.1
       subst this
       have hjl:=Nat.le_of_ble_eq_true hb2.2
       obtain⟨a1,a2,a3⟩:=qCe S.q cs hl fun x hx=>hsd x (List.mem_append_left _ hx)
       have hkk:kk<nn:=zX (fun x hx=>hsd x (List.mem_append_right _ hx)) _ List.mem_cons_self
       obtain⟨zB,⟨v1,v2⟩,v3,v4⟩:=S.sat i _ hi
       rcases v2 with ⟨_,hn⟩ | ⟨g,cap,cur,hv,hbg,hg,hnc,hcm,hcs',ht⟩
       ·omega
       ·have hdl:(qS e cs).length=l.length:=by rw[qV,a1]
        have hnn:nn*sz≤cur.size:=by rw[hcs']; exact Nat.mul_le_mul_right _ hnc
        have hin:kk*sz+j+l.length≤nn*sz:=by
         have:(kk+1)*sz≤nn*sz:=Nat.mul_le_mul_right _ hkk
         rw[Nat.add_mul] at this
         omega
        have hst:=run_storeCells_at P g (kk*sz+j) T1 (qS e cs) 0 cur w hg (by rw[hdl]; omega) a3
        simp only[Nat.add_zero] at hst
        have hr:(Instr.storeAt T0 (.pointer (some ⟨g,kk*sz+j,none⟩)) (den e s)).run P w=.ok () (w.setRow g (cur.toList.take (kk*sz+j)++qS e cs++cur.toList.drop (kk*sz+j+(qS e cs).length)).toArray):=by
         simp [Instr.storeAt,Instr.sureAddr,storeVar,c1,← a1,hlen,zH hk w,hst,qV]
        have hown:(HO.rowc T1 sz nn c).own e i=some g:=by simp [HO.own,hv,Value.ownBlock]
        refine⟨e,_,zN.refl _ _,by simp,S.turn hF hi g hown (by simpa[HO.own] using hown) (w':=w.setRow g (cur.toList.take (kk*sz+j)++qS e cs++cur.toList.drop (kk*sz+j+(qS e cs).length)).toArray) ?_ trivial (fun k _ hne=>setRow_other w _ k _ hne) (by simp) rfl rfl rfl,(fun hk=>by rw[xZ,ho] at hk; cases hk),?_⟩
        ·intro hM
         refine⟨zB.take (kk*sz+j)++qS e cs++zB.drop (kk*sz+j+(qS e cs).length),⟨by rw[List.length_append,List.length_append,List.length_take,List.length_drop,v1,hdl]; omega,.inr ⟨g,cap,_,hv,hbg,setRow_heap w g cur _ T1 (0,0) hg,hnc,hcm,?_,?_⟩⟩,?_,zEq hdl.symm hkk hjl v1 (zO (Mem.sub_mono hM _) v4) (fun d x hd=>?_)⟩
         ·simp [hdl]
          omega
         ·rw[← ht]
          simp only[]
          rw[List.take_append,List.take_append]
          simp only[List.length_append,List.length_take,Array.length_toList,hdl,List.take_take,List.drop_take]
          have e1:min (kk*sz+j) cur.size=kk*sz+j:=by omega
          have e2:min (nn*sz) (kk*sz+j)=kk*sz+j:=by omega
          have e3:min (kk*sz+j) (nn*sz)=kk*sz+j:=by omega
          rw[e1,e2,e3]
          congr 1
          congr 1
          rw[List.take_of_length_le (by rw[hdl]; omega)]
         ·intro u hu
          rw[List.mem_append,List.mem_append] at hu
          rcases hu with (hu | hu) | hu
          ·exact v3 u (List.mem_of_mem_take hu)
          ·exact a3 u hu
          ·exact v3 u (List.mem_of_mem_drop hu)
         ·obtain⟨u,q1,q2⟩:=a2 d x hd
          exact⟨u,q1,qCs (Mem.sub_mono hM _) q2⟩
        ·simp only[execOp,ho,(qH T hx).1,(qH T hy).1]
         rw[Sem.run_bind]
         simp only[den,hv,qFt]
         rw[hr]
         rfl
     ·cases hq
    ·cases hq
   ·cases hq
  ·cases hq
end
end Go.Sx
/- make; a range over a string; all operations that make or write memory together. -/
namespace Go.Sx
open Go.RowKit

def zCi(P:Program)(tm:List (Nat×SV))(h:List HO)(D:List Dec)(T:TypeId)(l c:Operand):LR :=
 match P.underlying T,qFq tm l,qFq tm c with
 | some (.slice el),some (_,li),some (_,ci)=>match P.info? el with
  | some i=>match i.zero with
   | some z=>bif Nat.beq z.cells.size i.size&&z.cells.toList.all (fun u=>u.oneCell')&&Nat.blt 0 z.cells.size then
     some (some (.o h.length),h++[.rowc el i.size li.toNat (.zero z.cells.toList)],wA [0≤li∧li≤ci∧(i.bytes:Int)*ci≤281474976710656∧ci≤9223372036854775807],D)
    else none
   | none=>none
  | none=>none
 | _,_,_=>none
def qKu(tm:List (Nat×SV))(x:Option Operand)(dflt:Nat):Option (Nat×List Prop) :=
 match x with
 | none=>some (dflt,[])
 | some x=>match qFq tm x with
  | some (_,i)=>some (i.toNat,[0≤i])
  | none=>none
def qQi(P:Program)(tm:List (Nat×SV))(h:List HO)(D:List Dec)(T:TypeId)(x:Operand)(lo hi mx:Option Operand):LR :=
 match P.underlying T,mx,evO tm x with
 | some (.slice el),none,some (.x i p)=>match h[i]? with
  | some (.ext b0 c0)=>match yU c0 p,jO P el with
   | some (.s false sz n c),some sz'=>bif Nat.beq sz sz' then
     match qKu tm lo 0,qKu tm hi n with
     | some (l,s1),some (u,s2)=>some (some (.x h.length []),h++[.ext b0 (.s false sz (u-l) (fun k j=>c (k+l) j))],wA (pvs c0 p++(s1++(s2++[l≤u∧u≤n]))),D)
     | _,_=>none
    else none
   | _,_=>none
  | _=>none
 | _,_,_=>none
def qVr(P:Program)(tm:List (Nat×SV))(h:List HO)(D:List Dec)(T:TypeId)(x:Operand):LR :=
 match P.underlying T,evO tm x with
 | some .string,some (.v (.string s))=>some (some (.p h.length 0),h++[.obj (.stringIter s 0)],[],D)
 | _,_=>none
def zFe(tm:List (Nat×SV))(h:List HO)(D:List Dec)(it:Operand)(isS:Bool):LR :=
 match evO tm it,isS with
 | some (.p i 0),true=>match h[i]? with
  | some (.obj (.stringIter s pos))=>match D with
   | .t::D'=>some (some (.tup [.bl true,.v (.int .i64 pos),.v (.int .i32 (Utf8.decode s pos).1)]),h.set i (.obj (.stringIter s (pos+(Utf8.decode s pos).2))),[fun _=>pos<s.size],D')
   | .f::D'=>some (some (.tup [.bl false]),h,[fun _=>¬ pos<s.size],D')
   | _=>none
  | _=>none
 | _,_=>none
def u8n:Value→Option Nat
 | .int .u8 x=>some x.toNat
 | _=>none
def txt(l:List Value):ByteArray:=⟨(l.map fun v=>UInt8.ofNat ((u8n v).getD 0)).toArray⟩
def zB(xs:List SV):List Value:=xs.map fun s=>(jS s).getD undef
def zNi(P:Program)(tm:List (Nat×SV))(h:List HO)(D:List Dec)(src dst:TypeId)(x:Operand):LR :=
 match P.underlying src,P.underlying dst with
 | some (.slice el),some .string=>match P.underlying el with
  | some (.int .u8)=>match evO tm x with
   | some (.o i)=>match h[i]? with
    | some (.row _ sz _ xs)=>bif Nat.beq sz 1 then some (some (.v (.string (txt (zB xs)))),h,[fun _=>xs=(zB xs).map SV.v∧∀ v∈zB xs,∃ n:Nat,v=.int .u8 (n:Int)],D) else none
    | _=>none
   | _=>none
  | _=>none
 | _,_=>none
def zQz(tm:List (Nat×SV))(x:Operand):Bool:=match evO tm x with
 | some (.qk ..)=>true
 | _=>false
def xl(P:Program)(tm:List (Nat×SV))(h:List HO)(D:List Dec)(o:Oper):LR :=
 match o.op with
 | .alloc T=>qWa P h D T
 | .box T x=>zMs tm h D T x
 | .store T x y=>match (bif zQz tm x then qQz P tm h D T x y else none) with
  | some r=>some r
  | none=>qWh P tm h D T x y
 | .slice T x lo hi mx=>qQi P tm h D T x lo hi mx
 | .buildSlice t len parts=>qDv P tm h D t len parts
 | .makeSlice T l c=>zCi P tm h D T l c
 | .range T x=>qVr P tm h D T x
 | .next it isS=>zFe tm h D it isS
 | .convert src dst x=>zNi P tm h D src dst x
 | .call c=>match c.callee with
  | .builtin .append=>match c.args.toList,c.argTypes.toList with
   | [s,x],[T,Tx]=>qQg P tm h D T Tx s x
   | _,_=>none
  | _=>none
 | _=>none
section
variable {P : Program} {F : Mem → Prop} {w0 : qDe} {tm : List (Nat × SV)} {n : Nat} {h h' : List HO} {e : Env} {a : Act} {w : World} {D D' : List Dec} {r : Option SV} {sd : List zD}

theorem qW.newObj(hF:jM F)(S:qW F w0 h e w)(o:Obj)(ho:qXz o=false):
  qW F w0 (h++[.obj o]) (e.setB h.length w.heap.size) (w.alloc o):=by
 refine S.next hF h.length (.obj o) (by simp) (by simp) (yX e _ _) ?_ ?_ none (by simp) ?_ ?_ trivial ?_ ?_ (by simp) rfl rfl rfl
 ·intro i x hi hi'
  refine .inl ?_
  rw[List.getElem?_append] at hi'
  split at hi'
  ·exact hi'
  ·rename_i hlt
   cases hk:i-h.length with
   | zero=>omega
   | succ k=>rw[hk] at hi'; simp at hi'
 ·intro i x _ hi
  refine .inl ?_
  rw[List.getElem?_append_left (List.getElem?_eq_some_iff.1 hi).1]
  exact hi
 ·intro x b hi _
  have:=(List.getElem?_eq_some_iff.1 hi).1
  omega
 ·intro _
  simp only[HO.sat,Env.setB,if_true]
  exact⟨heap_alloc_new w o,ho⟩
 ·intro b hb
  simp only[HO.own,Env.setB,if_true,sI] at hb
  exact .inl (by omega)
 ·intro b hb _
  exact heap_alloc_old w _ b hb
theorem qEg(z:Array Value)(m n:Nat)(h:m≤n):(madeCells z n).toList.take m=(List.range m).map fun j=>z.toList[j%z.toList.length]!:=by
 simp only[madeCells,Array.toList_map,Array.toList_range,← List.map_take]
 rw[List.take_range,Nat.min_eq_left h]
 simp
 intro q _
 rw[getElem!_def]
 cases z[q%z.size]? <;> rfl
theorem qNo(z:Array Value)(m n:Nat){k j sz:Nat}(hm:n*sz≤m)(hsz:z.size=sz)(hk:k<n)(hj:j<sz):(madeCells z m).toList[k*sz+j]?=some (z.toList.getD j undef):=by
 have hlt:=qGh hk hj
 have h1:=qEg z (n*sz) m hm
 have h2:(madeCells z m).toList[k*sz+j]?=((madeCells z m).toList.take (n*sz))[k*sz+j]?:=by rw[List.getElem?_take,if_pos hlt]
 rw[h2,h1,List.getElem?_map,List.getElem?_range hlt]
 simp only[Option.map_some,Array.length_toList,hsz]
 have h3:(k*sz+j)%sz=j:=by rw[Nat.add_comm,Nat.mul_comm,Nat.add_mul_mod_self_left,Nat.mod_eq_of_lt hj]
 rw[h3,List.getD_eq_getElem?_getD,getElem!_pos z.toList j (by simp [hsz,hj]),List.getElem?_eq_getElem (by simp [hsz,hj])]
 rfl
theorem qUx(hF:jM F)(T:zC n h.length tm e a)(S:qW F w0 h e w){o:Oper}{T0:TypeId}{l c:Operand}(ho:o.op=.makeSlice T0 l c)(hq:zCi P tm h D T0 l c=some (r,h',sd,D'))(hsd:∀ x∈sd,x (mem w e h)):wW P F w0 h h' e a w o r:=by
 unfold zCi at hq
 split at hq
 ·rename_i el kl li kc ci hu hl hc
  split at hq
  ·rename_i i hi
   split at hq
   ·rename_i z hz
    cases hb:Nat.beq z.cells.size i.size&&z.cells.toList.all (fun u=>u.oneCell')&&Nat.blt 0 z.cells.size with
    | false=>rw[hb] at hq; cases hq
    | true =>
    rw[hb] at hq
    simp only[cond_true,sI,pI] at hq
    obtain⟨rfl,rfl,rfl,rfl⟩:=hq
    rw[Bool.and_eq_true,Bool.and_eq_true] at hb
    have hzs:=Nat.eq_of_beq_eq_true hb.1.1
    have s5:=hb.1.2
    obtain⟨s1,s2,s3,s4⟩:=zX hsd _ List.mem_cons_self
    have hr:=run_make (P:=P) w T0 el i z hu hi hz kl kc li ci s1 s2 s3 s4
    have hle:li.toNat*i.size≤ci.toNat*i.size:=Nat.mul_le_mul_right _ (by omega)
    rw[List.all_eq_true] at s5
    have hz1:∀ j,j<i.size→(z.cells.toList.getD j undef).oneCell'=true:=by
     intro j hj
     rw[List.getD_eq_getElem?_getD,List.getElem?_eq_getElem (by simpa[hzs] using hj)]
     exact s5 _ (List.getElem_mem _)
    refine⟨_,_,wI e h.length (.slice (some ⟨w.heap.size,0,none⟩) li.toNat ci.toNat),by simp,
     S.newRowc hF (w':=w.alloc (.cells (madeCells z.cells (ci.toNat*i.size)) el)) el i.size li.toNat _ _ (fun _=>⟨(madeCells z.cells (ci.toNat*i.size)).toList.take (li.toNat*i.size),?_,?_,?_⟩) ?_ (World.grownBy_alloc w _ none),fun _ b hb=>heap_alloc_old w _ b hb,?_,?_⟩
    ·exact⟨by rw[List.length_take,Array.length_toList,size_madeCells]; omega,.inr ⟨w.heap.size,ci.toNat,_,rfl,Nat.zero_le _,heap_alloc_new w _,by omega,by unfold maxLen; omega,size_madeCells _ _,rfl⟩⟩
    ·intro u hu
     rw[qEg _ _ _ hle,List.mem_map] at hu
     obtain⟨j,_,rfl⟩:=hu
     have hb2:=hb.2
     have h0:0<z.cells.size:=by have:=Nat.le_of_ble_eq_true hb2; omega
     have hlt:j%z.cells.toList.length<z.cells.toList.length:=Nat.mod_lt _ (by simpa using h0)
     rw[getElem!_pos z.cells.toList _ hlt]
     exact s5 _ (List.getElem_mem hlt)
    ·intro k hk j hj
     refine⟨_,?_,qFz (hz1 j hj)⟩
     rw[List.getElem?_take,if_pos (qGh hk hj)]
     exact qNo z.cells _ _ hle hzs hk hj
    ·intro b hb
     simp only[Value.ownBlock,sI] at hb
     omega
    ·simp only[execOp,ho,yG T hl,yG T hc]
     rw[Sem.run_bind,hr]
     simp only[Result.andThen_ok,Sem.run_pure,den,Env.setR,if_true]
    ·simp [ws]
   ·cases hq
  ·cases hq
 ·cases hq
theorem qW.newExt(hF:jM F)(S:qW F w0 h e w)(b0:Bool)(c:qG)(f:yT→Value)(hf:∀ p,(f p).oneCell'=true)(hc:qAa (if b0 then mem w e h else(mem w e h).sub e.z) f c []):qW F w0 (h++[.ext b0 c]) (e.setV h.length f hf) w:=by
 have hag:=wH e h.length f hf
 refine S.next hF h.length (.ext b0 c) (by simp) (by simp) hag ?_ ?_ none (by simp) (by simp [HO.own]) ?_ trivial (by simp [HO.own]) (fun b _ _=>rfl) (Nat.le_refl _) rfl rfl rfl
 ·intro i x hi hi'
  refine .inl ?_
  rw[List.getElem?_append] at hi'
  split at hi'
  ·exact hi'
  ·rename_i hlt
   cases hk:i-h.length with
   | zero=>omega
   | succ k=>rw[hk] at hi'; simp at hi'
 ·intro i x _ hi
  refine .inl ?_
  rw[List.getElem?_append_left (List.getElem?_eq_some_iff.1 hi).1]
  exact hi
 ·intro hM
  simp only[HO.sat]
  have hv:(e.setV h.length f hf).val h.length=f:=by simp [Env.setV]
  rw[hv]
  cases b0 with
  | true=>exact zR hM f c [] hc
  | false=>exact zR (Mem.sub_mono hM _) f c [] hc
theorem qDz(T:zC n h.length tm e a){x:Operand}{d r u:Nat}{l:List Prop}(hx:qKu tm (some x) d=some (r,l))(hl:∀ x∈l,x)(hu:r≤u)(c:BoundsCode):
  (Instr.sliceBound (a.eval x) u c).run P w=.ok r w:=by
 unfold qKu at hx
 simp only at hx
 split at hx
 ·rename_i k i hi
  simp only[sI,pI] at hx
  obtain⟨rfl,rfl⟩:=hx
  have h0:0≤i:=hl _ List.mem_cons_self
  rw[yG T hi]
  have h1:0≤i∧i≤(u:Int):=⟨h0,by omega⟩
  simp [Instr.sliceBound,asIntOf,h1]
 ·cases hx
theorem qNk(hF:jM F)(T:zC n h.length tm e a)(S:qW F w0 h e w){o:Oper}{T0:TypeId}{x:Operand}{lo hi mx:Option Operand}(ho:o.op=.slice T0 x lo hi mx)(hq:qQi P tm h D T0 x lo hi mx=some (r,h',sd,D'))(hsd:∀ x∈sd,x (mem w e h)):wW P F w0 h h' e a w o r:=by
 unfold qQi at hq
 split at hq
 ·rename_i el i p hu hx
  split at hq
  ·rename_i b0 c0 hi0
   split at hq
   ·rename_i sz n0 c sz' hc hsz
    cases hb:Nat.beq sz sz' with
    | false=>rw[hb] at hq; cases hq
    | true =>
     rw[hb] at hq
     simp only[cond_true] at hq
     have:=Nat.eq_of_beq_eq_true hb
     subst this
     split at hq
     ·rename_i l s1 u s2 hlo hhi
      simp only[sI,pI] at hq
      obtain⟨rfl,rfl,rfl,rfl⟩:=hq
      have hs:=zX hsd
      obtain⟨hlu,hun⟩:l≤u∧u≤n0:=hs _ (List.mem_append_right _ (List.mem_append_right _ (List.mem_append_right _ List.mem_cons_self)))
      have b1:∀ x∈s1,x:=fun x hx=>hs x (List.mem_append_right _ (List.mem_append_left _ hx))
      have b2:∀ x∈s2,x:=fun x hx=>hs x (List.mem_append_right _ (List.mem_append_right _ (List.mem_append_left _ hx)))
      obtain⟨oa,⟨cap,hv,hcap⟩,h2⟩:qAa (if b0 then mem w e h else(mem w e h).sub e.z) (e.val i) (.s false sz n0 c) p:=by
       cases b0 with
       | true=>exact qEo S.q hi0 hc (fun x hx=>hs x (List.mem_append_left _ hx))
       | false=>exact qJy S.q hi0 hc (fun x hx=>hs x (List.mem_append_left _ hx))
      have hbnd:(Instr.sliceBounds true n0 cap (lo.map a.eval) (hi.map a.eval) none).run P w=.ok (l,u,cap) w:=by
       cases hi with
       | none =>
        simp only[qKu,sI,pI] at hhi
        obtain⟨rfl,_⟩:=hhi
        cases lo with
        | none =>
         simp only[qKu,sI,pI] at hlo
         obtain⟨rfl,_⟩:=hlo
         simp [Instr.sliceBounds]
        | some z =>
         have b3:=fun c=>qDz (P:=P) (w:=w) T hlo b1 hlu c
         simp [Instr.sliceBounds,b3]
       | some y =>
        have b2':=fun c=>qDz (P:=P) (w:=w) T hhi b2 (show u≤cap by omega) c
        cases lo with
        | none =>
         simp only[qKu,sI,pI] at hlo
         obtain⟨rfl,_⟩:=hlo
         simp [Instr.sliceBounds,b2']
        | some z =>
         have b3:=fun c=>qDz (P:=P) (w:=w) T hlo b1 hlu c
         simp [Instr.sliceBounds,b2',b3]
      let v':Value:=.slice (if cap=l then oa else oa.map fun ad=>ad.add (l*sz)) (u-l) (cap-l)
      let f:yT→Value:=fun q=>match q with
       | []=>v'
       | (s',k,j)::q=>e.val i (p++(s',k+l,j)::q)
      have hf:∀ q,(f q).oneCell'=true:=fun q=>match q with
       | []=>rfl
       | (s',k,j)::q=>e.one i _
      have hrep:qAa (if b0 then mem w e h else(mem w e h).sub e.z) f (.s false sz (u-l) (fun k j=>c (k+l) j)) []:=by
       refine⟨_,⟨cap-l,rfl,by omega⟩,?_⟩
       rcases h2 with h0 | ⟨ad,rfl,h3⟩
       ·exact .inl (by omega)
       ·by_cases hul:u-l=0
        ·exact .inl hul
        ·refine .inr ⟨ad.add (l*sz),by rw[if_neg (by omega)]; rfl,fun k hk j hj=>?_⟩
         obtain⟨q1,q2⟩:=h3 (k+l) (by omega) j hj
         refine⟨?_,?_⟩
         ·rw[Go.Deep.add_add,show l*sz+(k*sz+j)=(k+l)*sz+j by rw[Nat.add_mul]; omega]
          exact q1
         ·have e1:=(xO (e.val i) (p++[(sz,k+l,j)]) (c (k+l) j) []).2 (by simpa using q2)
          have e2:=(xO f [(sz,k,j)] (c (k+l) j) []).1 (by
           have:(fun r=>f ([(sz,k,j)]++r))=fun r=>e.val i (p++[(sz,k+l,j)]++r):=by
            funext r
            show e.val i (p++(sz,k+l,j)::r)=_
            rw[List.append_assoc]; rfl
           rw[this]; exact e1)
          simpa using e2
      refine⟨_,w,wH e h.length f hf,by simp,S.newExt hF b0 _ f hf hrep,fun _ _ _=>rfl,?_,?_⟩
      ·simp only[execOp,ho,(qH T hx).1,den,Option.map_none,Instr.sliceAt,Instr.slice,hv,Sem.run_bind,run_underlying hu,Result.andThen_ok,Sem.run_pure,hbnd,zH hsz,Env.setV,if_true]
       rfl
      ·simp [ws]
     ·cases hq
   ·cases hq
  ·cases hq
 ·cases hq
theorem qRg(hF:jM F)(T:zC n h.length tm e a)(S:qW F w0 h e w){o:Oper}{T0:TypeId}{x:Operand}(ho:o.op=.range T0 x)(hq:qVr P tm h D T0 x=some (r,h',sd,D')):wW P F w0 h h' e a w o r:=by
 unfold qVr at hq
 split at hq
 ·rename_i s hu hx
  simp only[sI,pI] at hq
  obtain⟨rfl,rfl,rfl,rfl⟩:=hq
  refine⟨_,_,yX e h.length w.heap.size,by simp,S.newObj hF (.stringIter s 0) rfl,fun _ b hb=>heap_alloc_old w _ b hb,?_,?_⟩
  ·simp only[execOp,ho,(qH T hx).1,den]
   rw[Sem.run_bind,run_range_string w T0 s hu]
   simp only[Result.andThen_ok,Sem.run_pure,Env.setB,if_true]
   rfl
  ·simp [ws]
 ·cases hq
theorem qRx(hF:jM F)(T:zC n h.length tm e a)(S:qW F w0 h e w){o:Oper}{it:Operand}{isS:Bool}(ho:o.op=.next it isS)(hq:zFe tm h D it isS=some (r,h',sd,D'))(hsd:∀ x∈sd,x (mem w e h)):wW P F w0 h h' e a w o r:=by
 unfold zFe at hq
 split at hq
 ·rename_i i hx
  split at hq
  ·rename_i s pos hi
   have hsat:=(S.sat i _ hi).1
   have hlt:e.blk i<w.heap.size:=(Array.getElem?_eq_some_iff.1 hsat).1
   split at hq
   ·simp only[sI,pI] at hq
    obtain⟨rfl,rfl,rfl,rfl⟩:=hq
    have hp:pos<s.size:=hsd _ List.mem_cons_self
    refine⟨e,{ w with heap:=w.heap.setIfInBounds (e.blk i) (.stringIter s (pos+(Utf8.decode s pos).2)) },zN.refl _ _,by simp,
     S.turn hF hi (e.blk i) rfl rfl ?_ trivial ?_ (by simp) rfl rfl rfl,(fun hk=>by rw[xZ,ho] at hk; cases hk),?_,?_⟩
    ·intro _
     simp only[HO.sat]
     exact⟨by simp [hlt],rfl⟩
    ·intro k _ hne
     simp [Array.getElem?_setIfInBounds_ne (Ne.symm hne)]
    ·simp only[execOp,ho,(qH T hx).1,den,qS]
     simp [Instr.next,getObj,setObj,Sem.run,hsat,hp,goInt]
    ·exact⟨trivial,trivial,trivial,trivial⟩
   ·simp only[sI,pI] at hq
    obtain⟨rfl,rfl,rfl,rfl⟩:=hq
    have hp:¬ pos<s.size:=hsd _ List.mem_cons_self
    refine⟨e,w,zN.refl _ _,Nat.le_refl _,S,fun _ _ _=>rfl,?_,?_⟩
    ·simp only[execOp,ho,(qH T hx).1,den,qS]
     simp [Instr.next,getObj,Sem.run,hsat,hp]
    ·exact⟨trivial,trivial⟩
   ·cases hq
  ·cases hq
 ·cases hq
theorem qDy:∀(l:List Value) (r:ByteArray),(l.map fun v=>((u8n v).getD 0:Nat)).foldl (fun(r:ByteArray) (n:Nat)=>r.push (UInt8.ofNat ((n:Int)).toNat)) r=⟨r.data++(l.map fun v=>UInt8.ofNat ((u8n v).getD 0)).toArray⟩
 | [],r=>by simp
 | v::l,r=>by
  simp only[List.map_cons,List.foldl_cons]
  rw[qDy l]
  simp [ByteArray.push]
theorem qWf(T:zC n h.length tm e a)(S:qW F w0 h e w){o:Oper}{src dst:TypeId}{x:Operand}(ho:o.op=.convert src dst x)(hq:zNi P tm h D src dst x=some (r,h',sd,D'))(hsd:∀ x∈sd,x (mem w e h)):wW P F w0 h h' e a w o r:=by
 unfold zNi at hq
 split at hq
 ·rename_i el hs hd
  split at hq
  ·rename_i he
   split at hq
   ·rename_i i hx
    split at hq
    ·rename_i T1 sz m xs hi
     cases hb:Nat.beq sz 1 with
     | false=>rw[hb] at hq; cases hq
     | true =>
      rw[hb] at hq
      simp only[cond_true,sI,pI] at hq
      obtain⟨rfl,rfl,rfl,rfl⟩:=hq
      have hsz:=Nat.eq_of_beq_eq_true hb
      subst hsz
      obtain⟨hp,hu8⟩:xs=(zB xs).map SV.v∧∀ v∈zB xs,∃ n:Nat,v=.int .u8 (n:Int):=hsd _ List.mem_cons_self
      refine⟨e,w,zN.refl _ _,Nat.le_refl _,S,fun _ _ _=>rfl,?_,trivial⟩
      obtain⟨⟨h1,h2⟩,_⟩:=S.sat i _ hi
      have hden:qS e xs=zB xs:=by
       conv=>lhs; rw[hp,qAm]
      rw[hden] at h1 h2
      have hints:zB xs=((zB xs).map fun v=>((u8n v).getD 0:Nat)).map fun n=>Value.int .u8 ((n:Nat):Int):=by
       rw[List.map_map]
       conv=>lhs; rw[← List.map_id (zB xs)]
       apply List.map_congr_left
       intro v hv
       obtain⟨k,rfl⟩:=hu8 v hv
       simp [u8n]
      simp only[execOp,ho,(qH T hx).1,den]
      rcases h2 with ⟨hv,hn⟩ | ⟨g,cap,cur,hv,hrest⟩
      ·subst hn
       have hnil:zB xs=[]:=List.eq_nil_of_length_eq_zero (by rw[h1])
       rw[hv,hnil,Sem.run_bind,run_convert_bytes_string w src dst el none 0 0 hs he hd]
       rfl
      ·have hown':w.ownsRow 0 T1 1 (e.row i) m (zB xs):=⟨h1,.inr ⟨g,cap,cur,hv,hrest⟩⟩
       have hc:=hown'.cells (by rw[hv]; rfl)
       rw[hv,Sem.run_bind,run_convert_bytes_string w src dst el _ m cap hs he hd]
       have hl:(loadCells ⟨g,0,none⟩ m).run P w=.ok (((zB xs).map fun v=>((u8n v).getD 0:Nat)).map fun n=>Value.int .u8 ((n:Nat):Int)).toArray w:=by
        rw[← hints]
        have hm1:m=(zB xs).length:=by rw[h1,Nat.mul_one]
        rw[hm1]
        exact run_loadCells_list w ⟨g,0,none⟩ (zB xs) hc
       have:=run_bytesToString (P:=P) w ⟨g,0,none⟩ m cap (((zB xs).map fun v=>((u8n v).getD 0:Nat)).map fun n=>((n:Nat):Int)) (by rw[List.map_map]; exact hl)
       rw[this,List.foldl_map,qDy]
       simp [Sem.run_pure,txt]
    ·cases hq
   ·cases hq
  ·cases hq
 ·cases hq
theorem zCs(hF:jM F)(T:zC n h.length tm e a)(S:qW F w0 h e w){o:Oper}(hq:xl P tm h D o=some (r,h',sd,D'))(hsd:xA F sd):wW P F w0 h h' e a w o r:=by
 have hs:∀ x∈sd,x (mem w e h):=fun x hx=>hsd x hx _ S.fact
 unfold xl at hq
 split at hq
 ·rename_i ho; exact qRt hF S ho hq
 ·rename_i ho; exact qXq hF T S ho hq
 ·rename_i ho
  split at hq
  ·rename_i r0 hr
   simp only[sI] at hq
   subst hq
   cases hb:zQz tm _ with
   | false=>rw[hb] at hr; cases hr
   | true=>rw[hb] at hr; exact qNi hF T S ho hr hs
  ·exact qRo hF T S ho hq hs
 ·rename_i ho; exact qNk hF T S ho hq hs
 ·rename_i ho; exact qGr hF T S ho hq
 ·rename_i ho; exact qUx hF T S ho hq hs
 ·rename_i ho; exact qRg hF T S ho hq
 ·rename_i ho; exact qRx hF T S ho hq hs
 ·rename_i ho; exact qWf T S ho hq hs
 ·rename_i c ho
  split at hq
  ·rename_i hc
   split at hq
   ·rename_i s x T0 Tx h1 h2
    exact qNh hF T S ho hc (by rw[← h1]) (by rw[← h2]) hq hsd
   ·cases hq
  ·cases hq
 ·cases hq
end
end Go.Sx
/- Maps of one's own: made, read, written. -/
namespace Go.Pl
def xJ:List (List Int)→List Int→Bool
 | k::r,x=>decide (x=k)||xJ r x
 | [],_=>false
def yF:List (List Int)→List Int→List (List Int)
 | k::r,x=>bif decide (x=k) then k::r else k::yF r x
 | [],x=>[x]
def jK{α:Type}:List (List Int)→List α→List Int→α→List α
 | k::r,b::t,x,a=>bif decide (x=k) then a::t else b::jK r t x a
 | _,_,_,a=>[a]
def qGq:List (List Int)→List Int→List Int→Int
 | k::r,b::t,x=>bif decide (x=k) then b else qGq r t x
 | _,_,_=>0
end Go.Pl
namespace Go.Sx
open Go.Pl
def qIw:List (List Int)→List SV→List Int→Option SV
 | k::r,b::t,x=>bif decide (x=k) then some b else qIw r t x
 | _,_,_=>none
end Go.Sx
namespace Go.Sx
open Go.RowKit Go.Pl
theorem qMy:∀(kl:List (List Int)) (vs:List Value) (x:List Int) (i:Nat),vs.length=kl.length→(yR kl vs x i).isSome=xJ kl x
 | [],_,x,i,_=>by simp [yR,xJ]
 | k::r,v::t,x,i,h=>by
  by_cases hx:x=k
  ·simp [yR,xJ,hx]
  ·simp [yR,xJ,hx,qMy r t x (i+1) (by simpa using h)]
 | k::r,[],x,i,h=>by simp at h
theorem qJe{α:Type}:∀(kl:List (List Int)) (vs:List α) (x:List Int) (a:α),vs.length=kl.length→(jK kl vs x a).length=(yF kl x).length
 | [],[],x,a,_=>rfl
 | k::r,b::t,x,a,h=>by
  by_cases hx:x=k
  ·simp [yF,jK,hx]; simpa using h
  ·simp [yF,jK,hx,qJe r t x a (by simpa using h)]
 | k::r,[],x,a,h=>by simp at h
 | [],_::_,x,a,h=>by simp at h
theorem qEb:∀(kl:List (List Int)) (x y:List Int),y∈yF kl x→y∈kl∨y=x
 | [],x,y,h=>by simpa[yF] using h
 | k::r,x,y,h=>by
  by_cases hx:x=k
  ·simp only[yF,hx,decide_true,cond_true] at h
   exact .inl h
  ·simp only[yF,hx,decide_false,cond_false] at h
   rcases List.mem_cons.1 h with rfl | h
   ·exact .inl List.mem_cons_self
   ·exact(qEb r x y h).imp (List.mem_cons_of_mem _) id
theorem qSk(ag:Bool)(ks:List IntKind)(x:List Int)(a:Value):∀(i j:Nat) (kl:List (List Int)) (vs:List Value),vs.length=kl.length→yR kl vs x j=none →
  mpE ag ks i (yF kl x) (jK kl vs x a)=mpE ag ks i kl vs++[⟨mkT ag ks x,a,i+kl.length⟩]∧(yF kl x).length=kl.length+1
 | i,j,[],[],_,_=>by simp [yF,jK,mpE]
 | i,j,k::r,v::t,h,hf=>by
  by_cases hx:x=k
  ·simp [yR,hx] at hf
  ·simp only[yR,hx,if_false] at hf
   obtain⟨h1,h2⟩:=qSk ag ks x a (i+1) (j+1) r t (by simpa using h) hf
   simp only[yF,jK,hx,decide_false,cond_false,mpE,h1,List.length_cons,h2,List.cons_append]
   exact⟨by rw[show i+1+r.length=i+(r.length+1) by omega],trivial⟩
 | i,j,k::r,[],h,_=>by simp at h
 | i,j,[],_::_,h,_=>by simp at h
theorem qYw(ag:Bool)(ks:List IntKind)(x:List Int)(a u:Value):∀(i j d:Nat) (kl:List (List Int)) (vs:List Value),vs.length=kl.length→yR kl vs x j=some (d,u) →
  ∃ n,d=j+n∧mpE ag ks i (yF kl x) (jK kl vs x a)=(mpE ag ks i kl vs).modify n (fun e=>{ e with key:=mkT ag ks x,val:=a })∧(yF kl x).length=kl.length∧((mpE ag ks i kl vs)[n]?).map (·.key)=some (mkT ag ks x)
 | i,j,d,[],vs,_,hf=>by simp [yR] at hf
 | i,j,d,k::r,v::t,h,hf=>by
  by_cases hx:x=k
  ·subst hx
   simp only[yR,if_true,sI,pI] at hf
   obtain⟨rfl,rfl⟩:=hf
   exact⟨0,rfl,by simp [yF,jK,mpE],by simp [yF],by simp [mpE]⟩
  ·simp only[yR,hx,if_false] at hf
   obtain⟨n,h1,h2,h3,h4⟩:=qYw ag ks x a u (i+1) (j+1) d r t (by simpa using h) hf
   refine⟨n+1,by omega,?_,?_,?_⟩
   ·simp only[yF,jK,hx,decide_false,cond_false,mpE,h2,List.modify_succ_cons]
   ·simp only[yF,hx,decide_false,cond_false,List.length_cons,h3]
   ·simp only[mpE,List.getElem?_cons_succ]; exact h4
 | i,j,d,k::r,[],h,_=>by simp at h
theorem qId{α β:Type}(g:α→β):∀(kl:List (List Int)) (l:List α) (x:List Int) (a:α),(jK kl l x a).map g=jK kl (l.map g) x (g a)
 | [],l,x,a=>by simp [jK]
 | k::r,[],x,a=>by simp [jK]
 | k::r,b::t,x,a=>by
  by_cases hx:x=k
  ·simp [jK,hx]
  ·simp [jK,hx,qId g r t x a]
theorem qOd{α:Type}(u:α):∀(kl:List (List Int)) (x:List Int),jK kl (List.replicate kl.length u) x u=List.replicate (yF kl x).length u
 | [],x=>rfl
 | k::r,x=>by
  by_cases hx:x=k
  ·simp [jK,yF,hx,List.replicate_succ]
  ·simp [jK,yF,hx,List.replicate_succ,qOd u r x]
theorem qLk(q:IntKind):∀(kl:List (List Int)) (l:List Int) (x:List Int) (i:Nat),l.length=kl.length→((yR kl (l.map (Value.int q)) x i).map (·.2)).getD (.int q 0)=.int q (qGq kl l x)
 | [],l,x,i,_=>by simp [yR,qGq]
 | k::r,b::t,x,i,h=>by
  by_cases hx:x=k
  ·simp [yR,qGq,hx]
  ·simp [yR,qGq,hx,qLk q r t x (i+1) (by simpa using h)]
 | k::r,[],x,i,h=>by simp at h
theorem qTa:∀(kl:List (List Int)) (x:List Int) (i:Nat),((yR kl (List.replicate kl.length (.agg #[])) x i).map (·.2)).getD (.agg #[])=.agg #[]
 | [],x,i=>by simp [yR]
 | k::r,x,i=>by
  by_cases hx:x=k
  ·simp [yR,hx,List.replicate_succ]
  ·simp [yR,hx,List.replicate_succ,qTa r x (i+1)]
theorem qLl(e:Env):∀(kl:List (List Int)) (xs:List SV) (x:List Int) (i:Nat) (s:SV),qIw kl xs x=some s→(yR kl (qS e xs) x i).map (·.2)=some (den e s)∧xJ kl x=true∧s∈xs
 | [],_,x,i,s,h=>by simp [qIw] at h
 | k::r,[],x,i,s,h=>by simp [qIw] at h
 | k::r,b::t,x,i,s,h=>by
  by_cases hx:x=k
  ·simp only[qIw,hx,decide_true,cond_true,sI] at h
   subst h
   simp [yR,xJ,hx,qS]
  ·simp only[qIw,hx,decide_false,cond_false] at h
   obtain⟨h1,h2,h3⟩:=qLl e r t x (i+1) s h
   exact⟨by simpa[yR,hx,qS] using h1,by simp [xJ,h2],List.mem_cons_of_mem _ h3⟩
def qHe:List IntKind→List IntKind→Bool
 | [],[]=>true
 | a::r,b::t=>decide (a=b)&&qHe r t
 | _,_=>false
theorem qKs:∀ {a b:List IntKind},qHe a b=true→a=b
 | [],[],_=>rfl
 | a::r,b::t,h=>by
  simp only[qHe,Bool.and_eq_true,decide_eq_true_eq] at h
  rw[h.1,qKs h.2]
 | [],_::_,h=>by simp [qHe] at h
 | _::_,[],h=>by simp [qHe] at h
def zHk(tm:List (Nat×SV))(ag:Bool)(ks:List IntKind)(k:Operand):Option (List Int) :=
 match ag with
 | true=>match qDj tm k with
  | some (.agg cs)=>jA ks cs.toList
  | _=>none
 | false=>match qFq tm k,ks with
  | some (q,a),[q']=>bif decide (q=q') then some [a] else none
  | _,_=>none
def mc0(P:Program)(el:TypeId):Mc :=
 match P.underlying el with
 | some (.int q)=>.ints q []
 | some (.struct fs)=>bif Nat.beq fs.size 0 then .unit else .svs []
 | _=>.svs []
def qXo(P:Program)(key:TypeId→Option (Bool×List IntKind))(h:List HO)(D:List Dec)(T:TypeId):LR :=
 match P.underlying T with
 | some (.map kt el)=>match key kt with
  | some (ag,ks)=>some (some (.m h.length),h++[.mp ag ks [] (mc0 P el)],[],D)
  | none=>none
 | _=>none
def zPb(tm:List (Nat×SV))(kl:List (List Int))(c:Mc)(x:List Int)(v:Operand):Option (List (List Int)×Mc×List zD) :=
 match c with
 | .unit=>match qDj tm v with
  | some (.agg cs)=>bif Nat.beq cs.size 0 then some (yF kl x,.unit,[]) else none
  | _=>none
 | .ints q l=>match qFq tm v with
  | some (q',a)=>bif decide (q=q') then some (yF kl x,.ints q (jK kl l x a),[]) else none
  | none=>none
 | .svs xs=>match evO tm v with
  | some s=>some (yF kl x,.svs (jK kl xs x s),[])
  | none=>none
def qJv(P:Program)(key:TypeId→Option (Bool×List IntKind))(tm:List (Nat×SV))(h:List HO)(D:List Dec)(T:TypeId)(m k v:Operand):LR :=
 match P.underlying T,evO tm m with
 | some (.map kt _),some (.m i)=>match key kt,h[i]? with
  | some (ag,ks),some (.mp ag' ks' kl c)=>bif(ag==ag')&&qHe ks ks' then
    match zHk tm ag ks k with
    | some x=>match zPb tm kl c x v with
     | some (kl',c',sd)=>some (none,h.set i (.mp ag ks kl' c'),sd,D)
     | none=>none
    | none=>none
   else none
  | _,_=>none
 | _,_=>none
def okv(ok:Bool)(s:SV)(b:Bool):SV:=bif ok then .tup [s,.v (.bool b)] else s
def zOp(P:Program)(el:TypeId)(q:IntKind):Bool :=
 match qFj P (zeroValue el) with
 | some (.int q' n)=>decide (q'=q∧n=0)
 | _=>false
def zDo(P:Program)(el:TypeId):Bool :=
 match qFj P (zeroValue el) with
 | some (.agg cs)=>Nat.beq cs.size 0
 | _=>false
def qQl(P:Program)(key:TypeId→Option (Bool×List IntKind))(tm:List (Nat×SV))(h:List HO)(D:List Dec)(T:TypeId)(m k:Operand)(ok:Bool):LR :=
 match P.underlying T,evO tm m with
 | some (.map kt el),some (.m i)=>match key kt,h[i]? with
  | some (ag,ks),some (.mp ag' ks' kl c)=>bif(ag==ag')&&qHe ks ks' then
    match zHk tm ag ks k,c with
    | some x,.unit=>bif zDo P el then some (some (okv ok (.v (.agg #[])) (xJ kl x)),h,[],D) else none
    | some x,.ints q l=>bif zOp P el q then some (some (okv ok (.v (.int q (qGq kl l x))) (xJ kl x)),h,[],D) else none
    | some x,.svs xs=>match qFj P (zeroValue el),D with
     | some z,.lx []::D'=>some (some (okv ok (.v z) false),h,[fun _=>xJ kl x=false],D')
     | some _,.ld s::D'=>some (some (okv ok s true),h,[fun _=>qIw kl xs x=some s],D')
     | _,_=>none
    | _,_=>none
   else none
  | _,_=>none
 | _,_=>none
def xm(P:Program)(key:TypeId→Option (Bool×List IntKind))(tm:List (Nat×SV))(h:List HO)(D:List Dec)(o:Oper):LR :=
 match o.op with
 | .makeMap T none=>qXo P key h D T
 | .mapUpdate T m k v=>qJv P key tm h D T m k v
 | .insert T m k v=>qJv P key tm h D T m k v
 | .lookup T m k ok=>qQl P key tm h D T m k ok
 | _=>none
section
variable {P : Program} {F : Mem → Prop} {w0 : qDe} {tm : List (Nat × SV)} {n : Nat} {h h' : List HO} {e : Env} {a : Act} {w : World} {D D' : List Dec} {r : Option SV} {sd : List zD} {key : TypeId → Option (Bool × List IntKind)}

theorem qDd(T:zC n h.length tm e a){ag:Bool}{ks:List IntKind}{k:Operand}{x:List Int}(hk:zHk tm ag ks k=some x):a.eval k=mkT ag ks x∧x.length=ks.length:=by
 unfold zHk at hk
 cases ag with
 | true =>
  simp only at hk
  split at hk
  ·rename_i cs hc
   obtain⟨h1,h2⟩:=qAi ks _ hk
   refine⟨?_,h2⟩
   rw[zL T hc]
   simp only[mkT,if_true]
   rw[← h1]
  ·cases hk
 | false =>
  simp only at hk
  split at hk
  ·rename_i q y q' hi
   by_cases hq:q=q'
   ·subst hq
    simp only[decide_true,cond_true,sI] at hk
    subst hk
    exact⟨by rw[yG T hi]; simp [mkT,qX],rfl⟩
   ·simp [hq] at hk
  ·cases hk
theorem qQf{ag:Bool}{ks:List IntKind}(h1:ag=false→ks.length=1):∀(xs:List Int),xs.length=ks.length→Instr.sameBits 10000 (mkT ag ks xs) (mkT ag ks xs)=true:=by
 intro xs hx
 have hs:∀(m:Nat) (ks:List IntKind) (xs:List Int),((qX ks xs).zip (qX ks xs)).all (fun(p:Value×Value)=>Instr.sameBits m p.1 p.2)=true:=by
  intro m ks
  induction ks with
  | nil=>intro xs; rfl
  | cons q ks ih =>
   intro xs
   cases xs with
   | nil=>rfl
   | cons x xs =>
    have hb:Instr.sameBits m (.int q x) (.int q x)=true:=by cases m <;> simp [Instr.sameBits]
    simp only[qX,List.zip_cons_cons,List.all_cons,hb,Bool.true_and]
    exact ih xs
 cases ag with
 | true =>
  simp only[mkT,if_true]
  rw[show(10000:Nat)=9999+1 by rfl,Instr.sameBits]
  simp only[beq_self_eq_true,Bool.true_and]
  exact hs 9999 ks xs
 | false =>
  have h1':=h1 rfl
  match ks,xs,h1',hx with
  | [q],[x],_,_=>simp [mkT,qX,Instr.sameBits]
theorem qW.newMp(hF:jM F)(S:qW F w0 h e w)(ag:Bool)(ks:List IntKind)(c:Mc)(hc:∀ e,c.den e 0=[])(hw:∀ m,c.ws m):
  qW F w0 (h++[.mp ag ks [] c]) (e.setB h.length w.heap.size) (w.alloc (.map #[] 0)):=by
 refine S.next hF h.length (.mp ag ks [] c) (by simp) (by simp) (yX e _ _) ?_ ?_ none (by simp) ?_ ?_ (hw _) ?_ ?_ (by simp) rfl rfl rfl
 ·intro i x hi hi'
  refine .inl ?_
  rw[List.getElem?_append] at hi'
  split at hi'
  ·exact hi'
  ·rename_i hlt
   cases hk:i-h.length with
   | zero=>omega
   | succ k=>rw[hk] at hi'; simp at hi'
 ·intro i x _ hi
  refine .inl ?_
  rw[List.getElem?_append_left (List.getElem?_eq_some_iff.1 hi).1]
  exact hi
 ·intro x b hi _
  have:=(List.getElem?_eq_some_iff.1 hi).1
  omega
 ·intro _
  simp only[HO.sat,Env.setB,if_true,List.length_nil,hc]
  exact⟨heap_alloc_new w _,trivial,by simp⟩
 ·intro b hb
  simp only[HO.own,Env.setB,if_true,sI] at hb
  exact .inl (by omega)
 ·intro b hb _
  exact heap_alloc_old w _ b hb
theorem qQw(hF:jM F)(S:qW F w0 h e w){o:Oper}{T0:TypeId}(ho:o.op=.makeMap T0 none)(hq:qXo P key h D T0=some (r,h',sd,D')):wW P F w0 h h' e a w o r:=by
 unfold qXo at hq
 split at hq
 ·rename_i kt el hu
  split at hq
  ·rename_i ag ks hk
   simp only[sI,pI] at hq
   obtain⟨rfl,rfl,rfl,rfl⟩:=hq
   refine⟨_,_,yX e h.length w.heap.size,by simp,S.newMp hF ag ks (mc0 P el) ?_ ?_,(fun hk=>by rw[xZ,ho] at hk; cases hk),?_,?_⟩
   ·intro e
    unfold mc0
    split
    ·rfl
    ·rename_i fs _
     cases Nat.beq fs.size 0 <;> rfl
    ·rfl
   ·intro m
    unfold mc0
    split
    ·trivial
    ·rename_i fs _
     cases Nat.beq fs.size 0
     ·exact trivial
     ·exact trivial
    ·exact trivial
   ·simp only[execOp,ho,Option.map_none]
    rw[Sem.run_bind,run_makeMap]
    simp only[Result.andThen_ok,Sem.run_pure,den,Env.setB,if_true]
   ·simp [ws]
  ·cases hq
 ·cases hq
theorem qWl(T:zC n h.length tm e a){kl kl':List (List Int)}{c c':Mc}{x:List Int}{v:Operand}{sd:List zD}(hw:c.ws h.length)(hl:(c.den e kl.length).length=kl.length)(hu:zPb tm kl c x v=some (kl',c',sd)):
  kl'=yF kl x∧c'.den e kl'.length=jK kl (c.den e kl.length) x (a.eval v)∧c'.ws h.length:=by
 unfold zPb at hu
 cases c with
 | unit =>
  simp only at hu
  split at hu
  ·rename_i cs hc
   cases hb:Nat.beq cs.size 0 with
   | false=>rw[hb] at hu; cases hu
   | true =>
    rw[hb] at hu
    simp only[cond_true,sI,pI] at hu
    obtain⟨rfl,rfl,rfl⟩:=hu
    have h0:cs=#[]:=Array.eq_empty_of_size_eq_zero (Nat.eq_of_beq_eq_true hb)
    subst h0
    refine⟨rfl,?_,trivial⟩
    rw[zL T hc]
    exact(qOd _ kl x).symm
  ·cases hu
 | ints q l =>
  simp only at hu
  split at hu
  ·rename_i q' y hi
   by_cases hq:q=q'
   ·subst hq
    simp only[decide_true,cond_true,sI,pI] at hu
    obtain⟨rfl,rfl,rfl⟩:=hu
    refine⟨rfl,?_,trivial⟩
    rw[yG T hi]
    exact qId _ kl l x y
   ·simp [hq] at hu
  ·cases hu
 | svs xs =>
  simp only at hu
  split at hu
  ·rename_i s hs
   simp only[sI,pI] at hu
   obtain⟨rfl,rfl,rfl⟩:=hu
   obtain⟨h1,h2⟩:=qH T hs
   refine⟨rfl,?_,?_⟩
   ·simp only[Mc.den,yQ,h1]
    exact qId _ kl xs x s
   ·show wsL _ _
    have hw':wsL h.length xs:=hw
    rw[xD] at hw' ⊢
    have:∀(kl:List (List Int)) (xs:List SV),(∀ y∈xs,ws h.length y)→∀ y∈jK kl xs x s,ws h.length y:=by
     intro kl
     induction kl with
     | nil=>intro xs _ y hy; simp only[jK,List.mem_singleton] at hy; subst hy; exact h2
     | cons k r ih =>
      intro xs hx y hy
      cases xs with
      | nil=>simp only[jK,List.mem_singleton] at hy; subst hy; exact h2
      | cons b t =>
       simp only[jK] at hy
       cases hd:decide (x=k) with
       | true =>
        rw[hd] at hy
        rcases List.mem_cons.1 hy with rfl | hy
        ·exact h2
        ·exact hx y (List.mem_cons_of_mem _ hy)
       | false =>
        rw[hd] at hy
        rcases List.mem_cons.1 hy with rfl | hy
        ·exact hx _ List.mem_cons_self
        ·exact ih t (fun z hz=>hx z (List.mem_cons_of_mem _ hz)) y hy
    exact this kl xs hw'
  ·cases hu
theorem qNe{t kt el:TypeId}{ag:Bool}{ks:List IntKind}{kl:List (List Int)}{vs:List Value}{x:List Int}{v:Value}{b:Nat}(K:qNj P kt ag ks)(hu:P.underlying t=some (.map kt el))(hb:w.heap[b]?=some (mpO ag ks kl vs))(hl:vs.length=kl.length)(hk:∀ k∈kl,k.length=ks.length)(hx:x.length=ks.length):
  (Instr.mapUpdate t (.map (some b)) (mkT ag ks x) v).run P w=.ok () { w with heap:=w.heap.setIfInBounds b (mpO ag ks (yF kl x) (jK kl vs x v)) }:=by
 unfold mpO at hb
 simp only[Instr.mapUpdate,Sem.run_bind,run_underlying hu,Result.andThen_ok,MapKept.run_getObj_map hb,K.chk false x w hx,K.fnd kl vs x w hx hk hl]
 cases hf:yR kl vs x 0 with
 | none =>
  obtain⟨h1,h2⟩:=qSk ag ks x v 0 0 kl vs hl hf
  simp only[MapKept.run_setObj_map _ hb,mpO,h1,h2,Nat.zero_add,List.push_toArray]
 | some r =>
  obtain⟨d,u⟩:=r
  obtain⟨m,h0,h1,h2,h3⟩:=qYw ag ks x v u 0 0 d kl vs hl hf
  rw[Nat.zero_add] at h0
  subst h0
  have hkey:((mpE ag ks 0 kl vs).toArray[d]?.map (·.key)).getD (mkT ag ks x)=mkT ag ks x:=by
   rw[List.getElem?_toArray,h3]; rfl
  have hst:(Instr.keyThatStays (((mpE ag ks 0 kl vs).toArray[d]?.map (·.key)).getD (mkT ag ks x)) (mkT ag ks x)).run P w=.ok (mkT ag ks x) w:=by
   rw[hkey]
   simp [Instr.keyThatStays,qQf K.one x hx]
  simp only[Sem.run_bind,hst,Result.andThen_ok,MapKept.run_setObj_map _ hb,mpO,h1,h2]
  congr 4
  apply Array.toList_inj.1
  simp
theorem qFn(hF:jM F)(hkey:∀ t ag ks,key t=some (ag,ks)→qNj P t ag ks)(T:zC n h.length tm e a)(S:qW F w0 h e w){o:Oper}{T0:TypeId}{m k v:Operand}(ho:o.op=.mapUpdate T0 m k v∨o.op=.insert T0 m k v)(hq:qJv P key tm h D T0 m k v=some (r,h',sd,D')):wW P F w0 h h' e a w o r:=by
 unfold qJv at hq
 split at hq
 ·rename_i kt el i hu hm
  split at hq
  ·rename_i ag ks ag' ks' kl c hk0 hi
   cases hb:(ag==ag')&&qHe ks ks' with
   | false=>rw[hb] at hq; cases hq
   | true =>
    rw[hb] at hq
    simp only[cond_true] at hq
    rw[Bool.and_eq_true,beq_iff_eq] at hb
    obtain⟨rfl,hb2⟩:=hb
    have:=qKs hb2
    subst this
    split at hq
    ·rename_i x hx
     split at hq
     ·rename_i kl' c' sd' hup
      simp only[sI,pI] at hq
      obtain⟨rfl,rfl,rfl,rfl⟩:=hq
      have K:=hkey _ _ _ hk0
      obtain⟨s1,s2,s3⟩:=S.sat i _ hi
      obtain⟨x1,x2⟩:=qDd T hx
      obtain⟨rfl,u2,u3⟩:=qWl T (S.ws i _ hi) s2 hup
      have hrun:=qNe (P:=P) (w:=w) (v:=a.eval v) K hu s1 s2 s3 x2
      have hlt:e.blk i<w.heap.size:=(Array.getElem?_eq_some_iff.1 s1).1
      refine⟨e,_,zN.refl _ _,by simp,S.turn hF (ho:=.mp ag ks (yF kl x) c') hi (e.blk i) rfl rfl
       (w':={ w with heap:=w.heap.setIfInBounds (e.blk i) (mpO ag ks (yF kl x) (jK kl (c.den e kl.length) x (a.eval v))) }) ?_ u3 ?_ (by simp) rfl rfl rfl,(fun hk=>by rcases ho with ho | ho <;> (rw[xZ,ho] at hk; cases hk)),?_⟩
      ·intro _
       simp only[HO.sat,u2]
       refine⟨by simp [hlt],qJe kl _ x _ s2,fun y hy=>?_⟩
       rcases qEb kl x y hy with hy | rfl
       ·exact s3 y hy
       ·exact x2
      ·intro j _ hne
       simp [Array.getElem?_setIfInBounds_ne (Ne.symm hne)]
      ·have hmv:a.eval m=.map (some (e.blk i)):=(qH T hm).1
       rcases ho with ho | ho <;> (simp only[execOp,ho,hmv,x1]; rw[Sem.run_bind,hrun]; rfl)
     ·cases hq
    ·cases hq
  ·cases hq
 ·cases hq
theorem qDm{t kt el:TypeId}{ag:Bool}{ks:List IntKind}{kl:List (List Int)}{vs:List Value}{x:List Int}{b:Nat}{z:Value}(K:qNj P kt ag ks)(hu:P.underlying t=some (.map kt el))(hb:w.heap[b]?=some (mpO ag ks kl vs))(hl:vs.length=kl.length)(hk:∀ k∈kl,k.length=ks.length)(hx:x.length=ks.length)(hz:(zeroValue el).run P w=.ok z w)(ok:Bool):
  (Instr.lookup t (.map (some b)) (mkT ag ks x) ok).run P w=.ok (if ok then .tuple #[((yR kl vs x 0).map (·.2)).getD z,.bool (xJ kl x)] else((yR kl vs x 0).map (·.2)).getD z) w:=by
 unfold mpO at hb
 have hh:=qMy kl vs x 0 hl
 simp only[Instr.lookup,Sem.run_bind,run_underlying hu,Result.andThen_ok,MapKept.run_getObj_map hb,Sem.run_pure,K.chk _ x w hx,K.fnd kl vs x w hx hk hl]
 cases hf:yR kl vs x 0 with
 | none =>
  rw[hf] at hh
  simp only[Option.isSome_none] at hh
  simp only[Sem.run_bind,hz,Result.andThen_ok,Sem.run_pure,← hh,Option.map_none,Option.getD_none]
 | some r =>
  rw[hf] at hh
  simp only[Option.isSome_some] at hh
  simp only[Sem.run_bind,Sem.run_pure,Result.andThen_ok,← hh,Option.map_some,Option.getD_some]
theorem qNd(hkey:∀ t ag ks,key t=some (ag,ks)→qNj P t ag ks)(T:zC n h.length tm e a)(S:qW F w0 h e w){o:Oper}{T0:TypeId}{m k:Operand}{ok:Bool}(ho:o.op=.lookup T0 m k ok)(hq:qQl P key tm h D T0 m k ok=some (r,h',sd,D'))(hsd:xA F sd):wW P F w0 h h' e a w o r:=by
 have hokv:∀(s:SV) (v:Value) (b:Bool),den e s=v→den e (okv ok s b)=(if ok then .tuple #[v,.bool b] else v):=by
  intro s v b hs
  cases ok with
  | true=>simp [okv,den,qS,hs]
  | false=>simp [okv,hs]
 have hoks:∀(x:Value) (b:Bool),ws h.length (okv ok (.v x) b):=by
  intro x b
  cases ok with
  | true=>exact⟨trivial,trivial,trivial⟩
  | false=>exact trivial
 unfold qQl at hq
 split at hq
 ·rename_i kt el i hu hm
  have hmv:a.eval m=.map (some (e.blk i)):=(qH T hm).1
  split at hq
  ·rename_i ag ks ag' ks' kl c hk0 hi
   cases hb:(ag==ag')&&qHe ks ks' with
   | false=>rw[hb] at hq; cases hq
   | true =>
    rw[hb] at hq
    simp only[cond_true] at hq
    rw[Bool.and_eq_true,beq_iff_eq] at hb
    obtain⟨rfl,hb2⟩:=hb
    have:=qKs hb2
    subst this
    have K:=hkey _ _ _ hk0
    obtain⟨s1,s2,s3⟩:=S.sat i _ hi
    split at hq
    ·rename_i x hx
     cases hz:zDo P el with
     | false=>rw[hz] at hq; cases hq
     | true =>
      rw[hz] at hq
      simp only[cond_true,sI,pI] at hq
      obtain⟨rfl,rfl,rfl,rfl⟩:=hq
      obtain⟨x1,x2⟩:=qDd T hx
      have hz':(zeroValue el).run P w=.ok (.agg #[]) w:=by
       unfold zDo at hz
       split at hz
       ·rename_i cs hc
        have h0:cs=#[]:=Array.eq_empty_of_size_eq_zero (Nat.eq_of_beq_eq_true hz)
        subst h0
        exact jW hc w
       ·cases hz
      refine⟨e,w,zN.refl _ _,Nat.le_refl _,S,fun _ _ _=>rfl,?_,hoks _ _⟩
      simp only[execOp,ho,hmv,x1]
      rw[Sem.run_bind,qDm K hu s1 s2 s3 x2 hz' ok]
      simp only[Result.andThen_ok,Sem.run_pure,hokv _ _ _ rfl,den]
      rw[show Mc.den e kl.length .unit=List.replicate kl.length (.agg #[]) from rfl,qTa kl x 0]
    ·rename_i x q l hx
     cases hz:zOp P el q with
     | false=>rw[hz] at hq; cases hq
     | true =>
      rw[hz] at hq
      simp only[cond_true,sI,pI] at hq
      obtain⟨rfl,rfl,rfl,rfl⟩:=hq
      obtain⟨x1,x2⟩:=qDd T hx
      have hz':(zeroValue el).run P w=.ok (.int q 0) w:=by
       unfold zOp at hz
       split at hz
       ·rename_i q' y hc
        simp only[decide_eq_true_eq] at hz
        obtain⟨rfl,rfl⟩:=hz
        exact jW hc w
       ·cases hz
      refine⟨e,w,zN.refl _ _,Nat.le_refl _,S,fun _ _ _=>rfl,?_,hoks _ _⟩
      simp only[execOp,ho,hmv,x1]
      rw[Sem.run_bind,qDm K hu s1 s2 s3 x2 hz' ok]
      have hl2:l.length=kl.length:=by simpa[Mc.den] using s2
      simp only[Result.andThen_ok,Sem.run_pure,hokv _ _ _ rfl,den]
      rw[show Mc.den e kl.length (.ints q l)=l.map (Value.int q) from rfl,qLk q kl l x 0 hl2]
    ·rename_i x xs hx
     obtain⟨x1,x2⟩:=qDd T hx
     have hw':wsL h.length xs:=S.ws i _ hi
     split at hq
     ·rename_i z dd D2 hz
      simp only[sI,pI] at hq
      obtain⟨rfl,rfl,rfl,rfl⟩:=hq
      have hp:xJ kl x=false:=hsd _ List.mem_cons_self _ S.fact
      have hz':=jW hz w
      refine⟨e,w,zN.refl _ _,Nat.le_refl _,S,fun _ _ _=>rfl,?_,hoks _ _⟩
      simp only[execOp,ho,hmv,x1]
      rw[Sem.run_bind,qDm K hu s1 s2 s3 x2 hz' ok]
      simp only[Result.andThen_ok,Sem.run_pure,hokv _ _ _ rfl,den]
      have hn:yR kl (Mc.den e kl.length (.svs xs)) x 0=none:=by
       have:=qMy kl (Mc.den e kl.length (.svs xs)) x 0 s2
       rw[hp] at this
       simpa using this
      rw[hn,hp]
      rfl
     ·rename_i z s D2 hz
      simp only[sI,pI] at hq
      obtain⟨rfl,rfl,rfl,rfl⟩:=hq
      have hp:qIw kl xs x=some s:=hsd _ List.mem_cons_self _ S.fact
      obtain⟨f1,f2,f3⟩:=qLl e kl xs x 0 s hp
      have hz':=jW hz w
      have hws:ws h.length s:=((xD _ _).1 hw') s f3
      refine⟨e,w,zN.refl _ _,Nat.le_refl _,S,fun _ _ _=>rfl,?_,?_⟩
      ·simp only[execOp,ho,hmv,x1]
       rw[Sem.run_bind,qDm K hu s1 s2 s3 x2 hz' ok]
       simp only[Result.andThen_ok,Sem.run_pure,hokv _ _ _ rfl]
       rw[show Mc.den e kl.length (.svs xs)=qS e xs from rfl,f1,f2]
       rfl
      ·cases ok with
       | true=>exact⟨hws,trivial,trivial⟩
       | false=>exact hws
     ·cases hq
    ·cases hq
  ·cases hq
 ·cases hq
theorem zCt(hF:jM F)(hkey:∀ t ag ks,key t=some (ag,ks)→qNj P t ag ks)(T:zC n h.length tm e a)(S:qW F w0 h e w){o:Oper}(hq:xm P key tm h D o=some (r,h',sd,D'))(hsd:xA F sd):wW P F w0 h h' e a w o r:=by
 unfold xm at hq
 split at hq
 ·rename_i ho; exact qQw hF S ho hq
 ·rename_i ho; exact qFn hF hkey T S (.inl ho) hq
 ·rename_i ho; exact qFn hF hkey T S (.inr ho) hq
 ·rename_i ho; exact qNd hkey T S ho hq hsd
 ·cases hq
def xlm(P:Program)(X:Ext P)(tm:List (Nat×SV))(h:List HO)(D:List Dec)(o:Oper):LR :=
 match xl P tm h D o with
 | some r=>some r
 | none=>xm P X.key tm h D o
theorem qNw{X:Ext P}(hF:jM F)(T:zC n h.length tm e a)(S:qW F w0 h e w){o:Oper}(hq:xlm P X tm h D o=some (r,h',sd,D'))(hsd:xA F sd):wW P F w0 h h' e a w o r:=by
 unfold xlm at hq
 split at hq
 ·rename_i r0 hr
  simp only[sI] at hq
  subst hq
  exact zCs hF T S hr hsd
 ·exact zCt hF X.keyOk T S hq hsd
end
end Go.Sx
/- Regions that draw their order: what writes nothing may be taken first. -/
namespace Go.Sx
open Go.RowKit

def wJ(o:Oper):Bool:=match o.op with | .load ..=>true | _=>false
inductive Anc (ops : Array Oper) : Nat → Nat → Prop where
  | one {j i : Nat} {o : Oper} {e : Edge} (h : ops[j]? = some o) (he : e ∈ o.after) (hb : Region.binds .any e = true) (hi : e.on = i) : Anc ops j i
  | step {j i : Nat} {o : Oper} {e : Edge} (h : ops[j]? = some o) (he : e ∈ o.after) (hb : Region.binds .any e = true) (hr : Anc ops e.on i) : Anc ops j i
def qOx(acc:List Nat):List Edge→Nat
 | []=>0
 | e::r=>(bif Region.binds .any e then(2^e.on|||acc.getD e.on 0) else 0)|||qOx acc r
def qCz:List Nat→List Oper→List Nat
 | acc,[]=>acc
 | acc,o::r=>match qOx acc o.after.toList with
  | 0=>qCz (acc++[0]) r
  | m+1=>qCz (acc++[m+1]) r
theorem qMu{ops:Array Oper}{acc:List Nat}{j:Nat}{o:Oper}(ho:ops[j]?=some o)(hacc:∀ k i,(acc.getD k 0).testBit i=true→Anc ops k i):∀(l:List Edge),(∀ e∈l,e∈o.after)→∀ i,(qOx acc l).testBit i=true→Anc ops j i
 | [],_,i,h=>by simp [qOx] at h
 | e::r,hl,i,h=>by
  rw[qOx,Nat.testBit_or,Bool.or_eq_true] at h
  rcases h with h | h
  ·cases hb:Region.binds .any e with
   | false=>rw[hb] at h; simp at h
   | true =>
    rw[hb,cond_true,Nat.testBit_or,Bool.or_eq_true] at h
    rcases h with h | h
    ·rw[Nat.testBit_two_pow] at h
     exact .one ho (hl e List.mem_cons_self) hb (by simpa using h)
    ·exact .step ho (hl e List.mem_cons_self) hb (hacc _ _ h)
  ·exact qMu ho hacc r (fun x hx=>hl x (List.mem_cons_of_mem _ hx)) i h
theorem qGy{ops:Array Oper}:∀(l:List Oper) (acc:List Nat),ops.toList.drop acc.length=l→(∀ k i,(acc.getD k 0).testBit i=true→Anc ops k i)→∀ k i,((qCz acc l).getD k 0).testBit i=true→Anc ops k i
 | [],acc,_,h=>h
 | o::r,acc,hl,h=>by
  have ho:ops[acc.length]?=some o:=by
   have:(ops.toList.drop acc.length)[0]?=some o:=by rw[hl]; rfl
   rw[List.getElem?_drop,Nat.add_zero,Array.getElem?_toList] at this
   exact this
  have key:qCz acc (o::r)=qCz (acc++[qOx acc o.after.toList]) r:=by
   rw[qCz]
   split <;> (rename_i hm; rw[hm])
  rw[key]
  refine qGy r _ ?_ fun k i hk=>?_
  ·rw[List.length_append,List.length_singleton,← List.drop_drop,hl]; rfl
  ·rw[List.getD_eq_getElem?_getD,List.getElem?_append] at hk
   split at hk
   ·exact h k i (by rw[List.getD_eq_getElem?_getD]; exact hk)
   ·rename_i hge
    cases hd:k-acc.length with
    | zero =>
     rw[hd] at hk
     have hkk:k=acc.length:=by omega
     subst hkk
     exact qMu ho h o.after.toList (fun e he=>Array.mem_toList_iff.1 he) i (by simpa using hk)
    | succ d=>rw[hd] at hk; simp at hk
def zGs(ops:Array Oper)(j i:Nat):Bool:=((qCz [] ops.toList).getD j 0).testBit i
theorem qOk{ops:Array Oper}{j i:Nat}(h:zGs ops j i=true):Anc ops j i :=
 qGy ops.toList [] rfl (fun k i hk=>by simp at hk) j i h
def qBz(ops:Array Oper)(l:Array Bool):Prop:=∀(j:Nat) (o:Oper),ops[j]?=some o→l.getD j false=true→∀ e∈o.after,Region.binds .any e=true→l.getD e.on false=true
theorem qBz.anc{ops:Array Oper}{l:Array Bool}(hc:qBz ops l){j i:Nat}(h:Anc ops j i):(∀(o:Oper),ops[j]?=some o→∀ e∈o.after,Region.binds .any e=true→l.getD e.on false=true)→l.getD i false=true:=by
 induction h with
 | one h he hb hi=>intro hd; subst hi; exact hd _ h _ he hb
 | step h he hb hr ih=>intro hd; exact ih fun o ho=>hc _ o ho (hd _ h _ he hb)
theorem qBz.init(ops:Array Oper)(n:Nat):qBz ops (Array.replicate n false):=by
 intro j o _ h
 have:(Array.replicate n false).getD j false=false:=by
  simp only[Array.getD_eq_getD_getElem?,Array.getElem?_replicate]
  split <;> rfl
 rw[this] at h
 cases h
theorem qBz.set{ops:Array Oper}{l:Array Bool}(hc:qBz ops l){j:Nat}(hj:j∈Region.ready .any ops l):qBz ops (l.setIfInBounds j true):=by
 obtain⟨_,oj,hoj,hall⟩:=mem_ready.1 hj
 have mono:∀ k,l.getD k false=true→(l.setIfInBounds j true).getD k false=true:=by
  intro k hk
  by_cases hjk:j=k
  ·subst hjk
   have hlt:j<l.size:=by
    rcases Nat.lt_or_ge j l.size with h | h
    ·exact h
    ·rw[Array.getD_eq_getD_getElem?,Array.getElem?_eq_none h] at hk; cases hk
   simp [Array.getD_eq_getD_getElem?,hlt]
  ·rw[getD_set_ne false hjk]; exact hk
 intro k o ho hk e he hb
 by_cases hjk:j=k
 ·subst hjk
  rw[hoj] at ho
  cases ho
  exact mono _ (hall e he hb)
 ·rw[getD_set_ne false hjk] at hk
  exact mono _ (hc k o ho hk e he hb)
def nd0(ops:Array Oper)(j:Nat):Bool :=
 (List.range ops.size).any fun i=>match ops[i]? with
  | some oi=>wJ oi&&!(Nat.beq i j)&&!(zGs ops j i)
  | none=>false
def zGy(o:Oper):Bool:=match o.op with | .store ..=>true | _=>false
def qTh(ops:Array Oper):Bool :=
 (List.range ops.size).any fun j=>match ops[j]? with
  | some o=>zGy o&&nd0 ops j
  | _=>false
def qJo(ops:Array Oper)(j:Nat):Bool:=bif qTh ops then false else nd0 ops j
def qOu(ops:Array Oper)(o:Oper):Bool:=bif wJ o then !qTh ops else true
theorem qLs{ops:Array Oper}{o:Oper}(h:qOu ops o=true)(hl:wJ o=true):qTh ops=false:=by
 unfold qOu at h
 rw[hl] at h
 simpa using h
def qWs(S:World→Prop):Prop:=∀ w w',qJm w w'→S w→S w'
section
variable {P : Program} {ops : Array Oper} {Q : Exit → Act → World → Prop} {S : World → Prop}
def qMk(P:Program)(ops:Array Oper)(Q:Exit→Act→World→Prop):Nat→Array Bool→Act→World→Prop
 | 0,listed,a,w=>Region.ready .any ops listed=[]∧Q .normal a w
 | fuel+1,listed,a,w =>
  (Region.ready .any ops listed=[]→Q .normal a w) ∧
  ∀ i∈Region.ready .any ops listed,wpOp P ops Q i (fun a' w'=>(qJo ops i=true→qJm w w')∧qMk P ops Q fuel (listed.setIfInBounds i true) a' w') a w
theorem qKx:∀(fuel:Nat) (listed:Array Bool) (a:Act) (w:World),qMk P ops Q fuel listed a w→wpAny P .any ops Q fuel listed a w
 | 0,_,_,_,h=>h
 | fuel+1,_,_,_,h=>⟨h.1,fun i hi=>wpOp_mono (fun a' w' h'=>qKx fuel _ a' w' h'.2) (h.2 i hi)⟩
theorem zAg{i j:Nat}{oi:Oper}(hi:ops[i]?=some oi)(hl:wJ oi=true)(hne:j≠i)(hno:¬ Anc ops j i)(hlate:qTh ops=false):qJo ops j=true:=by
 unfold qJo
 rw[hlate]
 simp only[cond_false]
 unfold nd0
 rw[List.any_eq_true]
 refine⟨i,List.mem_range.2 (Array.getElem?_eq_some_iff.1 hi).1,?_⟩
 simp only[hi,hl,Bool.true_and]
 have h1:Nat.beq i j=false:=by
  cases hb:Nat.beq i j with
  | false=>rfl
  | true=>exact absurd (Nat.eq_of_beq_eq_true hb).symm hne
 have h2:zGs ops j i=false:=by
  rw[Bool.eq_false_iff]
  exact fun hh=>hno (qOk hh)
 rw[h1,h2]
 rfl
def qEc(P:Program)(ops:Array Oper)(Q:Exit→Act→World→Prop)(f:Nat)(l:Array Bool)(a:Act)(w:World):Prop:=qBz ops l→qMk P ops Q f l a w
def qGt(ops:Array Oper)(listed:Array Bool)(i:Nat):Bool :=
 match ops[i]? with
 | none=>false
 | some oi=>(List.range ops.size).all fun j=>Nat.beq j i||listed.getD j true||match ops[j]? with
   | some oj=>oi.apart ops oj||zGs ops j i
   | none=>true
theorem qVz{i:Nat}{oi:Oper}{listed:Array Bool}(hi:ops[i]?=some oi)(h:qGt ops listed i=true)(j:Nat)(oj:Oper)(hj:ops[j]?=some oj)(hne:j≠i)(hun:listed.getD j true=false)(hno:¬ Anc ops j i):oi.apart ops oj=true:=by
 simp only[qGt,hi,List.all_eq_true,List.mem_range] at h
 have h1:=h j (Array.getElem?_eq_some_iff.1 hj).1
 have hb:Nat.beq j i=false:=by
  cases hb:Nat.beq j i with
  | false=>rfl
  | true=>exact absurd (Nat.eq_of_beq_eq_true hb) hne
 simp only[hj,Bool.or_eq_true,hb,hun,Bool.false_eq_true,false_or] at h1
 rcases h1 with h1 | h1
 ·exact h1
 ·exact absurd (qOk h1) hno
theorem qQy(hSt:qWs S){i:Nat}{oi:Oper}{v:Value}(hi:ops[i]?=some oi)(hlt:wJ oi=true→qTh ops=false)(hsel:∀(j:Nat) (o:Oper) cs b,ops[j]?=some o→o.op≠.select cs b)(hQ:∀ c a w,Q (.panic c) (a.put oi.dst v) w→Q (.panic c) a w):
  ∀(fuel:Nat) (listed:Array Bool) (a:Act) (w:World),
   (∀ j oj,ops[j]?=some oj→j≠i→listed.getD j true=false→¬ Anc ops j i→oi.apart ops oj=true) →
   qBz ops listed→i∈Region.ready .any ops listed→YieldsIf P ops (fun w=>wJ oi=true→S w) oi v a→(wJ oi=true→S w) →
   qMk P ops Q fuel (listed.setIfInBounds i true) (a.put oi.dst v) w→qMk P ops Q (fuel+1) listed a w:=by
 intro fuel
 induction fuel with
 | zero =>
  intro listed a w _ _ hr hy hS H
  refine⟨fun h=>(by rw[h] at hr; cases hr),fun j hj=>?_⟩
  by_cases hji:j=i
  ·subst hji; exact hy.wpOp hi hS ⟨fun _ _ _=>rfl,H⟩
  ·have:=ready_mono hj hji
   rw[H.1] at this
   cases this
 | succ fuel ih =>
  intro listed a w hfree hcl hr hy hS H
  refine⟨fun h=>(by rw[h] at hr; cases hr),fun j hj=>?_⟩
  by_cases hji:j=i
  ·subst hji; exact hy.wpOp hi hS ⟨fun _ _ _=>rfl,H⟩
  ·have h1:=H.2 j (ready_mono hj hji)
   obtain⟨hjun,oj,hoj,hall⟩:=mem_ready.1 hj
   have hanc:¬ Anc ops j i:=fun hh=>by
    have h1:=hcl.anc hh (fun o ho e he hb=>by rw[hoj] at ho; cases ho; exact hall e he hb)
    have h0:=(mem_ready.1 hr).1
    rcases Nat.lt_or_ge i listed.size with h' | h'
    ·simp [h'] at h0 h1; rw[h0] at h1; cases h1
    ·simp [Array.getElem?_eq_none h'] at h1
   have h2:=wpOp_putIf hoj (hfree j oj hoj hji hjun hanc) (fun cs b=>hsel i oi cs b hi) (fun cs b=>hsel j oj cs b hoj) hQ hy h1
   have hfree':∀ k ok,ops[k]?=some ok→k≠i→(listed.setIfInBounds j true).getD k true=false →
     ¬ Anc ops k i→oi.apart ops ok=true:=fun k ok hk hki hun hno=>by
    refine hfree k ok hk hki ?_ hno
    by_cases hjk:j=k
    ·subst hjk; exact hjun
    ·rw[getD_set_ne true hjk] at hun; exact hun
   refine wpOp_mono (fun a' w' h3=>⟨h3.2.1,ih (listed.setIfInBounds j true) a' w' hfree' (hcl.set hj) (ready_mono hr (Ne.symm hji)) h3.1 (fun hl=>?_) ?_⟩) h2
   ·exact hSt w w' (h3.2.1 (zAg hi hl hji hanc (hlt hl))) (hS hl)
   ·rw[Array.setIfInBounds_comm _ _ hji]
    exact h3.2.2
theorem qUa(hSt:qWs S){i:Nat}{oi:Oper}{v:Value}{fuel:Nat}{listed:Array Bool}{a:Act}{w:World}(hi:ops[i]?=some oi)(hlt:wJ oi=true→qTh ops=false)(hs:Region.noSelect ops=true)(hf:qGt ops listed i=true)(hr:(Region.ready .any ops listed).contains i=true)(hQ:∀ c a w,Q (.panic c) (a.put oi.dst v) w→Q (.panic c) a w)(hy:YieldsIf P ops (fun w=>wJ oi=true→S w) oi v a)(hS:S w)(h:qEc P ops Q fuel (listed.setIfInBounds i true) (a.put oi.dst v) w):qEc P ops Q (fuel+1) listed a w :=
 fun hcl=>qQy hSt hi hlt (Region.noSelect_spec hs) hQ fuel listed a w (qVz hi hf) hcl (by simpa using hr) hy (fun _=>hS) (h (hcl.set (by simpa using hr)))
theorem qUl{listed:Array Bool}{a:Act}{w:World}(hr:Region.ready .any ops listed=[])(h:Q .normal a w):∀ fuel,qEc P ops Q fuel listed a w
 | 0=>fun _=>⟨hr,h⟩
 | _+1=>fun _=>⟨fun _=>h,by rw[hr]; simp⟩
theorem qSm{id:Nat}{a:Act}{w:World}(hm:P.follows .mixedOrders=true)(h:qEc P ops Q ops.size (Array.replicate ops.size false) a w.drew):(Code.region id ops true).wp P Q a w :=
 wp_region_any hm (qKx _ _ _ _ (h (qBz.init _ _)))
end

theorem qUs{h:List HO}{e:Env}{w w':World}(hg:qJm w w'):(mem w e h).le (mem w' e h):=by
 intro b o hb
 unfold mem at hb ⊢
 split at hb
 ·cases hb
 ·rename_i hno
  rw[if_neg hno,hg b ?_]
  ·exact hb
  ·rcases Nat.lt_or_ge b w.heap.size with hh | hh
   ·exact hh
   ·rw[Array.getElem?_eq_none hh] at hb; cases hb
theorem qKm{e:Env}{M M':Mem}{i:Nat}{w w':World}{ho:HO}(hM:M.le M')(hg:qJm w w')(hs:ho.sat e M i w):ho.sat e M' i w':=by
 have hk:∀ b,ho.own e i=some b→w'.heap[b]?=w.heap[b]?:=fun b hb=>hg b (HO.own_lt hs hb)
 cases ho with
 | cells cs T =>
  simp only[HO.sat] at hs ⊢
  rw[hk _ rfl]
  exact hs
 | row T size n xs=>exact⟨qAj hs.1 hk,hs.2⟩
 | rowc T size n c =>
  obtain⟨zB,h1,h2,h3⟩:=hs
  exact⟨zB,qAj h1 hk,h2,zO (Mem.sub_mono hM _) h3⟩
 | ext b c =>
  simp only[HO.sat] at hs ⊢
  cases b with
  | true=>exact zR hM _ c [] hs
  | false=>exact zR (Mem.sub_mono hM _) _ c [] hs
 | obj o =>
  simp only[HO.sat] at hs ⊢
  rw[hk _ rfl]
  exact hs
 | mp ag ks kl c =>
  simp only[HO.sat] at hs ⊢
  rw[hk _ rfl]
  exact hs
 | gone=>trivial
theorem zDt{F:Mem→Prop}{h:List HO}{e:Env}(hF:jM F):qWs (xR F h e):=by
 intro w w' hg S
 have hM:=qUs (h:=h) (e:=e) hg
 exact⟨fun i ho hi=>qKm hM hg (S.sat i ho hi),hF _ _ hM S.fact⟩
end Go.Sx
/- The run through a function's body, cut at loops and calls, and that it is so. -/
namespace Go.Sx
open Go.RowKit

def qIu(i:Nat):Code→Code
 | .seq a b=>match i with | 0=>a | _=>b
 | .cond _ a b=>match i with | 0=>a | _=>b
 | .block _ b=>b
 | .loop b=>b
 | .scope b=>b
 | c=>c
def sub(B:Code):List Nat→Code
 | []=>B
 | i::p=>qIu i (sub B p)
inductive It where
  | at (p : List Nat)
  | blk (id : Nat)
  | rnd (p : List Nat) (m : Nat)
  | ret
  | ops (p : List Nat) (i : Nat)
  | any (p : List Nat) (fuel : Nat) (listed : Array Bool)
  | one (p : List Nat) (fuel : Nat) (listed : Array Bool) (i : Nat)

def jD(P:Program)(B:Code)(fin:Exit→Act→World→Prop):List It→Exit→Act→World→Prop
 | [],e,a,w=>fin e a w
 | .at p::k,.normal,a,w=>(sub B p).wp P (jD P B fin k) a w
 | .ops p i::k,.normal,a,w=>match sub B p with
  | .region _ ops _=>wpList P ops (jD P B fin k) (ops.toList.drop i) a w
  | _=>False
 | .any p f l::k,.normal,a,w=>match sub B p with
  | .region _ ops _=>qEc P ops (jD P B fin k) f l a w
  | _=>False
 | .one p f l i::k,.normal,a,w=>match sub B p with
  | .region _ ops _=>wpOp P ops (jD P B fin k) i (fun a' w'=>(qJo ops i=true→qJm w w')∧qEc P ops (jD P B fin k) f (l.setIfInBounds i true) a' w') a w
  | _=>False
 | .ret::k,.normal,a,w=>jD P B fin k .ret a w
 | .rnd p m::k,.normal,a,w=>Code.rounds P (sub B p) (jD P B fin k) m a w
 | .blk _::k,.normal,a,w=>jD P B fin k .normal a w
 | .blk id::k,.exit id',a,w=>if id'=id then jD P B fin k .normal a w else jD P B fin k (.exit id') a w
 | _::k,e,a,w=>jD P B fin k e a w
structure St where
  tm : List (Nat × SV)
  heap : List HO

structure qDx where
  sd : List zD
  k : List It
  st : St
  D : List Dec

def qTd(id:Nat):List It→Option (List It)
 | []=>none
 | .blk id'::k=>bif Nat.beq id id' then some k else qTd id k
 | _::k=>qTd id k
def qGd(ops:Array Oper)(st:St)(D:List Dec)(o:Oper):Option (Bool×St×List zD×List Dec) :=
 match o.guard with
 | none=>some (true,st,[],D)
 | some (j,want)=>match (ops[j]?).bind (·.dst) with
  | none=>none
  | some t=>match lk st.tm t with
   | some (.bl b)=>some (b==want,st,[],D)
   | some (.v (.bool b))=>match D with
    | .t::D'=>some (want,⟨(t,.bl true)::del st.tm t,st.heap⟩,[fun(_:Mem)=>b=true],D')
    | .f::D'=>some (!want,⟨(t,.bl false)::del st.tm t,st.heap⟩,[fun(_:Mem)=>b=false],D')
    | _=>none
   | some (.v (.tuple _))=>some (false,st,[],D)
   | _=>none
def qJh(n:Nat)(st:St)(d:Option Nat)(s:SV):Option St :=
 match d with
 | none=>some st
 | some d=>bif Nat.blt d n then some ⟨(d,s)::del st.tm d,st.heap⟩ else none
def xop(P:Program)(X:Ext P)(n:Nat)(ops:Array Oper)(st:St)(D:List Dec)(o:Oper):Option (St×List zD×List Dec) :=
 match qGd ops st D o with
 | none=>none
 | some (false,st1,sd1,D1)=>match qJh n st1 o.dst (.v undef) with
  | some st2=>some (st2,sd1,D1)
  | none=>none
 | some (true,st1,sd1,D1) =>
  match xqa P X st1.tm st1.heap D1 o with
  | some (s,sd2,D2)=>match qJh n st1 o.dst s with
   | some st2=>some (st2,sd1++sd2,D2)
   | none=>none
  | none=>match xlm P X st1.tm st1.heap D1 o with
   | some (some s,h,sd2,D2)=>match qJh n ⟨st1.tm,h⟩ o.dst s with
    | some st2=>some (st2,sd1++sd2,D2)
    | none=>none
   | some (none,h,sd2,D2)=>match qJh n ⟨st1.tm,h⟩ o.dst (.v undef) with
    | some st2=>some (st2,sd1++sd2,D2)
    | none=>none
   | none=>none
def qHw(P:Program)(X:Ext P)(n:Nat)(ops:Array Oper)(listed:Array Bool)(st:St)(D:List Dec):List Nat→Option (Nat×St×List zD×List Dec)
 | []=>none
 | i::r =>
  match ops[i]? with
  | none=>qHw P X n ops listed st D r
  | some o=>match qGd ops st D o with
   | none=>qHw P X n ops listed st D r
   | some (false,st1,sd1,D1)=>match qJh n st1 o.dst (.v undef) with
    | some st2=>bif qOu ops o&&qGt ops listed i then some (i,st2,sd1,D1) else qHw P X n ops listed st D r
    | none=>none
   | some (true,st1,sd1,D1)=>match xqa P X st1.tm st1.heap D1 o with
    | some (s,sd2,D2)=>match qJh n st1 o.dst s with
     | some st2=>bif qOu ops o&&qGt ops listed i then some (i,st2,sd1++sd2,D2) else qHw P X n ops listed st D r
     | none=>none
    | none=>qHw P X n ops listed st D r
def zBd(ops:Array Oper)(st:St)(o:Oper):Option Bool :=
 match o.guard with
 | some (j,_)=>match (ops[j]?).bind (·.dst) with
  | some t=>match lk st.tm t with
   | some (.v (.bool b))=>some b
   | _=>none
  | none=>none
 | none=>none
def qIl(ops:Array Oper)(st:St):List Nat→Option Bool
 | []=>none
 | i::r=>match ops[i]? with
  | some o=>match zBd ops st o with
   | some b=>some b
   | none=>qIl ops st r
  | none=>qIl ops st r
def zBp(ops:Array Oper)(st:St)(D:List Dec)(l:List Nat):Bool :=
 match D with
 | .t::_=>false
 | .f::_=>false
 | _=>(qIl ops st l).isSome
def qLa(g:Nat→Option (List qDx)):List Nat→Option (List qDx)
 | []=>some []
 | i::r=>match g i,qLa g r with
  | some a,some b=>some (a++b)
  | _,_=>none
def wZ(P:Program)(X:Ext P)(B:Code)(n:Nat):Nat→List Dec→List It→St→List zD→Option (List qDx)
 | 0,D,k,st,sd=>some [⟨sd,k,st,D⟩]
 | fuel+1,D,k,st,sd =>
  match k with
  | []=>some [⟨sd,k,st,D⟩]
  | .rnd p m::k'=>some [⟨sd,.rnd p m::k',st,D⟩]
  | .ret::k'=>some [⟨sd,.ret::k',st,D⟩]
  | .one p f l i::k'=>some [⟨sd,.one p f l i::k',st,D⟩]
  | .blk _::k'=>wZ P X B n fuel D k' st sd
  | .at p::k'=>match sub B p with
   | .skip=>wZ P X B n fuel D k' st sd
   | .label _=>wZ P X B n fuel D k' st sd
   | .seq _ _=>wZ P X B n fuel D (.at (0::p)::.at (1::p)::k') st sd
   | .block id _=>wZ P X B n fuel D (.at (0::p)::.blk id::k') st sd
   | .cond c _ _=>match evO st.tm c with
    | some (.bl true)=>wZ P X B n fuel D (.at (0::p)::k') st sd
    | some (.bl false)=>wZ P X B n fuel D (.at (1::p)::k') st sd
    | some (.v (.bool b))=>match D with
     | .t::D'=>wZ P X B n fuel D' (.at (0::p)::k') st (sd++[fun(_:Mem)=>b=true])
     | .f::D'=>wZ P X B n fuel D' (.at (1::p)::k') st (sd++[fun(_:Mem)=>b=false])
     | _=>some [⟨sd,.at p::k',st,D⟩]
    | _=>none
   | .exit id=>match qTd id k' with
    | some k2=>wZ P X B n fuel D k2 st sd
    | none=>none
   | .ret=>some [⟨sd,.ret::k',st,D⟩]
   | .region _ ops dr=>wZ P X B n fuel D ((bif dr then .any p ops.size (Array.replicate ops.size false) else .ops p 0)::k') st sd
   | _=>some [⟨sd,.at p::k',st,D⟩]
  | .ops p i::k'=>match sub B p with
   | .region _ ops _=>match ops[i]? with
    | none=>wZ P X B n fuel D k' st sd
    | some o=>match xop P X n ops st D o with
     | some (st2,sd2,D2)=>wZ P X B n fuel D2 (.ops p (i+1)::k') st2 (sd++sd2)
     | none=>some [⟨sd,.ops p i::k',st,D⟩]
   | _=>none
  | .any p f l::k'=>match sub B p with
   | .region _ ops _=>match Region.ready .any ops l with
    | []=>wZ P X B n fuel D k' st sd
    | r::rs=>match f with
     | 0=>none
     | f+1=>bif Region.noSelect ops then
      match qHw P X n ops l st D (r::rs) with
      | some (i,st2,sd2,D2)=>wZ P X B n fuel D2 (.any p f (l.setIfInBounds i true)::k') st2 (sd++sd2)
      | none=>bif zBp ops st D (r::rs) then some [⟨sd,.any p (f+1) l::k',st,D⟩] else qLa (fun i=>match ops[i]? with
       | none=>none
       | some o=>match xop P X n ops st D o with
        | some (st2,sd2,D2)=>bif xZ o||!qJo ops i then wZ P X B n fuel D2 (.any p f (l.setIfInBounds i true)::k') st2 (sd++sd2) else none
        | none=>some [⟨sd,.one p f l i::k',st,D⟩]) (r::rs)
      else none
   | _=>none
end Go.Sx
/- The run through a body: its truth. -/
namespace Go.Sx
open Go.RowKit

def Ok(P:Program)(B:Code)(n:Nat)(F:Mem→Prop)(w0:qDe)(fin:Exit→Act→World→Prop)(k:List It)(st:St):Prop :=
 ∀ e a w,qW F w0 st.heap e w→zC n st.heap.length st.tm e a→jD P B fin k .normal a w
section
variable {P : Program} {X : Ext P} {B : Code} {n : Nat} {F : Mem → Prop} {w0 : qDe} {fin : Exit → Act → World → Prop}

theorem qWm(k:List It)(c:List PanicEntry)(a:Act)(w:World):jD P B fin k (.panic c) a w=fin (.panic c) a w:=by
 induction k with
 | nil=>rfl
 | cons x k ih=>cases x <;> exact ih
theorem zEy(k:List It)(a:Act)(w:World):jD P B fin k .ret a w=fin .ret a w:=by
 induction k with
 | nil=>rfl
 | cons x k ih=>cases x <;> exact ih
theorem xW(id:Nat):∀(k:List It) {k2:List It},qTd id k=some k2→∀ a w,jD P B fin k2 .normal a w→jD P B fin k (.exit id) a w
 | [],k2,h,a,w,hp=>by cases h
 | .blk id'::k,k2,h,a,w,hp=>by
  simp only[qTd] at h
  simp only[jD]
  cases hb:Nat.beq id id' with
  | true =>
   rw[hb] at h
   simp only[cond_true,sI] at h
   subst h
   rw[if_pos (Nat.eq_of_beq_eq_true hb)]
   exact hp
  | false =>
   rw[hb] at h
   simp only[cond_false] at h
   rw[if_neg (fun hh=>by subst hh; simp at hb)]
   exact xW id k h a w hp
 | .at p::k,k2,h,a,w,hp=>xW id k h a w hp
 | .rnd p m::k,k2,h,a,w,hp=>xW id k h a w hp
 | .ret::k,k2,h,a,w,hp=>xW id k h a w hp
 | .ops p i::k,k2,h,a,w,hp=>xW id k h a w hp
 | .any p f l::k,k2,h,a,w,hp=>xW id k h a w hp
 | .one p f l i::k,k2,h,a,w,hp=>xW id k h a w hp
theorem yM{hl:Nat}{ops:Array Oper}{st st1:St}{e:Env}{a:Act}{D D1:List Dec}{o:Oper}{wd:Bool}{sd1:List zD}{M:Mem}(T:zC n hl st.tm e a)(h:qGd ops st D o=some (wd,st1,sd1,D1))(hsd:∀ x∈sd1,x M):
  Region.wanted o (yielded ops a.tmps)=wd∧st1.heap=st.heap∧zC n hl st1.tm e a:=by
 unfold qGd at h
 split at h
 ·rename_i hg
  simp only[sI,pI] at h
  obtain⟨rfl,rfl,rfl,rfl⟩:=h
  exact⟨by simp [Region.wanted,hg],rfl,T⟩
 ·rename_i j want hg
  split at h
  ·cases h
  ·rename_i t ht
   have hy:∀ s,lk st.tm t=some s→yielded ops a.tmps j=match den e s with | .bool b=>some b | _=>none:=by
    intro s hs
    unfold yielded
    rw[ht]
    simp only[Option.bind_some,T.get t s hs]
    cases den e s <;> rfl
   have mark:∀(b:Bool),lk st.tm t=some (.v (.bool b))→zC n hl ((t,.bl b)::del st.tm t) e a:=by
    intro b hb
    refine T.sub' ?_
    intro u s hu
    simp only[lk] at hu
    cases hbq:Nat.beq t u with
    | true =>
     have:t=u:=Nat.eq_of_beq_eq_true hbq
     subst this
     simp only[hbq,cond_true,sI] at hu
     subst hu
     exact⟨_,hb,rfl,trivial⟩
    | false =>
     have hne:t≠u:=fun hh=>by subst hh; simp at hbq
     simp only[hbq,cond_false] at hu
     rw[xU _ _ _ hne] at hu
     exact⟨s,hu,rfl,T.wsc u s hu⟩
   split at h
   ·rename_i b hs
    simp only[sI,pI] at h
    obtain⟨rfl,rfl,rfl,rfl⟩:=h
    refine⟨?_,rfl,T⟩
    simp only[Region.wanted,hg,hy _ hs,den]
    cases b <;> cases want <;> rfl
   ·rename_i b hs
    split at h
    ·simp only[sI,pI] at h
     obtain⟨rfl,rfl,rfl,rfl⟩:=h
     have hb:b=true:=hsd _ List.mem_cons_self
     subst hb
     refine⟨?_,rfl,mark true hs⟩
     simp only[Region.wanted,hg,hy _ hs,den]
     cases want <;> rfl
    ·simp only[sI,pI] at h
     obtain⟨rfl,rfl,rfl,rfl⟩:=h
     have hb:b=false:=hsd _ List.mem_cons_self
     subst hb
     refine⟨?_,rfl,mark false hs⟩
     simp only[Region.wanted,hg,hy _ hs,den]
     cases want <;> rfl
    ·cases h
   ·rename_i vs hs
    simp only[sI,pI] at h
    obtain⟨rfl,rfl,rfl,rfl⟩:=h
    refine⟨?_,rfl,T⟩
    simp only[Region.wanted,hg,hy _ hs,den]
    rfl
   ·cases h
theorem yZ{hl hl':Nat}{st st2:St}{e e':Env}{a:Act}{d:Option Nat}{s:SV}{v:Value}(T:zC n hl st.tm e a)(hag:zN hl e e')(hle:hl≤hl')(h:qJh n st d s=some st2)(hv:den e' s=v)(hw:ws hl' s):zC n hl' st2.tm e' (a.put d v)∧st2.heap=st.heap:=by
 unfold qJh at h
 cases d with
 | none =>
  simp only[sI] at h
  subst h
  exact⟨T.move hag hle,rfl⟩
 | some d =>
  simp only at h
  cases hb:Nat.blt d n with
  | false=>rw[hb] at h; cases h
  | true =>
   rw[hb] at h
   simp only[cond_true,sI] at h
   subst h
   have hd:d<n:=by
    have:=Nat.le_of_ble_eq_true hb
    omega
   exact⟨T.put hag hle d hd s v hv hw,rfl⟩
theorem qOl(hF:jM F){ops:Array Oper}{st st2:St}{e:Env}{a:Act}{w:World}{D D2:List Dec}{o:Oper}{sd2:List zD}(S:qW F w0 st.heap e w)(T:zC n st.heap.length st.tm e a)(h:xop P X n ops st D o=some (st2,sd2,D2))(hsd:xA F sd2):
  ∃ e' w' v,qW F w0 st2.heap e' w'∧zC n st2.heap.length st2.tm e' (a.put o.dst v)∧(xZ o=true→qJm w w') ∧
   ∀(K:Act→World→Prop) (Q:Exit→Act→World→Prop),K (a.put o.dst v) w' →
    if Region.wanted o (yielded ops a.tmps) then o.wp P a w K Q else K (a.put o.dst undef) w:=by
 unfold xop at h
 split at h
 ·cases h
 ·rename_i st1 sd1 D1 hg
  split at h
  ·rename_i st3 hp
   simp only[sI,pI] at h
   obtain⟨rfl,rfl,rfl⟩:=h
   obtain⟨g1,g2,g3⟩:=yM T hg (fun x hx=>hsd x hx _ S.fact)
   obtain⟨p1,p2⟩:=yZ (v:=undef) g3 (zN.refl _ e) (Nat.le_refl _) hp rfl trivial
   refine⟨e,w,undef,by rw[p2,g2]; exact S,by rw[p2,g2]; exact p1,fun _ _ _=>rfl,fun K Q hK=>?_⟩
   rw[g1]
   exact hK
  ·cases h
 ·rename_i st1 sd1 D1 hg
  split at h
  ·rename_i s sd3 D3 hq
   split at h
   ·rename_i st3 hp
    simp only[sI,pI] at h
    obtain⟨rfl,rfl,rfl⟩:=h
    obtain⟨g1,g2,g3⟩:=yM T hg (fun x hx=>hsd x (List.mem_append_left _ hx) _ S.fact)
    have S1:qW F w0 st1.heap e w:=by rw[g2]; exact S
    have T1:zC n st1.heap.length st1.tm e a:=by rw[g2]; exact g3
    obtain⟨q1,q2⟩:=qPd T1 S1.q S1.ws hq (fun x hx=>hsd x (List.mem_append_right _ hx)) w (fun _=>S1.q)
    obtain⟨p1,p2⟩:=yZ T1 (zN.refl _ e) (Nat.le_refl _) hp rfl q2
    refine⟨e,w,den e s,by rw[p2]; exact S1,by rw[p2]; exact p1,fun _ _ _=>rfl,fun K Q hK=>?_⟩
    rw[g1]
    simp only[if_true,Oper.wp,q1,Oper.upon]
    exact hK
   ·cases h
  ·split at h
   ·rename_i s hh sd3 D3 hl
    split at h
    ·rename_i st3 hp
     simp only[sI,pI] at h
     obtain⟨rfl,rfl,rfl⟩:=h
     obtain⟨g1,g2,g3⟩:=yM T hg (fun x hx=>hsd x (List.mem_append_left _ hx) _ S.fact)
     have S1:qW F w0 st1.heap e w:=by rw[g2]; exact S
     have T1:zC n st1.heap.length st1.tm e a:=by rw[g2]; exact g3
     obtain⟨e',w',l1,l2,l3,l4,l5⟩:=qNw hF T1 S1 hl (fun x hx=>hsd x (List.mem_append_right _ hx))
     obtain⟨l5,l6⟩:=l5
     obtain⟨p1,p2⟩:=yZ (st:=⟨st1.tm,hh⟩) T1 l1 l2 hp rfl l6
     refine⟨e',w',den e' s,by rw[p2]; exact l3,by rw[p2]; exact p1,l4,fun K Q hK=>?_⟩
     rw[g1]
     simp only[if_true,Oper.wp,l5,Oper.upon]
     exact hK
    ·cases h
   ·rename_i hh sd3 D3 hl
    split at h
    ·rename_i st3 hp
     simp only[sI,pI] at h
     obtain⟨rfl,rfl,rfl⟩:=h
     obtain⟨g1,g2,g3⟩:=yM T hg (fun x hx=>hsd x (List.mem_append_left _ hx) _ S.fact)
     have S1:qW F w0 st1.heap e w:=by rw[g2]; exact S
     have T1:zC n st1.heap.length st1.tm e a:=by rw[g2]; exact g3
     obtain⟨e',w',l1,l2,l3,l4,l5⟩:=qNw hF T1 S1 hl (fun x hx=>hsd x (List.mem_append_right _ hx))
     obtain⟨p1,p2⟩:=yZ (st:=⟨st1.tm,hh⟩) (v:=undef) T1 l1 l2 hp rfl trivial
     refine⟨e',w',undef,by rw[p2]; exact l3,by rw[p2]; exact p1,l4,fun K Q hK=>?_⟩
     rw[g1]
     simp only[if_true,Oper.wp,l5,Oper.upon]
     exact hK
    ·cases h
   ·cases h
theorem qJa{ops:Array Oper}{listed:Array Bool}{st st2:St}{e:Env}{a:Act}{w:World}{D D2:List Dec}{sd2:List zD}{i:Nat}(S:qW F w0 st.heap e w)(T:zC n st.heap.length st.tm e a):∀(l:List Nat),qHw P X n ops listed st D l=some (i,st2,sd2,D2)→xA F sd2 →
  i∈l∧qGt ops listed i=true∧∃ o v,ops[i]?=some o∧(wJ o=true→qTh ops=false)∧st2.heap=st.heap∧zC n st.heap.length st2.tm e (a.put o.dst v) ∧
   YieldsIf P ops (fun w'=>wJ o=true→xR F st.heap e w') o v a
 | [],h,_=>by cases h
 | j::r,h,hsd=>by
  have rec':qHw P X n ops listed st D r=some (i,st2,sd2,D2)→i∈j::r∧qGt ops listed i=true∧∃ o v,ops[i]?=some o∧(wJ o=true→qTh ops=false)∧st2.heap=st.heap∧zC n st.heap.length st2.tm e (a.put o.dst v) ∧
   YieldsIf P ops (fun w'=>wJ o=true→xR F st.heap e w') o v a:=fun h2=>by
   obtain⟨r1,r2⟩:=qJa S T r h2 hsd
   exact⟨List.mem_cons_of_mem _ r1,r2⟩
  simp only[qHw] at h
  split at h
  ·exact rec' h
  ·rename_i o ho
   split at h
   ·exact rec' h
   ·rename_i st1 sd1 D1 hg
    split at h
    ·rename_i st3 hp
     cases hf:qOu ops o&&qGt ops listed j with
     | false=>rw[hf] at h; exact rec' h
     | true =>
      rw[hf] at h
      simp only[cond_true,sI,pI] at h
      obtain⟨rfl,rfl,rfl,rfl⟩:=h
      obtain⟨g1,g2,g3⟩:=yM T hg (fun x hx=>hsd x hx _ S.fact)
      obtain⟨p1,p2⟩:=yZ (v:=undef) g3 (zN.refl _ e) (Nat.le_refl _) hp rfl trivial
      exact⟨List.mem_cons_self,(Bool.and_eq_true _ _ ▸ hf).2,o,undef,ho,qLs (Bool.and_eq_true _ _ ▸ hf).1,p2.trans g2,p1,.inr ⟨g1,rfl⟩⟩
    ·cases h
   ·rename_i st1 sd1 D1 hg
    split at h
    ·rename_i s sd3 D3 hq
     split at h
     ·rename_i st3 hp
      cases hf:qOu ops o&&qGt ops listed j with
      | false=>rw[hf] at h; exact rec' h
      | true =>
       rw[hf] at h
       simp only[cond_true,sI,pI] at h
       obtain⟨rfl,rfl,rfl,rfl⟩:=h
       obtain⟨g1,g2,g3⟩:=yM T hg (fun x hx=>hsd x (List.mem_append_left _ hx) _ S.fact)
       have S1:qW F w0 st1.heap e w:=by rw[g2]; exact S
       have T1:zC n st1.heap.length st1.tm e a:=by rw[g2]; exact g3
       have hgood:=qPd T1 S1.q S1.ws hq (fun x hx=>hsd x (List.mem_append_right _ hx))
       obtain⟨p1,p2⟩:=yZ T1 (zN.refl _ e) (Nat.le_refl _) hp rfl (hgood w (fun _=>S1.q)).2
       refine⟨List.mem_cons_self,(Bool.and_eq_true _ _ ▸ hf).2,o,den e s,ho,qLs (Bool.and_eq_true _ _ ▸ hf).1,p2.trans g2,by rw[← g2]; exact p1,.inl ⟨g1,fun w' hw'=>(hgood w' (fun hl=>?_)).1⟩⟩
       rw[g2]
       exact hw' hl
     ·cases h
    ·exact rec' h
end
end Go.Sx
/- The run through a body: the whole. -/
namespace Go.Sx
open Go.RowKit

section
variable {P : Program} {X : Ext P} {B : Code} {n : Nat} {F : Mem → Prop} {w0 : qDe} {fin : Exit → Act → World → Prop}

def Has(sd:List zD)(L:List qDx):Prop:=(∃ l,l∈L)∧∀ l∈L,∀ s∈sd,s∈l.sd
theorem Has.single(sd:List zD)(k:List It)(st:St)(D:List Dec):Has sd [⟨sd,k,st,D⟩] :=
 ⟨⟨_,List.mem_cons_self⟩,fun l hl s hs=>by
  rw[List.mem_singleton] at hl
  subst hl
  exact hs⟩
theorem Has.left{sd sd2:List zD}{L:List qDx}(h:Has (sd++sd2) L):Has sd L:=⟨h.1,fun l hl s hs=>h.2 l hl s (List.mem_append_left _ hs)⟩
theorem qFy{sd:List zD}{g:Nat→Option (List qDx)}:∀(l:List Nat) {L:List qDx},qLa g l=some L→(∀ i∈l,∀ L',g i=some L'→Has sd L') →
  (∀ i∈l,∃ L',g i=some L'∧∀ x∈L',x∈L)∧∀ x∈L,∀ s∈sd,s∈x.sd
 | [],L,h,_=>by
  simp only[qLa,sI] at h
  subst h
  exact⟨fun i hi=>(by cases hi),fun x hx=>(by cases hx)⟩
 | i::r,L,h,hg=>by
  simp only[qLa] at h
  split at h
  ·rename_i a b ha hb
   simp only[sI] at h
   subst h
   obtain⟨r1,r2⟩:=qFy r hb (fun j hj=>hg j (List.mem_cons_of_mem _ hj))
   refine⟨fun j hj=>?_,fun x hx s hs=>?_⟩
   ·rcases List.mem_cons.1 hj with rfl | hj
    ·exact⟨a,ha,fun x hx=>List.mem_append_left _ hx⟩
    ·obtain⟨L',q1,q2⟩:=r1 j hj
     exact⟨L',q1,fun x hx=>List.mem_append_right _ (q2 x hx)⟩
   ·rcases List.mem_append.1 hx with hx | hx
    ·exact(hg i List.mem_cons_self a ha).2 x hx s hs
    ·exact r2 x hx s hs
  ·cases h
theorem qUc:∀(fuel:Nat) (D:List Dec) (k:List It) (st:St) (sd:List zD) {L:List qDx},wZ P X B n fuel D k st sd=some L→Has sd L
 | 0,D,k,st,sd,L,h=>by
  simp only[wZ,sI] at h
  subst h
  exact Has.single ..
 | fuel+1,D,k,st,sd,L,h=>by
  have ih:=fun D k st sd (L:List qDx) (h:wZ P X B n fuel D k st sd=some L)=>qUc fuel D k st sd h
  unfold wZ at h
  split at h
  ·simp only[sI] at h; subst h; exact Has.single ..
  ·simp only[sI] at h; subst h; exact Has.single ..
  ·simp only[sI] at h; subst h; exact Has.single ..
  ·simp only[sI] at h; subst h; exact Has.single ..
  ·exact ih _ _ _ _ _ h
  ·split at h
   ·exact ih _ _ _ _ _ h
   ·exact ih _ _ _ _ _ h
   ·exact ih _ _ _ _ _ h
   ·exact ih _ _ _ _ _ h
   ·split at h
    ·exact ih _ _ _ _ _ h
    ·exact ih _ _ _ _ _ h
    ·split at h
     ·exact(ih _ _ _ _ _ h).left
     ·exact(ih _ _ _ _ _ h).left
     ·simp only[sI] at h; subst h; exact Has.single ..
    ·cases h
   ·split at h
    ·exact ih _ _ _ _ _ h
    ·cases h
   ·simp only[sI] at h; subst h; exact Has.single ..
   ·exact ih _ _ _ _ _ h
   ·simp only[sI] at h; subst h; exact Has.single ..
  ·split at h
   ·split at h
    ·exact ih _ _ _ _ _ h
    ·split at h
     ·exact(ih _ _ _ _ _ h).left
     ·simp only[sI] at h; subst h; exact Has.single ..
   ·cases h
  ·split at h
   ·split at h
    ·exact ih _ _ _ _ _ h
    ·rename_i r rs hr
     split at h
     ·cases h
     ·rename_i f
      cases hns:Region.noSelect _ with
      | false=>rw[hns] at h; cases h
      | true =>
       rw[hns] at h
       simp only[cond_true] at h
       split at h
       ·exact(ih _ _ _ _ _ h).left
       ·cases hwt:zBp _ st D (r::_) with
        | true =>
         rw[hwt] at h
         simp only[cond_true,sI] at h
         subst h
         exact Has.single ..
        | false =>
        rw[hwt] at h
        simp only[cond_false] at h
        obtain⟨b1,b2⟩:=qFy (sd:=sd) _ h (fun i _ L' hL'=>by
         split at hL'
         ·cases hL'
         ·split at hL'
          ·cases hkk:(xZ _||!qJo _ i) with
           | false=>rw[hkk] at hL'; cases hL'
           | true =>
            rw[hkk] at hL'
            simp only[cond_true] at hL'
            exact(ih _ _ _ _ _ hL').left
          ·simp only[sI] at hL'
           subst hL'
           exact Has.single ..)
        obtain⟨L',q1,q2⟩:=b1 r List.mem_cons_self
        have hh:∃ x,x∈L':=by
         split at q1
         ·cases q1
         ·split at q1
          ·cases hkk:(xZ _||!qJo _ r) with
           | false=>rw[hkk] at q1; cases q1
           | true =>
            rw[hkk] at q1
            simp only[cond_true] at q1
            exact(ih _ _ _ _ _ q1).1
          ·simp only[sI] at q1
           subst q1
           exact⟨_,List.mem_cons_self⟩
        obtain⟨x,hx⟩:=hh
        exact⟨⟨x,q2 x hx⟩,b2⟩
   ·cases h
def qWd(P:Program)(B:Code)(n:Nat)(F:Mem→Prop)(w0:qDe)(fin:Exit→Act→World→Prop)(L:List qDx):Prop :=
 ∀ l∈L,xA F l.sd∧Ok P B n F w0 fin l.k l.st
theorem qWd.single{sd:List zD}{k:List It}{st:St}{D:List Dec}(h:qWd P B n F w0 fin [⟨sd,k,st,D⟩]):Ok P B n F w0 fin k st :=
 (h _ List.mem_cons_self).2
theorem qWd.sides{sd sd2:List zD}{L:List qDx}(hp:qWd P B n F w0 fin L)(h:Has (sd++sd2) L):xA F sd2:=by
 obtain⟨l,hl⟩:=h.1
 exact fun s hs=>(hp l hl).1 s (h.2 l hl s (List.mem_append_right _ hs))
variable (hm : P.follows .mixedOrders = true) (hF : jM F) (hfin : ∀ c (a : Act) (d : Option Tmp) (v : Value) (w : World), fin (.panic c) (a.put d v) w → fin (.panic c) a w)
include hm hF hfin

theorem qMf:∀(fuel:Nat) (D:List Dec) (k:List It) (st:St) (sd:List zD) {L:List qDx},wZ P X B n fuel D k st sd=some L →
  qWd P B n F w0 fin L→Ok P B n F w0 fin k st
 | 0,D,k,st,sd,L,h,hp=>by
  simp only[wZ,sI] at h
  subst h
  exact hp.single
 | fuel+1,D,k,st,sd,L,h,hp=>by
  have ih:=fun D k st sd (L:List qDx) (h:wZ P X B n fuel D k st sd=some L) (hp:qWd P B n F w0 fin L)=>qMf fuel D k st sd h hp
  have hL:=qUc fuel (P:=P) (X:=X) (B:=B) (n:=n)
  unfold wZ at h
  split at h
  ·simp only[sI] at h; subst h; exact hp.single
  ·simp only[sI] at h; subst h; exact hp.single
  ·simp only[sI] at h; subst h; exact hp.single
  ·simp only[sI] at h; subst h; exact hp.single
  ·intro e a w S T
   have:=ih _ _ _ _ _ h hp e a w S T
   simp only[jD]
   exact this
  ·rename_i p k'
   split at h
   ·rename_i hs
    intro e a w S T
    simp only[jD,hs]
    exact wp_skip (ih _ _ _ _ _ h hp e a w S T)
   ·rename_i hs
    intro e a w S T
    simp only[jD,hs]
    exact wp_label (ih _ _ _ _ _ h hp e a w S T)
   ·rename_i c1 c2 hs
    intro e a w S T
    have:=ih _ _ _ _ _ h hp e a w S T
    have h2:sub B (1::p)=c2:=by simp only[sub,hs,qIu]
    simp only[jD,sub,hs,qIu] at this ⊢
    refine wp_seq (Code.wp_mono (fun e' a' w' hq=>?_) this)
    cases e' with
    | normal=>simp only[jD,h2] at hq; exact hq
    | _=>exact hq
   ·rename_i id c1 hs
    intro e a w S T
    have:=ih _ _ _ _ _ h hp e a w S T
    simp only[jD,sub,hs,qIu] at this ⊢
    refine wp_block (Code.wp_mono (fun e' a' w' hq=>?_) this)
    cases e' <;> exact hq
   ·rename_i c c1 c2 hs
    split at h
    ·rename_i hc
     intro e a w S T
     have:=ih _ _ _ _ _ h hp e a w S T
     simp only[jD,sub,hs,qIu] at this ⊢
     exact wp_cond_true (by rw[(qH T hc).1]; rfl) this
    ·rename_i hc
     intro e a w S T
     have:=ih _ _ _ _ _ h hp e a w S T
     simp only[jD,sub,hs,qIu] at this ⊢
     exact wp_cond_false (by rw[(qH T hc).1]; rfl) this
    ·rename_i b hc
     split at h
     ·intro e a w S T
      have hb:b=true:=hp.sides (hL _ _ _ _ h) _ List.mem_cons_self _ S.fact
      have:=ih _ _ _ _ _ h hp e a w S T
      simp only[jD,sub,hs,qIu] at this ⊢
      exact wp_cond_true (by rw[(qH T hc).1,hb]; rfl) this
     ·intro e a w S T
      have hb:b=false:=hp.sides (hL _ _ _ _ h) _ List.mem_cons_self _ S.fact
      have:=ih _ _ _ _ _ h hp e a w S T
      simp only[jD,sub,hs,qIu] at this ⊢
      exact wp_cond_false (by rw[(qH T hc).1,hb]; rfl) this
     ·simp only[sI] at h; subst h; exact hp.single
    ·cases h
   ·rename_i id hs
    split at h
    ·rename_i k2 hk
     intro e a w S T
     have:=ih _ _ _ _ _ h hp e a w S T
     simp only[jD,hs]
     exact wp_exit (xW id _ hk a w this)
    ·cases h
   ·rename_i hs
    simp only[sI] at h
    subst h
    intro e a w S T
    have:=hp.single e a w S T
    simp only[jD,hs] at this ⊢
    exact wp_ret this
   ·rename_i id ops dr hs
    cases dr with
    | false =>
     intro e a w S T
     have:=ih _ _ _ _ _ h hp e a w S T
     simp only[cond_false,jD,hs,List.drop_zero] at this ⊢
     exact wp_region_list this
    | true =>
     intro e a w S T
     have:=ih _ _ _ _ _ h hp e a w.drew S.drew T
     simp only[cond_true,jD,hs] at this ⊢
     exact qSm hm this
   ·simp only[sI] at h; subst h; exact hp.single
  ·rename_i p i k'
   split at h
   ·rename_i id ops dr hs
    split at h
    ·rename_i ho
     intro e a w S T
     have:=ih _ _ _ _ _ h hp e a w S T
     simp only[jD,hs]
     have hd:ops.toList.drop i=[]:=by
      rw[List.drop_eq_nil_iff]
      simpa using ho
     rw[hd]
     exact wpList_nil this
    ·rename_i o ho
     split at h
     ·rename_i st2 sd2 D2 hx
      intro e a w S T
      obtain⟨e',w',v,r1,r2,_,r4⟩:=qOl hF S T hx (hp.sides (hL _ _ _ _ h))
      have:=ih _ _ _ _ _ h hp e' _ w' r1 r2
      simp only[jD,hs] at this ⊢
      have hlt:i<ops.toList.length:=by
       have:=(Array.getElem?_eq_some_iff.1 ho).1
       simpa using this
      have hd:ops.toList.drop i=o::ops.toList.drop (i+1):=by
       rw[List.drop_eq_getElem_cons hlt]
       congr 1
       have h2:=(Array.getElem?_eq_some_iff.1 ho).2
       simpa using h2
      rw[hd]
      exact wpList_step fun K hK=>r4 K _ (hK _ _ this)
     ·simp only[sI] at h; subst h; exact hp.single
   ·cases h
  ·rename_i p f l k'
   split at h
   ·rename_i id ops dr hs
    split at h
    ·rename_i hr
     intro e a w S T
     have:=ih _ _ _ _ _ h hp e a w S T
     simp only[jD,hs]
     exact qUl hr this f
    ·rename_i r rs hr
     split at h
     ·cases h
     ·rename_i f
      cases hns:Region.noSelect ops with
      | false=>rw[hns] at h; cases h
      | true =>
       rw[hns] at h
       simp only[cond_true] at h
       split at h
       ·rename_i i st2 sd2 D2 hx
        intro e a w S T
        obtain⟨t1,t2,o,v,t3,t3b,t4,t5,t6⟩:=qJa S T _ hx (hp.sides (hL _ _ _ _ h))
        have:=ih _ _ _ _ _ h hp e _ w (by rw[t4]; exact S) (by rw[t4]; exact t5)
        simp only[jD,hs] at this ⊢
        refine qUa (zDt hF) t3 t3b hns t2 (by rw[hr]; simpa using t1) (fun c a' w' hq=>?_) t6 S.q this
        rw[qWm] at hq ⊢
        exact hfin c a' _ _ w' hq
       ·cases hwt:zBp ops st D (r::rs) with
        | true =>
         rw[hwt] at h
         simp only[cond_true,sI] at h
         subst h
         exact hp.single
        | false =>
        rw[hwt] at h
        simp only[cond_false] at h
        intro e a w S T
        simp only[jD,hs]
        refine fun hcl=>⟨fun h0=>(by rw[hr] at h0; cases h0),fun i hi=>?_⟩
        refine wpOp_mono (fun a' w' hh=>⟨hh.1,hh.2 (hcl.set hi)⟩) (?_:wpOp P ops (jD P B fin k') i (fun a' w'=>(qJo ops i=true→qJm w w')∧qEc P ops (jD P B fin k') f (l.setIfInBounds i true) a' w') a w)
        rw[hr] at hi
        obtain⟨b1,b2⟩:=qFy (sd:=sd) _ h (fun i _ L' hL'=>by
         split at hL'
         ·cases hL'
         ·split at hL'
          ·cases hkk:(xZ _||!qJo _ i) with
           | false=>rw[hkk] at hL'; cases hL'
           | true =>
            rw[hkk] at hL'
            simp only[cond_true] at hL'
            exact(hL _ _ _ _ hL').left
          ·simp only[sI] at hL'
           subst hL'
           exact Has.single ..)
        obtain⟨L',q1,q2⟩:=b1 i hi
        have hp':qWd P B n F w0 fin L':=fun x hx=>hp x (q2 x hx)
        split at q1
        ·cases q1
        ·rename_i o ho
         split at q1
         ·rename_i st2 sd2 D2 hx
          cases hkk:(xZ o||!qJo ops i) with
          | false=>rw[hkk] at q1; cases q1
          | true =>
           rw[hkk] at q1
           simp only[cond_true] at q1
           obtain⟨e',w',v,r1,r2,r3,r4⟩:=qOl hF S T hx (hp'.sides (hL _ _ _ _ q1))
           have:=ih _ _ _ _ _ q1 hp' e' _ w' r1 r2
           simp only[jD,hs] at this
           unfold wpOp
           simp only[ho]
           have h4:=r4 (fun a' w'=>(qJo ops i=true→qJm w w')∧qEc P ops (jD P B fin k') f (l.setIfInBounds i true) a' w') (jD P B fin k') ⟨fun hn=>r3 (by
            rw[hn] at hkk
            simpa using hkk),this⟩
           split
           ·rename_i hw
            rw[if_pos hw] at h4
            exact .inl h4
           ·rename_i hw
            rw[if_neg hw] at h4
            exact h4
         ·simp only[sI] at q1
          subst q1
          have:=hp'.single e a w S T
          simp only[jD,hs] at this
          exact this
   ·cases h
end
end Go.Sx
/- What a prover uses: the beginning, the end, loops, calls, another state. -/
namespace Go.Sx
open Go.RowKit

/-! ### results -/
def qQs(P:Program)(st:St):ResultVar→Option SV
 | .tmp t=>lk st.tm t
 | .cell x T=>match lk st.tm x with
  | some (.p i off)=>match st.heap[i]? with
   | some (.cells cs _)=>match qHt P T i cs off [] with
    | some (s,[],_)=>some s
    | _=>none
   | _=>none
  | _=>none
def qEt(P:Program)(st:St):List ResultVar→Option (List SV)
 | []=>some []
 | r::rs=>match qQs P st r,qEt P st rs with
  | some s,some l=>some (s::l)
  | _,_=>none
def zKy(P:Program)(st:St)(rs:List ResultVar):Option SV :=
 match qEt P st rs with
 | some [s]=>some s
 | some l=>some (.tup l)
 | none=>none

/-! ### a call -/
def qKb(P:Program)(t:TypeId)(v:Value)(name:String)(asl:List SV):Option (FuncId×List SV) :=
 match qFj P (method (P.types.size+Made.depth) t v name) with
 | some (f,r)=>some (f,.v r::asl)
 | none=>none
def qGz(P:Program)(st:St)(c:Call):Option (FuncId×List SV) :=
 match c.callee with
 | .invoke x name=>match evO st.tm x,qDl st.tm c.args.toList with
  | some (.ifc t y),some asl=>match jS y with
   | some v=>qKb P t v name asl
   | none=>none
  | some (.v (.iface t v)),some asl=>qKb P t v name asl
  | _,_=>none
 | .value x=>match evO st.tm x,qDl st.tm c.args.toList with
  | some (.fn (.func f) first cap),some asl=>some (f,first++asl++cap)
  | some (.v (.func (.func f) first cap)),some asl=>some (f,(first.toList.map SV.v)++asl++(cap.toList.map SV.v))
  | _,_=>none
 | _=>none
def qFe(P:Program)(f:FuncId):Bool :=
 match P.funcs[f]? with
 | some fn=>fn.body.isSome&&!(fn.name == "runtime.NumGoroutine")
 | none=>false
def qDf(P:Program)(B:Code)(it:It)(st:St)(D:List Dec):Option (FuncId×List SV×St×List zD×Option Nat×It) :=
 match it with
 | .ops p i=>match sub B p with
  | .region _ ops _=>match ops[i]? with
   | some o=>match qGd ops st D o with
    | some (true,st1,sd,_)=>match o.op with
     | .call c=>match qGz P st1 c with
      | some (f,args)=>bif qFe P f then some (f,args,st1,sd,o.dst,.ops p (i+1)) else none
      | none=>none
     | _=>none
    | _=>none
   | none=>none
  | _=>none
 | .one p fu l i=>match sub B p with
  | .region _ ops _=>match ops[i]? with
   | some o=>match qGd ops st D o with
    | some (true,st1,sd,_)=>match o.op with
     | .call c=>match qGz P st1 c with
      | some (f,args)=>bif qFe P f then some (f,args,st1,sd,o.dst,.any p fu (l.setIfInBounds i true)) else none
      | none=>none
     | _=>none
    | _=>none
   | none=>none
  | _=>none
 | _=>none
section
variable {P : Program} {X : Ext P} {B : Code} {n : Nat} {F : Mem → Prop} {w0 : qDe} {fin : Exit → Act → World → Prop}

theorem Ok.loop{p:List Nat}{k:List It}{st:St}(m:Nat)(hs:(match sub B p with | .loop _=>true | _=>false)=true)(h:Ok P B n F w0 fin (.rnd (0::p) m::k) st):Ok P B n F w0 fin (.at p::k) st:=by
 intro e a w S T
 have:=h e a w S T
 simp only[jD,sub] at this ⊢
 cases hc:sub B p with
 | loop c =>
  rw[hc] at this
  exact wp_loop_rounds m this
 | _=>rw[hc] at hs; cases hs
theorem Ok.rnd{q:List Nat}{m:Nat}{k:List It}{st:St}(h:Ok P B n F w0 fin (.at q::.rnd q m::k) st):Ok P B n F w0 fin (.rnd q (m+1)::k) st:=by
 intro e a w S T
 have:=h e a w S T
 simp only[jD] at this ⊢
 rw[rounds_succ]
 refine Code.wp_mono (fun e' a' w' hq=>?_) this
 cases e' <;> exact hq
def qRw(tmps:Array Value):ResultVar→Sem Value
 | .tmp t=>pure (tmps.getD t undef)
 | .cell x t=>do loadVar t (← asAddr (tmps.getD x undef))
theorem qWx(fn:Func)(tmps:Array Value):results fn tmps=(do let vs ← fn.results.mapM (qRw tmps); pure (if h:vs.size=1 then vs[0] else .tuple vs)):=by
 unfold results
 congr 1
theorem qNm{st:St}{e:Env}{a:Act}{w:World}(S:qW F w0 st.heap e w)(T:zC n st.heap.length st.tm e a){r:ResultVar}{s:SV}(h:qQs P st r=some s):
  (qRw a.tmps r).run P w=.ok (den e s) w:=by
 cases r with
 | tmp t =>
  have:=T.get t s h
  simp [qRw,this]
 | cell x t =>
  simp only[qQs] at h
  split at h
  ·rename_i i off hx
   split at h
   ·rename_i cs T0 hi
    split at h
    ·rename_i s1 D1 hl
     simp only[sI] at h
     subst h
     have hg:=T.get x _ hx
     obtain⟨r1,_⟩:=qCf (M:=fun _=>none) hl (fun x hx=>by cases hx) (qTo S.q hi) (S.ws i _ hi)
     simp only[qRw,Array.getD_eq_getD_getElem?,hg,Option.getD_some,den,asAddr,Sem.run_bind,Sem.run_pure,Result.andThen_ok,r1]
    ·cases h
   ·cases h
  ·cases h
theorem qFr{st:St}{e:Env}{a:Act}{w:World}(S:qW F w0 st.heap e w)(T:zC n st.heap.length st.tm e a):∀(rs:List ResultVar) {l:List SV},qEt P st rs=some l →
  (rs.mapM (qRw a.tmps)).run P w=.ok (qS e l) w
 | [],l,h=>by
  simp only[qEt,sI] at h
  subst h
  rfl
 | r::rs,l,h=>by
  simp only[qEt] at h
  split at h
  ·rename_i s l1 h1 h2
   simp only[sI] at h
   subst h
   have q1:=qNm S T h1
   have q2:=qFr S T rs h2
   rw[List.mapM_cons,Sem.run_bind]
   rw[q1,Result.andThen_ok,Sem.run_bind,q2]
   rfl
  ·cases h
theorem qXl{fn:Func}{st:St}{e:Env}{a:Act}{w:World}(S:qW F w0 st.heap e w)(T:zC n st.heap.length st.tm e a){s:SV}(h:zKy P st fn.results.toList=some s):
  (results fn a.tmps).run P w=.ok (den e s) w:=by
 have key:∀ l,qEt P st fn.results.toList=some l→(results fn a.tmps).run P w=.ok (if h:(qS e l).toArray.size=1 then(qS e l).toArray[0] else .tuple (qS e l).toArray) w:=by
  intro l hl
  have:=qFr S T _ hl
  rw[qWx,Array.mapM_eq_mapM_toList]
  simp only[Sem.run_bind,Sem.run_map,this,Result.andThen_ok,Sem.run_pure]
 unfold zKy at h
 split at h
 ·rename_i s1 hl
  simp only[sI] at h
  subst h
  rw[key _ hl]
  rfl
 ·rename_i l hne hl
  simp only[sI] at h
  subst h
  rw[key _ hl]
  have hsz:¬ (qS e l).toArray.size=1:=by
   intro hh
   simp only[List.size_toArray,qV] at hh
   match l,hh with
   | [x],_=>exact hne x rfl
  rw[dif_neg hsz]
  rfl
 ·cases h

/-! ### another state that says less -/
mutual
def yJ (π : List Nat) : SV → SV
  | .v x => .v x
  | .bl b => .bl b
  | .p i off => .p (π.getD i 0) off
  | .o i => .o (π.getD i 0)
  | .q i off => .q (π.getD i 0) off
  | .m i => .m (π.getD i 0)
  | .sl i off len cap => .sl (π.getD i 0) off len cap
  | .x i p => .x (π.getD i 0) p
  | .xp i p sz k j => .xp (π.getD i 0) p sz k j
  | .qk i sz k j => .qk (π.getD i 0) sz k j
  | .agg cs => .agg (qDg π cs)
  | .tup cs => .tup (qDg π cs)
  | .fn f a c => .fn f (qDg π a) (qDg π c)
  | .ifc t y => .ifc t (yJ π y)
def qDg (π : List Nat) : List SV → List SV
  | [] => []
  | x :: r => yJ π x :: qDg π r
end
def jC(π:List Nat)(e:Env):Env:=⟨fun i=>e.blk (π.getD i 0),fun i=>e.row (π.getD i 0),fun i=>e.val (π.getD i 0),fun _ p=>e.one _ p,e.z⟩
mutual
theorem qKf (π : List Nat) (e : Env) : ∀ s, den (jC π e) s = den e (yJ π s)
  | .v x => rfl
  | .bl b => rfl
  | .p i off => rfl
  | .o i => rfl
  | .q i off => rfl
  | .m i => rfl
  | .sl i off len cap => rfl
  | .x i p => rfl
  | .xp i p sz k j => rfl
  | .qk i sz k j => rfl
  | .agg cs => by simp only [den, yJ, wX π e cs]
  | .tup cs => by simp only [den, yJ, wX π e cs]
  | .fn f a c => by simp only [den, yJ, wX π e a, wX π e c]
  | .ifc t y => by simp only [den, yJ, qKf π e y]
theorem wX (π : List Nat) (e : Env) : ∀ l, qS (jC π e) l = qS e (qDg π l)
  | [] => rfl
  | x :: r => by simp only [qS, qDg, qKf π e x, wX π e r]
end
def jY(π:List Nat):HO→HO
 | .cells cs T=>.cells (qDg π cs) T
 | .row T sz n xs=>.row T sz n (qDg π xs)
 | .rowc T sz n c=>.rowc T sz n c
 | .ext b c=>.ext b c
 | .obj o=>.obj o
 | .mp ag ks kl c=>.mp ag ks kl (c.map (qDg π))
 | .gone=>.gone
def xQ:List Nat→Bool
 | []=>true
 | x::r=>!(r.any fun y=>Nat.beq x y)&&xQ r
theorem qBh:∀(l:List Nat),xQ l=true→∀(i j x:Nat),l[i]?=some x→l[j]?=some x→i=j
 | [],_,i,j,x,hi,_=>by cases hi
 | y::r,h,i,j,x,hi,hj=>by
  simp only[xQ,Bool.and_eq_true,Bool.not_eq_true'] at h
  have hno:∀ k,r[k]?=some y→False:=fun k hk=>by
   have:=h.1
   rw[Bool.eq_false_iff] at this
   exact this (List.any_eq_true.2 ⟨y,List.mem_of_getElem? hk,by simp⟩)
  cases i with
  | zero =>
   simp only[List.getElem?_cons_zero,sI] at hi
   subst hi
   cases j with
   | zero=>rfl
   | succ j=>exact(hno j hj).elim
  | succ i =>
   cases j with
   | zero =>
    simp only[List.getElem?_cons_zero,sI] at hj
    subst hj
    exact(hno i hi).elim
   | succ j=>rw[qBh r h.2 i j x hi hj]
theorem zCa{π:List Nat}{e:Env}{M:Mem}{i j:Nat}{w:World}{x:HO}(hij:π[i]?=some j)(h:(jY π x).sat e M j w):x.sat (jC π e) M i w:=by
 have h1:(jC π e).blk i=e.blk j:=by simp [jC,hij]
 have h2:(jC π e).row i=e.row j:=by simp [jC,hij]
 have h3:(jC π e).val i=e.val j:=by simp [jC,hij]
 cases x with
 | cells cs T =>
  simp only[HO.sat,jY] at h ⊢
  rw[wX,h1]
  exact h
 | row T sz n xs =>
  simp only[HO.sat,jY] at h ⊢
  rw[wX,h2]
  exact h
 | rowc T sz n c =>
  simp only[HO.sat,jY] at h ⊢
  rw[h2]
  exact h
 | ext b c =>
  simp only[HO.sat,jY] at h ⊢
  rw[h3]
  exact h
 | obj o =>
  simp only[HO.sat,jY] at h ⊢
  rw[h1]
  exact h
 | mp ag ks kl c =>
  have hc:(c.map (qDg π)).den e kl.length=c.den (jC π e) kl.length:=Mc.den_map _ _ _ _ c fun xs _=>(wX π e xs).symm
  simp only[HO.sat,jY,hc] at h ⊢
  rw[h1]
  exact h
 | gone=>trivial
theorem qHx{π:List Nat}{e:Env}{i j:Nat}{x:HO}(hij:π[i]?=some j):x.own (jC π e) i=(jY π x).own e j:=by
 have h1:(jC π e).blk i=e.blk j:=by simp [jC,hij]
 have h2:(jC π e).row i=e.row j:=by simp [jC,hij]
 cases x <;> simp [HO.own,jY,h1,h2]
theorem qW.ren(hF:jM F){h h':List HO}{e:Env}{w:World}(S:qW F w0 h e w)(π:List Nat)(hn:xQ π=true)(hp:w0.m≤h'.length∧∀ i,i<w0.m→π[i]?=some i)(hH:∀(i:Nat) (x:HO),h'[i]?=some x→∃ j:Nat,π[i]?=some j∧h[j]?=some (jY π x))(hw:∀(i:Nat) (x:HO),h'[i]?=some x→x.ws h'.length):qW F w0 h' (jC π e) w:=by
 have hM:(mem w e h).le (mem w (jC π e) h'):=by
  intro b o hb
  unfold mem at hb ⊢
  split at hb
  ·cases hb
  ·rename_i hno
   rw[if_neg,hb]
   rintro⟨i,x,hx,hb2⟩
   obtain⟨j,hj,hx'⟩:=hH i x hx
   rw[qHx hj] at hb2
   exact hno ⟨j,_,hx',hb2⟩
 refine⟨S.os,S.tape,S.output,?_,hw,?_,hF _ _ hM S.fact,?_,S.zlt,S.ez,hp.1,fun i hi=>?_⟩
 rotate_right
 ·have:=hp.2 i hi
  simp only[jC,List.getD_eq_getElem?_getD,this,Option.getD_some]
  exact S.pin.2 i hi
 ·intro i x hx
  obtain⟨j,hj,hx'⟩:=hH i x hx
  have:=zCa hj (S.sat j _ hx')
  exact qKm hM (fun _ _=>rfl) this
 ·intro i i2 x x2 b hx hx2 hb hb2
  obtain⟨j,hj,hx'⟩:=hH i x hx
  obtain⟨j2,hj2,hx2'⟩:=hH i2 x2 hx2
  rw[qHx hj] at hb
  rw[qHx hj2] at hb2
  have:=S.one j j2 _ _ b hx' hx2' hb hb2
  subst this
  exact qBh π hn i i2 j hj hj2
 ·intro i x b hx hb
  obtain⟨j,hj,hx'⟩:=hH i x hx
  rw[qHx hj] at hb
  exact S.nz j _ b hx' hb

/-! ### the objects that matter, in their order -/
def qDr:List Nat→Nat→Option Nat
 | [],_=>none
 | x::r,i=>bif Nat.beq x i then some 0 else match qDr r i with | some k=>some (k+1) | none=>none
theorem qLq:∀(l:List Nat) {i k:Nat},qDr l i=some k→l[k]?=some i
 | [],i,k,h=>by cases h
 | x::r,i,k,h=>by
  simp only[qDr] at h
  cases hb:Nat.beq x i with
  | true =>
   rw[hb] at h
   simp only[cond_true,sI] at h
   subst h
   simp [Nat.eq_of_beq_eq_true hb]
  | false =>
   rw[hb] at h
   simp only[cond_false] at h
   split at h
   ·rename_i k' hk
    simp only[sI] at h
    subst h
    simpa using qLq r hk
   ·cases h
mutual
def qCw (π : List Nat) : SV → Option SV
  | .v x => some (.v x)
  | .bl b => some (.bl b)
  | .p i off => match qDr π i with | some k => some (.p k off) | none => none
  | .o i => match qDr π i with | some k => some (.o k) | none => none
  | .q i off => match qDr π i with | some k => some (.q k off) | none => none
  | .m i => match qDr π i with | some k => some (.m k) | none => none
  | .sl i off len cap => match qDr π i with | some k => some (.sl k off len cap) | none => none
  | .x i p => match qDr π i with | some k => some (.x k p) | none => none
  | .xp i p sz k j => match qDr π i with | some q => some (.xp q p sz k j) | none => none
  | .qk i sz k j => match qDr π i with | some q => some (.qk q sz k j) | none => none
  | .agg cs => match qHj π cs with | some l => some (.agg l) | none => none
  | .tup cs => match qHj π cs with | some l => some (.tup l) | none => none
  | .fn f a c => match qHj π a, qHj π c with | some x, some y => some (.fn f x y) | _, _ => none
  | .ifc t y => match qCw π y with | some x => some (.ifc t x) | none => none
def qHj (π : List Nat) : List SV → Option (List SV)
  | [] => some []
  | x :: r => match qCw π x, qHj π r with | some a, some b => some (a :: b) | _, _ => none
end
theorem xY{π:List Nat}{i k:Nat}(h:qDr π i=some k):π.getD k 0=i∧k<π.length:=by
 have h1:=qLq π h
 exact⟨by simp [h1],(List.getElem?_eq_some_iff.1 h1).1⟩
mutual
theorem qDh (π : List Nat) : ∀ (s : SV) {s' : SV}, qCw π s = some s' → yJ π s' = s ∧ ws π.length s'
  | .v x, s', h => by simp only [qCw, Option.some.injEq] at h; subst h; exact ⟨rfl, trivial⟩
  | .bl b, s', h => by simp only [qCw, Option.some.injEq] at h; subst h; exact ⟨rfl, trivial⟩
  | .p i off, s', h => by
    simp only [qCw] at h
    split at h
    · rename_i k hk; simp only [Option.some.injEq] at h; subst h; obtain ⟨a, b⟩ := xY hk; exact ⟨by simp only [yJ, a], b⟩
    · cases h
  | .o i, s', h => by
    simp only [qCw] at h
    split at h
    · rename_i k hk; simp only [Option.some.injEq] at h; subst h; obtain ⟨a, b⟩ := xY hk; exact ⟨by simp only [yJ, a], b⟩
    · cases h
  | .q i off, s', h => by
    simp only [qCw] at h
    split at h
    · rename_i k hk; simp only [Option.some.injEq] at h; subst h; obtain ⟨a, b⟩ := xY hk; exact ⟨by simp only [yJ, a], b⟩
    · cases h
  | .m i, s', h => by
    simp only [qCw] at h
    split at h
    · rename_i k hk; simp only [Option.some.injEq] at h; subst h; obtain ⟨a, b⟩ := xY hk; exact ⟨by simp only [yJ, a], b⟩
    · cases h
  | .sl i off len cap, s', h => by
    simp only [qCw] at h
    split at h
    · rename_i k hk; simp only [Option.some.injEq] at h; subst h; obtain ⟨a, b⟩ := xY hk; exact ⟨by simp only [yJ, a], b⟩
    · cases h
  | .x i p, s', h => by
    simp only [qCw] at h
    split at h
    · rename_i k hk; simp only [Option.some.injEq] at h; subst h; obtain ⟨a, b⟩ := xY hk; exact ⟨by simp only [yJ, a], b⟩
    · cases h
  | .xp i p sz k j, s', h => by
    simp only [qCw] at h
    split at h
    · rename_i k hk; simp only [Option.some.injEq] at h; subst h; obtain ⟨a, b⟩ := xY hk; exact ⟨by simp only [yJ, a], b⟩
    · cases h
  | .qk i sz k j, s', h => by
    simp only [qCw] at h
    split at h
    · rename_i k hk; simp only [Option.some.injEq] at h; subst h; obtain ⟨a, b⟩ := xY hk; exact ⟨by simp only [yJ, a], b⟩
    · cases h
  | .agg cs, s', h => by
    simp only [qCw] at h
    split at h
    · rename_i l hl; simp only [Option.some.injEq] at h; subst h; obtain ⟨a, b⟩ := yI π cs hl; exact ⟨by simp only [yJ, a], b⟩
    · cases h
  | .tup cs, s', h => by
    simp only [qCw] at h
    split at h
    · rename_i l hl; simp only [Option.some.injEq] at h; subst h; obtain ⟨a, b⟩ := yI π cs hl; exact ⟨by simp only [yJ, a], b⟩
    · cases h
  | .fn f a c, s', h => by
    simp only [qCw] at h
    split at h
    · rename_i x y hx hy; simp only [Option.some.injEq] at h; subst h
      obtain ⟨a1, b1⟩ := yI π a hx
      obtain ⟨a2, b2⟩ := yI π c hy
      exact ⟨by simp only [yJ, a1, a2], b1, b2⟩
    · cases h
  | .ifc t y, s', h => by
    simp only [qCw] at h
    split at h
    · rename_i l hl; simp only [Option.some.injEq] at h; subst h; obtain ⟨a, b⟩ := qDh π y hl; exact ⟨by simp only [yJ, a], b⟩
    · cases h
theorem yI (π : List Nat) : ∀ (l : List SV) {l' : List SV}, qHj π l = some l' → qDg π l' = l ∧ wsL π.length l'
  | [], l', h => by simp only [qHj, Option.some.injEq] at h; subst h; exact ⟨rfl, trivial⟩
  | x :: r, l', h => by
    simp only [qHj] at h
    split at h
    · rename_i a b ha hb; simp only [Option.some.injEq] at h; subst h
      obtain ⟨a1, b1⟩ := qDh π x ha
      obtain ⟨a2, b2⟩ := yI π r hb
      exact ⟨by simp only [qDg, a1, a2], b1, b2⟩
    · cases h
end
def qMc(π:List Nat):HO→Option HO
 | .cells cs T=>match qHj π cs with | some l=>some (.cells l T) | none=>none
 | .row T sz n xs=>match qHj π xs with | some l=>some (.row T sz n l) | none=>none
 | .rowc T sz n c=>some (.rowc T sz n c)
 | .ext b c=>some (.ext b c)
 | .obj o=>some (.obj o)
 | .mp ag ks kl (.svs xs)=>match qHj π xs with | some l=>some (.mp ag ks kl (.svs l)) | none=>none
 | .mp ag ks kl .unit=>some (.mp ag ks kl .unit)
 | .mp ag ks kl (.ints q l)=>some (.mp ag ks kl (.ints q l))
 | .gone=>some .gone
theorem qWv(π:List Nat){x x':HO}(h:qMc π x=some x'):jY π x'=x∧x'.ws π.length:=by
 cases x with
 | cells cs T =>
  simp only[qMc] at h
  split at h
  ·rename_i l hl; simp only[sI] at h; subst h; obtain⟨a,b⟩:=yI π cs hl; exact⟨by simp only[jY,a],b⟩
  ·cases h
 | row T sz n xs =>
  simp only[qMc] at h
  split at h
  ·rename_i l hl; simp only[sI] at h; subst h; obtain⟨a,b⟩:=yI π xs hl; exact⟨by simp only[jY,a],b⟩
  ·cases h
 | rowc T sz n c=>simp only[qMc,sI] at h; subst h; exact⟨rfl,trivial⟩
 | ext b c=>simp only[qMc,sI] at h; subst h; exact⟨rfl,trivial⟩
 | obj o=>simp only[qMc,sI] at h; subst h; exact⟨rfl,trivial⟩
 | mp ag ks kl c =>
  cases c with
  | unit=>simp only[qMc,sI] at h; subst h; exact⟨rfl,trivial⟩
  | ints q l=>simp only[qMc,sI] at h; subst h; exact⟨rfl,trivial⟩
  | svs xs =>
   simp only[qMc] at h
   split at h
   ·rename_i l hl; simp only[sI] at h; subst h; obtain⟨a,b⟩:=yI π xs hl; exact⟨by simp only[jY,Mc.map,a],b⟩
   ·cases h
 | gone=>simp only[qMc,sI] at h; subst h; exact⟨rfl,trivial⟩
def qGo(π:List Nat)(h:List HO):List Nat→Option (List HO)
 | []=>some []
 | i::r=>match h[i]? with
  | some x=>match qMc π x,qGo π h r with
   | some y,some l=>some (y::l)
   | _,_=>none
  | none=>none
theorem wU(π:List Nat)(h:List HO):∀(l:List Nat) {h':List HO},qGo π h l=some h'→h'.length=l.length∧∀(i:Nat) (x:HO),h'[i]?=some x→(∃ j:Nat,l[i]?=some j∧h[j]?=some (jY π x))∧x.ws π.length
 | [],h',hh=>by simp only[qGo,sI] at hh; subst hh; exact⟨rfl,fun i x hx=>(by cases hx)⟩
 | i::r,h',hh=>by
  simp only[qGo] at hh
  split at hh
  ·rename_i x hx
   split at hh
   ·rename_i y l hy hl
    simp only[sI] at hh
    subst hh
    obtain⟨a,b⟩:=wU π h r hl
    obtain⟨c,d⟩:=qWv π hy
    refine⟨by simp [a],fun k z hz=>?_⟩
    cases k with
    | zero =>
     simp only[List.getElem?_cons_zero,sI] at hz
     subst hz
     exact⟨⟨i,rfl,by rw[c]; exact hx⟩,d⟩
    | succ k=>simpa using b k z (by simpa using hz)
   ·cases hh
  ·cases hh
def qSs(l:List Nat)(i:Nat):List Nat:=bif l.any (fun y=>Nat.beq i y) then l else l++[i]
mutual
def qJd : SV → List Nat → List Nat
  | .p i _, l => qSs l i
  | .o i, l => qSs l i
  | .q i _, l => qSs l i
  | .m i, l => qSs l i
  | .sl i _ _ _, l => qSs l i
  | .x i _, l => qSs l i
  | .xp i _ _ _ _, l => qSs l i
  | .qk i _ _ _, l => qSs l i
  | .agg cs, l => qAf cs l
  | .tup cs, l => qAf cs l
  | .fn _ a c, l => qAf c (qAf a l)
  | .ifc _ y, l => qJd y l
  | _, l => l
def qAf : List SV → List Nat → List Nat
  | [], l => l
  | x :: r, l => qAf r (qJd x l)
end
def zIx(h:List HO):List Nat→List Nat→List Nat
 | [],l=>l
 | i::r,l=>zIx h r (match h[i]? with
  | some (.cells cs _)=>qAf cs l
  | some (.row _ _ _ xs)=>qAf xs l
  | some (.mp _ _ _ (.svs xs))=>qAf xs l
  | _=>l)
def xS(h:List HO):Nat→List Nat→List Nat
 | 0,l=>l
 | f+1,l=>xS h f (zIx h l l)
def qBt(tm:List (Nat×SV)):List Nat→List SV
 | []=>[]
 | t::r=>match lk tm t with
  | some s=>s::qBt tm r
  | none=>qBt tm r
def qOo(π:List Nat)(tm:List (Nat×SV)):List Nat→Option (List (Nat×SV))
 | []=>some []
 | t::r=>match lk tm t with
  | some s=>match qCw π s,qOo π tm r with
   | some s',some l=>some ((t,s')::l)
   | _,_=>none
  | none=>qOo π tm r
theorem qBl(π:List Nat)(tm:List (Nat×SV)):∀(ks:List Nat) {tm':List (Nat×SV)},qOo π tm ks=some tm'→∀ t s,lk tm' t=some s→lk tm t=some (yJ π s)∧ws π.length s
 | [],tm',h,t,s,hs=>by simp only[qOo,sI] at h; subst h; cases hs
 | u::r,tm',h,t,s,hs=>by
  simp only[qOo] at h
  split at h
  ·rename_i s0 h0
   split at h
   ·rename_i s1 l h1 h2
    simp only[sI] at h
    subst h
    simp only[lk] at hs
    cases hb:Nat.beq u t with
    | true =>
     rw[hb] at hs
     simp only[cond_true,sI] at hs
     subst hs
     have:=Nat.eq_of_beq_eq_true hb
     subst this
     obtain⟨a,b⟩:=qDh π s0 h1
     exact⟨by rw[a]; exact h0,b⟩
    | false =>
     rw[hb] at hs
     exact qBl π tm r h2 t s hs
   ·cases h
  ·exact qBl π tm r h t s hs
def qDt:Nat→Nat→List Nat
 | _,0=>[]
 | i,n+1=>i::qDt (i+1) n
def qWe:Nat→Nat→List Nat→Bool
 | _,0,_=>true
 | i,n+1,x::r=>Nat.beq x i&&qWe (i+1) n r
 | _,_+1,[]=>false
theorem qIb:∀(n i:Nat) (l:List Nat),qWe i n l=true→n≤l.length∧∀ j,j<n→l[j]?=some (i+j)
 | 0,i,l,_=>⟨Nat.zero_le _,fun j hj=>by omega⟩
 | n+1,i,[],h=>by cases h
 | n+1,i,x::r,h=>by
  simp only[qWe,Bool.and_eq_true] at h
  obtain⟨a,b⟩:=qIb n (i+1) r h.2
  refine⟨by rw[List.length_cons]; omega,fun j hj=>?_⟩
  cases j with
  | zero=>rw[List.getElem?_cons_zero,Nat.eq_of_beq_eq_true h.1]; rfl
  | succ j=>rw[List.getElem?_cons_succ,b j (by omega),Nat.add_right_comm,Nat.add_assoc]
def zMt(m:Nat)(ks:List Nat)(st:St):Option St :=
 match qOo (xS st.heap 4 (qAf (qBt st.tm ks) (qDt 0 m))) st.tm ks,qGo (xS st.heap 4 (qAf (qBt st.tm ks) (qDt 0 m))) st.heap (xS st.heap 4 (qAf (qBt st.tm ks) (qDt 0 m))) with
 | some tm,some h=>bif xQ (xS st.heap 4 (qAf (qBt st.tm ks) (qDt 0 m)))&&qWe 0 m (xS st.heap 4 (qAf (qBt st.tm ks) (qDt 0 m))) then some ⟨tm,h⟩ else none
 | _,_=>none
theorem zDb(hF:jM F){m:Nat}(hm:w0.m=m){k:List It}{st st':St}{ks:List Nat}(h:zMt m ks st=some st')(hk:Ok P B n F w0 fin k st'):Ok P B n F w0 fin k st:=by
 unfold zMt at h
 split at h
 ·rename_i tm hh h1 h2
  generalize hπ:xS st.heap 4 (qAf (qBt st.tm ks) (qDt 0 m))=π at h h1 h2
  cases hb:xQ π&&qWe 0 m π with
  | false=>rw[hb] at h; cases h
  | true =>
   rw[hb] at h
   rw[Bool.and_eq_true] at hb
   obtain⟨hb,hb2⟩:=hb
   obtain⟨p1,p2⟩:=qIb m 0 π hb2
   simp only[cond_true,sI] at h
   subst h
   intro e a w S T
   obtain⟨l1,l2⟩:=wU π st.heap π h2
   refine hk (jC π e) a w (S.ren hF π hb ⟨by rw[l1,hm]; exact p1,fun i hi=>by rw[p2 i (by omega),Nat.zero_add]⟩ (fun i x hx=>(l2 i x hx).1) (fun i x hx=>by rw[l1]; exact(l2 i x hx).2)) ⟨T.size,T.defers,fun t s hs=>?_,fun t s hs=>?_⟩
   ·rw[qKf]
    exact T.get t _ (qBl π st.tm ks h1 t s hs).1
   ·rw[l1]
    exact(qBl π st.tm ks h1 t s hs).2
 ·cases h

/-! ### the same objects, told otherwise -/
theorem qW.conv(hF:jM F){h h':List HO}{e:Env}{w:World}(S:qW F w0 h e w)(hl:h'.length=h.length)(hH:∀(i:Nat) (x':HO),h'[i]?=some x'→∃ x:HO,h[i]?=some x∧x'.own e i=x.own e i∧(x.sat e (mem w e h) i w→x'.sat e (mem w e h) i w)∧(x.ws h.length→x'.ws h.length)):qW F w0 h' e w:=by
 have hM:(mem w e h).le (mem w e h'):=by
  intro b o hb
  unfold mem at hb ⊢
  split at hb
  ·cases hb
  ·rename_i hno
   rw[if_neg,hb]
   rintro⟨i,x,hx,hb2⟩
   obtain⟨y,h1,h2,_⟩:=hH i x hx
   rw[h2] at hb2
   exact hno ⟨i,y,h1,hb2⟩
 refine⟨S.os,S.tape,S.output,?_,?_,?_,hF _ _ hM S.fact,?_,S.zlt,S.ez,by rw[hl]; exact S.pin⟩
 ·intro i x hx
  obtain⟨y,h1,_,h3,_⟩:=hH i x hx
  exact qKm hM (fun _ _=>rfl) (h3 (S.sat i y h1))
 ·intro i x hx
  obtain⟨y,h1,_,_,h4⟩:=hH i x hx
  rw[hl]
  exact h4 (S.ws i y h1)
 ·intro i j x x2 b hx hx2 hb hb2
  obtain⟨y,h1,h2,_⟩:=hH i x hx
  obtain⟨y2,k1,k2,_⟩:=hH j x2 hx2
  rw[h2] at hb
  rw[k2] at hb2
  exact S.one i j y y2 b h1 k1 hb hb2
 ·intro i x b hx hb
  obtain⟨y,h1,h2,_⟩:=hH i x hx
  rw[h2] at hb
  exact S.nz i y b h1 hb
def HE:HO→HO→Prop
 | .rowc T sz n c,.rowc T' sz' n' c'=>T=T'∧sz=sz'∧n=n'∧∀ k,k<n→∀ j,j<sz→c.at k j=c'.at k j
 | .ext b (.s pt sz n c),.ext b' (.s pt' sz' n' c')=>b=b'∧pt=pt'∧sz=sz'∧n=n'∧∀ k,k<n→∀ j,j<sz→c k j=c' k j
 | a,b=>a=b
def HEs:List HO→List HO→Prop
 | [],[]=>True
 | a::r,b::t=>HE a b∧HEs r t
 | _,_=>False
theorem HE.refl(a:HO):HE a a:=by
 cases a with
 | ext b c=>cases c <;> simp [HE]
 | _=>simp [HE]
theorem HEs.refl:∀(l:List HO),HEs l l
 | []=>trivial
 | a::r=>⟨HE.refl a,HEs.refl r⟩
theorem HE.spec{a b:HO}(h:HE a b):(∃ T sz n c c',a=.rowc T sz n c∧b=.rowc T sz n c'∧∀ k,k<n→∀ j,j<sz→c.at k j=c'.at k j)∨(∃ b0 pt sz n c c',a=.ext b0 (.s pt sz n c)∧b=.ext b0 (.s pt sz n c')∧∀ k,k<n→∀ j,j<sz→c k j=c' k j)∨a=b:=by
 cases a with
 | rowc T sz n c =>
  cases b with
  | rowc T' sz' n' c' =>
   obtain⟨rfl,rfl,rfl,h4⟩:=h
   exact .inl ⟨_,_,_,_,_,rfl,rfl,h4⟩
  | _=>exact .inr (.inr h)
 | ext b0 c =>
  cases c with
  | s pt sz n c =>
   cases b with
   | ext b1 c1 =>
    cases c1 with
    | s pt' sz' n' c' =>
     obtain⟨rfl,rfl,rfl,rfl,h4⟩:=h
     exact .inr (.inl ⟨_,_,_,_,_,_,rfl,rfl,h4⟩)
    | _=>exact .inr (.inr h)
   | _=>exact .inr (.inr h)
  | _=>exact .inr (.inr h)
 | _=>exact .inr (.inr h)
theorem qWw{M:Mem}{f:yT→Value}{pt:Bool}{sz n:Nat}{c c':Nat→Nat→qG}{p:yT}(hc:∀ k,k<n→∀ j,j<sz→c k j=c' k j)(h:qAa M f (.s pt sz n c) p):qAa M f (.s pt sz n c') p:=by
 obtain⟨oa,h1,h2⟩:=h
 refine⟨oa,h1,h2.imp id fun⟨ad,h3,h4⟩=>⟨ad,h3,fun k hk j hj=>?_⟩⟩
 rw[← hc k hk j hj]
 exact h4 k hk j hj
theorem qGn:∀ {h h':List HO},HEs h h'→h'.length=h.length∧∀(i:Nat) (x':HO),h'[i]?=some x'→∃ x,h[i]?=some x∧HE x x'
 | [],[],_=>⟨rfl,fun i x hx=>(by cases hx)⟩
 | a::r,b::t,⟨h1,h2⟩=>by
  obtain⟨l1,l2⟩:=qGn h2
  refine⟨by simp [l1],fun i x hx=>?_⟩
  cases i with
  | zero =>
   simp only[List.getElem?_cons_zero,sI] at hx
   subst hx
   exact⟨a,rfl,h1⟩
  | succ i=>simpa using l2 i x (by simpa using hx)
 | [],_::_,h=>h.elim
 | _::_,[],h=>h.elim
theorem qW.eqv(hF:jM F){h h':List HO}{e:Env}{w:World}(S:qW F w0 h e w)(hh:HEs h h'):qW F w0 h' e w:=by
 obtain⟨l1,l2⟩:=qGn hh
 refine S.conv hF l1 fun i x' hx'=>?_
 obtain⟨x,h1,h2⟩:=l2 i x' hx'
 refine⟨x,h1,?_⟩
 rcases h2.spec with ⟨T,sz,n,c,c',rfl,rfl,h4⟩ | ⟨b0,pt,sz,n,c,c',rfl,rfl,h4⟩ | rfl
 ·refine⟨rfl,fun hs=>?_,fun _=>trivial⟩
  obtain⟨zB,v1,v2,v3⟩:=hs
  refine⟨zB,v1,v2,fun k hk j hj=>?_⟩
  rw[← h4 k hk j hj]
  exact v3 k hk j hj
 ·exact⟨rfl,fun hs=>qWw h4 hs,fun _=>trivial⟩
 ·exact⟨rfl,id,id⟩
theorem Ok.eqv(hF:jM F){k:List It}{tm:List (Nat×SV)}{h h':List HO}(hh:HEs h h')(hk:Ok P B n F w0 fin k ⟨tm,h'⟩):Ok P B n F w0 fin k ⟨tm,h⟩:=by
 intro e a w S T
 have hl:=(qGn hh).1
 exact hk e a w (S.eqv hF hh) ⟨T.size,T.defers,T.get,fun t s hs=>by show ws h'.length s; rw[hl]; exact T.wsc t s hs⟩
def zHf(h:List HO)(ho:HO):HO :=
 match ho with
 | .row T sz n xs=>match wQ h xs with
  | some (l,[])=>.rowc T sz n (.lit sz l)
  | _=>.row T sz n xs
 | ho=>ho
theorem qW.rows(hF:jM F){h:List HO}{e:Env}{w:World}(S:qW F w0 h e w):qW F w0 (h.map (zHf h)) e w:=by
 refine S.conv hF (by simp) fun i x' hx'=>?_
 rw[List.getElem?_map,Option.map_eq_some_iff] at hx'
 obtain⟨x,hx,rfl⟩:=hx'
 refine⟨x,hx,?_⟩
 cases x with
 | row T sz n xs =>
  simp only[zHf]
  split
  ·rename_i l hl
   refine⟨rfl,fun hs=>?_,fun _=>trivial⟩
   obtain⟨v1,v2⟩:=hs
   exact⟨qS e xs,v1,v2,qRq S.q hl (fun x hx=>by cases hx) v1.1⟩
  ·exact⟨rfl,id,id⟩
 | _=>exact⟨rfl,id,id⟩
def qNz(st:St):List (Nat×TypeId×Nat)→St
 | []=>st
 | (t,T,sz)::r=>qNz (match lk st.tm t with
  | some (.v (.slice none 0 0))=>⟨(t,.o st.heap.length)::del st.tm t,st.heap++[.rowc T sz 0 (.lit 1 [])]⟩
  | _=>st) r
theorem qOn(hF:jM F){k:List It}:∀(l:List (Nat×TypeId×Nat)) {st:St},Ok P B n F w0 fin k (qNz st l)→Ok P B n F w0 fin k st
 | [],st,h=>h
 | (t,T,sz)::r,st,h=>by
  simp only[qNz] at h
  have h1:=qOn hF r h
  split at h1
  ·rename_i ht
   intro e a w S T'
   have hag:=wI e st.heap.length (.slice none 0 0)
   have S1:qW F w0 (st.heap++[.rowc T sz 0 (.lit 1 [])]) (e.setR st.heap.length (.slice none 0 0)) w :=
    S.newRowc hF (w':=w) T sz 0 _ (.slice none 0 0) (fun _=>⟨[],World.ownsRow_nil w 0 T sz,fun u hu=>(by cases hu),fun k hk=>by omega⟩) (fun b hb=>by cases hb) ⟨rfl,rfl,rfl,Nat.le_refl _,fun _ _ _=>rfl⟩
   refine h1 _ a w S1 ⟨T'.size,T'.defers,fun u s hs=>?_,fun u s hs=>?_⟩
   ·simp only[lk] at hs
    cases hb:Nat.beq t u with
    | true =>
     rw[hb] at hs
     simp only[cond_true,sI] at hs
     subst hs
     have:=Nat.eq_of_beq_eq_true hb
     subst this
     have:=T'.get t _ ht
     simp only[den] at this ⊢
     rw[this]
     simp [Env.setR]
    | false =>
     rw[hb] at hs
     simp only[cond_false] at hs
     rw[xU _ _ _ (fun hh=>by subst hh; simp at hb)] at hs
     rw[yS hag s (T'.wsc u s hs)]
     exact T'.get u s hs
   ·simp only[lk] at hs
    cases hb:Nat.beq t u with
    | true =>
     rw[hb] at hs
     simp only[cond_true,sI] at hs
     subst hs
     simp [ws]
    | false =>
     rw[hb] at hs
     simp only[cond_false] at hs
     rw[xU _ _ _ (fun hh=>by subst hh; simp at hb)] at hs
     exact wB (by simp) s (T'.wsc u s hs)
  ·exact h1
def qWo(m:Nat)(ks:List Nat)(nl:List (Nat×TypeId×Nat))(st:St):Option St :=
 zMt m ks ⟨(qNz st nl).tm,(qNz st nl).heap.map (zHf (qNz st nl).heap)⟩
theorem qXr(hF:jM F){m:Nat}(hm:w0.m=m){k:List It}{st st':St}{ks:List Nat}{nl:List (Nat×TypeId×Nat)}(h:qWo m ks nl st=some st')(hk:Ok P B n F w0 fin k st'):Ok P B n F w0 fin k st:=by
 refine qOn hF nl ?_
 have:=zDb hF hm h hk
 intro e a w S T
 exact this e a w (S.rows hF) ⟨T.size,T.defers,T.get,fun t s hs=>by show ws (List.map _ _).length s; rw[List.length_map]; exact T.wsc t s hs⟩
end
end Go.Sx
