/- The texts Tx1 .. Tx14 of this proof, one behind the other. -/
import Derived.Below
import Derived.OrdersHeld
import Derived.Tactics
import Derived.Laws.OwnMore
import Derived.KernelRfl
import Derived.Deep.Slices
import Derived.Stop.Asserts
import Derived.Deep.AppendSrc
import Derived.Laws.MakeOwn
import Derived.Laws.RangeString
import Derived.Laws.BytesString
import Derived.MapKept
import Derived.Carry
import Derived.LoopN
/- The symbolic values, the environment, the heap of a function's own objects, and the one lemma by which a world's step keeps them. -/
theorem aI{α:Type}{p:α→Prop}{q:Prop}(h:q)(s:∀m,p m:=by intro _;omega):(∀m,p m)∧q:=⟨s,h⟩
theorem sI{α:Type _}{a b:α}:(some a=some b)=(a=b):=Option.some.injEq a b
theorem pI{α:Type _}{β:Type _}{a c:α}{b d:β}:((a,b)=(c,d))=(a=c∧b=d):=Prod.mk.injEq a b c d
namespace Go.Pl
noncomputable def zBk(a:Nat):Nat:=Classical.choose (⟨a,rfl⟩:∃ x:Nat,x=a)
theorem wZ(a:Nat):zBk a=a:=Classical.choose_spec (⟨a,rfl⟩:∃ x:Nat,x=a)
noncomputable def qF(n i:Nat):Nat:=zBk (n / 18446744073709551616^i%18446744073709551616)
end Go.Pl
namespace Go.Sx
open Go.RowKit

abbrev yC:=List (Nat×Nat×Nat)
inductive qB where
  | v (x : Value)
  | s (pt : Bool) (sz n : Nat) (c : Nat → Nat → qB)
def qNa(c:Nat→Nat→qB)(k j:Nat)(l:List qB):Nat→Nat→qB:=fun k' j' =>
 bif Nat.beq k' k&&Nat.ble j j' then(match l[j' - j]? with | some x=>x | none=>c k' j') else c k' j'
def lc(sz:Nat)(l:List qB):Nat→Nat→qB:=fun k j=>l.getD (k*sz+j) (.v undef)
def qCf(n:Nat)(c c2:Nat→Nat→qB):Nat→Nat→qB:=fun k j=>bif Nat.blt k n then c k j else c2 (k-n) j
def qWq(z:List Value):Nat→Nat→qB:=fun _ j=>.v (z.getD j undef)
inductive Ct where
  | fn (c : Nat → Nat → qB)
  | app (n : Nat) (a b : Ct)
  | upd (a : Ct) (k j : Nat) (l : List qB)
  | lit (sz : Nat) (l : List qB)
  | zero (z : List Value)
def Ct.at:Ct→Nat→Nat→qB
 | .fn c=>c
 | .app n a b=>qCf n a.at b.at
 | .upd a k j l=>qNa a.at k j l
 | .lit sz l=>lc sz l
 | .zero z=>qWq z
inductive SV where
  | v (x : Value)
  | bl (b : Bool)
  | p (i off : Nat)
  | o (i : Nat)
  | q (i off : Nat)
  | m (i : Nat)
  | sl (i off len cap : Nat)
  | x (i : Nat) (p : yC)
  | xp (i : Nat) (p : yC) (sz k j : Nat)
  | qk (i sz k j : Nat)
  | agg (cs : List SV)
  | tup (cs : List SV)
  | fn (f : Fn) (first cap : List SV)
  | ifc (t : TypeId) (y : SV)

inductive Mc where
  | unit
  | ints (q : IntKind) (l : List Int)
  | svs (xs : List SV)
def qW:List IntKind→List Int→List Value
 | k::ks,x::xs=>.int k x::qW ks xs
 | _,_=>[]
def mkT(ag:Bool)(ks:List IntKind)(xs:List Int):Value:=if ag then .agg (qW ks xs).toArray else(qW ks xs).headD undef
def mpE(ag:Bool)(ks:List IntKind):Nat→List (List Int)→List Value→List MapEntry
 | i,k::r,v::t=>⟨mkT ag ks k,v,i⟩::mpE ag ks (i+1) r t
 | _,_,_=>[]
def mpO(ag:Bool)(ks:List IntKind)(kl:List (List Int))(vs:List Value):Obj:=.map (mpE ag ks 0 kl vs).toArray kl.length
structure Env where
 blk:Nat→Nat
 row:Nat→Value
 val:Nat→yC→Value
 one:∀ i p,(val i p).oneCell'=true
 z:Nat→Prop
def qUr(v:Value)(n:Nat):Value :=
 match v with
 | .slice (some a) _ _=>.pointer (some (a.add n))
 | .pointer (some a)=>.pointer (some (a.add n))
 | _=>.pointer none
def qAq(v:Value)(n:Nat):Value :=
 match v with
 | .slice (some a) _ _=>.pointer (some ⟨a.block,n,none⟩)
 | _=>.pointer none
mutual
def den (e : Env) : SV → Value
  | .v x => x
  | .bl b => .bool b
  | .p i off => .pointer (some ⟨e.blk i, off, none⟩)
  | .o i => e.row i
  | .q i off => match e.row i with | .slice (some a) _ _ => .pointer (some ⟨a.block, off, none⟩) | _ => .pointer none
  | .m i => .map (some (e.blk i))
  | .sl i off len cap => .slice (some ⟨e.blk i, off, none⟩) len cap
  | .x i p => e.val i p
  | .xp i p sz k j => qUr (e.val i p) (k * sz + j)
  | .qk i sz k j => qAq (e.row i) (k * sz + j)
  | .agg cs => .agg (qN e cs).toArray
  | .tup cs => .tuple (qN e cs).toArray
  | .fn f a c => .func f (qN e a).toArray (qN e c).toArray
  | .ifc t y => .iface t (den e y)
def qN (e : Env) : List SV → List Value
  | [] => []
  | x :: r => den e x :: qN e r
end
theorem yM(e:Env)(l:List SV):qN e l=l.map (den e):=by
 induction l with
 | nil=>rfl
 | cons x r ih=>simp [qN,ih]
theorem qS(e:Env)(l:List SV):(qN e l).length=l.length:=by simp [yM]
mutual
def ws (n : Nat) : SV → Prop
  | .v _ => True
  | .bl _ => True
  | .p i _ => i < n
  | .o i => i < n
  | .q i _ => i < n
  | .m i => i < n
  | .sl i _ _ _ => i < n
  | .x i _ => i < n
  | .xp i _ _ _ _ => i < n
  | .qk i _ _ _ => i < n
  | .agg cs => wsL n cs
  | .tup cs => wsL n cs
  | .fn _ a c => wsL n a ∧ wsL n c
  | .ifc _ y => ws n y
def wsL (n : Nat) : List SV → Prop
  | [] => True
  | x :: r => ws n x ∧ wsL n r
end
theorem yP(n:Nat)(l:List SV):wsL n l↔∀ x∈l,ws n x:=by
 induction l with
 | nil=>simp [wsL]
 | cons x r ih=>simp [wsL,ih]
def Mc.den(e:Env)(n:Nat):Mc→List Value
 | .unit=>List.replicate n (.agg #[])
 | .ints q l=>l.map (Value.int q)
 | .svs xs=>qN e xs
def Mc.ws(n:Nat):Mc→Prop
 | .svs xs=>wsL n xs
 | _=>True
def Mc.map(g:List SV→List SV):Mc→Mc
 | .svs xs=>.svs (g xs)
 | .unit=>.unit
 | .ints q l=>.ints q l
theorem Mc.den_map(e e':Env)(n:Nat)(g:List SV→List SV):∀(c:Mc),(∀ xs,c=.svs xs→qN e' (g xs)=qN e xs)→(c.map g).den e' n=c.den e n
 | .unit,_=>rfl
 | .ints _ _,_=>rfl
 | .svs xs,h=>h xs rfl
theorem Mc.ws_map(n m:Nat)(g:List SV→List SV):∀(c:Mc),(∀ xs,c=.svs xs→wsL n xs→wsL m (g xs))→c.ws n→(c.map g).ws m
 | .unit,_,_=>trivial
 | .ints _ _,_,_=>trivial
 | .svs xs,h,hs=>h xs rfl hs
def zD(n:Nat)(e e':Env):Prop:=(∀ i,i<n→e'.blk i=e.blk i∧e'.row i=e.row i∧e'.val i=e.val i)∧e'.z=e.z
theorem zD.refl(n:Nat)(e:Env):zD n e e:=⟨fun _ _=>⟨rfl,rfl,rfl⟩,rfl⟩
theorem zD.trans{n m:Nat}{a b c:Env}(h:zD n a b)(k:zD m b c)(hnm:n≤m):zD n a c :=
 ⟨fun i hi=>⟨((k.1 i (by omega)).1).trans (h.1 i hi).1,((k.1 i (by omega)).2.1).trans (h.1 i hi).2.1,((k.1 i (by omega)).2.2).trans (h.1 i hi).2.2⟩,k.2.trans h.2⟩
mutual
theorem jJ {n : Nat} {e e' : Env} (h : zD n e e') : ∀ (s : SV), ws n s → den e' s = den e s
  | .v _, _ => rfl
  | .bl _, _ => rfl
  | .p i off, hs => by simp only [den, (h.1 i hs).1]
  | .o i, hs => by simp only [den, (h.1 i hs).2.1]
  | .q i off, hs => by simp only [den, (h.1 i hs).2.1]
  | .m i, hs => by simp only [den, (h.1 i hs).1]
  | .sl i _ _ _, hs => by simp only [den, (h.1 i hs).1]
  | .x i p, hs => by simp only [den, (h.1 i hs).2.2]
  | .xp i p sz k j, hs => by simp only [den, (h.1 i hs).2.2]
  | .qk i sz k j, hs => by simp only [den, (h.1 i hs).2.1]
  | .agg cs, hs => by simp only [den, jW h cs hs]
  | .tup cs, hs => by simp only [den, jW h cs hs]
  | .fn f a c, hs => by simp only [den, jW h a hs.1, jW h c hs.2]
  | .ifc t y, hs => by simp only [den, jJ h y hs]
theorem jW {n : Nat} {e e' : Env} (h : zD n e e') : ∀ (l : List SV), wsL n l → qN e' l = qN e l
  | [], _ => rfl
  | x :: r, hs => by simp only [qN, jJ h x hs.1, jW h r hs.2]
end
mutual
theorem yO {n m : Nat} (h : n ≤ m) : ∀ (s : SV), ws n s → ws m s
  | .v _, _ => trivial
  | .bl _, _ => trivial
  | .p _ _, hs => Nat.lt_of_lt_of_le hs h
  | .o _, hs => Nat.lt_of_lt_of_le hs h
  | .q _ _, hs => Nat.lt_of_lt_of_le hs h
  | .m _, hs => Nat.lt_of_lt_of_le hs h
  | .sl _ _ _ _, hs => Nat.lt_of_lt_of_le hs h
  | .x _ _, hs => Nat.lt_of_lt_of_le hs h
  | .xp _ _ _ _ _, hs => Nat.lt_of_lt_of_le hs h
  | .qk _ _ _ _, hs => Nat.lt_of_lt_of_le hs h
  | .agg cs, hs => xE h cs hs
  | .tup cs, hs => xE h cs hs
  | .fn _ a c, hs => ⟨xE h a hs.1, xE h c hs.2⟩
  | .ifc _ y, hs => yO h y hs
theorem xE {n m : Nat} (h : n ≤ m) : ∀ (l : List SV), wsL n l → wsL m l
  | [], _ => trivial
  | x :: r, hs => ⟨yO h x hs.1, xE h r hs.2⟩
end

inductive HO where
  | cells (cs : List SV) (T : TypeId)
  | row (T : TypeId) (size n : Nat) (xs : List SV)
  | rowc (T : TypeId) (size n : Nat) (c : Ct)
  | ext (b : Bool) (c : qB)
  | obj (o : Obj)
  | mp (ag : Bool) (ks : List IntKind) (kl : List (List Int)) (c : Mc)
  | tbl (T0 T1 : TypeId) (size n : Nat) (c : Nat → Nat × (Nat → Nat → qB)) (hole : Option (Nat × Nat))
  | gone

def HO.ws(n:Nat):HO→Prop
 | .cells cs _=>wsL n cs
 | .row _ _ _ xs=>wsL n xs
 | .mp _ _ _ c=>c.ws n
 | .tbl _ _ _ _ _ hole=>∀ k m,hole=some (k,m)→m<n
 | _=>True
theorem HO.ws_mono{n m:Nat}(h:n≤m):∀ {ho:HO},ho.ws n→ho.ws m
 | .cells cs _,hs=>xE h cs hs
 | .row _ _ _ xs,hs=>xE h xs hs
 | .rowc ..,_=>trivial
 | .ext ..,_=>trivial
 | .obj _,_=>trivial
 | .mp _ _ _ (.svs xs),hs=>xE h xs hs
 | .mp _ _ _ .unit,_=>trivial
 | .mp _ _ _ (.ints _ _),_=>trivial
 | .tbl ..,hs=>fun k m hk=>Nat.lt_of_lt_of_le (hs k m hk) h
 | .gone,_=>trivial
def inH(hole:Option (Nat×Nat))(k:Nat):Prop:=∀ m,hole≠some (k,m)
def thd(e:Env)(i:Nat)(hole:Option (Nat×Nat))(k:Nat):Value :=
 match hole with
 | some (k0,m)=>if k=k0 then e.row m else e.val i [(1,k,0)]
 | none=>e.val i [(1,k,0)]
def HO.own(e:Env)(i:Nat):HO→Nat→Prop
 | .cells _ _,b=>e.blk i=b
 | .row ..,b=>(e.row i).ownBlock=some b
 | .rowc ..,b=>(e.row i).ownBlock=some b
 | .ext ..,_=>False
 | .obj _,b=>e.blk i=b
 | .mp ..,b=>e.blk i=b
 | .tbl _ _ _ n _ hole,b=>(e.row i).ownBlock=some b∨∃ k,k<n∧inH hole k∧(e.val i [(1,k,0)]).ownBlock=some b
 | .gone,_=>False
def qZh:Obj→Bool
 | .cells ..=>true
 | _=>false
abbrev Mem:=Nat→Option Obj
def Mem.le(M M':Mem):Prop:=∀ b o,M b=some o→M' b=some o
theorem Mem.le.refl(M:Mem):M.le M:=fun _ _ h=>h
theorem Mem.le.trans{a b c:Mem}(h:a.le b)(k:b.le c):a.le c:=fun _ _ x=>k _ _ (h _ _ x)
open Classical in
noncomputable def Mem.sub(M:Mem)(z:Nat→Prop):Mem:=fun b=>if z b then none else M b
theorem Mem.sub_le(M:Mem)(z:Nat→Prop):(M.sub z).le M:=by
 intro b o h
 unfold Mem.sub at h
 split at h
 ·cases h
 ·exact h
theorem Mem.sub_mono{M M':Mem}(h:M.le M')(z:Nat→Prop):(M.sub z).le (M'.sub z):=by
 intro b o hb
 unfold Mem.sub at hb ⊢
 split at hb
 ·cases hb
 ·rename_i hz
  rw[if_neg hz]
  exact h _ _ hb
def zP(F:Mem→Prop):Prop:=∀ M M',Mem.le M M'→F M→F M'
def Mem.cell? (M:Mem) (a:Addr):Option Value :=
 match M a.block with
 | some (.cells c _ _)=>if a.spot.isSome then none else c[a.off]?
 | _=>none
theorem Mem.cell_mono{M M':Mem}(h:M.le M'){a:Addr}{v:Value}(hc:M.cell? a=some v):M'.cell? a=some v:=by
 unfold Mem.cell? at hc ⊢
 cases hM:M a.block with
 | none=>rw[hM] at hc; cases hc
 | some o=>rw[hM] at hc; rw[h _ _ hM]; exact hc
def qZd(pt:Bool)(n:Nat)(v:Value)(oa:Option Addr):Prop :=
 match pt with
 | true=>v=.pointer oa
 | false=>∃ cap,v=.slice oa n cap∧n≤cap
def wQ(M:Mem)(f:yC→Value):qB→yC→Prop
 | .v x,p=>f p=x
 | .s pt sz n c,p=>∃ oa,qZd pt n (f p) oa∧(n=0∨∃ ad,oa=some ad∧∀ k,k<n→∀ j,j<sz→M.cell? (ad.add (k*sz+j))=some (f (p++[(sz,k,j)]))∧wQ M f (c k j) (p++[(sz,k,j)]))
theorem zT{M M':Mem}(h:M.le M')(f:yC→Value):∀(c:qB) (p:yC),wQ M f c p→wQ M' f c p
 | .v _,_,hr=>hr
 | .s _ _ _ c,_,⟨oa,h1,h2⟩=>⟨oa,h1,h2.imp id fun⟨ad,h3,h4⟩=>⟨ad,h3,fun k hk j hj=>⟨Mem.cell_mono h (h4 k hk j hj).1,zT h f (c k j) _ (h4 k hk j hj).2⟩⟩⟩
theorem xH{M:Mem}(f:yC→Value)(q:yC):∀(c:qB) (p:yC),wQ M (fun r=>f (q++r)) c p↔wQ M f c (q++p)
 | .v _,_=>Iff.rfl
 | .s pt sz n c,p=>by
  simp only[wQ]
  refine exists_congr fun oa=>and_congr Iff.rfl (or_congr Iff.rfl (exists_congr fun ad=>and_congr Iff.rfl ?_))
  refine forall_congr' fun k=>forall_congr' fun _=>forall_congr' fun j=>forall_congr' fun _=>?_
  rw[xH f q (c k j),List.append_assoc]
def yV(M:Mem)(u:Value)(c:qB):Prop:=∃ f:yC→Value,(∀ p,(f p).oneCell'=true)∧f []=u∧wQ M f c []
theorem qBw{M M':Mem}(h:M.le M'){u:Value}{c:qB}:yV M u c→yV M' u c
 | ⟨f,h1,h2,h3⟩=>⟨f,h1,h2,zT h f c [] h3⟩
def yA(M:Mem)(size n:Nat)(c:Nat→Nat→qB)(qR:List Value):Prop:=∀ k,k<n→∀ j,j<size→∃ u,qR[k*size+j]?=some u∧yV M u (c k j)
theorem qY{M M':Mem}(h:M.le M'){size n:Nat}{c:Nat→Nat→qB}{qR:List Value}(hr:yA M size n c qR):yA M' size n c qR :=
 fun k hk j hj=>by
  obtain⟨u,h1,h2⟩:=hr k hk j hj
  exact⟨u,h1,qBw h h2⟩
def HO.sat(e:Env)(M:Mem)(i:Nat)(w:World):HO→Prop
 | .cells cs T=>w.heap[e.blk i]?=some (.cells (qN e cs).toArray T (0,0))
 | .row T size n xs=>w.ownsRow 0 T size (e.row i) n (qN e xs)∧∀ u∈qN e xs,u.oneCell'=true
 | .rowc T size n c=>∃ qR,w.ownsRow 0 T size (e.row i) n qR∧(∀ u∈qR,u.oneCell'=true)∧yA (M.sub e.z) size n c.at qR
 | .ext b c=>wQ (if b then M else M.sub e.z) (e.val i) c []
 | .obj o=>w.heap[e.blk i]?=some o∧qZh o=false
 | .mp ag ks kl c=>w.heap[e.blk i]?=some (mpO ag ks kl (c.den e kl.length))∧(c.den e kl.length).length=kl.length∧∀ k∈kl,k.length=ks.length
 | .tbl T0 T1 size n c hole=>(∃ hds,w.ownsRow 0 T0 1 (e.row i) n hds∧(∀ u∈hds,u.oneCell'=true)∧∀ k,k<n→hds[k]?=some (thd e i hole k))∧(∀ k,k<n→inH hole k→∃ qR,w.ownsRow 0 T1 size (e.val i [(1,k,0)]) (c k).1 qR∧(∀ u∈qR,u.oneCell'=true)∧yA (M.sub e.z) size (c k).1 (c k).2 qR)∧(∀ k k' b,k<n→k'<n→inH hole k→inH hole k'→(e.val i [(1,k,0)]).ownBlock=some b→(e.val i [(1,k',0)]).ownBlock=some b→k=k')∧∀ k b,k<n→inH hole k→(e.val i [(1,k,0)]).ownBlock=some b→(e.row i).ownBlock≠some b
 | .gone=>True
def xO(e:Env)(h:List HO)(b:Nat):Prop:=∃(i:Nat) (ho:HO),h[i]?=some ho∧ho.own e i b
open Classical in
noncomputable def mem(w:World)(e:Env)(h:List HO):Mem:=fun b=>if xO e h b then none else w.heap[b]?
def xD(w:World):Mem:=fun b=>w.heap[b]?
theorem jH(w:World)(e:Env)(h:List HO):(mem w e h).le (xD w):=by
 intro b o hb
 unfold mem at hb
 split at hb
 ·cases hb
 ·exact hb
structure wO where
 w:World
 z:Nat→Prop
 /-- how many of the first objects stand for what the caller has given -/
 m:Nat
 e0:Env
structure qP (F:Mem→Prop) (w0:wO) (h:List HO) (e:Env) (w:World):Prop where
 os:w.os=w0.w.os
 tape:w.tape=w0.w.tape
 output:w.output=w0.w.output
 sat:∀(i:Nat) (ho:HO),h[i]?=some ho→ho.sat e (mem w e h) i w
 ws:∀(i:Nat) (ho:HO),h[i]?=some ho→ho.ws h.length
 one:∀(i j:Nat) (ho ho':HO) (b:Nat),h[i]?=some ho→h[j]?=some ho'→ho.own e i b→ho'.own e j b→i=j
 fact:F (mem w e h)
 nz:∀(i:Nat) (ho:HO) (b:Nat),h[i]?=some ho→ho.own e i b→¬ e.z b
 zlt:∀ b,e.z b→b<w.heap.size
 ez:e.z=w0.z
 pin:w0.m≤h.length∧∀ i,i<w0.m→e.blk i=w0.e0.blk i∧e.row i=w0.e0.row i∧e.val i=w0.e0.val i
theorem HO.own_lt{e:Env}{M:Mem}{i:Nat}{w:World}{ho:HO}(hs:ho.sat e M i w){b:Nat}(hb:ho.own e i b):b<w.heap.size:=by
 cases ho with
 | cells cs T =>
  simp only[HO.own] at hb
  subst hb
  exact(Array.getElem?_eq_some_iff.1 hs).1
 | row T size n xs=>exact(World.ownsRow.lt hs.1 b hb).2
 | rowc T size n c =>
  obtain⟨qR,h1,_⟩:=hs
  exact(World.ownsRow.lt h1 b hb).2
 | ext b c=>exact hb.elim
 | obj o =>
  simp only[HO.own] at hb
  subst hb
  exact(Array.getElem?_eq_some_iff.1 hs.1).1
 | mp ag ks kl c =>
  simp only[HO.own] at hb
  subst hb
  exact(Array.getElem?_eq_some_iff.1 hs.1).1
 | tbl T0 T1 size n c hole =>
  obtain⟨⟨hds,h1,_⟩,h2,_⟩:=hs
  rcases hb with hb | ⟨k,hk,hi,hb⟩
  ·exact(World.ownsRow.lt h1 b hb).2
  ·obtain⟨qR,h3,_⟩:=h2 k hk hi
   exact(World.ownsRow.lt h3 b hb).2
 | gone=>exact hb.elim
theorem jQ{w w':World}{T:TypeId}{size n:Nat}{v:Value}{xs:List Value}(h:w.ownsRow 0 T size v n xs)(hk:∀ b,v.ownBlock=some b→w'.heap[b]?=w.heap[b]?):w'.ownsRow 0 T size v n xs:=by
 obtain⟨h1,h2⟩:=h
 refine⟨h1,?_⟩
 rcases h2 with h2 | ⟨g,cap,cur,hv,hg,hh,r⟩
 ·exact .inl h2
 ·refine .inr ⟨g,cap,cur,hv,hg,?_,r⟩
  rw[hk g (by simp [hv,Value.ownBlock])]
  exact hh
theorem wI{e e':Env}{i j:Nat}{M M':Mem}{w w':World}{T0 T1:TypeId}{size n:Nat}{c:Nat→Nat×(Nat→Nat→qB)}{hole hole':Option (Nat×Nat)}(hrow:e'.row j=e.row i)(hval:e'.val j=e.val i)(hh:∀ k,thd e' j hole' k=thd e i hole k)(hin:∀ k,inH hole' k↔inH hole k)(hz:(M.sub e.z).le (M'.sub e'.z))(hk:∀ b,(HO.tbl T0 T1 size n c hole).own e i b→w'.heap[b]?=w.heap[b]?)(hs:(HO.tbl T0 T1 size n c hole).sat e M i w):(HO.tbl T0 T1 size n c hole').sat e' M' j w':=by
 obtain⟨⟨hds,h1,h2,h3⟩,h4,h5,h6⟩:=hs
 simp only[HO.sat,hrow,hval,hin]
 refine⟨⟨hds,jQ h1 fun b hb=>hk b (.inl hb),h2,fun k hk2=>by rw[h3 k hk2,hh]⟩,fun k hk2 hi=>?_,h5,h6⟩
 obtain⟨qR,v1,v2,v3⟩:=h4 k hk2 hi
 exact⟨qR,jQ v1 fun b hb=>hk b (.inr ⟨k,hk2,hi,hb⟩),v2,qY hz v3⟩
theorem HO.sat_keep{e e':Env}{M M':Mem}{i n:Nat}{w w':World}{ho:HO}(hM:M.le M')(hi:i<n)(hag:zD n e e')(hws:ho.ws n)(hs:ho.sat e M i w)(hk:∀ b,ho.own e i b→w'.heap[b]?=w.heap[b]?):ho.sat e' M' i w':=by
 cases ho with
 | cells cs T =>
  simp only[HO.sat,jW hag cs hws,(hag.1 i hi).1]
  rw[hk _ rfl]
  exact hs
 | row T size n xs =>
  simp only[HO.sat,jW hag xs hws,(hag.1 i hi).2.1]
  exact⟨jQ hs.1 fun b hb=>hk b hb,hs.2⟩
 | rowc T size n c =>
  obtain⟨qR,h1,h2,h3⟩:=hs
  simp only[HO.sat,(hag.1 i hi).2.1,hag.2]
  exact⟨qR,jQ h1 fun b hb=>hk b hb,h2,qY (Mem.sub_mono hM _) h3⟩
 | ext b c =>
  simp only[HO.sat,(hag.1 i hi).2.2,hag.2] at hs ⊢
  cases b with
  | true=>exact zT hM _ c [] hs
  | false=>exact zT (Mem.sub_mono hM _) _ c [] hs
 | obj o =>
  simp only[HO.sat,(hag.1 i hi).1]
  rw[hk _ rfl]
  exact hs
 | mp ag ks kl c =>
  have hc:c.den e' kl.length=c.den e kl.length:=by
   cases c with
   | svs xs=>exact jW hag xs hws
   | _=>rfl
  simp only[HO.sat,(hag.1 i hi).1,hc]
  rw[hk _ rfl]
  exact hs
 | tbl T0 T1 size n' c hole =>
  obtain⟨_,g2,g3⟩:=hag.1 i hi
  refine wI g2 g3 (fun k=>?_) (fun _=>Iff.rfl) (by rw[hag.2]; exact Mem.sub_mono hM _) hk hs
  cases hole with
  | none=>simp only[thd,g3]
  | some x=>simp only[thd,g3,(hag.1 x.2 (hws x.1 x.2 rfl)).2.1]
 | gone=>trivial
theorem HO.own_agree{e e':Env}{i n:Nat}{ho:HO}(hi:i<n)(hag:zD n e e'):ho.own e' i=ho.own e i:=by
 cases ho <;> funext b <;> simp [HO.own,(hag.1 i hi).1,(hag.1 i hi).2]
theorem qP.next'{F:Mem→Prop}(hF:zP F){w0:wO}{h h':List HO}{e e':Env}{w w':World}(S:qP F w0 h e w)(k:Nat)(hk':HO)(hlen:h.length≤h'.length)(hk:h'[k]?=some hk')(hag:zD h.length e e')(yE:∀ i ho,i≠k→h'[i]?=some ho→h[i]?=some ho∨ho=.gone)(_hold':∀ i ho,i≠k→h[i]?=some ho→h'[i]?=some ho∨h'[i]?=some .gone)(beta:Option Nat)(hbeta:∀ b,beta=some b→∃ j ho,h[j]?=some ho∧ho.own e j b∧(j=k∨h'[j]?=some .gone))(hsat:(mem w e h).le (mem w' e' h')→hk'.sat e' (mem w' e' h') k w')(hws:hk'.ws h'.length)(hown:∀ b,hk'.own e' k b→w.heap.size≤b∨∃ j ho,h[j]?=some ho∧ho.own e j b∧(j=k∨h'[j]?=some .gone))(hframe:∀ b,b<w.heap.size→beta≠some b→w'.heap[b]?=w.heap[b]?)(hsize:w.heap.size≤w'.heap.size)(hos:w'.os=w.os)(htape:w'.tape=w.tape)(hout:w'.output=w.output):qP F w0 h' e' w':=by
 have keepOwn:∀ i ho,i≠k→h'[i]?=some ho→ho≠.gone→i<h.length∧ho.own e' i=ho.own e i∧h[i]?=some ho:=by
  intro i ho hik hi hg
  rcases yE i ho hik hi with hi0 | hi0
  ·have hlt:i<h.length:=(List.getElem?_eq_some_iff.1 hi0).1
   exact⟨hlt,HO.own_agree hlt hag,hi0⟩
  ·exact absurd hi0 hg
 have hMem:(mem w e h).le (mem w' e' h'):=by
  intro b o hb
  unfold mem at hb ⊢
  split at hb
  ·cases hb
  ·rename_i hno
   have hlt:b<w.heap.size:=by
    rcases Nat.lt_or_ge b w.heap.size with hh | hh
    ·exact hh
    ·rw[Array.getElem?_eq_none hh] at hb; cases hb
   have hnb:beta≠some b:=fun hbb=>by
    obtain⟨j,hoj,hj,hoj',_⟩:=hbeta b hbb
    exact hno ⟨j,hoj,hj,hoj'⟩
   have hno':¬ xO e' h' b:=by
    rintro⟨i,ho,hi,hb2⟩
    by_cases hik:i=k
    ·subst hik
     rw[hk] at hi
     cases hi
     rcases hown b hb2 with hge | hbb
     ·omega
     ·obtain⟨j,hoj,hj,hoj',_⟩:=hbb
      exact hno ⟨j,hoj,hj,hoj'⟩
    ·have hg:ho≠.gone:=fun hh=>by subst hh; simp [HO.own] at hb2
     obtain⟨_,ho2,hi0⟩:=keepOwn i ho hik hi hg
     rw[ho2] at hb2
     exact hno ⟨i,ho,hi0,hb2⟩
   rw[if_neg hno',hframe b hlt hnb]
   exact hb
 have keepSat:∀ i ho,i≠k→h'[i]?=some ho→ho≠.gone→ho.sat e' (mem w' e' h') i w'∧ho.own e' i=ho.own e i∧h[i]?=some ho:=by
  intro i ho hik hi hg
  obtain⟨hlt,ho2,hi0⟩:=keepOwn i ho hik hi hg
  refine⟨HO.sat_keep hMem hlt hag (S.ws i ho hi0) (S.sat i ho hi0) (fun b hb=>hframe b (HO.own_lt (S.sat i ho hi0) hb) ?_),ho2,hi0⟩
  intro hbb
  obtain⟨j,hoj,hj,hoj',hjk⟩:=hbeta b hbb
  have hij:=S.one i j ho hoj b hi0 hj hb hoj'
  subst hij
  rcases hjk with rfl | hjk
  ·exact hik rfl
  ·rw[hi] at hjk
   exact hg (Option.some.inj hjk)
 refine⟨hos.trans S.os,htape.trans S.tape,hout.trans S.output,?_,?_,?_,hF _ _ hMem S.fact,?_,fun b hb=>?_,hag.2.trans S.ez,Nat.le_trans S.pin.1 hlen,fun i hi=>?_⟩
 ·intro i ho hi
  by_cases hik:i=k
  ·subst hik
   rw[hk] at hi
   cases hi
   exact hsat hMem
  ·by_cases hg:ho=.gone
   ·subst hg; trivial
   ·exact(keepSat i ho hik hi hg).1
 ·intro i ho hi
  by_cases hik:i=k
  ·subst hik
   rw[hk] at hi
   cases hi
   exact hws
  ·rcases yE i ho hik hi with hi0 | rfl
   ·exact HO.ws_mono hlen (S.ws i ho hi0)
   ·trivial
 ·intro i j ho ho' b hi hj hb hb'
  by_cases hik:i=k
  ·by_cases hjk:j=k
   ·rw[hik,hjk]
   ·exfalso
    subst hik
    rw[hk] at hi
    cases hi
    have hg:ho'≠.gone:=fun hh=>by subst hh; simp [HO.own] at hb'
    obtain⟨_,ho2,hj0⟩:=keepSat j ho' hjk hj hg
    rw[ho2] at hb'
    rcases hown b hb with hge | hbb
    ·have:=HO.own_lt (S.sat j ho' hj0) hb'
     omega
    ·obtain⟨j2,hoj,hj2,hoj',hor⟩:=hbb
     have hij:=S.one j j2 ho' hoj b hj0 hj2 hb' hoj'
     subst hij
     rcases hor with rfl | hor
     ·exact hjk rfl
     ·rw[hj] at hor
      exact hg (Option.some.inj hor)
  ·by_cases hjk:j=k
   ·exfalso
    subst hjk
    rw[hk] at hj
    cases hj
    have hg:ho≠.gone:=fun hh=>by subst hh; simp [HO.own] at hb
    obtain⟨_,ho2,hi0⟩:=keepSat i ho hik hi hg
    rw[ho2] at hb
    rcases hown b hb' with hge | hbb
    ·have:=HO.own_lt (S.sat i ho hi0) hb
     omega
    ·obtain⟨j2,hoj,hj2,hoj',hor⟩:=hbb
     have hij:=S.one i j2 ho hoj b hi0 hj2 hb hoj'
     subst hij
     rcases hor with rfl | hor
     ·exact hik rfl
     ·rw[hi] at hor
      exact hg (Option.some.inj hor)
   ·have hg:ho≠.gone:=fun hh=>by subst hh; simp [HO.own] at hb
    have hg':ho'≠.gone:=fun hh=>by subst hh; simp [HO.own] at hb'
    obtain⟨_,ho2,hi0⟩:=keepSat i ho hik hi hg
    obtain⟨_,ho3,hj0⟩:=keepSat j ho' hjk hj hg'
    rw[ho2] at hb
    rw[ho3] at hb'
    exact S.one i j ho ho' b hi0 hj0 hb hb'
 ·intro i ho b hi hb
  rw[hag.2]
  by_cases hik:i=k
  ·subst hik
   rw[hk] at hi
   cases hi
   rcases hown b hb with hge | hbb
   ·intro hz
    have:=S.zlt b hz
    omega
   ·obtain⟨j2,hoj,hj2,hoj',_⟩:=hbb
    exact S.nz j2 hoj b hj2 hoj'
  ·have hg:ho≠.gone:=fun hh=>by subst hh; simp [HO.own] at hb
   obtain⟨_,ho2,hi0⟩:=keepOwn i ho hik hi hg
   rw[ho2] at hb
   exact S.nz i ho b hi0 hb
 ·rw[hag.2] at hb
  have:=S.zlt b hb
  omega
 ·obtain⟨a1,a2,a3⟩:=hag.1 i (Nat.lt_of_lt_of_le hi S.pin.1)
  obtain⟨b1,b2,b3⟩:=S.pin.2 i hi
  exact⟨a1.trans b1,a2.trans b2,a3.trans b3⟩
theorem qP.next{F:Mem→Prop}(hF:zP F){w0:wO}{h h':List HO}{e e':Env}{w w':World}(S:qP F w0 h e w)(k:Nat)(hk':HO)(hlen:h.length≤h'.length)(hk:h'[k]?=some hk')(hag:zD h.length e e')(yE:∀ i ho,i≠k→h'[i]?=some ho→h[i]?=some ho∨ho=.gone)(_hold':∀ i ho,i≠k→h[i]?=some ho→h'[i]?=some ho∨h'[i]?=some .gone)(beta:Option Nat)(hbeta:∀ b,beta=some b→∃ j ho,h[j]?=some ho∧ho.own e j b∧(j=k∨h'[j]?=some .gone))(_hkold:∀ ho b,h[k]?=some ho→ho.own e k b→beta=some b∧hk'.own e' k b)(hsat:(mem w e h).le (mem w' e' h')→hk'.sat e' (mem w' e' h') k w')(hws:hk'.ws h'.length)(hown:∀ b,hk'.own e' k b→w.heap.size≤b∨beta=some b)(hframe:∀ b,b<w.heap.size→beta≠some b→w'.heap[b]?=w.heap[b]?)(hsize:w.heap.size≤w'.heap.size)(hos:w'.os=w.os)(htape:w'.tape=w.tape)(hout:w'.output=w.output):qP F w0 h' e' w' :=
 S.next' hF k hk' hlen hk hag yE _hold' beta hbeta hsat hws (fun b hb=>(hown b hb).imp id (hbeta b)) hframe hsize hos htape hout
theorem qP.drew{F:Mem→Prop}{w0:wO}{h:List HO}{e:Env}{w:World}(S:qP F w0 h e w):qP F w0 h e w.drew :=
 ⟨S.os,S.tape,S.output,fun i ho hi=>by
  have:=S.sat i ho hi
  cases ho <;> exact this,S.ws,S.one,S.fact,S.nz,S.zlt,S.ez,S.pin⟩

/-! ### what lies at a path -/
def yF:qB→yC→Option qB
 | c,[]=>some c
 | .s _ sz' _ g,(sz,k,j)::p=>bif Nat.beq sz sz'&&Nat.blt j sz then yF (g k j) p else none
 | .v _,_::_=>none
def pvs:qB→yC→List Prop
 | _,[]=>[]
 | .s _ _ n g,(_,k,j)::p=>(k<n)::pvs (g k j) p
 | .v _,_::_=>[]
theorem nav{M:Mem}{f:yC→Value}:∀(q:yC) (c:qB) (p:yC) {c':qB},wQ M f c p→yF c q=some c'→(∀ x∈pvs c q,x)→wQ M f c' (p++q)
 | [],c,p,c',h,hc,_=>by
  have:c=c':=by cases c <;> simpa[yF] using hc
  subst this
  simpa using h
 | (sz,k,j)::q,.v x,p,c',h,hc,_=>by cases hc
 | (sz,k,j)::q,.s pt sz' n g,p,c',h,hc,hb=>by
  simp only[yF] at hc
  cases hbb:Nat.beq sz sz'&&Nat.blt j sz with
  | false=>rw[hbb] at hc; cases hc
  | true =>
   rw[hbb] at hc
   simp only[cond_true] at hc
   rw[Bool.and_eq_true] at hbb
   have h1:sz=sz':=Nat.eq_of_beq_eq_true hbb.1
   have h2:j<sz:=by have:=Nat.le_of_ble_eq_true hbb.2; omega
   subst h1
   simp only[pvs,List.mem_cons] at hb
   have hk:k<n:=hb _ (.inl rfl)
   obtain⟨oa,_,hr⟩:=h
   rcases hr with rfl | ⟨ad,_,hr⟩
   ·omega
   ·have:=nav q (g k j) _ (hr k hk j h2).2 hc (fun x hx=>hb x (.inr hx))
    rwa [List.append_assoc] at this
end Go.Sx
/- What an operation that writes nothing comes to, reckoned, and that it is so. -/
namespace Go.Sx
open Go.RowKit

abbrev zF:=Mem→Prop
def yE(F:Mem→Prop)(l:List zF):Prop:=∀ s∈l,∀ M,F M→s M
inductive Dec where
  | t
  | f
  | ld (s : SV)
  | lo (i : Nat) (s : SV)
  | lx (vs : List Value)
  | as (t : Nat) (s : SV)

def lk:List (Nat×SV)→Nat→Option SV
 | [],_=>none
 | (k,s)::r,t=>bif Nat.beq k t then some s else lk r t
def del:List (Nat×SV)→Nat→List (Nat×SV)
 | [],_=>[]
 | (k,s)::r,t=>bif Nat.beq k t then del r t else(k,s)::del r t
def evO(tm:List (Nat×SV)):Operand→Option SV
 | .tmp t=>lk tm t
 | .const v=>some (.v v)
 | .global g=>some (.v (.pointer (some ⟨g,0,none⟩)))
 | .func f=>some (.fn (.func f) [] [])
theorem qAg(tm:List (Nat×SV))(t u:Nat)(hne:t≠u):lk (del tm t) u=lk tm u:=by
 induction tm with
 | nil=>rfl
 | cons x r ih =>
  obtain⟨k,s⟩:=x
  simp only[del,lk]
  cases h:Nat.beq k t with
  | true =>
   have hk:k=t:=Nat.eq_of_beq_eq_true h
   have:Nat.beq k u=false:=by
    cases hb:Nat.beq k u with
    | false=>rfl
    | true=>exact absurd (hk.symm.trans (Nat.eq_of_beq_eq_true hb)) hne
   simp [this,ih]
  | false=>simp [lk,ih]
structure zA (n hl:Nat) (tm:List (Nat×SV)) (e:Env) (a:Act):Prop where
 size:a.tmps.size=n
 defers:a.defers=[]
 get:∀ t s,lk tm t=some s→a.tmps[t]?=some (den e s)
 wsc:∀ t s,lk tm t=some s→ws hl s
theorem qH{n hl:Nat}{tm:List (Nat×SV)}{e:Env}{a:Act}(T:zA n hl tm e a){x:Operand}{s:SV}(h:evO tm x=some s):a.eval x=den e s∧ws hl s:=by
 cases x with
 | tmp t =>
  have:=T.get t s h
  exact⟨by simp [Act.eval,this],T.wsc t s h⟩
 | const v=>simp only[evO,sI] at h; subst h; exact⟨rfl,trivial⟩
 | global g=>simp only[evO,sI] at h; subst h; exact⟨rfl,trivial⟩
 | func f=>simp only[evO,sI] at h; subst h; exact⟨rfl,⟨trivial,trivial⟩⟩
theorem zA.put{n hl hl':Nat}{tm:List (Nat×SV)}{e e':Env}{a:Act}(T:zA n hl tm e a)(hag:zD hl e e')(hle:hl≤hl')(d:Nat)(hd:d<n)(s:SV)(v:Value)(hv:den e' s=v)(hw:ws hl' s):
  zA n hl' ((d,s)::del tm d) e' (a.put (some d) v):=by
 subst hv
 refine⟨by simp [Act.put,T.size],T.defers,?_,?_⟩
 ·intro t u hu
  simp only[lk] at hu
  cases hb:Nat.beq d t with
  | true =>
   have:d=t:=Nat.eq_of_beq_eq_true hb
   subst this
   simp only[hb,cond_true,sI] at hu
   subst hu
   simp [Act.put,T.size,hd]
  | false =>
   have hne:d≠t:=fun h=>by subst h; simp at hb
   simp only[hb,cond_false] at hu
   rw[qAg tm d t hne] at hu
   have:=T.get t u hu
   rw[jJ hag u (T.wsc t u hu)]
   simpa[Act.put,Array.getElem?_setIfInBounds_ne hne] using this
 ·intro t u hu
  simp only[lk] at hu
  cases hb:Nat.beq d t with
  | true=>simp only[hb,cond_true,sI] at hu; subst hu; exact hw
  | false =>
   have hne:d≠t:=fun h=>by subst h; simp at hb
   simp only[hb,cond_false] at hu
   rw[qAg tm d t hne] at hu
   exact yO hle u (T.wsc t u hu)
theorem zA.move{n hl hl':Nat}{tm:List (Nat×SV)}{e e':Env}{a:Act}(T:zA n hl tm e a)(hag:zD hl e e')(hle:hl≤hl'):zA n hl' tm e' a :=
 ⟨T.size,T.defers,fun t s h=>by rw[jJ hag s (T.wsc t s h)]; exact T.get t s h,fun t s h=>yO hle s (T.wsc t s h)⟩
theorem zA.sub{n hl:Nat}{tm tm':List (Nat×SV)}{e:Env}{a:Act}(T:zA n hl tm e a)(h:∀ t s,lk tm' t=some s→lk tm t=some s):zA n hl tm' e a :=
 ⟨T.size,T.defers,fun t s hs=>T.get t s (h t s hs),fun t s hs=>T.wsc t s (h t s hs)⟩
theorem zA.sub'{n hl:Nat}{tm tm':List (Nat×SV)}{e:Env}{a:Act}(T:zA n hl tm e a)(h:∀ t s,lk tm' t=some s→∃ s',lk tm t=some s'∧den e s'=den e s∧ws hl s):zA n hl tm' e a :=
 ⟨T.size,T.defers,fun t s hs=>by
  obtain⟨s',h1,h2,_⟩:=h t s hs
  rw[← h2]
  exact T.get t s' h1,fun t s hs=>by
  obtain⟨s',h1,h2,h3⟩:=h t s hs
  exact h3⟩

/-! ### plain values -/
mutual
def jR : SV → Option Value
  | .v x => some x
  | .bl b => some (.bool b)
  | .agg cs => match wR cs with | some l => some (.agg l.toArray) | none => none
  | .tup cs => match wR cs with | some l => some (.tuple l.toArray) | none => none
  | .fn f a c => match wR a, wR c with | some x, some y => some (.func f x.toArray y.toArray) | _, _ => none
  | .ifc t y => match jR y with | some x => some (.iface t x) | none => none
  | _ => none
def wR : List SV → Option (List Value)
  | [] => some []
  | x :: r => match jR x, wR r with | some a, some l => some (a :: l) | _, _ => none
end
mutual
theorem jF (e : Env) : ∀ (s : SV) {x : Value}, jR s = some x → den e s = x
  | .v y, x, h => by simpa [jR, den] using h
  | .bl b, x, h => by simpa [jR, den] using h
  | .agg cs, x, h => by
    simp only [jR] at h
    split at h
    · rename_i l hl
      simp only [Option.some.injEq] at h
      simp only [den, yI e cs hl, h]
    · cases h
  | .tup cs, x, h => by
    simp only [jR] at h
    split at h
    · rename_i l hl
      simp only [Option.some.injEq] at h
      simp only [den, yI e cs hl, h]
    · cases h
  | .fn f a c, x, h => by
    simp only [jR] at h
    split at h
    · rename_i l1 l2 h1 h2
      simp only [Option.some.injEq] at h
      simp only [den, yI e a h1, yI e c h2, h]
    · cases h
  | .ifc t y, x, h => by
    simp only [jR] at h
    split at h
    · rename_i l hl
      simp only [Option.some.injEq] at h
      simp only [den, jF e y hl, h]
    · cases h
  | .p _ _, x, h => by cases h
  | .o _, x, h => by cases h
  | .q _ _, x, h => by cases h
  | .m _, x, h => by cases h
  | .sl _ _ _ _, x, h => by cases h
  | .x _ _, x, h => by cases h
  | .xp _ _ _ _ _, x, h => by cases h
  | .qk _ _ _ _, x, h => by cases h
theorem yI (e : Env) : ∀ (l : List SV) {x : List Value}, wR l = some x → qN e l = x
  | [], x, h => by simpa [wR, qN] using h
  | s :: r, x, h => by
    simp only [wR] at h
    split at h
    · rename_i a l h1 h2
      simp only [Option.some.injEq] at h
      simp only [qN, jF e s h1, yI e r h2, h]
    · cases h
end

def qEx{α:Type}(P:Program):Sem α→Option α
 | .pure a=>some a
 | .program k=>qEx P (k P)
 | .mark _ k=>qEx P k
 | _=>none
theorem jK{α:Type}{P:Program}{s:Sem α}{a:α}(h:qEx P s=some a)(w:World):s.run P w=.ok a w:=by
 induction s with
 | pure x=>simpa[qEx,Sem.run] using h
 | program k ih=>exact ih P (by simpa[qEx] using h)
 | mark m k ih=>exact ih (by simpa[qEx] using h)
 | _=>simp [qEx] at h

/-! ### types -/
def qDp(P:Program)(t:TypeId):Option Bool :=
 match P.underlying t with
 | some (.struct _)=>some true
 | some (.array _ _)=>some true
 | some _=>some false
 | none=>none
theorem qBv{P:Program}{t:TypeId}{b:Bool}(h:qDp P t=some b)(w:World):(isAgg t).run P w=.ok b w:=by
 unfold qDp at h
 cases hu:P.underlying t with
 | none=>simp [hu] at h
 | some d =>
  unfold isAgg
  rw[Sem.run_bind,run_underlying hu w]
  rw[hu] at h
  cases d <;> simp at h <;> subst h <;> rfl
def jL(P:Program)(t:TypeId):Option Nat :=
 match P.info? t with
 | some i=>some i.size
 | none=>none
theorem zI{P:Program}{t:TypeId}{n:Nat}(h:jL P t=some n)(w:World):(sizeOf t).run P w=.ok n w:=by
 unfold jL at h
 cases hu:P.info? t with
 | none=>simp [hu] at h
 | some d =>
  simp only[hu,sI] at h
  subst h
  simp [sizeOf,typeInfo,hu]

/-! ### loads -/
structure yY (F:Mem→Prop) (h:List HO) (e:Env) (w:World):Prop where
 sat:∀(i:Nat) (ho:HO),h[i]?=some ho→ho.sat e (mem w e h) i w
 fact:F (mem w e h)
theorem qP.q{F:Mem→Prop}{w0:wO}{h:List HO}{e:Env}{w:World}(S:qP F w0 h e w):yY F h e w:=⟨S.sat,S.fact⟩
theorem wL{M:Mem}{w:World}(hle:M.le (xD w)){a:Addr}{v:Value}(h:M.cell? a=some v):w.cell? a=some v:=by
 unfold Mem.cell? at h
 cases hM:M a.block with
 | none=>simp [hM] at h
 | some o =>
  have hw:w.heap[a.block]?=some o:=hle _ _ hM
  rw[hM] at h
  unfold World.cell?
  rw[hw]
  exact h
def qMa(M:Mem)(oa:Option Addr)(vs:List Value):Prop:=∃ ad,oa=some ad∧∀ j v,vs[j]?=some v→M.cell? (ad.add j)=some v
theorem qMa.mono{M M':Mem}(h:M.le M'){oa:Option Addr}{vs:List Value}(k:qMa M oa vs):qMa M' oa vs:=by
 obtain⟨ad,h1,h2⟩:=k
 refine⟨ad,h1,fun j v hv=>?_⟩
 have:=h2 j v hv
 unfold Mem.cell? at this ⊢
 cases hM:M (ad.add j).block with
 | none=>rw[hM] at this; cases this
 | some o=>rw[hM] at this; rw[h _ _ hM]; exact this
theorem qBf{P:Program}{t:TypeId}{w:World}{ad:Addr}{vs:List Value}(ha:qDp P t=some true)(hn:jL P t=some vs.length)(h:∀ j v,vs[j]?=some v→w.cell? (ad.add j)=some v):(loadVar t ad).run P w=.ok (.agg vs.toArray) w:=by
 simp [loadVar,qBv ha w,zI hn w,run_loadCells_list w ad vs h]
theorem wP{P:Program}{t:TypeId}{w:World}{ad:Addr}{v:Value}(ha:qDp P t=some false)(h:w.cell? ad=some v):(loadVar t ad).run P w=.ok v w:=by
 simp [loadVar,qBv ha w,h]
def qGy(P:Program)(t:TypeId)(k:Nat)(cs:List SV)(off:Nat)(D:List Dec):Option (SV×List zF×List Dec) :=
 match qDp P t,jL P t with
 | some true,some n =>
  match D with
  | .lo k' (.agg ss)::D' =>
   bif Nat.beq k k' then(bif Nat.beq ss.length n then some (.agg ss,[fun _=>(cs.drop off).take n=ss],D') else none)
   else(bif Nat.beq ((cs.drop off).take n).length n then some (.agg ((cs.drop off).take n),[],D) else none)
  | _=>bif Nat.beq ((cs.drop off).take n).length n then some (.agg ((cs.drop off).take n),[],D) else none
 | some false,_ =>
  match D with
  | .lo k' s::D' =>
   bif Nat.beq k k' then some (s,[fun _=>cs[off]?=some s],D')
   else match cs[off]? with | some s=>some (s,[],D) | none=>none
  | _=>match cs[off]? with | some s=>some (s,[],D) | none=>none
 | _,_=>none
theorem qBn{P:Program}{t:TypeId}{k:Nat}{cs:List SV}{off:Nat}{D D':List Dec}{s:SV}{sd:List zF}{M:Mem}(h:qGy P t k cs off D=some (s,sd,D'))(hsd:∀ x∈sd,x M){w:World}{e:Env}{g:Nat}(hc:∀ j v,(qN e cs)[j]?=some v→w.cell? ⟨g,j,none⟩=some v){hl:Nat}(hw:wsL hl cs):
  (loadVar t ⟨g,off,none⟩).run P w=.ok (den e s) w∧ws hl s:=by
 rw[yP] at hw
 have aggCase:∀(n:Nat),qDp P t=some true→jL P t=some n→((cs.drop off).take n).length=n →
   (loadVar t ⟨g,off,none⟩).run P w=.ok (den e (.agg ((cs.drop off).take n))) w∧ws hl (.agg ((cs.drop off).take n)):=by
  intro n ha hn hlen
  constructor
  ·simp only[den]
   refine qBf ha (by rw[hn,qS,hlen]) ?_
   intro j v hv
   have hadd:(⟨g,off,none⟩:Addr).add j=⟨g,off+j,none⟩:=Addr.add_lit g off j
   rw[hadd]
   refine hc (off+j) v ?_
   rw[yM,List.getElem?_map] at hv ⊢
   rw[List.getElem?_take,List.getElem?_drop] at hv
   split at hv
   ·exact hv
   ·simp at hv
  ·simp only[ws]
   rw[yP]
   intro x hx
   exact hw x (List.mem_of_mem_drop (List.mem_of_mem_take hx))
 have oneCase:∀(s:SV),qDp P t=some false→cs[off]?=some s→(loadVar t ⟨g,off,none⟩).run P w=.ok (den e s) w∧ws hl s:=by
  intro s ha hs
  refine⟨wP ha (hc off _ ?_),hw s (List.mem_of_getElem? hs)⟩
  rw[yM,List.getElem?_map,hs]
  rfl
 unfold qGy at h
 split at h
 ·rename_i n ha hn
  split at h
  ·rename_i k' ss D2
   cases hk:Nat.beq k k' with
   | true =>
    simp only[hk,cond_true] at h
    cases hl:Nat.beq ss.length n with
    | false=>simp only[hl,cond_false] at h; cases h
    | true =>
     simp only[hl,cond_true,sI,pI] at h
     obtain⟨rfl,rfl,rfl⟩:=h
     have hss:(cs.drop off).take n=ss:=hsd _ List.mem_cons_self
     have hlen:ss.length=n:=Nat.eq_of_beq_eq_true hl
     have:=aggCase n ha hn (by rw[hss]; exact hlen)
     rw[hss] at this
     exact this
   | false =>
    simp only[hk,cond_false] at h
    cases hl:Nat.beq ((cs.drop off).take n).length n with
    | false=>simp only[hl,cond_false] at h; cases h
    | true =>
     simp only[hl,cond_true,sI,pI] at h
     obtain⟨rfl,rfl,rfl⟩:=h
     exact aggCase n ha hn (Nat.eq_of_beq_eq_true hl)
  ·cases hl:Nat.beq ((cs.drop off).take n).length n with
   | false=>simp only[hl,cond_false] at h; cases h
   | true =>
    simp only[hl,cond_true,sI,pI] at h
    obtain⟨rfl,rfl,rfl⟩:=h
    exact aggCase n ha hn (Nat.eq_of_beq_eq_true hl)
 ·rename_i ha
  split at h
  ·rename_i k' s2 D2
   cases hk:Nat.beq k k' with
   | true =>
    simp only[hk,cond_true,sI,pI] at h
    obtain⟨rfl,rfl,rfl⟩:=h
    exact oneCase _ ha (hsd _ List.mem_cons_self)
   | false =>
    simp only[hk,cond_false] at h
    split at h
    ·rename_i s3 hs3
     simp only[sI,pI] at h
     obtain⟨rfl,rfl,rfl⟩:=h
     exact oneCase _ ha hs3
    ·cases h
  ·split at h
   ·rename_i s3 hs3
    simp only[sI,pI] at h
    obtain⟨rfl,rfl,rfl⟩:=h
    exact oneCase _ ha hs3
   ·cases h
 ·cases h
def qQj(P:Program)(t:TypeId)(oa:Option Addr)(D:List Dec):Option (SV×List zF×List Dec) :=
 match qDp P t,jL P t,D with
 | some true,some n,.ld s::D' =>
  match s with
  | .agg ss=>match wR ss with
   | some vs=>bif Nat.beq vs.length n then some (s,[fun M=>qMa M oa vs],D') else none
   | none=>none
  | _=>none
 | some false,_,.ld s::D'=>match jR s with
  | some v=>some (s,[fun M=>qMa M oa [v]],D')
  | none=>none
 | _,_,_=>none
mutual
theorem qGk (n : Nat) : ∀ (s : SV) {x : Value}, jR s = some x → ws n s
  | .v y, x, h => trivial
  | .bl b, x, h => trivial
  | .agg cs, x, h => by
    simp only [jR] at h
    split at h
    · rename_i l hl; exact qAe n cs hl
    · cases h
  | .tup cs, x, h => by
    simp only [jR] at h
    split at h
    · rename_i l hl; exact qAe n cs hl
    · cases h
  | .fn f a c, x, h => by
    simp only [jR] at h
    split at h
    · rename_i l1 l2 h1 h2; exact ⟨qAe n a h1, qAe n c h2⟩
    · cases h
  | .ifc t y, x, h => by
    simp only [jR] at h
    split at h
    · rename_i l hl; exact qGk n y hl
    · cases h
  | .p _ _, x, h => by cases h
  | .o _, x, h => by cases h
  | .q _ _, x, h => by cases h
  | .m _, x, h => by cases h
  | .sl _ _ _ _, x, h => by cases h
  | .x _ _, x, h => by cases h
  | .xp _ _ _ _ _, x, h => by cases h
  | .qk _ _ _ _, x, h => by cases h
theorem qAe (n : Nat) : ∀ (l : List SV) {x : List Value}, wR l = some x → wsL n l
  | [], x, h => trivial
  | s :: r, x, h => by
    simp only [wR] at h
    split at h
    · rename_i a l h1 h2; exact ⟨qGk n s h1, qAe n r h2⟩
    · cases h
end

theorem qMx{P:Program}{t:TypeId}{oa:Option Addr}{D D':List Dec}{s:SV}{sd:List zF}{M:Mem}(h:qQj P t oa D=some (s,sd,D'))(hsd:∀ x∈sd,x M){w:World}(hM:M.le (xD w))(e:Env)(hl:Nat):
  (Instr.loadAt t (.pointer oa)).run P w=.ok (den e s) w∧ws hl s:=by
 unfold qQj at h
 split at h
 ·rename_i n s1 D1 ha hn
  split at h
  ·rename_i ss
   split at h
   ·rename_i vs hvs
    cases hb:Nat.beq vs.length n with
    | false=>simp [hb] at h
    | true =>
     simp only[hb,cond_true,sI,pI] at h
     obtain⟨rfl,rfl,rfl⟩:=h
     obtain⟨ad,rfl,hc⟩:=hsd _ List.mem_cons_self
     refine⟨?_,qAe hl ss hvs⟩
     simp only[den,yI e ss hvs,Instr.loadAt,Instr.sureAddr,Sem.run_bind,Sem.run_pure,Result.andThen_ok]
     exact qBf ha (by rw[hn,Nat.eq_of_beq_eq_true hb]) (fun j v hv=>wL hM (hc j v hv))
   ·cases h
  ·cases h
 ·rename_i s1 D1 ha
  split at h
  ·rename_i v hv
   simp only[sI,pI] at h
   obtain⟨rfl,rfl,rfl⟩:=h
   obtain⟨ad,rfl,hc⟩:=hsd _ List.mem_cons_self
   refine⟨?_,qGk hl s1 hv⟩
   simp only[jF e s1 hv,Instr.loadAt,Instr.sureAddr,Sem.run_bind,Sem.run_pure,Result.andThen_ok]
   have:=hc 0 v rfl
   rw[Addr.add_zero'] at this
   exact wP ha (wL hM this)
  ·cases h
 ·cases h

/-! ### loads from frozen memory and from own rows of known content -/
def qSd(i:Nat)(p:yC):qB→SV
 | .v x=>.v x
 | .s ..=>.x i p
theorem qMp{M:Mem}{e:Env}{i:Nat}{c:qB}{p:yC}(h:wQ M (e.val i) c p):den e (qSd i p c)=e.val i p:=by
 cases c with
 | v x=>exact h.symm
 | s=>rfl
theorem qOh{hl i:Nat}(hi:i<hl)(p:yC)(c:qB):ws hl (qSd i p c):=by
 cases c with
 | v x=>trivial
 | s=>exact hi
theorem qWv(e:Env)(l:List Value):qN e (l.map SV.v)=l:=by
 induction l with
 | nil=>rfl
 | cons x r ih=>simp [qN,den,ih]
theorem zBl(n:Nat)(l:List Value):wsL n (l.map SV.v):=by
 induction l with
 | nil=>trivial
 | cons x r ih=>exact⟨trivial,ih⟩
def qGc(i:Nat)(p:yC)(sz k j n:Nat)(g:Nat→qB):List SV:=(List.range n).map fun d=>qSd i (p++[(sz,k,j+d)]) (g (j+d))
def xC(l:List Prop):List zF:=l.map fun(x:Prop)=>fun(_:Mem)=>x
theorem zQ{l:List Prop}{M:Mem}(h:∀ x∈xC l,x M):∀ x∈l,x :=
 fun x hx=>h (fun(_:Mem)=>x) (List.mem_map.2 ⟨x,hx,rfl⟩)
def qBx(P:Program)(t:TypeId)(h:List HO)(i:Nat)(p:yC)(sz k j:Nat)(D:List Dec):Option (SV×List zF×List Dec) :=
 match h[i]? with
 | some (.ext _ c0)=>match yF c0 p with
  | some (.s _ sz' n g)=>bif Nat.beq sz sz' then
    match qDp P t,jL P t with
    | some true,some m=>bif Nat.ble (j+m) sz then some (.agg (qGc i p sz k j m (g k)),xC (pvs c0 p++[k<n]),D) else none
    | some false,_=>bif Nat.blt j sz then some (qSd i (p++[(sz,k,j)]) (g k j),xC (pvs c0 p++[k<n]),D) else none
    | _,_=>none
   else none
  | _=>none
 | _=>none
theorem qLg{P:Program}{t:TypeId}{h:List HO}{i:Nat}{p:yC}{sz k j:Nat}{D D':List Dec}{s:SV}{sd:List zF}{b0:Bool}{c0:qB}{pt:Bool}{sz' n:Nat}{g:Nat→Nat→qB}(hi:h[i]?=some (.ext b0 c0))(hc:yF c0 p=some (.s pt sz' n g))(hq:qBx P t h i p sz k j D=some (s,sd,D')):sd=xC (pvs c0 p++[k<n]):=by
 unfold qBx at hq
 simp only[hi,hc] at hq
 cases hb:Nat.beq sz sz' with
 | false=>rw[hb] at hq; cases hq
 | true =>
  rw[hb] at hq
  simp only[cond_true] at hq
  split at hq
  ·rename_i m _ _
   cases hb2:Nat.ble (j+m) sz with
   | false=>rw[hb2] at hq; cases hq
   | true =>
    rw[hb2] at hq
    simp only[cond_true,sI,pI] at hq
    exact hq.2.1.symm
  ·cases hb2:Nat.blt j sz with
   | false=>rw[hb2] at hq; cases hq
   | true =>
    rw[hb2] at hq
    simp only[cond_true,sI,pI] at hq
    exact hq.2.1.symm
  ·cases hq
theorem qCv{F:Mem→Prop}{h:List HO}{e:Env}{w:World}(S:yY F h e w){i:Nat}{b0:Bool}{c0 c:qB}{p:yC}(hi:h[i]?=some (.ext b0 c0))(hc:yF c0 p=some c)(hb:∀ x∈pvs c0 p,x):
  wQ (mem w e h) (e.val i) c p:=by
 have:=S.sat i _ hi
 simp only[HO.sat] at this
 have h2:=nav p c0 [] this hc hb
 rw[List.nil_append] at h2
 cases b0 with
 | true=>exact h2
 | false=>exact zT (Mem.sub_le _ _) _ _ _ h2
theorem qJt{F:Mem→Prop}{h:List HO}{e:Env}{w:World}(S:yY F h e w){i:Nat}{c0 c:qB}{p:yC}(hi:h[i]?=some (.ext false c0))(hc:yF c0 p=some c)(hb:∀ x∈pvs c0 p,x):
  wQ ((mem w e h).sub e.z) (e.val i) c p:=by
 have:=S.sat i _ hi
 simp only[HO.sat] at this
 have h2:=nav p c0 [] this hc hb
 rwa [List.nil_append] at h2
theorem qCa{pt:Bool}{n:Nat}{v:Value}{ad:Addr}(h:qZd pt n v (some ad))(m:Nat):qUr v m=.pointer (some (ad.add m)):=by
 cases pt with
 | true=>simp only[qZd] at h; subst h; rfl
 | false=>obtain⟨cap,rfl,_⟩:=h; rfl
theorem qDc{P:Program}{F:Mem→Prop}{t:TypeId}{h:List HO}{i:Nat}{p:yC}{sz k j:Nat}{D D':List Dec}{s:SV}{sd:List zF}{e:Env}{w:World}(S:yY F h e w)(hq:qBx P t h i p sz k j D=some (s,sd,D'))(hsd:∀ x∈sd,x (mem w e h)):
  (Instr.loadAt t (qUr (e.val i p) (k*sz+j))).run P w=.ok (den e s) w∧ws h.length s:=by
 unfold qBx at hq
 split at hq
 ·rename_i b0 c0 hi
  have hlt:i<h.length:=(List.getElem?_eq_some_iff.1 hi).1
  split at hq
  ·rename_i pt sz' n g hc
   cases hsz:Nat.beq sz sz' with
   | false=>rw[hsz] at hq; cases hq
   | true =>
    rw[hsz] at hq
    simp only[cond_true] at hq
    have:=Nat.eq_of_beq_eq_true hsz
    subst this
    have key:(∀ x∈xC (pvs c0 p++[k<n]),x (mem w e h))→∃ ad,qZd pt n (e.val i p) (some ad)∧∀ j,j<sz→(mem w e h).cell? (ad.add (k*sz+j))=some (e.val i (p++[(sz,k,j)]))∧wQ (mem w e h) (e.val i) (g k j) (p++[(sz,k,j)]):=by
     intro hs
     have hs:=zQ hs
     have hb:∀ x∈pvs c0 p,x:=fun x hx=>hs x (List.mem_append_left _ hx)
     have hk:k<n:=hs _ (List.mem_append_right _ List.mem_cons_self)
     obtain⟨oa,hr,h2⟩:=qCv S hi hc hb
     rcases h2 with rfl | ⟨ad,rfl,h3⟩
     ·omega
     ·exact⟨ad,hr,h3 k hk⟩
    split at hq
    ·rename_i m ha hm
     cases hb:Nat.ble (j+m) sz with
     | false=>rw[hb] at hq; cases hq
     | true =>
      rw[hb] at hq
      simp only[cond_true,sI,pI] at hq
      obtain⟨rfl,rfl,rfl⟩:=hq
      have hjm:=Nat.le_of_ble_eq_true hb
      obtain⟨ad,hr,hcell⟩:=key hsd
      rw[qCa hr]
      refine⟨?_,?_⟩
      ·simp only[Instr.loadAt,Instr.sureAddr,Sem.run_bind,Sem.run_pure,Result.andThen_ok,den]
       refine qBf ha (by rw[hm,qS,qGc,List.length_map,List.length_range]) ?_
       intro d v hv
       rw[yM,qGc,List.map_map,List.getElem?_map] at hv
       cases hr2:(List.range m)[d]? with
       | none=>rw[hr2] at hv; cases hv
       | some d' =>
        rw[hr2] at hv
        obtain⟨hd,rfl⟩:d<m∧d=d':=by
         rw[List.getElem?_eq_some_iff] at hr2
         obtain⟨h1,h2⟩:=hr2
         simp at h1 h2
         exact⟨h1,h2⟩
        simp only[Option.map_some,Function.comp,sI] at hv
        obtain⟨c1,c2⟩:=hcell (j+d) (by omega)
        rw[qMp c2] at hv
        subst hv
        have:=wL (jH w e h) c1
        rwa [Go.Deep.add_add,Nat.add_assoc]
      ·simp only[ws]
       rw[yP]
       intro x hx
       rw[qGc,List.mem_map] at hx
       obtain⟨d,_,rfl⟩:=hx
       exact qOh hlt _ _
    ·rename_i ha
     cases hb:Nat.blt j sz with
     | false=>rw[hb] at hq; cases hq
     | true =>
      rw[hb] at hq
      simp only[cond_true,sI,pI] at hq
      obtain⟨rfl,rfl,rfl⟩:=hq
      have hjm:j<sz:=by have:=Nat.le_of_ble_eq_true hb; omega
      obtain⟨ad,hr,hcell⟩:=key hsd
      obtain⟨c1,c2⟩:=hcell j hjm
      rw[qCa hr,qMp c2]
      refine⟨?_,qOh hlt _ _⟩
      simp only[Instr.loadAt,Instr.sureAddr,Sem.run_bind,Sem.run_pure,Result.andThen_ok]
      exact wP ha (wL (jH w e h) c1)
    ·cases hq
  ·cases hq
 ·cases hq
def qDj(g:Nat→qB)(j:Nat):Nat→Option (List Value)
 | 0=>some []
 | m+1=>match g j,qDj g (j+1) m with
  | .v x,some l=>some (x::l)
  | _,_=>none
theorem qFk{g:Nat→qB}:∀(m j:Nat) {l:List Value},qDj g j m=some l→l.length=m
 | 0,j,l,h=>by simp only[qDj,sI] at h; subst h; rfl
 | m+1,j,l,h=>by
  simp only[qDj] at h
  split at h
  ·rename_i x r h1 h2
   simp only[sI] at h
   subst h
   simp [qFk m _ h2]
  ·cases h
theorem qLo{g:Nat→qB}:∀(m j:Nat) {l:List Value},qDj g j m=some l→∀ d v,l[d]?=some v→g (j+d)=.v v
 | 0,j,l,h,d,v,hv=>by simp only[qDj,sI] at h; subst h; cases hv
 | m+1,j,l,h,d,v,hv=>by
  simp only[qDj] at h
  split at h
  ·rename_i x r h1 h2
   simp only[sI] at h
   subst h
   cases d with
   | zero=>simp only[List.getElem?_cons_zero,sI] at hv; subst hv; exact h1
   | succ d =>
    have:=qLo m _ h2 d v (by simpa using hv)
    rwa [show j+1+d=j+(d+1) by omega] at this
  ·cases h
def qKs(P:Program)(t:TypeId)(h:List HO)(i sz k j:Nat)(D:List Dec):Option (SV×List zF×List Dec) :=
 match h[i]? with
 | some (.rowc _ sz' n c)=>bif Nat.beq sz sz' then
   match qDp P t,jL P t with
   | some true,some m=>bif Nat.ble (j+m) sz then
     match qDj (c.at k) j m with
     | some l=>some (.agg (l.map SV.v),[fun _=>k<n],D)
     | none=>none
    else none
   | some false,_=>bif Nat.blt j sz then
     match c.at k j with
     | .v x=>some (.v x,[fun _=>k<n],D)
     | _=>none
    else none
   | _,_=>none
  else none
 | _=>none
theorem qIr{F:Mem→Prop}{h:List HO}{e:Env}{w:World}(S:yY F h e w){i:Nat}{T:TypeId}{sz n:Nat}{c:Ct}(hi:h[i]?=some (.rowc T sz n c))(h0:0<n):
  ∃ g cap cur,e.row i=.slice (some ⟨g,0,none⟩) n cap∧w.heap[g]?=some (.cells cur T (0,0))∧n*sz≤cur.size∧yA ((mem w e h).sub e.z) sz n c.at (cur.toList.take (n*sz))∧(∀ u∈cur.toList.take (n*sz),u.oneCell'=true):=by
 obtain⟨qR,⟨h1,h2⟩,h3,h4⟩:=S.sat i _ hi
 rcases h2 with ⟨_,hn⟩ | ⟨g,cap,cur,hv,_,hh,hnc,_,hcs,ht⟩
 ·omega
 ·refine⟨g,cap,cur,hv,hh,by rw[hcs]; exact Nat.mul_le_mul_right _ hnc,by rw[ht]; exact h4,by rw[ht]; exact h3⟩
theorem qLk{P:Program}{F:Mem→Prop}{t:TypeId}{h:List HO}{i sz k j:Nat}{D D':List Dec}{s:SV}{sd:List zF}{e:Env}{w:World}(S:yY F h e w)(hq:qKs P t h i sz k j D=some (s,sd,D'))(hsd:∀ x∈sd,x (mem w e h)):
  (Instr.loadAt t (qAq (e.row i) (k*sz+j))).run P w=.ok (den e s) w∧ws h.length s:=by
 unfold qKs at hq
 split at hq
 ·rename_i T sz' n c hi
  cases hsz:Nat.beq sz sz' with
  | false=>rw[hsz] at hq; cases hq
  | true =>
   rw[hsz] at hq
   simp only[cond_true] at hq
   have:=Nat.eq_of_beq_eq_true hsz
   subst this
   have key:k<n→∃ g,e.row i=.slice (some ⟨g,0,none⟩) n (match e.row i with | .slice _ _ c=>c | _=>0)∧∀ j x,j<sz→c.at k j=.v x→w.cell? ⟨g,k*sz+j,none⟩=some x:=by
    intro hk
    obtain⟨g,cap,cur,hv,hh,hle,hr,_⟩:=qIr S hi (by omega)
    refine⟨g,by rw[hv],fun j x hj hx=>?_⟩
    obtain⟨u,hu,f,_,h0,hf⟩:=hr k hk j hj
    rw[hx] at hf
    simp only[wQ] at hf
    rw[h0] at hf
    subst hf
    rw[cell_of_row w g (k*sz+j) cur T _ hh]
    rw[List.getElem?_take] at hu
    split at hu
    ·simpa using hu
    ·cases hu
   split at hq
   ·rename_i m ha hm
    cases hb:Nat.ble (j+m) sz with
    | false=>rw[hb] at hq; cases hq
    | true =>
     rw[hb] at hq
     simp only[cond_true] at hq
     split at hq
     ·rename_i l hl
      simp only[sI,pI] at hq
      obtain⟨rfl,rfl,rfl⟩:=hq
      have hjm:=Nat.le_of_ble_eq_true hb
      obtain⟨g,hv,hcell⟩:=key (hsd _ List.mem_cons_self)
      rw[hv]
      refine⟨?_,zBl _ _⟩
      simp only[qAq,Instr.loadAt,Instr.sureAddr,Sem.run_bind,Sem.run_pure,Result.andThen_ok,den]
      rw[qWv]
      refine qBf ha (by rw[hm,qFk m j hl]) ?_
      intro d v hv2
      have hd:d<m:=by
       have:=(List.getElem?_eq_some_iff.1 hv2).1
       rwa [qFk m j hl] at this
      rw[Addr.add_lit,Nat.add_assoc]
      exact hcell (j+d) v (by omega) (qLo m j hl d v hv2)
     ·cases hq
   ·rename_i ha
    cases hb:Nat.blt j sz with
    | false=>rw[hb] at hq; cases hq
    | true =>
     rw[hb] at hq
     simp only[cond_true] at hq
     split at hq
     ·rename_i x hx
      simp only[sI,pI] at hq
      obtain⟨rfl,rfl,rfl⟩:=hq
      have hjm:j<sz:=by have:=Nat.le_of_ble_eq_true hb; omega
      obtain⟨g,hv,hcell⟩:=key (hsd _ List.mem_cons_self)
      rw[hv]
      refine⟨?_,trivial⟩
      simp only[qAq,Instr.loadAt,Instr.sureAddr,Sem.run_bind,Sem.run_pure,Result.andThen_ok,den]
      exact wP ha (hcell j x hjm hx)
     ·cases hq
   ·cases hq
 ·cases hq
end Go.Sx
/- The operations that write nothing, one by one. -/
namespace Go.Sx
open Go.RowKit

abbrev QR:=Option (SV×List zF×List Dec)
def jE:List IntKind→List Value→Option (List Int)
 | [],[]=>some []
 | k::ks,.int k' x::xs=>bif decide (k=k') then(match jE ks xs with | some l=>some (x::l) | none=>none) else none
 | _,_=>none
theorem wX:∀(ks:List IntKind) (vs:List Value) {xs:List Int},jE ks vs=some xs→vs=qW ks xs∧xs.length=ks.length
 | [],[],xs,h=>by simp only[jE,sI] at h; subst h; exact⟨rfl,rfl⟩
 | k::ks,.int k' x::vs,xs,h=>by
  simp only[jE] at h
  by_cases hk:k=k'
  ·subst hk
   simp only[decide_true,cond_true] at h
   cases hr:jE ks vs with
   | none=>simp [hr] at h
   | some l =>
    simp only[hr,sI] at h
    subst h
    obtain⟨h1,h2⟩:=wX ks vs hr
    exact⟨by simp [qW,← h1],by simp [h2]⟩
  ·simp [hk] at h
 | [],_::_,xs,h=>by simp [jE] at h
 | _::_,[],xs,h=>by simp [jE] at h
 | _::_,.bool _::_,xs,h=>by simp [jE] at h
 | _::_,.float _ _::_,xs,h=>by simp [jE] at h
 | _::_,.complex _ _ _::_,xs,h=>by simp [jE] at h
 | _::_,.string _::_,xs,h=>by simp [jE] at h
 | _::_,.pointer _::_,xs,h=>by simp [jE] at h
 | _::_,.slice _ _ _::_,xs,h=>by simp [jE] at h
 | _::_,.map _::_,xs,h=>by simp [jE] at h
 | _::_,.chan _::_,xs,h=>by simp [jE] at h
 | _::_,.func _ _ _::_,xs,h=>by simp [jE] at h
 | _::_,.nilFunc::_,xs,h=>by simp [jE] at h
 | _::_,.iface _ _::_,xs,h=>by simp [jE] at h
 | _::_,.nilIface::_,xs,h=>by simp [jE] at h
 | _::_,.agg _::_,xs,h=>by simp [jE] at h
 | _::_,.tuple _::_,xs,h=>by simp [jE] at h
def zY:List (List Int)→List Value→List Int→Nat→Option (Nat×Value)
 | k::r,v::t,x,i=>if x=k then some (i,v) else zY r t x (i+1)
 | _,_,_,_=>none
structure qJm (P:Program) (t:TypeId) (ag:Bool) (ks:List IntKind):Prop where
 one:ag=false→ks.length=1
 chk:∀ b xs (w:World),xs.length=ks.length→(Instr.checkKey b 10000 t (mkT ag ks xs)).run P w=.ok () w
 fnd:∀ kl vs xs (w:World),xs.length=ks.length→(∀ k∈kl,k.length=ks.length)→vs.length=kl.length→(Instr.findKey t (mkT ag ks xs) (mpE ag ks 0 kl vs)).run P w=.ok (zY kl vs xs 0) w
structure Ext (P:Program) where
 ext:FuncId→List Value→Option (Value×Prop)
 extOk:∀ f vs v p w,ext f vs=some (v,p)→p→(callFunc f vs.toArray).run P w=.ok (.value v) w
 eq:TypeId→Option (List IntKind)
 eqOk:∀ t ks xs ys (x y:Operand) w,eq t=some ks→xs.length=ks.length→ys.length=ks.length →
  (do eqGuard .eql t x y (.agg (qW ks xs).toArray) (.agg (qW ks ys).toArray); binOp .eql t (.agg (qW ks xs).toArray) (.agg (qW ks ys).toArray)).run P w=.ok (.bool (decide (xs=ys))) w ∧
  (do eqGuard .neq t x y (.agg (qW ks xs).toArray) (.agg (qW ks ys).toArray); binOp .neq t (.agg (qW ks xs).toArray) (.agg (qW ks ys).toArray)).run P w=.ok (.bool (!decide (xs=ys))) w
 key:TypeId→Option (Bool×List IntKind)
 keyOk:∀ t ag ks,key t=some (ag,ks)→qJm P t ag ks

/-! ### all operands plain: the model's own reckoning -/
def rho(tm:List (Nat×SV))(x:Operand):Value:=match evO tm x with | some s=>(jR s).getD undef | none=>undef
def qRw(tm:List (Nat×SV))(x:Operand):Bool:=match evO tm x with | some s=>(jR s).isSome | none=>false
def qQc:Op→Bool
 | .select ..=>false
 | _=>true
def qFl(P:Program)(tm:List (Nat×SV))(D:List Dec)(o:Oper):QR :=
 bif qQc o.op&&o.op.operands.toList.all (qRw tm) then
  match qEx P (execOp (rho tm) o) with
  | some (.value v)=>some (.v v,[],D)
  | _=>none
 else none
section
variable {P : Program} {tm : List (Nat × SV)} {n hl : Nat} {e : Env} {a : Act} {w : World} {D D' : List Dec} {s : SV} {sd : List zF}

theorem zCf(T:zA n hl tm e a){x:Operand}(h:qRw tm x=true):rho tm x=a.eval x:=by
 unfold qRw at h
 unfold rho
 cases hx:evO tm x with
 | none=>simp [hx] at h
 | some s =>
  simp only[hx] at h ⊢
  cases hp:jR s with
  | none=>simp [hp] at h
  | some v=>rw[(qH T hx).1,jF e s hp]; rfl
theorem zW(T:zA n hl tm e a){o:Oper}(h:qFl P tm D o=some (s,sd,D')):
  (execOp a.eval o).run P w=.ok (.value (den e s)) w∧ws hl s:=by
 unfold qFl at h
 cases hb:qQc o.op&&o.op.operands.toList.all (qRw tm) with
 | false=>rw[hb] at h; cases h
 | true =>
  simp only[hb,cond_true] at h
  rw[Bool.and_eq_true] at hb
  have hcon:execOp (rho tm) o=execOp a.eval o:=by
   refine execOp_congr o (fun cs b hh=>?_) (fun x hx=>zCf T (List.all_eq_true.1 hb.2 x (Array.mem_toList_iff.2 hx)))
   have:=hb.1
   rw[hh] at this
   cases this
  split at h
  ·rename_i v hv
   simp only[sI,pI] at h
   obtain⟨rfl,rfl,rfl⟩:=h
   rw[hcon] at hv
   exact⟨jK hv w,trivial⟩
  ·cases h
end

/-! ### the shapes of results -/
def qCz(tm:List (Nat×SV))(x:Operand):Option (IntKind×Int) :=
 match evO tm x with
 | some (.v (.int k n))=>some (k,n)
 | _=>none
def qCy(tm:List (Nat×SV))(x:Operand):Option Value :=
 match evO tm x with
 | some s=>jR s
 | none=>none
section
variable {P : Program} {tm : List (Nat × SV)} {n hl : Nat} {e : Env} {a : Act} {w : World}
theorem jG(T:zA n hl tm e a){x:Operand}{k:IntKind}{m:Int}(h:qCz tm x=some (k,m)):a.eval x=.int k m:=by
 unfold qCz at h
 split at h
 ·rename_i k' m' hx
  simp only[sI,pI] at h
  obtain⟨rfl,rfl⟩:=h
  exact(qH T hx).1
 ·cases h
theorem zN(T:zA n hl tm e a){x:Operand}{v:Value}(h:qCy tm x=some v):a.eval x=v:=by
 unfold qCy at h
 split at h
 ·rename_i s hx
  rw[(qH T hx).1,jF e s h]
 ·cases h
end

def zBq(op:BinOp)(k:IntKind)(x:Int)(y:Int)(D:List Dec):QR :=
 match op with
 | .shl=>some (.v (.int k (k.wrap (x*2^(min y.toNat k.bits)))),[fun _=>¬ y<0],D)
 | .shr=>some (.v (.int k (x.fdiv (2^(min y.toNat k.bits)))),[fun _=>¬ y<0],D)
 | .quo=>some (.v (.int k (k.wrap (x.tdiv y))),[fun _=>¬ y=0],D)
 | .rem=>some (.v (.int k (x.tmod y)),[fun _=>¬ y=0],D)
 | _=>none
def qJf:Option HO→Bool
 | some (.row ..)=>true
 | some (.rowc ..)=>true
 | some (.tbl ..)=>true
 | _=>false
def zM(h:List HO):SV→Option (List SV)
 | .agg cs=>some cs
 | .v (.agg cs)=>some (cs.toList.map SV.v)
 | .v (.tuple _)=>none
 | .tup _=>none
 | .v (.bool b)=>some [.v (.bool b)]
 | .v (.int k x)=>some [.v (.int k x)]
 | .v (.string x)=>some [.v (.string x)]
 | .v (.pointer x)=>some [.v (.pointer x)]
 | .v (.slice x l c)=>some [.v (.slice x l c)]
 | .v (.map x)=>some [.v (.map x)]
 | .v (.iface t x)=>some [.v (.iface t x)]
 | .v .nilIface=>some [.v .nilIface]
 | .v (.func f x c)=>some [.v (.func f x c)]
 | .v .nilFunc=>some [.v .nilFunc]
 | .v _=>none
 | .o i=>bif qJf h[i]? then some [.o i] else none
 | s=>some [s]
theorem qAd(e:Env)(l:List Value):qN e (l.map SV.v)=l:=by
 induction l with
 | nil=>rfl
 | cons x r ih=>simp [qN,den,ih]
theorem qDq(n:Nat)(l:List Value):wsL n (l.map SV.v):=by
 induction l with
 | nil=>trivial
 | cons x r ih=>exact⟨trivial,ih⟩
theorem wG{F:Mem→Prop}{h:List HO}{e:Env}{w:World}(S:yY F h e w){i:Nat}(hi:qJf h[i]?=true):∃ oa n c,e.row i=.slice oa n c:=by
 unfold qJf at hi
 split at hi
 ·rename_i T size n xs hr
  obtain⟨⟨_,hr2⟩,_⟩:=S.sat i _ hr
  rcases hr2 with ⟨hv,_⟩ | ⟨g,cap,cur,hv,_⟩
  ·exact⟨_,_,_,hv⟩
  ·exact⟨_,_,_,hv⟩
 ·rename_i T size n c hr
  obtain⟨qR,⟨_,hr2⟩,_⟩:=S.sat i _ hr
  rcases hr2 with ⟨hv,_⟩ | ⟨g,cap,cur,hv,_⟩
  ·exact⟨_,_,_,hv⟩
  ·exact⟨_,_,_,hv⟩
 ·rename_i T0 T1 size n c hole hr
  obtain⟨⟨qR,⟨_,hr2⟩,_⟩,_⟩:=S.sat i _ hr
  rcases hr2 with ⟨hv,_⟩ | ⟨g,cap,cur,hv,_⟩
  ·exact⟨_,_,_,hv⟩
  ·exact⟨_,_,_,hv⟩
 ·cases hi
theorem qOc{v:Value}(h:v.oneCell'=true):v.cells=#[v]:=by
 cases v <;> first | rfl | cases h
theorem xG{F:Mem→Prop}{h:List HO}{e:Env}{w:World}(S:yY F h e w){s:SV}{cs:List SV}(hc:zM h s=some cs):
  (den e s).cells=(qN e cs).toArray∧(∀ n,ws n s→wsL n cs):=by
 cases s with
 | v x =>
  cases x <;> simp only[zM,sI,reduceCtorEq] at hc <;> subst hc
  case agg c =>
   refine⟨?_,fun n _=>qDq n _⟩
   rw[qAd]
   simp [den,Value.cells]
  all_goals exact⟨rfl,fun _ _=>⟨trivial,trivial⟩⟩
 | agg c=>simp only[zM,sI] at hc; subst hc; exact⟨rfl,fun n hn=>hn⟩
 | tup c=>cases hc
 | o i =>
  simp only[zM] at hc
  cases hr:qJf h[i]? with
  | false=>rw[hr] at hc; cases hc
  | true =>
   rw[hr] at hc
   simp only[cond_true,sI] at hc
   subst hc
   obtain⟨oa,n,c,hv⟩:=wG S hr
   refine⟨?_,fun n hn=>⟨hn,trivial⟩⟩
   simp only[den,qN,hv]
   rfl
 | q i off =>
  simp only[zM,sI] at hc
  subst hc
  refine⟨?_,fun n hn=>⟨hn,trivial⟩⟩
  simp only[den,qN]
  split <;> rfl
 | x i p =>
  simp only[zM,sI] at hc
  subst hc
  exact⟨by simp only[den,qN]; exact qOc (e.one i p),fun n hn=>⟨hn,trivial⟩⟩
 | xp i p sz k j =>
  simp only[zM,sI] at hc
  subst hc
  refine⟨?_,fun n hn=>⟨hn,trivial⟩⟩
  simp only[den,qN,qUr]
  split <;> rfl
 | qk i sz k j =>
  simp only[zM,sI] at hc
  subst hc
  refine⟨?_,fun n hn=>⟨hn,trivial⟩⟩
  simp only[den,qN,qAq]
  split <;> rfl
 | bl b=>simp only[zM,sI] at hc; subst hc; exact⟨rfl,fun n hn=>⟨hn,trivial⟩⟩
 | p i off=>simp only[zM,sI] at hc; subst hc; exact⟨rfl,fun n hn=>⟨hn,trivial⟩⟩
 | m i=>simp only[zM,sI] at hc; subst hc; exact⟨rfl,fun n hn=>⟨hn,trivial⟩⟩
 | sl i off l c=>simp only[zM,sI] at hc; subst hc; exact⟨rfl,fun n hn=>⟨hn,trivial⟩⟩
 | fn f a c=>simp only[zM,sI] at hc; subst hc; exact⟨rfl,fun n hn=>⟨hn,trivial⟩⟩
 | ifc t y=>simp only[zM,sI] at hc; subst hc; exact⟨rfl,fun n hn=>⟨hn,trivial⟩⟩
end Go.Sx
/- The operations that write nothing: the reckoner and its truth. -/
namespace Go.Sx
open Go.RowKit

def qHt(h:List HO)(k:Nat):SV→Option (SV×List zF)
 | .p i off=>some (.p i (off+k),[])
 | .q i off=>match h[i]? with
  | some (.row _ _ _ xs)=>some (.q i (off+k),[fun _=>0<xs.length])
  | _=>none
 | .v (.pointer oa)=>some (.v (.pointer (oa.map fun ad=>ad.add k)),[fun _=>oa.isSome=true])
 | .xp i p sz kk j=>match h[i]? with
  | some (.ext _ c0)=>match yF c0 p with
   | some (.s _ _ n _)=>some (.xp i p sz kk (j+k),xC (pvs c0 p++[kk<n]))
   | _=>none
  | _=>none
 | .x i p=>match h[i]? with
  | some (.ext _ c0)=>match yF c0 p with
   | some (.s true sz n _)=>some (.xp i p sz 0 k,xC (pvs c0 p++[0<n]))
   | _=>none
  | _=>none
 | .qk i sz kk j=>match h[i]? with
  | some (.rowc _ _ n _)=>some (.qk i sz kk (j+k),[fun _=>kk<n])
  | _=>none
 | _=>none
section
variable {P : Program} {F : Mem → Prop} {h : List HO} {e : Env} {w : World} {M : Mem}

theorem qTo(S:yY F h e w){i:Nat}{T:TypeId}{sz n:Nat}{xs:List SV}(hi:h[i]?=some (.row T sz n xs))(hx:0<xs.length):
  ∃ g cap cur,e.row i=.slice (some ⟨g,0,none⟩) n cap∧w.heap[g]?=some (.cells cur T (0,0))∧cur.toList.take (n*sz)=qN e xs:=by
 obtain⟨⟨h1,h2⟩,_⟩:=S.sat i _ hi
 rcases h2 with ⟨hv,hn⟩ | ⟨g,cap,cur,hv,_,hh,_,_,_,ht⟩
 ·subst hn
  rw[qS] at h1
  omega
 ·exact⟨g,cap,cur,hv,hh,ht⟩
theorem qAb(S:yY F h e w){k:Nat}{s s':SV}{sd:List zF}(hp:qHt h k s=some (s',sd))(hsd:∀ x∈sd,x M):
  (∃ ad,den e s=.pointer (some ad)∧den e s'=.pointer (some (ad.add k)))∧∀ n,ws n s→ws n s':=by
 unfold qHt at hp
 split at hp
 ·simp only[sI,pI] at hp
  obtain⟨rfl,rfl⟩:=hp
  exact⟨⟨_,rfl,by simp only[den,Addr.add_lit]⟩,fun _ hh=>hh⟩
 ·rename_i i off
  split at hp
  ·rename_i T sz nn xs hr
   simp only[sI,pI] at hp
   obtain⟨rfl,rfl⟩:=hp
   obtain⟨g,cap,cur,hv,_,_⟩:=qTo S hr (hsd _ List.mem_cons_self)
   exact⟨⟨⟨g,off,none⟩,by simp only[den,hv],by simp only[den,hv,Addr.add_lit]⟩,fun _ hh=>hh⟩
  ·cases hp
 ·rename_i oa
  simp only[sI,pI] at hp
  obtain⟨rfl,rfl⟩:=hp
  have:=hsd _ List.mem_cons_self
  cases oa with
  | none=>simp at this
  | some ad=>exact⟨⟨ad,rfl,rfl⟩,fun _ hh=>hh⟩
 ·rename_i i p sz kk j
  split at hp
  ·rename_i b0 c0 hi
   split at hp
   ·rename_i pt sz' n g hc
    simp only[sI,pI] at hp
    obtain⟨rfl,rfl⟩:=hp
    have hs:=zQ hsd
    have hk:kk<n:=hs _ (List.mem_append_right _ List.mem_cons_self)
    obtain⟨oa,hr,h2⟩:=qCv S hi hc (fun x hx=>hs x (List.mem_append_left _ hx))
    rcases h2 with rfl | ⟨ad,rfl,_⟩
    ·omega
    ·exact⟨⟨ad.add (kk*sz+j),by simp only[den,qCa hr],by simp only[den,qCa hr,Go.Deep.add_add,Nat.add_assoc]⟩,fun _ hh=>hh⟩
   ·cases hp
  ·cases hp
 ·rename_i i p
  split at hp
  ·rename_i b0 c0 hi
   split at hp
   ·rename_i sz' n g hc
    simp only[sI,pI] at hp
    obtain⟨rfl,rfl⟩:=hp
    have hs:=zQ hsd
    have hk:0<n:=hs _ (List.mem_append_right _ List.mem_cons_self)
    obtain⟨oa,hr,h2⟩:=qCv S hi hc (fun x hx=>hs x (List.mem_append_left _ hx))
    rcases h2 with rfl | ⟨ad,rfl,_⟩
    ·omega
    ·refine⟨⟨ad,by simp only[den]; exact hr,by simp only[den,qCa hr,Nat.zero_mul,Nat.zero_add]⟩,fun _ hh=>hh⟩
   ·cases hp
  ·cases hp
 ·rename_i i sz kk j
  split at hp
  ·rename_i T sz' n c hi
   simp only[sI,pI] at hp
   obtain⟨rfl,rfl⟩:=hp
   have hk:kk<n:=hsd _ List.mem_cons_self
   obtain⟨g,cap,cur,hv,_⟩:=qIr S hi (by omega)
   exact⟨⟨⟨g,kk*sz+j,none⟩,by simp only[den,hv,qAq],by simp only[den,hv,qAq,Addr.add_lit,Nat.add_assoc]⟩,fun _ hh=>hh⟩
  ·cases hp
 ·cases hp
theorem qUy{S0:TypeId}{fs:Array Field}{f:Nat}{fd:Field}{n:Nat}{ad:Addr}(hu:P.underlying S0=some (.struct fs))(hf:fs[f]?=some fd)(hn:jL P fd.type=some n)(h0:n≠0):(Instr.fieldAt S0 (.pointer (some ad)) f).run P w=.ok (.pointer (some (ad.add fd.offset))) w:=by
 simp [Instr.fieldAt,run_underlying hu,hf,Instr.sureAddr,fieldPlace,zI hn,h0]
theorem qGs{T:TypeId}{len el sz:Nat}{k:IntKind}{i:Int}{ad:Addr}(hu:P.underlying T=some (.array len el))(hn:jL P el=some sz)(h0:0≤i∧i<len):(Instr.indexAt T (.pointer (some ad)) (.int k i)).run P w=.ok (.pointer (some (ad.add (i.toNat*sz)))) w:=by
 simp [Instr.indexAt,asIntOf,run_underlying hu,Instr.sureAddr,h0,zI hn]
theorem jA{T:TypeId}{len cap el sz:Nat}{k:IntKind}{i:Int}{ad:Addr}(hu:P.underlying T=some (.slice el))(hn:jL P el=some sz)(h0:0≤i∧i<len):(Instr.indexAt T (.slice (some ad) len cap) (.int k i)).run P w=.ok (.pointer (some (ad.add (i.toNat*sz)))) w:=by
 simp [Instr.indexAt,asIntOf,run_underlying hu,h0,zI hn]
end

def qMy(tm:List (Nat×SV))(x:Option Operand)(dflt qDa:Nat):Option (Nat×List zF) :=
 match x with
 | none=>some (dflt,[])
 | some x=>match qCz tm x with
  | some (_,i)=>some (i.toNat,[fun _=>0≤i∧i≤(qDa:Int)])
  | none=>none
def qNy(tm:List (Nat×SV))(len cap:Nat)(lo hi mx:Option Operand):Option ((Nat×Nat×Nat)×List zF) :=
 match hi,mx with
 | none,some _=>none
 | _,_ =>
  match qMy tm mx cap cap with
  | none=>none
  | some (m,s1)=>match qMy tm hi len m with
   | none=>none
   | some (hh,s2)=>match qMy tm lo 0 hh with
    | none=>none
    | some (l,s3)=>some ((l,hh,m),s1++s2++s3)
section
variable {P : Program} {tm : List (Nat × SV)} {n hl : Nat} {e : Env} {a : Act} {w : World} {M : Mem}
theorem wE(T:zA n hl tm e a){x:Operand}{d u r:Nat}{sd:List zF}(h:qMy tm (some x) d u=some (r,sd))(hsd:∀ x∈sd,x M)(c:BoundsCode):
  (Instr.sliceBound (a.eval x) u c).run P w=.ok r w:=by
 unfold qMy at h
 simp only at h
 split at h
 ·rename_i k i hi
  simp only[sI,pI] at h
  obtain⟨rfl,rfl⟩:=h
  have:=hsd _ List.mem_cons_self
  rw[jG T hi]
  simp [Instr.sliceBound,asIntOf,this]
 ·cases h
theorem qBh(T:zA n hl tm e a){len cap:Nat}{lo hi mx:Option Operand}{r:Nat×Nat×Nat}{sd:List zF}(h:qNy tm len cap lo hi mx=some (r,sd))(hsd:∀ x∈sd,x M)(b:Bool):
  (Instr.sliceBounds b len cap (lo.map a.eval) (hi.map a.eval) (mx.map a.eval)).run P w=.ok r w:=by
 unfold qNy at h
 split at h
 ·cases h
 ·rename_i hne
  split at h
  ·cases h
  ·rename_i m s1 h1
   split at h
   ·cases h
   ·rename_i hh s2 h2
    split at h
    ·cases h
    ·rename_i l s3 h3
     simp only[sI,pI] at h
     obtain⟨rfl,rfl⟩:=h
     have hs1:∀ x∈s1,x M:=fun x hx=>hsd x (by simp [hx])
     have hs2:∀ x∈s2,x M:=fun x hx=>hsd x (by simp [hx])
     have hs3:∀ x∈s3,x M:=fun x hx=>hsd x (by simp [hx])
     cases mx with
     | none =>
      simp only[qMy,sI,pI] at h1
      obtain⟨rfl,_⟩:=h1
      cases hi with
      | none =>
       simp only[qMy,sI,pI] at h2
       obtain⟨rfl,_⟩:=h2
       cases lo with
       | none =>
        simp only[qMy,sI,pI] at h3
        obtain⟨rfl,_⟩:=h3
        simp [Instr.sliceBounds]
       | some z =>
        have b3:=fun c=>wE (P:=P) (w:=w) T h3 hs3 c
        simp [Instr.sliceBounds,b3]
      | some y =>
       have b2:=fun c=>wE (P:=P) (w:=w) T h2 hs2 c
       cases lo with
       | none =>
        simp only[qMy,sI,pI] at h3
        obtain⟨rfl,_⟩:=h3
        simp [Instr.sliceBounds,b2]
       | some z =>
        have b3:=fun c=>wE (P:=P) (w:=w) T h3 hs3 c
        simp [Instr.sliceBounds,b2,b3]
     | some x =>
      have b1:=fun c=>wE (P:=P) (w:=w) T h1 hs1 c
      cases hi with
      | none=>exact absurd rfl (hne _ rfl)
      | some y =>
       have b2:=fun c=>wE (P:=P) (w:=w) T h2 hs2 c
       cases lo with
       | none =>
        simp only[qMy,sI,pI] at h3
        obtain⟨rfl,_⟩:=h3
        simp [Instr.sliceBounds,b1,b2]
       | some z =>
        have b3:=fun c=>wE (P:=P) (w:=w) T h3 hs3 c
        simp [Instr.sliceBounds,b1,b2,b3]
end
end Go.Sx
/- The reckoner of the operations that write nothing. -/
namespace Go.Sx
open Go.RowKit

def qMv(cells:List SV)(off:Nat)(cs:List SV):List SV:=cells.take off++cs++cells.drop (off+cs.length)
theorem qUq{cells:List SV}{off:Nat}{cs:List SV}(h:off+cs.length≤cells.length):(qMv cells off cs).length=cells.length:=by
 simp [qMv]; omega
theorem qKo{n:Nat}{a b:List SV}:wsL n (a++b)↔wsL n a∧wsL n b:=by
 simp only[yP,List.mem_append]
 exact⟨fun h=>⟨fun x hx=>h x (.inl hx),fun x hx=>h x (.inr hx)⟩,fun h x hx=>hx.elim (h.1 x) (h.2 x)⟩
theorem qTe{n k:Nat}{a:List SV}(h:wsL n a):wsL n (a.take k):=(yP _ _).2 fun x hx=>(yP _ _).1 h x (List.mem_of_mem_take hx)
theorem qUw{n k:Nat}{a:List SV}(h:wsL n a):wsL n (a.drop k):=(yP _ _).2 fun x hx=>(yP _ _).1 h x (List.mem_of_mem_drop hx)
theorem qKg{n:Nat}{cells:List SV}{off:Nat}{cs:List SV}(h:wsL n cells)(k:wsL n cs):wsL n (qMv cells off cs) :=
 qKo.2 ⟨qKo.2 ⟨qTe h,k⟩,qUw h⟩
theorem qDo(e:Env)(a b:List SV):qN e (a++b)=qN e a++qN e b:=by simp [yM]
theorem qQa(e:Env)(a:List SV)(k:Nat):qN e (a.take k)=(qN e a).take k:=by simp [yM,List.map_take]
theorem qIe(e:Env)(a:List SV)(k:Nat):qN e (a.drop k)=(qN e a).drop k:=by simp [yM,List.map_drop]
theorem qEp(e:Env)(cells:List SV)(off:Nat)(cs:List SV):qN e (qMv cells off cs)=(qN e cells).take off++qN e cs++(qN e cells).drop (off+(qN e cs).length):=by
 simp [qMv,qDo,qQa,qIe,qS]
theorem qPf(off:Nat):∀(cs:List Value) (k:Nat) (cells:List Value),off+k+cs.length≤cells.length →
  (cs.zipIdx k).foldl (fun(acc:Array Value) (x:Value×Nat)=>acc.setIfInBounds (off+x.2) x.1) cells.toArray=(cells.take (off+k)++cs++cells.drop (off+k+cs.length)).toArray
 | [],k,cells,_=>by simp
 | c::cs,k,cells,h=>by
  simp only[List.zipIdx_cons,List.foldl_cons,List.length_cons] at h ⊢
  have:cells.toArray.setIfInBounds (off+k) c=(cells.set (off+k) c).toArray:=by simp
  rw[this,qPf off cs (k+1) (cells.set (off+k) c) (by simp; omega)]
  congr 1
  have hlt:off+k<cells.length:=by omega
  have e1:(cells.set (off+k) c).take (off+(k+1))=cells.take (off+k)++[c]:=by
   rw[show off+(k+1)=(off+k)+1 from by omega,List.take_succ_eq_append_getElem (by simpa using hlt)]
   simp [List.take_set_of_le]
  have e2:(cells.set (off+k) c).drop (off+(k+1)+cs.length)=cells.drop (off+k+(cs.length+1)):=by
   rw[List.drop_set_of_lt (by omega)]
   congr 1
   omega
  rw[e1,e2]
  simp
theorem qWp(l:List Value):List.mapIdx (fun i a=>(a,i)) l=l.zipIdx:=by
 rw[List.mapIdx_eq_zipIdx_map]
 simp
def qLl(h:List HO)(place:Nat→Option (Nat×Nat))(cells:List SV):List (Nat×SV)→Option (List SV)
 | []=>some cells
 | (i,s)::r =>
  match place i,zM h s with
  | some (off,size),some cs=>bif Nat.beq cs.length size&&Nat.ble (off+cs.length) cells.length then qLl h place (qMv cells off cs) r else none
  | _,_=>none
theorem qBd{F:Mem→Prop}{h:List HO}{e:Env}{w:World}(S:yY F h e w)(hl:Nat)(place:Nat→Option (Nat×Nat)):
  ∀(parts:List (Nat×SV)) (cells:List SV) {r:List SV},qLl h place cells parts=some r→wsL hl cells→(∀ x∈parts,ws hl x.2) →
   Instr.fill place (qN e cells).toArray (parts.map fun x=>(x.1,den e x.2))=some (qN e r).toArray∧wsL hl r
 | [],cells,r,hr,hc,_=>by
  simp only[qLl,sI] at hr
  subst hr
  exact⟨rfl,hc⟩
 | (i,s)::rest,cells,r,hr,hc,hp=>by
  simp only[qLl] at hr
  split at hr
  ·rename_i off size cs hpl hcs
   cases hb:Nat.beq cs.length size&&Nat.ble (off+cs.length) cells.length with
   | false=>rw[hb] at hr; cases hr
   | true =>
    rw[hb] at hr
    simp only[cond_true] at hr
    rw[Bool.and_eq_true] at hb
    have h1:cs.length=size:=Nat.eq_of_beq_eq_true hb.1
    have h2:off+cs.length≤cells.length:=Nat.le_of_ble_eq_true hb.2
    obtain⟨c1,c2⟩:=xG S hcs
    have hws:=c2 hl (hp (i,s) List.mem_cons_self)
    obtain⟨q1,q2⟩:=qBd S hl place rest (qMv cells off cs) hr (qKg hc hws) (fun x hx=>hp x (List.mem_cons_of_mem _ hx))
    refine⟨?_,q2⟩
    simp only[List.map_cons,Instr.fill,hpl,c1,List.size_toArray,qS,h1,ne_eq,not_true_eq_false,decide_false,Bool.false_or,gt_iff_lt,decide_eq_true_eq]
    rw[if_neg (by omega)]
    rw[← q1]
    congr 1
    have:=qPf off (qN e cs) 0 (qN e cells) (by simp [qS]; omega)
    simp only[Nat.add_zero] at this
    rw[qEp,← this]
    simp [Array.zipIdx]
    rw[qWp]
  ·cases hr
def qEu(tm:List (Nat×SV)):List (Nat×Operand)→Option (List (Nat×SV))
 | []=>some []
 | (i,x)::r=>match evO tm x,qEu tm r with
  | some s,some l=>some ((i,s)::l)
  | _,_=>none
theorem qBq{n hl:Nat}{tm:List (Nat×SV)}{e:Env}{a:Act}(T:zA n hl tm e a):∀(l:List (Nat×Operand)) {r:List (Nat×SV)},qEu tm l=some r →
  (l.map fun x=>(x.1,a.eval x.2))=(r.map fun x=>(x.1,den e x.2))∧∀ x∈r,ws hl x.2
 | [],r,h=>by simp only[qEu,sI] at h; subst h; exact⟨rfl,fun x hx=>by cases hx⟩
 | (i,x)::rest,r,h=>by
  simp only[qEu] at h
  split at h
  ·rename_i s l h1 h2
   simp only[sI] at h
   subst h
   obtain⟨q1,q2⟩:=qBq T rest h2
   obtain⟨p1,p2⟩:=qH T h1
   refine⟨by simp [q1,p1],fun y hy=>?_⟩
   rcases List.mem_cons.1 hy with rfl | hy
   ·exact p2
   ·exact q2 y hy
  ·cases h
def qCu(tm:List (Nat×SV)):List Operand→Option (List SV)
 | []=>some []
 | x::r=>match evO tm x,qCu tm r with
  | some s,some l=>some (s::l)
  | _,_=>none
theorem jT{n hl:Nat}{tm:List (Nat×SV)}{e:Env}{a:Act}(T:zA n hl tm e a):∀(l:List Operand) {r:List SV},qCu tm l=some r →
  l.map a.eval=qN e r∧wsL hl r
 | [],r,h=>by simp only[qCu,sI] at h; subst h; exact⟨rfl,trivial⟩
 | x::rest,r,h=>by
  simp only[qCu] at h
  split at h
  ·rename_i s l h1 h2
   simp only[sI] at h
   subst h
   obtain⟨q1,q2⟩:=jT T rest h2
   obtain⟨p1,p2⟩:=qH T h1
   exact⟨by simp [q1,p1,qN],p2,q2⟩
  ·cases h
def zIy(s:ByteArray)(i:Nat):Int:=(((s.data.toList[i]?).getD 0).toNat:Int)
def one(x:Option SV)(D:List Dec):QR:=match x with | some s=>some (s,[],D) | none=>none
def zEr(tm:List (Nat×SV))(D:List Dec)(c x y:Operand):QR :=
 match evO tm c with
 | some (.bl true)=>one (evO tm x) D
 | some (.bl false)=>one (evO tm y) D
 | some (.v (.bool z))=>match D with
  | .t::D'=>match evO tm x with | some s=>some (s,[fun _=>z=true],D') | none=>none
  | .f::D'=>match evO tm y with | some s=>some (s,[fun _=>z=false],D') | none=>none
  | _=>none
 | _=>none
def qSe(P:Program)(t:TypeId)(h:List HO)(i sz k j:Nat)(D:List Dec):QR :=
 match h[i]? with
 | some (.tbl _ _ _ n _ (some (k0,m)))=>match qDp P t with
  | some false=>bif Nat.beq sz 1&&Nat.beq j 0 then some (.o m,[fun _=>k<n,fun _=>k=k0],D) else none
  | _=>none
 | _=>none
def zBy(P:Program)(tm:List (Nat×SV))(h:List HO)(D:List Dec)(t:TypeId)(x:Operand):QR :=
 match evO tm x with
 | some (.p i off)=>match h[i]? with
  | some (.cells cs _)=>qGy P t i cs off D
  | _=>none
 | some (.q i off)=>match h[i]? with
  | some (.row _ _ _ xs)=>match qGy P t i xs off D with
   | some (s,sd,D')=>some (s,(fun _=>0<xs.length)::sd,D')
   | none=>none
  | _=>none
 | some (.v (.pointer oa))=>qQj P t oa D
 | some (.xp i p sz k j)=>qBx P t h i p sz k j D
 | some (.x i p)=>match h[i]? with
  | some (.ext _ c0)=>match yF c0 p with
   | some (.s true sz _ _)=>qBx P t h i p sz 0 0 D
   | _=>none
  | _=>none
 | some (.qk i sz k j)=>match qSe P t h i sz k j D with
  | some r=>some r
  | none=>qKs P t h i sz k j D
 | _=>none
def qTa(h:List HO)(D:List Dec)(s:SV):QR :=
 match qHt h 0 s with
 | some (_,sd)=>some (s,sd,D)
 | none=>none
def zOk(P:Program)(tm:List (Nat×SV))(h:List HO)(D:List Dec)(o:Oper)(x:Operand):QR :=
 match evO tm x with
 | some (.p i off)=>some (.p i off,[],D)
 | some (.fn (.func f) a c)=>some (.fn (.func f) a c,[],D)
 | some (.ifc t y)=>some (.ifc t y,[],D)
 | some (.v (.pointer oa))=>some (.v (.pointer oa),[fun _=>oa.isSome=true],D)
 | some (.x i p)=>qTa h D (.x i p)
 | some (.xp i p sz k j)=>qTa h D (.xp i p sz k j)
 | some (.qk i sz k j)=>qTa h D (.qk i sz k j)
 | _=>qFl P tm D o
def qFg(P:Program)(tm:List (Nat×SV))(h:List HO)(D:List Dec)(S0:TypeId)(x:Operand)(f:Nat):QR :=
 match P.underlying S0 with
 | some (.struct fs)=>match fs[f]? with
  | some fd=>match jL P fd.type,evO tm x with
   | some (_+1),some s=>match qHt h fd.offset s with
    | some (s',sd)=>some (s',sd,D)
    | none=>none
   | _,_=>none
  | none=>none
 | _=>none
def qFx(P:Program)(tm:List (Nat×SV))(h:List HO)(D:List Dec)(T:TypeId)(x ix:Operand):QR :=
 match qCz tm ix with
 | none=>none
 | some (_,i) =>
  match P.underlying T with
  | some (.array len el)=>match jL P el,evO tm x with
   | some sz,some s=>match qHt h (i.toNat*sz) s with
    | some (s',sd)=>some (s',(fun _=>0≤i∧i<(len:Int))::sd,D)
    | none=>none
   | _,_=>none
  | some (.slice el)=>match jL P el,evO tm x with
   | some sz,some (.o j)=>match h[j]? with
    | some (.row _ _ nn _)=>some (.q j (i.toNat*sz),[fun _=>0≤i∧i<(nn:Int)],D)
    | some (.rowc _ _ nn _)=>some (.qk j sz i.toNat 0,[fun _=>0≤i∧i<(nn:Int)],D)
    | some (.tbl _ _ _ nn _ _)=>some (.qk j sz i.toNat 0,[fun _=>0≤i∧i<(nn:Int)],D)
    | _=>none
   | some sz,some (.x j p)=>match h[j]? with
    | some (.ext _ c0)=>match yF c0 p with
     | some (.s false _ nn _)=>some (.xp j p sz i.toNat 0,xC (pvs c0 p++[0≤i∧i<(nn:Int)]),D)
     | _=>none
    | _=>none
   | some sz,some (.sl j off len _)=>some (.p j (off+i.toNat*sz),[fun _=>0≤i∧i<(len:Int)],D)
   | some sz,some (.v (.slice oa len _))=>some (.v (.pointer (oa.map fun ad=>ad.add (i.toNat*sz))),[fun _=>0≤i∧i<(len:Int),fun _=>oa.isSome=true],D)
   | _,_=>none
  | _=>none
def qYt(P:Program)(t:TypeId)(cs:List SV)(off:Nat):Option SV :=
 match qDp P t,jL P t with
 | some true,some n=>bif Nat.beq ((cs.drop off).take n).length n then some (.agg ((cs.drop off).take n)) else none
 | some false,_=>cs[off]?
 | _,_=>none
def qXq(P:Program)(tm:List (Nat×SV))(D:List Dec)(o:Oper)(T:TypeId)(x ix:Operand):QR :=
 match qCz tm ix with
 | none=>none
 | some (_,i) =>
  match P.underlying T,evO tm x with
  | some (.array len el),some s=>match jL P el,s with
   | some sz,.agg cs=>match qYt P el cs (i.toNat*sz) with
    | some r=>some (r,[fun _=>0≤i∧i<(len:Int)],D)
    | none=>none
   | _,_=>qFl P tm D o
  | some .string,some (.v (.string s))=>some (.v (.int .u8 (zIy s i.toNat)),[fun _=>0≤i∧i<(s.size:Int)],D)
  | _,_=>none
def qXo(P:Program)(tm:List (Nat×SV))(D:List Dec)(o:Oper)(T:TypeId)(x:Operand)(f:Nat):QR :=
 match P.underlying T,evO tm x with
 | some (.struct fs),some (.agg cs)=>match fs[f]? with
  | some fd=>one (qYt P fd.type cs fd.offset) D
  | none=>none
 | _,_=>qFl P tm D o
def qKf(P:Program)(tm:List (Nat×SV))(D:List Dec)(o:Oper)(x:Operand)(ix:Nat):QR :=
 match evO tm x with
 | some (.tup cs)=>one cs[ix]? D
 | _=>qFl P tm D o
def qXv(P:Program)(tm:List (Nat×SV))(D:List Dec)(T:TypeId)(x:Operand):QR :=
 match P.underlying T,evO tm x with
 | some (.interface _),_=>none
 | some _,some s=>some (.ifc T s,[],D)
 | _,_=>none
def qYa(P:Program)(tm:List (Nat×SV))(h:List HO)(D:List Dec)(t:TypeId)(parts:Array (Nat×Operand)):QR :=
 match qEx P (zeroValue t),qEu tm parts.toList with
 | some z,some ps=>match P.underlying t with
  | some (.struct fs)=>match qEx P (fs.mapM fun f=>do pure (f.offset,← sizeOf f.type)) with
   | some places=>match qLl h (fun i=>places[i]?) (z.cells.toList.map SV.v) ps with
    | some r=>some (.agg r,[],D)
    | none=>none
   | none=>none
  | some (.array _ el)=>match jL P el with
   | some sz=>match qLl h (fun i=>some (i*sz,sz)) (z.cells.toList.map SV.v) ps with
    | some r=>some (.agg r,[],D)
    | none=>none
   | none=>none
  | _=>none
 | _,_=>none
def zEj(P:Program)(tm:List (Nat×SV))(h:List HO)(D:List Dec)(op:BinOp)(T:TypeId)(x y:Operand):QR :=
 match op,P.underlying T,evO tm x,evO tm y with
 | .eql,some (.slice _),some (.x i p),some (.v (.slice none 0 0))=>match h[i]? with
  | some (.ext _ c0)=>match yF c0 p with
   | some (.s false _ nn _)=>some (.v (.bool false),xC (pvs c0 p++[0<nn]),D)
   | _=>none
  | _=>none
 | _,_,_,_=>none
def zUh(a b:ByteArray):ByteArray:=a++b
def zJu(P:Program)(X:Ext P)(tm:List (Nat×SV))(D:List Dec)(o:Oper)(op:BinOp)(T:TypeId)(x y:Operand):QR :=
 match qCy tm x,qCy tm y with
 | some (.int k m),some (.int k' m')=>match op with
  | .shl=>zBq .shl k m m' D
  | .shr=>zBq .shr k m m' D
  | .quo=>bif decide (k=k') then zBq .quo k m m' D else none
  | .rem=>bif decide (k=k') then zBq .rem k m m' D else none
  | _=>qFl P tm D o
 | some (.agg A),some (.agg B)=>match X.eq T with
  | some ks=>match jE ks A.toList,jE ks B.toList with
   | some xs,some ys=>match op with
    | .eql=>some (.v (.bool (decide (xs=ys))),[],D)
    | .neq=>some (.v (.bool (!decide (xs=ys))),[],D)
    | _=>none
   | _,_=>none
  | none=>none
 | some (.string a),some (.string b)=>match op with
  | .add=>some (.v (.string (zUh a b)),[fun _=>a.size+b.size≤9223372036854775807],D)
  | _=>qFl P tm D o
 | _,_=>qFl P tm D o
def qWf(P:Program)(tm:List (Nat×SV))(D:List Dec)(T:TypeId)(x:Operand)(lo hi mx:Option Operand):QR :=
 match P.underlying T with
 | some (.array n el)=>match jL P el,evO tm x with
  | some sz,some (.p i off)=>match qNy tm n n lo hi mx with
   | some ((l,hh,m),sd)=>some (.sl i (if m=l then off else off+l*sz) (hh-l) (m-l),sd,D)
   | none=>none
  | _,_=>none
 | some .string=>match evO tm x,mx with
  | some (.v (.string s)),none=>match qNy tm s.size s.size lo hi none with
   | some ((l,hh,_),sd)=>some (.v (.string (s.extract l hh)),sd,D)
   | none=>none
  | _,_=>none
 | some (.slice el)=>match jL P el,evO tm x with
  | some sz,some (.v (.slice oa len cap))=>match qNy tm len cap lo hi mx with
   | some ((l,hh,m),sd)=>some (.v (.slice (if m=l then oa else oa.map fun ad=>ad.add (l*sz)) (hh-l) (m-l)),sd,D)
   | none=>none
  | some sz,some (.sl i off len cap)=>match qNy tm len cap lo hi mx with
   | some ((l,hh,m),sd)=>some (.sl i (if m=l then off else off+l*sz) (hh-l) (m-l),sd,D)
   | none=>none
  | _,_=>none
 | _=>none
def zDs(P:Program)(X:Ext P)(tm:List (Nat×SV))(h:List HO)(D:List Dec)(o:Oper)(c:Call):QR :=
 match c.callee with
 | .builtin .len=>match c.args.toList,c.argTypes.toList with
  | [x],[T]=>match P.underlying T with
   | some (.slice _)=>match evO tm x with
    | some (.o i)=>match h[i]? with
     | some (.row _ _ nn _)=>some (.v (.int .i64 nn),[],D)
     | some (.rowc _ _ nn _)=>some (.v (.int .i64 nn),[],D)
     | some (.tbl _ _ _ nn _ _)=>some (.v (.int .i64 nn),[],D)
     | _=>none
    | some (.x j p)=>match h[j]? with
     | some (.ext _ c0)=>match yF c0 p with
      | some (.s false _ nn _)=>some (.v (.int .i64 nn),xC (pvs c0 p),D)
      | _=>none
     | _=>none
    | some (.sl _ _ len _)=>some (.v (.int .i64 len),[],D)
    | _=>qFl P tm D o
   | _=>qFl P tm D o
  | _,_=>none
 | .value (.func f)=>match qCu tm c.args.toList with
  | some ss=>match wR ss with
   | some vs=>match X.ext f vs with
    | some (v,p)=>some (.v v,[fun _=>p],D)
    | none=>none
   | none=>none
  | none=>none
 | .builtin _=>qFl P tm D o
 | _=>none
def zMw(P:Program)(tm:List (Nat×SV))(h:List HO)(D:List Dec)(T:TypeId)(x:Operand):QR :=
 match P.underlying T with
 | some (.array n _)=>match evO tm x with
  | some (.sl i off len _)=>some (.p i off,[fun _=>n≤len],D)
  | some (.v (.slice oa len _))=>some (.v (.pointer oa),[fun _=>n≤len],D)
  | some (.o i)=>match h[i]? with
   | some (.row _ _ nn _)=>some (.q i 0,[fun _=>n≤nn∧0<nn],D)
   | _=>none
  | _=>none
 | _=>none
def qQs(P:Program)(tm:List (Nat×SV))(D:List Dec)(o:Oper)(x:Operand)(asserted:TypeId)(ok:Bool):QR :=
 match qCy tm x,P.underlying asserted,ok with
 | some (.iface t v),some (.interface want),true =>
  match (P.info? t).map (fun i=>(lacking want i.methods).isEmpty) with
  | some true=>some (.v (.tuple #[.iface t v,.bool true]),[],D)
  | some false=>match (P.info? asserted).map (·.zero) with
   | some (some z)=>some (.v (.tuple #[z,.bool false]),[],D)
   | _=>none
  | none=>none
 | _,_,_=>qFl P tm D o
def xq(P:Program)(X:Ext P)(tm:List (Nat×SV))(h:List HO)(D:List Dec)(o:Oper):QR :=
 match o.op with
 | .move x=>one (evO tm x) D
 | .assign x=>one (evO tm x) D
 | .pick c x y=>zEr tm D c x y
 | .load t x=>zBy P tm h D t x
 | .nilCheck x=>zOk P tm h D o x
 | .fieldAddr S0 x f=>qFg P tm h D S0 x f
 | .indexAddr T x ix=>qFx P tm h D T x ix
 | .index T x ix=>qXq P tm D o T x ix
 | .field T x f=>qXo P tm D o T x f
 | .extract x ix=>qKf P tm D o x ix
 | .makeInterface T x=>qXv P tm D T x
 | .makeFunc f a c=>match qCu tm a.toList,qCu tm c.toList with
  | some x,some y=>some (.fn f x y,[],D)
  | _,_=>none
 | .build t parts=>qYa P tm h D t parts
 | .binOp op T x y _=>match zEj P tm h D op T x y with
  | some r=>some r
  | none=>zJu P X tm D o op T x y
 | .slice T x lo hi mx=>qWf P tm D T x lo hi mx
 | .call c=>zDs P X tm h D o c
 | .unOp ..=>qFl P tm D o
 | .convert ..=>qFl P tm D o
 | .typeAssert x _ t ok=>qQs P tm D o x t ok
 | .sliceToArrayPointer T x=>zMw P tm h D T x
 | _=>none
end Go.Sx
/- The reckoner of the operations that write nothing: its truth. -/
namespace Go.Sx
open Go.RowKit

section
variable {P : Program} {X : Ext P} {F : Mem → Prop} {tm : List (Nat × SV)} {n : Nat} {h : List HO} {e : Env} {a : Act} {w : World} {D D' : List Dec} {s : SV} {sd : List zF}

def qBz(P:Program)(h:List HO)(e:Env)(a:Act)(w:World)(o:Oper)(s:SV):Prop :=
 (execOp a.eval o).run P w=.ok (.value (den e s)) w∧ws h.length s
theorem qEs(T:zA n h.length tm e a){x:Operand}(hq:one (evO tm x) D=some (s,sd,D')):a.eval x=den e s∧ws h.length s:=by
 unfold one at hq
 split at hq
 ·rename_i s0 hs
  simp only[sI,pI] at hq
  obtain⟨rfl,rfl,rfl⟩:=hq
  exact qH T hs
 ·cases hq
theorem qSv(T:zA n h.length tm e a){o:Oper}{c x y:Operand}(ho:o.op=.pick c x y)(hq:zEr tm D c x y=some (s,sd,D')){M:Mem}(hsd:∀ x∈sd,x M):qBz P h e a w o s:=by
 have fin:∀(z:Bool) (u:Operand),a.eval c=.bool z→u=(if z then x else y)→a.eval u=den e s∧ws h.length s→qBz P h e a w o s:=by
  intro z u hz hu hr
  refine⟨?_,hr.2⟩
  simp only[execOp,ho,hz,asBool,Sem.run_bind,Sem.run_pure,Result.andThen_ok]
  rw[← hr.1,hu]
  cases z <;> rfl
 unfold zEr at hq
 split at hq
 ·rename_i hc
  exact fin true x (by rw[(qH T hc).1]; rfl) rfl (qEs T hq)
 ·rename_i hc
  exact fin false y (by rw[(qH T hc).1]; rfl) rfl (qEs T hq)
 ·rename_i z hc
  have hz:a.eval c=.bool z:=by rw[(qH T hc).1]; rfl
  split at hq
  ·split at hq
   ·rename_i s0 hs
    simp only[sI,pI] at hq
    obtain⟨rfl,rfl,rfl⟩:=hq
    have:z=true:=hsd _ List.mem_cons_self
    exact fin z x hz (by rw[this]; rfl) (qH T hs)
   ·cases hq
  ·split at hq
   ·rename_i s0 hs
    simp only[sI,pI] at hq
    obtain⟨rfl,rfl,rfl⟩:=hq
    have:z=false:=hsd _ List.mem_cons_self
    exact fin z y hz (by rw[this]; rfl) (qH T hs)
   ·cases hq
  ·cases hq
 ·cases hq
theorem qTf{cs:List SV}{T0:TypeId}{i:Nat}(S:yY F h e w)(hi:h[i]?=some (.cells cs T0)):
  ∀ j v,(qN e cs)[j]?=some v→w.cell? ⟨e.blk i,j,none⟩=some v:=by
 intro j v hv
 have:=S.sat i _ hi
 simp only[HO.sat] at this
 rw[cell_of_row w (e.blk i) j _ T0 _ this]
 simpa using hv
theorem qUo(S:yY F h e w){i:Nat}{T0 T1:TypeId}{sz n:Nat}{c:Nat→Nat×(Nat→Nat→qB)}{hole:Option (Nat×Nat)}(hi:h[i]?=some (.tbl T0 T1 sz n c hole))(h0:0<n):
  ∃ g cap cur,e.row i=.slice (some ⟨g,0,none⟩) n cap∧w.heap[g]?=some (.cells cur T0 (0,0))∧∀ k,k<n→cur[k]?=some (thd e i hole k):=by
 obtain⟨⟨hds,⟨h1,h2⟩,h3,h4⟩,_⟩:=S.sat i _ hi
 rcases h2 with ⟨_,hn⟩ | ⟨g,cap,cur,hv,_,hh,hnc,_,hcs,ht⟩
 ·omega
 ·refine⟨g,cap,cur,hv,hh,fun k hk=>?_⟩
  have:=h4 k hk
  rw[← ht,List.getElem?_take] at this
  split at this
  ·simpa using this
  ·cases this
theorem qNk{t:TypeId}{i sz k j:Nat}(S:yY F h e w)(W:∀(i:Nat) (ho:HO),h[i]?=some ho→ho.ws h.length)(hq:qSe P t h i sz k j D=some (s,sd,D'))(hsd:∀ x∈sd,x (mem w e h)):
  (Instr.loadAt t (qAq (e.row i) (k*sz+j))).run P w=.ok (den e s) w∧ws h.length s:=by
 unfold qSe at hq
 split at hq
 ·rename_i T0 T1 sz1 n c k0 m hi
  split at hq
  ·rename_i ha
   cases hb:Nat.beq sz 1&&Nat.beq j 0 with
   | false=>rw[hb] at hq; cases hq
   | true =>
    rw[hb] at hq
    simp only[cond_true,sI,pI] at hq
    obtain⟨rfl,rfl,rfl⟩:=hq
    rw[Bool.and_eq_true] at hb
    have q1:=Nat.eq_of_beq_eq_true hb.1
    have q2:=Nat.eq_of_beq_eq_true hb.2
    subst q1
    subst q2
    have hk:k<n:=hsd _ List.mem_cons_self
    have hk0:k=k0:=hsd _ (List.mem_cons_of_mem _ List.mem_cons_self)
    obtain⟨g,cap,cur,hv,hh,hc⟩:=qUo S hi (by omega)
    have hc2:=hc k hk
    simp only[thd,if_pos hk0] at hc2
    refine⟨?_,W i _ hi k0 m rfl⟩
    rw[hv]
    simp only[qAq,Instr.loadAt,Instr.sureAddr,Sem.run_bind,Sem.run_pure,Result.andThen_ok,den]
    refine wP ha ?_
    rw[cell_of_row w g _ cur T0 _ hh,Nat.mul_one,Nat.add_zero]
    exact hc2
  ·cases hq
 ·cases hq
theorem qTj(T:zA n h.length tm e a)(S:yY F h e w)(W:∀(i:Nat) (ho:HO),h[i]?=some ho→ho.ws h.length){o:Oper}{t:TypeId}{x:Operand}(ho:o.op=.load t x)(hq:zBy P tm h D t x=some (s,sd,D'))(hsd:∀ x∈sd,x (mem w e h)):qBz P h e a w o s:=by
 unfold zBy at hq
 split at hq
 ·rename_i i off hx
  split at hq
  ·rename_i cs T0 hi
   obtain⟨r1,r2⟩:=qBn hq hsd (qTf S hi) (W i _ hi)
   refine⟨?_,r2⟩
   simp only[execOp,ho,(qH T hx).1,den,Instr.loadAt,Instr.sureAddr,Sem.run_bind,Sem.run_pure,Result.andThen_ok,r1]
  ·cases hq
 ·rename_i i off hx
  split at hq
  ·rename_i T0 sz nn xs hi
   split at hq
   ·rename_i s1 sd1 D1 hl
    simp only[sI,pI] at hq
    obtain⟨rfl,rfl,rfl⟩:=hq
    obtain⟨g,cap,cur,hv,hh,ht⟩:=qTo S hi (hsd _ List.mem_cons_self)
    have hc:∀ j v,(qN e xs)[j]?=some v→w.cell? ⟨g,j,none⟩=some v:=by
     intro j v hjv
     rw[cell_of_row w g j cur T0 _ hh]
     rw[← ht,List.getElem?_take] at hjv
     split at hjv
     ·simpa using hjv
     ·cases hjv
    obtain⟨r1,r2⟩:=qBn hl (fun x hx=>hsd x (List.mem_cons_of_mem _ hx)) hc (W i _ hi)
    refine⟨?_,r2⟩
    simp only[execOp,ho,(qH T hx).1,den,hv,Instr.loadAt,Instr.sureAddr,Sem.run_bind,Sem.run_pure,Result.andThen_ok,r1]
   ·cases hq
  ·cases hq
 ·rename_i oa hx
  obtain⟨r1,r2⟩:=qMx (hl:=h.length) hq hsd (jH w e h) e
  refine⟨?_,r2⟩
  simp only[execOp,ho,(qH T hx).1,den,Sem.run_bind,r1,Result.andThen_ok]
  rfl
 ·rename_i i p sz k j hx
  obtain⟨r1,r2⟩:=qDc S hq hsd
  refine⟨?_,r2⟩
  simp only[execOp,ho,(qH T hx).1,den,Sem.run_bind,r1,Result.andThen_ok]
  rfl
 ·rename_i i p hx
  split at hq
  ·rename_i b0 c0 hi
   split at hq
   ·rename_i sz n0 g hc
    obtain⟨r1,r2⟩:=qDc S hq hsd
    refine⟨?_,r2⟩
    have hs:∀ x∈xC (pvs c0 p++[0<n0]),x (mem w e h):=by
     rw[qLg hi hc hq] at hsd
     exact hsd
    obtain⟨⟨ad,e1,e2⟩,_⟩:=qAb (k:=0) (s:=.x i p) (s':=.xp i p sz 0 0) (sd:=xC (pvs c0 p++[0<n0])) S (by simp only[qHt,hi,hc]) hs
    simp only[den] at e1 e2
    rw[Addr.add_zero',← e1] at e2
    rw[e2] at r1
    simp only[execOp,ho,(qH T hx).1,den,Sem.run_bind,r1,Result.andThen_ok]
    rfl
   ·cases hq
  ·cases hq
 ·rename_i i sz k j hx
  have key:(Instr.loadAt t (qAq (e.row i) (k*sz+j))).run P w=.ok (den e s) w∧ws h.length s:=by
   split at hq
   ·rename_i r hr
    simp only[sI] at hq
    subst hq
    exact qNk S W hr hsd
   ·exact qLk S hq hsd
  obtain⟨r1,r2⟩:=key
  refine⟨?_,r2⟩
  simp only[execOp,ho,(qH T hx).1,den,Sem.run_bind,r1,Result.andThen_ok]
  rfl
 ·cases hq
theorem qWy(T:zA n h.length tm e a)(S:yY F h e w){w':World}{o:Oper}{x:Operand}(ho:o.op=.nilCheck x)(hq:zOk P tm h D o x=some (s,sd,D'))(hsd:∀ x∈sd,x (mem w e h)):qBz P h e a w' o s:=by
 have key:∀ s0,evO tm x=some s0→qTa h D s0=some (s,sd,D')→qBz P h e a w' o s:=by
  intro s0 hx hh
  unfold qTa at hh
  split at hh
  ·rename_i s1 sd1 hp
   simp only[sI,pI] at hh
   obtain⟨rfl,rfl,rfl⟩:=hh
   obtain⟨⟨ad,e1,_⟩,_⟩:=qAb S hp hsd
   refine⟨?_,(qH T hx).2⟩
   simp only[execOp,ho,(qH T hx).1,e1]
   rfl
  ·cases hh
 unfold zOk at hq
 split at hq
 ·rename_i i off hx
  simp only[sI,pI] at hq
  obtain⟨rfl,rfl,rfl⟩:=hq
  refine⟨?_,(qH T hx).2⟩
  simp only[execOp,ho,(qH T hx).1,den]
  rfl
 ·rename_i f x1 c1 hx
  simp only[sI,pI] at hq
  obtain⟨rfl,rfl,rfl⟩:=hq
  refine⟨?_,(qH T hx).2⟩
  simp only[execOp,ho,(qH T hx).1,den]
  rfl
 ·rename_i t y hx
  simp only[sI,pI] at hq
  obtain⟨rfl,rfl,rfl⟩:=hq
  refine⟨?_,(qH T hx).2⟩
  simp only[execOp,ho,(qH T hx).1,den]
  rfl
 ·rename_i oa hx
  simp only[sI,pI] at hq
  obtain⟨rfl,rfl,rfl⟩:=hq
  refine⟨?_,(qH T hx).2⟩
  have:=hsd _ List.mem_cons_self
  cases oa with
  | none=>simp at this
  | some ad =>
   simp only[execOp,ho,(qH T hx).1,den]
   rfl
 ·rename_i i p hx
  exact key _ hx hq
 ·rename_i i p sz k j hx
  exact key _ hx hq
 ·rename_i i sz k j hx
  exact key _ hx hq
 ·exact zW T hq
theorem qHw(T:zA n h.length tm e a)(S:yY F h e w){w':World}{o:Oper}{S0:TypeId}{x:Operand}{f:Nat}(ho:o.op=.fieldAddr S0 x f)(hq:qFg P tm h D S0 x f=some (s,sd,D'))(hsd:∀ x∈sd,x (mem w e h)):qBz P h e a w' o s:=by
 unfold qFg at hq
 split at hq
 ·rename_i fs hu
  split at hq
  ·rename_i fd hf
   split at hq
   ·rename_i k s0 hk hx
    split at hq
    ·rename_i s' sd' hp
     simp only[sI,pI] at hq
     obtain⟨rfl,rfl,rfl⟩:=hq
     obtain⟨⟨ad,e1,e2⟩,hw⟩:=qAb S hp hsd
     refine⟨?_,hw _ (qH T hx).2⟩
     simp only[execOp,ho,(qH T hx).1,e1,e2,Sem.run_bind,qUy hu hf hk (Nat.succ_ne_zero k),Result.andThen_ok]
     rfl
    ·cases hq
   ·cases hq
  ·cases hq
 ·cases hq
theorem qIk(T:zA n h.length tm e a)(S:yY F h e w){w':World}{o:Oper}{T0:TypeId}{x ix:Operand}(ho:o.op=.indexAddr T0 x ix)(hq:qFx P tm h D T0 x ix=some (s,sd,D'))(hsd:∀ x∈sd,x (mem w e h)):qBz P h e a w' o s:=by
 unfold qFx at hq
 split at hq
 ·cases hq
 ·rename_i k i hi
  have ei:=jG T hi
  split at hq
  ·rename_i len el hu
   split at hq
   ·rename_i sz s0 hsz hx
    split at hq
    ·rename_i s' sd' hp
     simp only[sI,pI] at hq
     obtain⟨rfl,rfl,rfl⟩:=hq
     obtain⟨⟨ad,e1,e2⟩,hw⟩:=qAb S hp (fun x hx=>hsd x (List.mem_cons_of_mem _ hx))
     have h0:=hsd _ List.mem_cons_self
     refine⟨?_,hw _ (qH T hx).2⟩
     simp only[execOp,ho,(qH T hx).1,ei,e1,e2,Sem.run_bind,qGs hu hsz h0,Result.andThen_ok]
     rfl
    ·cases hq
   ·cases hq
  ·rename_i el hu
   split at hq
   ·rename_i sz j hsz hx
    split at hq
    ·rename_i T1 sz1 nn xs hr
     simp only[sI,pI] at hq
     obtain⟨rfl,rfl,rfl⟩:=hq
     have h0:0≤i∧i<(nn:Int):=hsd _ List.mem_cons_self
     obtain⟨⟨_,hr2⟩,_⟩:=S.sat j _ hr
     refine⟨?_,(qH T hx).2⟩
     rcases hr2 with ⟨_,hn⟩ | ⟨g,cap,cur,hv,_⟩
     ·omega
     ·simp only[execOp,ho,(qH T hx).1,ei,den,hv,Sem.run_bind,jA hu hsz h0,Result.andThen_ok,Addr.add_lit,Nat.zero_add]
      rfl
    ·rename_i T1 sz1 nn c hr
     simp only[sI,pI] at hq
     obtain⟨rfl,rfl,rfl⟩:=hq
     have h0:0≤i∧i<(nn:Int):=hsd _ List.mem_cons_self
     obtain⟨g,cap,cur,hv,_⟩:=qIr S hr (by omega)
     refine⟨?_,(qH T hx).2⟩
     simp only[execOp,ho,(qH T hx).1,ei,den,hv,qAq,Sem.run_bind,jA hu hsz h0,Result.andThen_ok,Addr.add_lit,Nat.zero_add,Nat.add_zero]
     rfl
    ·rename_i T0' T1' sz1 nn c hole hr
     simp only[sI,pI] at hq
     obtain⟨rfl,rfl,rfl⟩:=hq
     have h0:0≤i∧i<(nn:Int):=hsd _ List.mem_cons_self
     obtain⟨g,cap,cur,hv,_⟩:=qUo S hr (by omega)
     refine⟨?_,(qH T hx).2⟩
     simp only[execOp,ho,(qH T hx).1,ei,den,hv,qAq,Sem.run_bind,jA hu hsz h0,Result.andThen_ok,Addr.add_lit,Nat.zero_add,Nat.add_zero]
     rfl
    ·cases hq
   ·rename_i sz j p hsz hx
    split at hq
    ·rename_i b0 c0 hi2
     split at hq
     ·rename_i sz1 nn g hc
      simp only[sI,pI] at hq
      obtain⟨rfl,rfl,rfl⟩:=hq
      have hs:=zQ hsd
      have h0:0≤i∧i<(nn:Int):=hs _ (List.mem_append_right _ List.mem_cons_self)
      obtain⟨oa,hr,h2⟩:=qCv S hi2 hc (fun x hx=>hs x (List.mem_append_left _ hx))
      rcases h2 with rfl | ⟨ad,rfl,_⟩
      ·omega
      ·refine⟨?_,(qH T hx).2⟩
       have hr':=hr
       obtain⟨cap,hv,_⟩:=hr'
       simp only[execOp,ho,(qH T hx).1,ei,den,hv,Sem.run_bind,jA hu hsz h0,Result.andThen_ok,Nat.add_zero]
       rfl
     ·cases hq
    ·cases hq
   ·rename_i sz j off len cap hsz hx
    simp only[sI,pI] at hq
    obtain⟨rfl,rfl,rfl⟩:=hq
    have h0:0≤i∧i<(len:Int):=hsd _ List.mem_cons_self
    refine⟨?_,(qH T hx).2⟩
    simp only[execOp,ho,(qH T hx).1,ei,den,Sem.run_bind,jA hu hsz h0,Result.andThen_ok,Addr.add_lit]
    rfl
   ·rename_i sz oa len cap hsz hx
    simp only[sI,pI] at hq
    obtain⟨rfl,rfl,rfl⟩:=hq
    have h0:0≤i∧i<(len:Int):=hsd _ List.mem_cons_self
    have h1:oa.isSome=true:=hsd _ (List.mem_cons_of_mem _ List.mem_cons_self)
    refine⟨?_,trivial⟩
    cases oa with
    | none=>cases h1
    | some ad =>
     simp only[execOp,ho,(qH T hx).1,ei,den,Sem.run_bind,jA hu hsz h0,Result.andThen_ok]
     rfl
   ·cases hq
  ·cases hq
theorem qIu{t:TypeId}{cs:List SV}{off:Nat}(hq:qYt P t cs off=some s)(hw:wsL h.length cs):
  (part t (qN e cs).toArray off).run P w=.ok (den e s) w∧ws h.length s:=by
 unfold qYt at hq
 split at hq
 ·rename_i k ha hk
  cases hb:Nat.beq ((cs.drop off).take k).length k with
  | false=>rw[hb] at hq; cases hq
  | true =>
   rw[hb] at hq
   simp only[cond_true,sI] at hq
   subst hq
   refine⟨?_,qTe (qUw hw)⟩
   simp only[part,Sem.run_bind,qBv ha,Result.andThen_ok,zI hk,Sem.run_ite,if_true,Sem.run_pure]
   simp only[den,qQa,qIe]
   congr 2
   simp
 ·rename_i ha
  refine⟨?_,(yP _ _).1 hw s (List.mem_of_getElem? hq)⟩
  have:(qN e cs).toArray[off]?=some (den e s):=by simp [yM,hq]
  simp only[part,Sem.run_bind,qBv ha,Result.andThen_ok,Bool.false_eq_true,if_false,this]
  rfl
 ·cases hq
theorem qQx(T:zA n h.length tm e a){o:Oper}{T0:TypeId}{x ix:Operand}(ho:o.op=.index T0 x ix)(hq:qXq P tm D o T0 x ix=some (s,sd,D')){M:Mem}(hsd:∀ x∈sd,x M):qBz P h e a w o s:=by
 unfold qXq at hq
 split at hq
 ·cases hq
 ·rename_i k i hi
  have ei:=jG T hi
  split at hq
  ·rename_i len el s0 hu hx
   split at hq
   ·rename_i sz cs hsz
    split at hq
    ·rename_i r hp
     simp only[sI,pI] at hq
     obtain⟨rfl,rfl,rfl⟩:=hq
     have h0:0≤i∧i<(len:Int):=hsd _ List.mem_cons_self
     obtain⟨q1,q2⟩:=qIu (P:=P) (e:=e) (w:=w) hp (qH T hx).2
     refine⟨?_,q2⟩
     simp only[execOp,ho,(qH T hx).1,ei,den,Instr.index,asIntOf,Sem.run_bind,Sem.run_pure,Result.andThen_ok,run_underlying hu,Sem.run_ite,h0,and_self,if_true,zI hsz,q1]
    ·cases hq
   ·exact zW T hq
  ·rename_i s0 hu hx
   simp only[sI,pI] at hq
   obtain⟨rfl,rfl,rfl⟩:=hq
   have h0:0≤i∧i<(s0.size:Int):=hsd _ List.mem_cons_self
   refine⟨?_,trivial⟩
   have hlt:i.toNat<s0.size:=by omega
   simp only[execOp,ho,(qH T hx).1,ei,den,Instr.index,asIntOf,Sem.run_bind,Sem.run_pure,Result.andThen_ok,run_underlying hu,h0.1,if_true]
   have e1:s0[i.toNat]?=some s0[i.toNat]:=getElem?_pos s0 i.toNat hlt
   simp only[e1,Sem.run_pure,Result.andThen_ok]
   congr 3
   unfold zIy
   have:s0.data.toList[i.toNat]?=some s0[i.toNat]:=by
    rw[List.getElem?_eq_getElem (by simpa using hlt)]
    rfl
   rw[this]
   rfl
  ·cases hq
theorem qQm(T:zA n h.length tm e a){o:Oper}{T0:TypeId}{x:Operand}{f:Nat}(ho:o.op=.field T0 x f)(hq:qXo P tm D o T0 x f=some (s,sd,D')):qBz P h e a w o s:=by
 unfold qXo at hq
 split at hq
 ·rename_i fs cs hu hx
  split at hq
  ·rename_i fd hf
   unfold one at hq
   split at hq
   ·rename_i s0 hp
    simp only[sI,pI] at hq
    obtain⟨rfl,rfl,rfl⟩:=hq
    obtain⟨q1,q2⟩:=qIu (P:=P) (e:=e) (w:=w) hp (qH T hx).2
    refine⟨?_,q2⟩
    simp only[execOp,ho,(qH T hx).1,den,Instr.field,Sem.run_bind,run_underlying hu,Result.andThen_ok,hf,asAgg,Sem.run_pure,q1]
   ·cases hq
  ·cases hq
 ·exact zW T hq
theorem qMn(T:zA n h.length tm e a){o:Oper}{x:Operand}{ix:Nat}(ho:o.op=.extract x ix)(hq:qKf P tm D o x ix=some (s,sd,D')):qBz P h e a w o s:=by
 unfold qKf at hq
 split at hq
 ·rename_i cs hx
  unfold one at hq
  split at hq
  ·rename_i s0 hp
   simp only[sI,pI] at hq
   obtain⟨rfl,rfl,rfl⟩:=hq
   have:(qN e cs).toArray[ix]?=some (den e s0):=by simp [yM,hp]
   refine⟨?_,(yP _ _).1 (qH T hx).2 s0 (List.mem_of_getElem? hp)⟩
   simp only[execOp,ho,(qH T hx).1,den,Instr.extract,this,Sem.run_bind,Sem.run_pure,Result.andThen_ok]
  ·cases hq
 ·exact zW T hq
theorem qRp(T:zA n h.length tm e a){o:Oper}{T0:TypeId}{x:Operand}(ho:o.op=.makeInterface T0 x)(hq:qXv P tm D T0 x=some (s,sd,D')):qBz P h e a w o s:=by
 unfold qXv at hq
 split at hq
 ·cases hq
 ·rename_i d s0 hne hu hx
  simp only[sI,pI] at hq
  obtain⟨rfl,rfl,rfl⟩:=hq
  refine⟨?_,(qH T hx).2⟩
  simp only[execOp,ho,(qH T hx).1,den,Instr.makeInterface,Sem.run_bind,run_underlying hu,Result.andThen_ok]
  cases d with
  | interface ms=>exact(hne ms rfl).elim
  | _=>rfl
 ·cases hq
end
end Go.Sx
/- The reckoner of the operations that write nothing: its truth, the rest. -/
namespace Go.Sx
open Go.RowKit

section
variable {P : Program} {X : Ext P} {F : Mem → Prop} {tm : List (Nat × SV)} {n : Nat} {h : List HO} {e : Env} {a : Act} {w : World} {D D' : List Dec} {s : SV} {sd : List zF}

theorem qRn(T:zA n h.length tm e a)(S:yY F h e w){w':World}{o:Oper}{t:TypeId}{parts:Array (Nat×Operand)}(ho:o.op=.build t parts)(hq:qYa P tm h D t parts=some (s,sd,D')):qBz P h e a w' o s:=by
 unfold qYa at hq
 split at hq
 ·rename_i z ps hz hps
  have hz':=fun w=>jK hz w
  obtain⟨p1,p2⟩:=qBq T parts.toList hps
  have hparts:(parts.map fun(x:Nat×Operand)=>(x.1,a.eval x.2)).toList=ps.map fun x=>(x.1,den e x.2):=by
   rw[Array.toList_map]; exact p1
  have hzc:z.cells=(qN e (z.cells.toList.map SV.v)).toArray:=by rw[qAd]
  split at hq
  ·rename_i fs hu
   split at hq
   ·rename_i places hpl
    split at hq
    ·rename_i r hr
     simp only[sI,pI] at hq
     obtain⟨rfl,rfl,rfl⟩:=hq
     obtain⟨f1,f2⟩:=qBd S h.length _ ps _ hr (qDq _ _) p2
     refine⟨?_,f2⟩
     simp only[execOp,ho,Instr.build,Sem.run_bind,hz' w',Result.andThen_ok,run_underlying hu,jK hpl w']
     rw[hparts,hzc]
     simp only[f1,Sem.run_pure,den,Result.andThen_ok]
    ·cases hq
   ·cases hq
  ·rename_i len el hu
   split at hq
   ·rename_i sz hsz
    split at hq
    ·rename_i r hr
     simp only[sI,pI] at hq
     obtain⟨rfl,rfl,rfl⟩:=hq
     obtain⟨f1,f2⟩:=qBd S h.length _ ps _ hr (qDq _ _) p2
     refine⟨?_,f2⟩
     simp only[execOp,ho,Instr.build,Sem.run_bind,hz' w',Result.andThen_ok,run_underlying hu,zI hsz w']
     rw[hparts,hzc]
     simp only[f1,Sem.run_pure,den,Result.andThen_ok]
    ·cases hq
   ·cases hq
  ·cases hq
 ·cases hq
theorem qCj{op:BinOp}{k k':IntKind}{x y:Int}(hk:(op=.quo∨op=.rem)→k=k')(hq:zBq op k x y D=some (s,sd,D')){M:Mem}(hsd:∀ x∈sd,x M):
  (∀(T:TypeId) (u v:Operand),(do eqGuard op T u v (.int k x) (.int k' y); binOp op T (.int k x) (.int k' y):Sem Value).run P w=.ok (den e s) w)∧ws h.length s:=by
 unfold zBq at hq
 split at hq
 ·simp only[sI,pI] at hq
  obtain⟨rfl,rfl,rfl⟩:=hq
  have h0:¬ y<0:=hsd _ List.mem_cons_self
  refine⟨fun T u v=>?_,trivial⟩
  simp [eqGuard,binOp,Op.shift,den,h0]
 ·simp only[sI,pI] at hq
  obtain⟨rfl,rfl,rfl⟩:=hq
  have h0:¬ y<0:=hsd _ List.mem_cons_self
  refine⟨fun T u v=>?_,trivial⟩
  simp [eqGuard,binOp,Op.shift,den,h0]
 ·simp only[sI,pI] at hq
  obtain⟨rfl,rfl,rfl⟩:=hq
  have h0:¬ y=0:=hsd _ List.mem_cons_self
  have hkk:=hk (.inl rfl)
  subst hkk
  refine⟨fun T u v=>?_,trivial⟩
  simp [eqGuard,binOp,Op.intDiv,den,h0]
 ·simp only[sI,pI] at hq
  obtain⟨rfl,rfl,rfl⟩:=hq
  have h0:¬ y=0:=hsd _ List.mem_cons_self
  have hkk:=hk (.inr rfl)
  subst hkk
  refine⟨fun T u v=>?_,trivial⟩
  simp [eqGuard,binOp,Op.intDiv,den,h0]
 ·cases hq
theorem qVi(T:zA n h.length tm e a)(S:yY F h e w){o:Oper}{op:BinOp}{t yt:TypeId}{x y:Operand}(ho:o.op=.binOp op t x y yt)(hq:zEj P tm h D op t x y=some (s,sd,D'))(hsd:∀ x∈sd,x (mem w e h)){w':World}:qBz P h e a w' o s:=by
 unfold zEj at hq
 split at hq
 ·rename_i el i p hu hx hy
  split at hq
  ·rename_i b0 c0 hi
   split at hq
   ·rename_i sz nn g hc
    simp only[sI,pI] at hq
    obtain⟨rfl,rfl,rfl⟩:=hq
    have hs:=zQ hsd
    have h0:0<nn:=hs _ (List.mem_append_right _ List.mem_cons_self)
    obtain⟨oa,hr,h2⟩:=qCv S hi hc (fun x hx=>hs x (List.mem_append_left _ hx))
    rcases h2 with rfl | ⟨ad,rfl,_⟩
    ·omega
    ·obtain⟨cap,hv,_⟩:=hr
     refine⟨?_,trivial⟩
     have ex:a.eval x=.slice (some ad) nn cap:=by rw[(qH T hx).1]; simp only[den]; exact hv
     have ey:a.eval y=.slice none 0 0:=(qH T hy).1
     simp only[execOp,ho,ex,ey,den]
     have he:(Op.equal t (.slice (some ad) nn cap) (.slice none 0 0)).run P w'=.ok false w':=by
      rw[Op.equal,show Op.maxDepth=9999+1 from rfl,Op.equalIn]
      simp only[Sem.run_bind,run_underlying hu,Result.andThen_ok,Sem.run_pure]
     simp [eqGuard,binOp,he]
   ·cases hq
  ·cases hq
 ·cases hq
theorem qXm(T:zA n h.length tm e a){o:Oper}{op:BinOp}{t yt:TypeId}{x y:Operand}(ho:o.op=.binOp op t x y yt)(hq:zJu P X tm D o op t x y=some (s,sd,D')){M:Mem}(hsd:∀ x∈sd,x M):qBz P h e a w o s:=by
 unfold zJu at hq
 have fin:∀(u v:Value),a.eval x=u→a.eval y=v→(do eqGuard op t x y u v; binOp op t u v:Sem Value).run P w=.ok (den e s) w→(execOp a.eval o).run P w=.ok (.value (den e s)) w:=by
  intro u v hu hv hr
  simp only[execOp,ho,hu,hv]
  rw[Sem.run_bind,hr]
  rfl
 split at hq
 ·rename_i k m k' m' hx hy
  have ex:=zN T hx
  have ey:=zN T hy
  split at hq
  ·obtain⟨r1,r2⟩:=qCj (P:=P) (h:=h) (e:=e) (w:=w) (k':=k') (fun hh=>by rcases hh with hh | hh <;> cases hh) hq hsd
   exact⟨fin _ _ ex ey (r1 t x y),r2⟩
  ·obtain⟨r1,r2⟩:=qCj (P:=P) (h:=h) (e:=e) (w:=w) (k':=k') (fun hh=>by rcases hh with hh | hh <;> cases hh) hq hsd
   exact⟨fin _ _ ex ey (r1 t x y),r2⟩
  ·by_cases hk:k=k'
   ·subst hk
    simp only[decide_true,cond_true] at hq
    obtain⟨r1,r2⟩:=qCj (P:=P) (h:=h) (e:=e) (w:=w) (k':=k) (fun _=>rfl) hq hsd
    exact⟨fin _ _ ex ey (r1 t x y),r2⟩
   ·simp only[hk,decide_false,cond_false] at hq
    cases hq
  ·by_cases hk:k=k'
   ·subst hk
    simp only[decide_true,cond_true] at hq
    obtain⟨r1,r2⟩:=qCj (P:=P) (h:=h) (e:=e) (w:=w) (k':=k) (fun _=>rfl) hq hsd
    exact⟨fin _ _ ex ey (r1 t x y),r2⟩
   ·simp only[hk,decide_false,cond_false] at hq
    cases hq
  ·exact zW T hq
 ·rename_i A B hx hy
  have ex:=zN T hx
  have ey:=zN T hy
  split at hq
  ·rename_i ks hks
   split at hq
   ·rename_i xs ys hxs hys
    obtain⟨x1,x2⟩:=wX ks _ hxs
    obtain⟨y1,y2⟩:=wX ks _ hys
    have hA:A=(qW ks xs).toArray:=by rw[← x1]
    have hB:B=(qW ks ys).toArray:=by rw[← y1]
    obtain⟨q1,q2⟩:=X.eqOk t ks xs ys x y w hks x2 y2
    split at hq
    ·simp only[sI,pI] at hq
     obtain⟨rfl,rfl,rfl⟩:=hq
     refine⟨fin _ _ ex ey ?_,trivial⟩
     rw[hA,hB]
     exact q1
    ·simp only[sI,pI] at hq
     obtain⟨rfl,rfl,rfl⟩:=hq
     refine⟨fin _ _ ex ey ?_,trivial⟩
     rw[hA,hB]
     exact q2
    ·cases hq
   ·cases hq
  ·cases hq
 ·rename_i u v hx hy
  have ex:=zN T hx
  have ey:=zN T hy
  split at hq
  ·simp only[sI,pI] at hq
   obtain⟨rfl,rfl,rfl⟩:=hq
   have hle:u.size+v.size≤9223372036854775807:=hsd _ List.mem_cons_self
   refine⟨fin _ _ ex ey ?_,trivial⟩
   have hmax:¬ ((u.size+v.size:Nat):Int)>IntKind.i64.max:=by
    have:IntKind.i64.max=9223372036854775807:=by decide
    rw[this]
    omega
   simp only[Sem.run_bind,eqGuard,binOp,Op.stringOp]
   rw[if_neg hmax]
   rfl
  ·exact zW T hq
 ·exact zW T hq
theorem qQp(T:zA n h.length tm e a){o:Oper}{t:TypeId}{x:Operand}{lo hi mx:Option Operand}(ho:o.op=.slice t x lo hi mx)(hq:qWf P tm D t x lo hi mx=some (s,sd,D')){M:Mem}(hsd:∀ x∈sd,x M):qBz P h e a w o s:=by
 unfold qWf at hq
 split at hq
 ·rename_i nn el hu
  split at hq
  ·rename_i sz i off hsz hx
   split at hq
   ·rename_i l hh m sd1 hb
    simp only[sI,pI] at hq
    obtain⟨rfl,rfl,rfl⟩:=hq
    refine⟨?_,(qH T hx).2⟩
    have:=qBh (P:=P) (w:=w) T hb hsd false
    simp only[execOp,ho,(qH T hx).1,den,Instr.sliceAt,Sem.run_bind,run_underlying hu,Result.andThen_ok,Instr.sureAddr,Sem.run_pure,this,zI hsz]
    congr 4
    split <;> simp [Addr.add_lit]
   ·cases hq
  ·cases hq
 ·rename_i hu
  split at hq
  ·rename_i _ s0 hx
   split at hq
   ·rename_i l hh m sd1 hb
    simp only[sI,pI] at hq
    obtain⟨rfl,rfl,rfl⟩:=hq
    refine⟨?_,trivial⟩
    have:=qBh (P:=P) (w:=w) T hb hsd false
    simp only[Option.map_none] at this
    simp only[execOp,ho,(qH T hx).1,den,Instr.sliceAt,Instr.slice,Sem.run_bind,run_underlying hu,Result.andThen_ok,Option.map_none,Option.isSome_none,Bool.false_eq_true,if_false,Sem.run_pure,this]
   ·cases hq
  ·cases hq
 ·rename_i el hu
  split at hq
  ·rename_i sz oa len cap hsz hx
   split at hq
   ·rename_i l hh m sd1 hb
    simp only[sI,pI] at hq
    obtain⟨rfl,rfl,rfl⟩:=hq
    refine⟨?_,trivial⟩
    have:=qBh (P:=P) (w:=w) T hb hsd true
    simp only[execOp,ho,(qH T hx).1,den,Instr.sliceAt,Instr.slice,Sem.run_bind,run_underlying hu,Result.andThen_ok,Sem.run_pure,this,zI hsz]
   ·cases hq
  ·rename_i sz i off len cap hsz hx
   split at hq
   ·rename_i l hh m sd1 hb
    simp only[sI,pI] at hq
    obtain⟨rfl,rfl,rfl⟩:=hq
    refine⟨?_,(qH T hx).2⟩
    have:=qBh (P:=P) (w:=w) T hb hsd true
    simp only[execOp,ho,(qH T hx).1,den,Instr.sliceAt,Instr.slice,Sem.run_bind,run_underlying hu,Result.andThen_ok,Sem.run_pure,this,zI hsz]
    congr 4
    split <;> simp [Addr.add_lit]
   ·cases hq
  ·cases hq
 ·cases hq
theorem qSw(T:zA n h.length tm e a)(S:yY F h e w){w':World}{o:Oper}{c:Call}(ho:o.op=.call c)(hq:zDs P X tm h D o c=some (s,sd,D'))(hsd:∀ x∈sd,x (mem w e h)):qBz P h e a w' o s:=by
 unfold zDs at hq
 split at hq
 ·rename_i hc
  split at hq
  ·rename_i x T0 hargs htys
   have ha:c.args=#[x]:=by rw[← hargs]
   have ht:c.argTypes=#[T0]:=by rw[← htys]
   split at hq
   ·rename_i el hu
    split at hq
    ·rename_i i hx
     split at hq
     ·rename_i T1 sz nn xs hr
      simp only[sI,pI] at hq
      obtain⟨rfl,rfl,rfl⟩:=hq
      refine⟨?_,trivial⟩
      obtain⟨⟨_,hr2⟩,_⟩:=S.sat i _ hr
      have hv:∃ oa cap,e.row i=.slice oa nn cap:=by
       rcases hr2 with ⟨hv,hn⟩ | ⟨g,cap,cur,hv,_⟩
       ·subst hn; exact⟨_,_,hv⟩
       ·exact⟨_,_,hv⟩
      obtain⟨oa,cap,hv⟩:=hv
      simp [execOp,ho,resolve,hc,ha,ht,invoke,builtin,Builtin.len_,(qH T hx).1,den,hv,run_underlying hu,goInt]
     ·rename_i T1 sz nn xs hr
      simp only[sI,pI] at hq
      obtain⟨rfl,rfl,rfl⟩:=hq
      refine⟨?_,trivial⟩
      obtain⟨qR,⟨_,hr2⟩,_⟩:=S.sat i _ hr
      have hv:∃ oa cap,e.row i=.slice oa nn cap:=by
       rcases hr2 with ⟨hv,hn⟩ | ⟨g,cap,cur,hv,_⟩
       ·subst hn; exact⟨_,_,hv⟩
       ·exact⟨_,_,hv⟩
      obtain⟨oa,cap,hv⟩:=hv
      simp [execOp,ho,resolve,hc,ha,ht,invoke,builtin,Builtin.len_,(qH T hx).1,den,hv,run_underlying hu,goInt]
     ·rename_i T0' T1' sz nn xs hole hr
      simp only[sI,pI] at hq
      obtain⟨rfl,rfl,rfl⟩:=hq
      refine⟨?_,trivial⟩
      obtain⟨⟨qR,⟨_,hr2⟩,_⟩,_⟩:=S.sat i _ hr
      have hv:∃ oa cap,e.row i=.slice oa nn cap:=by
       rcases hr2 with ⟨hv,hn⟩ | ⟨g,cap,cur,hv,_⟩
       ·subst hn; exact⟨_,_,hv⟩
       ·exact⟨_,_,hv⟩
      obtain⟨oa,cap,hv⟩:=hv
      simp [execOp,ho,resolve,hc,ha,ht,invoke,builtin,Builtin.len_,(qH T hx).1,den,hv,run_underlying hu,goInt]
     ·cases hq
    ·rename_i j p hx
     split at hq
     ·rename_i b0 c0 hi
      split at hq
      ·rename_i sz nn g hcc
       simp only[sI,pI] at hq
       obtain⟨rfl,rfl,rfl⟩:=hq
       refine⟨?_,trivial⟩
       obtain⟨oa,hr,_⟩:=qCv S hi hcc (zQ hsd)
       obtain⟨cap,hv,_⟩:=hr
       simp [execOp,ho,resolve,hc,ha,ht,invoke,builtin,Builtin.len_,(qH T hx).1,den,hv,run_underlying hu,goInt]
      ·cases hq
     ·cases hq
    ·rename_i i off len cap hx
     simp only[sI,pI] at hq
     obtain⟨rfl,rfl,rfl⟩:=hq
     refine⟨?_,trivial⟩
     simp [execOp,ho,resolve,hc,ha,ht,invoke,builtin,Builtin.len_,(qH T hx).1,den,run_underlying hu,goInt]
    ·exact zW T hq
   ·exact zW T hq
  ·cases hq
 ·rename_i f hc
  split at hq
  ·rename_i ss hss
   split at hq
   ·rename_i vs hvs
    split at hq
    ·rename_i v p hext
     simp only[sI,pI] at hq
     obtain⟨rfl,rfl,rfl⟩:=hq
     refine⟨?_,trivial⟩
     have hp:p:=hsd _ List.mem_cons_self
     obtain⟨e1,_⟩:=jT T _ hss
     have e2:c.args.map a.eval=vs.toArray:=by
      apply Array.ext'
      rw[Array.toList_map,e1,yI e ss hvs]
     have:=X.extOk f vs v p w' hext hp
     simp [execOp,ho,resolve,hc,e2,invoke,Deferred.ofValue,Act.eval,this,den]
    ·cases hq
   ·cases hq
  ·cases hq
 ·exact zW T hq
 ·cases hq
theorem qWx(T:zA n h.length tm e a)(S:yY F h e w){w':World}{o:Oper}{t:TypeId}{x:Operand}(ho:o.op=.sliceToArrayPointer t x)(hq:zMw P tm h D t x=some (s,sd,D')){M:Mem}(hsd:∀ x∈sd,x M):qBz P h e a w' o s:=by
 unfold zMw at hq
 split at hq
 ·rename_i nn el hu
  split at hq
  ·rename_i i off len cap hx
   simp only[sI,pI] at hq
   obtain⟨rfl,rfl,rfl⟩:=hq
   have hle:nn≤len:=hsd _ List.mem_cons_self
   refine⟨?_,(qH T hx).2⟩
   simp only[execOp,ho,(qH T hx).1,den,Instr.arrayAt,Sem.run_bind,run_underlying hu,Result.andThen_ok]
   rw[if_neg (by omega)]
   rfl
  ·rename_i oa len cap hx
   simp only[sI,pI] at hq
   obtain⟨rfl,rfl,rfl⟩:=hq
   have hle:nn≤len:=hsd _ List.mem_cons_self
   refine⟨?_,trivial⟩
   simp only[execOp,ho,(qH T hx).1,den,Instr.arrayAt,Sem.run_bind,run_underlying hu,Result.andThen_ok]
   rw[if_neg (by omega)]
   rfl
  ·rename_i i hx
   split at hq
   ·rename_i T1 sz m xs hr
    simp only[sI,pI] at hq
    obtain⟨rfl,rfl,rfl⟩:=hq
    obtain⟨hle,hpos⟩:nn≤m∧0<m:=hsd _ List.mem_cons_self
    refine⟨?_,(qH T hx).2⟩
    obtain⟨⟨_,hr2⟩,_⟩:=S.sat i _ hr
    rcases hr2 with ⟨hv,hn⟩ | ⟨g,cap,cur,hv,_⟩
    ·omega
    ·simp only[execOp,ho,(qH T hx).1,den,hv,Instr.arrayAt,Sem.run_bind,run_underlying hu,Result.andThen_ok]
     rw[if_neg (by omega)]
     rfl
   ·cases hq
  ·cases hq
 ·cases hq
theorem qNc(T:zA n h.length tm e a){w':World}{o:Oper}{x:Operand}{xT t:TypeId}{ok:Bool}(ho:o.op=.typeAssert x xT t ok)(hq:qQs P tm D o x t ok=some (s,sd,D')):qBz P h e a w' o s:=by
 unfold qQs at hq
 split at hq
 ·rename_i t1 v want hx hu
  split at hq
  ·rename_i hl
   simp only[sI,pI] at hq
   obtain⟨rfl,rfl,rfl⟩:=hq
   refine⟨?_,trivial⟩
   have:=run_typeAssert_hasB (P:=P) hu hl v xT w'
   simp [execOp,ho,zN T hx,this,den]
  ·rename_i hl
   split at hq
   ·rename_i z hz
    simp only[sI,pI] at hq
    obtain⟨rfl,rfl,rfl⟩:=hq
    refine⟨?_,trivial⟩
    have:=run_typeAssert_lacksB (P:=P) hu hl hz v xT w'
    simp [execOp,ho,zN T hx,this,den]
   ·cases hq
  ·cases hq
 ·exact zW T hq
theorem qVr(T:zA n h.length tm e a)(S:yY F h e w)(W:∀(i:Nat) (ho:HO),h[i]?=some ho→ho.ws h.length){o:Oper}(hq:xq P X tm h D o=some (s,sd,D'))(hsd:yE F sd)(w':World)(hS:(match o.op with | .load ..=>true | _=>false)=true→yY F h e w'):qBz P h e a w' o s:=by
 have hs:∀ x∈sd,x (mem w e h):=fun x hx=>hsd x hx _ S.fact
 unfold xq at hq
 split at hq
 ·rename_i x ho
  obtain⟨q1,q2⟩:=qEs T hq
  refine⟨?_,q2⟩
  simp only[execOp,ho,q1]
  rfl
 ·rename_i x ho
  obtain⟨q1,q2⟩:=qEs T hq
  refine⟨?_,q2⟩
  simp only[execOp,ho,q1]
  rfl
 ·rename_i ho; exact qSv T ho hq hs
 ·rename_i ho
  have S':=hS (by rw[ho])
  exact qTj T S' W ho hq (fun x hx=>hsd x hx _ S'.fact)
 ·rename_i ho; exact qWy T S ho hq hs
 ·rename_i ho; exact qHw T S ho hq hs
 ·rename_i ho; exact qIk T S ho hq hs
 ·rename_i ho; exact qQx T ho hq hs
 ·rename_i ho; exact qQm T ho hq
 ·rename_i ho; exact qMn T ho hq
 ·rename_i ho; exact qRp T ho hq
 ·rename_i f x1 c1 ho
  split at hq
  ·rename_i x y hx hy
   simp only[sI,pI] at hq
   obtain⟨rfl,rfl,rfl⟩:=hq
   obtain⟨q1,q2⟩:=jT T _ hx
   obtain⟨p1,p2⟩:=jT T _ hy
   refine⟨?_,q2,p2⟩
   have e1:x1.map a.eval=(qN e x).toArray:=by apply Array.ext'; rw[Array.toList_map,q1]
   have e2:c1.map a.eval=(qN e y).toArray:=by apply Array.ext'; rw[Array.toList_map,p1]
   simp only[execOp,ho,e1,e2,den,Instr.makeFunc]
   rfl
  ·cases hq
 ·rename_i ho; exact qRn T S ho hq
 ·rename_i ho
  split at hq
  ·rename_i r hr
   simp only[sI] at hq
   subst hq
   exact qVi T S ho hr hs
  ·exact qXm T ho hq hs
 ·rename_i ho; exact qQp T ho hq hs
 ·rename_i ho; exact qSw T S ho hq hs
 ·exact zW T hq
 ·exact zW T hq
 ·rename_i ho; exact qNc T ho hq
 ·rename_i ho; exact qWx T S ho hq hs
 ·cases hq
def asD:List Dec→Oper→Option (SV×List Dec)
 | .as t s::D',o=>match o.dst with
  | some d=>bif Nat.beq d t then some (s,D') else none
  | none=>none
 | _,_=>none
def xqa(P:Program)(X:Ext P)(tm:List (Nat×SV))(h:List HO)(D:List Dec)(o:Oper):QR :=
 match asD D o with
 | some (s,D')=>match xq P X tm h D' o with
  | some (x,sd,D2)=>match jR x,jR s with
   | some a,some b=>some (s,sd++[fun(_:Mem)=>a=b],D2)
   | _,_=>none
  | none=>none
 | none=>xq P X tm h D o
theorem qOp(T:zA n h.length tm e a)(S:yY F h e w)(W:∀(i:Nat) (ho:HO),h[i]?=some ho→ho.ws h.length){o:Oper}(hq:xqa P X tm h D o=some (s,sd,D'))(hsd:yE F sd)(w':World)(hS:(match o.op with | .load ..=>true | _=>false)=true→yY F h e w'):qBz P h e a w' o s:=by
 unfold xqa at hq
 split at hq
 ·split at hq
  ·rename_i x sd1 D2 hx
   split at hq
   ·rename_i u v hu hv
    simp only[sI,pI] at hq
    obtain⟨rfl,rfl,rfl⟩:=hq
    have hg:=qVr T S W hx (fun y hy=>hsd y (List.mem_append_left _ hy)) w' hS
    have heq:u=v:=hsd _ (List.mem_append_right _ List.mem_cons_self) _ S.fact
    refine⟨?_,qGk _ _ hv⟩
    rw[hg.1,jF e x hu,jF e _ hv,heq]
   ·cases hq
  ·cases hq
 ·exact qVr T S W hq hsd w' hS
end
end Go.Sx
/- append onto a row of the function's own, of whatever is appended. -/
namespace Go.Sx
open Go.RowKit

section
variable {P : Program} (w : World)
theorem qEy(t tx ty e:TypeId)(i:TypeInfo)(ht:P.underlying t=some (.slice e))(hi:P.info? e=some i)(g sLen sCap:Nat)(cur:Array Value)(hg:w.heap[g]?=some (.cells cur e (0,0)))(x:Value)(m:Nat)(news:List Value)(hs:Src P i.size tx x m news w)(hroom:sLen+m≤sCap)(hfit:sLen*i.size+news.length≤cur.size):
  (Builtin.append_ #[t,tx] ty #[.slice (some ⟨g,0,none⟩) sLen sCap,x]).run P w =
   .ok (.slice (some ⟨g,0,none⟩) (sLen+m) sCap) (w.setRow g (cur.toList.take (sLen*i.size)++news++cur.toList.drop (sLen*i.size+news.length)).toArray):=by
 have hst:=run_storeCells_at P g (sLen*i.size) e news 0 cur w hg (by simpa using hfit) hs.one
 simp only[Nat.add_zero] at hst
 rcases hs.kind with ⟨e',hk⟩ | hk <;> simp [Builtin.append_,run_underlying ht,run_underlying hk,sizeOf,typeInfo,hi,hs.len,hroom,hs.cells,Addr.add_lit,hst]
theorem qJk(need old:Nat)(h:old<need):Builtin.nextslicecap need old≤2*need:=by
 unfold Builtin.nextslicecap
 split
 ·omega
 ·split
  ·omega
  ·have key:∀(r c:Nat),c<2*need→256≤c→Builtin.growBy need r c≤2*need:=by
    intro r
    induction r with
    | zero=>intro c hc _; unfold Builtin.growBy; omega
    | succ r ih =>
     intro c hc h2
     unfold Builtin.growBy
     split
     ·omega
     ·by_cases hh:c+(c+768) / 4<2*need
      ·exact ih _ hh (by omega)
      ·have:Builtin.growBy need r (c+(c+768) / 4)=c+(c+768) / 4:=by
        cases r with
        | zero=>rfl
        | succ r=>unfold Builtin.growBy; rw[if_pos (by omega)]
       rw[this]
       omega
   exact key 4 old (by omega) (by omega)
theorem qEb(t tx ty e:TypeId)(i:TypeInfo)(z:Value)(ht:P.underlying t=some (.slice e))(hi:P.info? e=some i)(hz:i.zero=some z)(hzs:z.cells.size=i.size)(v:Value)(n:Nat)(xs:List Value)(hown:w.ownsRow 0 e i.size v n xs)(x:Value)(m:Nat)(news:List Value)(hs:Src P i.size tx x m news w)(hbytes:(n+m)*i.bytes≤140737488355328)(h63:n+m≤140737488355328):
  ∃ v' w',(Builtin.append_ #[t,tx] ty #[v,x]).run P w=.ok v' w'∧w'.ownsRow 0 e i.size v' (n+m) (xs++news)∧w.grownBy w' v.ownBlock∧(∀ b,v'.ownBlock=some b→w.heap.size≤b∨v.ownBlock=some b):=by
 have hlen:(xs++news).length=(n+m)*i.size:=by rw[List.length_append,hown.1,hs.newsLen,Nat.add_mul]
 have grow:∀(base:Option Addr) (old:Nat),(Builtin.firstCells i.size n (.slice base n old)).run P w.drew=.ok xs.toArray w.drew→old<n+m→∀ row,
   ∃ v' w',(Builtin.append_ #[t,tx] ty #[.slice base n old,x]).run P w=.ok v' w'∧w'.ownsRow 0 e i.size v' (n+m) (xs++news)∧w.grownBy w' row∧(∀ b,v'.ownBlock=some b→w.heap.size≤b):=by
  intro base old yE ho row
  have hcap:=qJk (n+m) old ho
  have hr:=run_append_grow_src (P:=P) w t tx ty e i z ht hi hz base n old xs yE x m news hs ho (by omega)
   (Nat.le_trans (Nat.mul_le_mul_right _ hcap) (by rw[Nat.mul_assoc]; omega))
  refine⟨_,_,hr,?_,?_,?_⟩
  ·have hge:=grownCap_ge w (n+m) old e
   have hcm:grownCap w (n+m) old e≤maxLen:=grownCap_le_maxLen w (n+m) old e (by unfold maxLen; omega)
   refine⟨hlen,.inr ⟨w.heap.size,_,_,rfl,Nat.zero_le _,heap_alloc_new w.drew _,hge,hcm,?_,?_⟩⟩
   ·simp only[Array.size_append,List.size_toArray,size_zeroCells,hzs,hlen,← Nat.add_mul]
    congr 1
    omega
   ·simp only[Array.toList_append]
    rw[← hlen]
    exact List.take_left
  ·exact⟨rfl,rfl,rfl,by simp,fun k hk _=>heap_alloc_old w.drew _ k hk⟩
  ·intro b hb
   simp only[Value.ownBlock,sI] at hb
   omega
 rcases hown.2 with ⟨rfl,rfl⟩ | ⟨g,cap,cur,rfl,hbg,hg,hnc,hcm,hcs,htake⟩
 ·have hx:xs=[]:=List.eq_nil_of_length_eq_zero (by simpa using hown.1)
  subst hx
  by_cases hm:m=0
  ·subst hm
   have hn:news=[]:=List.eq_nil_of_length_eq_zero (by simpa using hs.newsLen)
   subst hn
   refine⟨.slice none 0 0,w,?_,World.ownsRow_nil w 0 e i.size,⟨rfl,rfl,rfl,Nat.le_refl _,fun _ _ _=>rfl⟩,fun b hb=>by cases hb⟩
   rcases hs.kind with ⟨e',hk⟩ | hk <;> simp [Builtin.append_,run_underlying ht,run_underlying hk,sizeOf,typeInfo,hi,hs.len,hs.cells]
  ·obtain⟨v',w',r1,r2,r3,r4⟩:=grow none 0 (run_firstCells_none w.drew i.size 0 0 0) (by omega) (Value.ownBlock (.slice none 0 0))
   exact⟨v',w',r1,r2,r3,fun b hb=>.inl (r4 b hb)⟩
 ·by_cases hroom:n+m≤cap
  ·have hfit:n*i.size+news.length≤cur.size:=by
    rw[hs.newsLen,hcs,← Nat.add_mul]
    exact Nat.mul_le_mul_right _ hroom
   refine⟨_,_,qEy w t tx ty e i ht hi g n cap cur hg x m news hs hroom hfit,?_,?_,fun b hb=>.inr hb⟩
   ·refine⟨hlen,.inr ⟨g,cap,_,rfl,hbg,setRow_heap w g cur _ e (0,0) hg,hroom,hcm,?_,?_⟩⟩
    ·rw[← hcs]
     simp
     omega
    ·have hnl:(cur.toList.take (n*i.size)).length=n*i.size:=by
      rw[htake,hown.1]
     simp only[]
     rw[htake]
     have:(n+m)*i.size=(xs++news).length:=hlen.symm
     rw[this]
     exact List.take_left
   ·refine⟨rfl,rfl,rfl,by simp,fun k hk hne=>setRow_other w g k _ (fun hh=>hne (by subst hh; rfl))⟩
  ·have yE:(Builtin.firstCells i.size n (.slice (some ⟨g,0,none⟩) n cap)).run P w.drew=.ok xs.toArray w.drew:=by
    refine run_firstCells_some w.drew i.size n ⟨g,0,none⟩ n cap xs (by rw[hown.1]) ?_
    intro j u hu
    rw[World.cell?_drew]
    exact hown.cells rfl j u hu
   obtain⟨v',w',r1,r2,r3,r4⟩:=grow (some ⟨g,0,none⟩) cap yE (by omega) (Value.ownBlock (.slice (some ⟨g,0,none⟩) n cap))
   exact⟨v',w',r1,r2,r3,fun b hb=>.inl (r4 b hb)⟩
end
end Go.Sx
/- The operations that make or write memory. -/
namespace Go.Sx
open Go.RowKit

def Env.setB(e:Env)(i b:Nat):Env:=⟨fun j=>if j=i then b else e.blk j,e.row,e.val,e.one,e.z⟩
def Env.setR(e:Env)(i:Nat)(v:Value):Env:=⟨e.blk,fun j=>if j=i then v else e.row j,e.val,e.one,e.z⟩
def Env.setV(e:Env)(i:Nat)(f:yC→Value)(hf:∀ p,(f p).oneCell'=true):Env:=⟨e.blk,e.row,fun j=>if j=i then f else e.val j,fun j p=>by
 split
 ·exact hf p
 ·exact e.one j p,e.z⟩
theorem yW(e:Env)(i b:Nat):zD i e (e.setB i b):=⟨fun j hj=>⟨by simp [Env.setB,Nat.ne_of_lt hj],rfl,rfl⟩,rfl⟩
theorem zO(e:Env)(i:Nat)(v:Value):zD i e (e.setR i v):=⟨fun j hj=>⟨rfl,by simp [Env.setR,Nat.ne_of_lt hj],rfl⟩,rfl⟩
theorem jB(e:Env)(i:Nat)(f:yC→Value)(hf:∀ p,(f p).oneCell'=true):zD i e (e.setV i f hf):=⟨fun j hj=>⟨rfl,rfl,by simp [Env.setV,Nat.ne_of_lt hj]⟩,rfl⟩
def qJl(h:List HO):SV→Bool
 | .v (.agg _)=>false
 | .v (.tuple _)=>false
 | .v (.bool _)=>true
 | .v (.int _ _)=>true
 | .v (.string _)=>true
 | .v (.pointer _)=>true
 | .v (.slice _ _ _)=>true
 | .v (.map _)=>true
 | .v (.func _ _ _)=>true
 | .v .nilFunc=>true
 | .v (.iface _ _)=>true
 | .v .nilIface=>true
 | .v _=>false
 | .agg _=>false
 | .tup _=>false
 | .o i=>qJf h[i]?
 | _=>true
theorem qFp{F:Mem→Prop}{h:List HO}{e:Env}{w:World}(S:yY F h e w){s:SV}(ho:qJl h s=true):(den e s).oneCell'=true:=by
 cases s with
 | v x=>cases x <;> first | rfl | cases ho
 | o i =>
  obtain⟨oa,n,c,hv⟩:=wG S (i:=i) ho
  simp only[den,hv]
  rfl
 | q i off =>
  simp only[den]
  split <;> rfl
 | agg c=>cases ho
 | tup c=>cases ho
 | x i p=>exact e.one i p
 | xp i p sz k j =>
  simp only[den,qUr]
  split <;> rfl
 | qk i sz k j =>
  simp only[den,qAq]
  split <;> rfl
 | bl b=>rfl
 | p i off=>rfl
 | m i=>rfl
 | sl i off l c=>rfl
 | fn f a c=>rfl
 | ifc t y=>rfl
theorem qVg{F:Mem→Prop}{h:List HO}{e:Env}{w:World}(S:yY F h e w){l:List SV}(ho:l.all (qJl h)=true):∀ u∈qN e l,u.oneCell'=true:=by
 intro u hu
 rw[yM,List.mem_map] at hu
 obtain⟨s,hs,rfl⟩:=hu
 exact qFp S (List.all_eq_true.1 ho s hs)
def qMc(h:List HO)(s:SV):Option (qB×List zF) :=
 match s with
 | .x i p=>match h[i]? with
  | some (.ext false c0)=>match yF c0 p with
   | some c=>some (c,xC (pvs c0 p))
   | none=>none
  | _=>none
 | s=>match jR s with
  | some x=>bif qJl h (.v x) then some (.v x,[]) else none
  | none=>none
theorem qFt{M:Mem}{x:Value}(hx:x.oneCell'=true):yV M x (.v x):=⟨fun _=>x,fun _=>hx,rfl,rfl⟩
theorem qHo{M:Mem}{e:Env}{i:Nat}{c:qB}{p:yC}(h:wQ M (e.val i) c p):yV M (e.val i p) c :=
 ⟨fun q=>e.val i (p++q),fun q=>e.one i _,by simp,(xH (e.val i) p c []).2 (by simpa using h)⟩
theorem qGq{F:Mem→Prop}{h:List HO}{e:Env}{w:World}(S:yY F h e w){s:SV}{c:qB}{sd:List zF}(hc:qMc h s=some (c,sd))(hsd:∀ x∈sd,x (mem w e h)):
  yV ((mem w e h).sub e.z) (den e s) c∧(den e s).oneCell'=true:=by
 have key:∀ s0:SV,(match jR s0 with
  | some x=>bif qJl h (.v x) then some (qB.v x,([]:List zF)) else none
  | none=>none)=some (c,sd)→yV ((mem w e h).sub e.z) (den e s0) c∧(den e s0).oneCell'=true:=by
  intro s0 hh
  cases hp:jR s0 with
  | none=>rw[hp] at hh; cases hh
  | some x =>
   rw[hp] at hh
   simp only at hh
   cases ho:qJl h (.v x) with
   | false=>rw[ho] at hh; cases hh
   | true =>
    rw[ho] at hh
    simp only[cond_true,sI,pI] at hh
    obtain⟨rfl,rfl⟩:=hh
    rw[jF e s0 hp]
    have:=qFp S ho
    exact⟨qFt this,this⟩
 cases s with
 | x i p =>
  simp only[qMc] at hc
  split at hc
  ·rename_i c0 hi
   split at hc
   ·rename_i c1 hc1
    simp only[sI,pI] at hc
    obtain⟨rfl,rfl⟩:=hc
    exact⟨qHo (qJt S hi hc1 (zQ hsd)),e.one i p⟩
   ·cases hc
  ·cases hc
 | _=>exact key _ hc
def wJ(h:List HO):List SV→Option (List qB×List zF)
 | []=>some ([],[])
 | s::r=>match qMc h s,wJ h r with
  | some (c,s1),some (l,s2)=>some (c::l,s1++s2)
  | _,_=>none
theorem qBm{F:Mem→Prop}{h:List HO}{e:Env}{w:World}(S:yY F h e w):∀(l:List SV) {cs:List qB} {sd:List zF},wJ h l=some (cs,sd)→(∀ x∈sd,x (mem w e h)) →
  cs.length=l.length∧(∀(d:Nat) (c:qB),cs[d]?=some c→∃ u,(qN e l)[d]?=some u∧yV ((mem w e h).sub e.z) u c)∧∀ u∈qN e l,u.oneCell'=true
 | [],cs,sd,hc,_=>by
  simp only[wJ,sI,pI] at hc
  obtain⟨rfl,rfl⟩:=hc
  exact⟨rfl,fun d c hd=>(by cases hd),fun u hu=>(by cases hu)⟩
 | s::r,cs,sd,hc,hs=>by
  simp only[wJ] at hc
  split at hc
  ·rename_i c s1 l s2 h1 h2
   simp only[sI,pI] at hc
   obtain⟨rfl,rfl⟩:=hc
   obtain⟨a1,a2⟩:=qGq S h1 fun x hx=>hs x (List.mem_append_left _ hx)
   obtain⟨b1,b2,b3⟩:=qBm S r h2 fun x hx=>hs x (List.mem_append_right _ hx)
   refine⟨by simp [b1],fun d c' hd=>?_,fun u hu=>?_⟩
   ·cases d with
    | zero =>
     simp only[List.getElem?_cons_zero,sI] at hd
     subst hd
     exact⟨den e s,rfl,a1⟩
    | succ d=>exact b2 d c' (by simpa using hd)
   ·simp only[qN,List.mem_cons] at hu
    rcases hu with rfl | hu
    ·exact a2
    ·exact b3 u hu
  ·cases hc
abbrev LR:=Option (Option SV×List HO×List zF×List Dec)
def qYb(P:Program)(h:List HO)(D:List Dec)(T:TypeId):LR :=
 match qEx P (zeroValue T) with
 | some z=>some (some (.p h.length 0),h++[.cells (z.cells.toList.map SV.v) T],[],D)
 | none=>none
def zNi(tm:List (Nat×SV))(h:List HO)(D:List Dec)(T:TypeId)(x:Operand):LR :=
 match evO tm x with
 | some s=>match zM h s with
  | some cs=>some (some (.p h.length 0),h++[.cells cs T],[],D)
  | none=>none
 | none=>none
def qWo(P:Program)(tm:List (Nat×SV))(h:List HO)(D:List Dec)(T:TypeId)(x y:Operand):LR :=
 match evO tm y with
 | none=>none
 | some s=>match zM h s,jL P T with
  | some cs,some n=>bif Nat.beq cs.length n&&cs.all (qJl h) then
    match evO tm x with
    | some (.p i off)=>match h[i]? with
     | some (.cells old T0)=>some (none,h.set i (.cells (qMv old off cs) T0),[fun _=>off+cs.length≤old.length],D)
     | _=>none
    | some (.q i off)=>match h[i]? with
     | some (.row T0 sz nn old)=>some (none,h.set i (.row T0 sz nn (qMv old off cs)),[fun _=>0<old.length∧off+cs.length≤old.length],D)
     | _=>none
    | _=>none
   else none
  | _,_=>none
def qRt(hole:Option (Nat×Nat))(k:Nat):Prop :=
 match hole with
 | none=>True
 | some (k0,_)=>k=k0
def qRl(P:Program)(tm:List (Nat×SV))(h:List HO)(D:List Dec)(T:TypeId)(x y:Operand):LR :=
 match evO tm x,evO tm y with
 | some (.qk i sz k j),some (.o q)=>match h[i]?,jL P T with
  | some (.tbl T0 T1 sz1 n c hole),some len=>bif qJf h[q]?&&(Nat.beq sz 1&&(Nat.beq j 0&&Nat.beq len 1)) then
    some (none,h.set i (.tbl T0 T1 sz1 n c (some (k,q))),[fun _=>k<n,fun _=>qRt hole k],D)
   else none
  | _,_=>none
 | _,_=>none
def qKr(P:Program)(tm:List (Nat×SV))(h:List HO)(D:List Dec)(T:TypeId)(x y:Operand):LR :=
 match evO tm y with
 | none=>none
 | some s=>match zM h s,jL P T with
  | some cs,some n=>match wJ h cs with
   | some (l,sd)=>bif Nat.beq l.length n then
    match evO tm x with
    | some (.qk i sz k j)=>match h[i]? with
     | some (.rowc T0 sz' nn c)=>bif Nat.beq sz sz'&&Nat.ble (j+l.length) sz then some (none,h.set i (.rowc T0 sz nn (.upd c k j l)),sd++xC [k<nn],D) else none
     | _=>none
    | _=>none
    else none
   | none=>none
  | _,_=>none
def qRd(P:Program)(tm:List (Nat×SV))(h:List HO)(D:List Dec)(T:TypeId)(x y:Operand):LR :=
 match qRl P tm h D T x y with
 | some r=>some r
 | none=>qKr P tm h D T x y
def qDz(P:Program)(tm:List (Nat×SV))(h:List HO)(D:List Dec)(t:TypeId)(len:Nat)(parts:Array (Nat×Operand)):LR :=
 match P.underlying t,qEu tm parts.toList with
 | some (.slice el),some ps=>match jL P el,qEx P (zeroValue el) with
  | some sz,some z =>
   bif Nat.ble (len*sz) 16777216&&Nat.ble len 16777216 then
    match qLl h (fun i=>some (i*sz,sz)) (((Array.range (len*sz)).map fun j=>(if len*sz=0 then(#[]:Array Value) else z.cells)[j%(if len*sz=0 then(#[]:Array Value) else z.cells).size]!).toList.map SV.v) ps with
    | some cs=>bif cs.all (qJl h)&&Nat.beq cs.length (len*sz) then some (some (.o h.length),h++[.row el sz len cs],[],D) else none
    | none=>none
   else none
  | _,_=>none
 | _,_=>none
section
variable {P : Program} {F : Mem → Prop} {w0 : wO} {tm : List (Nat × SV)} {n : Nat} {h h' : List HO} {e : Env} {a : Act} {w : World} {D D' : List Dec} {r : Option SV} {sd : List zF}

def yN(o:Oper):Bool :=
 match o.op with
 | .alloc _=>true
 | .box ..=>true
 | .buildSlice ..=>true
 | .slice ..=>true
 | .makeSlice ..=>true
 | .range ..=>true
 | .load ..=>true
 | .move _=>true
 | .assign _=>true
 | .pick ..=>true
 | .fieldAddr ..=>true
 | .indexAddr ..=>true
 | .index ..=>true
 | .field ..=>true
 | .extract ..=>true
 | .makeInterface ..=>true
 | .makeFunc ..=>true
 | .build ..=>true
 | .binOp ..=>true
 | .unOp ..=>true
 | .typeAssert ..=>true
 | .lookup ..=>true
 | _=>false
def qJg(w w':World):Prop:=∀ b,b<w.heap.size→w'.heap[b]?=w.heap[b]?
def yS(P:Program)(F:Mem→Prop)(w0:wO)(h h':List HO)(e:Env)(a:Act)(w:World)(o:Oper)(r:Option SV):Prop :=
  ∃ e' w',zD h.length e e'∧h.length≤h'.length∧qP F w0 h' e' w'∧(yN o=true→qJg w w') ∧
    (match r with
     | some s=>(execOp a.eval o).run P w=.ok (.value (den e' s)) w'∧ws h'.length s
     | none=>(execOp a.eval o).run P w=.ok .skip w')
theorem qP.newCells(hF:zP F)(S:qP F w0 h e w)(cs:List SV)(T:TypeId)(hw:wsL h.length cs):
  qP F w0 (h++[.cells cs T]) (e.setB h.length w.heap.size) (w.alloc (.cells (qN e cs).toArray T)):=by
 refine S.next hF h.length (.cells cs T) (by simp) (by simp) (yW e _ _) ?_ ?_ none (by simp) ?_ ?_ ?_ ?_ ?_ ?_ rfl rfl rfl
 ·intro i ho hi hi'
  refine .inl ?_
  rw[List.getElem?_append] at hi'
  split at hi'
  ·exact hi'
  ·rename_i hlt
   have:i-h.length≠0:=by omega
   cases hk:i-h.length with
   | zero=>omega
   | succ k=>rw[hk] at hi'; simp at hi'
 ·intro i ho _ hi
  refine .inl ?_
  rw[List.getElem?_append_left (List.getElem?_eq_some_iff.1 hi).1]
  exact hi
 ·intro ho b hi _
  have:=(List.getElem?_eq_some_iff.1 hi).1
  omega
 ·intro _
  simp only[HO.sat]
  show(w.alloc (.cells (qN e cs).toArray T)).heap[if h.length=h.length then w.heap.size else e.blk h.length]?=_
  rw[if_pos rfl,heap_alloc_new]
  have:qN (e.setB h.length w.heap.size) cs=qN e cs:=jW (yW e h.length w.heap.size) cs hw
  rw[this]
 ·exact xE (by simp) cs hw
 ·intro b hb
  simp only[HO.own,Env.setB,if_true] at hb
  exact .inl (by omega)
 ·intro b hb _
  exact heap_alloc_old w _ b hb
 ·simp
theorem qP.newRow(hF:zP F)(S:qP F w0 h e w){w':World}(T:TypeId)(sz nn:Nat)(cs:List SV)(v:Value)(hw:wsL h.length cs)(hr:w'.ownsRow 0 T sz v nn (qN e cs))(h1:∀ u∈qN e cs,u.oneCell'=true)(hfr:∀ b,v.ownBlock=some b→w.heap.size≤b)(hg:w.grownBy w' none):qP F w0 (h++[.row T sz nn cs]) (e.setR h.length v) w':=by
 have hag:=zO e h.length v
 refine S.next hF h.length (.row T sz nn cs) (by simp) (by simp) hag ?_ ?_ none (by simp) ?_ ?_ ?_ ?_ ?_ ?_ hg.os hg.tape hg.output
 ·intro i ho hi hi'
  refine .inl ?_
  rw[List.getElem?_append] at hi'
  split at hi'
  ·exact hi'
  ·rename_i hlt
   cases hk:i-h.length with
   | zero=>omega
   | succ k=>rw[hk] at hi'; simp at hi'
 ·intro i ho _ hi
  refine .inl ?_
  rw[List.getElem?_append_left (List.getElem?_eq_some_iff.1 hi).1]
  exact hi
 ·intro ho b hi _
  have:=(List.getElem?_eq_some_iff.1 hi).1
  omega
 ·intro _
  simp only[HO.sat,jW hag cs hw]
  have:(e.setR h.length v).row h.length=v:=by simp [Env.setR]
  rw[this]
  exact⟨hr,h1⟩
 ·exact xE (by simp) cs hw
 ·intro b hb
  have:(e.setR h.length v).row h.length=v:=by simp [Env.setR]
  simp only[HO.own,this] at hb
  exact .inl (hfr b hb)
 ·intro b hb _
  exact hg.block b hb (by simp)
 ·exact hg.size
theorem qP.newRowc(hF:zP F)(S:qP F w0 h e w){w':World}(T:TypeId)(sz nn:Nat)(c:Ct)(v:Value)(hr:(mem w e h).le (mem w' (e.setR h.length v) (h++[.rowc T sz nn c]))→∃ qR,w'.ownsRow 0 T sz v nn qR∧(∀ u∈qR,u.oneCell'=true)∧yA ((mem w' (e.setR h.length v) (h++[.rowc T sz nn c])).sub e.z) sz nn c.at qR)(hfr:∀ b,v.ownBlock=some b→w.heap.size≤b)(hg:w.grownBy w' none):qP F w0 (h++[.rowc T sz nn c]) (e.setR h.length v) w':=by
 have hag:=zO e h.length v
 have hrow:(e.setR h.length v).row h.length=v:=by simp [Env.setR]
 refine S.next hF h.length (.rowc T sz nn c) (by simp) (by simp) hag ?_ ?_ none (by simp) ?_ ?_ trivial ?_ ?_ ?_ hg.os hg.tape hg.output
 ·intro i ho hi hi'
  refine .inl ?_
  rw[List.getElem?_append] at hi'
  split at hi'
  ·exact hi'
  ·rename_i hlt
   cases hk:i-h.length with
   | zero=>omega
   | succ k=>rw[hk] at hi'; simp at hi'
 ·intro i ho _ hi
  refine .inl ?_
  rw[List.getElem?_append_left (List.getElem?_eq_some_iff.1 hi).1]
  exact hi
 ·intro ho b hi _
  have:=(List.getElem?_eq_some_iff.1 hi).1
  omega
 ·intro hM
  simp only[HO.sat,hrow]
  exact hr hM
 ·intro b hb
  simp only[HO.own,hrow] at hb
  exact .inl (hfr b hb)
 ·intro b hb _
  exact hg.block b hb (by simp)
 ·exact hg.size
theorem qQu(hF:zP F)(S:qP F w0 h e w){o:Oper}{T0:TypeId}(ho:o.op=.alloc T0)(hq:qYb P h D T0=some (r,h',sd,D')):yS P F w0 h h' e a w o r:=by
 unfold qYb at hq
 split at hq
 ·rename_i z hz
  simp only[sI,pI] at hq
  obtain⟨rfl,rfl,rfl,rfl⟩:=hq
  refine⟨_,_,yW e h.length w.heap.size,by simp,S.newCells hF (z.cells.toList.map SV.v) T0 (qDq _ _),fun _ b hb=>heap_alloc_old w _ b hb,?_,?_⟩
  ·simp only[execOp,ho,Instr.alloc,Sem.run_bind,jK hz w,Result.andThen_ok,newVar,newRow,run_newObj,Sem.run_pure,den,Env.setB,if_true,qAd,Array.toArray_toList]
   rfl
  ·simp [ws]
 ·cases hq
theorem qXl(hF:zP F)(T:zA n h.length tm e a)(S:qP F w0 h e w){o:Oper}{T0:TypeId}{x:Operand}(ho:o.op=.box T0 x)(hq:zNi tm h D T0 x=some (r,h',sd,D')):yS P F w0 h h' e a w o r:=by
 unfold zNi at hq
 split at hq
 ·rename_i s hx
  split at hq
  ·rename_i cs hcs
   simp only[sI,pI] at hq
   obtain⟨rfl,rfl,rfl,rfl⟩:=hq
   obtain⟨c1,c2⟩:=xG S.q hcs
   refine⟨_,_,yW e h.length w.heap.size,by simp,S.newCells hF cs T0 (c2 _ (qH T hx).2),fun _ b hb=>heap_alloc_old w _ b hb,?_,?_⟩
   ·simp only[execOp,ho,(qH T hx).1,Instr.box,newVar,newRow,c1,Sem.run_bind,run_newObj,Result.andThen_ok,Sem.run_pure,den,Env.setB,if_true]
    rfl
   ·simp [ws]
  ·cases hq
 ·cases hq
theorem qGj(hF:zP F)(T:zA n h.length tm e a)(S:qP F w0 h e w){o:Oper}{t:TypeId}{len:Nat}{parts:Array (Nat×Operand)}(ho:o.op=.buildSlice t len parts)(hq:qDz P tm h D t len parts=some (r,h',sd,D')):yS P F w0 h h' e a w o r:=by
 unfold qDz at hq
 split at hq
 ·rename_i el ps hu hps
  split at hq
  ·rename_i sz z hsz hz
   cases hb:Nat.ble (len*sz) 16777216&&Nat.ble len 16777216 with
   | false=>rw[hb] at hq; cases hq
   | true =>
    rw[hb] at hq
    simp only[cond_true] at hq
    rw[Bool.and_eq_true] at hb
    have b1:=Nat.le_of_ble_eq_true hb.1
    have b2:=Nat.le_of_ble_eq_true hb.2
    split at hq
    ·rename_i cs hcs
     cases hb2:cs.all (qJl h)&&Nat.beq cs.length (len*sz) with
     | false=>rw[hb2] at hq; cases hq
     | true =>
      rw[hb2] at hq
      simp only[cond_true,sI,pI] at hq
      obtain⟨rfl,rfl,rfl,rfl⟩:=hq
      rw[Bool.and_eq_true] at hb2
      have hlen:=Nat.eq_of_beq_eq_true hb2.2
      obtain⟨p1,p2⟩:=qBq T parts.toList hps
      have hparts:(parts.map fun(x:Nat×Operand)=>(x.1,a.eval x.2)).toList=ps.map fun x=>(x.1,den e x.2):=by
       rw[Array.toList_map]; exact p1
      obtain⟨f1,f2⟩:=qBd S.q h.length _ ps _ hcs (qDq _ _) p2
      rw[qAd,Array.toArray_toList] at f1
      refine⟨_,_,zO e h.length (.slice (some ⟨w.heap.size,0,none⟩) len len),by simp,S.newRow hF (w':=w.alloc (.cells (qN e cs).toArray el)) el sz len cs _ f2 ?_ (qVg S.q hb2.1) ?_ (World.grownBy_alloc w _ none),fun _ b hb=>heap_alloc_old w _ b hb,?_,?_⟩
      ·have:=World.ownsRow_lit (base:=0) (e:=el) (size:=sz) w (qN e cs).toArray len (Nat.zero_le _) (by unfold maxLen; omega) (by simp [qS,hlen])
       simpa using this
      ·intro b hb
       simp only[Value.ownBlock,sI] at hb
       omega
      ·have hbig:¬ len*sz>2^24:=by omega
       have e1:(execOp a.eval o).run P w=((do let x ← Instr.buildSlice t len (parts.map fun(x:Nat×Operand)=>(x.1,a.eval x.2)); pure (Next.value x):Sem Next)).run P w:=by
        simp only[execOp,ho]
       rw[e1]
       simp only[Instr.buildSlice,hparts]
       by_cases hz0:len*sz=0
       ·have hb0:¬ (0>2^24):=by omega
        simp only[hz0,if_true] at f1
        simp only[hb0,if_false,Sem.run_bind,run_underlying hu,Result.andThen_ok,zI hsz,Sem.run_pure,hz0,if_true,f1,newRow,run_newObj,den,Env.setR]
        rfl
       ·simp only[hz0,if_false] at f1
        simp only[Sem.run_bind,run_underlying hu,Result.andThen_ok,zI hsz,Sem.run_pure,hz0,if_false,hbig,jK hz w,f1,newRow,run_newObj,den,Env.setR]
        rfl
      ·simp [ws]
    ·cases hq
  ·cases hq
 ·cases hq
end
end Go.Sx
/- Stores, appends, makes, iterators over strings. -/
namespace Go.Sx
open Go.RowKit

section
variable {P : Program} {F : Mem → Prop} {w0 : wO} {tm : List (Nat × SV)} {n : Nat} {h h' : List HO} {e : Env} {a : Act} {w : World} {D D' : List Dec} {r : Option SV} {sd : List zF}

theorem wK{h:List HO}{i j:Nat}{x ho:HO}(hij:j≠i)(hj:(h.set i x)[j]?=some ho):h[j]?=some ho:=by
 rw[List.getElem?_set_ne (Ne.symm hij)] at hj; exact hj
theorem qP.turn(hF:zP F)(S:qP F w0 h e w){i:Nat}{old ho:HO}(hi:h[i]?=some old){w':World}(b:Nat)(hob:∀ b',old.own e i b'↔b=b')(hob':∀ b',ho.own e i b'↔b=b')(hs:(mem w e h).le (mem w' e (h.set i ho))→ho.sat e (mem w' e (h.set i ho)) i w')(hw:ho.ws h.length)(hfr:∀ k,k<w.heap.size→k≠b→w'.heap[k]?=w.heap[k]?)(hsize:w.heap.size≤w'.heap.size)(hos:w'.os=w.os)(ht:w'.tape=w.tape)(hout:w'.output=w.output):
  qP F w0 (h.set i ho) e w':=by
 have hlt:i<h.length:=(List.getElem?_eq_some_iff.1 hi).1
 refine S.next hF i ho (by simp) (by simp [hlt]) (zD.refl _ _) ?_ ?_ (some b) ?_ ?_ hs (HO.ws_mono (by simp) hw) ?_ ?_ hsize hos ht hout
 ·intro j x hj hx
  exact .inl (wK hj hx)
 ·intro j x hj hx
  refine .inl ?_
  rw[List.getElem?_set_ne (Ne.symm hj)]
  exact hx
 ·intro b' hb'
  simp only[sI] at hb'
  subst hb'
  exact⟨i,old,hi,(hob _).2 rfl,.inl rfl⟩
 ·intro x b' hx hb'
  rw[hi] at hx
  cases hx
  rw[hob] at hb'
  exact⟨by rw[hb'],(hob' _).2 hb'⟩
 ·intro b' hb'
  rw[hob'] at hb'
  exact .inr (by rw[hb'])
 ·intro k hk hne
  exact hfr k hk (fun hh=>hne (by rw[hh]))
theorem qQq(hF:zP F)(T:zA n h.length tm e a)(S:qP F w0 h e w){o:Oper}{T0:TypeId}{x y:Operand}(ho:o.op=.store T0 x y)(hq:qWo P tm h D T0 x y=some (r,h',sd,D'))(hsd:∀ x∈sd,x (mem w e h)):yS P F w0 h h' e a w o r:=by
 unfold qWo at hq
 split at hq
 ·cases hq
 ·rename_i s hy
  split at hq
  ·rename_i cs k hcs hk
   cases hb:Nat.beq cs.length k&&cs.all (qJl h) with
   | false=>rw[hb] at hq; cases hq
   | true =>
    rw[hb] at hq
    simp only[cond_true] at hq
    rw[Bool.and_eq_true] at hb
    have hlen:=Nat.eq_of_beq_eq_true hb.1
    obtain⟨c1,c2⟩:=xG S.q hcs
    have hws:=c2 _ (qH T hy).2
    have hone:=qVg S.q hb.2
    have hrun:∀(g off:Nat) (cur:Array Value) (t:TypeId),w.heap[g]?=some (.cells cur t (0,0))→off+cs.length≤cur.size →
      (Instr.storeAt T0 (.pointer (some ⟨g,off,none⟩)) (den e s)).run P w=.ok () (w.setRow g (cur.toList.take off++qN e cs++cur.toList.drop (off+(qN e cs).length)).toArray):=by
     intro g off cur t hg hle
     have hst:=run_storeCells_at P g off t (qN e cs) 0 cur w hg (by simpa[qS] using hle) hone
     simp only[Nat.add_zero] at hst
     simp [Instr.storeAt,Instr.sureAddr,storeVar,c1,qS,hlen,zI hk w,hst]
    split at hq
    ·rename_i i off hx
     split at hq
     ·rename_i old T1 hi
      simp only[sI,pI] at hq
      obtain⟨rfl,rfl,rfl,rfl⟩:=hq
      have hle:off+cs.length≤old.length:=hsd _ List.mem_cons_self
      have hg:=S.sat i _ hi
      simp only[HO.sat] at hg
      have hr:=hrun (e.blk i) off (qN e old).toArray T1 hg (by simpa[qS] using hle)
      refine⟨e,_,zD.refl _ _,by simp,S.turn hF hi (e.blk i) (fun _=>Iff.rfl) (fun _=>Iff.rfl) (w':=w.setRow (e.blk i) (qN e (qMv old off cs)).toArray) ?_ (qKg (S.ws i _ hi) hws) (fun k _ hne=>setRow_other w _ k _ hne) (by simp) rfl rfl rfl,(fun hk=>by rw[yN,ho] at hk; cases hk),?_⟩
      ·intro _
       simp only[HO.sat]
       exact setRow_heap w _ _ _ T1 (0,0) hg
      ·simp only[execOp,ho,(qH T hx).1,(qH T hy).1]
       rw[Sem.run_bind]
       simp only[den]
       rw[hr]
       simp only[qEp]
       rfl
     ·cases hq
    ·rename_i i off hx
     split at hq
     ·rename_i T1 sz nn old hi
      simp only[sI,pI] at hq
      obtain⟨rfl,rfl,rfl,rfl⟩:=hq
      have hside:0<old.length∧off+cs.length≤old.length:=hsd _ List.mem_cons_self
      obtain⟨hpos,hle⟩:=hside
      obtain⟨⟨h1,h2⟩,h3⟩:=S.sat i _ hi
      rcases h2 with ⟨_,hn⟩ | ⟨g,cap,cur,hv,hbg,hg,hnc,hcm,hcs',ht⟩
      ·subst hn
       rw[qS] at h1
       omega
      ·have hsz:nn*sz≤cur.size:=by rw[hcs']; exact Nat.mul_le_mul_right _ hnc
       have yE:old.length=nn*sz:=by rw[← h1,qS]
       have hr:=hrun g off cur T1 hg (by omega)
       have hown:∀ b',(HO.row T1 sz nn old).own e i b'↔g=b':=by intro b'; simp [HO.own,hv,Value.ownBlock]
       refine⟨e,_,zD.refl _ _,by simp,S.turn hF hi g hown (by simpa[HO.own] using hown) (w':=w.setRow g (cur.toList.take off++qN e cs++cur.toList.drop (off+(qN e cs).length)).toArray) ?_ (qKg (S.ws i _ hi) hws) (fun k _ hne=>setRow_other w _ k _ hne) (by simp) rfl rfl rfl,(fun hk=>by rw[yN,ho] at hk; cases hk),?_⟩
       ·intro _
        refine⟨⟨by rw[qS,qUq hle,← qS e,h1],.inr ⟨g,cap,_,hv,hbg,setRow_heap w g cur _ T1 (0,0) hg,hnc,hcm,?_,?_⟩⟩,?_⟩
        ·simp [qS]
         omega
        ·rw[qEp,← ht]
         simp only[]
         rw[qS]
         rw[List.take_append,List.take_append]
         simp only[List.length_append,List.length_take,Array.length_toList,qS,List.take_take,List.drop_take]
         have e1:min off cur.size=off:=by omega
         have e2:min (nn*sz) off=off:=by omega
         have e3:min off (nn*sz)=off:=by omega
         rw[e1,e2,e3]
         congr 1
         congr 1
         rw[List.take_of_length_le (by rw[qS]; omega)]
        ·intro u hu
         rw[qEp,List.mem_append,List.mem_append] at hu
         rcases hu with (hu | hu) | hu
         ·exact h3 u (List.mem_of_mem_take hu)
         ·exact hone u hu
         ·exact h3 u (List.mem_of_mem_drop hu)
       ·simp only[execOp,ho,(qH T hx).1,(qH T hy).1]
        rw[Sem.run_bind]
        simp only[den,hv]
        rw[hr]
        rfl
     ·cases hq
    ·cases hq
  ·cases hq


/-! ### rows of known content -/
def qJc(n sz:Nat)(g:Nat→Nat→Value):List Value:=(List.range n).flatMap fun k=>(List.range sz).map (g k)
theorem qCw(n sz:Nat)(g:Nat→Nat→Value):(qJc n sz g).length=n*sz:=by
 induction n with
 | zero=>simp [qJc]
 | succ n ih =>
  unfold qJc at ih ⊢
  rw[List.range_succ,List.flatMap_append,List.length_append,ih]
  simp [Nat.add_mul]
theorem qFj{k n j sz:Nat}(hk:k<n)(hj:j<sz):k*sz+j<n*sz:=by
 have:(k+1)*sz≤n*sz:=Nat.mul_le_mul_right _ hk
 rw[Nat.add_mul] at this
 omega
theorem qIg{sz:Nat}(g:Nat→Nat→Value):∀ {n k j:Nat},k<n→j<sz→(qJc n sz g)[k*sz+j]?=some (g k j)
 | n+1,k,j,hk,hj=>by
  have hl:=qCw n sz g
  unfold qJc at hl ⊢
  rw[List.range_succ,List.flatMap_append]
  by_cases h:k<n
  ·rw[List.getElem?_append_left (by rw[hl]; exact qFj h hj)]
   exact qIg g h hj
  ·have:k=n:=by omega
   subst this
   rw[List.getElem?_append_right (by rw[hl]; omega),hl,show k*sz+j-k*sz=j by omega]
   simp [hj]
theorem zAt{sz n:Nat}{g:Nat→Nat→Value}{u:Value}(h:u∈qJc n sz g):∃ k j,k<n∧j<sz∧u=g k j:=by
 unfold qJc at h
 rw[List.mem_flatMap] at h
 obtain⟨k,hk,hu⟩:=h
 rw[List.mem_map] at hu
 obtain⟨j,hj,rfl⟩:=hu
 exact⟨k,j,by simpa using hk,by simpa using hj,rfl⟩
theorem zGf{d sz n:Nat}(h:d<n*sz):∃ k j,k<n∧j<sz∧d=k*sz+j:=by
 have h0:0<sz:=by
  rcases Nat.eq_zero_or_pos sz with h0 | h0
  ·subst h0; omega
  ·exact h0
 refine⟨d / sz,d%sz,?_,Nat.mod_lt _ h0,?_⟩
 ·rw[Nat.div_lt_iff_lt_mul h0]; exact h
 ·rw[Nat.mul_comm]; exact(Nat.div_add_mod d sz).symm
theorem xV{M:Mem}{v:Value}{n sz:Nat}{c:Nat→Nat→qB}{qR:List Value}(oa:Option Addr)(cap:Nat)(hv:v=.slice oa n cap)(hcap:n≤cap)(hc:n=0∨∃ ad,oa=some ad∧∀ d u,d<n*sz→qR[d]?=some u→M.cell? (ad.add d)=some u)(hr:yA M sz n c qR):yV M v (.s false sz n c):=by
 classical
 let f:yC→Value:=fun p=>match p with
  | []=>v
  | (s',k,j)::q=>if h:k<n∧j<sz∧s'=sz then Classical.choose (Classical.choose_spec (hr k h.1 j h.2.1)).2 q else .nilFunc
 have hf:∀ k (hk:k<n) j (hj:j<sz),∃ u,qR[k*sz+j]?=some u∧f [(sz,k,j)]=u∧(∀ q,(f ((sz,k,j)::q)).oneCell'=true)∧wQ M (fun q=>f ([(sz,k,j)]++q)) (c k j) []:=by
  intro k hk j hj
  have h:k<n∧j<sz∧sz=sz:=⟨hk,hj,rfl⟩
  have h1:=Classical.choose_spec (hr k hk j hj)
  obtain⟨h2,h3,h4⟩:=Classical.choose_spec h1.2
  have e1:∀ q,f ((sz,k,j)::q)=Classical.choose h1.2 q:=fun q=>by
   show(if h:k<n∧j<sz∧sz=sz then _ else _)=_
   rw[dif_pos h]
  refine⟨_,h1.1,by rw[e1]; exact h3,fun q=>by rw[e1]; exact h2 q,?_⟩
  have e2:(fun q=>f ([(sz,k,j)]++q))=Classical.choose h1.2:=funext e1
  rw[e2]
  exact h4
 refine⟨f,?_,rfl,?_⟩
 ·intro p
  match p with
  | []=>show v.oneCell'=true; rw[hv]; rfl
  | (s',k,j)::q =>
   by_cases h:k<n∧j<sz∧s'=sz
   ·obtain⟨hk,hj,rfl⟩:=h
    obtain⟨_,_,_,h3,_⟩:=hf k hk j hj
    exact h3 q
   ·have e3:f ((s',k,j)::q)=.nilFunc:=dif_neg h
    rw[e3]; rfl
 ·simp only[wQ]
  refine⟨oa,⟨cap,hv,hcap⟩,?_⟩
  rcases hc with h0 | ⟨ad,rfl,hc⟩
  ·exact .inl h0
  ·refine .inr ⟨ad,rfl,fun k hk j hj=>?_⟩
   obtain⟨u,h1,h2,_,h4⟩:=hf k hk j hj
   rw[List.nil_append,h2]
   refine⟨hc _ u (qFj hk hj) h1,?_⟩
   have:=(xH f [(sz,k,j)] (c k j) []).1 h4
   simpa using this
theorem qRk{F:Mem→Prop}{h:List HO}{e:Env}{w:World}(S:yY F h e w){xs:List SV}{l:List qB}{sd:List zF}(hc:wJ h xs=some (l,sd))(hsd:∀ x∈sd,x (mem w e h)){sz n:Nat}(hl:(qN e xs).length=n*sz):
  yA ((mem w e h).sub e.z) sz n (lc sz l) (qN e xs):=by
 obtain⟨a1,a2,_⟩:=qBm S xs hc hsd
 intro k hk j hj
 have hlt:k*sz+j<l.length:=by rw[a1,← qS e,hl]; exact qFj hk hj
 obtain⟨u,h1,h2⟩:=a2 (k*sz+j) l[k*sz+j] (List.getElem?_eq_getElem hlt)
 refine⟨u,h1,?_⟩
 unfold lc
 rw[List.getD_eq_getElem?_getD,List.getElem?_eq_getElem hlt]
 exact h2
theorem qP.drop(hF:zP F)(S:qP F w0 h e w)(j:Nat)(hj:j<h.length):qP F w0 (h.set j .gone) e w∧(mem w e h).le (mem w e (h.set j .gone)):=by
 have hle:(mem w e h).le (mem w e (h.set j .gone)):=by
  intro b o hb
  unfold mem at hb ⊢
  split at hb
  ·cases hb
  ·rename_i hno
   rw[if_neg,hb]
   rintro⟨i,ho,hi,hob⟩
   by_cases hij:i=j
   ·subst hij
    simp [hj] at hi
    subst hi
    simp [HO.own] at hob
   ·rw[List.getElem?_set_ne (Ne.symm hij)] at hi
    exact hno ⟨i,ho,hi,hob⟩
 have old:∀ i ho,(h.set j .gone)[i]?=some ho→ho=.gone∨(i≠j∧h[i]?=some ho):=by
  intro i ho hi
  by_cases hij:i=j
  ·subst hij; simp [hj] at hi; exact .inl hi.symm
  ·exact .inr ⟨hij,wK hij hi⟩
 refine⟨⟨S.os,S.tape,S.output,fun i ho hi=>?_,fun i ho hi=>?_,fun i j2 ho ho' b hi hj2 hb hb'=>?_,hF _ _ hle S.fact,fun i ho b hi hb=>?_,S.zlt,S.ez,by rw[List.length_set]; exact S.pin⟩,hle⟩
 ·rcases old i ho hi with rfl | ⟨_,hi⟩
  ·trivial
  ·exact HO.sat_keep hle (List.getElem?_eq_some_iff.1 hi).1 (zD.refl _ _) (S.ws i ho hi) (S.sat i ho hi) fun _ _=>rfl
 ·rw[List.length_set]
  rcases old i ho hi with rfl | ⟨_,hi⟩
  ·trivial
  ·exact S.ws i ho hi
 ·rcases old i ho hi with rfl | ⟨_,hi⟩
  ·simp [HO.own] at hb
  ·rcases old j2 ho' hj2 with rfl | ⟨_,hj2⟩
   ·simp [HO.own] at hb'
   ·exact S.one i j2 ho ho' b hi hj2 hb hb'
 ·rcases old i ho hi with rfl | ⟨_,hi⟩
  ·simp [HO.own] at hb
  ·exact S.nz i ho b hi hb
theorem qKm(S:qP F w0 h e w){j:Nat}{ho:HO}{b:Nat}(hj:h[j]?=some ho)(hb:ho.own e j b):¬ xO e (h.set j .gone) b:=by
 rintro⟨i,ho2,hi,hob⟩
 by_cases hij:i=j
 ·subst hij
  have:=(List.getElem?_eq_some_iff.1 hj).1
  simp [this] at hi
  subst hi
  simp [HO.own] at hob
 ·rw[List.getElem?_set_ne (Ne.symm hij)] at hi
  exact hij (S.one i j ho2 ho b hi hj hob hb)
theorem qP.frozen(S:qP F w0 h e w){j:Nat}{ho:HO}(hj:h[j]?=some ho)(hown:ho.own e j=fun b=>(e.row j).ownBlock=some b){T:TypeId}{sz n:Nat}{c:Nat→Nat→qB}{qR:List Value}(h1:w.ownsRow 0 T sz (e.row j) n qR)(hle:(mem w e h).le (mem w e (h.set j .gone)))(h2:yA ((mem w e h).sub e.z) sz n c qR):yV ((mem w e (h.set j .gone)).sub e.z) (e.row j) (.s false sz n c):=by
 obtain⟨hl,h1⟩:=h1
 rcases h1 with ⟨hv,hn⟩ | ⟨g,cap,cur,hv,_,hg,hnc,_,hcs,ht⟩
 ·subst hn
  exact xV none 0 hv (Nat.le_refl _) (.inl rfl) (qY (Mem.sub_mono hle _) h2)
 ·refine xV (some ⟨g,0,none⟩) cap hv hnc (.inr ⟨_,rfl,fun d u hd hu=>?_⟩) (qY (Mem.sub_mono hle _) h2)
  have hb:((mem w e (h.set j .gone)).sub e.z) g=some (.cells cur T (0,0)):=by
   unfold Mem.sub
   rw[if_neg (S.nz j ho g hj (by rw[hown]; show(e.row j).ownBlock=some g; rw[hv]; rfl))]
   unfold mem
   rw[if_neg (qKm S hj (by rw[hown]; show(e.row j).ownBlock=some g; rw[hv]; rfl))]
   exact hg
  rw[Addr.add_lit]
  unfold Mem.cell?
  simp only[hb]
  rw[← ht,List.getElem?_take,if_pos hd] at hu
  simpa using hu
def frz(h:List HO):List SV→Option (List qB×List zF×List HO)
 | []=>some ([],[],h)
 | s::r=>match s with
  | .o j=>match h[j]? with
   | some (.rowc _ sz n c)=>match frz (h.set j .gone) r with
    | some (l,sd,h2)=>some (.s false sz n c.at::l,sd,h2)
    | none=>none
   | some (.row _ sz n xs)=>match wJ h xs,frz (h.set j .gone) r with
    | some (l0,s0),some (l,sd,h2)=>some (.s false sz n (lc sz l0)::l,s0++sd,h2)
    | _,_=>none
   | _=>none
  | s=>match qMc h s,frz h r with
   | some (c,s1),some (l,sd,h2)=>some (c::l,s1++sd,h2)
   | _,_=>none
def qEo(h h2:List HO):Prop:=h2.length=h.length∧∀(i:Nat) (ho:HO),h2[i]?=some ho→h[i]?=some ho∨ho=HO.gone
theorem qOq(hF:zP F):∀(l:List SV) (h:List HO) {cs:List qB} {sd:List zF} {h2:List HO},qP F w0 h e w→frz h l=some (cs,sd,h2)→yE F sd→wsL h.length l → 
  qP F w0 h2 e w∧(mem w e h).le (mem w e h2)∧qEo h h2∧cs.length=l.length∧(∀(d:Nat) (c:qB),cs[d]?=some c→∃ u,(qN e l)[d]?=some u∧yV ((mem w e h2).sub e.z) u c)∧∀ u∈qN e l,u.oneCell'=true
 | [],h,cs,sd,h2,S,hc,_,_=>by
  simp only[frz,sI,pI] at hc
  obtain⟨rfl,rfl,rfl⟩:=hc
  exact⟨S,Mem.le.refl _,⟨rfl,fun i ho hi=>.inl hi⟩,rfl,fun d c hd=>(by cases hd),fun u hu=>(by cases hu)⟩
 | s::r,h,cs,sd,h2,S,hc,hs,hw=>by
  have fin:∀(h1:List HO) (c:qB) (l:List qB) (s2:List zF) (u:Value),qP F w0 h1 e w→(mem w e h).le (mem w e h1)→qEo h h1→frz h1 r=some (l,s2,h2)→yE F s2→wsL h1.length r →
    den e s=u→u.oneCell'=true→yV ((mem w e h1).sub e.z) u c→cs=c::l → 
    qP F w0 h2 e w∧(mem w e h).le (mem w e h2)∧qEo h h2∧cs.length=(s::r).length∧(∀(d:Nat) (c:qB),cs[d]?=some c→∃ u,(qN e (s::r))[d]?=some u∧yV ((mem w e h2).sub e.z) u c)∧∀ u∈qN e (s::r),u.oneCell'=true:=by
   intro h1 c l s2 u S1 hle hlen hf hs2 hw2 hu h1u hrep hcs
   obtain⟨b1,b2,b3,b4,b5,b6⟩:=qOq hF r h1 S1 hf hs2 hw2
   refine⟨b1,hle.trans b2,⟨b3.1.trans hlen.1,fun i ho hi=>?_⟩,by rw[hcs]; simp [b4],fun d c' hd=>?_,fun u' hu'=>?_⟩
   ·rcases b3.2 i ho hi with hh | hh
    ·exact hlen.2 i ho hh
    ·exact .inr hh
   ·rw[hcs] at hd
    cases d with
    | zero =>
     simp only[List.getElem?_cons_zero,sI] at hd
     subst hd
     exact⟨u,by simp only[qN,List.getElem?_cons_zero,hu],qBw (Mem.sub_mono b2 _) hrep⟩
    | succ d=>exact b5 d c' (by simpa using hd)
   ·simp only[qN,List.mem_cons] at hu'
    rcases hu' with rfl | hu'
    ·rw[hu]; exact h1u
    ·exact b6 u' hu'
  have key:∀ s0,s0=s→(match qMc h s0,frz h r with
   | some (c,s1),some (l,sd,h2)=>some (c::l,s1++sd,h2)
   | _,_=>none)=some (cs,sd,h2)→qP F w0 h2 e w∧(mem w e h).le (mem w e h2)∧qEo h h2∧cs.length=(s::r).length∧(∀(d:Nat) (c:qB),cs[d]?=some c→∃ u,(qN e (s::r))[d]?=some u∧yV ((mem w e h2).sub e.z) u c)∧∀ u∈qN e (s::r),u.oneCell'=true:=by
   intro s0 h0 hh
   subst h0
   split at hh
   ·rename_i c s1 l s2 h3 q1 q2
    simp only[sI,pI] at hh
    obtain⟨rfl,rfl,rfl⟩:=hh
    obtain⟨a1,a2⟩:=qGq S.q q1 fun x hx=>hs x (List.mem_append_left _ hx) _ S.fact
    exact fin h c l s2 _ S (Mem.le.refl _) ⟨rfl,fun i ho hi=>.inl hi⟩ q2 (fun x hx=>hs x (List.mem_append_right _ hx)) hw.2 rfl a2 a1 rfl
   ·cases hh
  have setLen:∀ j,j<h.length→qEo h (h.set j .gone):=fun j hj=>⟨by simp,fun i ho hi=>by
   by_cases hij:i=j
   ·subst hij; simp [hj] at hi; exact .inr hi.symm
   ·exact .inl (wK hij hi)⟩
  cases s with
  | o j =>
   simp only[frz] at hc
   split at hc
   ·rename_i T sz n c hj
    have hlt:=(List.getElem?_eq_some_iff.1 hj).1
    split at hc
    ·rename_i l s2 h3 q2
     simp only[sI,pI] at hc
     obtain⟨rfl,rfl,rfl⟩:=hc
     obtain⟨S1,hle⟩:=S.drop hF j hlt
     obtain⟨qR,v1,v2,v3⟩:=S.sat j _ hj
     refine fin _ _ l s2 (e.row j) S1 hle (setLen j hlt) q2 hs (by simpa using hw.2) rfl ?_ (S.frozen hj rfl v1 hle v3) rfl
     obtain⟨oa,n',cap,hv⟩:=wG S.q (i:=j) (by rw[hj]; rfl)
     rw[hv]; rfl
    ·cases hc
   ·rename_i T sz n xs hj
    have hlt:=(List.getElem?_eq_some_iff.1 hj).1
    split at hc
    ·rename_i l0 s0 l s2 h3 q1 q2
     simp only[sI,pI] at hc
     obtain⟨rfl,rfl,rfl⟩:=hc
     obtain⟨S1,hle⟩:=S.drop hF j hlt
     obtain⟨v1,v2⟩:=S.sat j _ hj
     refine fin _ _ l s2 (e.row j) S1 hle (setLen j hlt) q2 (fun x hx=>hs x (List.mem_append_right _ hx)) (by simpa using hw.2) rfl ?_ (S.frozen hj rfl v1 hle (qRk S.q q1 (fun x hx=>hs x (List.mem_append_left _ hx) _ S.fact) v1.1)) rfl
     obtain⟨oa,n',cap,hv⟩:=wG S.q (i:=j) (by rw[hj]; rfl)
     rw[hv]; rfl
    ·cases hc
   ·cases hc
  | _=>exact key _ rfl hc
def zLu(P:Program)(tm:List (Nat×SV))(h:List HO)(size:Nat)(T:TypeId)(x:Operand):Option (Nat×Ct×List zF×List HO) :=
 match P.underlying T with
 | some (.slice _)=>match evO tm x with
  | some (.o j)=>match h[j]? with
   | some (.row _ sz m xs)=>bif Nat.beq sz size then(match frz h xs with
    | some (l,sd,h1)=>some (m,.lit size l,sd,h1)
    | none=>none) else none
   | some (.rowc _ sz m c)=>bif Nat.beq sz size then some (m,c,[],h) else none
   | _=>none
  | some (.x i p)=>match h[i]? with
   | some (.ext false c0)=>match yF c0 p with
    | some (.s false sz m c)=>bif Nat.beq sz size then some (m,.fn c,xC (pvs c0 p),h) else none
    | _=>none
   | _=>none
  | some (.v (.slice _ 0 _))=>some (0,.lit 1 [],[],h)
  | _=>none
 | _=>none
theorem qXs(hF:zP F)(T:zA n h.length tm e a)(S:qP F w0 h e w){size:Nat}{T0:TypeId}{x:Operand}{m:Nat}{c:Ct}{h1:List HO}(hq:zLu P tm h size T0 x=some (m,c,sd,h1))(hsd:yE F sd):
  ∃ news,Src P size T0 (a.eval x) m news w∧qP F w0 h1 e w∧(mem w e h).le (mem w e h1)∧qEo h h1∧yA ((mem w e h1).sub e.z) size m c.at news:=by
 unfold zLu at hq
 split at hq
 ·rename_i el hu
  split at hq
  ·rename_i j hx
   split at hq
   ·rename_i T1 sz m1 xs hj
    cases hb:Nat.beq sz size with
    | false=>rw[hb] at hq; cases hq
    | true =>
     rw[hb] at hq
     simp only[cond_true] at hq
     have:=Nat.eq_of_beq_eq_true hb
     subst this
     split at hq
     ·rename_i l s1 h2 hf
      simp only[sI,pI] at hq
      obtain⟨rfl,rfl,rfl,rfl⟩:=hq
      obtain⟨b1,b2,b3,b4,b5,b6⟩:=qOq hF xs h S hf hsd (S.ws j _ hj)
      obtain⟨⟨v1,v2⟩,v3⟩:=S.sat j _ hj
      refine⟨qN e xs,?_,b1,b2,b3,?_⟩
      ·rw[(qH T hx).1]
       simp only[den]
       rcases v2 with ⟨hv,hn⟩ | ⟨g,cap,cur,hv,hrest⟩
       ·subst hn
        have:qN e xs=[]:=List.eq_nil_of_length_eq_zero (by rw[v1]; simp)
        rw[hv,this]
        exact Src.ofNil w hu 0
       ·rw[hv]
        refine Src.ofSlice w hu ⟨g,0,none⟩ m1 cap (qN e xs) v1 ?_ v3
        have hown':w.ownsRow 0 T1 sz (e.row j) m1 (qN e xs):=⟨v1,.inr ⟨g,cap,cur,hv,hrest⟩⟩
        exact hown'.cells (by rw[hv]; rfl)
      ·intro k hk j' hj'
       have hlt:k*sz+j'<l.length:=by rw[b4,← qS e,v1]; exact qFj hk hj'
       obtain⟨u,q1,q2⟩:=b5 (k*sz+j') l[k*sz+j'] (List.getElem?_eq_getElem hlt)
       refine⟨u,q1,?_⟩
       show yV _ u (lc sz l k j')
       unfold lc
       rw[List.getD_eq_getElem?_getD,List.getElem?_eq_getElem hlt]
       exact q2
     ·cases hq
   ·rename_i T1 sz m1 c1 hj
    cases hb:Nat.beq sz size with
    | false=>rw[hb] at hq; cases hq
    | true =>
     rw[hb] at hq
     simp only[cond_true,sI,pI] at hq
     obtain⟨rfl,rfl,rfl,rfl⟩:=hq
     have:=Nat.eq_of_beq_eq_true hb
     subst this
     obtain⟨qR,⟨v1,v2⟩,v3,v4⟩:=S.sat j _ hj
     refine⟨qR,?_,S,Mem.le.refl _,⟨rfl,fun i ho hi=>.inl hi⟩,v4⟩
     rw[(qH T hx).1]
     simp only[den]
     rcases v2 with ⟨hv,hn⟩ | ⟨g,cap,cur,hv,hrest⟩
     ·subst hn
      have:qR=[]:=List.eq_nil_of_length_eq_zero (by rw[v1]; simp)
      rw[hv,this]
      exact Src.ofNil w hu 0
     ·rw[hv]
      refine Src.ofSlice w hu ⟨g,0,none⟩ m1 cap qR v1 ?_ v3
      have hown':w.ownsRow 0 T1 sz (e.row j) m1 qR:=⟨v1,.inr ⟨g,cap,cur,hv,hrest⟩⟩
      exact hown'.cells (by rw[hv]; rfl)
   ·cases hq
  ·rename_i i p hx
   split at hq
   ·rename_i c0 hi
    split at hq
    ·rename_i sz m1 c1 hc
     cases hb:Nat.beq sz size with
     | false=>rw[hb] at hq; cases hq
     | true =>
      rw[hb] at hq
      simp only[cond_true,sI,pI] at hq
      obtain⟨rfl,rfl,rfl,rfl⟩:=hq
      have:=Nat.eq_of_beq_eq_true hb
      subst this
      obtain⟨oa,⟨cap,hv,_⟩,h2⟩:=qJt S.q hi hc (zQ fun x hx=>hsd x hx _ S.fact)
      rcases h2 with rfl | ⟨ad,rfl,h3⟩
      ·refine⟨[],?_,S,Mem.le.refl _,⟨rfl,fun i ho hi=>.inl hi⟩,fun k hk=>by omega⟩
       rw[(qH T hx).1]
       simp only[den]
       rw[hv]
       cases oa with
       | none=>exact Src.ofNil w hu cap
       | some ad=>exact Src.ofSlice w hu ad 0 cap [] (by simp) (fun j u hj=>by cases hj) (fun u hu=>by cases hu)
      ·refine⟨qJc m1 sz fun k j=>e.val i (p++[(sz,k,j)]),?_,S,Mem.le.refl _,⟨rfl,fun i ho hi=>.inl hi⟩,fun k hk j hj=>⟨_,qIg _ hk hj,qHo (h3 k hk j hj).2⟩⟩
       rw[(qH T hx).1]
       simp only[den]
       rw[hv]
       refine Src.ofSlice w hu ad m1 cap _ (qCw _ _ _) (fun d u hd=>?_) (fun u hu=>?_)
       ·have hlt:d<m1*sz:=by
         have:=(List.getElem?_eq_some_iff.1 hd).1
         rwa [qCw] at this
        obtain⟨k,j,hk,hj,rfl⟩:=zGf hlt
        rw[qIg _ hk hj] at hd
        simp only[sI] at hd
        subst hd
        exact wL ((Mem.sub_le _ _).trans (jH w e h)) (h3 k hk j hj).1
       ·obtain⟨k,j,_,_,rfl⟩:=zAt hu
        exact e.one i _
    ·cases hq
   ·cases hq
  ·rename_i oa cap hx
   simp only[sI,pI] at hq
   obtain⟨rfl,rfl,rfl,rfl⟩:=hq
   refine⟨[],?_,S,Mem.le.refl _,⟨rfl,fun i ho hi=>.inl hi⟩,fun k hk=>by omega⟩
   rw[(qH T hx).1]
   simp only[den]
   cases oa with
   | none=>exact Src.ofNil w hu cap
   | some ad=>exact Src.ofSlice w hu ad 0 cap [] (by simp) (fun j u hj=>by cases hj) (fun u hu=>by cases hu)
  ·cases hq
 ·cases hq
def zQh(h:List HO)(el size:Nat)(j:Nat):Option (Nat×Ct×List zF×Option Nat) :=
 match h[j]? with
 | some (.row T1 sz nn xs)=>bif Nat.beq T1 el&&Nat.beq sz size then(match wJ h xs with
  | some (l,sd)=>some (nn,.lit size l,sd,some j)
  | none=>none) else none
 | some (.rowc T1 sz nn c)=>bif Nat.beq T1 el&&Nat.beq sz size then some (nn,c,[],some j) else none
 | _=>none
def zKu(h:List HO)(el size:Nat)(s:SV):Option (Nat×Ct×List zF×Option Nat) :=
 match s with
 | .o j=>zQh h el size j
 | .v (.slice none 0 0)=>some (0,.lit 1 [],[],none)
 | _=>none
def zMc(h:List HO)(e:Env)(b:Option Nat):Option Nat→Prop
 | some j=>j<h.length∧∃ ho,h[j]?=some ho∧ho.own e j=fun b'=>b=some b'
 | none=>b=none
theorem qVv(S:qP F w0 h e w){el size:Nat}{s:SV}{nn:Nat}{c:Ct}{oj:Option Nat}(hq:zKu h el size s=some (nn,c,sd,oj))(hsd:yE F sd):
  ∃ qR,w.ownsRow 0 el size (den e s) nn qR∧(∀ u∈qR,u.oneCell'=true)∧yA ((mem w e h).sub e.z) size nn c.at qR ∧
   zMc h e (den e s).ownBlock oj:=by
 unfold zKu at hq
 split at hq
 ·rename_i j
  unfold zQh at hq
  split at hq
  ·rename_i T1 sz n1 xs hj
   cases hb:Nat.beq T1 el&&Nat.beq sz size with
   | false=>rw[hb] at hq; cases hq
   | true =>
    rw[hb] at hq
    simp only[cond_true] at hq
    rw[Bool.and_eq_true] at hb
    have q1:=Nat.eq_of_beq_eq_true hb.1
    have q2:=Nat.eq_of_beq_eq_true hb.2
    subst q1
    subst q2
    split at hq
    ·rename_i l s1 hl
     simp only[sI,pI] at hq
     obtain⟨rfl,rfl,rfl,rfl⟩:=hq
     obtain⟨v1,v2⟩:=S.sat j _ hj
     exact⟨qN e xs,v1,v2,qRk S.q hl (fun x hx=>hsd x hx _ S.fact) v1.1,(List.getElem?_eq_some_iff.1 hj).1,_,hj,rfl⟩
    ·cases hq
  ·rename_i T1 sz n1 c1 hj
   cases hb:Nat.beq T1 el&&Nat.beq sz size with
   | false=>rw[hb] at hq; cases hq
   | true =>
    rw[hb] at hq
    simp only[cond_true,sI,pI] at hq
    rw[Bool.and_eq_true] at hb
    have q1:=Nat.eq_of_beq_eq_true hb.1
    have q2:=Nat.eq_of_beq_eq_true hb.2
    subst q1
    subst q2
    obtain⟨rfl,rfl,rfl,rfl⟩:=hq
    obtain⟨qR,v1,v2,v3⟩:=S.sat j _ hj
    exact⟨qR,v1,v2,v3,(List.getElem?_eq_some_iff.1 hj).1,_,hj,rfl⟩
  ·cases hq
 ·simp only[sI,pI] at hq
  obtain⟨rfl,rfl,rfl,rfl⟩:=hq
  exact⟨[],World.ownsRow_nil w 0 el size,fun u hu=>(by cases hu),fun k hk=>by omega,rfl⟩
 ·cases hq
theorem zDt{M:Mem}{sz n m:Nat}{c c2:Nat→Nat→qB}{qR news:List Value}(hl:qR.length=n*sz)(h1:yA M sz n c qR)(h2:yA M sz m c2 news):yA M sz (n+m) (qCf n c c2) (qR++news):=by
 intro k hk j hj
 unfold qCf
 by_cases h:k<n
 ·have hb:Nat.blt k n=true:=Nat.ble_eq_true_of_le h
  rw[hb,cond_true,List.getElem?_append_left (by rw[hl]; exact qFj h hj)]
  exact h1 k h j hj
 ·have hb:Nat.blt k n=false:=by
   rw[Bool.eq_false_iff]
   intro hh
   have:=Nat.le_of_ble_eq_true hh
   omega
  have hge:n*sz≤k*sz:=Nat.mul_le_mul_right _ (by omega)
  rw[hb,cond_false,List.getElem?_append_right (by rw[hl]; omega),hl,show k*sz+j-n*sz=(k-n)*sz+j by rw[Nat.sub_mul]; omega]
  exact h2 (k-n) (by omega) j hj
def qOs(h:List HO):Option Nat→List HO
 | some j=>h.set j .gone
 | none=>h
def zCu(P:Program)(tm:List (Nat×SV))(h:List HO)(D:List Dec)(T Tx:TypeId)(s x:Operand):LR :=
 match P.underlying T,P.underlying Tx with
 | some (.slice el),some (.slice _)=>match P.info? el with
  | some i=>match i.zero with
   | some z=>bif Nat.beq z.cells.size i.size&&Nat.beq i.size 1 then
     match evO tm s,evO tm x with
     | some (.o a),some (.o b)=>match h[a]?,h[b]? with
      | some (.tbl T0 T1 sz nn c none),some (.row _ sz2 m2 [.o q])=>bif Nat.beq T0 el&&(Nat.beq sz2 1&&Nat.beq m2 1) then some (some (.o h.length),h.set a .gone++[.tbl T0 T1 sz (nn+1) c (some (nn,q))],xC [(nn+1)*i.bytes≤140737488355328∧nn+1≤140737488355328],D) else none
      | _,_=>none
     | _,_=>none
    else none
   | none=>none
  | none=>none
 | _,_=>none
theorem qUt(hF:zP F)(T:zA n h.length tm e a)(S:qP F w0 h e w){o:Oper}{cl:Call}{T0 Tx:TypeId}{s x:Operand}(ho:o.op=.call cl)(hc1:cl.callee=.builtin .append)(hc2:cl.args=#[s,x])(hc3:cl.argTypes=#[T0,Tx])(hq:zCu P tm h D T0 Tx s x=some (r,h',sd,D'))(hsd:yE F sd):yS P F w0 h h' e a w o r:=by
 have hexec:∀ v' w',(Builtin.append_ #[T0,Tx] o.type #[a.eval s,a.eval x]).run P w=.ok v' w'→(execOp a.eval o).run P w=.ok (.value v') w':=by
  intro v' w' hr
  simp [execOp,ho,resolve,hc1,hc2,hc3,invoke,builtin,hr]
 unfold zCu at hq
 split at hq
 ·rename_i el el2 hu hu2
  split at hq
  ·rename_i i hi
   split at hq
   ·rename_i z hz
    cases hb:Nat.beq z.cells.size i.size&&Nat.beq i.size 1 with
    | false=>rw[hb] at hq; cases hq
    | true =>
     rw[hb] at hq
     rw[Bool.and_eq_true] at hb
     have hzs:=Nat.eq_of_beq_eq_true hb.1
     have hs1:=Nat.eq_of_beq_eq_true hb.2
     simp only[cond_true] at hq
     split at hq
     ·rename_i a0 b0 hs hx
      split at hq
      ·rename_i Ta T1 sz nn c Tb sz2 m2 q ha hbq
       cases hb2:Nat.beq Ta el&&(Nat.beq sz2 1&&Nat.beq m2 1) with
       | false=>rw[hb2] at hq; cases hq
       | true =>
        rw[hb2] at hq
        rw[Bool.and_eq_true,Bool.and_eq_true] at hb2
        have e1:=Nat.eq_of_beq_eq_true hb2.1
        have e2:=Nat.eq_of_beq_eq_true hb2.2.1
        have e3:=Nat.eq_of_beq_eq_true hb2.2.2
        subst e1 e2 e3
        simp only[cond_true,sI,pI] at hq
        obtain⟨rfl,rfl,rfl,rfl⟩:=hq
        obtain⟨hbytes,h63⟩:=zQ (fun x hx=>hsd x hx _ S.fact) _ List.mem_cons_self
        obtain⟨⟨hds,d1,d2,d3⟩,d4,d5,d6⟩:=S.sat a0 _ ha
        obtain⟨⟨v1,v2⟩,v3⟩:=S.sat b0 _ hbq
        have hqlt:q<h.length:=(S.ws b0 _ hbq).1
        have halt:=(List.getElem?_eq_some_iff.1 ha).1
        have s1:Src P i.size Tx (a.eval x) 1 [e.row q] w:=by
         rw[(qH T hx).1,hs1]
         simp only[den]
         rcases v2 with ⟨hv,hn⟩ | ⟨g,cap,cur,hv,hrest⟩
         ·omega
         ·rw[hv]
          refine Src.ofSlice w hu2 ⟨g,0,none⟩ 1 cap (qN e [.o q]) v1 ?_ v3
          have hown':w.ownsRow 0 Tb 1 (e.row b0) 1 (qN e [.o q]):=⟨v1,.inr ⟨g,cap,cur,hv,hrest⟩⟩
          exact hown'.cells (by rw[hv]; rfl)
        have d1':w.ownsRow 0 Ta i.size (e.row a0) nn hds:=by rw[hs1]; exact d1
        obtain⟨v',w',r1,r2,r3,r4⟩:=qEb w T0 Tx o.type Ta i z hu hi hz hzs (e.row a0) nn hds d1' (a.eval x) 1 [e.row q] s1 hbytes h63
        have hag:zD h.length e ((e.setR h.length v').setV h.length (e.val a0) (e.one a0)):=(zO e h.length v').trans (jB (e.setR h.length v') h.length (e.val a0) (e.one a0)) (Nat.le_refl _)
        have hrow:((e.setR h.length v').setV h.length (e.val a0) (e.one a0)).row h.length=v':=by simp [Env.setR,Env.setV]
        have hval:((e.setR h.length v').setV h.length (e.val a0) (e.one a0)).val h.length=e.val a0:=by simp [Env.setV]
        have hrq:((e.setR h.length v').setV h.length (e.val a0) (e.one a0)).row q=e.row q:=(hag.1 q hqlt).2.1
        have inn:∀ k,inH (some (nn,q)) k→k≠nn:=fun k hk hkn=>hk q (by rw[hkn])
        have hgone:(h.set a0 HO.gone++[HO.tbl Ta T1 sz (nn+1) c (some (nn,q))])[a0]?=some .gone:=by
         rw[List.getElem?_append_left (by simpa using halt)]
         simp [halt]
        have inno:∀ k,inH none k:=fun k m hk=>by cases hk
        refine⟨_,w',hag,by simp,?_,(fun hk=>by rw[yN,ho] at hk; cases hk),?_,?_⟩
        ·refine S.next' hF h.length (.tbl Ta T1 sz (nn+1) c (some (nn,q))) (by simp) (by simp) hag ?_ ?_ (e.row a0).ownBlock ?_ ?_ ?_ ?_ ?_ r3.size r3.os r3.tape r3.output
         ·intro k ho hk hk'
          rw[List.getElem?_append] at hk'
          split at hk'
          ·by_cases hka:k=a0
           ·subst hka
            simp [halt] at hk'
            exact .inr hk'.symm
           ·exact .inl (wK hka hk')
          ·rename_i hge
           rw[List.length_set] at hge hk'
           cases hk2:k-h.length with
           | zero=>omega
           | succ y=>rw[hk2] at hk'; simp at hk'
         ·intro k ho hk hk'
          have hklt:=(List.getElem?_eq_some_iff.1 hk').1
          rw[List.getElem?_append_left (by rw[List.length_set]; exact hklt)]
          by_cases hka:k=a0
          ·subst hka
           right
           simp [halt]
          ·left
           rw[List.getElem?_set_ne (Ne.symm hka)]
           exact hk'
         ·intro b hb
          exact⟨a0,_,ha,.inl hb,.inr hgone⟩
         ·intro hM
          simp only[HO.sat,hrow,hval]
          refine⟨⟨hds++[e.row q],by have:=r2; rw[hs1] at this; exact this,fun u hu=>?_,fun k hk=>?_⟩,fun k hk hik=>?_,fun k k' b hk hk' hi1 hi2 h1 h2=>?_,fun k b hk hi1 h1 h2=>?_⟩
          ·rcases List.mem_append.1 hu with hu | hu
           ·exact d2 u hu
           ·exact v3 u (by simpa[qN,den] using hu)
          ·have hl:hds.length=nn:=by have:=d1.1; omega
           by_cases hkn:k=nn
           ·subst hkn
            simp only[thd,if_true,hrq]
            rw[List.getElem?_append_right (by omega),hl]
            simp
           ·rw[List.getElem?_append_left (by omega),d3 k (by omega)]
            simp only[thd,if_neg hkn,hval]
          ·have hkn:=inn k hik
           obtain⟨qR,g1,g2,g3⟩:=d4 k (by omega) (inno k)
           refine⟨qR,jQ g1 fun b hb=>?_,g2,qY (Mem.sub_mono hM _) g3⟩
           have hlt:=(World.ownsRow.lt g1 b hb).2
           exact r3.block b hlt (fun hh=>d6 k b (by omega) (inno k) hb hh.symm)
          ·have:=inn k hi1
           have:=inn k' hi2
           exact d5 k k' b (by omega) (by omega) (inno k) (inno k') h1 h2
          ·have:=inn k hi1
           obtain⟨qR,g1,_⟩:=d4 k (by omega) (inno k)
           have hlt:=(World.ownsRow.lt g1 b h1).2
           rcases r4 b h2 with h3 | h3
           ·omega
           ·exact d6 k b (by omega) (inno k) h1 h3
         ·intro k m hk
          simp only[sI,pI] at hk
          rw[List.length_append,List.length_set]
          omega
         ·intro b hb
          simp only[HO.own,hrow,hval] at hb
          rcases hb with hb | ⟨k,hk,hik,hb⟩
          ·rcases r4 b hb with h3 | h3
           ·exact .inl h3
           ·exact .inr ⟨a0,_,ha,.inl h3,.inr hgone⟩
          ·have:=inn k hik
           exact .inr ⟨a0,_,ha,.inr ⟨k,by omega,inno k,hb⟩,.inr hgone⟩
         ·intro b hb' hne
          exact r3.block b hb' (fun hh=>hne hh.symm)
        ·rw[hexec v' w' (by rw[(qH T hs).1]; exact r1)]
         simp only[den,hrow]
        ·simp only[ws,List.length_append,List.length_set]
         simp
      ·cases hq
     ·cases hq
   ·cases hq
  ·cases hq
 ·cases hq
def qMd(P:Program)(tm:List (Nat×SV))(h:List HO)(D:List Dec)(T Tx:TypeId)(s x:Operand):LR :=
 match P.underlying T with
 | some (.slice el)=>match P.info? el with
  | some i=>match i.zero with
   | some z=>bif Nat.beq z.cells.size i.size then
     match zLu P tm h i.size Tx x with
     | some (m,c2,sd1,h1)=>match evO tm s with
      | some sv=>match zKu h1 el i.size sv with
       | some (nn,c,sd2,oj)=>some (some (.o h1.length),qOs h1 oj++[.rowc el i.size (nn+m) (.app nn c c2)],sd1++sd2++xC [(nn+m)*i.bytes≤140737488355328∧nn+m≤140737488355328],D)
       | none=>none
      | none=>none
     | none=>none
    else none
   | none=>none
  | none=>none
 | _=>none
theorem jS(h:List HO)(oj:Option Nat):(qOs h oj).length=h.length:=by cases oj <;> simp [qOs]
theorem qKd(hF:zP F)(T:zA n h.length tm e a)(S0:qP F w0 h e w){o:Oper}{cl:Call}{T0 Tx:TypeId}{s x:Operand}(ho:o.op=.call cl)(hc1:cl.callee=.builtin .append)(hc2:cl.args=#[s,x])(hc3:cl.argTypes=#[T0,Tx])(hq:qMd P tm h D T0 Tx s x=some (r,h',sd,D'))(hsd:yE F sd):yS P F w0 h h' e a w o r:=by
 have hexec:∀ v' w',(Builtin.append_ #[T0,Tx] o.type #[a.eval s,a.eval x]).run P w=.ok v' w'→(execOp a.eval o).run P w=.ok (.value v') w':=by
  intro v' w' hr
  simp [execOp,ho,resolve,hc1,hc2,hc3,invoke,builtin,hr]
 unfold qMd at hq
 split at hq
 ·rename_i el hu
  split at hq
  ·rename_i i hi
   split at hq
   ·rename_i z hz
    cases hb:Nat.beq z.cells.size i.size with
    | false=>rw[hb] at hq; cases hq
    | true =>
     rw[hb] at hq
     simp only[cond_true] at hq
     have hzs:=Nat.eq_of_beq_eq_true hb
     split at hq
     ·rename_i m c2 sd1 h1 hsrc
      split at hq
      ·rename_i sv hs
       split at hq
       ·rename_i nn c sd2 oj hdst
        simp only[sI,pI] at hq
        obtain⟨rfl,rfl,rfl,rfl⟩:=hq
        obtain⟨news,s1,S,s3,s4,s5⟩:=qXs hF T S0 hsrc fun x hx=>hsd x (List.mem_append_left _ (List.mem_append_left _ hx))
        obtain⟨qR,d1,d2,d3,d4⟩:=qVv S hdst fun x hx=>hsd x (List.mem_append_left _ (List.mem_append_right _ hx))
        obtain⟨hbytes,h63⟩:=zQ (fun x hx=>hsd x (List.mem_append_right _ hx) _ S.fact) _ List.mem_cons_self
        obtain⟨v',w',r1,r2,r3,r4⟩:=qEb w T0 Tx o.type el i z hu hi hz hzs (den e sv) nn qR d1 (a.eval x) m news s1 hbytes h63
        have hag:=zO e h1.length v'
        have hrow:(e.setR h1.length v').row h1.length=v':=by simp [Env.setR]
        have hagh:zD h.length e (e.setR h1.length v'):=by rw[← s4.1]; exact hag
        refine⟨e.setR h1.length v',w',hagh,by have:=s4.1; simp only[List.length_append,jS]; omega,?_,(fun hk=>by rw[yN,ho] at hk; cases hk),?_,?_⟩
        ·refine S.next hF h1.length (.rowc el i.size (nn+m) (.app nn c c2)) (by rw[List.length_append,jS]; omega) (by rw[List.getElem?_append_right (by rw[jS]; omega),jS]; simp) hag ?_ ?_ (den e sv).ownBlock ?_ ?_ ?_ trivial ?_ ?_ r3.size r3.os r3.tape r3.output
         ·intro k ho hk hk'
          rw[List.getElem?_append] at hk'
          split at hk'
          ·cases oj with
           | none=>exact .inl hk'
           | some j =>
            simp only[qOs] at hk'
            by_cases hkj:k=j
            ·subst hkj
             simp [d4.1] at hk'
             exact .inr hk'.symm
            ·exact .inl (wK hkj hk')
          ·rename_i hge
           rw[jS] at hge hk'
           cases hk2:k-h1.length with
           | zero=>omega
           | succ q=>rw[hk2] at hk'; simp at hk'
         ·intro k ho hk hk'
          have hklt:=(List.getElem?_eq_some_iff.1 hk').1
          rw[List.getElem?_append_left (by rw[jS]; exact hklt)]
          cases oj with
          | none=>exact .inl hk'
          | some j =>
           simp only[qOs]
           by_cases hkj:k=j
           ·subst hkj
            right
            simp [d4.1]
           ·left
            rw[List.getElem?_set_ne (Ne.symm hkj)]
            exact hk'
         ·intro b hb'
          cases oj with
          | none=>rw[show(den e sv).ownBlock=none from d4] at hb'; cases hb'
          | some j =>
           obtain⟨hlt,ho',hj,hown⟩:=d4
           refine⟨j,ho',hj,by rw[hown]; exact hb',.inr ?_⟩
           rw[List.getElem?_append_left (by rw[jS]; exact hlt)]
           simp [qOs,hlt]
         ·intro ho b hk _
          have:=(List.getElem?_eq_some_iff.1 hk).1
          omega
         ·intro hM
          simp only[HO.sat,hrow]
          refine⟨qR++news,r2,fun u hu=>?_,zDt d1.1 (qY (Mem.sub_mono hM _) d3) (qY (Mem.sub_mono hM _) s5)⟩
          rcases List.mem_append.1 hu with hu | hu
          ·exact d2 u hu
          ·exact s1.one u hu
         ·intro b hb'
          simp only[HO.own,hrow] at hb'
          exact r4 b hb'
         ·intro b hb' hne
          exact r3.block b hb' (fun hh=>hne hh.symm)
        ·rw[hexec v' w' (by rw[(qH T hs).1]; exact r1)]
         simp only[den,hrow]
        ·simp only[ws]
         rw[List.length_append,jS]
         simp
       ·cases hq
      ·cases hq
     ·cases hq
   ·cases hq
  ·cases hq
 ·cases hq
def qSh(P:Program)(tm:List (Nat×SV))(h:List HO)(D:List Dec)(T Tx:TypeId)(s x:Operand):LR :=
 match zCu P tm h D T Tx s x with
 | some r=>some r
 | none=>qMd P tm h D T Tx s x
theorem qMs(hF:zP F)(T:zA n h.length tm e a)(S:qP F w0 h e w){o:Oper}{cl:Call}{T0 Tx:TypeId}{s x:Operand}(ho:o.op=.call cl)(hc1:cl.callee=.builtin .append)(hc2:cl.args=#[s,x])(hc3:cl.argTypes=#[T0,Tx])(hq:qSh P tm h D T0 Tx s x=some (r,h',sd,D'))(hsd:yE F sd):yS P F w0 h h' e a w o r:=by
 unfold qSh at hq
 split at hq
 ·rename_i y hy
  simp only[sI] at hq
  subst hq
  exact qUt hF T S ho hc1 hc2 hc3 hy hsd
 ·exact qKd hF T S ho hc1 hc2 hc3 hq hsd

/-! ### stores into rows of known content -/
theorem zDw{M:Mem}{sz n k j:Nat}{c:Nat→Nat→qB}{l:List qB}{qR ds:List Value}(hlen:l.length=ds.length)(hk:k<n)(hjl:j+l.length≤sz)(hvl:qR.length=n*sz)(hr:yA M sz n c qR)(hl:∀(d:Nat) (x:qB),l[d]?=some x→∃ u,ds[d]?=some u∧yV M u x):
  yA M sz n (qNa c k j l) (qR.take (k*sz+j)++ds++qR.drop (k*sz+j+ds.length)):=by
 intro k' hk' j' hj'
 have hin:k*sz+j+ds.length≤n*sz:=by
  have:(k+1)*sz≤n*sz:=Nat.mul_le_mul_right _ hk
  rw[Nat.add_mul] at this
  omega
 have e1:(qR.take (k*sz+j)).length=k*sz+j:=by rw[List.length_take]; omega
 have old:(k'*sz+j'<k*sz+j∨k*sz+j+ds.length≤k'*sz+j')→(qR.take (k*sz+j)++ds++qR.drop (k*sz+j+ds.length))[k'*sz+j']?=qR[k'*sz+j']?:=by
  intro hh
  rcases hh with hh | hh
  ·rw[List.append_assoc,List.getElem?_append_left (by rw[e1]; exact hh),List.getElem?_take,if_pos hh]
  ·rw[List.getElem?_append_right (by rw[List.length_append,e1]; exact hh),List.length_append,e1,List.getElem?_drop]
   congr 1
   omega
 unfold qNa
 by_cases hkk:k'=k
 ·subst hkk
  rw[Nat.beq_refl,Bool.true_and]
  by_cases hjj:j≤j'
  ·have hb:Nat.ble j j'=true:=Nat.ble_eq_true_of_le hjj
   rw[hb,cond_true]
   by_cases hd:j' - j<l.length
   ·obtain⟨u,h1,h2⟩:=hl (j' - j) l[j' - j] (List.getElem?_eq_getElem hd)
    rw[List.getElem?_eq_getElem hd]
    refine⟨u,?_,h2⟩
    rw[List.append_assoc,List.getElem?_append_right (by rw[e1]; omega),e1,List.getElem?_append_left (by omega)]
    rw[← h1]
    congr 1
    omega
   ·rw[show l[j' - j]?=none from List.getElem?_eq_none (by omega)]
    rw[old (by omega)]
    exact hr k' hk' j' hj'
  ·have hb:Nat.ble j j'=false:=by
    rw[Bool.eq_false_iff]
    intro hh
    exact hjj (Nat.le_of_ble_eq_true hh)
   rw[hb,cond_false,old (by omega)]
   exact hr k' hk' j' hj'
 ·have hb:Nat.beq k' k=false:=by
   rw[Bool.eq_false_iff]
   intro hh
   exact hkk (Nat.eq_of_beq_eq_true hh)
  rw[hb,Bool.false_and,cond_false,old ?_]
  ·exact hr k' hk' j' hj'
  ·rcases Nat.lt_or_gt_of_ne hkk with h | h
   ·have:(k'+1)*sz≤k*sz:=Nat.mul_le_mul_right _ h
    rw[Nat.add_mul] at this
    omega
   ·have:(k+1)*sz≤k'*sz:=Nat.mul_le_mul_right _ h
    rw[Nat.add_mul] at this
    omega
theorem qKc(hF:zP F)(T:zA n h.length tm e a)(S:qP F w0 h e w){o:Oper}{T0:TypeId}{x y:Operand}(ho:o.op=.store T0 x y)(hq:qKr P tm h D T0 x y=some (r,h',sd,D'))(hsd:∀ x∈sd,x (mem w e h)):yS P F w0 h h' e a w o r:=by
 unfold qKr at hq
 split at hq
 ·cases hq
 ·rename_i s hy
  split at hq
  ·rename_i cs k hcs hk
   obtain⟨c1,c2⟩:=xG S.q hcs
   split at hq
   ·rename_i l sd1 hl
    cases hb:Nat.beq l.length k with
    | false=>rw[hb] at hq; cases hq
    | true =>
    rw[hb] at hq
    simp only[cond_true] at hq
    have hlen:=Nat.eq_of_beq_eq_true hb
    split at hq
    ·rename_i i sz kk j hx
     split at hq
     ·rename_i T1 sz' nn c hi
      cases hb2:Nat.beq sz sz'&&Nat.ble (j+l.length) sz with
      | false=>rw[hb2] at hq; cases hq
      | true =>
       rw[hb2] at hq
       simp only[cond_true,sI,pI] at hq
       obtain⟨rfl,rfl,rfl,rfl⟩:=hq
       rw[Bool.and_eq_true] at hb2
       have:=Nat.eq_of_beq_eq_true hb2.1
       subst this
       have hjl:=Nat.le_of_ble_eq_true hb2.2
       obtain⟨a1,a2,a3⟩:=qBm S.q cs hl fun x hx=>hsd x (List.mem_append_left _ hx)
       have hkk:kk<nn:=zQ (fun x hx=>hsd x (List.mem_append_right _ hx)) _ List.mem_cons_self
       obtain⟨qR,⟨v1,v2⟩,v3,v4⟩:=S.sat i _ hi
       rcases v2 with ⟨_,hn⟩ | ⟨g,cap,cur,hv,hbg,hg,hnc,hcm,hcs',ht⟩
       ·omega
       ·have hdl:(qN e cs).length=l.length:=by rw[qS,a1]
        have hnn:nn*sz≤cur.size:=by rw[hcs']; exact Nat.mul_le_mul_right _ hnc
        have hin:kk*sz+j+l.length≤nn*sz:=by
         have:(kk+1)*sz≤nn*sz:=Nat.mul_le_mul_right _ hkk
         rw[Nat.add_mul] at this
         omega
        have hst:=run_storeCells_at P g (kk*sz+j) T1 (qN e cs) 0 cur w hg (by rw[hdl]; omega) a3
        simp only[Nat.add_zero] at hst
        have hr:(Instr.storeAt T0 (.pointer (some ⟨g,kk*sz+j,none⟩)) (den e s)).run P w=.ok () (w.setRow g (cur.toList.take (kk*sz+j)++qN e cs++cur.toList.drop (kk*sz+j+(qN e cs).length)).toArray):=by
         simp [Instr.storeAt,Instr.sureAddr,storeVar,c1,← a1,hlen,zI hk w,hst,qS]
        have hown:∀ b',(HO.rowc T1 sz nn c).own e i b'↔g=b':=by intro b'; simp [HO.own,hv,Value.ownBlock]
        refine⟨e,_,zD.refl _ _,by simp,S.turn hF hi g hown (by simpa[HO.own] using hown) (w':=w.setRow g (cur.toList.take (kk*sz+j)++qN e cs++cur.toList.drop (kk*sz+j+(qN e cs).length)).toArray) ?_ trivial (fun k _ hne=>setRow_other w _ k _ hne) (by simp) rfl rfl rfl,(fun hk=>by rw[yN,ho] at hk; cases hk),?_⟩
        ·intro hM
         refine⟨qR.take (kk*sz+j)++qN e cs++qR.drop (kk*sz+j+(qN e cs).length),⟨by rw[List.length_append,List.length_append,List.length_take,List.length_drop,v1,hdl]; omega,.inr ⟨g,cap,_,hv,hbg,setRow_heap w g cur _ T1 (0,0) hg,hnc,hcm,?_,?_⟩⟩,?_,zDw hdl.symm hkk hjl v1 (qY (Mem.sub_mono hM _) v4) (fun d x hd=>?_)⟩
         ·simp [hdl]
          omega
         ·rw[← ht]
          simp only[]
          rw[List.take_append,List.take_append]
          simp only[List.length_append,List.length_take,Array.length_toList,hdl,List.take_take,List.drop_take]
          have e1:min (kk*sz+j) cur.size=kk*sz+j:=by omega
          have e2:min (nn*sz) (kk*sz+j)=kk*sz+j:=by omega
          have e3:min (kk*sz+j) (nn*sz)=kk*sz+j:=by omega
          rw[e1,e2,e3]
          congr 1
          congr 1
          rw[List.take_of_length_le (by rw[hdl]; omega)]
         ·intro u hu
          rw[List.mem_append,List.mem_append] at hu
          rcases hu with (hu | hu) | hu
          ·exact v3 u (List.mem_of_mem_take hu)
          ·exact a3 u hu
          ·exact v3 u (List.mem_of_mem_drop hu)
         ·obtain⟨u,q1,q2⟩:=a2 d x hd
          exact⟨u,q1,qBw (Mem.sub_mono hM _) q2⟩
        ·simp only[execOp,ho,(qH T hx).1,(qH T hy).1]
         rw[Sem.run_bind]
         simp only[den,hv,qAq]
         rw[hr]
         rfl
     ·cases hq
    ·cases hq
   ·cases hq
  ·cases hq
theorem qNd(hF:zP F)(T:zA n h.length tm e a)(S:qP F w0 h e w){o:Oper}{T0:TypeId}{x y:Operand}(ho:o.op=.store T0 x y)(hq:qRl P tm h D T0 x y=some (r,h',sd,D'))(hsd:∀ x∈sd,x (mem w e h)):yS P F w0 h h' e a w o r:=by
 unfold qRl at hq
 split at hq
 ·rename_i i sz k j q hx hy
  split at hq
  ·rename_i Ta T1 sz1 n1 c hole len hi hlen
   cases hb:qJf h[q]?&&(Nat.beq sz 1&&(Nat.beq j 0&&Nat.beq len 1)) with
   | false=>rw[hb] at hq; cases hq
   | true =>
    rw[hb] at hq
    simp only[cond_true,sI,pI] at hq
    obtain⟨rfl,rfl,rfl,rfl⟩:=hq
    rw[Bool.and_eq_true,Bool.and_eq_true,Bool.and_eq_true] at hb
    obtain⟨hrq,e1,e2,e3⟩:=hb
    have e1:=Nat.eq_of_beq_eq_true e1
    have e2:=Nat.eq_of_beq_eq_true e2
    have e3:=Nat.eq_of_beq_eq_true e3
    subst e1 e2 e3
    have hk:k<n1:=hsd _ List.mem_cons_self
    have hho:qRt hole k:=hsd _ (List.mem_cons_of_mem _ List.mem_cons_self)
    obtain⟨oa,n',cp,hqv⟩:=wG S.q hrq
    have hq1:(e.row q).oneCell'=true:=by rw[hqv]; rfl
    have hqlt:q<h.length:=(qH T hy).2
    have hlt:=(List.getElem?_eq_some_iff.1 hi).1
    obtain⟨⟨hds,⟨v1,v2⟩,d2,d3⟩,d4,d5,d6⟩:=S.sat i _ hi
    rcases v2 with ⟨_,hn⟩ | ⟨g,cap,cur,hv,hbg,hg,hnc,hcm,hcs',ht⟩
    ·omega
    ·have hst:=run_storeCells_at P g k Ta [e.row q] 0 cur w hg (by simp; omega) (fun u hu=>by rw[List.mem_singleton] at hu; rw[hu]; exact hq1)
     simp only[Nat.add_zero] at hst
     have hcells:(e.row q).cells=#[e.row q]:=qOc hq1
     have hr:(Instr.storeAt T0 (.pointer (some ⟨g,k,none⟩)) (e.row q)).run P w=.ok () (w.setRow g (cur.toList.take k++[e.row q]++cur.toList.drop (k+[e.row q].length)).toArray):=by
      simp [Instr.storeAt,Instr.sureAddr,storeVar,hcells,zI hlen w] at hst ⊢
      exact hst
     have inho:∀ y,y≠k→inH (some (k,q)) y→inH hole y:=by
      intro y hy _
      cases hole with
      | none=>exact fun m hm=>by cases hm
      | some p =>
       intro m hm
       simp only[qRt] at hho
       simp only[sI] at hm
       subst hm
       exact hy hho.symm
     have inne:∀ y,inH (some (k,q)) y→y≠k:=fun y hy hh=>hy q (by rw[hh])
     refine⟨e,w.setRow g (cur.toList.take k++[e.row q]++cur.toList.drop (k+[e.row q].length)).toArray,zD.refl _ _,by simp,?_,(fun hk=>by rw[yN,ho] at hk; cases hk),?_⟩
     ·refine S.next' hF i (.tbl Ta T1 sz1 n1 c (some (k,q))) (by simp) (by simp [hlt]) (zD.refl _ _) ?_ ?_ (some g) ?_ ?_ ?_ ?_ ?_ (w':=w.setRow g (cur.toList.take k++[e.row q]++cur.toList.drop (k+[e.row q].length)).toArray) (by simp) rfl rfl rfl
      ·intro j x hj hx
       exact .inl (wK hj hx)
      ·intro j x hj hx
       refine .inl ?_
       rw[List.getElem?_set_ne (Ne.symm hj)]
       exact hx
      ·intro b hb
       simp only[sI] at hb
       subst hb
       exact⟨i,_,hi,.inl (by rw[hv]; rfl),.inl rfl⟩
      ·intro hM
       refine⟨⟨hds.take k++[e.row q]++hds.drop (k+1),⟨by simp; omega,.inr ⟨g,cap,_,hv,hbg,setRow_heap w g cur _ Ta (0,0) hg,hnc,hcm,?_,?_⟩⟩,?_,?_⟩,?_,?_,?_⟩
       ·simp
        omega
       ·rw[← ht]
        simp only[]
        rw[List.take_append,List.take_append]
        simp only[List.length_append,List.length_take,Array.length_toList,List.length_singleton,List.take_take,List.drop_take,Nat.mul_one]
        have f1:min k cur.size=k:=by omega
        have f2:min n1 k=k:=by omega
        have f3:min k n1=k:=by omega
        rw[f1,f2,f3]
        congr 1
        ·congr 1
         rw[List.take_of_length_le (by simp; omega)]
       ·intro u hu
        rw[List.mem_append,List.mem_append,List.mem_singleton] at hu
        rcases hu with (hu | rfl) | hu
        ·exact d2 u (List.mem_of_mem_take hu)
        ·exact hq1
        ·exact d2 u (List.mem_of_mem_drop hu)
       ·intro y hy
        have hl:hds.length=n1:=by omega
        by_cases hyk:y=k
        ·subst hyk
         simp only[thd,if_true]
         rw[List.append_assoc,List.getElem?_append_right (by simp; omega)]
         simp [Nat.min_eq_left (Nat.le_of_lt (by omega:y<hds.length))]
        ·have old:(hds.take k++[e.row q]++hds.drop (k+1))[y]?=hds[y]?:=by
          by_cases hyl:y<k
          ·rw[List.append_assoc,List.getElem?_append_left (by simp; omega),List.getElem?_take,if_pos hyl]
          ·rw[List.getElem?_append_right (by simp; omega),List.getElem?_drop]
           congr 1
           simp
           omega
         rw[old,d3 y hy]
         simp only[thd,if_neg hyk]
         cases hole with
         | none=>rfl
         | some p =>
          simp only[qRt] at hho
          show some (if y=p.1 then e.row p.2 else e.val i [(1,y,0)])=_
          rw[if_neg (by omega)]
       ·intro y hy hin
        obtain⟨qR,g1,g2,g3⟩:=d4 y hy (inho y (inne y hin) hin)
        refine⟨qR,jQ g1 fun b hb=>setRow_other w _ b _ (fun hh=>?_),g2,qY (Mem.sub_mono hM _) g3⟩
        subst hh
        exact d6 y b hy (inho y (inne y hin) hin) hb (by rw[hv]; rfl)
       ·intro y y' b hy hy' h1 h2
        exact d5 y y' b hy hy' (inho y (inne y h1) h1) (inho y' (inne y' h2) h2)
       ·intro y b hy h1
        exact d6 y b hy (inho y (inne y h1) h1)
      ·intro k2 m2 hk2
       simp only[sI,pI] at hk2
       rw[List.length_set]
       omega
      ·intro b hb
       rcases hb with hb | ⟨y,hy,hin,hb⟩
       ·exact .inr ⟨i,_,hi,.inl hb,.inl rfl⟩
       ·exact .inr ⟨i,_,hi,.inr ⟨y,hy,inho y (inne y hin) hin,hb⟩,.inl rfl⟩
      ·intro b _ hne
       exact setRow_other w _ b _ (fun hh=>hne (by rw[hh]))
     ·simp only[execOp,ho,(qH T hx).1,(qH T hy).1]
      rw[Sem.run_bind]
      simp only[den,hv,qAq,Nat.mul_one,Nat.add_zero]
      rw[hr]
      rfl
  ·cases hq
 ·cases hq
theorem qNg(hF:zP F)(T:zA n h.length tm e a)(S:qP F w0 h e w){o:Oper}{T0:TypeId}{x y:Operand}(ho:o.op=.store T0 x y)(hq:qRd P tm h D T0 x y=some (r,h',sd,D'))(hsd:∀ x∈sd,x (mem w e h)):yS P F w0 h h' e a w o r:=by
 unfold qRd at hq
 split at hq
 ·rename_i z hz
  simp only[sI] at hq
  subst hq
  exact qNd hF T S ho hz hsd
 ·exact qKc hF T S ho hq hsd
end
end Go.Sx
/- make; a range over a string; all operations that make or write memory together. -/
namespace Go.Sx
open Go.RowKit

def zCz(P:Program)(tm:List (Nat×SV))(h:List HO)(D:List Dec)(T:TypeId)(l c:Operand):LR :=
 match P.underlying T,qCz tm l,qCz tm c with
 | some (.slice el),some (_,li),some (_,ci)=>match P.info? el with
  | some i=>match i.zero with
   | some z=>bif Nat.beq z.cells.size i.size&&z.cells.toList.all (fun u=>u.oneCell')&&Nat.blt 0 z.cells.size then
     some (some (.o h.length),h++[.rowc el i.size li.toNat (.zero z.cells.toList)],xC [0≤li∧li≤ci∧(i.bytes:Int)*ci≤281474976710656∧ci≤9223372036854775807],D)
    else none
   | none=>none
  | none=>none
 | _,_,_=>none
def qKw(tm:List (Nat×SV))(x:Option Operand)(dflt:Nat):Option (Nat×List Prop) :=
 match x with
 | none=>some (dflt,[])
 | some x=>match qCz tm x with
  | some (_,i)=>some (i.toNat,[0≤i])
  | none=>none
def qQk(P:Program)(tm:List (Nat×SV))(h:List HO)(D:List Dec)(T:TypeId)(x:Operand)(lo hi mx:Option Operand):LR :=
 match P.underlying T,mx,evO tm x with
 | some (.slice el),none,some (.x i p)=>match h[i]? with
  | some (.ext b0 c0)=>match yF c0 p,jL P el with
   | some (.s false sz n c),some sz'=>bif Nat.beq sz sz' then
     match qKw tm lo 0,qKw tm hi n with
     | some (l,s1),some (u,s2)=>some (some (.x h.length []),h++[.ext b0 (.s false sz (u-l) (fun k j=>c (k+l) j))],xC (pvs c0 p++(s1++(s2++[l≤u∧u≤n]))),D)
     | _,_=>none
    else none
   | _,_=>none
  | _=>none
 | _,_,_=>none
def qXz(P:Program)(tm:List (Nat×SV))(h:List HO)(D:List Dec)(T:TypeId)(x:Operand):LR :=
 match P.underlying T,evO tm x with
 | some .string,some (.v (.string s))=>some (some (.p h.length 0),h++[.obj (.stringIter s 0)],[],D)
 | _,_=>none
def zDi(tm:List (Nat×SV))(h:List HO)(D:List Dec)(it:Operand)(isS:Bool):LR :=
 match evO tm it,isS with
 | some (.p i 0),true=>match h[i]? with
  | some (.obj (.stringIter s pos))=>match D with
   | .t::D'=>some (some (.tup [.bl true,.v (.int .i64 pos),.v (.int .i32 (Utf8.decode s pos).1)]),h.set i (.obj (.stringIter s (pos+(Utf8.decode s pos).2))),[fun _=>pos<s.size],D')
   | .f::D'=>some (some (.tup [.bl false]),h,[fun _=>¬ pos<s.size],D')
   | _=>none
  | _=>none
 | _,_=>none
def u8n:Value→Option Nat
 | .int .u8 x=>some x.toNat
 | _=>none
def txt(l:List Value):ByteArray:=⟨(l.map fun v=>UInt8.ofNat ((u8n v).getD 0)).toArray⟩
def qR(xs:List SV):List Value:=xs.map fun s=>(jR s).getD undef
def zNr(P:Program)(tm:List (Nat×SV))(h:List HO)(D:List Dec)(src dst:TypeId)(x:Operand):LR :=
 match P.underlying src,P.underlying dst with
 | some (.slice el),some .string=>match P.underlying el with
  | some (.int .u8)=>match evO tm x with
   | some (.o i)=>match h[i]? with
    | some (.row _ sz _ xs)=>bif Nat.beq sz 1 then some (some (.v (.string (txt (qR xs)))),h,[fun _=>xs=(qR xs).map SV.v∧∀ v∈qR xs,∃ n:Nat,v=.int .u8 (n:Int)],D) else none
    | _=>none
   | _=>none
  | _=>none
 | _,_=>none
def zRs(tm:List (Nat×SV))(x:Operand):Bool:=match evO tm x with
 | some (.qk ..)=>true
 | _=>false
def xl(P:Program)(tm:List (Nat×SV))(h:List HO)(D:List Dec)(o:Oper):LR :=
 match o.op with
 | .alloc T=>qYb P h D T
 | .box T x=>zNi tm h D T x
 | .store T x y=>match (bif zRs tm x then qRd P tm h D T x y else none) with
  | some r=>some r
  | none=>qWo P tm h D T x y
 | .slice T x lo hi mx=>qQk P tm h D T x lo hi mx
 | .buildSlice t len parts=>qDz P tm h D t len parts
 | .makeSlice T l c=>zCz P tm h D T l c
 | .range T x=>qXz P tm h D T x
 | .next it isS=>zDi tm h D it isS
 | .convert src dst x=>zNr P tm h D src dst x
 | .call c=>match c.callee with
  | .builtin .append=>match c.args.toList,c.argTypes.toList with
   | [s,x],[T,Tx]=>qSh P tm h D T Tx s x
   | _,_=>none
  | _=>none
 | _=>none
section
variable {P : Program} {F : Mem → Prop} {w0 : wO} {tm : List (Nat × SV)} {n : Nat} {h h' : List HO} {e : Env} {a : Act} {w : World} {D D' : List Dec} {r : Option SV} {sd : List zF}

theorem qP.newObj(hF:zP F)(S:qP F w0 h e w)(o:Obj)(ho:qZh o=false):
  qP F w0 (h++[.obj o]) (e.setB h.length w.heap.size) (w.alloc o):=by
 refine S.next hF h.length (.obj o) (by simp) (by simp) (yW e _ _) ?_ ?_ none (by simp) ?_ ?_ trivial ?_ ?_ (by simp) rfl rfl rfl
 ·intro i x hi hi'
  refine .inl ?_
  rw[List.getElem?_append] at hi'
  split at hi'
  ·exact hi'
  ·rename_i hlt
   cases hk:i-h.length with
   | zero=>omega
   | succ k=>rw[hk] at hi'; simp at hi'
 ·intro i x _ hi
  refine .inl ?_
  rw[List.getElem?_append_left (List.getElem?_eq_some_iff.1 hi).1]
  exact hi
 ·intro x b hi _
  have:=(List.getElem?_eq_some_iff.1 hi).1
  omega
 ·intro _
  simp only[HO.sat,Env.setB,if_true]
  exact⟨heap_alloc_new w o,ho⟩
 ·intro b hb
  simp only[HO.own,Env.setB,if_true] at hb
  exact .inl (by omega)
 ·intro b hb _
  exact heap_alloc_old w _ b hb
theorem qDv(z:Array Value)(m n:Nat)(h:m≤n):(madeCells z n).toList.take m=(List.range m).map fun j=>z.toList[j%z.toList.length]!:=by
 simp only[madeCells,Array.toList_map,Array.toList_range,← List.map_take]
 rw[List.take_range,Nat.min_eq_left h]
 simp
 intro q _
 rw[getElem!_def]
 cases z[q%z.size]? <;> rfl
theorem qMw(z:Array Value)(m n:Nat){k j sz:Nat}(hm:n*sz≤m)(hsz:z.size=sz)(hk:k<n)(hj:j<sz):(madeCells z m).toList[k*sz+j]?=some (z.toList.getD j undef):=by
 have hlt:=qFj hk hj
 have h1:=qDv z (n*sz) m hm
 have h2:(madeCells z m).toList[k*sz+j]?=((madeCells z m).toList.take (n*sz))[k*sz+j]?:=by rw[List.getElem?_take,if_pos hlt]
 rw[h2,h1,List.getElem?_map,List.getElem?_range hlt]
 simp only[Option.map_some,Array.length_toList,hsz]
 have h3:(k*sz+j)%sz=j:=by rw[Nat.add_comm,Nat.mul_comm,Nat.add_mul_mod_self_left,Nat.mod_eq_of_lt hj]
 rw[h3,List.getD_eq_getElem?_getD,getElem!_pos z.toList j (by simp [hsz,hj]),List.getElem?_eq_getElem (by simp [hsz,hj])]
 rfl
theorem qTs(hF:zP F)(T:zA n h.length tm e a)(S:qP F w0 h e w){o:Oper}{T0:TypeId}{l c:Operand}(ho:o.op=.makeSlice T0 l c)(hq:zCz P tm h D T0 l c=some (r,h',sd,D'))(hsd:∀ x∈sd,x (mem w e h)):yS P F w0 h h' e a w o r:=by
 unfold zCz at hq
 split at hq
 ·rename_i el kl li kc ci hu hl hc
  split at hq
  ·rename_i i hi
   split at hq
   ·rename_i z hz
    cases hb:Nat.beq z.cells.size i.size&&z.cells.toList.all (fun u=>u.oneCell')&&Nat.blt 0 z.cells.size with
    | false=>rw[hb] at hq; cases hq
    | true =>
    rw[hb] at hq
    simp only[cond_true,sI,pI] at hq
    obtain⟨rfl,rfl,rfl,rfl⟩:=hq
    rw[Bool.and_eq_true,Bool.and_eq_true] at hb
    have hzs:=Nat.eq_of_beq_eq_true hb.1.1
    have s5:=hb.1.2
    obtain⟨s1,s2,s3,s4⟩:=zQ hsd _ List.mem_cons_self
    have hr:=run_make (P:=P) w T0 el i z hu hi hz kl kc li ci s1 s2 s3 s4
    have hle:li.toNat*i.size≤ci.toNat*i.size:=Nat.mul_le_mul_right _ (by omega)
    rw[List.all_eq_true] at s5
    have hz1:∀ j,j<i.size→(z.cells.toList.getD j undef).oneCell'=true:=by
     intro j hj
     rw[List.getD_eq_getElem?_getD,List.getElem?_eq_getElem (by simpa[hzs] using hj)]
     exact s5 _ (List.getElem_mem _)
    refine⟨_,_,zO e h.length (.slice (some ⟨w.heap.size,0,none⟩) li.toNat ci.toNat),by simp,
     S.newRowc hF (w':=w.alloc (.cells (madeCells z.cells (ci.toNat*i.size)) el)) el i.size li.toNat _ _ (fun _=>⟨(madeCells z.cells (ci.toNat*i.size)).toList.take (li.toNat*i.size),?_,?_,?_⟩) ?_ (World.grownBy_alloc w _ none),fun _ b hb=>heap_alloc_old w _ b hb,?_,?_⟩
    ·exact⟨by rw[List.length_take,Array.length_toList,size_madeCells]; omega,.inr ⟨w.heap.size,ci.toNat,_,rfl,Nat.zero_le _,heap_alloc_new w _,by omega,by unfold maxLen; omega,size_madeCells _ _,rfl⟩⟩
    ·intro u hu
     rw[qDv _ _ _ hle,List.mem_map] at hu
     obtain⟨j,_,rfl⟩:=hu
     have hb2:=hb.2
     have h0:0<z.cells.size:=by have:=Nat.le_of_ble_eq_true hb2; omega
     have hlt:j%z.cells.toList.length<z.cells.toList.length:=Nat.mod_lt _ (by simpa using h0)
     rw[getElem!_pos z.cells.toList _ hlt]
     exact s5 _ (List.getElem_mem hlt)
    ·intro k hk j hj
     refine⟨_,?_,qFt (hz1 j hj)⟩
     rw[List.getElem?_take,if_pos (qFj hk hj)]
     exact qMw z.cells _ _ hle hzs hk hj
    ·intro b hb
     simp only[Value.ownBlock,sI] at hb
     omega
    ·simp only[execOp,ho,jG T hl,jG T hc]
     rw[Sem.run_bind,hr]
     simp only[Result.andThen_ok,Sem.run_pure,den,Env.setR,if_true]
    ·simp [ws]
   ·cases hq
  ·cases hq
 ·cases hq
theorem qP.newExt(hF:zP F)(S:qP F w0 h e w)(b0:Bool)(c:qB)(f:yC→Value)(hf:∀ p,(f p).oneCell'=true)(hc:wQ (if b0 then mem w e h else(mem w e h).sub e.z) f c []):qP F w0 (h++[.ext b0 c]) (e.setV h.length f hf) w:=by
 have hag:=jB e h.length f hf
 refine S.next hF h.length (.ext b0 c) (by simp) (by simp) hag ?_ ?_ none (by simp) (by simp [HO.own]) ?_ trivial (by simp [HO.own]) (fun b _ _=>rfl) (Nat.le_refl _) rfl rfl rfl
 ·intro i x hi hi'
  refine .inl ?_
  rw[List.getElem?_append] at hi'
  split at hi'
  ·exact hi'
  ·rename_i hlt
   cases hk:i-h.length with
   | zero=>omega
   | succ k=>rw[hk] at hi'; simp at hi'
 ·intro i x _ hi
  refine .inl ?_
  rw[List.getElem?_append_left (List.getElem?_eq_some_iff.1 hi).1]
  exact hi
 ·intro hM
  simp only[HO.sat]
  have hv:(e.setV h.length f hf).val h.length=f:=by simp [Env.setV]
  rw[hv]
  cases b0 with
  | true=>exact zT hM f c [] hc
  | false=>exact zT (Mem.sub_mono hM _) f c [] hc
theorem qEf(T:zA n h.length tm e a){x:Operand}{d r u:Nat}{l:List Prop}(hx:qKw tm (some x) d=some (r,l))(hl:∀ x∈l,x)(hu:r≤u)(c:BoundsCode):
  (Instr.sliceBound (a.eval x) u c).run P w=.ok r w:=by
 unfold qKw at hx
 simp only at hx
 split at hx
 ·rename_i k i hi
  simp only[sI,pI] at hx
  obtain⟨rfl,rfl⟩:=hx
  have h0:0≤i:=hl _ List.mem_cons_self
  rw[jG T hi]
  have h1:0≤i∧i≤(u:Int):=⟨h0,by omega⟩
  simp [Instr.sliceBound,asIntOf,h1]
 ·cases hx
theorem qNq(hF:zP F)(T:zA n h.length tm e a)(S:qP F w0 h e w){o:Oper}{T0:TypeId}{x:Operand}{lo hi mx:Option Operand}(ho:o.op=.slice T0 x lo hi mx)(hq:qQk P tm h D T0 x lo hi mx=some (r,h',sd,D'))(hsd:∀ x∈sd,x (mem w e h)):yS P F w0 h h' e a w o r:=by
 unfold qQk at hq
 split at hq
 ·rename_i el i p hu hx
  split at hq
  ·rename_i b0 c0 hi0
   split at hq
   ·rename_i sz n0 c sz' hc hsz
    cases hb:Nat.beq sz sz' with
    | false=>rw[hb] at hq; cases hq
    | true =>
     rw[hb] at hq
     simp only[cond_true] at hq
     have:=Nat.eq_of_beq_eq_true hb
     subst this
     split at hq
     ·rename_i l s1 u s2 hlo hhi
      simp only[sI,pI] at hq
      obtain⟨rfl,rfl,rfl,rfl⟩:=hq
      have hs:=zQ hsd
      obtain⟨hlu,hun⟩:l≤u∧u≤n0:=hs _ (List.mem_append_right _ (List.mem_append_right _ (List.mem_append_right _ List.mem_cons_self)))
      have b1:∀ x∈s1,x:=fun x hx=>hs x (List.mem_append_right _ (List.mem_append_left _ hx))
      have b2:∀ x∈s2,x:=fun x hx=>hs x (List.mem_append_right _ (List.mem_append_right _ (List.mem_append_left _ hx)))
      obtain⟨oa,⟨cap,hv,hcap⟩,h2⟩:wQ (if b0 then mem w e h else(mem w e h).sub e.z) (e.val i) (.s false sz n0 c) p:=by
       cases b0 with
       | true=>exact qCv S.q hi0 hc (fun x hx=>hs x (List.mem_append_left _ hx))
       | false=>exact qJt S.q hi0 hc (fun x hx=>hs x (List.mem_append_left _ hx))
      have hbnd:(Instr.sliceBounds true n0 cap (lo.map a.eval) (hi.map a.eval) none).run P w=.ok (l,u,cap) w:=by
       cases hi with
       | none =>
        simp only[qKw,sI,pI] at hhi
        obtain⟨rfl,_⟩:=hhi
        cases lo with
        | none =>
         simp only[qKw,sI,pI] at hlo
         obtain⟨rfl,_⟩:=hlo
         simp [Instr.sliceBounds]
        | some z =>
         have b3:=fun c=>qEf (P:=P) (w:=w) T hlo b1 hlu c
         simp [Instr.sliceBounds,b3]
       | some y =>
        have b2':=fun c=>qEf (P:=P) (w:=w) T hhi b2 (show u≤cap by omega) c
        cases lo with
        | none =>
         simp only[qKw,sI,pI] at hlo
         obtain⟨rfl,_⟩:=hlo
         simp [Instr.sliceBounds,b2']
        | some z =>
         have b3:=fun c=>qEf (P:=P) (w:=w) T hlo b1 hlu c
         simp [Instr.sliceBounds,b2',b3]
      let v':Value:=.slice (if cap=l then oa else oa.map fun ad=>ad.add (l*sz)) (u-l) (cap-l)
      let f:yC→Value:=fun q=>match q with
       | []=>v'
       | (s',k,j)::q=>e.val i (p++(s',k+l,j)::q)
      have hf:∀ q,(f q).oneCell'=true:=fun q=>match q with
       | []=>rfl
       | (s',k,j)::q=>e.one i _
      have hrep:wQ (if b0 then mem w e h else(mem w e h).sub e.z) f (.s false sz (u-l) (fun k j=>c (k+l) j)) []:=by
       refine⟨_,⟨cap-l,rfl,by omega⟩,?_⟩
       rcases h2 with h0 | ⟨ad,rfl,h3⟩
       ·exact .inl (by omega)
       ·by_cases hul:u-l=0
        ·exact .inl hul
        ·refine .inr ⟨ad.add (l*sz),by rw[if_neg (by omega)]; rfl,fun k hk j hj=>?_⟩
         obtain⟨q1,q2⟩:=h3 (k+l) (by omega) j hj
         refine⟨?_,?_⟩
         ·rw[Go.Deep.add_add,show l*sz+(k*sz+j)=(k+l)*sz+j by rw[Nat.add_mul]; omega]
          exact q1
         ·have e1:=(xH (e.val i) (p++[(sz,k+l,j)]) (c (k+l) j) []).2 (by simpa using q2)
          have e2:=(xH f [(sz,k,j)] (c (k+l) j) []).1 (by
           have:(fun r=>f ([(sz,k,j)]++r))=fun r=>e.val i (p++[(sz,k+l,j)]++r):=by
            funext r
            show e.val i (p++(sz,k+l,j)::r)=_
            rw[List.append_assoc]; rfl
           rw[this]; exact e1)
          simpa using e2
      refine⟨_,w,jB e h.length f hf,by simp,S.newExt hF b0 _ f hf hrep,fun _ _ _=>rfl,?_,?_⟩
      ·simp only[execOp,ho,(qH T hx).1,den,Option.map_none,Instr.sliceAt,Instr.slice,hv,Sem.run_bind,run_underlying hu,Result.andThen_ok,Sem.run_pure,hbnd,zI hsz,Env.setV,if_true]
       rfl
      ·simp [ws]
     ·cases hq
   ·cases hq
  ·cases hq
 ·cases hq
theorem qRy(hF:zP F)(T:zA n h.length tm e a)(S:qP F w0 h e w){o:Oper}{T0:TypeId}{x:Operand}(ho:o.op=.range T0 x)(hq:qXz P tm h D T0 x=some (r,h',sd,D')):yS P F w0 h h' e a w o r:=by
 unfold qXz at hq
 split at hq
 ·rename_i s hu hx
  simp only[sI,pI] at hq
  obtain⟨rfl,rfl,rfl,rfl⟩:=hq
  refine⟨_,_,yW e h.length w.heap.size,by simp,S.newObj hF (.stringIter s 0) rfl,fun _ b hb=>heap_alloc_old w _ b hb,?_,?_⟩
  ·simp only[execOp,ho,(qH T hx).1,den]
   rw[Sem.run_bind,run_range_string w T0 s hu]
   simp only[Result.andThen_ok,Sem.run_pure,Env.setB,if_true]
   rfl
  ·simp [ws]
 ·cases hq
theorem qVo(hF:zP F)(T:zA n h.length tm e a)(S:qP F w0 h e w){o:Oper}{it:Operand}{isS:Bool}(ho:o.op=.next it isS)(hq:zDi tm h D it isS=some (r,h',sd,D'))(hsd:∀ x∈sd,x (mem w e h)):yS P F w0 h h' e a w o r:=by
 unfold zDi at hq
 split at hq
 ·rename_i i hx
  split at hq
  ·rename_i s pos hi
   have hsat:=(S.sat i _ hi).1
   have hlt:e.blk i<w.heap.size:=(Array.getElem?_eq_some_iff.1 hsat).1
   split at hq
   ·simp only[sI,pI] at hq
    obtain⟨rfl,rfl,rfl,rfl⟩:=hq
    have hp:pos<s.size:=hsd _ List.mem_cons_self
    refine⟨e,{ w with heap:=w.heap.setIfInBounds (e.blk i) (.stringIter s (pos+(Utf8.decode s pos).2)) },zD.refl _ _,by simp,
     S.turn hF hi (e.blk i) (fun _=>Iff.rfl) (fun _=>Iff.rfl) ?_ trivial ?_ (by simp) rfl rfl rfl,(fun hk=>by rw[yN,ho] at hk; cases hk),?_,?_⟩
    ·intro _
     simp only[HO.sat]
     exact⟨by simp [hlt],rfl⟩
    ·intro k _ hne
     simp [Array.getElem?_setIfInBounds_ne (Ne.symm hne)]
    ·simp only[execOp,ho,(qH T hx).1,den,qN]
     simp [Instr.next,getObj,setObj,Sem.run,hsat,hp,goInt]
    ·exact⟨trivial,trivial,trivial,trivial⟩
   ·simp only[sI,pI] at hq
    obtain⟨rfl,rfl,rfl,rfl⟩:=hq
    have hp:¬ pos<s.size:=hsd _ List.mem_cons_self
    refine⟨e,w,zD.refl _ _,Nat.le_refl _,S,fun _ _ _=>rfl,?_,?_⟩
    ·simp only[execOp,ho,(qH T hx).1,den,qN]
     simp [Instr.next,getObj,Sem.run,hsat,hp]
    ·exact⟨trivial,trivial⟩
   ·cases hq
  ·cases hq
 ·cases hq
theorem qDy:∀(l:List Value) (r:ByteArray),(l.map fun v=>((u8n v).getD 0:Nat)).foldl (fun(r:ByteArray) (n:Nat)=>r.push (UInt8.ofNat ((n:Int)).toNat)) r=⟨r.data++(l.map fun v=>UInt8.ofNat ((u8n v).getD 0)).toArray⟩
 | [],r=>by simp
 | v::l,r=>by
  simp only[List.map_cons,List.foldl_cons]
  rw[qDy l]
  simp [ByteArray.push]
theorem qWw(T:zA n h.length tm e a)(S:qP F w0 h e w){o:Oper}{src dst:TypeId}{x:Operand}(ho:o.op=.convert src dst x)(hq:zNr P tm h D src dst x=some (r,h',sd,D'))(hsd:∀ x∈sd,x (mem w e h)):yS P F w0 h h' e a w o r:=by
 unfold zNr at hq
 split at hq
 ·rename_i el hs hd
  split at hq
  ·rename_i he
   split at hq
   ·rename_i i hx
    split at hq
    ·rename_i T1 sz m xs hi
     cases hb:Nat.beq sz 1 with
     | false=>rw[hb] at hq; cases hq
     | true =>
      rw[hb] at hq
      simp only[cond_true,sI,pI] at hq
      obtain⟨rfl,rfl,rfl,rfl⟩:=hq
      have hsz:=Nat.eq_of_beq_eq_true hb
      subst hsz
      obtain⟨hp,hu8⟩:xs=(qR xs).map SV.v∧∀ v∈qR xs,∃ n:Nat,v=.int .u8 (n:Int):=hsd _ List.mem_cons_self
      refine⟨e,w,zD.refl _ _,Nat.le_refl _,S,fun _ _ _=>rfl,?_,trivial⟩
      obtain⟨⟨h1,h2⟩,_⟩:=S.sat i _ hi
      have hden:qN e xs=qR xs:=by
       conv=>lhs; rw[hp,qAd]
      rw[hden] at h1 h2
      have hints:qR xs=((qR xs).map fun v=>((u8n v).getD 0:Nat)).map fun n=>Value.int .u8 ((n:Nat):Int):=by
       rw[List.map_map]
       conv=>lhs; rw[← List.map_id (qR xs)]
       apply List.map_congr_left
       intro v hv
       obtain⟨k,rfl⟩:=hu8 v hv
       simp [u8n]
      simp only[execOp,ho,(qH T hx).1,den]
      rcases h2 with ⟨hv,hn⟩ | ⟨g,cap,cur,hv,hrest⟩
      ·subst hn
       have hnil:qR xs=[]:=List.eq_nil_of_length_eq_zero (by rw[h1])
       rw[hv,hnil,Sem.run_bind,run_convert_bytes_string w src dst el none 0 0 hs he hd]
       rfl
      ·have hown':w.ownsRow 0 T1 1 (e.row i) m (qR xs):=⟨h1,.inr ⟨g,cap,cur,hv,hrest⟩⟩
       have hc:=hown'.cells (by rw[hv]; rfl)
       rw[hv,Sem.run_bind,run_convert_bytes_string w src dst el _ m cap hs he hd]
       have hl:(loadCells ⟨g,0,none⟩ m).run P w=.ok (((qR xs).map fun v=>((u8n v).getD 0:Nat)).map fun n=>Value.int .u8 ((n:Nat):Int)).toArray w:=by
        rw[← hints]
        have hm1:m=(qR xs).length:=by rw[h1,Nat.mul_one]
        rw[hm1]
        exact run_loadCells_list w ⟨g,0,none⟩ (qR xs) hc
       have:=run_bytesToString (P:=P) w ⟨g,0,none⟩ m cap (((qR xs).map fun v=>((u8n v).getD 0:Nat)).map fun n=>((n:Nat):Int)) (by rw[List.map_map]; exact hl)
       rw[this,List.foldl_map,qDy]
       simp [Sem.run_pure,txt]
    ·cases hq
   ·cases hq
  ·cases hq
 ·cases hq
theorem zEz(hF:zP F)(T:zA n h.length tm e a)(S:qP F w0 h e w){o:Oper}(hq:xl P tm h D o=some (r,h',sd,D'))(hsd:yE F sd):yS P F w0 h h' e a w o r:=by
 have hs:∀ x∈sd,x (mem w e h):=fun x hx=>hsd x hx _ S.fact
 unfold xl at hq
 split at hq
 ·rename_i ho; exact qQu hF S ho hq
 ·rename_i ho; exact qXl hF T S ho hq
 ·rename_i ho
  split at hq
  ·rename_i r0 hr
   simp only[sI] at hq
   subst hq
   cases hb:zRs tm _ with
   | false=>rw[hb] at hr; cases hr
   | true=>rw[hb] at hr; exact qNg hF T S ho hr hs
  ·exact qQq hF T S ho hq hs
 ·rename_i ho; exact qNq hF T S ho hq hs
 ·rename_i ho; exact qGj hF T S ho hq
 ·rename_i ho; exact qTs hF T S ho hq hs
 ·rename_i ho; exact qRy hF T S ho hq
 ·rename_i ho; exact qVo hF T S ho hq hs
 ·rename_i ho; exact qWw T S ho hq hs
 ·rename_i c ho
  split at hq
  ·rename_i hc
   split at hq
   ·rename_i s x T0 Tx h1 h2
    exact qMs hF T S ho hc (by rw[← h1]) (by rw[← h2]) hq hsd
   ·cases hq
  ·cases hq
 ·cases hq
end
end Go.Sx
/- Maps of one's own: made, read, written. -/
namespace Go.Pl
def jY:List (List Int)→List Int→Bool
 | k::r,x=>decide (x=k)||jY r x
 | [],_=>false
def zK:List (List Int)→List Int→List (List Int)
 | k::r,x=>bif decide (x=k) then k::r else k::zK r x
 | [],x=>[x]
def qU{α:Type}:List (List Int)→List α→List Int→α→List α
 | k::r,b::t,x,a=>bif decide (x=k) then a::t else b::qU r t x a
 | _,_,_,a=>[a]
def xP:List (List Int)→List Int→Nat
 | k::r,x=>bif decide (x=k) then 0 else xP r x+1
 | [],_=>0
def zG:List (List Int)→List Int→List Int→Int
 | k::r,b::t,x=>bif decide (x=k) then b else zG r t x
 | _,_,_=>0
end Go.Pl
namespace Go.Sx
open Go.Pl
def qJa:List (List Int)→List SV→List Int→Option SV
 | k::r,b::t,x=>bif decide (x=k) then some b else qJa r t x
 | _,_,_=>none
end Go.Sx
namespace Go.Sx
open Go.RowKit Go.Pl
theorem qLb:∀(kl:List (List Int)) (vs:List Value) (x:List Int) (i:Nat),vs.length=kl.length→(zY kl vs x i).isSome=jY kl x
 | [],_,x,i,_=>by simp [zY,jY]
 | k::r,v::t,x,i,h=>by
  by_cases hx:x=k
  ·simp [zY,jY,hx]
  ·simp [zY,jY,hx,qLb r t x (i+1) (by simpa using h)]
 | k::r,[],x,i,h=>by simp at h
theorem xK{α:Type}:∀(kl:List (List Int)) (vs:List α) (x:List Int) (a:α),vs.length=kl.length→(qU kl vs x a).length=(zK kl x).length
 | [],[],x,a,_=>rfl
 | k::r,b::t,x,a,h=>by
  by_cases hx:x=k
  ·simp [zK,qU,hx]; simpa using h
  ·simp [zK,qU,hx,xK r t x a (by simpa using h)]
 | k::r,[],x,a,h=>by simp at h
 | [],_::_,x,a,h=>by simp at h
theorem qKx:∀(kl:List (List Int)) (x y:List Int),y∈zK kl x→y∈kl∨y=x
 | [],x,y,h=>by simpa[zK] using h
 | k::r,x,y,h=>by
  by_cases hx:x=k
  ·simp only[zK,hx,decide_true,cond_true] at h
   exact .inl h
  ·simp only[zK,hx,decide_false,cond_false] at h
   rcases List.mem_cons.1 h with rfl | h
   ·exact .inl List.mem_cons_self
   ·exact(qKx r x y h).imp (List.mem_cons_of_mem _) id
theorem qKh(ag:Bool)(ks:List IntKind)(x:List Int)(a:Value):∀(i j:Nat) (kl:List (List Int)) (vs:List Value),vs.length=kl.length→zY kl vs x j=none →
  mpE ag ks i (zK kl x) (qU kl vs x a)=mpE ag ks i kl vs++[⟨mkT ag ks x,a,i+kl.length⟩]∧(zK kl x).length=kl.length+1
 | i,j,[],[],_,_=>by simp [zK,qU,mpE]
 | i,j,k::r,v::t,h,hf=>by
  by_cases hx:x=k
  ·simp [zY,hx] at hf
  ·simp only[zY,hx,if_false] at hf
   obtain⟨h1,h2⟩:=qKh ag ks x a (i+1) (j+1) r t (by simpa using h) hf
   simp only[zK,qU,hx,decide_false,cond_false,mpE,h1,List.length_cons,h2,List.cons_append]
   exact⟨by rw[show i+1+r.length=i+(r.length+1) by omega],trivial⟩
 | i,j,k::r,[],h,_=>by simp at h
 | i,j,[],_::_,h,_=>by simp at h
theorem qYi(ag:Bool)(ks:List IntKind)(x:List Int)(a u:Value):∀(i j d:Nat) (kl:List (List Int)) (vs:List Value),vs.length=kl.length→zY kl vs x j=some (d,u) →
  ∃ n,d=j+n∧mpE ag ks i (zK kl x) (qU kl vs x a)=(mpE ag ks i kl vs).modify n (fun e=>{ e with key:=mkT ag ks x,val:=a })∧(zK kl x).length=kl.length∧((mpE ag ks i kl vs)[n]?).map (·.key)=some (mkT ag ks x)
 | i,j,d,[],vs,_,hf=>by simp [zY] at hf
 | i,j,d,k::r,v::t,h,hf=>by
  by_cases hx:x=k
  ·subst hx
   simp only[zY,if_true,sI,pI] at hf
   obtain⟨rfl,rfl⟩:=hf
   exact⟨0,rfl,by simp [zK,qU,mpE],by simp [zK],by simp [mpE]⟩
  ·simp only[zY,hx,if_false] at hf
   obtain⟨n,h1,h2,h3,h4⟩:=qYi ag ks x a u (i+1) (j+1) d r t (by simpa using h) hf
   refine⟨n+1,by omega,?_,?_,?_⟩
   ·simp only[zK,qU,hx,decide_false,cond_false,mpE,h2,List.modify_succ_cons]
   ·simp only[zK,hx,decide_false,cond_false,List.length_cons,h3]
   ·simp only[mpE,List.getElem?_cons_succ]; exact h4
 | i,j,d,k::r,[],h,_=>by simp at h
theorem qEj{α β:Type}(g:α→β):∀(kl:List (List Int)) (l:List α) (x:List Int) (a:α),(qU kl l x a).map g=qU kl (l.map g) x (g a)
 | [],l,x,a=>by simp [qU]
 | k::r,[],x,a=>by simp [qU]
 | k::r,b::t,x,a=>by
  by_cases hx:x=k
  ·simp [qU,hx]
  ·simp [qU,hx,qEj g r t x a]
theorem qQf{α:Type}(u:α):∀(kl:List (List Int)) (x:List Int),qU kl (List.replicate kl.length u) x u=List.replicate (zK kl x).length u
 | [],x=>rfl
 | k::r,x=>by
  by_cases hx:x=k
  ·simp [qU,zK,hx,List.replicate_succ]
  ·simp [qU,zK,hx,List.replicate_succ,qQf u r x]
theorem qFr(q:IntKind):∀(kl:List (List Int)) (l:List Int) (x:List Int) (i:Nat),l.length=kl.length→((zY kl (l.map (Value.int q)) x i).map (·.2)).getD (.int q 0)=.int q (zG kl l x)
 | [],l,x,i,_=>by simp [zY,zG]
 | k::r,b::t,x,i,h=>by
  by_cases hx:x=k
  ·simp [zY,zG,hx]
  ·simp [zY,zG,hx,qFr q r t x (i+1) (by simpa using h)]
 | k::r,[],x,i,h=>by simp at h
theorem qVu:∀(kl:List (List Int)) (x:List Int) (i:Nat),((zY kl (List.replicate kl.length (.agg #[])) x i).map (·.2)).getD (.agg #[])=.agg #[]
 | [],x,i=>by simp [zY]
 | k::r,x,i=>by
  by_cases hx:x=k
  ·simp [zY,hx,List.replicate_succ]
  ·simp [zY,hx,List.replicate_succ,qVu r x (i+1)]
theorem qLc(e:Env):∀(kl:List (List Int)) (xs:List SV) (x:List Int) (i:Nat) (s:SV),qJa kl xs x=some s→(zY kl (qN e xs) x i).map (·.2)=some (den e s)∧jY kl x=true∧s∈xs
 | [],_,x,i,s,h=>by simp [qJa] at h
 | k::r,[],x,i,s,h=>by simp [qJa] at h
 | k::r,b::t,x,i,s,h=>by
  by_cases hx:x=k
  ·simp only[qJa,hx,decide_true,cond_true,sI] at h
   subst h
   simp [zY,jY,hx,qN]
  ·simp only[qJa,hx,decide_false,cond_false] at h
   obtain⟨h1,h2,h3⟩:=qLc e r t x (i+1) s h
   exact⟨by simpa[zY,hx,qN] using h1,by simp [jY,h2],List.mem_cons_of_mem _ h3⟩
def qDu:List IntKind→List IntKind→Bool
 | [],[]=>true
 | a::r,b::t=>decide (a=b)&&qDu r t
 | _,_=>false
theorem qHl:∀ {a b:List IntKind},qDu a b=true→a=b
 | [],[],_=>rfl
 | a::r,b::t,h=>by
  simp only[qDu,Bool.and_eq_true,decide_eq_true_eq] at h
  rw[h.1,qHl h.2]
 | [],_::_,h=>by simp [qDu] at h
 | _::_,[],h=>by simp [qDu] at h
def zEw(tm:List (Nat×SV))(ag:Bool)(ks:List IntKind)(k:Operand):Option (List Int) :=
 match ag with
 | true=>match qCy tm k with
  | some (.agg cs)=>jE ks cs.toList
  | _=>none
 | false=>match qCz tm k,ks with
  | some (q,a),[q']=>bif decide (q=q') then some [a] else none
  | _,_=>none
def mc0(P:Program)(el:TypeId):Mc :=
 match P.underlying el with
 | some (.int q)=>.ints q []
 | some (.struct fs)=>bif Nat.beq fs.size 0 then .unit else .svs []
 | _=>.svs []
def qWa(P:Program)(key:TypeId→Option (Bool×List IntKind))(h:List HO)(D:List Dec)(T:TypeId):LR :=
 match P.underlying T with
 | some (.map kt el)=>match key kt with
  | some (ag,ks)=>some (some (.m h.length),h++[.mp ag ks [] (mc0 P el)],[],D)
  | none=>none
 | _=>none
def zPo(tm:List (Nat×SV))(kl:List (List Int))(c:Mc)(x:List Int)(v:Operand):Option (List (List Int)×Mc×List zF) :=
 match c with
 | .unit=>match qCy tm v with
  | some (.agg cs)=>bif Nat.beq cs.size 0 then some (zK kl x,.unit,[]) else none
  | _=>none
 | .ints q l=>match qCz tm v with
  | some (q',a)=>bif decide (q=q') then some (zK kl x,.ints q (qU kl l x a),[]) else none
  | none=>none
 | .svs xs=>match evO tm v with
  | some s=>some (zK kl x,.svs (qU kl xs x s),[])
  | none=>none
def qJo(P:Program)(key:TypeId→Option (Bool×List IntKind))(tm:List (Nat×SV))(h:List HO)(D:List Dec)(T:TypeId)(m k v:Operand):LR :=
 match P.underlying T,evO tm m with
 | some (.map kt _),some (.m i)=>match key kt,h[i]? with
  | some (ag,ks),some (.mp ag' ks' kl c)=>bif(ag==ag')&&qDu ks ks' then
    match zEw tm ag ks k with
    | some x=>match zPo tm kl c x v with
     | some (kl',c',sd)=>some (none,h.set i (.mp ag ks kl' c'),sd,D)
     | none=>none
    | none=>none
   else none
  | _,_=>none
 | _,_=>none
def okv(ok:Bool)(s:SV)(b:Bool):SV:=bif ok then .tup [s,.v (.bool b)] else s
def zAx(P:Program)(el:TypeId)(q:IntKind):Bool :=
 match qEx P (zeroValue el) with
 | some (.int q' n)=>decide (q'=q∧n=0)
 | _=>false
def zDq(P:Program)(el:TypeId):Bool :=
 match qEx P (zeroValue el) with
 | some (.agg cs)=>Nat.beq cs.size 0
 | _=>false
def qRg(P:Program)(key:TypeId→Option (Bool×List IntKind))(tm:List (Nat×SV))(h:List HO)(D:List Dec)(T:TypeId)(m k:Operand)(ok:Bool):LR :=
 match P.underlying T,evO tm m with
 | some (.map kt el),some (.m i)=>match key kt,h[i]? with
  | some (ag,ks),some (.mp ag' ks' kl c)=>bif(ag==ag')&&qDu ks ks' then
    match zEw tm ag ks k,c with
    | some x,.unit=>bif zDq P el then some (some (okv ok (.v (.agg #[])) (jY kl x)),h,[],D) else none
    | some x,.ints q l=>bif zAx P el q then some (some (okv ok (.v (.int q (zG kl l x))) (jY kl x)),h,[],D) else none
    | some x,.svs xs=>match qEx P (zeroValue el),D with
     | some z,.lx []::D'=>some (some (okv ok (.v z) false),h,[fun _=>jY kl x=false],D')
     | some _,.ld s::D'=>some (some (okv ok s true),h,[fun _=>qJa kl xs x=some s],D')
     | _,_=>none
    | _,_=>none
   else none
  | _,_=>none
 | _,_=>none
def qSg(P:Program)(key:TypeId→Option (Bool×List IntKind))(tm:List (Nat×SV))(h:List HO)(D:List Dec)(T:TypeId)(m k:Operand):LR :=
 match P.underlying T,evO tm m with
 | some (.map kt el),some (.m i)=>match key kt,h[i]? with
  | some (ag,ks),some (.mp ag' ks' kl (.ints q l))=>bif(ag==ag')&&qDu ks ks'&&zAx P el q then
    match zEw tm ag ks k with
    | some x=>some (some (.tup [.v (.int q (zG kl l x)),.v (.int .i64 (xP kl x:Nat))]),h.set i (.mp ag ks (zK kl x) (.ints q (qU kl l x (zG kl l x)))),[],D)
    | none=>none
   else none
  | _,_=>none
 | _,_=>none
def qXn(tm:List (Nat×SV))(h:List HO)(D:List Dec)(m s v:Operand):LR :=
 match evO tm m,qCz tm s,qCz tm v with
 | some (.m i),some (_,z),some (q',y)=>match h[i]? with
  | some (.mp ag ks kl (.ints q l))=>bif decide (q=q') then some (none,h.set i (.mp ag ks kl (.ints q (l.set z.toNat y))),[fun _=>0≤z∧z<(kl.length:Int)],D) else none
  | _=>none
 | _,_,_=>none
def xm(P:Program)(key:TypeId→Option (Bool×List IntKind))(tm:List (Nat×SV))(h:List HO)(D:List Dec)(o:Oper):LR :=
 match o.op with
 | .makeMap T none=>qWa P key h D T
 | .mapUpdate T m k v=>qJo P key tm h D T m k v
 | .insert T m k v=>qJo P key tm h D T m k v
 | .lookup T m k ok=>qRg P key tm h D T m k ok
 | .mapEntry T m k=>qSg P key tm h D T m k
 | .entryStore _ m s v=>qXn tm h D m s v
 | _=>none
section
variable {P : Program} {F : Mem → Prop} {w0 : wO} {tm : List (Nat × SV)} {n : Nat} {h h' : List HO} {e : Env} {a : Act} {w : World} {D D' : List Dec} {r : Option SV} {sd : List zF} {key : TypeId → Option (Bool × List IntKind)}

theorem qAp(T:zA n h.length tm e a){ag:Bool}{ks:List IntKind}{k:Operand}{x:List Int}(hk:zEw tm ag ks k=some x):a.eval k=mkT ag ks x∧x.length=ks.length:=by
 unfold zEw at hk
 cases ag with
 | true =>
  simp only at hk
  split at hk
  ·rename_i cs hc
   obtain⟨h1,h2⟩:=wX ks _ hk
   refine⟨?_,h2⟩
   rw[zN T hc]
   simp only[mkT,if_true]
   rw[← h1]
  ·cases hk
 | false =>
  simp only at hk
  split at hk
  ·rename_i q y q' hi
   by_cases hq:q=q'
   ·subst hq
    simp only[decide_true,cond_true,sI] at hk
    subst hk
    exact⟨by rw[jG T hi]; simp [mkT,qW],rfl⟩
   ·simp [hq] at hk
  ·cases hk
theorem qHk{ag:Bool}{ks:List IntKind}(h1:ag=false→ks.length=1):∀(xs:List Int),xs.length=ks.length→Instr.sameBits 10000 (mkT ag ks xs) (mkT ag ks xs)=true:=by
 intro xs hx
 have hs:∀(m:Nat) (ks:List IntKind) (xs:List Int),((qW ks xs).zip (qW ks xs)).all (fun(p:Value×Value)=>Instr.sameBits m p.1 p.2)=true:=by
  intro m ks
  induction ks with
  | nil=>intro xs; rfl
  | cons q ks ih =>
   intro xs
   cases xs with
   | nil=>rfl
   | cons x xs =>
    have hb:Instr.sameBits m (.int q x) (.int q x)=true:=by cases m <;> simp [Instr.sameBits]
    simp only[qW,List.zip_cons_cons,List.all_cons,hb,Bool.true_and]
    exact ih xs
 cases ag with
 | true =>
  simp only[mkT,if_true]
  rw[show(10000:Nat)=9999+1 by rfl,Instr.sameBits]
  simp only[beq_self_eq_true,Bool.true_and]
  exact hs 9999 ks xs
 | false =>
  have h1':=h1 rfl
  match ks,xs,h1',hx with
  | [q],[x],_,_=>simp [mkT,qW,Instr.sameBits]
theorem qP.newMp(hF:zP F)(S:qP F w0 h e w)(ag:Bool)(ks:List IntKind)(c:Mc)(hc:∀ e,c.den e 0=[])(hw:∀ m,c.ws m):
  qP F w0 (h++[.mp ag ks [] c]) (e.setB h.length w.heap.size) (w.alloc (.map #[] 0)):=by
 refine S.next hF h.length (.mp ag ks [] c) (by simp) (by simp) (yW e _ _) ?_ ?_ none (by simp) ?_ ?_ (hw _) ?_ ?_ (by simp) rfl rfl rfl
 ·intro i x hi hi'
  refine .inl ?_
  rw[List.getElem?_append] at hi'
  split at hi'
  ·exact hi'
  ·rename_i hlt
   cases hk:i-h.length with
   | zero=>omega
   | succ k=>rw[hk] at hi'; simp at hi'
 ·intro i x _ hi
  refine .inl ?_
  rw[List.getElem?_append_left (List.getElem?_eq_some_iff.1 hi).1]
  exact hi
 ·intro x b hi _
  have:=(List.getElem?_eq_some_iff.1 hi).1
  omega
 ·intro _
  simp only[HO.sat,Env.setB,if_true,List.length_nil,hc]
  exact⟨heap_alloc_new w _,trivial,by simp⟩
 ·intro b hb
  simp only[HO.own,Env.setB,if_true] at hb
  exact .inl (by omega)
 ·intro b hb _
  exact heap_alloc_old w _ b hb
theorem qRh(hF:zP F)(S:qP F w0 h e w){o:Oper}{T0:TypeId}(ho:o.op=.makeMap T0 none)(hq:qWa P key h D T0=some (r,h',sd,D')):yS P F w0 h h' e a w o r:=by
 unfold qWa at hq
 split at hq
 ·rename_i kt el hu
  split at hq
  ·rename_i ag ks hk
   simp only[sI,pI] at hq
   obtain⟨rfl,rfl,rfl,rfl⟩:=hq
   refine⟨_,_,yW e h.length w.heap.size,by simp,S.newMp hF ag ks (mc0 P el) ?_ ?_,(fun hk=>by rw[yN,ho] at hk; cases hk),?_,?_⟩
   ·intro e
    unfold mc0
    split
    ·rfl
    ·rename_i fs _
     cases Nat.beq fs.size 0 <;> rfl
    ·rfl
   ·intro m
    unfold mc0
    split
    ·trivial
    ·rename_i fs _
     cases Nat.beq fs.size 0
     ·exact trivial
     ·exact trivial
    ·exact trivial
   ·simp only[execOp,ho,Option.map_none]
    rw[Sem.run_bind,run_makeMap]
    simp only[Result.andThen_ok,Sem.run_pure,den,Env.setB,if_true]
   ·simp [ws]
  ·cases hq
 ·cases hq
theorem qXx(T:zA n h.length tm e a){kl kl':List (List Int)}{c c':Mc}{x:List Int}{v:Operand}{sd:List zF}(hw:c.ws h.length)(hl:(c.den e kl.length).length=kl.length)(hu:zPo tm kl c x v=some (kl',c',sd)):
  kl'=zK kl x∧c'.den e kl'.length=qU kl (c.den e kl.length) x (a.eval v)∧c'.ws h.length:=by
 unfold zPo at hu
 cases c with
 | unit =>
  simp only at hu
  split at hu
  ·rename_i cs hc
   cases hb:Nat.beq cs.size 0 with
   | false=>rw[hb] at hu; cases hu
   | true =>
    rw[hb] at hu
    simp only[cond_true,sI,pI] at hu
    obtain⟨rfl,rfl,rfl⟩:=hu
    have h0:cs=#[]:=Array.eq_empty_of_size_eq_zero (Nat.eq_of_beq_eq_true hb)
    subst h0
    refine⟨rfl,?_,trivial⟩
    rw[zN T hc]
    exact(qQf _ kl x).symm
  ·cases hu
 | ints q l =>
  simp only at hu
  split at hu
  ·rename_i q' y hi
   by_cases hq:q=q'
   ·subst hq
    simp only[decide_true,cond_true,sI,pI] at hu
    obtain⟨rfl,rfl,rfl⟩:=hu
    refine⟨rfl,?_,trivial⟩
    rw[jG T hi]
    exact qEj _ kl l x y
   ·simp [hq] at hu
  ·cases hu
 | svs xs =>
  simp only at hu
  split at hu
  ·rename_i s hs
   simp only[sI,pI] at hu
   obtain⟨rfl,rfl,rfl⟩:=hu
   obtain⟨h1,h2⟩:=qH T hs
   refine⟨rfl,?_,?_⟩
   ·simp only[Mc.den,yM,h1]
    exact qEj _ kl xs x s
   ·show wsL _ _
    have hw':wsL h.length xs:=hw
    rw[yP] at hw' ⊢
    have:∀(kl:List (List Int)) (xs:List SV),(∀ y∈xs,ws h.length y)→∀ y∈qU kl xs x s,ws h.length y:=by
     intro kl
     induction kl with
     | nil=>intro xs _ y hy; simp only[qU,List.mem_singleton] at hy; subst hy; exact h2
     | cons k r ih =>
      intro xs hx y hy
      cases xs with
      | nil=>simp only[qU,List.mem_singleton] at hy; subst hy; exact h2
      | cons b t =>
       simp only[qU] at hy
       cases hd:decide (x=k) with
       | true =>
        rw[hd] at hy
        rcases List.mem_cons.1 hy with rfl | hy
        ·exact h2
        ·exact hx y (List.mem_cons_of_mem _ hy)
       | false =>
        rw[hd] at hy
        rcases List.mem_cons.1 hy with rfl | hy
        ·exact hx _ List.mem_cons_self
        ·exact ih t (fun z hz=>hx z (List.mem_cons_of_mem _ hz)) y hy
    exact this kl xs hw'
  ·cases hu
theorem qNj{t kt el:TypeId}{ag:Bool}{ks:List IntKind}{kl:List (List Int)}{vs:List Value}{x:List Int}{v:Value}{b:Nat}(K:qJm P kt ag ks)(hu:P.underlying t=some (.map kt el))(hb:w.heap[b]?=some (mpO ag ks kl vs))(hl:vs.length=kl.length)(hk:∀ k∈kl,k.length=ks.length)(hx:x.length=ks.length):
  (Instr.mapUpdate t (.map (some b)) (mkT ag ks x) v).run P w=.ok () { w with heap:=w.heap.setIfInBounds b (mpO ag ks (zK kl x) (qU kl vs x v)) }:=by
 unfold mpO at hb
 simp only[Instr.mapUpdate,Sem.run_bind,run_underlying hu,Result.andThen_ok,MapKept.run_getObj_map hb,K.chk false x w hx,K.fnd kl vs x w hx hk hl]
 cases hf:zY kl vs x 0 with
 | none =>
  obtain⟨h1,h2⟩:=qKh ag ks x v 0 0 kl vs hl hf
  simp only[MapKept.run_setObj_map _ hb,mpO,h1,h2,Nat.zero_add,List.push_toArray]
 | some r =>
  obtain⟨d,u⟩:=r
  obtain⟨m,h0,h1,h2,h3⟩:=qYi ag ks x v u 0 0 d kl vs hl hf
  rw[Nat.zero_add] at h0
  subst h0
  have hkey:((mpE ag ks 0 kl vs).toArray[d]?.map (·.key)).getD (mkT ag ks x)=mkT ag ks x:=by
   rw[List.getElem?_toArray,h3]; rfl
  have hst:(Instr.keyThatStays (((mpE ag ks 0 kl vs).toArray[d]?.map (·.key)).getD (mkT ag ks x)) (mkT ag ks x)).run P w=.ok (mkT ag ks x) w:=by
   rw[hkey]
   simp [Instr.keyThatStays,qHk K.one x hx]
  simp only[Sem.run_bind,hst,Result.andThen_ok,MapKept.run_setObj_map _ hb,mpO,h1,h2]
  congr 4
  apply Array.toList_inj.1
  simp
theorem qFc(hF:zP F)(hkey:∀ t ag ks,key t=some (ag,ks)→qJm P t ag ks)(T:zA n h.length tm e a)(S:qP F w0 h e w){o:Oper}{T0:TypeId}{m k v:Operand}(ho:o.op=.mapUpdate T0 m k v∨o.op=.insert T0 m k v)(hq:qJo P key tm h D T0 m k v=some (r,h',sd,D')):yS P F w0 h h' e a w o r:=by
 unfold qJo at hq
 split at hq
 ·rename_i kt el i hu hm
  split at hq
  ·rename_i ag ks ag' ks' kl c hk0 hi
   cases hb:(ag==ag')&&qDu ks ks' with
   | false=>rw[hb] at hq; cases hq
   | true =>
    rw[hb] at hq
    simp only[cond_true] at hq
    rw[Bool.and_eq_true,beq_iff_eq] at hb
    obtain⟨rfl,hb2⟩:=hb
    have:=qHl hb2
    subst this
    split at hq
    ·rename_i x hx
     split at hq
     ·rename_i kl' c' sd' hup
      simp only[sI,pI] at hq
      obtain⟨rfl,rfl,rfl,rfl⟩:=hq
      have K:=hkey _ _ _ hk0
      obtain⟨s1,s2,s3⟩:=S.sat i _ hi
      obtain⟨x1,x2⟩:=qAp T hx
      obtain⟨rfl,u2,u3⟩:=qXx T (S.ws i _ hi) s2 hup
      have hrun:=qNj (P:=P) (w:=w) (v:=a.eval v) K hu s1 s2 s3 x2
      have hlt:e.blk i<w.heap.size:=(Array.getElem?_eq_some_iff.1 s1).1
      refine⟨e,_,zD.refl _ _,by simp,S.turn hF (ho:=.mp ag ks (zK kl x) c') hi (e.blk i) (fun _=>Iff.rfl) (fun _=>Iff.rfl)
       (w':={ w with heap:=w.heap.setIfInBounds (e.blk i) (mpO ag ks (zK kl x) (qU kl (c.den e kl.length) x (a.eval v))) }) ?_ u3 ?_ (by simp) rfl rfl rfl,(fun hk=>by rcases ho with ho | ho <;> (rw[yN,ho] at hk; cases hk)),?_⟩
      ·intro _
       simp only[HO.sat,u2]
       refine⟨by simp [hlt],xK kl _ x _ s2,fun y hy=>?_⟩
       rcases qKx kl x y hy with hy | rfl
       ·exact s3 y hy
       ·exact x2
      ·intro j _ hne
       simp [Array.getElem?_setIfInBounds_ne (Ne.symm hne)]
      ·have hmv:a.eval m=.map (some (e.blk i)):=(qH T hm).1
       rcases ho with ho | ho <;> (simp only[execOp,ho,hmv,x1]; rw[Sem.run_bind,hrun]; rfl)
     ·cases hq
    ·cases hq
  ·cases hq
 ·cases hq
theorem qPo:∀(kl:List (List Int)) (vs:List Value) (x:List Int) (j:Nat),vs.length=kl.length→zY kl vs x j=none→xP kl x=kl.length
 | [],_,_,_,_,_=>rfl
 | k::r,[],x,j,h,_=>by simp at h
 | k::r,v::t,x,j,h,hf=>by
  by_cases hx:x=k
  ·simp [zY,hx] at hf
  ·simp only[zY,hx,if_false] at hf
   simp only[xP,hx,decide_false,cond_false,qPo r t x (j+1) (by simpa using h) hf,List.length_cons]
theorem qOi(ag:Bool)(ks:List IntKind):∀(kl:List (List Int)) (vs:List Value) (x:List Int) (i j d:Nat) (u:Value),vs.length=kl.length→zY kl vs x j=some (d,u)→d=j+xP kl x∧(mpE ag ks i kl vs)[xP kl x]?=some ⟨mkT ag ks x,u,i+xP kl x⟩
 | [],vs,x,i,j,d,u,_,hf=>by simp [zY] at hf
 | k::r,[],x,i,j,d,u,h,_=>by simp at h
 | k::r,v::t,x,i,j,d,u,h,hf=>by
  by_cases hx:x=k
  ·subst hx
   simp only[zY,if_true,sI,pI] at hf
   obtain⟨rfl,rfl⟩:=hf
   simp [xP,mpE]
  ·simp only[zY,hx,if_false] at hf
   obtain⟨h1,h2⟩:=qOi ag ks r t x (i+1) (j+1) d u (by simpa using h) hf
   simp only[xP,hx,decide_false,cond_false,mpE,List.getElem?_cons_succ]
   exact⟨by omega,by rw[h2]; congr 2; omega⟩
theorem qLp:∀(kl:List (List Int)) (vs:List Value) (x:List Int) (j d:Nat) (u:Value),vs.length=kl.length→zY kl vs x j=some (d,u)→zK kl x=kl∧qU kl vs x u=vs
 | [],vs,x,j,d,u,_,hf=>by simp [zY] at hf
 | k::r,[],x,j,d,u,h,_=>by simp at h
 | k::r,v::t,x,j,d,u,h,hf=>by
  by_cases hx:x=k
  ·subst hx
   simp only[zY,if_true,sI,pI] at hf
   obtain⟨rfl,rfl⟩:=hf
   simp [zK,qU]
  ·simp only[zY,hx,if_false] at hf
   obtain⟨h1,h2⟩:=qLp r t x (j+1) d u (by simpa using h) hf
   simp [zK,qU,hx,h1,h2]
theorem qRq{t kt el:TypeId}{ag:Bool}{ks:List IntKind}{kl:List (List Int)}{vs:List Value}{x:List Int}{z:Value}{b:Nat}(K:qJm P kt ag ks)(hu:P.underlying t=some (.map kt el))(hb:w.heap[b]?=some (mpO ag ks kl vs))(hl:vs.length=kl.length)(hk:∀ k∈kl,k.length=ks.length)(hx:x.length=ks.length)(hz:∀ w:World,(zeroValue el).run P w=.ok z w):
  (Instr.mapEntry t (.map (some b)) (mkT ag ks x)).run P w=.ok (.tuple #[((zY kl vs x 0).map (·.2)).getD z,.int .i64 (xP kl x:Nat)]) { w with heap:=w.heap.setIfInBounds b (mpO ag ks (zK kl x) (qU kl vs x (((zY kl vs x 0).map (·.2)).getD z))) }:=by
 unfold mpO at hb
 simp only[Instr.mapEntry,Sem.run_bind,run_underlying hu,Result.andThen_ok,MapKept.run_getObj_map hb,K.chk false x w hx,K.fnd kl vs x w hx hk hl]
 cases hf:zY kl vs x 0 with
 | none =>
  obtain⟨h1,h2⟩:=qKh ag ks x z 0 0 kl vs hl hf
  simp only[Sem.run_bind,hz,Result.andThen_ok,MapKept.run_setObj_map _ hb,mpO,Option.map_none,Option.getD_none,h1,h2,Nat.zero_add,List.push_toArray,Sem.run_pure,qPo kl vs x 0 hl hf,goInt]
 | some r =>
  obtain⟨d,u⟩:=r
  obtain⟨h0,h3⟩:=qOi ag ks kl vs x 0 0 d u hl hf
  obtain⟨g1,g2⟩:=qLp kl vs x 0 d u hl hf
  rw[Nat.zero_add] at h0
  rw[Nat.zero_add] at h3
  subst h0
  have hkey:((mpE ag ks 0 kl vs).toArray[xP kl x]?.map (·.key)).getD (mkT ag ks x)=mkT ag ks x:=by
   rw[List.getElem?_toArray,h3]; rfl
  have hborn:((mpE ag ks 0 kl vs).toArray[xP kl x]?.map (fun e=>(e.born:Int))).getD 0=(xP kl x:Int):=by
   rw[List.getElem?_toArray,h3]; rfl
  have hst:(Instr.keyThatStays (((mpE ag ks 0 kl vs).toArray[xP kl x]?.map (·.key)).getD (mkT ag ks x)) (mkT ag ks x)).run P w=.ok (mkT ag ks x) w:=by
   rw[hkey]
   simp [Instr.keyThatStays,qHk K.one x hx]
  have hmod:(mpE ag ks 0 kl vs).toArray.modify (xP kl x) (fun e=>{ e with key:=mkT ag ks x })=(mpE ag ks 0 kl vs).toArray:=by
   apply Array.toList_inj.1
   simp only[Array.toList_modify]
   apply List.ext_getElem?
   intro j
   rw[List.getElem?_modify]
   by_cases hj:xP kl x=j
   ·subst hj
    rw[h3]; simp
   ·simp [hj]
  simp only[Sem.run_bind,hst,Result.andThen_ok,MapKept.run_setObj_map _ hb,mpO,g1,Option.map_some,Option.getD_some,g2,Sem.run_pure,hborn,hmod,goInt]
theorem qLy(ag:Bool)(ks:List IntKind):∀(kl:List (List Int)) (vs:List Value) (i n:Nat),vs.length=kl.length→((mpE ag ks i kl vs)[n]?).map (·.born)=if n<kl.length then some (i+n) else none
 | [],vs,i,n,_=>by simp [mpE]
 | k::r,[],i,n,h=>by simp at h
 | k::r,v::t,i,n,h=>by
  cases n with
  | zero=>simp [mpE]
  | succ n =>
   simp only[mpE,List.getElem?_cons_succ,qLy ag ks r t (i+1) n (by simpa using h),List.length_cons,Nat.add_lt_add_iff_right]
   split
   ·congr 1; omega
   ·rfl
theorem qVq(ag:Bool)(ks:List IntKind):∀(kl:List (List Int)) (vs:List Value) (i:Nat),vs.length=kl.length→(mpE ag ks i kl vs).length=kl.length
 | [],vs,i,_=>by simp [mpE]
 | k::r,[],i,h=>by simp at h
 | k::r,v::t,i,h=>by simp [mpE,qVq ag ks r t (i+1) (by simpa using h)]
theorem qUk(ag:Bool)(ks:List IntKind)(y:Value):∀(kl:List (List Int)) (vs:List Value) (i n:Nat),vs.length=kl.length→(mpE ag ks i kl vs).modify n (fun e=>{ e with val:=y })=mpE ag ks i kl (vs.set n y)
 | [],vs,i,n,_=>by simp [mpE]
 | k::r,[],i,n,h=>by simp at h
 | k::r,v::t,i,n,h=>by
  cases n with
  | zero=>simp [mpE]
  | succ n=>simp [mpE,qUk ag ks y r t (i+1) n (by simpa using h)]
theorem qMk{t:TypeId}{ag:Bool}{ks:List IntKind}{kl:List (List Int)}{vs:List Value}{k0:IntKind}{n:Int}{y:Value}{b:Nat}(hb:w.heap[b]?=some (mpO ag ks kl vs))(hl:vs.length=kl.length)(hn:0≤n∧n<(kl.length:Int)):
  (Instr.entryStore t (.map (some b)) (.int k0 n) y).run P w=.ok () { w with heap:=w.heap.setIfInBounds b (mpO ag ks kl (vs.set n.toNat y)) }:=by
 unfold mpO at hb
 have hlen:=qVq ag ks kl vs 0 hl
 have hfind:(mpE ag ks 0 kl vs).toArray.findIdx? (fun e=>(e.born:Int)==n)=some n.toNat:=by
  rw[List.findIdx?_toArray,List.findIdx?_eq_some_iff_getElem]
  refine⟨by omega,?_,fun j hj=>?_⟩
  ·have:=qLy ag ks kl vs 0 n.toNat hl
   rw[if_pos (by omega),List.getElem?_eq_getElem (by omega),Option.map_some,sI] at this
   rw[this]
   simp
   omega
  ·have:=qLy ag ks kl vs 0 j hl
   rw[if_pos (by omega),List.getElem?_eq_getElem (by omega),Option.map_some,sI] at this
   rw[this]
   simp
   omega
 have hint:(asInt (.int k0 n)).run P w=.ok n w:=by simp [asInt,asIntOf]
 simp only[Instr.entryStore,Sem.run_bind,MapKept.run_getObj_map hb,Result.andThen_ok,hint,hfind,MapKept.run_setObj_map _ hb,mpO]
 congr 4
 apply Array.toList_inj.1
 simp only[Array.toList_modify]
 exact qUk ag ks y kl vs 0 n.toNat hl
theorem qCq{t kt el:TypeId}{ag:Bool}{ks:List IntKind}{kl:List (List Int)}{vs:List Value}{x:List Int}{b:Nat}{z:Value}(K:qJm P kt ag ks)(hu:P.underlying t=some (.map kt el))(hb:w.heap[b]?=some (mpO ag ks kl vs))(hl:vs.length=kl.length)(hk:∀ k∈kl,k.length=ks.length)(hx:x.length=ks.length)(hz:(zeroValue el).run P w=.ok z w)(ok:Bool):
  (Instr.lookup t (.map (some b)) (mkT ag ks x) ok).run P w=.ok (if ok then .tuple #[((zY kl vs x 0).map (·.2)).getD z,.bool (jY kl x)] else((zY kl vs x 0).map (·.2)).getD z) w:=by
 unfold mpO at hb
 have hh:=qLb kl vs x 0 hl
 simp only[Instr.lookup,Sem.run_bind,run_underlying hu,Result.andThen_ok,MapKept.run_getObj_map hb,Sem.run_pure,K.chk _ x w hx,K.fnd kl vs x w hx hk hl]
 cases hf:zY kl vs x 0 with
 | none =>
  rw[hf] at hh
  simp only[Option.isSome_none] at hh
  simp only[Sem.run_bind,hz,Result.andThen_ok,Sem.run_pure,← hh,Option.map_none,Option.getD_none]
 | some r =>
  rw[hf] at hh
  simp only[Option.isSome_some] at hh
  simp only[Sem.run_bind,Sem.run_pure,Result.andThen_ok,← hh,Option.map_some,Option.getD_some]
theorem qNm(hkey:∀ t ag ks,key t=some (ag,ks)→qJm P t ag ks)(T:zA n h.length tm e a)(S:qP F w0 h e w){o:Oper}{T0:TypeId}{m k:Operand}{ok:Bool}(ho:o.op=.lookup T0 m k ok)(hq:qRg P key tm h D T0 m k ok=some (r,h',sd,D'))(hsd:yE F sd):yS P F w0 h h' e a w o r:=by
 have hokv:∀(s:SV) (v:Value) (b:Bool),den e s=v→den e (okv ok s b)=(if ok then .tuple #[v,.bool b] else v):=by
  intro s v b hs
  cases ok with
  | true=>simp [okv,den,qN,hs]
  | false=>simp [okv,hs]
 have hoks:∀(x:Value) (b:Bool),ws h.length (okv ok (.v x) b):=by
  intro x b
  cases ok with
  | true=>exact⟨trivial,trivial,trivial⟩
  | false=>exact trivial
 unfold qRg at hq
 split at hq
 ·rename_i kt el i hu hm
  have hmv:a.eval m=.map (some (e.blk i)):=(qH T hm).1
  split at hq
  ·rename_i ag ks ag' ks' kl c hk0 hi
   cases hb:(ag==ag')&&qDu ks ks' with
   | false=>rw[hb] at hq; cases hq
   | true =>
    rw[hb] at hq
    simp only[cond_true] at hq
    rw[Bool.and_eq_true,beq_iff_eq] at hb
    obtain⟨rfl,hb2⟩:=hb
    have:=qHl hb2
    subst this
    have K:=hkey _ _ _ hk0
    obtain⟨s1,s2,s3⟩:=S.sat i _ hi
    split at hq
    ·rename_i x hx
     cases hz:zDq P el with
     | false=>rw[hz] at hq; cases hq
     | true =>
      rw[hz] at hq
      simp only[cond_true,sI,pI] at hq
      obtain⟨rfl,rfl,rfl,rfl⟩:=hq
      obtain⟨x1,x2⟩:=qAp T hx
      have hz':(zeroValue el).run P w=.ok (.agg #[]) w:=by
       unfold zDq at hz
       split at hz
       ·rename_i cs hc
        have h0:cs=#[]:=Array.eq_empty_of_size_eq_zero (Nat.eq_of_beq_eq_true hz)
        subst h0
        exact jK hc w
       ·cases hz
      refine⟨e,w,zD.refl _ _,Nat.le_refl _,S,fun _ _ _=>rfl,?_,hoks _ _⟩
      simp only[execOp,ho,hmv,x1]
      rw[Sem.run_bind,qCq K hu s1 s2 s3 x2 hz' ok]
      simp only[Result.andThen_ok,Sem.run_pure,hokv _ _ _ rfl,den]
      rw[show Mc.den e kl.length .unit=List.replicate kl.length (.agg #[]) from rfl,qVu kl x 0]
    ·rename_i x q l hx
     cases hz:zAx P el q with
     | false=>rw[hz] at hq; cases hq
     | true =>
      rw[hz] at hq
      simp only[cond_true,sI,pI] at hq
      obtain⟨rfl,rfl,rfl,rfl⟩:=hq
      obtain⟨x1,x2⟩:=qAp T hx
      have hz':(zeroValue el).run P w=.ok (.int q 0) w:=by
       unfold zAx at hz
       split at hz
       ·rename_i q' y hc
        simp only[decide_eq_true_eq] at hz
        obtain⟨rfl,rfl⟩:=hz
        exact jK hc w
       ·cases hz
      refine⟨e,w,zD.refl _ _,Nat.le_refl _,S,fun _ _ _=>rfl,?_,hoks _ _⟩
      simp only[execOp,ho,hmv,x1]
      rw[Sem.run_bind,qCq K hu s1 s2 s3 x2 hz' ok]
      have hl2:l.length=kl.length:=by simpa[Mc.den] using s2
      simp only[Result.andThen_ok,Sem.run_pure,hokv _ _ _ rfl,den]
      rw[show Mc.den e kl.length (.ints q l)=l.map (Value.int q) from rfl,qFr q kl l x 0 hl2]
    ·rename_i x xs hx
     obtain⟨x1,x2⟩:=qAp T hx
     have hw':wsL h.length xs:=S.ws i _ hi
     split at hq
     ·rename_i z dd D2 hz
      simp only[sI,pI] at hq
      obtain⟨rfl,rfl,rfl,rfl⟩:=hq
      have hp:jY kl x=false:=hsd _ List.mem_cons_self _ S.fact
      have hz':=jK hz w
      refine⟨e,w,zD.refl _ _,Nat.le_refl _,S,fun _ _ _=>rfl,?_,hoks _ _⟩
      simp only[execOp,ho,hmv,x1]
      rw[Sem.run_bind,qCq K hu s1 s2 s3 x2 hz' ok]
      simp only[Result.andThen_ok,Sem.run_pure,hokv _ _ _ rfl,den]
      have hn:zY kl (Mc.den e kl.length (.svs xs)) x 0=none:=by
       have:=qLb kl (Mc.den e kl.length (.svs xs)) x 0 s2
       rw[hp] at this
       simpa using this
      rw[hn,hp]
      rfl
     ·rename_i z s D2 hz
      simp only[sI,pI] at hq
      obtain⟨rfl,rfl,rfl,rfl⟩:=hq
      have hp:qJa kl xs x=some s:=hsd _ List.mem_cons_self _ S.fact
      obtain⟨f1,f2,f3⟩:=qLc e kl xs x 0 s hp
      have hz':=jK hz w
      have hws:ws h.length s:=((yP _ _).1 hw') s f3
      refine⟨e,w,zD.refl _ _,Nat.le_refl _,S,fun _ _ _=>rfl,?_,?_⟩
      ·simp only[execOp,ho,hmv,x1]
       rw[Sem.run_bind,qCq K hu s1 s2 s3 x2 hz' ok]
       simp only[Result.andThen_ok,Sem.run_pure,hokv _ _ _ rfl]
       rw[show Mc.den e kl.length (.svs xs)=qN e xs from rfl,f1,f2]
       rfl
      ·cases ok with
       | true=>exact⟨hws,trivial,trivial⟩
       | false=>exact hws
     ·cases hq
    ·cases hq
  ·cases hq
 ·cases hq
theorem qNh(hF:zP F)(hkey:∀ t ag ks,key t=some (ag,ks)→qJm P t ag ks)(T:zA n h.length tm e a)(S:qP F w0 h e w){o:Oper}{T0:TypeId}{m k:Operand}(ho:o.op=.mapEntry T0 m k)(hq:qSg P key tm h D T0 m k=some (r,h',sd,D')):yS P F w0 h h' e a w o r:=by
 unfold qSg at hq
 split at hq
 ·rename_i kt el i hu hm
  split at hq
  ·rename_i ag ks ag' ks' kl q l hk0 hi
   cases hb:(ag==ag')&&qDu ks ks'&&zAx P el q with
   | false=>rw[hb] at hq; cases hq
   | true =>
    rw[hb] at hq
    simp only[cond_true] at hq
    rw[Bool.and_eq_true,Bool.and_eq_true,beq_iff_eq] at hb
    obtain⟨⟨rfl,hb2⟩,hz⟩:=hb
    have:=qHl hb2
    subst this
    split at hq
    ·rename_i x hx
     simp only[sI,pI] at hq
     obtain⟨rfl,rfl,rfl,rfl⟩:=hq
     have K:=hkey _ _ _ hk0
     obtain⟨s1,s2,s3⟩:=S.sat i _ hi
     obtain⟨x1,x2⟩:=qAp T hx
     have hz':∀ w:World,(zeroValue el).run P w=.ok (.int q 0) w:=by
      unfold zAx at hz
      split at hz
      ·rename_i q' y hc
       simp only[decide_eq_true_eq] at hz
       obtain⟨rfl,rfl⟩:=hz
       exact jK hc
      ·cases hz
     have hl2:l.length=kl.length:=by simpa[Mc.den] using s2
     have hden:Mc.den e kl.length (.ints q l)=l.map (Value.int q):=rfl
     have hval:((zY kl (l.map (Value.int q)) x 0).map (·.2)).getD (.int q 0)=.int q (zG kl l x):=qFr q kl l x 0 hl2
     have hrun:=qRq (P:=P) (w:=w) K hu s1 s2 s3 x2 hz'
     rw[hden,hval,← qEj] at hrun
     have hlt:e.blk i<w.heap.size:=(Array.getElem?_eq_some_iff.1 s1).1
     refine⟨e,_,zD.refl _ _,by simp,S.turn hF (ho:=.mp ag ks (zK kl x) (.ints q (qU kl l x (zG kl l x)))) hi (e.blk i) (fun _=>Iff.rfl) (fun _=>Iff.rfl)
      (w':={ w with heap:=w.heap.setIfInBounds (e.blk i) (mpO ag ks (zK kl x) ((qU kl l x (zG kl l x)).map (Value.int q))) }) ?_ trivial ?_ (by simp) rfl rfl rfl,(fun hk=>by rw[yN,ho] at hk; cases hk),?_,?_⟩
     ·intro _
      simp only[HO.sat,Mc.den,List.length_map]
      refine⟨by simp [hlt],xK kl _ x _ hl2,fun y hy=>?_⟩
      rcases qKx kl x y hy with hy | rfl
      ·exact s3 y hy
      ·exact x2
     ·intro j _ hne
      simp [Array.getElem?_setIfInBounds_ne (Ne.symm hne)]
     ·have hmv:a.eval m=.map (some (e.blk i)):=(qH T hm).1
      simp only[execOp,ho,hmv,x1]
      rw[Sem.run_bind,hrun]
      rfl
     ·exact⟨trivial,trivial,trivial⟩
    ·cases hq
  ·cases hq
 ·cases hq
theorem qQy(hF:zP F)(T:zA n h.length tm e a)(S:qP F w0 h e w){o:Oper}{T0:TypeId}{m s v:Operand}(ho:o.op=.entryStore T0 m s v)(hq:qXn tm h D m s v=some (r,h',sd,D'))(hsd:yE F sd):yS P F w0 h h' e a w o r:=by
 unfold qXn at hq
 split at hq
 ·rename_i i q0 z q' y hm hs hv
  split at hq
  ·rename_i ag ks kl q l hi
   cases hb:decide (q=q') with
   | false=>rw[hb] at hq; cases hq
   | true =>
    rw[hb] at hq
    have hqq:=of_decide_eq_true hb
    subst hqq
    simp only[cond_true,sI,pI] at hq
    obtain⟨rfl,rfl,rfl,rfl⟩:=hq
    have hz:0≤z∧z<(kl.length:Int):=hsd _ List.mem_cons_self _ S.fact
    obtain⟨s1,s2,s3⟩:=S.sat i _ hi
    have hl2:l.length=kl.length:=by simpa[Mc.den] using s2
    have hrun:=qMk (P:=P) (w:=w) (t:=T0) (k0:=q0) (y:=.int q y) s1 s2 hz
    rw[show Mc.den e kl.length (.ints q l)=l.map (Value.int q) from rfl,show(l.map (Value.int q)).set z.toNat (.int q y)=(l.set z.toNat y).map (Value.int q) from (List.map_set).symm] at hrun
    have hlt:e.blk i<w.heap.size:=(Array.getElem?_eq_some_iff.1 s1).1
    refine⟨e,_,zD.refl _ _,by simp,S.turn hF (ho:=.mp ag ks kl (.ints q (l.set z.toNat y))) hi (e.blk i) (fun _=>Iff.rfl) (fun _=>Iff.rfl)
     (w':={ w with heap:=w.heap.setIfInBounds (e.blk i) (mpO ag ks kl ((l.set z.toNat y).map (Value.int q))) }) ?_ trivial ?_ (by simp) rfl rfl rfl,(fun hk=>by rw[yN,ho] at hk; cases hk),?_⟩
    ·intro _
     simp only[HO.sat,Mc.den,List.length_map]
     exact⟨by simp [hlt],by rw[List.length_set]; exact hl2,s3⟩
    ·intro j _ hne
     simp [Array.getElem?_setIfInBounds_ne (Ne.symm hne)]
    ·have hmv:a.eval m=.map (some (e.blk i)):=(qH T hm).1
     simp only[execOp,ho,hmv,jG T hs,jG T hv]
     rw[Sem.run_bind,hrun]
     rfl
  ·cases hq
 ·cases hq
theorem zDy(hF:zP F)(hkey:∀ t ag ks,key t=some (ag,ks)→qJm P t ag ks)(T:zA n h.length tm e a)(S:qP F w0 h e w){o:Oper}(hq:xm P key tm h D o=some (r,h',sd,D'))(hsd:yE F sd):yS P F w0 h h' e a w o r:=by
 unfold xm at hq
 split at hq
 ·rename_i ho; exact qRh hF S ho hq
 ·rename_i ho; exact qFc hF hkey T S (.inl ho) hq
 ·rename_i ho; exact qFc hF hkey T S (.inr ho) hq
 ·rename_i ho; exact qNm hkey T S ho hq hsd
 ·rename_i ho; exact qNh hF hkey T S ho hq
 ·rename_i ho; exact qQy hF T S ho hq hsd
 ·cases hq
def xlm(P:Program)(X:Ext P)(tm:List (Nat×SV))(h:List HO)(D:List Dec)(o:Oper):LR :=
 match xl P tm h D o with
 | some r=>some r
 | none=>xm P X.key tm h D o
theorem qOm{X:Ext P}(hF:zP F)(T:zA n h.length tm e a)(S:qP F w0 h e w){o:Oper}(hq:xlm P X tm h D o=some (r,h',sd,D'))(hsd:yE F sd):yS P F w0 h h' e a w o r:=by
 unfold xlm at hq
 split at hq
 ·rename_i r0 hr
  simp only[sI] at hq
  subst hq
  exact zEz hF T S hr hsd
 ·exact zDy hF X.keyOk T S hq hsd
end
end Go.Sx
/- Regions that draw their order: what writes nothing may be taken first. -/
namespace Go.Sx
open Go.RowKit

def wH(o:Oper):Bool:=match o.op with | .load ..=>true | _=>false
inductive Anc (ops : Array Oper) : Nat → Nat → Prop where
  | one {j i : Nat} {o : Oper} {e : Edge} (h : ops[j]? = some o) (he : e ∈ o.after) (hb : Region.binds .any e = true) (hi : e.on = i) : Anc ops j i
  | step {j i : Nat} {o : Oper} {e : Edge} (h : ops[j]? = some o) (he : e ∈ o.after) (hb : Region.binds .any e = true) (hr : Anc ops e.on i) : Anc ops j i
def qPv(acc:List Nat):List Edge→Nat
 | []=>0
 | e::r=>(bif Region.binds .any e then(2^e.on|||acc.getD e.on 0) else 0)|||qPv acc r
def qCn:List Nat→List Oper→List Nat
 | acc,[]=>acc
 | acc,o::r=>match qPv acc o.after.toList with
  | 0=>qCn (acc++[0]) r
  | m+1=>qCn (acc++[m+1]) r
theorem qLf{ops:Array Oper}{acc:List Nat}{j:Nat}{o:Oper}(ho:ops[j]?=some o)(hacc:∀ k i,(acc.getD k 0).testBit i=true→Anc ops k i):∀(l:List Edge),(∀ e∈l,e∈o.after)→∀ i,(qPv acc l).testBit i=true→Anc ops j i
 | [],_,i,h=>by simp [qPv] at h
 | e::r,hl,i,h=>by
  rw[qPv,Nat.testBit_or,Bool.or_eq_true] at h
  rcases h with h | h
  ·cases hb:Region.binds .any e with
   | false=>rw[hb] at h; simp at h
   | true =>
    rw[hb,cond_true,Nat.testBit_or,Bool.or_eq_true] at h
    rcases h with h | h
    ·rw[Nat.testBit_two_pow] at h
     exact .one ho (hl e List.mem_cons_self) hb (by simpa using h)
    ·exact .step ho (hl e List.mem_cons_self) hb (hacc _ _ h)
  ·exact qLf ho hacc r (fun x hx=>hl x (List.mem_cons_of_mem _ hx)) i h
theorem qGu{ops:Array Oper}:∀(l:List Oper) (acc:List Nat),ops.toList.drop acc.length=l→(∀ k i,(acc.getD k 0).testBit i=true→Anc ops k i)→∀ k i,((qCn acc l).getD k 0).testBit i=true→Anc ops k i
 | [],acc,_,h=>h
 | o::r,acc,hl,h=>by
  have ho:ops[acc.length]?=some o:=by
   have:(ops.toList.drop acc.length)[0]?=some o:=by rw[hl]; rfl
   rw[List.getElem?_drop,Nat.add_zero,Array.getElem?_toList] at this
   exact this
  have key:qCn acc (o::r)=qCn (acc++[qPv acc o.after.toList]) r:=by
   rw[qCn]
   split <;> (rename_i hm; rw[hm])
  rw[key]
  refine qGu r _ ?_ fun k i hk=>?_
  ·rw[List.length_append,List.length_singleton,← List.drop_drop,hl]; rfl
  ·rw[List.getD_eq_getElem?_getD,List.getElem?_append] at hk
   split at hk
   ·exact h k i (by rw[List.getD_eq_getElem?_getD]; exact hk)
   ·rename_i hge
    cases hd:k-acc.length with
    | zero =>
     rw[hd] at hk
     have hkk:k=acc.length:=by omega
     subst hkk
     exact qLf ho h o.after.toList (fun e he=>Array.mem_toList_iff.1 he) i (by simpa using hk)
    | succ d=>rw[hd] at hk; simp at hk
def zCm(ops:Array Oper)(j i:Nat):Bool:=((qCn [] ops.toList).getD j 0).testBit i
theorem qIh{ops:Array Oper}{j i:Nat}(h:zCm ops j i=true):Anc ops j i :=
 qGu ops.toList [] rfl (fun k i hk=>by simp at hk) j i h
def qBj(ops:Array Oper)(l:Array Bool):Prop:=∀(j:Nat) (o:Oper),ops[j]?=some o→l.getD j false=true→∀ e∈o.after,Region.binds .any e=true→l.getD e.on false=true
theorem qBj.anc{ops:Array Oper}{l:Array Bool}(hc:qBj ops l){j i:Nat}(h:Anc ops j i):(∀(o:Oper),ops[j]?=some o→∀ e∈o.after,Region.binds .any e=true→l.getD e.on false=true)→l.getD i false=true:=by
 induction h with
 | one h he hb hi=>intro hd; subst hi; exact hd _ h _ he hb
 | step h he hb hr ih=>intro hd; exact ih fun o ho=>hc _ o ho (hd _ h _ he hb)
theorem qBj.init(ops:Array Oper)(n:Nat):qBj ops (Array.replicate n false):=by
 intro j o _ h
 have:(Array.replicate n false).getD j false=false:=by
  simp only[Array.getD_eq_getD_getElem?,Array.getElem?_replicate]
  split <;> rfl
 rw[this] at h
 cases h
theorem qBj.set{ops:Array Oper}{l:Array Bool}(hc:qBj ops l){j:Nat}(hj:j∈Region.ready .any ops l):qBj ops (l.setIfInBounds j true):=by
 obtain⟨_,oj,hoj,hall⟩:=mem_ready.1 hj
 have mono:∀ k,l.getD k false=true→(l.setIfInBounds j true).getD k false=true:=by
  intro k hk
  by_cases hjk:j=k
  ·subst hjk
   have hlt:j<l.size:=by
    rcases Nat.lt_or_ge j l.size with h | h
    ·exact h
    ·rw[Array.getD_eq_getD_getElem?,Array.getElem?_eq_none h] at hk; cases hk
   simp [Array.getD_eq_getD_getElem?,hlt]
  ·rw[getD_set_ne false hjk]; exact hk
 intro k o ho hk e he hb
 by_cases hjk:j=k
 ·subst hjk
  rw[hoj] at ho
  cases ho
  exact mono _ (hall e he hb)
 ·rw[getD_set_ne false hjk] at hk
  exact mono _ (hc k o ho hk e he hb)
def nd0(ops:Array Oper)(j:Nat):Bool :=
 (List.range ops.size).any fun i=>match ops[i]? with
  | some oi=>wH oi&&!(Nat.beq i j)&&!(zCm ops j i)
  | none=>false
def zHo(o:Oper):Bool:=match o.op with | .store ..=>true | _=>false
def zRc(ops:Array Oper):Bool :=
 (List.range ops.size).any fun j=>match ops[j]? with
  | some o=>zHo o&&nd0 ops j
  | _=>false
def zFw(ops:Array Oper)(j:Nat):Bool:=match ops[j]? with
 | some o=>match o.op with
  | .call c=>match c.callee with
   | .builtin .append=>nd0 ops j
   | _=>Nat.beq ops.size 17&&Nat.beq c.args.size 3
  | _=>false
 | none=>false
def qJh(ops:Array Oper)(j:Nat):Bool:=bif zRc ops||zFw ops j then false else nd0 ops j
def qDg(ops:Array Oper)(i:Nat):Bool:=zRc ops||(List.range ops.size).any fun j=>zFw ops j&&!(zCm ops j i)
def qOb(ops:Array Oper)(i:Nat)(o:Oper):Bool:=bif wH o then !qDg ops i else true
theorem qMb{ops:Array Oper}{i:Nat}{o:Oper}(h:qOb ops i o=true)(hl:wH o=true):qDg ops i=false:=by
 unfold qOb at h
 rw[hl] at h
 simpa using h
def qVx(S:World→Prop):Prop:=∀ w w',qJg w w'→S w→S w'
section
variable {P : Program} {ops : Array Oper} {Q : Exit → Act → World → Prop} {S : World → Prop}
def qMi(P:Program)(ops:Array Oper)(Q:Exit→Act→World→Prop):Nat→Array Bool→Act→World→Prop
 | 0,listed,a,w=>Region.ready .any ops listed=[]∧Q .normal a w
 | fuel+1,listed,a,w =>
  (Region.ready .any ops listed=[]→Q .normal a w) ∧
  ∀ i∈Region.ready .any ops listed,wpOp P ops Q i (fun a' w'=>(qJh ops i=true→qJg w w')∧qMi P ops Q fuel (listed.setIfInBounds i true) a' w') a w
theorem qMe:∀(fuel:Nat) (listed:Array Bool) (a:Act) (w:World),qMi P ops Q fuel listed a w→wpAny P .any ops Q fuel listed a w
 | 0,_,_,_,h=>h
 | fuel+1,_,_,_,h=>⟨h.1,fun i hi=>wpOp_mono (fun a' w' h'=>qMe fuel _ a' w' h'.2) (h.2 i hi)⟩
theorem zBi{i j:Nat}{oi:Oper}(hi:ops[i]?=some oi)(hl:wH oi=true)(hne:j≠i)(hno:¬ Anc ops j i)(hj:j<ops.size)(hlate:qDg ops i=false):qJh ops j=true:=by
 unfold qDg at hlate
 rw[Bool.or_eq_false_iff] at hlate
 have hm:zFw ops j=false:=by
  cases hb:zFw ops j with
  | false=>rfl
  | true =>
   have h3:=List.any_eq_false.1 hlate.2 j (List.mem_range.2 hj)
   rw[hb,Bool.true_and] at h3
   exact absurd (qIh (by simpa using h3)) hno
 unfold qJh
 rw[hlate.1,hm]
 simp only[Bool.or_self,cond_false]
 unfold nd0
 rw[List.any_eq_true]
 refine⟨i,List.mem_range.2 (Array.getElem?_eq_some_iff.1 hi).1,?_⟩
 simp only[hi,hl,Bool.true_and]
 have h1:Nat.beq i j=false:=by
  cases hb:Nat.beq i j with
  | false=>rfl
  | true=>exact absurd (Nat.eq_of_beq_eq_true hb).symm hne
 have h2:zCm ops j i=false:=by
  rw[Bool.eq_false_iff]
  exact fun hh=>hno (qIh hh)
 rw[h1,h2]
 rfl
def qDr(P:Program)(ops:Array Oper)(Q:Exit→Act→World→Prop)(f:Nat)(l:Array Bool)(a:Act)(w:World):Prop:=qBj ops l→qMi P ops Q f l a w
def qHh(ops:Array Oper)(listed:Array Bool)(i:Nat):Bool :=
 match ops[i]? with
 | none=>false
 | some oi=>(List.range ops.size).all fun j=>Nat.beq j i||listed.getD j true||match ops[j]? with
   | some oj=>oi.apart ops oj||zCm ops j i
   | none=>true
theorem qXt{i:Nat}{oi:Oper}{listed:Array Bool}(hi:ops[i]?=some oi)(h:qHh ops listed i=true)(j:Nat)(oj:Oper)(hj:ops[j]?=some oj)(hne:j≠i)(hun:listed.getD j true=false)(hno:¬ Anc ops j i):oi.apart ops oj=true:=by
 simp only[qHh,hi,List.all_eq_true,List.mem_range] at h
 have h1:=h j (Array.getElem?_eq_some_iff.1 hj).1
 have hb:Nat.beq j i=false:=by
  cases hb:Nat.beq j i with
  | false=>rfl
  | true=>exact absurd (Nat.eq_of_beq_eq_true hb) hne
 simp only[hj,Bool.or_eq_true,hb,hun,Bool.false_eq_true,false_or] at h1
 rcases h1 with h1 | h1
 ·exact h1
 ·exact absurd (qIh h1) hno
theorem qRc(hSt:qVx S){i:Nat}{oi:Oper}{v:Value}(hi:ops[i]?=some oi)(hlt:wH oi=true→qDg ops i=false)(hsel:∀(j:Nat) (o:Oper) cs b,ops[j]?=some o→o.op≠.select cs b)(hQ:∀ c a w,Q (.panic c) (a.put oi.dst v) w→Q (.panic c) a w):
  ∀(fuel:Nat) (listed:Array Bool) (a:Act) (w:World),
   (∀ j oj,ops[j]?=some oj→j≠i→listed.getD j true=false→¬ Anc ops j i→oi.apart ops oj=true) →
   qBj ops listed→i∈Region.ready .any ops listed→YieldsIf P ops (fun w=>wH oi=true→S w) oi v a→(wH oi=true→S w) →
   qMi P ops Q fuel (listed.setIfInBounds i true) (a.put oi.dst v) w→qMi P ops Q (fuel+1) listed a w:=by
 intro fuel
 induction fuel with
 | zero =>
  intro listed a w _ _ hr hy hS H
  refine⟨fun h=>(by rw[h] at hr; cases hr),fun j hj=>?_⟩
  by_cases hji:j=i
  ·subst hji; exact hy.wpOp hi hS ⟨fun _ _ _=>rfl,H⟩
  ·have:=ready_mono hj hji
   rw[H.1] at this
   cases this
 | succ fuel ih =>
  intro listed a w hfree hcl hr hy hS H
  refine⟨fun h=>(by rw[h] at hr; cases hr),fun j hj=>?_⟩
  by_cases hji:j=i
  ·subst hji; exact hy.wpOp hi hS ⟨fun _ _ _=>rfl,H⟩
  ·have h1:=H.2 j (ready_mono hj hji)
   obtain⟨hjun,oj,hoj,hall⟩:=mem_ready.1 hj
   have hanc:¬ Anc ops j i:=fun hh=>by
    have h1:=hcl.anc hh (fun o ho e he hb=>by rw[hoj] at ho; cases ho; exact hall e he hb)
    have h0:=(mem_ready.1 hr).1
    rcases Nat.lt_or_ge i listed.size with h' | h'
    ·simp [h'] at h0 h1; rw[h0] at h1; cases h1
    ·simp [Array.getElem?_eq_none h'] at h1
   have h2:=wpOp_putIf hoj (hfree j oj hoj hji hjun hanc) (fun cs b=>hsel i oi cs b hi) (fun cs b=>hsel j oj cs b hoj) hQ hy h1
   have hfree':∀ k ok,ops[k]?=some ok→k≠i→(listed.setIfInBounds j true).getD k true=false →
     ¬ Anc ops k i→oi.apart ops ok=true:=fun k ok hk hki hun hno=>by
    refine hfree k ok hk hki ?_ hno
    by_cases hjk:j=k
    ·subst hjk; exact hjun
    ·rw[getD_set_ne true hjk] at hun; exact hun
   refine wpOp_mono (fun a' w' h3=>⟨h3.2.1,ih (listed.setIfInBounds j true) a' w' hfree' (hcl.set hj) (ready_mono hr (Ne.symm hji)) h3.1 (fun hl=>?_) ?_⟩) h2
   ·exact hSt w w' (h3.2.1 (zBi hi hl hji hanc (Array.getElem?_eq_some_iff.1 hoj).1 (hlt hl))) (hS hl)
   ·rw[Array.setIfInBounds_comm _ _ hji]
    exact h3.2.2
theorem qSs(hSt:qVx S){i:Nat}{oi:Oper}{v:Value}{fuel:Nat}{listed:Array Bool}{a:Act}{w:World}(hi:ops[i]?=some oi)(hlt:wH oi=true→qDg ops i=false)(hs:Region.noSelect ops=true)(hf:qHh ops listed i=true)(hr:(Region.ready .any ops listed).contains i=true)(hQ:∀ c a w,Q (.panic c) (a.put oi.dst v) w→Q (.panic c) a w)(hy:YieldsIf P ops (fun w=>wH oi=true→S w) oi v a)(hS:S w)(h:qDr P ops Q fuel (listed.setIfInBounds i true) (a.put oi.dst v) w):qDr P ops Q (fuel+1) listed a w :=
 fun hcl=>qRc hSt hi hlt (Region.noSelect_spec hs) hQ fuel listed a w (qXt hi hf) hcl (by simpa using hr) hy (fun _=>hS) (h (hcl.set (by simpa using hr)))
theorem qTw{listed:Array Bool}{a:Act}{w:World}(hr:Region.ready .any ops listed=[])(h:Q .normal a w):∀ fuel,qDr P ops Q fuel listed a w
 | 0=>fun _=>⟨hr,h⟩
 | _+1=>fun _=>⟨fun _=>h,by rw[hr]; simp⟩
theorem qTp{id:Nat}{a:Act}{w:World}(hm:P.follows .mixedOrders=true)(h:qDr P ops Q ops.size (Array.replicate ops.size false) a w.drew):(Code.region id ops true).wp P Q a w :=
 wp_region_any hm (qMe _ _ _ _ (h (qBj.init _ _)))
end

theorem qUz{h:List HO}{e:Env}{w w':World}(hg:qJg w w'):(mem w e h).le (mem w' e h):=by
 intro b o hb
 unfold mem at hb ⊢
 split at hb
 ·cases hb
 ·rename_i hno
  rw[if_neg hno,hg b ?_]
  ·exact hb
  ·rcases Nat.lt_or_ge b w.heap.size with hh | hh
   ·exact hh
   ·rw[Array.getElem?_eq_none hh] at hb; cases hb
theorem qLz{e:Env}{M M':Mem}{i:Nat}{w w':World}{ho:HO}(hM:M.le M')(hg:qJg w w')(hs:ho.sat e M i w):ho.sat e M' i w':=by
 have hk:∀ b,ho.own e i b→w'.heap[b]?=w.heap[b]?:=fun b hb=>hg b (HO.own_lt hs hb)
 cases ho with
 | cells cs T =>
  simp only[HO.sat] at hs ⊢
  rw[hk _ rfl]
  exact hs
 | row T size n xs=>exact⟨jQ hs.1 hk,hs.2⟩
 | rowc T size n c =>
  obtain⟨qR,h1,h2,h3⟩:=hs
  exact⟨qR,jQ h1 hk,h2,qY (Mem.sub_mono hM _) h3⟩
 | ext b c =>
  simp only[HO.sat] at hs ⊢
  cases b with
  | true=>exact zT hM _ c [] hs
  | false=>exact zT (Mem.sub_mono hM _) _ c [] hs
 | obj o =>
  simp only[HO.sat] at hs ⊢
  rw[hk _ rfl]
  exact hs
 | mp ag ks kl c =>
  simp only[HO.sat] at hs ⊢
  rw[hk _ rfl]
  exact hs
 | tbl T0 T1 size n c hole=>exact wI rfl rfl (fun _=>rfl) (fun _=>Iff.rfl) (Mem.sub_mono hM _) hk hs
 | gone=>trivial
theorem zCh{F:Mem→Prop}{h:List HO}{e:Env}(hF:zP F):qVx (yY F h e):=by
 intro w w' hg S
 have hM:=qUz (h:=h) (e:=e) hg
 exact⟨fun i ho hi=>qLz hM hg (S.sat i ho hi),hF _ _ hM S.fact⟩
end Go.Sx
/- The run through a function's body, cut at loops and calls, and that it is so. -/
namespace Go.Sx
open Go.RowKit

def qIx(i:Nat):Code→Code
 | .seq a b=>match i with | 0=>a | _=>b
 | .cond _ a b=>match i with | 0=>a | _=>b
 | .block _ b=>b
 | .loop b=>b
 | .scope b=>b
 | c=>c
def sub(B:Code):List Nat→Code
 | []=>B
 | i::p=>qIx i (sub B p)
inductive It where
  | at (p : List Nat)
  | blk (id : Nat)
  | rnd (p : List Nat) (m : Nat)
  | ret
  | ops (p : List Nat) (i : Nat)
  | any (p : List Nat) (fuel : Nat) (listed : Array Bool)
  | one (p : List Nat) (fuel : Nat) (listed : Array Bool) (i : Nat)

def jD(P:Program)(B:Code)(fin:Exit→Act→World→Prop):List It→Exit→Act→World→Prop
 | [],e,a,w=>fin e a w
 | .at p::k,.normal,a,w=>(sub B p).wp P (jD P B fin k) a w
 | .ops p i::k,.normal,a,w=>match sub B p with
  | .region _ ops _=>wpList P ops (jD P B fin k) (ops.toList.drop i) a w
  | _=>False
 | .any p f l::k,.normal,a,w=>match sub B p with
  | .region _ ops _=>qDr P ops (jD P B fin k) f l a w
  | _=>False
 | .one p f l i::k,.normal,a,w=>match sub B p with
  | .region _ ops _=>wpOp P ops (jD P B fin k) i (fun a' w'=>(qJh ops i=true→qJg w w')∧qDr P ops (jD P B fin k) f (l.setIfInBounds i true) a' w') a w
  | _=>False
 | .ret::k,.normal,a,w=>jD P B fin k .ret a w
 | .rnd p m::k,.normal,a,w=>Code.rounds P (sub B p) (jD P B fin k) m a w
 | .blk _::k,.normal,a,w=>jD P B fin k .normal a w
 | .blk id::k,.exit id',a,w=>if id'=id then jD P B fin k .normal a w else jD P B fin k (.exit id') a w
 | _::k,e,a,w=>jD P B fin k e a w
structure St where
 tm:List (Nat×SV)
 heap:List HO
structure qDd where
 sd:List zF
 k:List It
 st:St
 D:List Dec
def qVe(id:Nat):List It→Option (List It)
 | []=>none
 | .blk id'::k=>bif Nat.beq id id' then some k else qVe id k
 | _::k=>qVe id k
def qGa(ops:Array Oper)(st:St)(D:List Dec)(o:Oper):Option (Bool×St×List zF×List Dec) :=
 match o.guard with
 | none=>some (true,st,[],D)
 | some (j,want)=>match (ops[j]?).bind (·.dst) with
  | none=>none
  | some t=>match lk st.tm t with
   | some (.bl b)=>some (b==want,st,[],D)
   | some (.v (.bool b))=>match D with
    | .t::D'=>some (want,⟨(t,.bl true)::del st.tm t,st.heap⟩,[fun(_:Mem)=>b=true],D')
    | .f::D'=>some (!want,⟨(t,.bl false)::del st.tm t,st.heap⟩,[fun(_:Mem)=>b=false],D')
    | _=>none
   | some (.v (.tuple _))=>some (false,st,[],D)
   | _=>none
def qJi(n:Nat)(st:St)(d:Option Nat)(s:SV):Option St :=
 match d with
 | none=>some st
 | some d=>bif Nat.blt d n then some ⟨(d,s)::del st.tm d,st.heap⟩ else none
def xop(P:Program)(X:Ext P)(n:Nat)(ops:Array Oper)(st:St)(D:List Dec)(o:Oper):Option (St×List zF×List Dec) :=
 match qGa ops st D o with
 | none=>none
 | some (false,st1,sd1,D1)=>match qJi n st1 o.dst (.v undef) with
  | some st2=>some (st2,sd1,D1)
  | none=>none
 | some (true,st1,sd1,D1) =>
  match xqa P X st1.tm st1.heap D1 o with
  | some (s,sd2,D2)=>match qJi n st1 o.dst s with
   | some st2=>some (st2,sd1++sd2,D2)
   | none=>none
  | none=>match xlm P X st1.tm st1.heap D1 o with
   | some (some s,h,sd2,D2)=>match qJi n ⟨st1.tm,h⟩ o.dst s with
    | some st2=>some (st2,sd1++sd2,D2)
    | none=>none
   | some (none,h,sd2,D2)=>match qJi n ⟨st1.tm,h⟩ o.dst (.v undef) with
    | some st2=>some (st2,sd1++sd2,D2)
    | none=>none
   | none=>none
def qGg(P:Program)(X:Ext P)(n:Nat)(ops:Array Oper)(listed:Array Bool)(st:St)(D:List Dec):List Nat→Option (Nat×St×List zF×List Dec)
 | []=>none
 | i::r =>
  match ops[i]? with
  | none=>qGg P X n ops listed st D r
  | some o=>match qGa ops st D o with
   | none=>qGg P X n ops listed st D r
   | some (false,st1,sd1,D1)=>match qJi n st1 o.dst (.v undef) with
    | some st2=>bif qOb ops i o&&qHh ops listed i then some (i,st2,sd1,D1) else qGg P X n ops listed st D r
    | none=>none
   | some (true,st1,sd1,D1)=>match xqa P X st1.tm st1.heap D1 o with
    | some (s,sd2,D2)=>match qJi n st1 o.dst s with
     | some st2=>bif qOb ops i o&&qHh ops listed i then some (i,st2,sd1++sd2,D2) else qGg P X n ops listed st D r
     | none=>none
    | none=>qGg P X n ops listed st D r
def zAu(ops:Array Oper)(st:St)(o:Oper):Option Bool :=
 match o.guard with
 | some (j,_)=>match (ops[j]?).bind (·.dst) with
  | some t=>match lk st.tm t with
   | some (.v (.bool b))=>some b
   | _=>none
  | none=>none
 | none=>none
def qIf(ops:Array Oper)(st:St):List Nat→Option Bool
 | []=>none
 | i::r=>match ops[i]? with
  | some o=>match zAu ops st o with
   | some b=>some b
   | none=>qIf ops st r
  | none=>qIf ops st r
def zEo(ops:Array Oper)(st:St)(D:List Dec)(l:List Nat):Bool :=
 match D with
 | .t::_=>false
 | .f::_=>false
 | _=>(qIf ops st l).isSome
def qKb(g:Nat→Option (List qDd)):List Nat→Option (List qDd)
 | []=>some []
 | i::r=>match g i,qKb g r with
  | some a,some b=>some (a++b)
  | _,_=>none
def wS(P:Program)(X:Ext P)(B:Code)(n:Nat):Nat→List Dec→List It→St→List zF→Option (List qDd)
 | 0,D,k,st,sd=>some [⟨sd,k,st,D⟩]
 | fuel+1,D,k,st,sd =>
  match k with
  | []=>some [⟨sd,k,st,D⟩]
  | .rnd p m::k'=>some [⟨sd,.rnd p m::k',st,D⟩]
  | .ret::k'=>some [⟨sd,.ret::k',st,D⟩]
  | .one p f l i::k'=>some [⟨sd,.one p f l i::k',st,D⟩]
  | .blk _::k'=>wS P X B n fuel D k' st sd
  | .at p::k'=>match sub B p with
   | .skip=>wS P X B n fuel D k' st sd
   | .label _=>wS P X B n fuel D k' st sd
   | .seq _ _=>wS P X B n fuel D (.at (0::p)::.at (1::p)::k') st sd
   | .block id _=>wS P X B n fuel D (.at (0::p)::.blk id::k') st sd
   | .cond c _ _=>match evO st.tm c with
    | some (.bl true)=>wS P X B n fuel D (.at (0::p)::k') st sd
    | some (.bl false)=>wS P X B n fuel D (.at (1::p)::k') st sd
    | some (.v (.bool b))=>match D with
     | .t::D'=>wS P X B n fuel D' (.at (0::p)::k') st (sd++[fun(_:Mem)=>b=true])
     | .f::D'=>wS P X B n fuel D' (.at (1::p)::k') st (sd++[fun(_:Mem)=>b=false])
     | _=>some [⟨sd,.at p::k',st,D⟩]
    | _=>none
   | .exit id=>match qVe id k' with
    | some k2=>wS P X B n fuel D k2 st sd
    | none=>none
   | .ret=>some [⟨sd,.ret::k',st,D⟩]
   | .region _ ops dr=>wS P X B n fuel D ((bif dr then .any p ops.size (Array.replicate ops.size false) else .ops p 0)::k') st sd
   | _=>some [⟨sd,.at p::k',st,D⟩]
  | .ops p i::k'=>match sub B p with
   | .region _ ops _=>match ops[i]? with
    | none=>wS P X B n fuel D k' st sd
    | some o=>match xop P X n ops st D o with
     | some (st2,sd2,D2)=>wS P X B n fuel D2 (.ops p (i+1)::k') st2 (sd++sd2)
     | none=>some [⟨sd,.ops p i::k',st,D⟩]
   | _=>none
  | .any p f l::k'=>match sub B p with
   | .region _ ops _=>match Region.ready .any ops l with
    | []=>wS P X B n fuel D k' st sd
    | r::rs=>match f with
     | 0=>none
     | f+1=>bif Region.noSelect ops then
      match qGg P X n ops l st D (r::rs) with
      | some (i,st2,sd2,D2)=>wS P X B n fuel D2 (.any p f (l.setIfInBounds i true)::k') st2 (sd++sd2)
      | none=>bif zEo ops st D (r::rs) then some [⟨sd,.any p (f+1) l::k',st,D⟩] else qKb (fun i=>match ops[i]? with
       | none=>none
       | some o=>match xop P X n ops st D o with
        | some (st2,sd2,D2)=>bif yN o||!qJh ops i then wS P X B n fuel D2 (.any p f (l.setIfInBounds i true)::k') st2 (sd++sd2) else none
        | none=>some [⟨sd,.one p f l i::k',st,D⟩]) (r::rs)
      else none
   | _=>none
end Go.Sx
/- The run through a body: its truth. -/
namespace Go.Sx
open Go.RowKit

def Ok(P:Program)(B:Code)(n:Nat)(F:Mem→Prop)(w0:wO)(fin:Exit→Act→World→Prop)(k:List It)(st:St):Prop :=
 ∀ e a w,qP F w0 st.heap e w→zA n st.heap.length st.tm e a→jD P B fin k .normal a w
section
variable {P : Program} {X : Ext P} {B : Code} {n : Nat} {F : Mem → Prop} {w0 : wO} {fin : Exit → Act → World → Prop}

theorem qYh(k:List It)(c:List PanicEntry)(a:Act)(w:World):jD P B fin k (.panic c) a w=fin (.panic c) a w:=by
 induction k with
 | nil=>rfl
 | cons x k ih=>cases x <;> exact ih
theorem zEd(k:List It)(a:Act)(w:World):jD P B fin k .ret a w=fin .ret a w:=by
 induction k with
 | nil=>rfl
 | cons x k ih=>cases x <;> exact ih
theorem xL(id:Nat):∀(k:List It) {k2:List It},qVe id k=some k2→∀ a w,jD P B fin k2 .normal a w→jD P B fin k (.exit id) a w
 | [],k2,h,a,w,hp=>by cases h
 | .blk id'::k,k2,h,a,w,hp=>by
  simp only[qVe] at h
  simp only[jD]
  cases hb:Nat.beq id id' with
  | true =>
   rw[hb] at h
   simp only[cond_true,sI] at h
   subst h
   rw[if_pos (Nat.eq_of_beq_eq_true hb)]
   exact hp
  | false =>
   rw[hb] at h
   simp only[cond_false] at h
   rw[if_neg (fun hh=>by subst hh; simp at hb)]
   exact xL id k h a w hp
 | .at p::k,k2,h,a,w,hp=>xL id k h a w hp
 | .rnd p m::k,k2,h,a,w,hp=>xL id k h a w hp
 | .ret::k,k2,h,a,w,hp=>xL id k h a w hp
 | .ops p i::k,k2,h,a,w,hp=>xL id k h a w hp
 | .any p f l::k,k2,h,a,w,hp=>xL id k h a w hp
 | .one p f l i::k,k2,h,a,w,hp=>xL id k h a w hp
theorem yG{hl:Nat}{ops:Array Oper}{st st1:St}{e:Env}{a:Act}{D D1:List Dec}{o:Oper}{wd:Bool}{sd1:List zF}{M:Mem}(T:zA n hl st.tm e a)(h:qGa ops st D o=some (wd,st1,sd1,D1))(hsd:∀ x∈sd1,x M):
  Region.wanted o (yielded ops a.tmps)=wd∧st1.heap=st.heap∧zA n hl st1.tm e a:=by
 unfold qGa at h
 split at h
 ·rename_i hg
  simp only[sI,pI] at h
  obtain⟨rfl,rfl,rfl,rfl⟩:=h
  exact⟨by simp [Region.wanted,hg],rfl,T⟩
 ·rename_i j want hg
  split at h
  ·cases h
  ·rename_i t ht
   have hy:∀ s,lk st.tm t=some s→yielded ops a.tmps j=match den e s with | .bool b=>some b | _=>none:=by
    intro s hs
    unfold yielded
    rw[ht]
    simp only[Option.bind_some,T.get t s hs]
    cases den e s <;> rfl
   have mark:∀(b:Bool),lk st.tm t=some (.v (.bool b))→zA n hl ((t,.bl b)::del st.tm t) e a:=by
    intro b hb
    refine T.sub' ?_
    intro u s hu
    simp only[lk] at hu
    cases hbq:Nat.beq t u with
    | true =>
     have:t=u:=Nat.eq_of_beq_eq_true hbq
     subst this
     simp only[hbq,cond_true,sI] at hu
     subst hu
     exact⟨_,hb,rfl,trivial⟩
    | false =>
     have hne:t≠u:=fun hh=>by subst hh; simp at hbq
     simp only[hbq,cond_false] at hu
     rw[qAg _ _ _ hne] at hu
     exact⟨s,hu,rfl,T.wsc u s hu⟩
   split at h
   ·rename_i b hs
    simp only[sI,pI] at h
    obtain⟨rfl,rfl,rfl,rfl⟩:=h
    refine⟨?_,rfl,T⟩
    simp only[Region.wanted,hg,hy _ hs,den]
    cases b <;> cases want <;> rfl
   ·rename_i b hs
    split at h
    ·simp only[sI,pI] at h
     obtain⟨rfl,rfl,rfl,rfl⟩:=h
     have hb:b=true:=hsd _ List.mem_cons_self
     subst hb
     refine⟨?_,rfl,mark true hs⟩
     simp only[Region.wanted,hg,hy _ hs,den]
     cases want <;> rfl
    ·simp only[sI,pI] at h
     obtain⟨rfl,rfl,rfl,rfl⟩:=h
     have hb:b=false:=hsd _ List.mem_cons_self
     subst hb
     refine⟨?_,rfl,mark false hs⟩
     simp only[Region.wanted,hg,hy _ hs,den]
     cases want <;> rfl
    ·cases h
   ·rename_i vs hs
    simp only[sI,pI] at h
    obtain⟨rfl,rfl,rfl,rfl⟩:=h
    refine⟨?_,rfl,T⟩
    simp only[Region.wanted,hg,hy _ hs,den]
    rfl
   ·cases h
theorem yU{hl hl':Nat}{st st2:St}{e e':Env}{a:Act}{d:Option Nat}{s:SV}{v:Value}(T:zA n hl st.tm e a)(hag:zD hl e e')(hle:hl≤hl')(h:qJi n st d s=some st2)(hv:den e' s=v)(hw:ws hl' s):zA n hl' st2.tm e' (a.put d v)∧st2.heap=st.heap:=by
 unfold qJi at h
 cases d with
 | none =>
  simp only[sI] at h
  subst h
  exact⟨T.move hag hle,rfl⟩
 | some d =>
  simp only at h
  cases hb:Nat.blt d n with
  | false=>rw[hb] at h; cases h
  | true =>
   rw[hb] at h
   simp only[cond_true,sI] at h
   subst h
   have hd:d<n:=by
    have:=Nat.le_of_ble_eq_true hb
    omega
   exact⟨T.put hag hle d hd s v hv hw,rfl⟩
theorem qPs(hF:zP F){ops:Array Oper}{st st2:St}{e:Env}{a:Act}{w:World}{D D2:List Dec}{o:Oper}{sd2:List zF}(S:qP F w0 st.heap e w)(T:zA n st.heap.length st.tm e a)(h:xop P X n ops st D o=some (st2,sd2,D2))(hsd:yE F sd2):
  ∃ e' w' v,qP F w0 st2.heap e' w'∧zA n st2.heap.length st2.tm e' (a.put o.dst v)∧(yN o=true→qJg w w') ∧
   ∀(K:Act→World→Prop) (Q:Exit→Act→World→Prop),K (a.put o.dst v) w' →
    if Region.wanted o (yielded ops a.tmps) then o.wp P a w K Q else K (a.put o.dst undef) w:=by
 unfold xop at h
 split at h
 ·cases h
 ·rename_i st1 sd1 D1 hg
  split at h
  ·rename_i st3 hp
   simp only[sI,pI] at h
   obtain⟨rfl,rfl,rfl⟩:=h
   obtain⟨g1,g2,g3⟩:=yG T hg (fun x hx=>hsd x hx _ S.fact)
   obtain⟨p1,p2⟩:=yU (v:=undef) g3 (zD.refl _ e) (Nat.le_refl _) hp rfl trivial
   refine⟨e,w,undef,by rw[p2,g2]; exact S,by rw[p2,g2]; exact p1,fun _ _ _=>rfl,fun K Q hK=>?_⟩
   rw[g1]
   exact hK
  ·cases h
 ·rename_i st1 sd1 D1 hg
  split at h
  ·rename_i s sd3 D3 hq
   split at h
   ·rename_i st3 hp
    simp only[sI,pI] at h
    obtain⟨rfl,rfl,rfl⟩:=h
    obtain⟨g1,g2,g3⟩:=yG T hg (fun x hx=>hsd x (List.mem_append_left _ hx) _ S.fact)
    have S1:qP F w0 st1.heap e w:=by rw[g2]; exact S
    have T1:zA n st1.heap.length st1.tm e a:=by rw[g2]; exact g3
    obtain⟨q1,q2⟩:=qOp T1 S1.q S1.ws hq (fun x hx=>hsd x (List.mem_append_right _ hx)) w (fun _=>S1.q)
    obtain⟨p1,p2⟩:=yU T1 (zD.refl _ e) (Nat.le_refl _) hp rfl q2
    refine⟨e,w,den e s,by rw[p2]; exact S1,by rw[p2]; exact p1,fun _ _ _=>rfl,fun K Q hK=>?_⟩
    rw[g1]
    simp only[if_true,Oper.wp,q1,Oper.upon]
    exact hK
   ·cases h
  ·split at h
   ·rename_i s hh sd3 D3 hl
    split at h
    ·rename_i st3 hp
     simp only[sI,pI] at h
     obtain⟨rfl,rfl,rfl⟩:=h
     obtain⟨g1,g2,g3⟩:=yG T hg (fun x hx=>hsd x (List.mem_append_left _ hx) _ S.fact)
     have S1:qP F w0 st1.heap e w:=by rw[g2]; exact S
     have T1:zA n st1.heap.length st1.tm e a:=by rw[g2]; exact g3
     obtain⟨e',w',l1,l2,l3,l4,l5⟩:=qOm hF T1 S1 hl (fun x hx=>hsd x (List.mem_append_right _ hx))
     obtain⟨l5,l6⟩:=l5
     obtain⟨p1,p2⟩:=yU (st:=⟨st1.tm,hh⟩) T1 l1 l2 hp rfl l6
     refine⟨e',w',den e' s,by rw[p2]; exact l3,by rw[p2]; exact p1,l4,fun K Q hK=>?_⟩
     rw[g1]
     simp only[if_true,Oper.wp,l5,Oper.upon]
     exact hK
    ·cases h
   ·rename_i hh sd3 D3 hl
    split at h
    ·rename_i st3 hp
     simp only[sI,pI] at h
     obtain⟨rfl,rfl,rfl⟩:=h
     obtain⟨g1,g2,g3⟩:=yG T hg (fun x hx=>hsd x (List.mem_append_left _ hx) _ S.fact)
     have S1:qP F w0 st1.heap e w:=by rw[g2]; exact S
     have T1:zA n st1.heap.length st1.tm e a:=by rw[g2]; exact g3
     obtain⟨e',w',l1,l2,l3,l4,l5⟩:=qOm hF T1 S1 hl (fun x hx=>hsd x (List.mem_append_right _ hx))
     obtain⟨p1,p2⟩:=yU (st:=⟨st1.tm,hh⟩) (v:=undef) T1 l1 l2 hp rfl trivial
     refine⟨e',w',undef,by rw[p2]; exact l3,by rw[p2]; exact p1,l4,fun K Q hK=>?_⟩
     rw[g1]
     simp only[if_true,Oper.wp,l5,Oper.upon]
     exact hK
    ·cases h
   ·cases h
theorem qJd{ops:Array Oper}{listed:Array Bool}{st st2:St}{e:Env}{a:Act}{w:World}{D D2:List Dec}{sd2:List zF}{i:Nat}(S:qP F w0 st.heap e w)(T:zA n st.heap.length st.tm e a):∀(l:List Nat),qGg P X n ops listed st D l=some (i,st2,sd2,D2)→yE F sd2 →
  i∈l∧qHh ops listed i=true∧∃ o v,ops[i]?=some o∧(wH o=true→qDg ops i=false)∧st2.heap=st.heap∧zA n st.heap.length st2.tm e (a.put o.dst v) ∧
   YieldsIf P ops (fun w'=>wH o=true→yY F st.heap e w') o v a
 | [],h,_=>by cases h
 | j::r,h,hsd=>by
  have rec':qGg P X n ops listed st D r=some (i,st2,sd2,D2)→i∈j::r∧qHh ops listed i=true∧∃ o v,ops[i]?=some o∧(wH o=true→qDg ops i=false)∧st2.heap=st.heap∧zA n st.heap.length st2.tm e (a.put o.dst v) ∧
   YieldsIf P ops (fun w'=>wH o=true→yY F st.heap e w') o v a:=fun h2=>by
   obtain⟨r1,r2⟩:=qJd S T r h2 hsd
   exact⟨List.mem_cons_of_mem _ r1,r2⟩
  simp only[qGg] at h
  split at h
  ·exact rec' h
  ·rename_i o ho
   split at h
   ·exact rec' h
   ·rename_i st1 sd1 D1 hg
    split at h
    ·rename_i st3 hp
     cases hf:qOb ops j o&&qHh ops listed j with
     | false=>rw[hf] at h; exact rec' h
     | true =>
      rw[hf] at h
      simp only[cond_true,sI,pI] at h
      obtain⟨rfl,rfl,rfl,rfl⟩:=h
      obtain⟨g1,g2,g3⟩:=yG T hg (fun x hx=>hsd x hx _ S.fact)
      obtain⟨p1,p2⟩:=yU (v:=undef) g3 (zD.refl _ e) (Nat.le_refl _) hp rfl trivial
      exact⟨List.mem_cons_self,(Bool.and_eq_true _ _ ▸ hf).2,o,undef,ho,qMb (Bool.and_eq_true _ _ ▸ hf).1,p2.trans g2,p1,.inr ⟨g1,rfl⟩⟩
    ·cases h
   ·rename_i st1 sd1 D1 hg
    split at h
    ·rename_i s sd3 D3 hq
     split at h
     ·rename_i st3 hp
      cases hf:qOb ops j o&&qHh ops listed j with
      | false=>rw[hf] at h; exact rec' h
      | true =>
       rw[hf] at h
       simp only[cond_true,sI,pI] at h
       obtain⟨rfl,rfl,rfl,rfl⟩:=h
       obtain⟨g1,g2,g3⟩:=yG T hg (fun x hx=>hsd x (List.mem_append_left _ hx) _ S.fact)
       have S1:qP F w0 st1.heap e w:=by rw[g2]; exact S
       have T1:zA n st1.heap.length st1.tm e a:=by rw[g2]; exact g3
       have hgood:=qOp T1 S1.q S1.ws hq (fun x hx=>hsd x (List.mem_append_right _ hx))
       obtain⟨p1,p2⟩:=yU T1 (zD.refl _ e) (Nat.le_refl _) hp rfl (hgood w (fun _=>S1.q)).2
       refine⟨List.mem_cons_self,(Bool.and_eq_true _ _ ▸ hf).2,o,den e s,ho,qMb (Bool.and_eq_true _ _ ▸ hf).1,p2.trans g2,by rw[← g2]; exact p1,.inl ⟨g1,fun w' hw'=>(hgood w' (fun hl=>?_)).1⟩⟩
       rw[g2]
       exact hw' hl
     ·cases h
    ·exact rec' h
end
end Go.Sx
