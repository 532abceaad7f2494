/- Each operation does what it says: all of them, but calls of functions. -/
import Derived.Below
import Derived.OwnWalk
import Derived.Orders
import Derived.WalkKit
import Derived.Laws.Slices
import Derived.IntWalk
import Derived.ChangeKeysEq
import Derived.Lib.ConvBytes
import Derived.Laws.BytesArg
import Derived.Deep.Upon
import Derived.Deep.AppendSrc
import Derived.Room.Entries
import Derived.Deep.DeepAppendWide
import Derived.MapKept
section
namespace Go.Proofs.YtedibjgdangfnaaGreatDoor.V
open Go Go.RowKit
set_option linter.unusedVariables false
set_option linter.unusedSimpArgs false
inductive Zk where
  | nilPtr | nilFunc | nilIface | nilMap
  | hnd (b o:Nat)
def Zk.val:Zk→Value
  | .nilPtr=>.pointer none
  | .nilFunc=>.nilFunc
  | .nilIface=>.nilIface
  | .nilMap=>.map none
  | .hnd b o=>.pointer (some ⟨b,o,none⟩)
inductive Sc where
  | int (k:IntKind) (n:Int)
  | bool (b:Bool)
  | str (l:List UInt8)
  | z (x:Zk)
  | sl (rows:List (List Sc))
  | ref (cells:List Sc) (off:Nat)
  | clo (f:FuncId) (caps:List Sc)
  | ifc (t:TypeId) (a:Bool) (cells:List Sc)
  | mp (rows:List (List Sc))
inductive Lc where
  | d (x:Sc)
  | full (rows:List (List Sc))
  | nn (rows:List (List Sc))
  | nils
  | own (i n:Nat)
  | ptr (i n r o:Nat)
  | clo (f:FuncId) (caps:List Lc)
inductive Vb where
  | s (x:Lc)
  | agg (cs:List Lc)
inductive Va where
  | b (x:Vb)
  | tup (l:List Vb)
  | gv (g:Bool) (x:Va)
  | dead
  | meth (name:String) (x:Sc)
structure Ent where
  st:Nat
  rows:List (List Lc)
  fz:Bool
abbrev Hf:=Nat→Option Ent
structure Base where
  n:Nat
  K:Nat→Prop
  pin:Nat→Option Nat
  lo:∀ i b,pin i=some b→1000000≤i
def Base.ok (B:Base) (k:Nat):Prop:=B.n≤k∧¬ B.K k
def B0 (n:Nat):Base:=⟨n,fun _=>False,fun _=>none,fun _ _ h=>by cases h⟩
theorem B0.ok_iff {n k:Nat}:(B0 n).ok k↔n≤k:=⟨fun h=>h.1,fun h=>⟨h,id⟩⟩
structure Bel (B:Base) (w w1:World):Prop where
  below:Below B.n w w1
  keep:∀ k,B.K k→k < w.heap.size→w1.heap[k]? = w.heap[k]?
  grow:∀ (b:Nat) arr ty fz,w.heap[b]? = some (.cells arr ty fz)→∃ arr1 ty1 fz1,w1.heap[b]? = some (.cells arr1 ty1 fz1)∧arr.size≤arr1.size
theorem Bel.refl (B:Base) (w:World):Bel B w w:=⟨Below.refl _ _,fun _ _ _=>rfl,fun b arr ty fz h=>⟨arr,ty,fz,h,Nat.le_refl _⟩⟩
theorem Bel.trans {B:Base} {w w1 w2:World} (h:Bel B w w1) (k:Bel B w1 w2):Bel B w w2 :=
  ⟨h.below.trans k.below,fun q h1 h2=>(k.keep q h1 (Nat.lt_of_lt_of_le h2 h.below.size)).trans (h.keep q h1 h2),fun b arr ty fz hb=>by
    obtain ⟨a1,t1,f1,h1,h2⟩:=h.grow b arr ty fz hb
    obtain ⟨a2,t2,f2,h3,h4⟩:=k.grow b a1 t1 f1 h1
    exact ⟨a2,t2,f2,h3,Nat.le_trans h2 h4⟩⟩
theorem Bel.old {B:Base} {w w1:World} (h:Below w.heap.size w w1) (hB:B.n≤w.heap.size):Bel B w w1 :=
  ⟨h.mono hB,fun k _ hk=>h.block k hk,fun b arr ty fz hb=>⟨arr,ty,fz,(h.block b (Array.getElem?_eq_some_iff.1 hb).1).trans hb,Nat.le_refl _⟩⟩
theorem Bel.one {B:Base} {w w1:World} {b:Nat} {arr arr1:Array Value} {ty ty1:TypeId} {fz fz1:Nat×Nat} (hos:w1.os=w.os) (ht:w1.tape=w.tape) (ho:w1.output=w.output) (hs:w.heap.size≤w1.heap.size) (hb:B.ok b) (hk:∀ q,q ≠ b→w1.heap[q]? = w.heap[q]?) (h:w.heap[b]? = some (.cells arr ty fz)) (h1:w1.heap[b]? = some (.cells arr1 ty1 fz1)) (hz:arr.size≤arr1.size):Bel B w w1:=by
  refine ⟨⟨hos,ht,ho,hs,fun q hq=>hk q (by rintro rfl;have:=hb.1;omega)⟩,fun q hq _=>hk q (by rintro rfl;exact hb.2 hq),fun q a2 t2 f2 hq => ?_⟩
  by_cases e:q=b
  · subst e;rw [h] at hq;cases hq;exact ⟨arr1,ty1,fz1,h1,hz⟩
  · exact ⟨a2,t2,f2,(hk q e).trans hq,Nat.le_refl _⟩
def strV (l:List UInt8):Value:=.string ⟨⟨l⟩⟩
inductive RepD (w:World) (S:Nat→Prop):Sc→Value→Prop where
  | int (k:IntKind) (n:Int):RepD w S (.int k n) (.int k n)
  | bool (b:Bool):RepD w S (.bool b) (.bool b)
  | str (l:List UInt8):RepD w S (.str l) (strV l)
  | z (x:Zk):RepD w S (.z x) x.val
  | sl (rows:List (List Sc)) (a:Option Addr) (c st b o:Nat) (us:Nat→Value) (hc:rows.length≤c) (h0:a=none→c=0) (hst:∀ r,r∈rows→r.length=st)
      (ha:rows ≠ []→a=some ⟨b,o,none⟩∧S b) (hcell:∀ j sc,rows.flatten[j]? = some sc→w.cell? ⟨b,o+j,none⟩=some (us j))
      (hu:∀ j sc,rows.flatten[j]? = some sc→RepD w S sc (us j)):RepD w S (.sl rows) (.slice a rows.length c)
  | ref (cells:List Sc) (off b o:Nat) (us:Nat→Value) (hS:S b) (hcell:∀ j sc,cells[j]? = some sc→w.cell? ⟨b,o+j,none⟩=some (us j))
      (hu:∀ j sc,cells[j]? = some sc→RepD w S sc (us j)):RepD w S (.ref cells off) (.pointer (some ⟨b,o+off,none⟩))
  | clo (f:FuncId) (caps:List Sc) (vs:Array Value) (hl:vs.size=caps.length) (hu:∀ j sc,caps[j]? = some sc→RepD w S sc (vs.getD j undef)):RepD w S (.clo f caps) (.func (.func f) #[] vs)
  | ifa (t:TypeId) (cells:List Sc) (vs:Array Value) (hl:vs.size=cells.length) (hu:∀ j sc,cells[j]? = some sc→RepD w S sc (vs.getD j undef)):RepD w S (.ifc t true cells) (.iface t (.agg vs))
  | if1 (t:TypeId) (c:Sc) (u:Value) (hu:RepD w S c u):RepD w S (.ifc t false [c]) (.iface t u)
  | mp (rows:List (List Sc)) (r clock:Nat) (es:Array MapEntry) (hS:S r) (hw:w.heap[r]? = some (.map es clock)) (hl:es.size=rows.length)
      (hk:∀ (j:Nat) k v e,rows[j]? = some [k,v]→es[j]? = some e→RepD w S k e.key) (hv:∀ (j:Nat) k v e,rows[j]? = some [k,v]→es[j]? = some e→RepD w S v e.val):RepD w S (.mp rows) (.map (some r))
theorem RepD.mono {w w1:World} {S S1:Nat→Prop} (hS:∀ k,S k→S1 k) (hk:∀ k,S k→w1.heap[k]? = w.heap[k]?) {x:Sc} {u:Value} (h:RepD w S x u):RepD w1 S1 x u:=by
  induction h with
  | int k n=>exact .int k n
  | bool b=>exact .bool b
  | str l=>exact .str l
  | z x=>exact .z x
  | sl rows a c st b o us hc h0 hst ha hcell hu ih =>
    refine .sl rows a c st b o us hc h0 hst (fun hne=>⟨(ha hne).1,hS _ (ha hne).2⟩) (fun j sc hj => ?_) ih
    have hne:rows ≠ []:=by rintro rfl;simp at hj
    exact (World.cell?_of_block (w:=w) (hk _ (ha hne).2)).trans (hcell j sc hj)
  | ref cells off b o us hb hcell hu ih =>
    exact .ref cells off b o us (hS _ hb) (fun j sc hj=>(World.cell?_of_block (w:=w) (hk _ hb)).trans (hcell j sc hj)) ih
  | clo f caps vs hl hu ih=>exact .clo f caps vs hl ih
  | ifa t cells vs hl hu ih=>exact .ifa t cells vs hl ih
  | if1 t c u hu ih=>exact .if1 t c u ih
  | mp rows r clock es hb hw hl hk2 hv ihk ihv=>exact .mp rows r clock es (hS _ hb) ((hk _ hb).trans hw) hl ihk ihv
theorem RepD.one {w:World} {S:Nat→Prop} {x:Sc} {u:Value} (h:RepD w S x u):u.oneCell'=true:=by
  cases h <;> first | rfl | (rename_i z;cases z <;> rfl)
def Hdr (w:World) (ρ:Nat→Option Nat) (i st n:Nat) (u:Value):Prop :=
  ∃ a c,u=.slice a n c∧((n=0∧c=0)∨∃ b arr ty fz,ρ i=some b∧a=some ⟨b,0,none⟩∧n≤c∧w.heap[b]? = some (.cells arr ty fz)∧c * st≤arr.size)
inductive RepL (w:World) (S:Nat→Prop) (ρ:Nat→Option Nat) (G:Hf):Lc→Value→Prop where
  | d (x:Sc) (u:Value) (h:RepD w S x u):RepL w S ρ G (.d x) u
  | full (rows:List (List Sc)) (a:Option Addr) (h:RepD w S (.sl rows) (.slice a rows.length rows.length)):RepL w S ρ G (.full rows) (.slice a rows.length rows.length)
  | nn (rows:List (List Sc)) (q:Addr) (c:Nat) (h:RepD w S (.sl rows) (.slice (some q) rows.length c)):RepL w S ρ G (.nn rows) (.slice (some q) rows.length c)
  | nils:RepL w S ρ G .nils (.slice none 0 0)
  | own (i n:Nat) (e:Ent) (u:Value) (hG:G i=some e) (hn:n≤e.rows.length) (hone:∃ a c,u=.slice a n c) (h:n=e.rows.length→Hdr w ρ i e.st n u):RepL w S ρ G (.own i n) u
  | ptr (i n r o:Nat) (e:Ent) (u:Value) (hG:G i=some e) (hn:n≤e.rows.length) (hone:u.oneCell'=true) (h:n=e.rows.length→∃ b,ρ i=some b∧u=.pointer (some ⟨b,r * e.st+o,none⟩)):RepL w S ρ G (.ptr i n r o) u
  | clo (f:FuncId) (caps:List Lc) (vs:Array Value) (hl:vs.size=caps.length) (hu:∀ j sc,caps[j]? = some sc→RepL w S ρ G sc (vs.getD j undef)):RepL w S ρ G (.clo f caps) (.func (.func f) #[] vs)
theorem RepL.one {w:World} {S:Nat→Prop} {ρ:Nat→Option Nat} {G:Hf} {x:Lc} {u:Value} (h:RepL w S ρ G x u):u.oneCell'=true:=by
  cases h with
  | d x u h=>exact h.one
  | full rows a h=>rfl
  | nn rows q c h=>rfl
  | nils=>rfl
  | own _ _ _ _ _ _ h1 _=>obtain ⟨a,c,rfl⟩:=h1;rfl
  | ptr _ _ _ _ _ _ _ _ h1 _=>exact h1
  | clo f caps vs hl hu=>rfl
structure Ext (w:World) (S:Nat→Prop) (ρ:Nat→Option Nat) (G:Hf) (w1:World) (S1:Nat→Prop) (ρ1:Nat→Option Nat) (G1:Hf):Prop where
  sub:∀ k,S k→S1 k
  keep:∀ k,S k→w1.heap[k]? = w.heap[k]?
  ids:∀ i e,G i=some e→∃ e1,G1 i=some e1∧e1.st=e.st∧((e1.rows.length=e.rows.length∧ρ1 i=ρ i)∨e.rows.length < e1.rows.length)
  size:∀ i b arr ty fz,ρ i=some b→w.heap[b]? = some (.cells arr ty fz)→∃ arr1 ty1 fz1,w1.heap[b]? = some (.cells arr1 ty1 fz1)∧arr.size≤arr1.size
theorem Ext.refl (w:World) (S:Nat→Prop) (ρ:Nat→Option Nat) (G:Hf):Ext w S ρ G w S ρ G :=
  ⟨fun _ h=>h,fun _ _=>rfl,fun i e h=>⟨e,h,rfl,.inl ⟨rfl,rfl⟩⟩,fun i b arr ty fz _ h=>⟨arr,ty,fz,h,Nat.le_refl _⟩⟩
theorem RepL.mono {w w1:World} {S S1:Nat→Prop} {ρ ρ1:Nat→Option Nat} {G G1:Hf} (e:Ext w S ρ G w1 S1 ρ1 G1) {x:Lc} {u:Value} (h:RepL w S ρ G x u):RepL w1 S1 ρ1 G1 x u:=by
  induction h with
  | d x u h=>exact .d x u (h.mono e.sub e.keep)
  | full rows a h=>exact .full rows a (h.mono e.sub e.keep)
  | nn rows q c h=>exact .nn rows q c (h.mono e.sub e.keep)
  | nils=>exact .nils
  | own i n x u hG hn hone h =>
    obtain ⟨x1,h1,hst,h2⟩:=e.ids i x hG
    refine .own i n x1 u h1 (by omega) hone (fun hn1 => ?_)
    rcases h2 with ⟨h2,h3⟩ | h2
    · rw [hst]
      obtain ⟨a,c,h4,h5⟩:=h (by omega)
      refine ⟨a,c,h4,?_⟩
      rcases h5 with h5 | ⟨b,arr,ty,fz,h6,h7,h8,h9,h10⟩
      · exact .inl h5
      · obtain ⟨arr1,ty1,fz1,h11,h12⟩:=e.size i b arr ty fz h6 h9
        exact .inr ⟨b,arr1,ty1,fz1,h3.trans h6,h7,h8,h11,Nat.le_trans h10 h12⟩
    · omega
  | ptr i n r o x u hG hn hone h =>
    obtain ⟨x1,h1,hst,h2⟩:=e.ids i x hG
    refine .ptr i n r o x1 u h1 (by omega) hone (fun hn1 => ?_)
    rcases h2 with ⟨h2,h3⟩ | h2
    · obtain ⟨b,h4,h5⟩:=h (by omega)
      rw [hst]
      exact ⟨b,h3.trans h4,h5⟩
    · omega
  | clo f caps vs hl hu ih=>exact .clo f caps vs hl ih
section
variable (w:World) (S:Nat→Prop) (ρ:Nat→Option Nat) (G:Hf)
def RepC (cs:List Lc) (vs:Array Value):Prop:=vs.size=cs.length∧∀ (j:Nat) lc,cs[j]? = some lc→RepL w S ρ G lc (vs.getD j undef)
def RepB:Vb→Value→Prop
  | .s x,u=>RepL w S ρ G x u
  | .agg cs,u=>∃ vs,u=.agg vs∧RepC w S ρ G cs vs
def RepV:Va→Value→Prop
  | .b x,u=>RepB w S ρ G x u
  | .tup l,u=>∃ vs:Array Value,u=.tuple vs∧vs.size=l.length∧∀ (j:Nat) x,l[j]? = some x→RepB w S ρ G x (vs.getD j undef)
  | .gv g x,u=>(g=true→RepV x u)∧(g=false→u=undef)
  | .dead,_=>True
  | .meth name x,u=>∃ v,u=.func (.method name) #[v] #[]∧RepD w S x v
def Blk (i:Nat) (e:Ent):Prop :=
  (∀ r,r∈e.rows→r.length=e.st)∧((ρ i=none∧(e.fz=false→e.rows=[]))∨∃ b arr ty fz,ρ i=some b∧(S b↔e.fz=true)∧w.heap[b]? = some (.cells arr ty fz)∧(e.fz=false→∀ o,o < arr.size→¬ (fz.1≤o∧o < fz.2)) ∧
    ∀ (j:Nat) lc,e.rows.flatten[j]? = some lc→∃ u,arr[j]? = some u∧RepL w S ρ G lc u)
structure Hr (base:Base):Prop where
  blk:∀ i e,G i=some e→Blk w S ρ G i e
  inj:∀ i j b,ρ i=some b→ρ j=some b→i=j
  own:∀ i b,ρ i=some b→base.ok b
  dom:∀ i b,ρ i=some b→G i ≠ none
  lt:∀ k,S k→k < w.heap.size
  klt:∀ k,base.K k→k < w.heap.size
  pin:∀ i b p,ρ i=some b→base.pin i=some p→b=p
end
variable {w w1:World} {S S1:Nat→Prop} {ρ ρ1:Nat→Option Nat} {G G1:Hf} {base:Base}
theorem RepC.mono (e:Ext w S ρ G w1 S1 ρ1 G1) {cs:List Lc} {vs:Array Value} (h:RepC w S ρ G cs vs):RepC w1 S1 ρ1 G1 cs vs:=⟨h.1,fun j lc hj=>(h.2 j lc hj).mono e⟩
theorem RepB.mono (e:Ext w S ρ G w1 S1 ρ1 G1) {x:Vb} {u:Value} (h:RepB w S ρ G x u):RepB w1 S1 ρ1 G1 x u:=by
  cases x with
  | s x=>exact RepL.mono e h
  | agg cs=>obtain ⟨vs,h1,h2⟩:=h;exact ⟨vs,h1,h2.mono e⟩
theorem RepV.mono (e:Ext w S ρ G w1 S1 ρ1 G1) {x:Va} {u:Value} (h:RepV w S ρ G x u):RepV w1 S1 ρ1 G1 x u:=by
  induction x with
  | b x=>exact RepB.mono e h
  | tup l=>obtain ⟨vs,h1,h2,h3⟩:=h;exact ⟨vs,h1,h2,fun j x hj=>(h3 j x hj).mono e⟩
  | gv g x ih=>exact ⟨fun hg=>ih (h.1 hg),h.2⟩
  | dead=>trivial
  | meth name x=>obtain ⟨v,h1,h2⟩:=h;exact ⟨v,h1,h2.mono e.sub e.keep⟩
theorem Hr.real (h:Hr w S ρ G base) {i b:Nat} (hb:ρ i=some b):∃ e arr ty fz,G i=some e∧(S b↔e.fz=true)∧w.heap[b]? = some (.cells arr ty fz):=by
  cases hG:G i with
  | none=>exact absurd hG (h.dom i b hb)
  | some e =>
    rcases (h.blk i e hG).2 with ⟨h1,_⟩ | ⟨b1,arr,ty,fz,h1,h2,h3,_⟩
    · rw [h1] at hb;cases hb
    · rw [h1] at hb;cases hb;exact ⟨e,arr,ty,fz,rfl,h2,h3⟩
theorem Hr.fresh (h:Hr w S ρ G base) (hB:base.n≤w.heap.size) {k:Nat} (hk:w.heap.size≤k):base.ok k:=⟨Nat.le_trans hB hk,fun hK=>by have:=h.klt k hK;omega⟩
theorem Hr.bound (h:Hr w S ρ G base) {i b:Nat} (hb:ρ i=some b):b < w.heap.size:=by
  obtain ⟨e,arr,ty,fz,_,_,h1⟩:=h.real hb
  exact (Array.getElem?_eq_some_iff.1 h1).1
theorem Blk.cell {i:Nat} {e:Ent} {b:Nat} (h:Blk w S ρ G i e) (hb:ρ i=some b) {j:Nat} {lc:Lc} (hj:e.rows.flatten[j]? = some lc):∃ u,w.cell? ⟨b,j,none⟩=some u∧(e.fz=false→w.frozen? ⟨b,j,none⟩=false)∧RepL w S ρ G lc u:=by
  rcases h.2 with ⟨h1,_⟩ | ⟨b1,arr,ty,fz,h1,_,h2,h3,h4⟩
  · rw [h1] at hb;cases hb
  · rw [h1] at hb;cases hb
    obtain ⟨u,h5,h6⟩:=h4 j lc hj
    have hlt:=(Array.getElem?_eq_some_iff.1 h5).1
    refine ⟨u,by simp [World.cell?,h2,h5],fun hz => ?_,h6⟩
    have:=h3 hz j hlt
    simp only [World.frozen?,h2]
    rw [Bool.eq_false_iff]
    simpa using this
theorem flatten_row {α:Type} {rows:List (List α)} {st:Nat} (h:∀ r,r∈rows→r.length=st):∀ (r o:Nat) (row:List α),rows[r]? = some row→o < st→rows.flatten[r * st+o]? = row[o]? := by
  induction rows with
  | nil=>intro r o row h1;simp at h1
  | cons x l ih =>
    intro r o row h1 ho
    have hx:x.length=st:=h x (List.mem_cons_self ..)
    cases r with
    | zero =>
      simp only [List.getElem?_cons_zero,Option.some.injEq] at h1
      subst h1
      rw [List.flatten_cons,Nat.zero_mul,Nat.zero_add,List.getElem?_append_left (by omega)]
    | succ r =>
      simp only [List.getElem?_cons_succ] at h1
      rw [List.flatten_cons,List.getElem?_append_right (by rw [Nat.add_mul];omega)]
      have:=ih (fun r hr=>h r (List.mem_cons_of_mem _ hr)) r o row h1 ho
      rw [← this];congr 1;rw [Nat.add_mul,hx];omega
theorem flatten_length_const {α:Type} {rows:List (List α)} {st:Nat} (h:∀ r,r∈rows→r.length=st):rows.flatten.length=rows.length * st:=by
  induction rows with
  | nil=>simp
  | cons x l ih=>rw [List.flatten_cons,List.length_append,ih fun r hr=>h r (List.mem_cons_of_mem _ hr),h x (List.mem_cons_self ..),List.length_cons,Nat.add_mul];omega
def convC (f:Lc→Option Sc):List Lc→Option (List Sc)
  | []=>some []
  | x :: l=>match f x,convC f l with | some a,some b=>some (a :: b) | _,_=>none
def convR (f:Lc→Option Sc):List (List Lc)→Option (List (List Sc))
  | []=>some []
  | x :: l=>match convC f x,convR f l with | some a,some b=>some (a :: b) | _,_=>none
def conv (F:List Nat) (G:Hf):Nat→Lc→Option Sc
  | 0,.d x=>some x
  | 0,.full rows=>some (.sl rows)
  | 0,.nn rows=>some (.sl rows)
  | 0,.nils=>some (.sl [])
  | 0,_=>none
  | n+1,.d x=>some x
  | n+1,.full rows=>some (.sl rows)
  | n+1,.nn rows=>some (.sl rows)
  | n+1,.nils=>some (.sl [])
  | n + 1,.own i m=>if F.contains i then match G i with
      | some e=>if m=e.rows.length then (convR (conv F G n) e.rows).map Sc.sl else none
      | none=>none else none
  | n + 1,.ptr i m r o=>if F.contains i then match G i with
      | some e=>if m=e.rows.length then (convR (conv F G n) e.rows).map (fun l=>Sc.ref l.flatten (r * e.st+o)) else none
      | none=>none else none
  | n+1,.clo f caps=>(convC (conv F G n) caps).map (Sc.clo f)
theorem convC_get {f:Lc→Option Sc}:∀ {l:List Lc} {r:List Sc},convC f l=some r→r.length=l.length∧∀ (j:Nat) s,r[j]? = some s→∃ x,l[j]? = some x∧f x=some s
  | [],r,h=>by simp only [convC,Option.some.injEq] at h;subst h;simp
  | x :: l,r,h=>by
    simp only [convC] at h
    split at h
    · rename_i a b h1 h2
      simp only [Option.some.injEq] at h
      subst h
      obtain ⟨h3,h4⟩:=convC_get h2
      refine ⟨by simp [h3],fun j s hj => ?_⟩
      cases j with
      | zero=>simp only [List.getElem?_cons_zero,Option.some.injEq] at hj;subst hj;exact ⟨x,rfl,h1⟩
      | succ j=>simp only [List.getElem?_cons_succ] at hj;obtain ⟨y,h5,h6⟩:=h4 j s hj;exact ⟨y,by simpa using h5,h6⟩
    · cases h
theorem convR_get {f:Lc→Option Sc}:∀ {l:List (List Lc)} {r:List (List Sc)},convR f l=some r→r.length=l.length∧(∀ q,(∀ x,x∈l→x.length=q)→∀ x,x∈r→x.length=q)∧r.flatten.length=l.flatten.length∧∀ (j:Nat) s,r.flatten[j]? = some s→∃ x,l.flatten[j]? = some x∧f x=some s
  | [],r,h=>by simp only [convR,Option.some.injEq] at h;subst h;simp
  | x :: l, r,h=>by
    simp only [convR] at h
    split at h
    · rename_i a b h1 h2
      simp only [Option.some.injEq] at h
      subst h
      obtain ⟨h3,h4,h5,h6⟩:=convR_get h2
      obtain ⟨h7,h8⟩:=convC_get h1
      refine ⟨by simp [h3],fun q hq y hy => ?_,by simp [h5,h7],fun j s hj => ?_⟩
      · rcases List.mem_cons.1 hy with rfl | hy
        · rw [h7];exact hq x (List.mem_cons_self ..)
        · exact h4 q (fun z hz=>hq z (List.mem_cons_of_mem _ hz)) y hy
      · rw [List.flatten_cons] at hj ⊢
        by_cases hlt:j < a.length
        · rw [List.getElem?_append_left hlt] at hj
          rw [List.getElem?_append_left (by omega)]
          exact h8 j s hj
        · rw [List.getElem?_append_right (by omega)] at hj
          rw [List.getElem?_append_right (by omega),← h7]
          exact h6 _ s hj
    · cases h
theorem RepD.nils:RepD w S (.sl []) (.slice none 0 0):=.sl [] none 0 0 0 0 (fun _=>undef) (Nat.le_refl _) (fun _=>rfl) (by simp) (by simp) (by simp) (by simp)
def Sup (S:Nat→Prop) (ρ:Nat→Option Nat) (F:List Nat) (k:Nat):Prop:=S k∨∃ i,i∈F∧ρ i=some k
theorem RepD.sup {F:List Nat} {x:Sc} {u:Value} (h:RepD w S x u):RepD w (Sup S ρ F) x u:=h.mono (fun k hk=>.inl hk) (fun _ _=>rfl)
theorem conv_sound (hr:Hr w S ρ G base) (F:List Nat):∀ (n:Nat) (lc:Lc) (x:Sc) (u:Value),conv F G n lc=some x→RepL w S ρ G lc u→RepD w (Sup S ρ F) x u:=by
  intro n
  induction n with
  | zero =>
    intro lc x u hc h
    cases lc with
    | d y=>simp only [conv,Option.some.injEq] at hc;subst hc;cases h with | d _ _ h=>exact h.sup
    | full rows=>simp only [conv,Option.some.injEq] at hc;subst hc;cases h with | full _ a h=>exact h.sup
    | nn rows=>simp only [conv,Option.some.injEq] at hc;subst hc;cases h with | nn _ q c h=>exact h.sup
    | nils=>simp only [conv,Option.some.injEq] at hc;subst hc;cases h with | nils=>exact .nils
    | own i m=>simp [conv] at hc
    | ptr i m r o=>simp [conv] at hc
    | clo f caps=>simp [conv] at hc
  | succ n ih =>
    intro lc x u hc h
    cases lc with
    | d y=>simp only [conv,Option.some.injEq] at hc;subst hc;cases h with | d _ _ h=>exact h.sup
    | full rows=>simp only [conv,Option.some.injEq] at hc;subst hc;cases h with | full _ a h=>exact h.sup
    | nn rows=>simp only [conv,Option.some.injEq] at hc;subst hc;cases h with | nn _ q c h=>exact h.sup
    | nils=>simp only [conv,Option.some.injEq] at hc;subst hc;cases h with | nils=>exact .nils
    | own i m =>
      simp only [conv] at hc
      split at hc
      · rename_i hF
        split at hc
        · rename_i e hG
          split at hc
          · rename_i hm
            obtain ⟨rows,hrows,rfl⟩:=Option.map_eq_some_iff.1 hc
            cases h with
            | own _ _ e1 _ hG1 hn hone hh =>
              rw [hG] at hG1;cases hG1
              obtain ⟨a,c,rfl,h2⟩:=hh hm
              obtain ⟨g1,g2,g3,g4⟩:=convR_get hrows
              have hlen:m=rows.length:=by omega
              have hb:=hr.blk i e hG
              subst hlen
              rcases h2 with ⟨h2,h3⟩ | ⟨b,arr,ty,fz,h2,h3,h4,h5,h6⟩
              · have:rows=[]:=List.eq_nil_of_length_eq_zero h2
                subst this
                exact .sl [] a c e.st 0 0 (fun _=>undef) (by simp) (fun _=>h3) (by simp) (by simp) (by simp) (by simp)
              · have hcell:=fun (j:Nat) (sc:Sc) (hj:rows.flatten[j]? = some sc)=>hb.cell h2 (g4 j sc hj).choose_spec.1
                refine .sl rows a c e.st b 0 (fun j=>(w.cell? ⟨b,j,none⟩).getD undef) h4 (fun h=>by rw [h3] at h;cases h) (g2 _ hb.1) (fun _=>⟨h3,.inr ⟨i,by simpa using hF,h2⟩⟩) (fun j sc hj => ?_) (fun j sc hj => ?_)
                · obtain ⟨y,hy1,hy2⟩:=g4 j sc hj
                  obtain ⟨u,hu1,hu2,hu3⟩:=hb.cell h2 hy1
                  rw [Nat.zero_add,hu1];rfl
                · obtain ⟨y,hy1,hy2⟩:=g4 j sc hj
                  obtain ⟨u,hu1,hu2,hu3⟩:=hb.cell h2 hy1
                  rw [hu1]
                  exact ih y sc u hy2 hu3
          · cases hc
        · cases hc
      · cases hc
    | ptr i m r o =>
      simp only [conv] at hc
      split at hc
      · rename_i hF
        split at hc
        · rename_i e hG
          split at hc
          · rename_i hm
            obtain ⟨rows,hrows,rfl⟩:=Option.map_eq_some_iff.1 hc
            cases h with
            | ptr _ _ _ _ e1 _ hG1 hn hone hh =>
              rw [hG] at hG1;cases hG1
              obtain ⟨b,h2,rfl⟩:=hh hm
              obtain ⟨g1,g2,g3,g4⟩:=convR_get hrows
              have hb:=hr.blk i e hG
              have:=RepD.ref (w:=w) (S:=Sup S ρ F) rows.flatten (r * e.st+o) b 0 (fun j=>(w.cell? ⟨b,j,none⟩).getD undef) (.inr ⟨i,by simpa using hF,h2⟩) (fun j sc hj=>by
                obtain ⟨y,hy1,hy2⟩:=g4 j sc hj
                obtain ⟨u,hu1,hu2,hu3⟩:=hb.cell h2 hy1
                rw [Nat.zero_add,hu1];rfl) (fun j sc hj=>by
                obtain ⟨y,hy1,hy2⟩:=g4 j sc hj
                obtain ⟨u,hu1,hu2,hu3⟩:=hb.cell h2 hy1
                rw [hu1]
                exact ih y sc u hy2 hu3)
              rwa [Nat.zero_add] at this
          · cases hc
        · cases hc
      · cases hc
    | clo f caps =>
      simp only [conv] at hc
      obtain ⟨l,hl,rfl⟩:=Option.map_eq_some_iff.1 hc
      obtain ⟨g1,g2⟩:=convC_get hl
      cases h with
      | clo _ _ vs hs hu =>
        exact .clo f l vs (by omega) (fun j sc hj=>by
          obtain ⟨y,hy1,hy2⟩:=g2 j sc hj
          exact ih y sc _ hy2 (hu j y hy1))
end Go.Proofs.YtedibjgdangfnaaGreatDoor.V
end

section
namespace Go.Proofs.YtedibjgdangfnaaGreatDoor.V
open Go Go.RowKit
set_option linter.unusedVariables false
set_option linter.unusedSimpArgs false
variable {w w1:World} {S S1:Nat→Prop} {ρ ρ1:Nat→Option Nat} {G G1:Hf} {base:Base}
def updG (G:Hf) (i:Nat) (e:Ent):Hf:=fun j=>if j=i then some e else G j
def updR (ρ:Nat→Option Nat) (i:Nat) (b:Option Nat):Nat→Option Nat:=fun j=>if j=i then b else ρ j
theorem Hr.upd0 (h:Hr w S ρ G base) (hB:base.n≤w.heap.size) (i:Nat) (e:Ent) (b0:Option Nat)
    (hk:∀ k,k < w.heap.size→ρ i ≠ some k→w1.heap[k]? = w.heap[k]?) (hs:w.heap.size≤w1.heap.size)
    (hG:∀ x,G i=some x→x.fz=false∧e.st=x.st∧((e.rows.length=x.rows.length∧b0=ρ i)∨x.rows.length < e.rows.length))
    (hz:∀ b arr ty fz,ρ i=some b→w.heap[b]? = some (.cells arr ty fz)→∃ arr1 ty1 fz1,w1.heap[b]? = some (.cells arr1 ty1 fz1)∧arr.size≤arr1.size)
    (hb0:b0=ρ i∨∃ b,b0=some b∧base.ok b∧¬ S b∧(∀ j,ρ j ≠ some b)∧i < 1000000) (hfz:e.fz=false) (hrow:∀ r,r∈e.rows→r.length=e.st)
    (hbl:(b0=none∧e.rows=[])∨∃ b arr ty fz,b0=some b∧w1.heap[b]? = some (.cells arr ty fz)∧(∀ o,o < arr.size→¬ (fz.1≤o∧o < fz.2)) ∧
      ∀ (j:Nat) lc,e.rows.flatten[j]? = some lc→∃ u,arr[j]? = some u∧RepL w S ρ G lc u) :
    Ext w S ρ G w1 S (updR ρ i b0) (updG G i e)∧Hr w1 S (updR ρ i b0) (updG G i e) base:=by
  have hnS:∀ b,ρ i=some b→¬ S b:=by
    intro b hb
    cases hGi:G i with
    | none=>exact absurd hGi (h.dom i b hb)
    | some x =>
      obtain ⟨x1,arr,ty,fz,h1,h2,h3⟩:=h.real hb
      rw [hGi] at h1;cases h1
      rw [h2,(hG x hGi).1];simp
  have hext:Ext w S ρ G w1 S (updR ρ i b0) (updG G i e):=by
    refine ⟨fun _ h=>h,fun k hk1=>hk k (h.lt k hk1) (fun e=>hnS k e hk1),fun j x hj => ?_,fun j b arr ty fz hj hw => ?_⟩
    · by_cases hji:j=i
      · subst hji
        obtain ⟨_,h2,h3⟩:=hG x hj
        exact ⟨e,by simp [updG],h2,by simpa [updR] using h3⟩
      · exact ⟨x,by simp [updG,hji,hj],rfl,.inl ⟨rfl,by simp [updR,hji]⟩⟩
    · by_cases hji:j=i
      · subst hji;exact hz b arr ty fz hj hw
      · have:=(Array.getElem?_eq_some_iff.1 hw).1
        exact ⟨arr,ty,fz,(hk b this (fun e=>hji (h.inj j i b hj e))).trans hw,Nat.le_refl _⟩
  refine ⟨hext,⟨fun j x hj => ?_,fun j k b hj hk1 => ?_,fun j b hj => ?_,fun j b hj => ?_,fun k hk1=>Nat.lt_of_lt_of_le (h.lt k hk1) hs,fun k hk1=>Nat.lt_of_lt_of_le (h.klt k hk1) hs,fun j b p hj hp => ?_⟩⟩
  · by_cases hji:j=i
    · subst hji
      simp only [updG,if_true,Option.some.injEq] at hj
      subst hj
      refine ⟨hrow,?_⟩
      rcases hbl with ⟨h1,h2⟩ | ⟨b,arr,ty,fz,h1,h2,h3,h4⟩
      · exact .inl ⟨by simp [updR,h1],fun _=>h2⟩
      · refine .inr ⟨b,arr,ty,fz,by simp [updR,h1],?_,h2,fun _=>h3,fun q lc hq => ?_⟩
        · rw [hfz]
          refine ⟨fun hS => ?_,fun h=>by cases h⟩
          rcases hb0 with hb0 | ⟨b2,hb0,hb2,hb3,hb4,hb5⟩
          · exact (hnS b (by rw [← hb0,h1]) hS).elim
          · rw [h1] at hb0;cases hb0;exact (hb3 hS).elim
        · obtain ⟨u,h5,h6⟩:=h4 q lc hq
          exact ⟨u,h5,h6.mono hext⟩
    · simp only [updG,if_neg hji] at hj
      obtain ⟨h1,h2⟩:=h.blk j x hj
      refine ⟨h1,?_⟩
      rcases h2 with ⟨h2,h3⟩ | ⟨b,arr,ty,fz,h2,h3,h4,h5,h6⟩
      · exact .inl ⟨by simp [updR,hji,h2],h3⟩
      · have:=(Array.getElem?_eq_some_iff.1 h4).1
        refine .inr ⟨b,arr,ty,fz,by simp [updR,hji,h2],h3,(hk b this (fun e=>hji (h.inj j i b h2 e))).trans h4,h5,fun q lc hq => ?_⟩
        obtain ⟨u,h7,h8⟩:=h6 q lc hq
        exact ⟨u,h7,h8.mono hext⟩
  · have key:∀ j b,j ≠ i→ρ j=some b→b0=some b→False:=by
      intro j b hji h1 h2
      rcases hb0 with hb0 | ⟨b2,hb0,hb2,hb3,hb4,hb5⟩
      · exact hji (h.inj j i b h1 (by rw [← hb0,h2]))
      · rw [h2] at hb0;cases hb0;exact hb4 j h1
    by_cases hji:j=i
    · by_cases hki:k=i
      · rw [hji,hki]
      · simp only [updR,if_pos hji] at hj;simp only [updR,if_neg hki] at hk1;exact (key k b hki hk1 hj).elim
    · by_cases hki:k=i
      · simp only [updR,if_neg hji] at hj;simp only [updR,if_pos hki] at hk1;exact (key j b hji hj hk1).elim
      · simp only [updR,if_neg hji] at hj;simp only [updR,if_neg hki] at hk1;exact h.inj j k b hj hk1
  · by_cases hji:j=i
    · subst hji
      simp only [updR,if_true] at hj
      rcases hb0 with hb0 | ⟨b2,hb0,hb2,hb3,hb4,hb5⟩
      · exact h.own j b (by rw [← hb0,hj])
      · rw [hj] at hb0;cases hb0;exact hb2
    · simp only [updR,if_neg hji] at hj;exact h.own j b hj
  · by_cases hji:j=i
    · subst hji;simp [updG]
    · simp only [updR,if_neg hji] at hj;simp only [updG,if_neg hji];exact h.dom j b hj
  · by_cases hji:j=i
    · subst hji
      simp only [updR,if_true] at hj
      rcases hb0 with hb0 | ⟨b2,hb0,hb2,hb3,hb4,hb5⟩
      · exact h.pin j b p (by rw [← hb0,hj]) hp
      · have:=base.lo j p hp;omega
    · simp only [updR,if_neg hji] at hj;exact h.pin j b p hj hp
theorem Hr.upd (h:Hr w S ρ G base) (hB:base.n≤w.heap.size) (i:Nat) (e:Ent) (b0:Option Nat)
    (hk:∀ k,k < w.heap.size→ρ i ≠ some k→w1.heap[k]? = w.heap[k]?) (hs:w.heap.size≤w1.heap.size)
    (hG:∀ x,G i=some x→x.fz=false∧e.st=x.st∧((e.rows.length=x.rows.length∧b0=ρ i)∨x.rows.length < e.rows.length))
    (hz:∀ b arr ty fz,ρ i=some b→w.heap[b]? = some (.cells arr ty fz)→∃ arr1 ty1 fz1,w1.heap[b]? = some (.cells arr1 ty1 fz1)∧arr.size≤arr1.size)
    (hb0:b0=ρ i∨∃ b,b0=some b∧w.heap.size≤b∧i < 1000000) (hfz:e.fz=false) (hrow:∀ r,r∈e.rows→r.length=e.st)
    (hbl:(b0=none∧e.rows=[])∨∃ b arr ty fz,b0=some b∧w1.heap[b]? = some (.cells arr ty fz)∧(∀ o,o < arr.size→¬ (fz.1≤o∧o < fz.2)) ∧
      ∀ (j:Nat) lc,e.rows.flatten[j]? = some lc→∃ u,arr[j]? = some u∧RepL w S ρ G lc u) :
    Ext w S ρ G w1 S (updR ρ i b0) (updG G i e)∧Hr w1 S (updR ρ i b0) (updG G i e) base :=
  h.upd0 hB i e b0 hk hs hG hz (hb0.imp id fun ⟨b,h1,h2,h3⟩=>⟨b,h1,h.fresh hB h2,fun hS=>by have:=h.lt b hS;omega,fun j hj=>by have:=h.bound hj;omega,h3⟩) hfz hrow hbl
theorem Ext.trans {w2:World} {S2:Nat→Prop} {ρ2:Nat→Option Nat} {G2:Hf} (h:Ext w S ρ G w1 S1 ρ1 G1) (k:Ext w1 S1 ρ1 G1 w2 S2 ρ2 G2) (hs:∀ i b arr ty fz,ρ i=some b→w.heap[b]? = some (.cells arr ty fz)→∃ arr1 ty1 fz1,w2.heap[b]? = some (.cells arr1 ty1 fz1)∧arr.size≤arr1.size):Ext w S ρ G w2 S2 ρ2 G2 :=
  ⟨fun i hi=>k.sub i (h.sub i hi),fun i hi=>(k.keep i (h.sub i hi)).trans (h.keep i hi),fun i e hi=>by
    obtain ⟨e1,h1,h2,h3⟩:=h.ids i e hi
    obtain ⟨e2,k1,k2,k3⟩:=k.ids i e1 h1
    refine ⟨e2,k1,k2.trans h2,?_⟩
    rcases h3 with ⟨h3,h4⟩ | h3
    · rcases k3 with ⟨k3,k4⟩ | k3
      · exact .inl ⟨by omega,k4.trans h4⟩
      · exact .inr (by omega)
    · rcases k3 with ⟨k3,k4⟩ | k3
      · exact .inr (by omega)
      · exact .inr (by omega),hs⟩
theorem Hr.step (h:Hr w S ρ G base) (hb:∀ k,k < w.heap.size→w1.heap[k]? = w.heap[k]?) (hs:w.heap.size≤w1.heap.size) (hS:∀ k,S k→S1 k) (hn:∀ k,S1 k→(S k∨w.heap.size≤k)∧k < w1.heap.size) :
    Ext w S ρ G w1 S1 ρ G∧Hr w1 S1 ρ G base:=by
  have hext:Ext w S ρ G w1 S1 ρ G:=by
    refine ⟨hS,fun k hk=>hb k (h.lt k hk),fun j x hj=>⟨x,hj,rfl,.inl ⟨rfl,rfl⟩⟩,fun j b arr ty fz hj hw=>⟨arr,ty,fz,(hb b (h.bound hj)).trans hw,Nat.le_refl _⟩⟩
  refine ⟨hext,⟨fun j x hj => ?_,h.inj,h.own,h.dom,fun k hk=>(hn k hk).2,fun k hk=>Nat.lt_of_lt_of_le (h.klt k hk) hs,h.pin⟩⟩
  obtain ⟨h1,h2⟩:=h.blk j x hj
  refine ⟨h1,?_⟩
  rcases h2 with h2 | ⟨b,arr,ty,fz,h2,h3,h4,h5,h6⟩
  · exact .inl h2
  · have hlt:=(Array.getElem?_eq_some_iff.1 h4).1
    refine .inr ⟨b,arr,ty,fz,h2,?_,(hb b hlt).trans h4,h5,fun q lc hq => ?_⟩
    · rw [← h3]
      refine ⟨fun hk => ?_,hS b⟩
      rcases (hn b hk).1 with h7 | h7
      · exact h7
      · omega
    · obtain ⟨u,h7,h8⟩:=h6 q lc hq
      exact ⟨u,h7,h8.mono hext⟩
def frz (F:List Nat) (n:Nat) (G:Hf):Hf:=fun i=>if F.contains i then (G i).map (fun e=>⟨e.st,((convR (conv F G n) e.rows).getD []).map (fun r=>r.map Lc.d),true⟩) else G i
theorem Hr.freeze (h:Hr w S ρ G base) (F:List Nat) (n:Nat) (hF:∀ i e,i∈F→G i=some e→(convR (conv F G n) e.rows).isSome=true) :
    Ext w S ρ G w (Sup S ρ F) ρ (frz F n G)∧Hr w (Sup S ρ F) ρ (frz F n G) base:=by
  have hext:Ext w S ρ G w (Sup S ρ F) ρ (frz F n G):=by
    refine ⟨fun k hk=>.inl hk,fun _ _=>rfl,fun j x hj => ?_,fun j b arr ty fz _ hw=>⟨arr,ty,fz,hw,Nat.le_refl _⟩⟩
    by_cases hjF:j∈F
    · obtain ⟨r,hr⟩:=Option.isSome_iff_exists.1 (hF j x hjF hj)
      refine ⟨⟨x.st,r.map (fun r=>r.map Lc.d),true⟩,by simp [frz,hjF,hj,hr],rfl,.inl ⟨by simp [(convR_get hr).1],rfl⟩⟩
    · exact ⟨x,by simp [frz,hjF,hj],rfl,.inl ⟨rfl,rfl⟩⟩
  refine ⟨hext,⟨fun j x hj => ?_,h.inj,h.own,fun j b hj => ?_,fun k hk => ?_,h.klt,h.pin⟩⟩
  · by_cases hjF:j∈F
    · cases hGj:G j with
      | none=>simp [frz,hGj] at hj
      | some e =>
        obtain ⟨r,hr⟩:=Option.isSome_iff_exists.1 (hF j e hjF hGj)
        simp only [frz,List.contains_iff_mem,hjF,if_true,hGj,Option.map_some,hr,Option.getD_some,Option.some.injEq] at hj
        subst hj
        obtain ⟨h1,h2⟩:=h.blk j e hGj
        obtain ⟨g1,g2,g3,g4⟩:=convR_get hr
        refine ⟨fun q hq => ?_,?_⟩
        · obtain ⟨q1,hq1,rfl⟩:=List.mem_map.1 hq
          rw [List.length_map];exact g2 _ h1 q1 hq1
        · rcases h2 with ⟨h2,h3⟩ | ⟨b,arr,ty,fz,h2,h3,h4,h5,h6⟩
          · exact .inl ⟨h2,fun h=>by cases h⟩
          · refine .inr ⟨b,arr,ty,fz,h2,⟨fun _=>rfl,fun _=>.inr ⟨j,hjF,h2⟩⟩,h4,(fun h=>by cases h),fun q lc hq => ?_⟩
            rw [← List.map_flatten,List.getElem?_map,Option.map_eq_some_iff] at hq
            obtain ⟨s,hs,rfl⟩:=hq
            obtain ⟨y,hy1,hy2⟩:=g4 q s hs
            obtain ⟨u,hu1,hu2⟩:=h6 q y hy1
            exact ⟨u,hu1,.d _ _ (conv_sound h F n y s u hy2 hu2)⟩
    · simp only [frz,List.contains_iff_mem,hjF,if_false] at hj
      obtain ⟨h1,h2⟩:=h.blk j x hj
      refine ⟨h1,?_⟩
      rcases h2 with h2 | ⟨b,arr,ty,fz,h2,h3,h4,h5,h6⟩
      · exact .inl h2
      · refine .inr ⟨b,arr,ty,fz,h2,?_,h4,h5,fun q lc hq => ?_⟩
        · rw [← h3]
          refine ⟨fun hk => ?_,fun hk=>.inl hk⟩
          rcases hk with hk | ⟨j2,hj2,hb2⟩
          · exact hk
          · exact (hjF (h.inj j2 j b hb2 h2 ▸ hj2)).elim
        · obtain ⟨u,h7,h8⟩:=h6 q lc hq
          exact ⟨u,h7,h8.mono hext⟩
  · have:=h.dom j b hj
    by_cases hjF:j∈F
    · simp only [frz,List.contains_iff_mem,hjF,if_true,ne_eq,Option.map_eq_none_iff];exact this
    · simpa [frz,hjF] using this
  · rcases hk with hk | ⟨i,_,hi⟩
    · exact h.lt k hk
    · exact h.bound hi
def refsC (f:Lc→Bool):List Lc→Bool
  | []=>true
  | x :: l=>f x && refsC f l
def refsIn (K:List Nat):Nat→Lc→Bool
  | _,.d _=>true
  | _,.full _=>true
  | _,.nn _=>true
  | _,.nils=>true
  | _,.own i _=>K.contains i
  | _,.ptr i _ _ _=>K.contains i
  | 0,.clo _ _=>false
  | n+1,.clo _ caps=>refsC (refsIn K n) caps
theorem refsC_get {f:Lc→Bool}:∀ {l:List Lc},refsC f l=true→∀ (j:Nat) x,l[j]? = some x→f x=true
  | [],_,j,x,h=>by simp at h
  | y :: l,h,j,x,hj=>by
    simp only [refsC,Bool.and_eq_true] at h
    cases j with
    | zero=>simp only [List.getElem?_cons_zero,Option.some.injEq] at hj;subst hj;exact h.1
    | succ j=>exact refsC_get h.2 j x (by simpa using hj)
def onlyG (K:List Nat) (G:Hf):Hf:=fun i=>if K.contains i then G i else none
def onlyR (K:List Nat) (ρ:Nat→Option Nat):Nat→Option Nat:=fun i=>if K.contains i then ρ i else none
theorem RepL.only (K:List Nat) {n:Nat} {lc:Lc} {u:Value} (hn:refsIn K n lc=true) (h:RepL w S ρ G lc u):RepL w S (onlyR K ρ) (onlyG K G) lc u:=by
  induction h generalizing n with
  | d x u h=>exact .d x u h
  | full rows a h=>exact .full rows a h
  | nn rows q c h=>exact .nn rows q c h
  | nils=>exact .nils
  | own i m e u hG hm hone hh =>
    have hi:i∈K:=by cases n <;> simpa [refsIn] using hn
    refine .own i m e u (by simp [onlyG,hi,hG]) hm hone (fun h => ?_)
    obtain ⟨a,c,h1,h2⟩:=hh h
    refine ⟨a,c,h1,?_⟩
    rcases h2 with h2 | ⟨b,arr,ty,fz,h2,h3⟩
    · exact .inl h2
    · exact .inr ⟨b,arr,ty,fz,by simp [onlyR,hi,h2],h3⟩
  | ptr i m r o e u hG hm hone hh =>
    have hi:i∈K:=by cases n <;> simpa [refsIn] using hn
    refine .ptr i m r o e u (by simp [onlyG,hi,hG]) hm hone (fun h => ?_)
    obtain ⟨b,h1,h2⟩:=hh h
    exact ⟨b,by simp [onlyR,hi,h1],h2⟩
  | clo f caps vs hl hu ih =>
    cases n with
    | zero=>simp [refsIn] at hn
    | succ n=>exact .clo f caps vs hl (fun j sc hj=>ih j sc hj (n:=n) (refsC_get (by simpa [refsIn] using hn) j sc hj))
theorem Hr.only (h:Hr w S ρ G base) (K:List Nat) (n:Nat) (hK:∀ i e,i∈K→G i=some e→∀ r,r∈e.rows→refsC (refsIn K n) r=true)
    (hfz:∀ i,i ∉ K→∀ e,G i=some e→True):Hr w S (onlyR K ρ) (onlyG K G) base:=by
  refine ⟨fun j x hj => ?_,fun i j b hi hj => ?_,fun i b hi => ?_,fun i b hi => ?_,h.lt,h.klt,fun i b p hi hp => ?_⟩
  · by_cases hjK:j∈K
    · simp only [onlyG,List.contains_iff_mem,hjK,if_true] at hj
      obtain ⟨h1,h2⟩:=h.blk j x hj
      refine ⟨h1,?_⟩
      rcases h2 with ⟨h2,h3⟩ | ⟨b,arr,ty,fz,h2,h3,h4,h5,h6⟩
      · exact .inl ⟨by simp [onlyR,hjK,h2],h3⟩
      · refine .inr ⟨b,arr,ty,fz,by simp [onlyR,hjK,h2],h3,h4,h5,fun q lc hq => ?_⟩
        obtain ⟨u,h7,h8⟩:=h6 q lc hq
        refine ⟨u,h7,h8.only K (n:=n) ?_⟩
        obtain ⟨r,hr,hlc⟩:=List.mem_flatten.1 (List.mem_of_getElem? hq)
        obtain ⟨p,hp⟩:=List.mem_iff_getElem?.1 hlc
        exact refsC_get (hK j x hjK hj r hr) p lc hp
    · simp [onlyG,hjK] at hj
  · by_cases hi1:i∈K
    · by_cases hj1:j∈K
      · simp only [onlyR,List.contains_iff_mem,hi1,hj1,if_true] at hi hj;exact h.inj i j b hi hj
      · simp [onlyR,hj1] at hj
    · simp [onlyR,hi1] at hi
  · by_cases hi1:i∈K
    · simp only [onlyR,List.contains_iff_mem,hi1,if_true] at hi;exact h.own i b hi
    · simp [onlyR,hi1] at hi
  · by_cases hi1:i∈K
    · simp only [onlyR,List.contains_iff_mem,hi1,if_true] at hi;simp only [onlyG,List.contains_iff_mem,hi1,if_true];exact h.dom i b hi
    · simp [onlyR,hi1] at hi
  · by_cases hi1:i∈K
    · simp only [onlyR,List.contains_iff_mem,hi1,if_true] at hi;exact h.pin i b p hi hp
    · simp [onlyR,hi1] at hi
end Go.Proofs.YtedibjgdangfnaaGreatDoor.V
end

section
namespace Go.Proofs.YtedibjgdangfnaaGreatDoor.V
open Go Go.RowKit
set_option linter.unusedVariables false
set_option linter.unusedSimpArgs false
inductive Od where
  | t (n:Nat)
  | c (x:Vb)
  | fn (f:FuncId)
  | g (n:Nat)
  | m (name:String)
inductive Ck where
  | toInt (k:IntKind)
  | same
  | b2s
  | s2b
inductive Xk where
  | str
  | sl (st:Nat)
  | arr (n st:Nat) (agg:Bool)
  | ptr (n st:Nat)
inductive Fk where
  | int
  | bool
  | str
inductive Ins where
  | mv (x:Od)
  | pick (c a b:Od)
  | new (cells:List Lc)
  | box (sz:Nat) (x:Od)
  | build (zero:List Lc) (parts:List (Nat×Nat×Od))
  | bsl (st:Nat) (parts:List Od)
  | load (agg:Bool) (sz:Nat) (a:Od)
  | store (sz:Nat) (a x:Od)
  | nilc (x:Od)
  | bin (op:BinOp) (x y:Od)
  | bnil (op:BinOp) (x y:Od)
  | bagg (op:BinOp) (k:List Fk) (x y:Od)
  | bbo (op:BinOp) (x y:Od)
  | un (op:UnOp) (x:Od)
  | cv (k:Ck) (x:Od)
  | mkif (t:TypeId) (x:Od)
  | mkfn (f:FuncId) (caps:List Od)
  | mksl (st bytes:Nat) (zero:List Lc) (len cap:Od)
  | slc (k:Xk) (x:Od) (lo hi mx:Option Od)
  | fadr (off:Nat) (x:Od)
  | iadr (k:Xk) (x ix:Od)
  | fld (off:Nat) (agg:Bool) (sz:Nat) (x:Od)
  | idx (k:Xk) (x ix:Od)
  | ext (x:Od) (i:Nat)
  | len (k:Xk) (x:Od)
  | app (st bytes:Nat) (str:Bool) (x y:Od)
  | mm (max:Bool) (x y:Od)
  | call (f:Od) (args:List Od)
  | bic (op:BinOp) (x y:Od)
  | mkm (name:String) (x:Od)
  | lkm (k:IntKind) (z:Sc) (x ix:Od)
structure Opn where
  d:Option Nat
  g:Option (Nat×Bool)
  i:Ins
structure Out where
  ob:Prop
  v:Va
  ef:List (Nat×Ent)
structure Lend where
  l0:List (Nat×Nat×Ent)
  xs:List Va
  y:Va
  l1:List (Nat×Nat×Ent)
structure Ch where
  y:Va
  F:List Nat
  keep:Bool
  own:Option (Nat×List (List Sc)):=none
  alt:Option Va:=none
  lend:Option Lend:=none
def fail:Out:=⟨False,.dead,[]⟩
def out1 (v:Va):Out:=⟨True,v,[]⟩
def cellsV:Va→List Lc
  | .b (.s x)=>[x]
  | .b (.agg cs)=>cs
  | _=>[]
def isB:Va→Prop
  | .b _=>True
  | _=>False
def Va.i (k:IntKind) (n:Int):Va:=.b (.s (.d (.int k n)))
def Va.bo (b:Bool):Va:=.b (.s (.d (.bool b)))
def Va.st (l:List UInt8):Va:=.b (.s (.d (.str l)))
def lcA:Lc:=.d (.bool false)
def scA:Sc:=.bool false
def lcOf:Va→Lc
  | .b (.s l)=>l
  | _=>lcA
def bytesLt:List UInt8→List UInt8→Bool:=Op.bytesLess
def binS (op:BinOp) (x y:Sc):Out :=
  match op,x,y with
  | .shl,.int k a,.int _ b=>⟨0≤b,.i k (k.wrap (a * 2 ^ (min b.toNat k.bits))),[]⟩
  | .shr,.int k a,.int _ b=>⟨0≤b,.i k (a.fdiv (2 ^ (min b.toNat k.bits))),[]⟩
  | .add,.int k a,.int k1 b=>⟨k=k1,.i k (k.wrap (a+b)),[]⟩
  | .sub,.int k a,.int k1 b=>⟨k=k1,.i k (k.wrap (a - b)),[]⟩
  | .mul,.int k a,.int k1 b=>⟨k=k1,.i k (k.wrap (a * b)),[]⟩
  | .quo,.int k a,.int k1 b=>⟨k=k1∧b ≠ 0,.i k (k.wrap (a.tdiv b)),[]⟩
  | .rem,.int k a,.int k1 b=>⟨k=k1∧b ≠ 0,.i k (a.tmod b),[]⟩
  | .and,.int k a,.int k1 b=>⟨k=k1,.i k (k.wrap (BitVec.ofInt k.bits a &&& BitVec.ofInt k.bits b).toNat),[]⟩
  | .or,.int k a,.int k1 b=>⟨k=k1,.i k (k.wrap (BitVec.ofInt k.bits a ||| BitVec.ofInt k.bits b).toNat),[]⟩
  | .xor,.int k a,.int k1 b=>⟨k=k1,.i k (k.wrap (BitVec.ofInt k.bits a ^^^ BitVec.ofInt k.bits b).toNat),[]⟩
  | .andNot,.int k a,.int k1 b=>⟨k=k1,.i k (k.wrap (BitVec.ofInt k.bits a &&& ~~~ BitVec.ofInt k.bits b).toNat),[]⟩
  | .eql,.int k a,.int k1 b=>⟨k=k1,.bo (a == b),[]⟩
  | .neq,.int k a,.int k1 b=>⟨k=k1,.bo (a != b),[]⟩
  | .lss,.int k a,.int k1 b=>⟨k=k1,.bo (decide (a < b)),[]⟩
  | .leq,.int k a,.int k1 b=>⟨k=k1,.bo (decide (a≤b)),[]⟩
  | .gtr,.int k a,.int k1 b=>⟨k=k1,.bo (decide (a > b)),[]⟩
  | .geq,.int k a,.int k1 b=>⟨k=k1,.bo (decide (a≥b)),[]⟩
  | .add,.str a,.str b=>⟨((a.length+b.length:Nat):Int)≤9223372036854775807,.st (a++b),[]⟩
  | .eql,.str a,.str b=>out1 (.bo (a == b))
  | .neq,.str a,.str b=>out1 (.bo (!(a == b)))
  | .lss,.str a,.str b=>out1 (.bo (bytesLt a b))
  | .leq,.str a,.str b=>out1 (.bo (bytesLt a b || a == b))
  | .gtr,.str a,.str b=>out1 (.bo (!(bytesLt a b || a == b)))
  | .geq,.str a,.str b=>out1 (.bo (!bytesLt a b))
  | _,_,_=>fail
def nilS (op:BinOp) (b:Bool):Out :=
  match op with
  | .eql=>out1 (.bo b)
  | .neq=>out1 (.bo (!b))
  | _=>fail
def isIf:Sc→Bool
  | .z .nilIface=>true
  | .ifc _ _ _=>true
  | _=>false
def nilI:Sc→Bool
  | .z .nilIface=>true
  | _=>false
def eqL:Fk→Lc→Lc→Option Bool
  | .int,.d (.int k a),.d (.int k1 b)=>if k=k1 then some (a == b) else none
  | .bool,.d (.bool a),.d (.bool b)=>some (a == b)
  | .str,.d (.str a),.d (.str b)=>some (a == b)
  | _,_,_=>none
def eqLs:List Fk→List Lc→List Lc→Option Bool
  | [],[],[]=>some true
  | f :: k,x :: l,y :: m=>match eqL f x y,eqLs k l m with | some a,some b=>some (a && b) | _,_=>none
  | _,_,_=>none
def aggS (op:BinOp) (k:List Fk) (a b:List Lc):Out :=
  match eqLs k a b with
  | some p=>nilS op p
  | none=>fail
def unS (op:UnOp) (x:Sc):Out :=
  match op,x with
  | .not,.bool b=>out1 (.bo (!b))
  | .neg,.int k n=>out1 (.i k (k.wrap (0 - n)))
  | .xor,.int k n=>out1 (.i k (k.wrap (BitVec.ofInt k.bits (if k.signed then -1 else k.max) ^^^ BitVec.ofInt k.bits n).toNat))
  | _,_=>fail
def intV:Va→Option Int
  | .b (.s (.d (.int _ n)))=>some n
  | _=>none
def replaceAt (cs:List Lc) (off:Nat) (new:List Lc):List Lc:=cs.take off++new++cs.drop (off+new.length)
def fillL (zero:List Lc):List (Nat×Nat×List Lc)→List Lc
  | []=>zero
  | (off,_,cs) :: l=>fillL (replaceAt zero off cs) l
def fillOb (n:Nat):List (Nat×Nat×List Lc)→Prop
  | []=>True
  | (off,sz,cs) :: l=>cs.length=sz∧off+sz≤n∧fillOb n l
def byteR (c:UInt8):List Sc:=[.int .u8 c.toNat]
def unbyteR:List Sc→UInt8
  | [.int .u8 n]=>UInt8.ofNat n.toNat
  | _=>0
def isByteR (r:List Sc):Prop:=∃ n,r=[.int .u8 n]
def rowsV (G:Hf):Va→Option (List (List Sc))
  | .b (.s (.d (.sl rows)))=>some rows
  | .b (.s (.full rows))=>some rows
  | .b (.s (.nn rows))=>some rows
  | .b (.s .nils)=>some []
  | .b (.s (.own i n))=>match G i with
    | some e=>if n=e.rows.length then convR (conv [] G 0) e.rows else none
    | none=>none
  | _=>none
def newV (G:Hf) (str:Bool) (v:Va):Option (List (List Sc)) :=
  if str then match v with
    | .b (.s (.d (.str l)))=>some (l.map byteR)
    | _=>none
  else rowsV G v
def boolV:Va→Option (Bool×Bool)
  | .b (.s (.d (.bool p)))=>some (true,p)
  | .gv g (.b (.s (.d (.bool p))))=>some (g,p)
  | .gv false _=>some (false,false)
  | _=>none
def boundV (ev:Od→Va) (d:Int):Option Od→Option Int
  | none=>some d
  | some x=>intV (ev x)
def unD:List Lc→Option (List Sc):=convC (conv [] (fun _=>none) 0)
def argsV (F:List Nat) (G:Hf) (n:Nat):List Va→Option (List Va)
  | []=>some []
  | .b (.s x) :: l=>match conv F G n x,argsV F G n l with | some a,some r=>some (.b (.s (.d a)) :: r) | _,_=>none
  | .b (.agg cs) :: l=>match convC (conv F G n) cs,argsV F G n l with | some a,some r=>some (.b (.agg (a.map Lc.d)) :: r) | _,_=>none
  | _ :: _=>none
def flatS:Sc→Bool
  | .int _ _ | .bool _ | .str _ | .z _=>true
  | _=>false
def flatB:Vb→Bool
  | .s (.d x)=>flatS x
  | .agg cs=>refsC (fun | .d x=>flatS x | _=>false) cs
  | _=>false
def flatV:Va→Bool
  | .b x=>flatB x
  | .tup l=>l.all flatB
  | _=>false
def mapN:List (Nat×Nat)→Nat→Nat
  | [],i=>i
  | (a,b) :: l,i=>if i=a then b else mapN l i
def renL (f:Nat→Nat):Nat→Lc→Lc
  | _,.own i n=>.own (f i) n
  | _,.ptr i n r o=>.ptr (f i) n r o
  | n+1,.clo g caps=>.clo g (caps.map (renL f n))
  | _,x=>x
def lendL (F:List Nat) (G:Hf) (f:Nat→Nat) (x:Lc):Lc:=match conv F G 4 x with
  | some s=>.d s
  | none=>renL f 4 x
def renB (g:Lc→Lc):Vb→Vb
  | .s x=>.s (g x)
  | .agg cs=>.agg (cs.map g)
def renV (g:Lc→Lc):Va→Va
  | .b x=>.b (renB g x)
  | .tup l=>.tup (l.map (renB g))
  | x=>x
def renR (g:Lc→Lc) (rows:List (List Lc)):List (List Lc):=rows.map fun r=>r.map g
def goneE (e:Ent):Ent:=⟨e.st,List.replicate (e.rows.length+1) (List.replicate e.st lcA),true⟩
variable (P:Program)
def RepA (w:World) (S:Nat→Prop) (xs:List Va) (vs:Array Value):Prop:=vs.size=xs.length∧∀ (j:Nat) x,xs[j]? = some x→RepV w S (fun _=>none) (fun _=>none) x (vs.getD j undef)
abbrev Gl:=Nat→Option (List Sc)
def GlOk (gl:Gl) (w:World) (S:Nat→Prop):Prop:=∀ g cs,gl g=some cs→RepD w S (.ref cs 0) (.pointer (some ⟨g,0,none⟩))
def callable (f:FuncId):Bool :=
  match P.funcs[f]? with
  | some fn=>fn.body.isSome && !(fn.name == "runtime.NumGoroutine")
  | none=>false
def Fun (gl:Gl) (f:FuncId) (xs:List Va) (y:Va):Prop :=
  callable P f=true∧∀ (w:World) (S:Nat→Prop) (vs:Array Value),(∀ k,S k→k < w.heap.size)→GlOk gl w S→RepA w S xs vs →
    Calls P f vs w fun e w1=>∃ u S1,e=.returned u∧(∀ k,S k→S1 k)∧(∀ k,S1 k→(S k∨w.heap.size≤k)∧k < w1.heap.size)∧RepV w1 S1 (fun _=>none) (fun _=>none) y u∧Below w.heap.size w w1
def FunO (gl:Gl) (f:FuncId) (xs:List Va) (st:Nat) (rows:List (List Sc)):Prop :=
  callable P f=true∧∀ (w:World) (S:Nat→Prop) (vs:Array Value),(∀ k,S k→k < w.heap.size)→GlOk gl w S→RepA w S xs vs →
    Calls P f vs w fun e w1=>∃ u S1 ρ1,e=.returned u∧(∀ k,S k→S1 k)∧(∀ k,S1 k→(S k∨w.heap.size≤k)∧k < w1.heap.size) ∧
      Hr w1 S1 ρ1 (updG (fun _=>none) 0 ⟨st,rows.map (fun r=>r.map Lc.d),false⟩) (B0 w.heap.size)∧RepV w1 S1 ρ1 (updG (fun _=>none) 0 ⟨st,rows.map (fun r=>r.map Lc.d),false⟩) (.b (.s (.own 0 rows.length))) u∧Below w.heap.size w w1
def asG (l:List (Nat×Ent)):Hf:=fun i=>l.lookup i
def FunH (gl:Gl) (f:FuncId) (xs:List Va) (l0:List (Nat×Ent)) (y:Va) (l1:List (Nat×Ent)):Prop :=
  callable P f=true∧∀ (base:Base) (w:World) (S:Nat→Prop) (ρ:Nat→Option Nat) (vs:Array Value),Hr w S ρ (asG l0) base→base.n≤w.heap.size→GlOk gl w S →
    (vs.size=xs.length∧∀ (j:Nat) x,xs[j]? = some x→RepV w S ρ (asG l0) x (vs.getD j undef)) →
    Calls P f vs w fun e w1=>∃ u S1 ρ1,e=.returned u∧Hr w1 S1 ρ1 (asG l1) base∧RepV w1 S1 ρ1 (asG l1) y u∧Bel base w w1∧∀ k,S1 k→S k∨base.ok k
def fnV:Va→Option (FuncId×List Va)
  | .b (.s (.d (.clo f caps)))=>some (f,caps.map fun x=>.b (.s (.d x)))
  | .b (.s (.clo f caps))=>some (f,caps.map fun x=>.b (.s x))
  | _=>none
def mOf:Od→Option String
  | .m name=>some name
  | _=>none
def methF (t:TypeId) (name:String):Option FuncId :=
  match P.info? t with
  | some i=>match i.methods.find? (·.name == name) with
    | some m=>if m.path.toList.isEmpty then match m.func,P.underlying t with
        | some _,some (.pointer _)=>none
        | some (f,false),some _=>some f
        | _,_=>none
      else none
    | none=>none
  | none=>none
def recvV (a:Bool) (cells:List Sc):Va:=if a then .b (.agg (cells.map Lc.d)) else .b (.s (.d (cells.getD 0 scA)))
def Inv (gl:Gl) (name:String) (x:Sc) (xs:List Va) (y:Va):Prop :=
  ∃ f t a cells,x=.ifc t a cells∧methF P t name=some f∧Fun P gl f (recvV a cells :: xs) y
def refsR (K:List Nat) (rows:List (List Lc)):Prop:=∀ r,r∈rows→refsC (refsIn K 4) r=true
def refsB (K:List Nat):Vb→Bool
  | .s x=>refsIn K 4 x
  | .agg cs=>refsC (refsIn K 4) cs
def refsVa (K:List Nat):Va→Bool
  | .b x=>refsB K x
  | .tup l=>l.all (refsB K)
  | _=>false
def lendK (F:List Nat) (G:Hf) (K:List Nat) (x:Lc):Bool:=match conv F G 4 x with
  | some _=>true
  | none=>refsIn K 4 x
def lendKR (F:List Nat) (G:Hf) (K:List Nat) (rows:List (List Lc)):Prop:=∀ r,r∈rows→refsC (lendK F G K) r=true
def lendIn (F:List Nat) (G:Hf) (f:Nat→Nat) (K:List Nat):List (Nat×Nat×Ent)→Prop
  | []=>True
  | (_,i,e0) :: l=>(F.contains i=false∧match G i with
    | some e=>e.fz=false∧e0.fz=false∧e0.st=e.st∧e0.rows=renR (lendL F G f) e.rows∧lendKR F G K e.rows
    | none=>False)∧lendIn F G f K l
def lkE:List (Nat×Nat×Ent)→Nat→Nat→Option Ent
  | [],_,_=>none
  | (a,b,e) :: l,j,i=>if j=a∧i=b then some e else lkE l j i
def lendOut (G:Hf) (l0:List (Nat×Nat×Ent)) (K:List Nat):List (Nat×Nat×Ent)→Prop
  | []=>True
  | (j, i,e1) :: l=>(if 1000000≤j then match lkE l0 j i with
      | some e0=>e1.st=e0.st∧e1.fz=false∧e1.rows.length=e0.rows.length∧0 < e0.rows.length
      | none=>False
    else i < 1000000∧G i=none)∧refsR K e1.rows∧lendOut G l0 K l
def lendB (F:List Nat) (G:Hf) (K:List Nat):Va→Bool
  | .b (.s x)=>lendK F G K x
  | .b (.agg cs)=>refsC (lendK F G K) cs
  | _=>false
def lendA (F:List Nat) (G:Hf) (K:List Nat):List Va→Bool
  | []=>true
  | v :: l=>lendB F G K v && lendA F G K l
def lendF (F:List Nat) (G:Hf):List Nat→Prop
  | []=>True
  | i :: l=>(match G i with | some e=>(convR (conv F G 4) e.rows).isSome=true | none=>True)∧lendF F G l
def pinsIn (l1:List Nat):List (Nat×Nat×Ent)→Prop
  | []=>True
  | (j,_,_) :: l=>(1000000≤j→j∈l1)∧pinsIn l1 l
def goneL:List (Nat×Nat×Ent)→List (Nat×Ent)
  | []=>[]
  | (j,i,e0) :: l=>if j < 1000000 then (i,goneE e0) :: goneL l else goneL l
def lendS (gl:Gl) (F:List Nat) (h:Lend) (G:Hf) (f:FuncId) (vs:List Va):Out :=
  let m0:=h.l0.map fun p=>(p.2.1,p.1)
  let m1:=h.l1.map fun p=>(p.1,p.2.1)
  ⟨FunH P gl f h.xs (h.l0.map fun p=>(p.1,p.2.2)) h.y (h.l1.map fun p=>(p.1,p.2.2))∧lendF F G F∧lendA F G (m0.map (·.1)) vs=true∧vs.map (renV (lendL F G (mapN m0)))=h.xs ∧
      lendIn F G (mapN m0) (m0.map (·.1)) h.l0∧lendOut G h.l0 (m1.map (·.1)) h.l1∧refsVa (m1.map (·.1)) h.y=true∧pinsIn (m1.map (·.1)) h.l0 ∧
      (m0.map (·.1)).Nodup∧(m0.map (·.2)).Nodup∧(m1.map (·.1)).Nodup∧(m1.map (·.2)).Nodup,
    renV (renL (mapN m1) 4) h.y,F.filterMap (fun i=>(frz F 4 G i).map fun e=>(i,e))++(goneL h.l0++h.l1.map fun p=>(p.2.1,⟨p.2.2.st,renR (renL (mapN m1) 4) p.2.2.rows,p.2.2.fz⟩))⟩
def callS (gl:Gl) (c:Ch) (d:Option Nat) (G:Hf) (f:FuncId) (xs:List Va):Out:=match c.own with
  | none=>⟨Fun P gl f xs c.y∧(c.keep=false→flatV c.y=true)∧(∀ i,i∈c.F→∀ e,G i=some e→(convR (conv c.F G 4) e.rows).isSome=true),c.y,
      if c.keep then c.F.filterMap (fun i=>(frz c.F 4 G i).map fun e=>(i,e)) else []⟩
  | some (st,rows)=>match d with
    | some i=>⟨FunO P gl f xs st rows∧G i=none∧(c.F=[]∨rows.all (fun r=>r.all flatS)=true),.b (.s (.own i rows.length)),[(i,⟨st,rows.map (fun r=>r.map Lc.d),false⟩)]⟩
    | none=>fail
def mpGet (K:IntKind) (n:Int):List (List Sc)→Option (Option Sc)
  | []=>some none
  | [.int k j,v] :: l=>if k=K then (if (n == j) then some (some v) else mpGet K n l) else none
  | _=>none
def semI (gl : Gl) (c:Ch) (d:Option Nat) (ins:Ins) (ev:Od→Va) (G:Hf):Out :=
  match ins with
  | .mv x=>out1 (ev x)
  | .pick p a b=>match boolV (ev p),boolV (ev a),boolV (ev b) with
    | some (g0,p),some (g1,a),some (g2,b)=>⟨g0=true∧(p=true→g1=true)∧(p=false→g2=true),.bo (bif p then a else b),[]⟩
    | _,_,_=>fail
  | .new cells=>match d with
    | some i=>⟨G i=none,.b (.s (.ptr i 1 0 0)),[(i,⟨cells.length,[cells],false⟩)]⟩
    | none=>fail
  | .box sz x=>match d with
    | some i=>⟨isB (ev x)∧(cellsV (ev x)).length=sz∧G i=none,.b (.s (.ptr i 1 0 0)),[(i,⟨sz,[cellsV (ev x)],false⟩)]⟩
    | none=>fail
  | .build zero parts=>⟨fillOb zero.length (parts.map fun p=>(p.1,p.2.1,cellsV (ev p.2.2)))∧∀ p,p∈parts→isB (ev p.2.2),.b (.agg (fillL zero (parts.map fun p=>(p.1,p.2.1,cellsV (ev p.2.2))))),[]⟩
  | .bsl st parts=>match d with
    | some i=>⟨(∀ p,p∈parts→isB (ev p)∧(cellsV (ev p)).length=st)∧G i=none,.b (.s (.own i parts.length)),[(i,⟨st,parts.map fun p=>cellsV (ev p),false⟩)]⟩
    | none=>fail
  | .load agg sz a=>match ev a with
    | .b (.s (.ptr i n r o))=>match G i with
      | some e=>match e.rows[r]? with
        | some row=>⟨n=e.rows.length∧o+sz≤row.length,.b (if agg then .agg ((row.drop o).take sz) else .s (row.getD o lcA)),[]⟩
        | none=>fail
      | none=>fail
    | .b (.s (.d (.ref cells o)))=>⟨o+sz≤cells.length,.b (if agg then .agg (((cells.drop o).take sz).map Lc.d) else .s (.d (cells.getD o scA))),[]⟩
    | _=>fail
  | .store sz a x=>match ev a with
    | .b (.s (.ptr i n r o))=>match G i with
      | some e=>match e.rows[r]? with
        | some row=>⟨n=e.rows.length∧e.fz=false∧o+sz≤row.length∧isB (ev x)∧(cellsV (ev x)).length=sz,.dead,[(i,⟨e.st,e.rows.set r (replaceAt row o (cellsV (ev x))),false⟩)]⟩
        | none=>fail
      | none=>fail
    | _=>fail
  | .nilc x=>match ev x with
    | .b (.s (.ptr i n r o))=>match G i with
      | some e=>⟨n=e.rows.length,.b (.s (.ptr i n r o)),[]⟩
      | none=>fail
    | .b (.s (.d (.ref cs o)))=>out1 (.b (.s (.d (.ref cs o))))
    | .b (.s (.d (.clo f cs)))=>out1 (.b (.s (.d (.clo f cs))))
    | .b (.s (.clo f cs))=>out1 (.b (.s (.clo f cs)))
    | .meth name x=>⟨∃ t b cs,x=.ifc t b cs∧(methF P t name).isSome=true,.meth name x,[]⟩
    | _=>fail
  | .bin op x y=>match ev x,ev y with
    | .b (.s (.d a)),.b (.s (.d b))=>binS op a b
    | _,_=>fail
  | .bnil op x y=>match ev x,ev y with
    | .b (.s (.d (.sl (_ :: _)))),.b (.s .nils)=>nilS op false
    | .b (.s (.nn _)),.b (.s .nils)=>nilS op false
    | .b (.s .nils),.b (.s .nils)=>nilS op true
    | _,_=>fail
  | .bagg op k x y=>match ev x,ev y with
    | .b (.agg a),.b (.agg b)=>aggS op k a b
    | _,_=>fail
  | .un op x=>match ev x with
    | .b (.s (.d a))=>unS op a
    | _=>fail
  | .cv k x=>match k,ev x with
    | .toInt k,.b (.s (.d (.int _ n)))=>out1 (.i k (k.wrap n))
    | .same,.b (.s (.d (.str l)))=>out1 (.st l)
    | .b2s,v=>match rowsV G v with
      | some rows=>⟨∀ r,r∈rows→isByteR r,.st (rows.map unbyteR),[]⟩
      | none=>fail
    | .s2b,.b (.s (.d (.str l)))=>match d with
      | some i=>⟨G i=none,.b (.s (.own i l.length)),[(i,⟨1,l.map fun c=>(byteR c).map Lc.d,false⟩)]⟩
      | none=>fail
    | _,_=>fail
  | .mkif t x=>match ev x with
    | .b (.s y)=>match conv [] G 0 y with
      | some z=>out1 (.b (.s (.d (.ifc t false [z]))))
      | none=>fail
    | .b (.agg cs)=>match unD cs with
      | some z=>out1 (.b (.s (.d (.ifc t true z))))
      | none=>fail
    | _=>fail
  | .mkfn f caps=>⟨∀ x,x∈caps→∃ l,ev x=.b (.s l),.b (.s (.clo f (caps.map fun x=>lcOf (ev x)))),[]⟩
  | .mksl st bytes zero len cap=>match d,intV (ev len),intV (ev cap) with
    | some i,some l,some c=>⟨0≤l∧l≤c∧c * bytes≤140737488355328∧c < 9223372036854775808∧zero.length=st∧G i=none,.b (.s (.own i l.toNat)),[(i,⟨st,List.replicate l.toNat zero,false⟩)]⟩
    | _,_,_=>fail
  | .slc k x lo hi mx=>match k,ev x with
    | .str,.b (.s (.d (.str l)))=>match boundV ev 0 lo,boundV ev l.length hi with
      | some a,some b=>⟨0≤a∧a≤b∧b≤l.length∧mx.isNone,.st ((l.take b.toNat).drop a.toNat),[]⟩
      | _,_=>fail
    | .sl st,.b (.s (.d (.sl rows)))=>match boundV ev 0 lo,boundV ev rows.length hi,mx.map (fun m=>intV (ev m)) with
      | some a,some b,none=>⟨0≤a∧a≤b∧b≤rows.length∧∀ r,r∈rows→r.length=st,.b (.s (.d (.sl ((rows.take b.toNat).drop a.toNat)))),[]⟩
      | some a,some b,some (some m)=>⟨hi.isSome=true∧0≤a∧a≤b∧b≤rows.length∧m=b∧∀ r,r∈rows→r.length=st,.b (.s (.full ((rows.take b.toNat).drop a.toNat))),[]⟩
      | _,_,_=>fail
    | .sl st,.b (.s (.full rows))=>match boundV ev 0 lo,boundV ev rows.length hi,mx.map (fun m=>intV (ev m)) with
      | some a,some b,none=>⟨0≤a∧a≤b∧b≤rows.length∧∀ r,r∈rows→r.length=st,.b (.s (.d (.sl ((rows.take b.toNat).drop a.toNat)))),[]⟩
      | some a,some b,some (some m)=>⟨hi.isSome=true∧0≤a∧a≤b∧b≤rows.length∧m=b∧∀ r,r∈rows→r.length=st,.b (.s (.full ((rows.take b.toNat).drop a.toNat))),[]⟩
      | _,_,_=>fail
    | _,_=>fail
  | .fadr off x=>match ev x with
    | .b (.s (.ptr i n r o))=>match G i with
      | some e=>⟨n=e.rows.length,.b (.s (.ptr i n r (o+off))),[]⟩
      | none=>fail
    | .b (.s (.d (.ref cs o)))=>out1 (.b (.s (.d (.ref cs (o+off)))))
    | _=>fail
  | .iadr k x ix=>match k,ev x,intV (ev ix) with
    | .sl st,.b (.s (.d (.sl rows))),some i=>⟨0≤i∧i < rows.length∧∀ r,r∈rows→r.length=st,.b (.s (.d (.ref (rows.getD i.toNat []) 0))),[]⟩
    | .sl st,.b (.s (.full rows)),some i=>⟨0≤i∧i < rows.length∧∀ r,r∈rows→r.length=st,.b (.s (.d (.ref (rows.getD i.toNat []) 0))),[]⟩
    | .sl st,.b (.s (.own j n)),some i=>match G j with
      | some e=>⟨0≤i∧i < n∧n=e.rows.length∧e.st=st,.b (.s (.ptr j n i.toNat 0)),[]⟩
      | none=>fail
    | .ptr n st,.b (.s (.ptr j m r o)),some i=>match G j with
      | some e=>⟨0≤i∧i < n∧m=e.rows.length,.b (.s (.ptr j m r (o+i.toNat * st))),[]⟩
      | none=>fail
    | .ptr n st,.b (.s (.d (.ref cs o))),some i=>⟨0≤i∧i < n,.b (.s (.d (.ref cs (o+i.toNat * st)))),[]⟩
    | _,_,_=>fail
  | .fld off agg sz x=>match ev x with
    | .b (.agg cs)=>⟨off+sz≤cs.length∧(agg=false→sz=1),.b (if agg then .agg ((cs.drop off).take sz) else .s (cs.getD off lcA)),[]⟩
    | _=>fail
  | .idx k x ix=>match k,ev x,intV (ev ix) with
    | .str,.b (.s (.d (.str l))),some i=>⟨0≤i∧i < l.length,.i .u8 (l.getD i.toNat 0).toNat,[]⟩
    | .arr n st agg,.b (.agg cs),some i=>⟨0≤i∧i < n∧cs.length=n * st∧(agg=false→st=1),.b (if agg then .agg ((cs.drop (i.toNat * st)).take st) else .s (cs.getD (i.toNat * st) lcA)),[]⟩
    | _,_,_=>fail
  | .ext x i=>match ev x with
    | .tup l=>match l[i]? with
      | some v=>out1 (.b v)
      | none=>fail
    | _=>fail
  | .len k x=>match k,ev x with
    | .str,.b (.s (.d (.str l)))=>out1 (.i .i64 l.length)
    | .sl _,.b (.s (.d (.sl rows)))=>out1 (.i .i64 rows.length)
    | .sl _,.b (.s (.full rows))=>out1 (.i .i64 rows.length)
    | .sl _,.b (.s .nils)=>out1 (.i .i64 0)
    | .sl _,.b (.s (.own _ n))=>out1 (.i .i64 n)
    | .arr n _ _,_=>out1 (.i .i64 n)
    | .ptr n _,_=>out1 (.i .i64 n)
    | _,_=>fail
  | .app st bytes str x y =>
    match newV G str (ev y) with
    | none=>fail
    | some new=>match ev x with
      | .b (.s (.own i n))=>match G i with
        | some e=>⟨i < 1000000∧n=e.rows.length∧e.fz=false∧e.st=st∧(∀ r,r∈new→r.length=st)∧(n+new.length) * bytes≤140737488355328,.b (.s (.own i (n+new.length))),[(i,⟨st,e.rows++new.map (fun r=>r.map Lc.d),false⟩)]⟩
        | none=>fail
      | .b (.s .nils)=>match d with
        | some i=>⟨G i=none∧(∀ r,r∈new→r.length=st)∧new.length * bytes≤140737488355328,.b (.s (.own i new.length)),[(i,⟨st,new.map (fun r=>r.map Lc.d),false⟩)]⟩
        | none=>fail
      | .b (.s (.full rows))=>⟨(∀ r,r∈rows→r.length=st)∧(∀ r,r∈new→r.length=st)∧(rows.length+new.length) * bytes≤140737488355328,.b (.s (.d (.sl (rows++new)))),[]⟩
      | _=>fail
  | .mm mx x y=>match ev x,ev y with
    | .b (.s (.d (.int k a))),.b (.s (.d (.int _ b)))=>out1 (.i k (if mx then (if a < b then b else a) else (if b < a then b else a)))
    | _,_=>fail
  | .call f args=>match mOf f with
    | some name=>match args.map ev,c.own with
      | .b (.s (.d sc)) :: l,none=>match argsV c.F G 4 l with
        | some xs=>⟨Inv P gl name sc xs c.y∧(c.keep=false→flatV c.y=true)∧(∀ i,i∈c.F→∀ e,G i=some e→(convR (conv c.F G 4) e.rows).isSome=true),c.y,
            if c.keep then c.F.filterMap (fun i=>(frz c.F 4 G i).map fun e=>(i,e)) else []⟩
        | none=>fail
      | _,_=>fail
    | none => match fnV (ev f) with
      | some (f,caps)=>match c.lend with
        | some h=>lendS P gl c.F h G f (args.map ev++caps)
        | none=>match argsV c.F G 4 (args.map ev++caps) with
          | some xs=>callS P gl c d G f xs
          | none=>fail
      | none=>fail
  | .bbo op x y=>match ev x,ev y with
    | .b (.s (.d (.bool a))),.b (.s (.d (.bool b)))=>nilS op (a == b)
    | _,_=>fail
  | .bic op x y=>match ev x,ev y with
    | .b (.s (.d a)),.b (.s (.d (.z .nilIface)))=>⟨isIf a=true∧(nilS op (nilI a)).ob,(nilS op (nilI a)).v,[]⟩
    | _,_=>fail
  | .mkm name x=>match ev x with
    | .b (.s (.d sc))=>out1 (.meth name sc)
    | _=>fail
  | .lkm k z x ix=>match ev x,ev ix with
    | .b (.s (.d (.mp rows))),.b (.s (.d (.int K n)))=>match mpGet K n rows with
      | some (some v)=>⟨K=k,.tup [.s (.d v),.s (.d (.bool true))],[]⟩
      | some none=>⟨K=k,.tup [.s (.d z),.s (.d (.bool false))],[]⟩
      | none=>fail
    | _,_=>fail
end Go.Proofs.YtedibjgdangfnaaGreatDoor.V
end

section
namespace Go.Proofs.YtedibjgdangfnaaGreatDoor.V
open Go Go.RowKit
set_option linter.unusedVariables false
set_option linter.unusedSimpArgs false
def kLc:Value→Option Lc
  | .int k n=>some (.d (.int k n))
  | .bool b=>some (.d (.bool b))
  | .string s=>some (.d (.str s.data.toList))
  | .pointer none=>some (.d (.z .nilPtr))
  | .slice none 0 0=>some .nils
  | .nilFunc=>some (.d (.z .nilFunc))
  | .nilIface=>some (.d (.z .nilIface))
  | .map none=>some (.d (.z .nilMap))
  | _=>none
def kLcs:List Value→Option (List Lc)
  | []=>some []
  | v :: l=>match kLc v,kLcs l with | some a,some b=>some (a :: b) | _,_=>none
def kVb:Value→Option Vb
  | .agg cs=>(kLcs cs.toList).map Vb.agg
  | v=>(kLc v).map Vb.s
def cOd:Operand→Option Od
  | .tmp t=>some (.t t)
  | .const v=>(kVb v).map Od.c
  | .func f=>some (.fn f)
  | .global g=>some (.g g)
def cOds:List Operand→Option (List Od)
  | []=>some []
  | v :: l=>match cOd v,cOds l with | some a,some b=>some (a :: b) | _,_=>none
def cOo:Option Operand→Option (Option Od)
  | none=>some none
  | some x=>(cOd x).map some
def aggT (P:Program) (t:TypeId):Option Bool :=
  match P.underlying t with
  | some (.struct _)=>some true
  | some (.array _ _)=>some true
  | some _=>some false
  | none=>none
def sizeT (P:Program) (t:TypeId):Option Nat:=(P.info? t).map (·.size)
def zeroT (P:Program) (t:TypeId):Option (List Lc):=((P.info? t).bind (·.zero)).bind fun z=>kLcs z.cells.toList
def cParts (P:Program) (place:Nat→Option (Nat×Nat)):List (Nat×Operand)→Option (List (Nat×Nat×Od))
  | []=>some []
  | (i,x) :: l=>match place i,cOd x,cParts P place l with | some (off,sz),some a,some b=>some ((off,sz,a) :: b) | _,_,_=>none
def cRow (k:Nat):List (Nat×Operand)→Option (List Od)
  | []=>some []
  | (i,x) :: l=>if i=k then match cOd x,cRow (k+1) l with | some a,some b=>some (a :: b) | _,_=>none else none
def xkT (P:Program) (addr:Bool) (t:TypeId):Option Xk :=
  match P.underlying t with
  | some .string=>some .str
  | some (.slice e)=>(sizeT P e).map Xk.sl
  | some (.array n e)=>if addr then (sizeT P e).map (Xk.ptr n) else match sizeT P e,aggT P e with | some s,some g=>some (.arr n s g) | _,_=>none
  | _=>none
def fkT (P:Program) (t:TypeId):Option Fk :=
  match P.underlying t with
  | some (.int _)=>some .int
  | some .bool=>some .bool
  | some .string=>some .str
  | _=>none
def fkTs (P:Program):Nat→List Field→Option (List Fk)
  | _,[]=>some []
  | i,f :: l=>if f.offset=i∧f.name ≠ "_" then match fkT P f.type,fkTs P (i+1) l with | some a,some b=>some (a :: b) | _,_=>none else none
def cIns (P:Program) (o:Oper):Option Ins :=
  match o.op with
  | .move x=>(cOd x).map Ins.mv
  | .assign x=>(cOd x).map Ins.mv
  | .pick c a b=>match cOd c,cOd a,cOd b with | some c,some a,some b=>some (.pick c a b) | _,_,_=>none
  | .alloc e=>(zeroT P e).map Ins.new
  | .box e x=>match sizeT P e,cOd x with | some s,some x=>some (.box s x) | _,_=>none
  | .build t parts=>match P.underlying t,zeroT P t with
    | some (.struct fs),some z=>if fs.toList.all (fun f=>(sizeT P f.type).isSome) then (cParts P (fun i=>(fs[i]?).bind fun f=>(sizeT P f.type).map fun s=>(f.offset,s)) parts.toList).map (Ins.build z) else none
    | some (.array _ e),some z=>match sizeT P e with
      | some s=>(cParts P (fun i=>some (i * s,s)) parts.toList).map (Ins.build z)
      | none=>none
    | _,_=>none
  | .buildSlice t n parts=>match P.underlying t with
    | some (.slice e)=>match sizeT P e,zeroT P e,cRow 0 parts.toList with
      | some s,some z,some l=>if l.length=n∧n * s≤2 ^ 24∧z.length=s∧0 < s then some (.bsl s l) else none
      | _,_,_=>none
    | _=>none
  | .load t a=>match aggT P t,sizeT P t,cOd a with | some g,some s,some a=>if g∨s=1 then some (.load g s a) else none | _,_,_=>none
  | .store t a x=>match sizeT P t,cOd a,cOd x with | some s,some a,some x=>some (.store s a x) | _,_,_=>none
  | .nilCheck x=>(cOd x).map Ins.nilc
  | .binOp op t x y _=>match P.underlying t,cOd x,cOd y with
    | some (.slice _),some x,some y=>some (.bnil op x y)
    | some (.struct fs),some x,some y=>if P.stoodInHeld t then none else (fkTs P 0 fs.toList).map fun k=>.bagg op k x y
    | some (.array _ _),_,_=>none
    | some (.interface _),some x,some (.c y)=>some (.bic op x (.c y))
    | some (.interface _),_,_=>none
    | some .bool,some x,some y=>some (.bbo op x y)
    | some _,some x,some y=>some (.bin op x y)
    | _,_,_=>none
  | .unOp op _ x=>(cOd x).map (Ins.un op)
  | .convert src dst x=>match P.underlying src,P.underlying dst,cOd x with
    | some _,some (.int k),some x=>some (.cv (.toInt k) x)
    | some .string,some .string,some x=>some (.cv .same x)
    | some (.slice e),some .string,some x=>match P.underlying e with | some (.int .u8)=>some (.cv .b2s x) | _=>none
    | some .string,some (.slice e),some x=>match P.underlying e with | some (.int .u8)=>some (.cv .s2b x) | _=>none
    | _,_,_=>none
  | .makeInterface t x=>match P.underlying t,cOd x with
    | some (.interface _),_=>none
    | some _,some x=>some (.mkif t x)
    | _,_=>none
  | .makeFunc (.func f) first caps=>if first.size=0 then (cOds caps.toList).map (Ins.mkfn f) else none
  | .makeFunc (.method name) first caps=>match first.toList,caps.toList with
    | [x],[]=>(cOd x).map (Ins.mkm name)
    | _,_=>none
  | .makeSlice t l c=>match P.underlying t with
    | some (.slice e)=>match P.info? e,zeroT P e,cOd l,cOd c with
      | some i,some z,some l,some c=>if 0 < i.size then some (.mksl i.size i.bytes z l c) else none
      | _,_,_,_=>none
    | _=>none
  | .slice t x lo hi mx=>match P.underlying t,xkT P false t,cOd x,cOo lo,cOo hi,cOo mx with
    | some (.array _ _),_,_,_,_,_=>none
    | some _,some k,some x,some lo,some hi,some mx=>some (.slc k x lo hi mx)
    | _,_,_,_,_,_=>none
  | .fieldAddr s x f=>match P.underlying s,cOd x with
    | some (.struct fs),some x=>match fs[f]? with
      | some f=>match sizeT P f.type with
        | some n=>if n=0 then none else some (.fadr f.offset x)
        | none=>none
      | none=>none
    | _,_=>none
  | .indexAddr t x i=>match xkT P true t,cOd x,cOd i with | some k,some x,some i=>some (.iadr k x i) | _,_,_=>none
  | .field t x f=>match P.underlying t,cOd x with
    | some (.struct fs),some x=>match fs[f]? with
      | some f=>match sizeT P f.type,aggT P f.type with
        | some n,some g=>some (.fld f.offset g n x)
        | _,_=>none
      | none=>none
    | _,_=>none
  | .index t x i=>match xkT P false t,cOd x,cOd i with
    | some .str,some x,some i=>some (.idx .str x i)
    | some (.arr n s g),some x,some i=>some (.idx (.arr n s g) x i)
    | _,_,_=>none
  | .extract x i=>(cOd x).map fun x=>.ext x i
  | .call { callee:=.builtin .len,args,argTypes }=>match args.toList,argTypes.toList with
    | [x],[t]=>match P.underlying t,xkT P false t,cOd x with
      | some (.array n _),_,some x=>some (.len (.arr n 0 false) x)
      | some .string,some k,some x=>some (.len .str x)
      | some (.slice _),some k,some x=>some (.len (.sl 0) x)
      | _,_,_=>none
    | _,_=>none
  | .call { callee:=.builtin .append,args,argTypes }=>match args.toList,argTypes.toList with
    | [s, x],[t,u]=>match P.underlying t with
      | some (.slice e)=>match P.info? e,zeroT P e,P.underlying u,cOd s,cOd x with
        | some i,some z,some .string,some s,some x=>if z.length=i.size∧i.size=1∧0 < i.bytes then some (.app i.size i.bytes true s x) else none
        | some i,some z,some (.slice _),some s,some x=>if z.length=i.size∧0 < i.size∧0 < i.bytes then some (.app i.size i.bytes false s x) else none
        | _,_,_,_,_=>none
      | _=>none
    | _,_=>none
  | .call { callee:=.builtin .min,args,argTypes:=_ }=>match args.toList with
    | [x,y]=>match cOd x,cOd y with | some x,some y=>some (.mm false x y) | _,_=>none
    | _=>none
  | .call { callee:=.builtin .max,args,argTypes:=_ }=>match args.toList with
    | [x,y]=>match cOd x,cOd y with | some x,some y=>some (.mm true x y) | _,_=>none
    | _=>none
  | .call { callee:=.value f,args,argTypes:=_ }=>match cOd f,cOds args.toList with | some f,some l=>some (.call f l) | _,_=>none
  | .call { callee:=.invoke recv name,args,argTypes:=_ }=>match cOd recv,cOds args.toList with | some x,some l=>some (.call (.m name) (x :: l)) | _,_=>none
  | .lookup t x i true=>match P.underlying t with
    | some (.map kt et)=>match P.underlying kt,((P.info? et).bind (·.zero)).bind kLc,cOd x,cOd i with
      | some (.int k),some (.d z),some x,some i=>some (.lkm k z x i)
      | _,_,_,_=>none
    | _=>none
  | _=>none
def opsOf:Ins→List Od
  | .mv x | .box _ x | .load _ _ x | .nilc x | .un _ x | .cv _ x | .mkif _ x | .fadr _ x | .fld _ _ _ x | .ext x _ | .len _ x=>[x]
  | .pick a b c=>[a,b,c]
  | .new _=>[]
  | .build _ l=>l.map fun p=>p.2.2
  | .bsl _ l=>l
  | .store _ a b | .bin _ a b | .bnil _ a b | .bagg _ _ a b | .bbo _ a b | .mksl _ _ _ a b | .iadr _ a b | .idx _ a b | .app _ _ _ a b | .mm _ a b=>[a,b]
  | .mkfn _ l=>l
  | .slc _ x lo hi mx=>x :: lo.toList++hi.toList++mx.toList
  | .call f l=>f :: l
  | .bic _ a b=>[a,b]
  | .mkm _ a=>[a]
  | .lkm _ _ a b=>[a,b]
def apG (G:Hf):List (Nat×Ent)→Hf
  | []=>G
  | (i,e) :: l=>apG (updG G i e) l
section
variable (P:Program) (o:Oper) (a:Act) (w:World) (S:Nat→Prop) (ρ:Nat→Option Nat) (G:Hf) (base:Base)
def Res (v:Va) (G1:Hf):Prop :=
  ∃ u w1 S1 ρ1,((execOp a.eval o).run P w=.ok (.value u) w1∨((execOp a.eval o).run P w=.ok .skip w1∧u=undef))∧Ext w S ρ G w1 S1 ρ1 G1∧Hr w1 S1 ρ1 G1 base∧RepV w1 S1 ρ1 G1 v u∧Bel base w w1∧(∀ k,S1 k→S k∨base.ok k)
end
variable {P:Program} {gl:Gl} {c:Ch} {d:Option Nat} {o:Oper} {a:Act} {w w1:World} {S S1:Nat→Prop} {ρ ρ1:Nat→Option Nat} {G G1:Hf} {base:Base}
theorem Res.pure {v:Va} {u:Value} (hr:Hr w S ρ G base) (h:(execOp a.eval o).run P w=.ok (.value u) w) (hv:RepV w S ρ G v u):Res P o a w S ρ G base v G :=
  ⟨u,w,S,ρ,.inl h,Ext.refl _ _ _ _,hr,hv,Bel.refl _ _,fun k hk=>.inl hk⟩
theorem rep_int {k:IntKind} {n:Int} {u:Value}:RepV w S ρ G (.b (.s (.d (.int k n)))) u↔u=.int k n:=by
  constructor
  · intro h;cases h with | d _ _ h=>cases h;rfl
  · rintro rfl;exact .d _ _ (.int k n)
theorem rep_bool {b:Bool} {u:Value}:RepV w S ρ G (.b (.s (.d (.bool b)))) u↔u=.bool b:=by
  constructor
  · intro h;cases h with | d _ _ h=>cases h;rfl
  · rintro rfl;exact .d _ _ (.bool b)
theorem rep_str {l:List UInt8} {u:Value}:RepV w S ρ G (.b (.s (.d (.str l)))) u↔u=strV l:=by
  constructor
  · intro h;cases h with | d _ _ h=>cases h;rfl
  · rintro rfl;exact .d _ _ (.str l)
theorem rep_i {k:IntKind} {n:Int}:RepV w S ρ G (.i k n) (.int k n):=rep_int.2 rfl
theorem rep_bo {b:Bool}:RepV w S ρ G (.bo b) (.bool b):=rep_bool.2 rfl
theorem rep_st {l:List UInt8}:RepV w S ρ G (.st l) (strV l):=rep_str.2 rfl
theorem intV_rep {v:Va} {n:Int} {u:Value} (h:intV v=some n) (hv:RepV w S ρ G v u):∃ k,u=.int k n:=by
  unfold intV at h
  split at h
  · rename_i k m
    simp only [Option.some.injEq] at h
    subst h
    exact ⟨k,rep_int.1 hv⟩
  · cases h
theorem kLc_rep {v:Value} {lc:Lc} (h:kLc v=some lc):RepL w S ρ G lc v:=by
  unfold kLc at h
  split at h <;> first | (cases h;done) | (simp only [Option.some.injEq] at h;subst h;first | exact .d _ _ (.int _ _) | exact .d _ _ (.bool _) | exact .d _ _ (.str _) | exact .d _ _ (.z _) | exact .nils)
theorem kLcs_rep:∀ {vs:List Value} {l:List Lc},kLcs vs=some l→l.length=vs.length∧∀ (j:Nat) lc,l[j]? = some lc→∃ u,vs[j]? = some u∧RepL w S ρ G lc u
  | [],l,h=>by simp only [kLcs,Option.some.injEq] at h;subst h;simp
  | v :: vs,l,h=>by
    simp only [kLcs] at h
    split at h
    · rename_i x r h1 h2
      simp only [Option.some.injEq] at h;subst h
      obtain ⟨h3,h4⟩:=kLcs_rep h2
      refine ⟨by simp [h3],fun j lc hj => ?_⟩
      cases j with
      | zero=>simp only [List.getElem?_cons_zero,Option.some.injEq] at hj;subst hj;exact ⟨v,rfl,kLc_rep h1⟩
      | succ j=>exact h4 j lc (by simpa using hj)
    · cases h
theorem kVb_rep {v:Value} {x:Vb} (h:kVb v=some x):RepB w S ρ G x v:=by
  unfold kVb at h
  split at h
  · rename_i cs
    obtain ⟨l,hl,rfl⟩:=Option.map_eq_some_iff.1 h
    obtain ⟨h1,h2⟩:=kLcs_rep (w:=w) (S:=S) (ρ:=ρ) (G:=G) hl
    refine ⟨cs,rfl,by simpa using h1.symm,fun j lc hj => ?_⟩
    obtain ⟨u,hu,hr⟩:=h2 j lc hj
    have:cs.getD j undef=u:=by
      rw [Array.getElem?_toList] at hu
      simp [Array.getD_eq_getD_getElem?,hu]
    rw [this];exact hr
  · obtain ⟨l,hl,rfl⟩:=Option.map_eq_some_iff.1 h
    exact kLc_rep hl
theorem run_sizeT {P:Program} {t:TypeId} {n:Nat} (h:sizeT P t=some n) (w:World):(sizeOf t).run P w=.ok n w:=by
  unfold sizeT at h
  obtain ⟨i,hi,rfl⟩:=Option.map_eq_some_iff.1 h
  simp [sizeOf,typeInfo,hi]
theorem run_aggT {P:Program} {t:TypeId} {b:Bool} (h:aggT P t=some b) (w:World):(isAgg t).run P w=.ok b w:=by
  unfold aggT at h
  cases hu:P.underlying t with
  | none=>rw [hu] at h;cases h
  | some d =>
    rw [hu] at h
    simp only [isAgg,Sem.run_bind,run_underlying hu,Result.andThen_ok]
    cases d <;> (simp only [Option.some.injEq] at h;subst h;rfl)
theorem strV_list (l:List UInt8):(⟨⟨l⟩⟩:ByteArray).toList=l:=ByteArray.toList_eq _
theorem run_stringOp {P:Program} (op:BinOp) (x y:List UInt8) (w:World) (h:(binS op (.str x) (.str y)).ob):∃ u,(Op.stringOp op ⟨⟨x⟩⟩ ⟨⟨y⟩⟩).run P w=.ok u w∧RepV w S ρ G (binS op (.str x) (.str y)).v u:=by
  cases op <;> simp only [binS,fail] at h <;> first | exact h.elim | (simp only [Op.stringOp,strV_list,binS,out1];try exact ⟨_,rfl,rep_bo⟩)
  have hs:¬ (((⟨⟨x⟩⟩:ByteArray).size+(⟨⟨y⟩⟩:ByteArray).size:Nat):Int) > IntKind.i64.max:=by
    show ¬ ((x.length+y.length:Nat):Int) > 9223372036854775807
    omega
  rw [if_neg hs]
  refine ⟨_,rfl,?_⟩
  have:(⟨⟨x⟩⟩:ByteArray)++⟨⟨y⟩⟩=⟨⟨x++y⟩⟩:=by
    apply ByteArray.ext
    rw [ByteArray.data_append]
    simp
  rw [this]
  exact rep_st
theorem run_bin {P:Program} (op:BinOp) (x y:Sc) (ux uy:Value) (w:World) (t:TypeId) (od1 od2:Operand) (h:(binS op x y).ob) (hx:RepL w S ρ G (.d x) ux) (hy:RepL w S ρ G (.d y) uy) :
    ∃ u,((do eqGuard op t od1 od2 ux uy;binOp op t ux uy):Sem Value).run P w=.ok u w∧RepV w S ρ G (binS op x y).v u∧(binS op x y).ef=[]:=by
  cases hx with | d _ _ hx=>cases hy with | d _ _ hy =>
  have hg:∀ (k k1:IntKind) (m n:Int),(eqGuard op t od1 od2 (.int k m) (.int k1 n)).run P w=.ok () w:=by
    intro k k1 m n;unfold eqGuard;cases op <;> rfl
  have hgs:∀ (m n:ByteArray),(eqGuard op t od1 od2 (.string m) (.string n)).run P w=.ok () w:=by
    intro m n;unfold eqGuard;cases op <;> rfl
  cases x <;> cases y <;> first
    | (exfalso;cases op <;> exact h)
    | skip
  · rename_i k m k1 n
    cases hx;cases hy
    rw [Sem.run_bind,hg,Result.andThen_ok]
    cases op <;> first | (exact h.elim) | skip
    all_goals simp only [binS] at h
    all_goals first
      | (subst h;exact ⟨_,by simp [binOp,Op.intArith,Op.intBits,Op.intCmp,binS];rfl,by simp only [binS];exact rep_i,rfl⟩)
      | (subst h;exact ⟨_,by simp only [binOp,ne_eq,not_true_eq_false,if_false];rfl,by simp only [binS];exact rep_i,rfl⟩)
      | (subst h;exact ⟨_,by simp [binOp,Op.intArith,Op.intBits,Op.intCmp,binS];rfl,by simp only [binS];exact rep_bo,rfl⟩)
      | (have h2:=h.2
         have h1:=h.1
         subst h1
         exact ⟨_,by simp [binOp,Op.intDiv,h2,binS];rfl,by simp only [binS];exact rep_i,rfl⟩)
      | (have hn:¬ n < 0:=by omega
         exact ⟨_,by simp [binOp,Op.shift,hn,binS];rfl,by simp only [binS];exact rep_i,rfl⟩)
  · rename_i m n
    cases hx;cases hy
    rw [Sem.run_bind]
    unfold strV
    rw [hgs,Result.andThen_ok]
    obtain ⟨u,h1,h2⟩:=run_stringOp (S:=S) (ρ:=ρ) (G:=G) (P:=P) op m n w h
    refine ⟨u,by cases op <;> first | exact h1 | exact h.elim,h2,by cases op <;> first | rfl | exact h.elim⟩
end Go.Proofs.YtedibjgdangfnaaGreatDoor.V
end

section
namespace Go.Proofs.YtedibjgdangfnaaGreatDoor.V
open Go Go.RowKit
set_option linter.unusedVariables false
set_option linter.unusedSimpArgs false
variable {P:Program} {gl:Gl} {c:Ch} {d:Option Nat} {o:Oper} {a:Act} {w w1:World} {S S1:Nat→Prop} {ρ ρ1:Nat→Option Nat} {G G1:Hf} {base:Base} {ev:Od→Va}
theorem exec_v {s:Sem Value} {u:Value} (h:execOp a.eval o=(do pure (Next.value (← s)):Sem Next)) (hs:s.run P w=.ok u w1):(execOp a.eval o).run P w=.ok (.value u) w1:=by
  rw [h,Sem.run_bind,hs];rfl
theorem exec_u {s:Sem Unit} (h:execOp a.eval o=(do s;pure Next.skip:Sem Next)) (hs:s.run P w=.ok () w1):(execOp a.eval o).run P w=.ok .skip w1:=by
  rw [h,Sem.run_bind,hs];rfl
def EvOk (w:World) (S:Nat→Prop) (ρ:Nat→Option Nat) (G:Hf) (ev:Od→Va) (a:Act) (l:List Od):Prop:=∀ x od,od∈l→cOd x=some od→RepV w S ρ G (ev od) (a.eval x)
theorem add_none (b o j:Nat):(⟨b,o,none⟩:Addr).add j=⟨b,o+j,none⟩:=by unfold Addr.add;split <;> simp_all
theorem s_mv {x:Operand} {od:Od} (hr:Hr w S ρ G base) (hop:o.op=.move x∨o.op=.assign x) (hx:RepV w S ρ G (ev od) (a.eval x)):Res P o a w S ρ G base (ev od) G:=by
  refine Res.pure hr ?_ hx
  unfold execOp
  rcases hop with h | h <;> rw [h] <;> rfl
theorem boolV_rep {v:Va} {g p:Bool} {u:Value} (h:boolV v=some (g,p)) (hv:RepV w S ρ G v u) (hg:g=true):u=.bool p:=by
  unfold boolV at h
  split at h
  · simp only [Option.some.injEq,Prod.mk.injEq] at h;obtain ⟨_,rfl⟩:=h;exact rep_bool.1 hv
  · simp only [Option.some.injEq,Prod.mk.injEq] at h;obtain ⟨h1,rfl⟩:=h;exact rep_bool.1 (hv.1 (h1.trans hg))
  · simp only [Option.some.injEq,Prod.mk.injEq] at h;obtain ⟨rfl,_⟩:=h;cases hg
  · cases h
theorem s_pick {p x y:Operand} {p1 x1 y1:Od} (hr:Hr w S ρ G base) (hop:o.op=.pick p x y) (hp:RepV w S ρ G (ev p1) (a.eval p)) (hx:RepV w S ρ G (ev x1) (a.eval x)) (hy:RepV w S ρ G (ev y1) (a.eval y))
    (hob:(semI P gl c d (.pick p1 x1 y1) ev G).ob):Res P o a w S ρ G base (semI P gl c d (.pick p1 x1 y1) ev G).v (apG G (semI P gl c d (.pick p1 x1 y1) ev G).ef):=by
  have hrun:∀ b,a.eval p=.bool b→(execOp a.eval o).run P w=.ok (.value (if b then a.eval x else a.eval y)) w:=by
    intro b hb
    unfold execOp;rw [hop]
    simp only [hb,asBool,Sem.run_bind,Sem.run_pure,Result.andThen_ok]
  generalize hO:semI P gl c d (.pick p1 x1 y1) ev G=out at hob ⊢
  simp only [semI] at hO
  split at hO
  · rename_i g0 q0 g1 q1 g2 q2 e1 e2 e3
    subst hO
    obtain ⟨h0,h1,h2⟩:=hob
    refine Res.pure hr (hrun _ (boolV_rep e1 hp h0)) ?_
    cases q0 with
    | true=>simp only [if_true];rw [boolV_rep e2 hx (h1 rfl)];exact rep_bo
    | false=>simp only [Bool.false_eq_true,if_false];rw [boolV_rep e3 hy (h2 rfl)];exact rep_bo
  · subst hO;exact hob.elim
theorem ptr_cells (hr:Hr w S ρ G base) {i n r q:Nat} {e:Ent} {row:List Lc} {u:Value} (h:RepV w S ρ G (.b (.s (.ptr i n r q))) u) (hG:G i=some e) (hn:n=e.rows.length) (hrow:e.rows[r]? = some row) :
    ∃ b,ρ i=some b∧u=.pointer (some ⟨b,r * e.st+q,none⟩)∧row.length=e.st∧∀ (j:Nat) lc,row[j]? = some lc→∃ x,w.cell? ⟨b,r * e.st+j,none⟩=some x∧(e.fz=false→w.frozen? ⟨b,r * e.st+j,none⟩=false)∧RepL w S ρ G lc x:=by
  cases h with
  | ptr _ _ _ _ e1 _ hG1 hm hone hh =>
    rw [hG] at hG1;cases hG1
    obtain ⟨b,h1,h2⟩:=hh hn
    have hb:=hr.blk i e hG
    have hl:=hb.1 row (List.mem_of_getElem? hrow)
    refine ⟨b,h1,h2,hl,fun j lc hj => ?_⟩
    have hjl:j < e.st:=by have:=(List.getElem?_eq_some_iff.1 hj).1;omega
    exact hb.cell h1 (by rw [flatten_row hb.1 r j row hrow hjl];exact hj)
theorem ref_cells {cells:List Sc} {q:Nat} {u:Value} (h:RepV w S ρ G (.b (.s (.d (.ref cells q)))) u):∃ b k,u=.pointer (some ⟨b,k+q,none⟩)∧∀ (j:Nat) sc,cells[j]? = some sc→∃ x,w.cell? ⟨b,k+j,none⟩=some x∧RepD w S sc x:=by
  cases h with
  | d _ _ h =>
    cases h with
    | ref _ _ b k us hS hcell hu=>exact ⟨b,k,rfl,fun j sc hj=>⟨us j,hcell j sc hj,hu j sc hj⟩⟩
theorem RepC.of_list {cs:List Lc} {vs:List Value} (hl:vs.length=cs.length) (h:∀ (j:Nat) lc,cs[j]? = some lc→∃ x,vs[j]? = some x∧RepL w S ρ G lc x):RepC w S ρ G cs vs.toArray:=by
  refine ⟨by simpa using hl,fun j lc hj => ?_⟩
  obtain ⟨x,h1,h2⟩:=h j lc hj
  have:vs.toArray.getD j undef=x:=by simp [Array.getD_eq_getD_getElem?,h1]
  rw [this];exact h2
theorem RepC.get {cs:List Lc} {vs:Array Value} (h:RepC w S ρ G cs vs) {j:Nat} {lc:Lc} (hj:cs[j]? = some lc):∃ x,vs[j]? = some x∧RepL w S ρ G lc x:=by
  have hlt:j < vs.size:=by have:=(List.getElem?_eq_some_iff.1 hj).1;have:=h.1;omega
  have:=h.2 j lc hj
  rw [Array.getD_eq_getD_getElem?,Array.getElem?_eq_getElem hlt] at this
  exact ⟨vs[j],Array.getElem?_eq_getElem hlt,this⟩
theorem run_loads {b k:Nat} {cs:List Lc} {n:Nat} (hn:n≤cs.length) (h:∀ (j:Nat) lc,cs[j]? = some lc→∃ x,w.cell? ⟨b,k+j,none⟩=some x∧RepL w S ρ G lc x) :
    ∃ vs,(loadCells ⟨b,k,none⟩ n).run P w=.ok vs w∧RepC w S ρ G (cs.take n) vs:=by
  have hf:∀ j,j < n→∃ x,w.cell? ⟨b,k+j,none⟩=some x∧∀ lc,cs[j]? = some lc→RepL w S ρ G lc x:=by
    intro j hj
    obtain ⟨x,h1,h2⟩:=h j cs[j] (List.getElem?_eq_getElem (by omega))
    exact ⟨x,h1,fun lc hlc=>by rw [List.getElem?_eq_getElem (by omega)] at hlc;cases hlc;exact h2⟩
  refine ⟨((List.range n).map fun j=>(w.cell? ⟨b,k+j,none⟩).getD undef).toArray,run_loadCells w _ n _ (fun j hj => ?_),RepC.of_list (by simp;omega) (fun j lc hj => ?_)⟩
  · obtain ⟨x,h1,_⟩:=hf j hj
    rw [add_none,h1];rfl
  · rw [List.getElem?_take] at hj
    split at hj
    · rename_i hlt
      obtain ⟨x,h1,h2⟩:=hf j hlt
      refine ⟨x,?_,h2 lc hj⟩
      rw [List.getElem?_map,List.getElem?_range hlt,Option.map_some,h1];rfl
    · cases hj
theorem run_loadVar {t:TypeId} {agg:Bool} {sz b k:Nat} {cs:List Lc} (hg:aggT P t=some agg) (hs:sizeT P t=some sz) (h1:agg∨sz=1) (hn:sz≤cs.length) (h:∀ (j:Nat) lc,cs[j]? = some lc→∃ x,w.cell? ⟨b,k+j,none⟩=some x∧RepL w S ρ G lc x) :
    ∃ u,(loadVar t ⟨b,k,none⟩).run P w=.ok u w∧RepV w S ρ G (.b (if agg then .agg (cs.take sz) else .s (cs.getD 0 lcA))) u:=by
  cases agg with
  | true =>
    obtain ⟨vs,h2,h3⟩:=run_loads (P:=P) hn h
    exact ⟨.agg vs,by simp [loadVar,run_aggT hg,run_sizeT hs,h2],vs,rfl,h3⟩
  | false =>
    have:sz=1:=by simpa using h1
    subst this
    obtain ⟨x,h2,h3⟩:=h 0 cs[0] (List.getElem?_eq_getElem (by omega))
    refine ⟨x,by simp only [loadVar,Sem.run_bind,run_aggT hg,Result.andThen_ok,Bool.false_eq_true,if_false,run_load];rw [Nat.add_zero] at h2;rw [h2],?_⟩
    have:cs.getD 0 lcA=cs[0]:=by simp [List.getD,List.getElem?_eq_getElem (show 0 < cs.length by omega)]
    simp only [Bool.false_eq_true,if_false,this]
    exact h3
theorem s_load {t:TypeId} {x:Operand} {x1:Od} {agg:Bool} {sz:Nat} (hr:Hr w S ρ G base) (hop:o.op=.load t x) (hg:aggT P t=some agg) (hs:sizeT P t=some sz) (h1:agg∨sz=1) (hx:RepV w S ρ G (ev x1) (a.eval x))
    (hob:(semI P gl c d (.load agg sz x1) ev G).ob):Res P o a w S ρ G base (semI P gl c d (.load agg sz x1) ev G).v (apG G (semI P gl c d (.load agg sz x1) ev G).ef):=by
  have hex:execOp a.eval o=(do pure (Next.value (← Instr.loadAt t (a.eval x))):Sem Next):=by unfold execOp;rw [hop]
  generalize hO:semI P gl c d (.load agg sz x1) ev G=out at hob ⊢
  simp only [semI] at hO
  split at hO
  · rename_i i n r q e1
    rw [e1] at hx
    split at hO
    · rename_i e hG
      split at hO
      · rename_i row hrow
        subst hO
        obtain ⟨hn,hl⟩:=hob
        obtain ⟨b,h2,h3,h4,h5⟩:=ptr_cells hr hx hG hn hrow
        obtain ⟨u,h6,h7⟩:=run_loadVar (P:=P) (w:=w) (S:=S) (ρ:=ρ) (G:=G) (t:=t) (b:=b) (k:=r * e.st+q) (cs:=row.drop q) hg hs h1 (by rw [List.length_drop];omega) (fun j lc hj=>by
          rw [List.getElem?_drop] at hj
          obtain ⟨x,g1,_,g3⟩:=h5 _ lc hj
          exact ⟨x,by rw [Nat.add_assoc];exact g1,g3⟩)
        refine Res.pure hr (exec_v hex (by rw [h3];simpa [Instr.loadAt,Instr.sureAddr] using h6)) ?_
        have:(row.drop q).getD 0 lcA=row.getD q lcA:=by simp [List.getD]
        rw [this] at h7
        exact h7
      · subst hO;exact hob.elim
    · subst hO;exact hob.elim
  · rename_i cells q e1
    rw [e1] at hx
    subst hO
    obtain ⟨b,k,h2,h3⟩:=ref_cells hx
    have hl:q+sz≤cells.length:=hob
    obtain ⟨u,h6,h7⟩:=run_loadVar (P:=P) (w:=w) (S:=S) (ρ:=ρ) (G:=G) (t:=t) (b:=b) (k:=k+q) (cs:=(cells.drop q).map Lc.d) hg hs h1 (by rw [List.length_map,List.length_drop];omega) (fun j lc hj=>by
      rw [List.getElem?_map,List.getElem?_drop,Option.map_eq_some_iff] at hj
      obtain ⟨sc,hj,rfl⟩:=hj
      obtain ⟨x,g1,g3⟩:=h3 _ sc hj
      exact ⟨x,by rw [Nat.add_assoc];exact g1,.d _ _ g3⟩)
    refine Res.pure hr (exec_v hex (by rw [h2];simpa [Instr.loadAt,Instr.sureAddr] using h6)) ?_
    have e2:((cells.drop q).map Lc.d).getD 0 lcA=Lc.d (cells.getD q scA):=by
      simp only [List.getD,List.getElem?_map,List.getElem?_drop,Nat.add_zero]
      cases cells[q]? <;> rfl
    rw [e2,← List.map_take] at h7
    exact h7
  · subst hO;exact hob.elim
theorem nilAhead_methF {t:TypeId} {name:String} {f:FuncId} {v:Value} (h:methF P t name=some f) (n:Nat) (hn:n ≠ 0):(nilAhead n t v name).run P w=.ok (some false) w:=by
  obtain ⟨n,rfl⟩:∃ k,n=k+1:=⟨n - 1,by omega⟩
  unfold methF at h
  cases hi:P.info? t with
  | none=>rw [hi] at h;cases h
  | some i =>
    rw [hi] at h
    dsimp only at h
    cases hf:i.methods.find? (·.name == name) with
    | none=>rw [hf] at h;cases h
    | some m =>
      rw [hf] at h
      dsimp only at h
      split at h
      · rename_i hp
        have hp2:m.path.toList=[]:=by simpa using hp
        split at h
        · cases h
        · rename_i g u hnp hm hu
          cases h
          unfold nilAhead
          have ht:=run_typeInfo w hi
          have hund:=run_underlying hu w
          simp only [Sem.run_bind,ht,Result.andThen_ok,hf,hp2,followBlind,Sem.run_pure,hm,hund]
          cases u <;> first | (exact absurd rfl (hnp _ )) | simp [Sem.run_pure]
        · cases h
      · cases h
theorem s_nilc {x:Operand} {x1:Od} (hr:Hr w S ρ G base) (hop:o.op=.nilCheck x) (hx:RepV w S ρ G (ev x1) (a.eval x))
    (hob:(semI P gl c d (.nilc x1) ev G).ob):Res P o a w S ρ G base (semI P gl c d (.nilc x1) ev G).v (apG G (semI P gl c d (.nilc x1) ev G).ef):=by
  generalize hO:semI P gl c d (.nilc x1) ev G=out at hob ⊢
  simp only [semI] at hO
  have key:∀ u,a.eval x=u→u ≠ .pointer none→u ≠ .nilIface→u ≠ .nilFunc→(∀ m f l,u ≠ .func (.method m) f l)→(execOp a.eval o).run P w=.ok (.value u) w:=by
    intro u hu h1 h2 h3 h4
    unfold execOp;rw [hop]
    simp only [hu]
    first
    | rfl
    | split <;> first | rfl | exact absurd rfl h1 | exact absurd rfl h2 | exact absurd rfl h3 | exact absurd rfl (h4 _ _ _)
  split at hO
  · rename_i i n r q e1
    rw [e1] at hx
    split at hO
    · rename_i e hG
      subst hO
      have hx':=hx
      cases hx with
      | ptr _ _ _ _ e2 _ hG2 hm hone hh =>
        rw [hG] at hG2;cases hG2
        obtain ⟨b,_,h2⟩:=hh hob
        refine Res.pure hr (key _ h2 (by simp) (by simp) (by simp) (by simp)) ?_
        rw [← h2];exact hx'
    · subst hO;exact hob.elim
  · rename_i cs q e1
    subst hO
    rw [e1] at hx
    obtain ⟨b,k,h2,_⟩:=ref_cells hx
    refine Res.pure hr (key _ h2 (by simp) (by simp) (by simp) (by simp)) ?_
    rw [← h2];exact hx
  · rename_i f cs e1
    subst hO
    rw [e1] at hx
    have hx':=hx
    cases hx with
    | d _ _ h =>
      generalize hu:a.eval x=u at h hx'
      cases h with
      | clo _ _ vs hl hu2=>exact Res.pure hr (key _ hu (by simp) (by simp) (by simp) (by simp)) hx'
  · rename_i f cs e1
    subst hO
    rw [e1] at hx
    have hx':=hx
    generalize hu:a.eval x=u at hx hx'
    cases hx with
    | clo _ _ vs hl hu2=>exact Res.pure hr (key _ hu (by simp) (by simp) (by simp) (by simp)) hx'
  · rename_i name sc e1
    subst hO
    obtain ⟨t,b,cs,rfl,hob⟩:=hob
    rw [e1] at hx
    have hx':=hx
    obtain ⟨v,hu,hv⟩:=hx
    obtain ⟨f,hf⟩:=Option.isSome_iff_exists.1 hob
    obtain ⟨rv,rfl⟩:∃ rv,v=.iface t rv:=by cases hv <;> exact ⟨_,rfl⟩
    have hna:=nilAhead_methF (w:=w) (v:=rv) hf (P.types.size+Made.depth) (by unfold Made.depth;omega)
    refine Res.pure hr (u:=.func (.method name) #[.iface t rv] #[]) ?_ (by rw [← hu];exact hx')
    unfold execOp;rw [hop]
    simp only [hu]
    have e0:(#[Value.iface t rv]:Array Value)[0]? = some (Value.iface t rv):=rfl
    simp only [e0,Sem.run_bind,run_program,Result.andThen_ok,hna,Sem.run_pure]
    rfl
  · subst hO;exact hob.elim
theorem s_mkm {name:String} {first caps:Array Operand} {x:Operand} {x1:Od} (hr:Hr w S ρ G base) (hop:o.op=.makeFunc (.method name) first caps) (hf:first.toList=[x]) (hc:caps.toList=[]) (hx:RepV w S ρ G (ev x1) (a.eval x))
    (hob:(semI P gl c d (.mkm name x1) ev G).ob):Res P o a w S ρ G base (semI P gl c d (.mkm name x1) ev G).v (apG G (semI P gl c d (.mkm name x1) ev G).ef):=by
  obtain rfl:first = #[x]:=Array.toList_inj.1 hf
  obtain rfl:caps = #[]:=Array.toList_inj.1 hc
  generalize hO:semI P gl c d (.mkm name x1) ev G=out at hob ⊢
  simp only [semI] at hO
  split at hO
  · rename_i sc e1
    subst hO
    rw [e1] at hx
    have hx:RepL w S ρ G (.d sc) (a.eval x):=hx
    cases hx with
    | d _ _ h =>
      refine Res.pure hr (u:=.func (.method name) #[a.eval x] #[]) ?_ ⟨_,rfl,h⟩
      unfold execOp;rw [hop]
      simp [Instr.makeFunc,Sem.run_bind,Sem.run_pure,Result.andThen_ok]
  · subst hO;exact hob.elim
theorem s_bin {op:BinOp} {t t2:TypeId} {x y:Operand} {x1 y1:Od} (hr:Hr w S ρ G base) (hop:o.op=.binOp op t x y t2) (hx:RepV w S ρ G (ev x1) (a.eval x)) (hy:RepV w S ρ G (ev y1) (a.eval y))
    (hob:(semI P gl c d (.bin op x1 y1) ev G).ob):Res P o a w S ρ G base (semI P gl c d (.bin op x1 y1) ev G).v (apG G (semI P gl c d (.bin op x1 y1) ev G).ef):=by
  have hex:execOp a.eval o=(do pure (Next.value (← (do eqGuard op t x y (a.eval x) (a.eval y);binOp op t (a.eval x) (a.eval y):Sem Value))):Sem Next):=by unfold execOp;rw [hop]
  generalize hO:semI P gl c d (.bin op x1 y1) ev G=out at hob ⊢
  simp only [semI] at hO
  split at hO
  · rename_i p q e1 e2
    subst hO
    rw [e1] at hx;rw [e2] at hy
    obtain ⟨u,h1,h2,h3⟩:=run_bin (P:=P) op p q _ _ w t x y hob hx hy
    rw [h3]
    exact Res.pure hr (exec_v hex h1) h2
  · subst hO;exact hob.elim
theorem s_bnil {op:BinOp} {t t2 e:TypeId} {x y:Operand} {x1 y1:Od} (hr:Hr w S ρ G base) (hop:o.op=.binOp op t x y t2) (ht:P.underlying t=some (.slice e)) (hx:RepV w S ρ G (ev x1) (a.eval x)) (hy:RepV w S ρ G (ev y1) (a.eval y))
    (hob:(semI P gl c d (.bnil op x1 y1) ev G).ob):Res P o a w S ρ G base (semI P gl c d (.bnil op x1 y1) ev G).v (apG G (semI P gl c d (.bnil op x1 y1) ev G).ef):=by
  have hex:execOp a.eval o=(do pure (Next.value (← (do eqGuard op t x y (a.eval x) (a.eval y);binOp op t (a.eval x) (a.eval y):Sem Value))):Sem Next):=by unfold execOp;rw [hop]
  have key:∀ p n c1 b,a.eval x=.slice p n c1→a.eval y=.slice none 0 0→p.isNone=b→(nilS op b).ob→Res P o a w S ρ G base (nilS op b).v (apG G (nilS op b).ef):=by
    intro p n c1 b h1 h2 h3 h4
    have hg:(eqGuard op t x y (a.eval x) (a.eval y)).run P w=.ok () w:=by rw [h1,h2];unfold eqGuard;cases op <;> rfl
    have he:(Op.equal t (.slice p n c1) (.slice none 0 0)).run P w=.ok b w:=by
      have hm:Op.maxDepth=9999+1:=rfl
      unfold Op.equal
      rw [hm,Op.equalIn]
      simp only [Sem.run_bind,run_underlying ht,Result.andThen_ok]
      cases p <;> (subst h3;rfl)
    cases op <;> first | exact h4.elim | skip
    · refine Res.pure hr (exec_v (u:=.bool b) hex ?_) rep_bo
      rw [Sem.run_bind,hg,Result.andThen_ok,h1,h2]
      simp only [binOp,Sem.run_bind,he,Result.andThen_ok];rfl
    · refine Res.pure hr (exec_v (u:=.bool (!b)) hex ?_) rep_bo
      rw [Sem.run_bind,hg,Result.andThen_ok,h1,h2]
      simp only [binOp,Sem.run_bind,he,Result.andThen_ok];rfl
  have hyn:∀ {l:Lc},l=.nils→RepL w S ρ G l (a.eval y)→a.eval y=.slice none 0 0:=by
    rintro l rfl h
    generalize a.eval y=u at h
    cases h;rfl
  generalize hO:semI P gl c d (.bnil op x1 y1) ev G=out at hob ⊢
  simp only [semI] at hO
  split at hO
  · rename_i r rs e1 e2
    subst hO
    rw [e1] at hx;rw [e2] at hy
    have hy2:=hyn rfl hy
    cases hx with | d _ _ h =>
    generalize hu:a.eval x=u at h
    cases h with
    | sl _ p cap st b k us hc hn0 hst ha hcell hu2 =>
      exact key p _ cap false hu hy2 (by rw [(ha (by simp)).1];rfl) hob
  · rename_i rs e1 e2
    subst hO
    rw [e1] at hx;rw [e2] at hy
    have hy2:=hyn rfl hy
    generalize hu:a.eval x=u at hx
    cases hx with
    | nn _ q c1 h=>exact key (some q) _ c1 false hu hy2 rfl hob
  · rename_i e1 e2
    subst hO
    rw [e1] at hx;rw [e2] at hy
    have hy2:=hyn rfl hy
    generalize hu:a.eval x=u at hx
    cases hx with
    | nils=>exact key none 0 0 true hu hy2 rfl hob
  · subst hO;exact hob.elim
theorem run_eqflat {t:TypeId} {f:Fk} (ht:fkT P t=some f) {x y:Lc} {b:Bool} {ux uy:Value} (n:Nat) (h:eqL f x y=some b) (hx:RepL w S ρ G x ux) (hy:RepL w S ρ G y uy):(Op.equalIn (n+1) t ux uy).run P w=.ok b w:=by
  unfold eqL at h
  split at h
  · rename_i k p k1 q
    cases hx with | d _ _ hx =>
    cases hx
    cases hy with | d _ _ hy =>
    cases hy
    split at h
    · rename_i hkk
      subst hkk
      cases h
      unfold fkT at ht
      split at ht <;> first | (cases ht;done) | skip
      rename_i k3 h3
      rw [Op.equalIn]
      simp only [Sem.run_bind,run_underlying h3,Result.andThen_ok,if_true]
      rfl
    · cases h
  · rename_i p q
    cases hx with | d _ _ hx =>
    cases hx
    cases hy with | d _ _ hy =>
    cases hy
    cases h
    unfold fkT at ht
    split at ht <;> first | (cases ht;done) | skip
    rename_i h3
    rw [Op.equalIn]
    simp only [Sem.run_bind,run_underlying h3,Result.andThen_ok]
    rfl
  · rename_i p q
    cases hx with | d _ _ hx =>
    cases hx
    cases hy with | d _ _ hy =>
    cases hy
    cases h
    unfold fkT at ht
    split at ht <;> first | (cases ht;done) | skip
    rename_i h3
    rw [Op.equalIn]
    simp only [Sem.run_bind,run_underlying h3,Result.andThen_ok]
    have h1:((⟨⟨p⟩⟩:ByteArray) == ⟨⟨q⟩⟩)=((⟨p⟩:Array UInt8) == ⟨q⟩):=rfl
    have:((⟨⟨p⟩⟩:ByteArray) == ⟨⟨q⟩⟩)=(p == q):=by
      rw [h1,Bool.eq_iff_iff]
      simp only [beq_iff_eq]
      constructor
      · intro h;exact congrArg Array.toList h
      · rintro rfl;rfl
    unfold strV
    simp only [this]
    rfl
  · cases h
theorem fkT_agg {t:TypeId} {f:Fk} (h:fkT P t=some f):aggT P t=some false:=by
  unfold fkT at h
  unfold aggT
  split at h <;> first | (rename_i h1;rw [h1]) | (cases h)
theorem run_eqfields (n:Nat):∀ (fs:List Field) (i:Nat) (ks:List Fk) (xs ys:List Lc) (b:Bool) (vx vy:Array Value),fkTs P i fs=some ks→eqLs ks xs ys=some b →
    (∀ (j:Nat) lc,xs[j]? = some lc→∃ u,vx[i+j]? = some u∧RepL w S ρ G lc u)→(∀ (j:Nat) lc,ys[j]? = some lc→∃ u,vy[i+j]? = some u∧RepL w S ρ G lc u) →
    (forIn (m:=Sem) fs ((none,()):Option Bool×Unit) (fun f (_:Option Bool×Unit) =>
      if f.name ≠ "_" then do
        let p ← part f.type vx f.offset
        let q ← part f.type vy f.offset
        let r ← Op.equalIn (n+1) f.type p q
        if (!r)=true then pure (ForInStep.done (some false,())) else pure (ForInStep.yield (none,()))
      else pure (ForInStep.yield (none,())))).run P w=.ok (if b then none else some false,()) w
  | [],i,ks,xs,ys,b,vx,vy,hk,hb,_,_=>by
    simp only [fkTs,Option.some.injEq] at hk;subst hk
    cases xs <;> cases ys <;> simp only [eqLs] at hb <;> first | (cases hb;done) | skip
    cases hb
    rfl
  | f :: fs, i, ks, xs,ys,b,vx,vy,hk,hb,hx,hy=>by
    simp only [fkTs] at hk
    split at hk
    · rename_i hf
      split at hk
      · rename_i fk kr h1 h2
        cases hk
        cases xs with
        | nil=>simp [eqLs] at hb
        | cons x xs => cases ys with
          | nil=>simp [eqLs] at hb
          | cons y ys =>
            simp only [eqLs] at hb
            split at hb
            · rename_i p q h3 h4
              cases hb
              obtain ⟨ux,k1,k2⟩:=hx 0 x rfl
              obtain ⟨uy,k3,k4⟩:=hy 0 y rfl
              have he:=run_eqflat (P:=P) (w:=w) (S:=S) (ρ:=ρ) (G:=G) h1 n h3 k2 k4
              have hpx:(part f.type vx f.offset).run P w=.ok ux w:=by
                simp only [part,Sem.run_bind,run_aggT (fkT_agg h1),Result.andThen_ok,Bool.false_eq_true,if_false,hf.1]
                rw [Nat.add_zero] at k1;rw [k1];rfl
              have hpy:(part f.type vy f.offset).run P w=.ok uy w:=by
                simp only [part,Sem.run_bind,run_aggT (fkT_agg h1),Result.andThen_ok,Bool.false_eq_true,if_false,hf.1]
                rw [Nat.add_zero] at k3;rw [k3];rfl
              rw [List.forIn_cons]
              simp only [hf.2,ne_eq,not_false_eq_true,if_true,Sem.run_bind,hpx,hpy,he,Result.andThen_ok]
              cases p with
              | false=>rfl
              | true =>
                simp only [Bool.not_true,Bool.false_eq_true,if_false,Sem.run_pure,Result.andThen_ok,Bool.true_and]
                exact run_eqfields n fs (i+1) kr xs ys q vx vy h2 h4 (fun j lc hj=>by
                  obtain ⟨u,g1,g2⟩:=hx (j+1) lc (by simpa using hj)
                  exact ⟨u,by rw [← g1];congr 1;omega,g2⟩) (fun j lc hj=>by
                  obtain ⟨u,g1,g2⟩:=hy (j+1) lc (by simpa using hj)
                  exact ⟨u,by rw [← g1];congr 1;omega,g2⟩)
            · cases hb
      · cases hk
    · cases hk
theorem fkTs_flat:∀ {fs:List Field} {i:Nat} {ks:List Fk},fkTs P i fs=some ks→∀ f,f∈fs→∃ k,fkT P f.type=some k
  | [],i,ks,h,f,hf=>by cases hf
  | f0 :: fs,i,ks,h,f,hf=>by
    simp only [fkTs] at h
    split at h
    · split at h
      · rename_i h1 h2
        rcases List.mem_cons.1 hf with rfl | hf
        · exact ⟨_,h1⟩
        · exact fkTs_flat h2 f hf
      · cases h
    · cases h
theorem s_bbo {op:BinOp} {t t2:TypeId} {x y:Operand} {x1 y1:Od} (hr:Hr w S ρ G base) (hop:o.op=.binOp op t x y t2) (ht:P.underlying t=some .bool) (hx:RepV w S ρ G (ev x1) (a.eval x)) (hy:RepV w S ρ G (ev y1) (a.eval y))
    (hob:(semI P gl c d (.bbo op x1 y1) ev G).ob):Res P o a w S ρ G base (semI P gl c d (.bbo op x1 y1) ev G).v (apG G (semI P gl c d (.bbo op x1 y1) ev G).ef):=by
  have hex:execOp a.eval o=(do pure (Next.value (← (do eqGuard op t x y (a.eval x) (a.eval y);binOp op t (a.eval x) (a.eval y):Sem Value))):Sem Next):=by unfold execOp;rw [hop]
  generalize hO:semI P gl c d (.bbo op x1 y1) ev G=out at hob ⊢
  simp only [semI] at hO
  split at hO
  · rename_i p q e1 e2
    subst hO
    rw [e1] at hx;rw [e2] at hy
    have h1:a.eval x=.bool p:=by
      generalize a.eval x=u at hx
      cases hx with | d _ _ hx=>cases hx;rfl
    have h2:a.eval y=.bool q:=by
      generalize a.eval y=u at hy
      cases hy with | d _ _ hy=>cases hy;rfl
    have hg:(eqGuard op t x y (a.eval x) (a.eval y)).run P w=.ok () w:=by rw [h1,h2];unfold eqGuard;cases op <;> rfl
    have he:(Op.equal t (.bool p) (.bool q)).run P w=.ok (p == q) w:=by
      have hm:Op.maxDepth=9999+1:=rfl
      unfold Op.equal
      rw [hm,Op.equalIn]
      simp only [Sem.run_bind,run_underlying ht,Result.andThen_ok];rfl
    cases op <;> first | exact hob.elim | skip
    · refine Res.pure hr (exec_v (u:=.bool (p == q)) hex ?_) rep_bo
      rw [Sem.run_bind,hg,Result.andThen_ok,h1,h2]
      simp only [binOp,Sem.run_bind,he,Result.andThen_ok];rfl
    · refine Res.pure hr (exec_v (u:=.bool (!(p == q))) hex ?_) rep_bo
      rw [Sem.run_bind,hg,Result.andThen_ok,h1,h2]
      simp only [binOp,Sem.run_bind,he,Result.andThen_ok];rfl
  · subst hO;exact hob.elim
theorem cOd_c {y:Operand} {q:Vb} (h:cOd y=some (.c q)):∃ v,y=.const v:=by
  cases y <;> simp [cOd] at h ⊢
theorem s_bic {op:BinOp} {t t2:TypeId} {ms:Array (String×TypeId)} {x y:Operand} {x1 y1:Od} (hyc:∃ v,y=.const v) (hr:Hr w S ρ G base) (hop:o.op=.binOp op t x y t2) (ht:P.underlying t=some (.interface ms)) (hx:RepV w S ρ G (ev x1) (a.eval x)) (hy:RepV w S ρ G (ev y1) (a.eval y))
    (hob:(semI P gl c d (.bic op x1 y1) ev G).ob):Res P o a w S ρ G base (semI P gl c d (.bic op x1 y1) ev G).v (apG G (semI P gl c d (.bic op x1 y1) ev G).ef):=by
  have hex:execOp a.eval o=(do pure (Next.value (← (do eqGuard op t x y (a.eval x) (a.eval y);binOp op t (a.eval x) (a.eval y):Sem Value))):Sem Next):=by unfold execOp;rw [hop]
  generalize hO:semI P gl c d (.bic op x1 y1) ev G=out at hob ⊢
  simp only [semI] at hO
  split at hO
  · rename_i p e1 e2
    subst hO
    rw [e1] at hx;rw [e2] at hy
    have h2:a.eval y=.nilIface:=by
      generalize a.eval y=u at hy
      cases hy with | d _ _ hy=>cases hy;rfl
    have h1:(a.eval x=.nilIface∧nilI p=true)∨∃ tx vx,a.eval x=.iface tx vx∧nilI p=false:=by
      have hq:=hob.1
      generalize a.eval x=u at hx
      cases hx with | d _ _ hx =>
      cases hx with
      | z q=>cases q <;> first | exact .inl ⟨rfl,rfl⟩ | (simp [isIf] at hq)
      | ifa t cells vs hl hu=>exact .inr ⟨_,_,rfl,rfl⟩
      | if1 t c u hu=>exact .inr ⟨_,_,rfl,rfl⟩
      | int _ _=>simp [isIf] at hq
      | bool _=>simp [isIf] at hq
      | str _=>simp [isIf] at hq
      | sl _ _ _ _ _ _ _ _ _ _ _ _=>simp [isIf] at hq
      | ref _ _ _ _ _ _ _ _=>simp [isIf] at hq
      | clo _ _ _ _ _=>simp [isIf] at hq
      | mp _ _ _ _ _ _ _ _ _=>simp [isIf] at hq
    have hg:(eqGuard op t x y (a.eval x) (a.eval y)).run P w=.ok () w:=by
      rw [h2]
      obtain ⟨v,rfl⟩:=hyc
      rcases h1 with ⟨h1,_⟩ | ⟨tx,vx,h1,_⟩
      · rw [h1];unfold eqGuard
        have e:∀ b:Bool,(b || true)=true:=by decide
        cases op <;> first | rfl | (simp [Sem.run_pure])
      · rw [h1];unfold eqGuard;cases op <;> rfl
    have he:(Op.equal t (a.eval x) (a.eval y)).run P w=.ok (nilI p) w:=by
      have hm:Op.maxDepth=9999+1:=rfl
      unfold Op.equal
      rw [hm,Op.equalIn,h2]
      rcases h1 with ⟨h1,h3⟩ | ⟨tx,vx,h1,h3⟩ <;> (rw [h1,h3];simp only [Sem.run_bind,run_underlying ht,Result.andThen_ok];rfl)
    have hb:∀ q:BinOp,(q=.eql∨q=.neq)→(binOp q t (a.eval x) (a.eval y)).run P w=.ok (.bool (if q=.eql then nilI p else !(nilI p))) w:=by
      intro q hq
      rw [h2] at he ⊢
      rcases h1 with ⟨h1,h3⟩ | ⟨tx,vx,h1,h3⟩ <;> (rw [h1] at he ⊢;rcases hq with rfl | rfl <;> (simp only [binOp,Sem.run_bind,he,Result.andThen_ok];rfl))
    cases op <;> first | exact hob.2.elim | skip
    · refine Res.pure hr (exec_v (u:=.bool (nilI p)) hex ?_) rep_bo
      rw [Sem.run_bind,hg,Result.andThen_ok]
      exact hb .eql (.inl rfl)
    · refine Res.pure hr (exec_v (u:=.bool (!(nilI p))) hex ?_) rep_bo
      rw [Sem.run_bind,hg,Result.andThen_ok]
      exact hb .neq (.inr rfl)
  · subst hO;exact hob.elim
theorem s_bagg {op:BinOp} {t t2:TypeId} {fs:Array Field} {ks:List Fk} {x y:Operand} {x1 y1:Od} (hr:Hr w S ρ G base) (hop:o.op=.binOp op t x y t2) (ht:P.underlying t=some (.struct fs)) (hsh:P.stoodInHeld t=false) (hk:fkTs P 0 fs.toList=some ks) (hx:RepV w S ρ G (ev x1) (a.eval x)) (hy:RepV w S ρ G (ev y1) (a.eval y))
    (hob:(semI P gl c d (.bagg op ks x1 y1) ev G).ob):Res P o a w S ρ G base (semI P gl c d (.bagg op ks x1 y1) ev G).v (apG G (semI P gl c d (.bagg op ks x1 y1) ev G).ef):=by
  have hex:execOp a.eval o=(do pure (Next.value (← (do eqGuard op t x y (a.eval x) (a.eval y);binOp op t (a.eval x) (a.eval y):Sem Value))):Sem Next):=by unfold execOp;rw [hop]
  generalize hO:semI P gl c d (.bagg op ks x1 y1) ev G=out at hob ⊢
  simp only [semI] at hO
  split at hO
  · rename_i as bs e1 e2
    subst hO
    rw [e1] at hx;rw [e2] at hy
    obtain ⟨vx,hvx,hcx⟩:=hx
    obtain ⟨vy,hvy,hcy⟩:=hy
    unfold aggS at hob ⊢
    split at hob
    · rename_i p hp
      have hget:∀ {cs:List Lc} {vs:Array Value},RepC w S ρ G cs vs→∀ (j:Nat) lc,cs[j]? = some lc→∃ u,vs[0+j]? = some u∧RepL w S ρ G lc u:=by
        intro cs vs h j lc hj
        have hlt:j < vs.size:=by have:=(List.getElem?_eq_some_iff.1 hj).1;have:=h.1;omega
        have:=h.2 j lc hj
        rw [Array.getD_eq_getD_getElem?,Array.getElem?_eq_getElem hlt] at this
        exact ⟨vs[j],by rw [Nat.zero_add];exact Array.getElem?_eq_getElem hlt,this⟩
      have hfor:=run_eqfields (P:=P) (w:=w) (S:=S) (ρ:=ρ) (G:=G) 9998 fs.toList 0 ks as bs p vx vy hk hp (hget hcx) (hget hcy)
      have he:(Op.equal t (.agg vx) (.agg vy)).run P w=.ok p w:=by
        have hm:Op.maxDepth=9999+1:=rfl
        unfold Op.equal
        rw [hm,Op.equalIn]
        simp only [Sem.run_bind,run_underlying ht,Result.andThen_ok,run_program,hsh,Bool.false_eq_true,if_false,← Array.forIn_toList]
        refine (congrArg (fun r=>Result.andThen r _) hfor).trans ?_
        cases p <;> rfl
      have hgt:P.eqGuardType P.depth t=false:=by
        have hd:P.depth=(2 * (P.types.size+Made.depth))+1+1:=rfl
        rw [hd,Program.eqGuardType,ht]
        simp only
        rw [← Array.any_toList,List.any_eq_false]
        intro f hf
        obtain ⟨k,hkf⟩:=fkTs_flat hk f hf
        simp only [Bool.and_eq_true,bne_iff_ne,ne_eq,not_and,Bool.not_eq_true]
        intro _
        rw [Program.eqGuardType]
        unfold fkT at hkf
        split at hkf <;> first | (rename_i h1;rw [h1]) | (cases hkf)
      have hg:∀ (h:op=.eql∨op=.neq),(eqGuard op t x y (.agg vx) (.agg vy)).run P w=.ok () w:=by
        rintro (rfl | rfl) <;> (unfold eqGuard;simp [hgt])
      cases op <;> first | exact hob.elim | skip
      · refine Res.pure hr (exec_v (u:=.bool p) hex ?_) rep_bo
        rw [hvx,hvy,Sem.run_bind,hg (.inl rfl),Result.andThen_ok]
        simp only [binOp,Sem.run_bind,he,Result.andThen_ok];rfl
      · refine Res.pure hr (exec_v (u:=.bool (!p)) hex ?_) rep_bo
        rw [hvx,hvy,Sem.run_bind,hg (.inr rfl),Result.andThen_ok]
        simp only [binOp,Sem.run_bind,he,Result.andThen_ok];rfl
    · exact hob.elim
  · subst hO;exact hob.elim
theorem s_un {op:UnOp} {t:TypeId} {x:Operand} {x1:Od} (hr:Hr w S ρ G base) (hop:o.op=.unOp op t x) (hx:RepV w S ρ G (ev x1) (a.eval x))
    (hob:(semI P gl c d (.un op x1) ev G).ob):Res P o a w S ρ G base (semI P gl c d (.un op x1) ev G).v (apG G (semI P gl c d (.un op x1) ev G).ef):=by
  have hex:execOp a.eval o=(do pure (Next.value (← Op.unary op (a.eval x))):Sem Next):=by unfold execOp;rw [hop]
  generalize hO:semI P gl c d (.un op x1) ev G=out at hob ⊢
  simp only [semI] at hO
  split at hO
  · rename_i p e1
    rw [e1] at hx
    unfold unS at hO
    split at hO
    · subst hO;rw [rep_bool] at hx;exact Res.pure hr (exec_v hex (by rw [hx];rfl)) rep_bo
    · subst hO;rw [rep_int] at hx;exact Res.pure hr (exec_v hex (by rw [hx];rfl)) rep_i
    · subst hO;rw [rep_int] at hx;exact Res.pure hr (exec_v hex (by rw [hx];rfl)) rep_i
    · subst hO;exact hob.elim
  · subst hO;exact hob.elim
end Go.Proofs.YtedibjgdangfnaaGreatDoor.V
end

section
namespace Go.Proofs.YtedibjgdangfnaaGreatDoor.V
open Go Go.RowKit
set_option linter.unusedVariables false
set_option linter.unusedSimpArgs false
variable {P:Program} {gl:Gl} {c:Ch} {d:Option Nat} {o:Oper} {a:Act} {w w1:World} {S S1:Nat→Prop} {ρ ρ1:Nat→Option Nat} {G G1:Hf} {base:Base} {ev:Od→Va}
def SlOk (w:World) (S:Nat→Prop) (rows:List (List Sc)) (u:Value):Prop :=
  ∃ p cap b k st,u=.slice p rows.length cap∧rows.length≤cap∧(rows ≠ []→p=some ⟨b,k,none⟩)∧(∀ r,r∈rows→r.length=st)∧∀ (j:Nat) sc,rows.flatten[j]? = some sc→∃ x,w.cell? ⟨b,k+j,none⟩=some x∧RepD w S sc x
theorem SlOk.of_rep {rows:List (List Sc)} {u:Value} (h:RepD w S (.sl rows) u):SlOk w S rows u:=by
  cases h with
  | sl _ p cap st b k us hc hn0 hst ha hcell hu=>exact ⟨p,cap,b,k,st,rfl,hc,fun h=>(ha h).1,hst,fun j sc hj=>⟨us j,hcell j sc hj,hu j sc hj⟩⟩
theorem RepD.sup_nil {x:Sc} {u:Value} (h:RepD w (Sup S ρ []) x u):RepD w S x u:=by
  have e:Sup S ρ []=S:=by funext k;simp [Sup]
  rwa [e] at h
theorem rowsV_ok (hr:Hr w S ρ G base) {v:Va} {rows:List (List Sc)} {u:Value} (h:rowsV G v=some rows) (hv:RepV w S ρ G v u):SlOk w S rows u:=by
  unfold rowsV at h
  split at h
  · simp only [Option.some.injEq] at h;subst h
    cases hv with | d _ _ h=>exact .of_rep h
  · simp only [Option.some.injEq] at h;subst h
    cases hv with | full _ p h=>exact .of_rep h
  · simp only [Option.some.injEq] at h;subst h
    cases hv with | nn _ q c h=>exact .of_rep h
  · simp only [Option.some.injEq] at h;subst h
    cases hv with | nils=>exact .of_rep .nils
  · rename_i i n
    split at h
    · rename_i e hG
      split at h
      · rename_i hn
        cases hv with
        | own _ _ e1 _ hG1 hm hone hh =>
          rw [hG] at hG1;cases hG1
          obtain ⟨g1,g2,g3,g4⟩:=convR_get h
          have hb:=hr.blk i e hG
          obtain ⟨p,cap,h1,h2⟩:=hh hn
          have hlen:n=rows.length:=by omega
          subst hlen
          rcases h2 with ⟨h2,h3⟩ | ⟨b,arr,ty,fz,h2,h3,h4,h5,h6⟩
          · have:rows=[]:=List.eq_nil_of_length_eq_zero h2
            subst this
            exact ⟨p,cap,0,0,0,h1,by simp,by simp,by simp,by simp⟩
          · refine ⟨p,cap,b,0,e.st,h1,h4,fun _=>h3,g2 _ hb.1,fun j sc hj => ?_⟩
            obtain ⟨y,hy1,hy2⟩:=g4 j sc hj
            obtain ⟨x,hx1,hx2,hx3⟩:=hb.cell h2 hy1
            exact ⟨x,by rw [Nat.zero_add];exact hx1,(conv_sound hr [] 0 y sc x hy2 hx3).sup_nil⟩
      · cases h
    · cases h
  · cases h
theorem s_cvI {src dst:TypeId} {ds:TypeDesc} {k:IntKind} {x:Operand} {x1:Od} (hr:Hr w S ρ G base) (hop:o.op=.convert src dst x) (h1:P.underlying src=some ds) (h2:P.underlying dst=some (.int k)) (hx:RepV w S ρ G (ev x1) (a.eval x))
    (hob:(semI P gl c d (.cv (.toInt k) x1) ev G).ob):Res P o a w S ρ G base (semI P gl c d (.cv (.toInt k) x1) ev G).v (apG G (semI P gl c d (.cv (.toInt k) x1) ev G).ef):=by
  have hex:execOp a.eval o=(do pure (Next.value (← convert src dst (a.eval x))):Sem Next):=by unfold execOp;rw [hop]
  generalize hO:semI P gl c d (.cv (.toInt k) x1) ev G=out at hob ⊢
  simp only [semI] at hO
  split at hO <;> first | contradiction | (subst hO;exact hob.elim) | skip
  · rename_i k1 kk n e0 e1
    cases e0
    subst hO
    rw [e1,rep_int] at hx
    exact Res.pure hr (exec_v hex (by rw [hx];simp [convert,run_underlying h1,run_underlying h2,Conv.intToInt])) rep_i
theorem s_cvS {src dst:TypeId} {x:Operand} {x1:Od} (hr:Hr w S ρ G base) (hop:o.op=.convert src dst x) (h1:P.underlying src=some .string) (h2:P.underlying dst=some .string) (hx:RepV w S ρ G (ev x1) (a.eval x))
    (hob:(semI P gl c d (.cv .same x1) ev G).ob):Res P o a w S ρ G base (semI P gl c d (.cv .same x1) ev G).v (apG G (semI P gl c d (.cv .same x1) ev G).ef):=by
  have hex:execOp a.eval o=(do pure (Next.value (← convert src dst (a.eval x))):Sem Next):=by unfold execOp;rw [hop]
  generalize hO:semI P gl c d (.cv .same x1) ev G=out at hob ⊢
  simp only [semI] at hO
  split at hO <;> first | contradiction | (subst hO;exact hob.elim) | skip
  · rename_i k1 l e0 e1
    subst hO
    rw [e1,rep_str] at hx
    exact Res.pure hr (exec_v hex (by rw [hx];simp [convert,run_underlying h1,run_underlying h2,strV])) rep_st
theorem s_b2s {src dst e:TypeId} {x:Operand} {x1:Od} (hr:Hr w S ρ G base) (hop:o.op=.convert src dst x) (h1:P.underlying src=some (.slice e)) (h2:P.underlying dst=some .string) (h3:P.underlying e=some (.int .u8)) (hx:RepV w S ρ G (ev x1) (a.eval x))
    (hob:(semI P gl c d (.cv .b2s x1) ev G).ob):Res P o a w S ρ G base (semI P gl c d (.cv .b2s x1) ev G).v (apG G (semI P gl c d (.cv .b2s x1) ev G).ef):=by
  have hex:execOp a.eval o=(do pure (Next.value (← convert src dst (a.eval x))):Sem Next):=by unfold execOp;rw [hop]
  generalize hO:semI P gl c d (.cv .b2s x1) ev G=out at hob ⊢
  have hO':(match rowsV G (ev x1) with | some rows=>(⟨∀ r,r∈rows→isByteR r,.st (rows.map unbyteR),[]⟩:Out) | none=>fail)=out:=by
    rw [← hO];rfl
  clear hO
  split at hO'
  · rename_i rows hrows
    subst hO'
    obtain ⟨p,cap,b,k,st,hu,hcap,hp,hst,hcell⟩:=rowsV_ok hr hrows hx
    have hby:∃ ns:List Int,rows=ns.map fun n=>[Sc.int .u8 n]:=by
      clear hp hst hcell hcap hu hrows
      induction rows with
      | nil=>exact ⟨[],rfl⟩
      | cons r l ih =>
        obtain ⟨ns,hns⟩:=ih (fun r hr=>hob r (List.mem_cons_of_mem _ hr))
        obtain ⟨n,hn⟩:=hob r (List.mem_cons_self ..)
        exact ⟨n :: ns,by rw [hns,hn];rfl⟩
    obtain ⟨ns,rfl⟩:=hby
    have e1:(ns.map fun n=>[Sc.int .u8 n]).map unbyteR=ns.map fun n=>UInt8.ofNat n.toNat:=by rw [List.map_map];rfl
    rcases ns with _ | ⟨n0,ns⟩
    · refine Res.pure hr (exec_v (u:=strV []) hex ?_) rep_st
      rw [hu]
      rcases p with _ | p
      · simp [convert,run_underlying h1,run_underlying h2,run_underlying h3,Conv.bytesToString,strV];rfl
      · have:=run_convert_bytes_arg (P:=P) w src e h1 h3 p.block p.off 0 cap [] rfl (by intro i hi;omega) dst h2
        simp [convert,run_underlying h1,run_underlying h2,run_underlying h3,Conv.bytesToString,strV,loadCells,loadCellsFrom];rfl
    · refine Res.pure hr (exec_v (u:=strV _) hex ?_) (by simp only [e1];exact rep_st)
      rw [hu,hp (by simp)]
      have hfl:∀ (l:List Int),(l.map fun n=>[Sc.int .u8 n]).flatten=l.map fun n=>Sc.int .u8 n:=by intro l;induction l with | nil=>rfl | cons x l ih=>simp [ih]
      have:=run_convert_bytes_arg (P:=P) w src e h1 h3 b k (n0 :: ns).length cap (n0 :: ns) rfl (by
        intro i hi
        obtain ⟨y,hy1,hy2⟩:=hcell i (.int .u8 ((n0 :: ns).getD i 0)) (by rw [hfl,List.getElem?_map,List.getD,List.getElem?_eq_getElem hi];rfl)
        cases hy2
        exact hy1) dst h2
      rw [List.length_map]
      exact this
  · subst hO';exact hob.elim
theorem rep_cells {v:Va} {u:Value} (hb:isB v) (hv:RepV w S ρ G v u):RepC w S ρ G (cellsV v) u.cells:=by
  cases v with
  | b x =>
    cases x with
    | s l =>
      have h1:RepL w S ρ G l u:=hv
      have hc:u.cells = #[u]:=by have:=h1.one;cases u <;> first | rfl | (simp [Value.oneCell'] at this)
      rw [hc]
      refine ⟨rfl,fun j lc hj => ?_⟩
      cases j with
      | zero=>simp only [cellsV,List.getElem?_cons_zero,Option.some.injEq] at hj;subst hj;exact h1
      | succ j=>simp [cellsV] at hj
    | agg cs =>
      obtain ⟨vs,rfl,h2⟩:=hv
      exact h2
  | tup l=>exact hb.elim
  | gv g x=>exact hb.elim
  | dead=>exact hb.elim
  | meth name x=>exact hb.elim
theorem unD_rep (hr:Hr w S ρ G base) {cs:List Lc} {z:List Sc} {vs:Array Value} (h:unD cs=some z) (hv:RepC w S ρ G cs vs):vs.size=z.length∧∀ (j:Nat) sc,z[j]? = some sc→RepD w S sc (vs.getD j undef):=by
  obtain ⟨h1,h2⟩:=convC_get h
  refine ⟨by rw [hv.1,h1],fun j sc hj => ?_⟩
  obtain ⟨x,hx1,hx2⟩:=h2 j sc hj
  have:=hv.2 j x hx1
  cases x with
  | d y=>simp only [conv,Option.some.injEq] at hx2;subst hx2;cases this with | d _ _ h=>exact h
  | full r=>simp only [conv,Option.some.injEq] at hx2;subst hx2;generalize hu:vs.getD j undef=u at this ⊢;cases this with | full _ p h=>exact h
  | nn r=>simp only [conv,Option.some.injEq] at hx2;subst hx2;generalize hu:vs.getD j undef=u at this ⊢;cases this with | nn _ q c h=>exact h
  | nils=>simp only [conv,Option.some.injEq] at hx2;subst hx2;generalize hu:vs.getD j undef=u at this ⊢;cases this with | nils=>exact .nils
  | own i m=>simp [conv] at hx2
  | ptr i m q r=>simp [conv] at hx2
  | clo f l=>simp [conv] at hx2
theorem s_mkif {t:TypeId} {dt:TypeDesc} {x:Operand} {x1:Od} (hr:Hr w S ρ G base) (hop:o.op=.makeInterface t x) (h1:P.underlying t=some dt) (h2:∀ ms,dt ≠ .interface ms) (hx:RepV w S ρ G (ev x1) (a.eval x))
    (hob:(semI P gl c d (.mkif t x1) ev G).ob):Res P o a w S ρ G base (semI P gl c d (.mkif t x1) ev G).v (apG G (semI P gl c d (.mkif t x1) ev G).ef):=by
  have hex:execOp a.eval o=(do pure (Next.value (← Instr.makeInterface t (a.eval x))):Sem Next):=by unfold execOp;rw [hop]
  have hrun:(Instr.makeInterface t (a.eval x)).run P w=.ok (.iface t (a.eval x)) w:=by
    simp only [Instr.makeInterface,Sem.run_bind,run_underlying h1,Result.andThen_ok]
    cases dt <;> first | rfl | exact absurd rfl (h2 _)
  generalize hO:semI P gl c d (.mkif t x1) ev G=out at hob ⊢
  simp only [semI] at hO
  split at hO
  · rename_i y e1
    split at hO
    · rename_i z hz
      subst hO
      rw [e1] at hx
      exact Res.pure hr (exec_v hex hrun) (.d _ _ (.if1 t z _ (conv_sound hr [] 0 y z _ hz hx).sup_nil))
    · subst hO;exact hob.elim
  · rename_i cs e1
    split at hO
    · rename_i z hz
      subst hO
      rw [e1] at hx
      obtain ⟨vs,hvs,hc⟩:=hx
      obtain ⟨h3,h4⟩:=unD_rep hr hz hc
      rw [hvs] at hrun
      exact Res.pure hr (exec_v hex (by rw [hvs];exact hrun)) (.d _ _ (.ifa t z vs h3 h4))
    · subst hO;exact hob.elim
  · subst hO;exact hob.elim
theorem cOds_get:∀ {xs:List Operand} {l:List Od},cOds xs=some l→l.length=xs.length∧∀ (j:Nat) od,l[j]? = some od→∃ x,xs[j]? = some x∧cOd x=some od
  | [],l,h=>by simp only [cOds,Option.some.injEq] at h;subst h;simp
  | v :: vs,l,h=>by
    simp only [cOds] at h
    split at h
    · rename_i x r h1 h2
      simp only [Option.some.injEq] at h;subst h
      obtain ⟨h3,h4⟩:=cOds_get h2
      refine ⟨by simp [h3],fun j lc hj => ?_⟩
      cases j with
      | zero=>simp only [List.getElem?_cons_zero,Option.some.injEq] at hj;subst hj;exact ⟨v,rfl,h1⟩
      | succ j=>exact h4 j lc (by simpa using hj)
    · cases h
theorem s_mkfn {f:FuncId} {first caps:Array Operand} {l:List Od} (hr:Hr w S ρ G base) (hop:o.op=.makeFunc (.func f) first caps) (hf:first.size=0) (hl:cOds caps.toList=some l) (hev:EvOk w S ρ G ev a l)
    (hob:(semI P gl c d (.mkfn f l) ev G).ob):Res P o a w S ρ G base (semI P gl c d (.mkfn f l) ev G).v (apG G (semI P gl c d (.mkfn f l) ev G).ef):=by
  have hfe:first = #[]:=Array.eq_empty_of_size_eq_zero hf
  subst hfe
  have hex:execOp a.eval o=(do pure (Next.value (← Instr.makeFunc (.func f) ((#[]:Array Operand).map a.eval) (caps.map a.eval))):Sem Next):=by unfold execOp;rw [hop]
  refine Res.pure hr (exec_v (u:=.func (.func f) #[] (caps.map a.eval)) hex (by simp [Instr.makeFunc])) ?_
  obtain ⟨h1,h2⟩:=cOds_get hl
  refine RepL.clo f _ _ (by simp [h1]) (fun j sc hj => ?_)
  rw [List.getElem?_map,Option.map_eq_some_iff] at hj
  obtain ⟨od,hod,rfl⟩:=hj
  obtain ⟨x,hx1,hx2⟩:=h2 j od hod
  have hmem:=List.mem_of_getElem? hod
  have:=hev x od hmem hx2
  obtain ⟨lc,hlc⟩:=hob od hmem
  rw [hlc] at this
  have e1:(caps.map a.eval).getD j undef=a.eval x:=by
    rw [Array.getElem?_toList] at hx1
    simp [Array.getD_eq_getD_getElem?,hx1]
  rw [e1]
  simp only [hlc,lcOf]
  exact this
theorem s_fadr {s:TypeId} {fs:Array Field} {f:Nat} {fd:Field} {n:Nat} {x:Operand} {x1:Od} (hr:Hr w S ρ G base) (hop:o.op=.fieldAddr s x f) (h1:P.underlying s=some (.struct fs)) (h2:fs[f]? = some fd) (h3:sizeT P fd.type=some n) (h4:¬ n=0) (hx:RepV w S ρ G (ev x1) (a.eval x))
    (hob:(semI P gl c d (.fadr fd.offset x1) ev G).ob):Res P o a w S ρ G base (semI P gl c d (.fadr fd.offset x1) ev G).v (apG G (semI P gl c d (.fadr fd.offset x1) ev G).ef):=by
  have hex:execOp a.eval o=(do pure (Next.value (← Instr.fieldAt s (a.eval x) f)):Sem Next):=by unfold execOp;rw [hop]
  have hrun:∀ b k,a.eval x=.pointer (some ⟨b,k,none⟩)→(Instr.fieldAt s (a.eval x) f).run P w=.ok (.pointer (some ⟨b,k+fd.offset,none⟩)) w:=by
    intro b k hk
    simp [hk,Instr.fieldAt,run_underlying h1,h2,Instr.sureAddr,fieldPlace,run_sizeT h3,h4,add_none]
  generalize hO:semI P gl c d (.fadr fd.offset x1) ev G=out at hob ⊢
  simp only [semI] at hO
  split at hO
  · rename_i i m r q e1
    rw [e1] at hx
    split at hO
    · rename_i e hG
      subst hO
      cases hx with
      | ptr _ _ _ _ e2 _ hG2 hm hone hh =>
        rw [hG] at hG2;cases hG2
        obtain ⟨b,hb,h5⟩:=hh hob
        refine Res.pure hr (exec_v hex (hrun _ _ h5)) (.ptr i m r (q+fd.offset) e _ hG hm rfl (fun _=>⟨b,hb,by rw [Nat.add_assoc]⟩))
    · subst hO;exact hob.elim
  · rename_i cs q e1
    subst hO
    rw [e1] at hx
    cases hx with | d _ _ hx =>
    generalize hu:a.eval x=u at hx
    cases hx with
    | ref _ _ b k us hS hcell hu2 =>
      refine Res.pure hr (exec_v hex (hrun _ _ hu)) (.d _ _ ?_)
      rw [Nat.add_assoc]
      exact .ref cs (q+fd.offset) b k us hS hcell hu2
  · subst hO;exact hob.elim
end Go.Proofs.YtedibjgdangfnaaGreatDoor.V
end

section
namespace Go.Proofs.YtedibjgdangfnaaGreatDoor.V
open Go Go.RowKit
set_option linter.unusedVariables false
set_option linter.unusedSimpArgs false
variable {P:Program} {gl:Gl} {c:Ch} {d:Option Nat} {o:Oper} {a:Act} {w w1:World} {S S1:Nat→Prop} {ρ ρ1:Nat→Option Nat} {G G1:Hf} {base:Base} {ev:Od→Va}
theorem run_bound {k:IntKind} {n:Int} {y:Nat} {code:BoundsCode} (h0:0≤n) (h1:n≤y):(Instr.sliceBound (.int k n) y code).run P w=.ok n.toNat w:=by
  simp [Instr.sliceBound,asIntOf,h0,h1]
theorem cOo_some {x:Option Operand} {y:Option Od} (h:cOo x=some y):(x=none∧y=none)∨∃ p q,x=some p∧y=some q∧cOd p=some q:=by
  cases x with
  | none=>left;simp only [cOo,Option.some.injEq] at h;exact ⟨rfl,h.symm⟩
  | some p=>right;simp only [cOo,Option.map_eq_some_iff] at h;obtain ⟨q,h1,rfl⟩:=h;exact ⟨p,q,rfl,rfl,h1⟩
theorem bound_val {x:Option Operand} {y:Option Od} {l:List Od} {dflt n:Int} (hc:cOo x=some y) (hev:EvOk w S ρ G ev a l) (hl:∀ q,y=some q→q∈l) (h:boundV ev dflt y=some n):(x.map a.eval=none∧n=dflt)∨∃ k,x.map a.eval=some (.int k n):=by
  rcases cOo_some hc with ⟨rfl,rfl⟩ | ⟨p,q,rfl,rfl,hpq⟩
  · left;simp only [boundV,Option.some.injEq] at h;exact ⟨rfl,h.symm⟩
  · right
    obtain ⟨k,hk⟩:=intV_rep (w:=w) (S:=S) (ρ:=ρ) (G:=G) h (hev p q (hl q rfl) hpq)
    exact ⟨k,by simp [hk]⟩
theorem run_bounds2 {isS:Bool} {len cap:Nat} {lo hi:Option Value} {A B:Int} (hlo:(lo=none∧A=0)∨∃ k,lo=some (.int k A)) (hhi:(hi=none∧B=(len:Int))∨∃ k,hi=some (.int k B)) (h0:0≤A) (h1:A≤B) (h2:B≤len) (h3:len≤cap) :
    (Instr.sliceBounds isS len cap lo hi none).run P w=.ok (A.toNat,B.toNat,cap) w:=by
  rcases hlo with ⟨rfl,rfl⟩ | ⟨k1,rfl⟩ <;> rcases hhi with ⟨rfl,rfl⟩ | ⟨k2,rfl⟩
  · simp [Instr.sliceBounds]
  · simp [Instr.sliceBounds,run_bound (P:=P) (w:=w) (y:=cap) (show 0≤B by omega) (show B≤(cap:Int) by omega)]
  · simp [Instr.sliceBounds,run_bound (P:=P) (w:=w) (y:=len) h0 h1]
  · have e:A≤(B.toNat:Int):=by omega
    simp [Instr.sliceBounds,run_bound (P:=P) (w:=w) (y:=cap) (show 0≤B by omega) (show B≤(cap:Int) by omega),run_bound (P:=P) (w:=w) (y:=B.toNat) h0 e]
theorem run_bounds3 {isS:Bool} {len cap:Nat} {lo hi:Option Value} {k:IntKind} {A B:Int} (hlo:(lo=none∧A=0)∨∃ k,lo=some (.int k A)) (hhi:∃ k,hi=some (.int k B)) (h0:0≤A) (h1:A≤B) (h2:B≤len) (h3:len≤cap) :
    (Instr.sliceBounds isS len cap lo hi (some (.int k B))).run P w=.ok (A.toNat,B.toNat,B.toNat) w:=by
  obtain ⟨k2,rfl⟩:=hhi
  have e1:B≤(B.toNat:Int):=by omega
  have e:A≤(B.toNat:Int):=by omega
  rcases hlo with ⟨rfl,rfl⟩ | ⟨k1,rfl⟩
  · simp [Instr.sliceBounds,run_bound (P:=P) (w:=w) (y:=cap) (show 0≤B by omega) (show B≤(cap:Int) by omega),run_bound (P:=P) (w:=w) (y:=B.toNat) (show 0≤B by omega) e1]
  · simp [Instr.sliceBounds,run_bound (P:=P) (w:=w) (y:=cap) (show 0≤B by omega) (show B≤(cap:Int) by omega),run_bound (P:=P) (w:=w) (y:=B.toNat) (show 0≤B by omega) e1,run_bound (P:=P) (w:=w) (y:=B.toNat) h0 e]
theorem flatten_drop {α:Type} {rows:List (List α)} {st:Nat} (h:∀ r,r∈rows→r.length=st):∀ n,(rows.drop n).flatten=rows.flatten.drop (n * st):=by
  induction rows with
  | nil=>intro n;simp
  | cons x l ih =>
    intro n
    cases n with
    | zero=>simp
    | succ n =>
      have hx:=h x (List.mem_cons_self ..)
      have e:(n+1) * st=x.length+n * st:=by rw [hx,Nat.add_mul];omega
      rw [List.drop_succ_cons,ih (fun r hr=>h r (List.mem_cons_of_mem _ hr)),List.flatten_cons,e,← List.drop_drop,List.drop_left]
theorem flatten_take_get {α:Type} {rows:List (List α)} (n j:Nat) (s:α) (h:(rows.take n).flatten[j]? = some s):rows.flatten[j]? = some s:=by
  have e:rows.flatten=(rows.take n).flatten++(rows.drop n).flatten:=by rw [← List.flatten_append,List.take_append_drop]
  rw [e,List.getElem?_append_left (List.getElem?_eq_some_iff.1 h).1,h]
theorem RepD.cut {rows:List (List Sc)} {st A B:Nat} {u:Value} (h:RepD w S (.sl rows) u) (hst:∀ r,r∈rows→r.length=st) (hA:A≤B) (hB:B≤rows.length) :
    ∃ p n cap,u=.slice p n cap∧rows.length=n∧n≤cap∧∀ m,B≤m→m≤cap→RepD w S (.sl ((rows.take B).drop A)) (.slice (if m=A then p else p.map (·.add (A * st))) (B - A) (m - A)):=by
  cases h with
  | sl _ p cap st0 b k us hc hn0 hst0 ha hcell hu =>
    refine ⟨p,rows.length,cap,rfl,rfl,hc,fun m hm1 hm2 => ?_⟩
    have hlen:((rows.take B).drop A).length=B - A:=by rw [List.length_drop,List.length_take];omega
    have hflat:∀ (j:Nat) sc,((rows.take B).drop A).flatten[j]? = some sc→rows.flatten[A * st+j]? = some sc:=by
      intro j sc hj
      rw [flatten_drop (st:=st) (fun r hr=>hst r (List.mem_of_mem_take hr)),List.getElem?_drop] at hj
      exact flatten_take_get B _ sc hj
    have := RepD.sl (w:=w) (S:=S) ((rows.take B).drop A) (if m=A then p else p.map (·.add (A * st))) (m - A) st b (k+A * st) (fun j=>us (A * st+j)) (by omega) (fun h=>by
        split at h
        · omega
        · cases p with
          | none=>have:=hn0 rfl;omega
          | some q=>cases h)
      (fun r hr=>hst r (List.mem_of_mem_take (List.mem_of_mem_drop hr))) (fun hne=>by
        have hpos:0 < B - A:=by rw [← hlen];exact List.length_pos_iff.2 hne
        have hrne:rows ≠ []:=by rintro rfl;simp at hB;omega
        obtain ⟨h1,h2⟩:=ha hrne
        refine ⟨?_,h2⟩
        rw [if_neg (by omega),h1]
        simp [add_none]) (fun j sc hj=>by rw [Nat.add_assoc];exact hcell _ sc (hflat j sc hj)) (fun j sc hj=>hu _ sc (hflat j sc hj))
    rw [hlen] at this
    exact this
theorem s_slc {t:TypeId} {dt:TypeDesc} {k:Xk} {x:Operand} {lo hi mx:Option Operand} {x1:Od} {lo1 hi1 mx1:Option Od} (hr:Hr w S ρ G base) (hop:o.op=.slice t x lo hi mx) (ht:P.underlying t=some dt) (hna:∀ n e,dt ≠ .array n e) (hk:xkT P false t=some k)
    (hx0:cOd x=some x1) (hlo:cOo lo=some lo1) (hhi:cOo hi=some hi1) (hmx:cOo mx=some mx1) (hev:EvOk w S ρ G ev a (opsOf (.slc k x1 lo1 hi1 mx1)))
    (hob:(semI P gl c d (.slc k x1 lo1 hi1 mx1) ev G).ob):Res P o a w S ρ G base (semI P gl c d (.slc k x1 lo1 hi1 mx1) ev G).v (apG G (semI P gl c d (.slc k x1 lo1 hi1 mx1) ev G).ef):=by
  have hex:execOp a.eval o=(do pure (Next.value (← Instr.sliceAt t (a.eval x) (lo.map a.eval) (hi.map a.eval) (mx.map a.eval))):Sem Next):=by unfold execOp;rw [hop]
  have hat:(Instr.sliceAt t (a.eval x) (lo.map a.eval) (hi.map a.eval) (mx.map a.eval)).run P w=(Instr.slice t (a.eval x) (lo.map a.eval) (hi.map a.eval) (mx.map a.eval)).run P w:=by
    (simp only [Instr.sliceAt,Sem.run_bind,run_underlying ht,Result.andThen_ok]) <;> (cases dt <;> first | rfl | exact absurd rfl (hna _ _))
  have hx:RepV w S ρ G (ev x1) (a.eval x):=hev x x1 (by simp [opsOf]) hx0
  have hL:∀ q,lo1=some q→q∈opsOf (.slc k x1 lo1 hi1 mx1):=by intro q hq;subst hq;simp [opsOf]
  have hH:∀ q,hi1=some q→q∈opsOf (.slc k x1 lo1 hi1 mx1):=by intro q hq;subst hq;simp [opsOf]
  have hM:∀ q,mx1=some q→q∈opsOf (.slc k x1 lo1 hi1 mx1):=by intro q hq;subst hq;simp [opsOf]
  have hslice:∀ e st rows,k=.sl st→P.underlying t=some (.slice e)→sizeT P e=some st→RepD w S (.sl rows) (a.eval x)→∀ A B:Int,0≤A→A≤B→B≤rows.length→(∀ r,r∈rows→r.length=st) →
      ((lo.map a.eval=none∧A=0)∨∃ k,lo.map a.eval=some (.int k A)) →
      (mx.map a.eval=none→((hi.map a.eval=none∧B=(rows.length:Int))∨∃ k,hi.map a.eval=some (.int k B))→∃ u,(Instr.slice t (a.eval x) (lo.map a.eval) (hi.map a.eval) (mx.map a.eval)).run P w=.ok u w∧RepD w S (.sl ((rows.take B.toNat).drop A.toNat)) u) ∧
      ((∃ k,mx.map a.eval=some (.int k B))→(∃ k,hi.map a.eval=some (.int k B))→∃ q,(Instr.slice t (a.eval x) (lo.map a.eval) (hi.map a.eval) (mx.map a.eval)).run P w=.ok (.slice q (B.toNat - A.toNat) (B.toNat - A.toNat)) w∧RepD w S (.sl ((rows.take B.toNat).drop A.toNat)) (.slice q (B.toNat - A.toNat) (B.toNat - A.toNat))):=by
    intro e st rows hk1 hte hse hrep A B h0 h1 h2 hst hA
    obtain ⟨p,n,cap,hu,hn,hcap,hcut⟩:=hrep.cut hst (show A.toNat≤B.toNat by omega) (show B.toNat≤rows.length by omega)
    constructor
    · intro hm hB
      refine ⟨_,?_,hcut cap (by omega) (Nat.le_refl _)⟩
      rw [hm,hu]
      have:=run_bounds2 (P:=P) (w:=w) (isS:=true) (len:=n) (cap:=cap) hA (by rw [← hn];exact hB) h0 h1 (by omega) hcap
      simp [Instr.slice,run_underlying hte,this,run_sizeT hse]
    · rintro ⟨k1,hm⟩ hB
      refine ⟨_,?_,hcut B.toNat (Nat.le_refl _) (by omega)⟩
      rw [hm,hu]
      have:=run_bounds3 (P:=P) (w:=w) (isS:=true) (len:=n) (cap:=cap) (k:=k1) hA hB h0 h1 (by omega) hcap
      simp [Instr.slice,run_underlying hte,this,run_sizeT hse]
  have hkt:∀ st,k=.sl st→∃ e,P.underlying t=some (.slice e)∧sizeT P e=some st:=by
    intro st hk1
    subst hk1
    rw [xkT,ht] at hk
    cases dt <;> first | exact absurd rfl (hna _ _) | (simp at hk;done) | skip
    simp at hk
    exact ⟨_,ht,hk⟩
  have hmxv:∀ m,mx1.map (fun m=>intV (ev m))=some (some m)→∃ k,mx.map a.eval=some (.int k m):=by
    intro m hm
    obtain ⟨q,hq,hq2⟩:=Option.map_eq_some_iff.1 hm
    rcases cOo_some hmx with ⟨_,h2⟩ | ⟨p1,q1,h1,h2,h3⟩
    · rw [h2] at hq;cases hq
    · have hq3:q=q1:=by rw [h2] at hq;cases hq;rfl
      rw [hq3] at hq2
      obtain ⟨k,hk⟩:=intV_rep (w:=w) (S:=S) (ρ:=ρ) (G:=G) hq2 (hev p1 q1 (hM q1 h2) h3)
      exact ⟨k,by rw [h1];simp [hk]⟩
  have hmxn:mx1.map (fun m=>intV (ev m))=none→mx.map a.eval=none:=by
    intro hm
    rcases cOo_some hmx with ⟨h1,_⟩ | ⟨p1,q1,_,h2,h3⟩
    · rw [h1];rfl
    · rw [h2] at hm;simp at hm
  generalize hO:semI P gl c d (.slc k x1 lo1 hi1 mx1) ev G=out at hob ⊢
  simp only [semI] at hO
  split at hO
  · rename_i l e1
    rw [e1,rep_str] at hx
    split at hO
    · rename_i A B hA hB
      subst hO
      obtain ⟨h0,h1,h2,h3⟩:=hob
      have hstr:P.underlying t=some .string:=by
        rw [xkT,ht] at hk
        cases dt <;> first | exact absurd rfl (hna _ _) | exact ht | (simp at hk;done)
      have hmn:mx.map a.eval=none:=hmxn (by cases mx1 <;> simp at h3 ⊢)
      have:=run_bounds2 (P:=P) (w:=w) (isS:=false) (len:=l.length) (cap:=l.length) (bound_val hlo hev hL hA) (bound_val hhi hev hH hB) h0 h1 h2 (Nat.le_refl _)
      refine Res.pure hr (exec_v (u:=strV ((l.take B.toNat).drop A.toNat)) hex ?_) rep_st
      rw [hat,hmn,hx]
      have e2:(⟨⟨l⟩⟩:ByteArray).size=l.length:=rfl
      have e3:(⟨⟨l⟩⟩:ByteArray).extract A.toNat B.toNat=⟨⟨(l.take B.toNat).drop A.toNat⟩⟩:=by
        apply ByteArray.ext
        rw [ByteArray.data_extract]
        apply Array.ext'
        simp [List.extract,List.drop_take]
      simp [Instr.slice,run_underlying hstr,strV,e2,this,e3]
    · subst hO;exact hob.elim
  · rename_i st rows e1
    rw [e1] at hx
    obtain ⟨e,he,hse⟩:=hkt st rfl
    have hx2:RepD w S (.sl rows) (a.eval x):=by cases hx with | d _ _ h=>exact h
    split at hO
    · rename_i A B hA hB hm
      subst hO
      obtain ⟨h0,h1,h2,h3⟩:=hob
      obtain ⟨u,h4,h5⟩:=(hslice e st rows rfl he hse hx2 A B h0 h1 h2 h3 (bound_val hlo hev hL hA)).1 (hmxn hm) (bound_val hhi hev hH hB)
      exact Res.pure hr (exec_v hex (by rw [hat];exact h4)) (.d _ _ h5)
    · rename_i A B m hA hB hm
      subst hO
      obtain ⟨hsm,h0,h1,h2,rfl,h3⟩:=hob
      have hm2:=hmxv _ hm
      have hi2:∃ k,hi.map a.eval=some (.int k m):=by
        rcases bound_val hhi hev hH hB with ⟨h4,h5⟩ | h4
        · rcases cOo_some hhi with ⟨_,h6⟩ | ⟨p1,q1,h6,_,_⟩
          · rw [h6] at hsm;cases hsm
          · rw [h6] at h4;simp at h4
        · exact h4
      obtain ⟨q,h4,h5⟩:=(hslice e st rows rfl he hse hx2 A m h0 h1 h2 h3 (bound_val hlo hev hL hA)).2 hm2 hi2
      have hlen:((rows.take m.toNat).drop A.toNat).length=m.toNat - A.toNat:=by rw [List.length_drop,List.length_take];omega
      refine Res.pure hr (exec_v hex (by rw [hat];exact h4)) ?_
      rw [← hlen] at h5 ⊢
      exact RepL.full _ q h5
    · subst hO;exact hob.elim
  · rename_i st rows e1
    rw [e1] at hx
    obtain ⟨e,he,hse⟩:=hkt st rfl
    have hx2:RepD w S (.sl rows) (a.eval x):=by
      generalize a.eval x=u at hx
      cases hx with | full _ p h=>exact h
    split at hO
    · rename_i A B hA hB hm
      subst hO
      obtain ⟨h0,h1,h2,h3⟩:=hob
      obtain ⟨u,h4,h5⟩:=(hslice e st rows rfl he hse hx2 A B h0 h1 h2 h3 (bound_val hlo hev hL hA)).1 (hmxn hm) (bound_val hhi hev hH hB)
      exact Res.pure hr (exec_v hex (by rw [hat];exact h4)) (.d _ _ h5)
    · rename_i A B m hA hB hm
      subst hO
      obtain ⟨hsm,h0,h1,h2,rfl,h3⟩:=hob
      have hm2:=hmxv _ hm
      have hi2:∃ k,hi.map a.eval=some (.int k m):=by
        rcases bound_val hhi hev hH hB with ⟨h4,h5⟩ | h4
        · rcases cOo_some hhi with ⟨_,h6⟩ | ⟨p1,q1,h6,_,_⟩
          · rw [h6] at hsm;cases hsm
          · rw [h6] at h4;simp at h4
        · exact h4
      obtain ⟨q,h4,h5⟩:=(hslice e st rows rfl he hse hx2 A m h0 h1 h2 h3 (bound_val hlo hev hL hA)).2 hm2 hi2
      have hlen:((rows.take m.toNat).drop A.toNat).length=m.toNat - A.toNat:=by rw [List.length_drop,List.length_take];omega
      refine Res.pure hr (exec_v hex (by rw [hat];exact h4)) ?_
      rw [← hlen] at h5 ⊢
      exact RepL.full _ q h5
    · subst hO;exact hob.elim
  · subst hO;exact hob.elim
end Go.Proofs.YtedibjgdangfnaaGreatDoor.V
end

section
namespace Go.Proofs.YtedibjgdangfnaaGreatDoor.V
open Go Go.RowKit
set_option linter.unusedVariables false
set_option linter.unusedSimpArgs false
variable {P:Program} {gl:Gl} {c:Ch} {d:Option Nat} {o:Oper} {a:Act} {w w1:World} {S S1:Nat→Prop} {ρ ρ1:Nat→Option Nat} {G G1:Hf} {base:Base} {ev:Od→Va}
theorem xkT_sl {addr:Bool} {t:TypeId} {st:Nat} (h:xkT P addr t=some (.sl st)):∃ e,P.underlying t=some (.slice e)∧sizeT P e=some st:=by
  unfold xkT at h
  split at h
  · cases h
  · rename_i e he
    obtain ⟨s,hs,h⟩:=Option.map_eq_some_iff.1 h
    cases h
    exact ⟨e,he,hs⟩
  · split at h
    · obtain ⟨s,hs,h⟩:=Option.map_eq_some_iff.1 h;cases h
    · split at h <;> cases h
  · cases h
theorem xkT_ptr {t:TypeId} {n st:Nat} (h:xkT P true t=some (.ptr n st)):∃ e,P.underlying t=some (.array n e)∧sizeT P e=some st:=by
  unfold xkT at h
  split at h
  · cases h
  · obtain ⟨s,hs,h⟩:=Option.map_eq_some_iff.1 h;cases h
  · rename_i m e he
    obtain ⟨s,hs,h⟩:=Option.map_eq_some_iff.1 h
    cases h
    exact ⟨e,he,hs⟩
  · cases h
theorem xkT_arr {t:TypeId} {n st:Nat} {g:Bool} (h:xkT P false t=some (.arr n st g)):∃ e,P.underlying t=some (.array n e)∧sizeT P e=some st∧aggT P e=some g:=by
  unfold xkT at h
  split at h
  · cases h
  · obtain ⟨s,hs,h⟩:=Option.map_eq_some_iff.1 h;cases h
  · rename_i m e he
    simp only [Bool.false_eq_true,if_false] at h
    split at h
    · rename_i s g1 hs hg
      cases h
      exact ⟨e,he,hs,hg⟩
    · cases h
  · cases h
theorem xkT_str {addr:Bool} {t:TypeId} (h:xkT P addr t=some .str):P.underlying t=some .string:=by
  unfold xkT at h
  split at h
  · assumption
  · obtain ⟨s,hs,h⟩:=Option.map_eq_some_iff.1 h;cases h
  · split at h
    · obtain ⟨s,hs,h⟩:=Option.map_eq_some_iff.1 h;cases h
    · split at h <;> cases h
  · cases h
theorem RepD.elem {rows:List (List Sc)} {st i:Nat} {u:Value} (h:RepD w S (.sl rows) u) (hst:∀ r,r∈rows→r.length=st) (hi:i < rows.length) :
    ∃ b k cap,u=.slice (some ⟨b,k,none⟩) rows.length cap∧RepD w S (.ref (rows.getD i []) 0) (.pointer (some ⟨b,k+i * st,none⟩)):=by
  cases h with
  | sl _ p cap st0 b k us hc hn0 hst0 ha hcell hu =>
    have hne:rows ≠ []:=by rintro rfl;simp at hi
    obtain ⟨rfl,hS⟩:=ha hne
    have hrow:rows[i]? = some (rows.getD i []):=by simp [List.getD,List.getElem?_eq_getElem hi]
    have hl:(rows.getD i []).length=st:=hst _ (List.mem_of_getElem? hrow)
    have hfl:∀ (j:Nat) sc,(rows.getD i [])[j]? = some sc→rows.flatten[i * st+j]? = some sc:=by
      intro j sc hj
      have hj1:j < st:=by have:=(List.getElem?_eq_some_iff.1 hj).1;omega
      rw [flatten_row hst i j _ hrow hj1,hj]
    refine ⟨b,k,cap,rfl,?_⟩
    have:=RepD.ref (w:=w) (S:=S) (rows.getD i []) 0 b (k+i * st) (fun j=>us (i * st+j)) hS (fun j sc hj=>by rw [Nat.add_assoc];exact hcell _ sc (hfl j sc hj)) (fun j sc hj=>hu _ sc (hfl j sc hj))
    exact this
theorem s_iadr {t:TypeId} {k:Xk} {x ix:Operand} {x1 i1:Od} (hr:Hr w S ρ G base) (hop:o.op=.indexAddr t x ix) (hk:xkT P true t=some k) (hx:RepV w S ρ G (ev x1) (a.eval x)) (hi:RepV w S ρ G (ev i1) (a.eval ix))
    (hob:(semI P gl c d (.iadr k x1 i1) ev G).ob):Res P o a w S ρ G base (semI P gl c d (.iadr k x1 i1) ev G).v (apG G (semI P gl c d (.iadr k x1 i1) ev G).ef):=by
  have hex:execOp a.eval o=(do pure (Next.value (← Instr.indexAt t (a.eval x) (a.eval ix))):Sem Next):=by unfold execOp;rw [hop]
  generalize hO:semI P gl c d (.iadr k x1 i1) ev G=out at hob ⊢
  have hsl:∀ st rows i,k=.sl st→RepD w S (.sl rows) (a.eval x)→intV (ev i1)=some i→0≤i→i < rows.length→(∀ r,r∈rows→r.length=st)→Res P o a w S ρ G base (.b (.s (.d (.ref (rows.getD i.toNat []) 0)))) G:=by
    intro st rows i hk1 h hi1 h0 h1 hst
    subst hk1
    obtain ⟨e,he,hse⟩:=xkT_sl hk
    obtain ⟨kk,hi2⟩:=intV_rep hi1 hi
    obtain ⟨b,q,cap,hu,hrep⟩:=h.elem hst (show i.toNat < rows.length by omega)
    refine Res.pure hr (exec_v hex ?_) (.d _ _ hrep)
    rw [hu,hi2]
    simp [Instr.indexAt,asIntOf,run_underlying he,h0,h1,run_sizeT hse,add_none]
  simp only [semI] at hO
  split at hO
  · rename_i st rows i e1 e2
    subst hO
    rw [e1] at hx
    obtain ⟨h0,h1,h2⟩:=hob
    exact hsl st rows i rfl (by cases hx with | d _ _ h=>exact h) e2 h0 h1 h2
  · rename_i st rows i e1 e2
    subst hO
    rw [e1] at hx
    obtain ⟨h0,h1,h2⟩:=hob
    refine hsl st rows i rfl ?_ e2 h0 h1 h2
    generalize a.eval x=u at hx
    cases hx with | full _ p h=>exact h
  · rename_i st j n i e1 e2
    rw [e1] at hx
    split at hO
    · rename_i e hG
      subst hO
      obtain ⟨h0,h1,h2,h3⟩:=hob
      obtain ⟨et,he,hse⟩:=xkT_sl hk
      obtain ⟨kk,hi2⟩:=intV_rep e2 hi
      cases hx with
      | own _ _ e3 _ hG1 hm hone hh =>
        rw [hG] at hG1;cases hG1
        obtain ⟨p,cap,h4,h5⟩:=hh h2
        rcases h5 with ⟨h5,h6⟩ | ⟨b,arr,ty,fz,h5,h6,h7,h8,h9⟩
        · omega
        · refine Res.pure hr (exec_v (u:=.pointer (some ⟨b,i.toNat * e.st,none⟩)) hex ?_) (.ptr j n i.toNat 0 e _ hG hm rfl (fun _=>⟨b,h5,by rw [Nat.add_zero]⟩))
          rw [h4,hi2,h6]
          simp [Instr.indexAt,asIntOf,run_underlying he,h0,h1,run_sizeT hse,add_none,h3]
    · subst hO;exact hob.elim
  · rename_i n st j m r q i e1 e2
    rw [e1] at hx
    split at hO
    · rename_i e hG
      subst hO
      obtain ⟨h0,h1,h2⟩:=hob
      obtain ⟨et,he,hse⟩:=xkT_ptr hk
      obtain ⟨kk,hi2⟩:=intV_rep e2 hi
      cases hx with
      | ptr _ _ _ _ e3 _ hG1 hm hone hh =>
        rw [hG] at hG1;cases hG1
        obtain ⟨b,h4,h5⟩:=hh h2
        refine Res.pure hr (exec_v (u:=.pointer (some ⟨b,r * e.st+q+i.toNat * st,none⟩)) hex ?_) (.ptr j m r (q+i.toNat * st) e _ hG hm rfl (fun _=>⟨b,h4,by rw [Nat.add_assoc]⟩))
        rw [h5,hi2]
        simp [Instr.indexAt,asIntOf,run_underlying he,h0,h1,run_sizeT hse,add_none,Instr.sureAddr]
    · subst hO;exact hob.elim
  · rename_i n st cs q i e1 e2
    rw [e1] at hx
    subst hO
    obtain ⟨h0,h1⟩:=hob
    obtain ⟨et,he,hse⟩:=xkT_ptr hk
    obtain ⟨kk,hi2⟩:=intV_rep e2 hi
    cases hx with | d _ _ hx =>
    generalize hu:a.eval x=u at hx
    cases hx with
    | ref _ _ b k0 us hS hcell hu2 =>
      refine Res.pure hr (exec_v (u:=.pointer (some ⟨b,k0+(q+i.toNat * st),none⟩)) hex ?_) (.d _ _ (.ref cs (q+i.toNat * st) b k0 us hS hcell hu2))
      rw [hu,hi2]
      simp [Instr.indexAt,asIntOf,run_underlying he,h0,h1,run_sizeT hse,add_none,Instr.sureAddr,Nat.add_assoc]
  · subst hO;exact hob.elim
theorem RepC.sub {cs:List Lc} {vs:Array Value} (h:RepC w S ρ G cs vs) (i n:Nat) (hl:i+n≤cs.length):RepC w S ρ G ((cs.drop i).take n) (vs.extract i (i+n)):=by
  have hs:=h.1
  refine ⟨by simp [Array.size_extract];omega,fun j lc hj => ?_⟩
  rw [List.getElem?_take] at hj
  split at hj
  · rename_i hlt
    rw [List.getElem?_drop] at hj
    obtain ⟨x,h1,h2⟩:=h.get hj
    have:(vs.extract i (i+n)).getD j undef=x:=by
      rw [Array.getD_eq_getD_getElem?,Array.getElem?_extract]
      rw [if_pos (by omega),h1];rfl
    rw [this];exact h2
  · cases hj
theorem run_part {t:TypeId} {agg:Bool} {sz off:Nat} {cs:List Lc} {vs:Array Value} (hs:sizeT P t=some sz) (hg:aggT P t=some agg) (h1:agg=false→sz=1) (hl:off+sz≤cs.length) (h:RepC w S ρ G cs vs) :
    ∃ u,(part t vs off).run P w=.ok u w∧RepV w S ρ G (.b (if agg then .agg ((cs.drop off).take sz) else .s (cs.getD off lcA))) u:=by
  cases agg with
  | true =>
    exact ⟨.agg (vs.extract off (off+sz)),by simp [part,run_aggT hg,run_sizeT hs],_,rfl,h.sub off sz hl⟩
  | false =>
    have:=h1 rfl
    subst this
    obtain ⟨x,h2,h3⟩:=h.get (j:=off) (lc:=cs[off]) (List.getElem?_eq_getElem (by omega))
    refine ⟨x,by simp only [part,Sem.run_bind,run_aggT hg,Result.andThen_ok,Bool.false_eq_true,if_false,h2];rfl,?_⟩
    have:cs.getD off lcA=cs[off]:=by simp [List.getD,List.getElem?_eq_getElem (show off < cs.length by omega)]
    simp only [Bool.false_eq_true,if_false,this]
    exact h3
theorem s_fld {t:TypeId} {fs:Array Field} {f:Nat} {fd:Field} {sz:Nat} {agg:Bool} {x:Operand} {x1:Od} (hr:Hr w S ρ G base) (hop:o.op=.field t x f) (h1:P.underlying t=some (.struct fs)) (h2:fs[f]? = some fd) (hs:sizeT P fd.type=some sz) (hg:aggT P fd.type=some agg) (hx:RepV w S ρ G (ev x1) (a.eval x))
    (hob:(semI P gl c d (.fld fd.offset agg sz x1) ev G).ob):Res P o a w S ρ G base (semI P gl c d (.fld fd.offset agg sz x1) ev G).v (apG G (semI P gl c d (.fld fd.offset agg sz x1) ev G).ef):=by
  have hex:execOp a.eval o=(do pure (Next.value (← Instr.field t (a.eval x) f)):Sem Next):=by unfold execOp;rw [hop]
  generalize hO:semI P gl c d (.fld fd.offset agg sz x1) ev G=out at hob ⊢
  simp only [semI] at hO
  split at hO
  · rename_i cs e1
    subst hO
    rw [e1] at hx
    obtain ⟨vs,hvs,hc⟩:=hx
    obtain ⟨u,h3,h4⟩:=run_part (P:=P) hs hg hob.2 hob.1 hc
    exact Res.pure hr (exec_v hex (by rw [hvs];simp [Instr.field,run_underlying h1,h2,asAgg,h3])) h4
  · subst hO;exact hob.elim
theorem s_idx {t:TypeId} {k:Xk} {x ix:Operand} {x1 i1:Od} (hr:Hr w S ρ G base) (hop:o.op=.index t x ix) (hk:xkT P false t=some k) (hx:RepV w S ρ G (ev x1) (a.eval x)) (hi:RepV w S ρ G (ev i1) (a.eval ix))
    (hob:(semI P gl c d (.idx k x1 i1) ev G).ob):Res P o a w S ρ G base (semI P gl c d (.idx k x1 i1) ev G).v (apG G (semI P gl c d (.idx k x1 i1) ev G).ef):=by
  have hex:execOp a.eval o=(do pure (Next.value (← Instr.index t (a.eval x) (a.eval ix))):Sem Next):=by unfold execOp;rw [hop]
  generalize hO:semI P gl c d (.idx k x1 i1) ev G=out at hob ⊢
  simp only [semI] at hO
  split at hO
  · rename_i l i e1 e2
    subst hO
    rw [e1,rep_str] at hx
    obtain ⟨kk,hi2⟩:=intV_rep e2 hi
    obtain ⟨h0,h1⟩:=hob
    have hlt:i.toNat < l.length:=by omega
    refine Res.pure hr (exec_v (u:=.int .u8 (l.getD i.toNat 0).toNat) hex ?_) rep_i
    rw [hx,hi2]
    have e3:(⟨⟨l⟩⟩:ByteArray)[i.toNat]? = some (l.getD i.toNat 0):=by
      have h:=getElem?_pos (⟨⟨l⟩⟩:ByteArray) i.toNat (show i.toNat < (⟨⟨l⟩⟩:ByteArray).size from hlt)
      rw [h]
      simp only [List.getD,List.getElem?_eq_getElem hlt];rfl
    simp [Instr.index,asIntOf,run_underlying (xkT_str hk),strV,h0,e3]
  · rename_i n st agg cs i e1 e2
    subst hO
    rw [e1] at hx
    obtain ⟨kk,hi2⟩:=intV_rep e2 hi
    obtain ⟨h0,h1,h2,h3⟩:=hob
    obtain ⟨e,he,hse,hge⟩:=xkT_arr hk
    obtain ⟨vs,hvs,hc⟩:=hx
    have hb:i.toNat * st+st≤cs.length:=by
      rw [h2]
      have:(i.toNat+1) * st≤n * st:=Nat.mul_le_mul_right st (by omega)
      rw [Nat.add_mul] at this;omega
    obtain ⟨u,h4,h5⟩:=run_part (P:=P) hse hge h3 hb hc
    exact Res.pure hr (exec_v hex (by rw [hvs,hi2];simp [Instr.index,asIntOf,run_underlying he,h0,h1,run_sizeT hse,h4])) h5
  · subst hO;exact hob.elim
theorem s_ext {i:Nat} {x:Operand} {x1:Od} (hr:Hr w S ρ G base) (hop:o.op=.extract x i) (hx:RepV w S ρ G (ev x1) (a.eval x))
    (hob:(semI P gl c d (.ext x1 i) ev G).ob):Res P o a w S ρ G base (semI P gl c d (.ext x1 i) ev G).v (apG G (semI P gl c d (.ext x1 i) ev G).ef):=by
  have hex:execOp a.eval o=(do pure (Next.value (← Instr.extract (a.eval x) i)):Sem Next):=by unfold execOp;rw [hop]
  generalize hO:semI P gl c d (.ext x1 i) ev G=out at hob ⊢
  simp only [semI] at hO
  split at hO
  · rename_i l e1
    rw [e1] at hx
    split at hO
    · rename_i v hv
      subst hO
      obtain ⟨vs,hvs,hl,hall⟩:=hx
      have hlt:i < vs.size:=by have:=(List.getElem?_eq_some_iff.1 hv).1;omega
      refine Res.pure hr (exec_v (u:=vs.getD i undef) hex ?_) (hall i v hv)
      rw [hvs]
      simp [Instr.extract,Array.getD_eq_getD_getElem?,Array.getElem?_eq_getElem hlt]
    · subst hO;exact hob.elim
  · subst hO;exact hob.elim
theorem len_own {i n:Nat} {u:Value} (hv:RepV w S ρ G (.b (.s (.own i n))) u):∃ p cap,u=.slice p n cap:=by
  cases hv with
  | own _ _ e3 _ hG1 hm hone hh=>exact hone
theorem s_len {t:TypeId} {dt:TypeDesc} {k:Xk} {x:Operand} {x1:Od} (hr:Hr w S ρ G base) (hop:o.op=.call { callee:=.builtin .len,args := #[x],argTypes := #[t] }) (ht:P.underlying t=some dt)
    (hk:(k=.str∧dt=.string)∨(∃ st e,k=.sl st∧dt=.slice e)∨(∃ n st g e,k=.arr n st g∧dt=.array n e)) (hx:RepV w S ρ G (ev x1) (a.eval x))
    (hob:(semI P gl c d (.len k x1) ev G).ob):Res P o a w S ρ G base (semI P gl c d (.len k x1) ev G).v (apG G (semI P gl c d (.len k x1) ev G).ef):=by
  have hex:execOp a.eval o=(do pure (Next.value (← Builtin.len_ #[t] o.type #[a.eval x])):Sem Next):=by
    unfold execOp;rw [hop]
    simp [resolve,invoke,builtin]
  generalize hO:semI P gl c d (.len k x1) ev G=out at hob ⊢
  simp only [semI] at hO
  rcases hk with ⟨rfl,rfl⟩ | ⟨st,e,rfl,rfl⟩ | ⟨n,st,g,e,rfl,rfl⟩
  · split at hO <;> first | contradiction | (subst hO;exact hob.elim) | skip
    rename_i l e1
    subst hO
    rw [e1,rep_str] at hx
    exact Res.pure hr (exec_v hex (by rw [hx];simp [Builtin.len_,run_underlying ht,strV,goInt];rfl)) rep_i
  · split at hO <;> first | contradiction | (subst hO;exact hob.elim) | skip
    · rename_i rows _ e1
      subst hO
      rw [e1] at hx
      have h:RepD w S (.sl rows) (a.eval x):=by cases hx with | d _ _ h=>exact h
      obtain ⟨p,cap,b,q,st,hu,_⟩:=SlOk.of_rep h
      exact Res.pure hr (exec_v hex (by rw [hu];simp [Builtin.len_,run_underlying ht,goInt])) rep_i
    · rename_i rows _ e1
      subst hO
      rw [e1] at hx
      have h:RepD w S (.sl rows) (a.eval x):=by
        generalize a.eval x=u at hx
        cases hx with | full _ p h=>exact h
      obtain ⟨p,cap,b,q,st,hu,_⟩:=SlOk.of_rep h
      exact Res.pure hr (exec_v hex (by rw [hu];simp [Builtin.len_,run_underlying ht,goInt])) rep_i
    · rename_i _ e1
      subst hO
      rw [e1] at hx
      have hu:a.eval x=.slice none 0 0:=by
        generalize a.eval x=u at hx
        cases hx;rfl
      exact Res.pure hr (exec_v hex (by rw [hu];simp [Builtin.len_,run_underlying ht,goInt])) rep_i
    · rename_i i m _ e1
      subst hO
      rw [e1] at hx
      obtain ⟨p,cap,hu⟩:=len_own hx
      exact Res.pure hr (exec_v hex (by rw [hu];simp [Builtin.len_,run_underlying ht,goInt])) rep_i
  · have hO1:out1 (Va.i .i64 n)=out:=hO
    subst hO1
    exact Res.pure hr (exec_v hex (by simp [Builtin.len_,run_underlying ht,goInt])) rep_i
theorem s_mm {mx:Bool} {x y:Operand} {ts:Array TypeId} {x1 y1:Od} (hr:Hr w S ρ G base) (hop:o.op=.call { callee:=.builtin (if mx then .max else .min),args := #[x,y],argTypes:=ts }) (hx:RepV w S ρ G (ev x1) (a.eval x)) (hy:RepV w S ρ G (ev y1) (a.eval y))
    (hob:(semI P gl c d (.mm mx x1 y1) ev G).ob):Res P o a w S ρ G base (semI P gl c d (.mm mx x1 y1) ev G).v (apG G (semI P gl c d (.mm mx x1 y1) ev G).ef):=by
  have hex:execOp a.eval o=(do pure (Next.value (← (if mx=true then Builtin.max_ ts o.type #[a.eval x,a.eval y] else Builtin.min_ ts o.type #[a.eval x,a.eval y]:Sem Value))):Sem Next):=by
    unfold execOp;rw [hop]
    cases mx <;> simp [resolve,invoke,builtin]
  generalize hO:semI P gl c d (.mm mx x1 y1) ev G=out at hob ⊢
  simp only [semI] at hO
  split at hO
  · rename_i k p k2 q e1 e2
    subst hO
    rw [e1,rep_int] at hx;rw [e2,rep_int] at hy
    refine Res.pure hr (exec_v hex ?_) rep_i
    rw [hx,hy]
    cases mx <;> simp [Builtin.min_,Builtin.max_,Builtin.min2,Builtin.max2]
  · subst hO;exact hob.elim
theorem replaceAt_length {cs new:List Lc} {off:Nat} (h:off+new.length≤cs.length):(replaceAt cs off new).length=cs.length:=by
  simp only [replaceAt,List.length_append,List.length_take,List.length_drop];omega
theorem replaceAt_get {cs new:List Lc} {off j:Nat} (h:off+new.length≤cs.length):(replaceAt cs off new)[j]? = if off≤j∧j < off+new.length then new[j - off]? else cs[j]? := by
  unfold replaceAt
  have hl:(cs.take off++new).length=off+new.length:=by simp only [List.length_append,List.length_take];omega
  by_cases h1:j < off+new.length
  · rw [List.getElem?_append_left (by omega)]
    by_cases h2:j < off
    · rw [List.getElem?_append_left (by rw [List.length_take];omega),if_neg (by omega),List.getElem?_take,if_pos h2]
    · rw [List.getElem?_append_right (by rw [List.length_take];omega),if_pos (by omega),List.length_take,Nat.min_eq_left (by omega)]
  · rw [List.getElem?_append_right (by omega),if_neg (by omega),hl,List.getElem?_drop]
    congr 1;omega
theorem foldl_sets:∀ (us:List Value) (off k:Nat) (arr:Array Value),off+k+us.length≤arr.size →
    ((us.zipIdx k).foldl (fun cs p=>cs.setIfInBounds (off+p.2) p.1) arr).size=arr.size∧∀ j,((us.zipIdx k).foldl (fun cs p=>cs.setIfInBounds (off+p.2) p.1) arr)[j]? = if off+k≤j∧j < off+k+us.length then us[j - (off+k)]? else arr[j]?
  | [],off,k,arr,h=>by simp only [List.zipIdx_nil,List.foldl_nil,List.length_nil];exact ⟨by first | trivial | rfl,fun j=>by rw [if_neg (by omega)]⟩
  | u :: us,off,k,arr,h=>by
    simp only [List.zipIdx_cons,List.foldl_cons]
    simp only [List.length_cons] at h
    obtain ⟨h1,h2⟩:=foldl_sets us off (k+1) (arr.setIfInBounds (off+k) u) (by simp;omega)
    refine ⟨by rw [h1];simp,fun j => ?_⟩
    rw [h2 j]
    simp only [List.length_cons]
    by_cases h3:off+(k+1)≤j∧j < off+(k+1)+us.length
    · rw [if_pos h3,if_pos (by omega)]
      have:j - (off+k)=(j - (off+(k+1)))+1:=by omega
      rw [this,List.getElem?_cons_succ]
    · rw [if_neg h3]
      by_cases h4:j=off+k
      · subst h4
        rw [if_pos (by omega),Array.getElem?_setIfInBounds_self_of_lt (by omega)]
        simp
      · rw [if_neg (by omega),Array.getElem?_setIfInBounds_ne (by omega)]
theorem RepC.laid {cs new:List Lc} {off:Nat} {vs us:Array Value} (h:RepC w S ρ G cs vs) (h1:RepC w S ρ G new us) (hl:off+new.length≤cs.length) :
    RepC w S ρ G (replaceAt cs off new) (us.zipIdx.foldl (fun cs p=>cs.setIfInBounds (off+p.2) p.1) vs):=by
  have hs:=h.1
  have hs1:=h1.1
  have e:us.zipIdx.foldl (fun cs p=>cs.setIfInBounds (off+p.2) p.1) vs=(us.toList.zipIdx 0).foldl (fun cs p=>cs.setIfInBounds (off+p.2) p.1) vs:=by
    rw [← Array.foldl_toList,Array.toList_zipIdx]
  rw [e]
  obtain ⟨h2,h3⟩:=foldl_sets us.toList off 0 vs (by rw [Array.length_toList];omega)
  refine ⟨by rw [h2,replaceAt_length hl,hs],fun j lc hj => ?_⟩
  rw [replaceAt_get hl] at hj
  rw [Array.getD_eq_getD_getElem?,h3 j,Array.length_toList,Nat.add_zero]
  by_cases h4:off≤j∧j < off+new.length
  · rw [if_pos h4] at hj
    rw [if_pos (by omega)]
    obtain ⟨x,h5,h6⟩:=h1.get hj
    rw [Array.getElem?_toList,h5];exact h6
  · rw [if_neg h4] at hj
    rw [if_neg (by omega)]
    obtain ⟨x,h5,h6⟩:=h.get hj
    rw [h5];exact h6
theorem fill_ok {place:Nat→Option (Nat×Nat)}:∀ {ps:List (Nat×Operand)} {l:List (Nat×Nat×Od)} {zero:List Lc} {zs:Array Value},cParts P place ps=some l→RepC w S ρ G zero zs→(∀ p,p∈l→isB (ev p.2.2))→EvOk w S ρ G ev a (l.map fun p=>p.2.2) →
    fillOb zero.length (l.map fun p=>(p.1,p.2.1,cellsV (ev p.2.2)))→∃ cells,Instr.fill place zs (ps.map fun p=>(p.1,a.eval p.2))=some cells∧RepC w S ρ G (fillL zero (l.map fun p=>(p.1,p.2.1,cellsV (ev p.2.2)))) cells
  | [],l,zero,zs,h,hz,hB,hev,hob=>by
    simp only [cParts,Option.some.injEq] at h;subst h
    exact ⟨zs,rfl,hz⟩
  | (i, x) :: ps,l,zero,zs,h,hz,hB,hev,hob=>by
    simp only [cParts] at h
    split at h
    · rename_i off sz od r hp hx hr
      simp only [Option.some.injEq] at h;subst h
      obtain ⟨h1,h2,h3⟩:=hob
      replace h1:(cellsV (ev od)).length=sz:=h1
      replace h2:off+sz≤zero.length:=h2
      have hxv:RepV w S ρ G (ev od) (a.eval x):=hev x od (by simp) hx
      have hc:RepC w S ρ G (cellsV (ev od)) (a.eval x).cells:=rep_cells (hB (off,sz,od) (by simp)) hxv
      have hc1:=hc.1
      obtain ⟨cells,h4,h5⟩:=fill_ok (zero:=replaceAt zero off (cellsV (ev od))) hr (hz.laid hc (by rw [h1];exact h2)) (fun p hp=>hB p (List.mem_cons_of_mem _ hp)) (fun y q hq hy=>hev y q (by simp at hq ⊢;exact .inr hq) hy) (by rw [replaceAt_length (by rw [h1];exact h2)];exact h3)
      refine ⟨cells,?_,h5⟩
      simp only [List.map_cons,Instr.fill,hp]
      have hz1:=hz.1
      rw [if_neg]
      · exact h4
      · simp only [ne_eq,Bool.or_eq_true,decide_eq_true_eq,not_or,Decidable.not_not]
        omega
    · cases h
end Go.Proofs.YtedibjgdangfnaaGreatDoor.V
end

section
namespace Go.Proofs.YtedibjgdangfnaaGreatDoor.V
open Go Go.RowKit
set_option linter.unusedVariables false
set_option linter.unusedSimpArgs false
variable {P:Program} {gl:Gl} {c:Ch} {d:Option Nat} {o:Oper} {a:Act} {w w1:World} {S S1:Nat→Prop} {ρ ρ1:Nat→Option Nat} {G G1:Hf} {base:Base} {ev:Od→Va}
theorem s_build {t:TypeId} {dt:TypeDesc} {place:Nat→Option (Nat×Nat)} {z:List Lc} {zv:Value} {parts:Array (Nat×Operand)} {l:List (Nat×Nat×Od)} (hr:Hr w S ρ G base) (hop:o.op=.build t parts) (ht:P.underlying t=some dt) (hz:(P.info? t).bind (·.zero)=some zv) (hzl:kLcs zv.cells.toList=some z)
    (hk:(∃ fs,dt=.struct fs∧fs.toList.all (fun f=>(sizeT P f.type).isSome)=true∧place=fun i=>(fs[i]?).bind fun f=>(sizeT P f.type).map fun s=>(f.offset,s))∨(∃ n e s,dt=.array n e∧sizeT P e=some s∧place=fun i=>some (i * s,s)))
    (hl:cParts P place parts.toList=some l) (hev:EvOk w S ρ G ev a (opsOf (.build z l)))
    (hob:(semI P gl c d (.build z l) ev G).ob):Res P o a w S ρ G base (semI P gl c d (.build z l) ev G).v (apG G (semI P gl c d (.build z l) ev G).ef):=by
  have hex:execOp a.eval o=(do pure (Next.value (← Instr.build t (parts.map fun (i,x)=>(i,a.eval x)))):Sem Next):=by unfold execOp;rw [hop]
  obtain ⟨h1,h2⟩:=hob
  obtain ⟨h3,h4⟩:=kLcs_rep (w:=w) (S:=S) (ρ:=ρ) (G:=G) hzl
  have hz0:RepC w S ρ G z zv.cells:=by
    refine ⟨by rw [h3,Array.length_toList],fun j lc hj => ?_⟩
    obtain ⟨u,hu,hu2⟩:=h4 j lc hj
    rw [Array.getElem?_toList] at hu
    rw [Array.getD_eq_getD_getElem?,hu];exact hu2
  obtain ⟨cells,h5,h6⟩:=fill_ok hl hz0 (fun p hp=>h2 p hp) hev h1
  have hzr:(zeroValue t).run P w=.ok zv w:=by
    obtain ⟨i,hi,hi2⟩:=Option.bind_eq_some_iff.1 hz
    simp [zeroValue,typeInfo,hi,hi2]
  refine Res.pure hr (exec_v (u:=.agg cells) hex ?_) ⟨cells,rfl,h6⟩
  rcases hk with ⟨fs,rfl,hfs,rfl⟩ | ⟨n,e,s,rfl,hs,rfl⟩
  · have hm:∀ (l:List Field),l.all (fun f=>(sizeT P f.type).isSome)=true→(l.mapM (fun f=>do pure (f.offset,← sizeOf f.type):Field→Sem (Nat×Nat))).run P w=.ok (l.map fun f=>(f.offset,(sizeT P f.type).getD 0)) w:=by
      intro l
      induction l with
      | nil=>intro _;rfl
      | cons f l ih =>
        intro h
        simp only [List.all_cons,Bool.and_eq_true] at h
        obtain ⟨n,hn⟩:=Option.isSome_iff_exists.1 h.1
        rw [List.mapM_cons]
        simp only [Sem.run_bind,run_sizeT hn,Result.andThen_ok,Sem.run_pure,ih h.2,List.map_cons,hn,Option.getD_some]
    have hm2:(fs.mapM (fun f=>do pure (f.offset,← sizeOf f.type):Field→Sem (Nat×Nat))).run P w=.ok (fs.toList.map fun f=>(f.offset,(sizeT P f.type).getD 0)).toArray w:=by
      rw [Array.mapM_eq_mapM_toList,Sem.run_map,hm _ hfs];rfl
    have hpl:(fun (i:Nat)=>(fs[i]?).bind fun f=>(sizeT P f.type).map fun s=>(f.offset,s))=fun (i:Nat)=>((fs.toList.map fun f=>(f.offset,(sizeT P f.type).getD 0)).toArray)[i]? := by
      funext i
      simp only [List.getElem?_toArray,List.getElem?_map,Array.getElem?_toList]
      cases hf:fs[i]? with
      | none=>rfl
      | some f =>
        have hmem:f∈fs.toList:=Array.mem_toList_iff.2 (Array.mem_of_getElem? hf)
        obtain ⟨n,hn⟩:=Option.isSome_iff_exists.1 (List.all_eq_true.1 hfs f hmem)
        simp [hn]
    rw [hpl] at h5
    simp only [Instr.build,Sem.run_bind,hzr,Result.andThen_ok,run_underlying ht,hm2,Array.toList_map]
    have e1:(List.map (fun (p:Nat×Operand)=>(p.1,a.eval p.2)) parts.toList)=(List.map (fun x=>match x with | (i,x)=>(i,a.eval x)) parts.toList):=rfl
    rw [← e1,h5];rfl
  · simp only [Instr.build,Sem.run_bind,hzr,Result.andThen_ok,run_underlying ht,run_sizeT hs,Array.toList_map]
    have e1:(List.map (fun (p:Nat×Operand)=>(p.1,a.eval p.2)) parts.toList)=(List.map (fun x=>match x with | (i,x)=>(i,a.eval x)) parts.toList):=rfl
    rw [← e1,h5];rfl
theorem below_of {w1:World} (hB:base.n≤w.heap.size) (h1:w1.os=w.os) (h2:w1.tape=w.tape) (h3:w1.output=w.output) (h4:w.heap.size≤w1.heap.size) (h5:∀ k,k < w.heap.size→w1.heap[k]? = w.heap[k]?):Bel base w w1:=Bel.old ⟨h1,h2,h3,h4,h5⟩ hB
theorem Res.alloc {v:Va} {u:Value} {i:Nat} {e:Ent} {arr:Array Value} {ty:TypeId} {fz:Nat×Nat} (hr:Hr w S ρ G base) (hB:base.n≤w.heap.size) (hrun:(execOp a.eval o).run P w=.ok (.value u) w1)
    (hh:w1.heap=w.heap.push (.cells arr ty fz)) (hos:w1.os=w.os∧w1.tape=w.tape∧w1.output=w.output) (hi:i < 1000000) (hG:G i=none) (hfz:e.fz=false) (hrow:∀ r,r∈e.rows→r.length=e.st) (hf:∀ o,o < arr.size→¬ (fz.1≤o∧o < fz.2))
    (hc:∀ (j:Nat) lc,e.rows.flatten[j]? = some lc→∃ x,arr[j]? = some x∧RepL w S ρ G lc x)
    (hv:w1.heap[w.heap.size]? = some (.cells arr ty fz)→RepV w1 S (updR ρ i (some w.heap.size)) (updG G i e) v u):Res P o a w S ρ G base v (apG G [(i,e)]):=by
  have hρ:ρ i=none:=by
    cases h:ρ i with
    | none=>rfl
    | some b=>exact absurd hG (hr.dom i b h)
  have hold:∀ k,k < w.heap.size→w1.heap[k]? = w.heap[k]? := fun k hk=>by rw [hh,Array.getElem?_push];rw [if_neg (by omega)]
  have hnew:w1.heap[w.heap.size]? = some (.cells arr ty fz):=by rw [hh];simp
  have hsz:w.heap.size≤w1.heap.size:=by rw [hh,Array.size_push];omega
  obtain ⟨h1,h2⟩:=hr.upd hB i e (some w.heap.size) (fun k hk _=>hold k hk) hsz (fun x hx=>by rw [hG] at hx;cases hx) (fun b _ _ _ hb=>by rw [hρ] at hb;cases hb) (.inr ⟨_,rfl,Nat.le_refl _,hi⟩) hfz hrow (.inr ⟨_,arr,ty,fz,rfl,hnew,hf,hc⟩)
  exact ⟨u,w1,S,_,.inl hrun,h1,h2,hv hnew,below_of hB hos.1 hos.2.1 hos.2.2 hsz hold,fun k hk=>.inl hk⟩
theorem one_of_reps_box {i:Nat} {e:Ent} {b:Nat} (hb:ρ i=some b) (hG:G i=some e) (hn:e.rows.length=1):RepL w S ρ G (.ptr i 1 0 0) (.pointer (some ⟨b,0,none⟩)) :=
  .ptr i 1 0 0 e _ hG (by omega) rfl (fun _=>⟨b,hb,by simp⟩)
theorem s_new {e:TypeId} {zv:Value} {cells:List Lc} (hr:Hr w S ρ G base) (hB:base.n≤w.heap.size) (hdN:∀ i,d=some i→i < 1000000) (hd:d=o.dst) (hop:o.op=.alloc e) (hz:(P.info? e).bind (·.zero)=some zv) (hzl:kLcs zv.cells.toList=some cells)
    (hob:(semI P gl c d (.new cells) ev G).ob):Res P o a w S ρ G base (semI P gl c d (.new cells) ev G).v (apG G (semI P gl c d (.new cells) ev G).ef):=by
  have hex:execOp a.eval o=(do pure (Next.value (← Instr.alloc e true (.tuple #[]))):Sem Next):=by unfold execOp;rw [hop]
  have hzr:(zeroValue e).run P w=.ok zv w:=by
    obtain ⟨i,hi,hi2⟩:=Option.bind_eq_some_iff.1 hz
    simp [zeroValue,typeInfo,hi,hi2]
  obtain ⟨h3,h4⟩:=kLcs_rep (w:=w) (S:=S) (ρ:=ρ) (G:=G) hzl
  generalize hO:semI P gl c d (.new cells) ev G=out at hob ⊢
  simp only [semI] at hO
  split at hO
  · rename_i i
    subst hO
    refine Res.alloc (u:=.pointer (some ⟨w.heap.size,0,none⟩)) (w1:={ w with heap:=w.heap.push (.cells zv.cells e) }) (arr:=zv.cells) (ty:=e) (fz:=(0,0)) hr hB (exec_v hex ?_) rfl ⟨rfl,rfl,rfl⟩ (hdN _ rfl) hob rfl (by simp) (by simp) (fun j lc hj => ?_) (fun hnew => ?_)
    · simp [Instr.alloc,hzr,newVar,newRow]
    · simp only [List.flatten_cons,List.flatten_nil,List.append_nil] at hj
      obtain ⟨x,h5,h6⟩:=h4 j lc hj
      rw [Array.getElem?_toList] at h5
      exact ⟨x,h5,h6⟩
    · exact one_of_reps_box (by simp [updR]) (by simp [updG];rfl) rfl
  · subst hO;exact hob.elim
theorem s_box {e:TypeId} {sz:Nat} {x:Operand} {x1:Od} (hr:Hr w S ρ G base) (hB:base.n≤w.heap.size) (hdN:∀ i,d=some i→i < 1000000) (hop:o.op=.box e x) (hx:RepV w S ρ G (ev x1) (a.eval x))
    (hob:(semI P gl c d (.box sz x1) ev G).ob):Res P o a w S ρ G base (semI P gl c d (.box sz x1) ev G).v (apG G (semI P gl c d (.box sz x1) ev G).ef):=by
  have hex:execOp a.eval o=(do pure (Next.value (← Instr.box e (a.eval x))):Sem Next):=by unfold execOp;rw [hop]
  generalize hO:semI P gl c d (.box sz x1) ev G=out at hob ⊢
  simp only [semI] at hO
  split at hO
  · rename_i i
    subst hO
    obtain ⟨h1,h2,h3⟩:=hob
    have hc:=rep_cells h1 hx
    refine Res.alloc (u:=.pointer (some ⟨w.heap.size,0,none⟩)) (w1:={ w with heap:=w.heap.push (.cells (a.eval x).cells e) }) (arr:=(a.eval x).cells) (ty:=e) (fz:=(0,0)) hr hB (exec_v hex ?_) rfl ⟨rfl,rfl,rfl⟩ (hdN _ rfl) h3 rfl (by simpa using h2) (by simp) (fun j lc hj => ?_) (fun hnew => ?_)
    · simp [Instr.box,newVar,newRow]
    · simp only [List.flatten_cons,List.flatten_nil,List.append_nil] at hj
      exact hc.get hj
    · exact one_of_reps_box (by simp [updR]) (by simp [updG];rfl) rfl
  · subst hO;exact hob.elim
theorem rep_own_new {i st n:Nat} {e:Ent} {b cap:Nat} {arr:Array Value} {ty:TypeId} {fz:Nat×Nat} (hb:ρ i=some b) (hG:G i=some e) (hst:e.st=st) (hn:n=e.rows.length) (hcap:n≤cap) (hw:w.heap[b]? = some (.cells arr ty fz)) (hsz:cap * st≤arr.size) :
    RepL w S ρ G (.own i n) (.slice (some ⟨b,0,none⟩) n cap) :=
  .own i n e _ hG (by omega) ⟨_,_,rfl⟩ (fun _=>⟨_,_,rfl,.inr ⟨b,arr,ty,fz,hb,rfl,hcap,hw,by rw [hst];exact hsz⟩⟩)
theorem cRow_get:∀ {ps:List (Nat×Operand)} {k:Nat} {l:List Od},cRow k ps=some l→l.length=ps.length∧∀ (j:Nat) od,l[j]? = some od→∃ x,ps[j]? = some (k+j,x)∧cOd x=some od
  | [],k,l,h=>by simp only [cRow,Option.some.injEq] at h;subst h;simp
  | (i, x) :: ps,k,l,h=>by
    simp only [cRow] at h
    split at h
    · rename_i hik
      split at h
      · rename_i p q h1 h2
        simp only [Option.some.injEq] at h;subst h
        obtain ⟨h3,h4⟩:=cRow_get h2
        refine ⟨by simp [h3],fun j od hj => ?_⟩
        cases j with
        | zero=>simp only [List.getElem?_cons_zero,Option.some.injEq] at hj;subst hj;exact ⟨x,by simp [hik],h1⟩
        | succ j =>
          obtain ⟨y,h5,h6⟩:=h4 j od (by simpa using hj)
          refine ⟨y,?_,h6⟩
          rw [List.getElem?_cons_succ,h5];congr 2;omega
      · cases h
    · cases h
theorem cRow_parts {st:Nat}:∀ {ps:List (Nat×Operand)} {k:Nat} {l:List Od},cRow k ps=some l→∃ q,cParts P (fun i=>some (i * st,st)) ps=some q∧(q.map fun p=>p.2.2)=l∧(q.map fun p=>(p.1,p.2.1,cellsV (ev p.2.2)))=(l.zipIdx k).map fun p=>(p.2 * st,st,cellsV (ev p.1))
  | [],k,l,h=>by simp only [cRow,Option.some.injEq] at h;subst h;exact ⟨[],rfl,rfl,rfl⟩
  | (i, x) :: ps,k,l,h=>by
    simp only [cRow] at h
    split at h
    · rename_i hik
      split at h
      · rename_i p q h1 h2
        simp only [Option.some.injEq] at h;subst h
        obtain ⟨r,h3,h4,h5⟩:=cRow_parts (st:=st) h2
        exact ⟨(i * st,st,p) :: r,by simp only [cParts,h1,h3],by simp [h4],by simp [h5,hik]⟩
      · cases h
    · cases h
theorem fillL_rows {st:Nat}:∀ (rows:List (List Lc)) (k:Nat) (pre rest:List Lc),(∀ r,r∈rows→r.length=st)→pre.length=k * st→rest.length=rows.length * st →
    fillL (pre++rest) ((rows.zipIdx k).map fun p=>(p.2 * st,st,p.1))=pre++rows.flatten∧fillOb (pre++rest).length ((rows.zipIdx k).map fun p=>(p.2 * st,st,p.1))
  | [],k,pre,rest,h,hp,hr=>by
    have:rest=[]:=List.eq_nil_of_length_eq_zero (by simpa using hr)
    subst this
    exact ⟨by simp [fillL],trivial⟩
  | r :: rows,k,pre,rest,h,hp,hr=>by
    have h1:=h r (List.mem_cons_self ..)
    simp only [List.length_cons,Nat.add_mul,Nat.one_mul] at hr
    have e:replaceAt (pre++rest) (k * st) r=(pre++r)++rest.drop st:=by
      unfold replaceAt
      rw [← hp,List.take_left,h1,List.drop_append,List.drop_of_length_le (by omega),List.nil_append]
      congr 2;omega
    obtain ⟨h2,h3⟩:=fillL_rows rows (k+1) (pre++r) (rest.drop st) (fun x hx=>h x (List.mem_cons_of_mem _ hx)) (by rw [List.length_append,h1,hp,Nat.add_mul];omega) (by rw [List.length_drop];omega)
    simp only [List.zipIdx_cons,List.map_cons,fillL,e,h2,fillOb]
    have hlen:((pre++r)++rest.drop st).length=(pre++rest).length:=by simp only [List.length_append,List.length_drop];omega
    rw [hlen] at h3
    exact ⟨by simp,h1,by rw [List.length_append];omega,h3⟩
end Go.Proofs.YtedibjgdangfnaaGreatDoor.V
end

section
namespace Go.Proofs.YtedibjgdangfnaaGreatDoor.V
open Go Go.RowKit
set_option linter.unusedVariables false
set_option linter.unusedSimpArgs false
variable {P:Program} {gl:Gl} {c:Ch} {d:Option Nat} {o:Oper} {a:Act} {w w1:World} {S S1:Nat→Prop} {ρ ρ1:Nat→Option Nat} {G G1:Hf} {base:Base} {ev:Od→Va}
theorem flatten_rep {α:Type} {zero:List α} {st:Nat} (hz:zero.length=st) (l j:Nat) (x:α) (h:(List.replicate l zero).flatten[j]? = some x):zero[j % st]? = some x∧j < l * st:=by
  have hst:∀ r,r∈List.replicate l zero→r.length=st:=fun r hr=>by rw [(List.mem_replicate.1 hr).2];exact hz
  have hj:j < l * st:=by
    have:=(List.getElem?_eq_some_iff.1 h).1
    rw [flatten_length_const hst,List.length_replicate] at this
    exact this
  have h0:0 < st:=Nat.pos_of_ne_zero (fun h=>by rw [h,Nat.mul_zero] at hj;omega)
  have hd:j / st < l:=by rw [Nat.div_lt_iff_lt_mul h0];exact hj
  have e:=flatten_row hst (j / st) (j % st) zero (by simp [hd]) (Nat.mod_lt _ h0)
  rw [Nat.mul_comm,Nat.div_add_mod] at e
  exact ⟨by rw [← e,h],hj⟩
theorem s_bsl {t e:TypeId} {st n:Nat} {zv:Value} {z:List Lc} {parts:Array (Nat×Operand)} {l:List Od} (hr:Hr w S ρ G base) (hB:base.n≤w.heap.size) (hdN:∀ i,d=some i→i < 1000000) (hop:o.op=.buildSlice t n parts) (ht:P.underlying t=some (.slice e)) (hs:sizeT P e=some st) (hz:(P.info? e).bind (·.zero)=some zv) (hzl:kLcs zv.cells.toList=some z) (hzs:z.length=st) (h0:0 < st) (hl:cRow 0 parts.toList=some l) (hn:l.length=n) (h24:n * st≤2 ^ 24) (hev:EvOk w S ρ G ev a l)
    (hob:(semI P gl c d (.bsl st l) ev G).ob):Res P o a w S ρ G base (semI P gl c d (.bsl st l) ev G).v (apG G (semI P gl c d (.bsl st l) ev G).ef):=by
  have hex:execOp a.eval o=(do pure (Next.value (← Instr.buildSlice t n (parts.map fun (i,x)=>(i,a.eval x)))):Sem Next):=by unfold execOp;rw [hop]
  have hzr:(zeroValue e).run P w=.ok zv w:=by
    obtain ⟨i,hi,hi2⟩:=Option.bind_eq_some_iff.1 hz
    simp [zeroValue,typeInfo,hi,hi2]
  obtain ⟨h3,h4⟩:=kLcs_rep (w:=w) (S:=S) (ρ:=ρ) (G:=G) hzl
  have hzsz:zv.cells.size=st:=by rw [← hzs,h3,Array.length_toList]
  generalize hO:semI P gl c d (.bsl st l) ev G=out at hob ⊢
  simp only [semI] at hO
  split at hO
  · rename_i i
    subst hO
    obtain ⟨h1,h2⟩:=hob
    let arr0:Array Value:=(Array.range (n * st)).map (zv.cells[· % zv.cells.size]!)
    have hinit:RepC w S ρ G ((List.replicate n z).flatten) arr0:=by
      have hfl:((List.replicate n z).flatten).length=n * st:=by
        rw [flatten_length_const (st:=st) (fun r hr=>by rw [(List.mem_replicate.1 hr).2];exact hzs),List.length_replicate]
      refine ⟨by simp [arr0,hfl],fun j lc hj => ?_⟩
      obtain ⟨h5,h6⟩:=flatten_rep hzs n j lc hj
      obtain ⟨u,h7,h8⟩:=h4 _ lc h5
      have hm:j % st < zv.cells.size:=by rw [hzsz];exact Nat.mod_lt _ h0
      have:arr0.getD j undef=u:=by
        rw [Array.getElem?_toList] at h7
        rw [Array.getD_eq_getD_getElem?]
        simp only [arr0,Array.getElem?_map,Array.getElem?_range,h6,if_true,Option.map_some,Option.getD_some,hzsz]
        rw [getElem!_pos zv.cells _ hm]
        rw [Array.getElem?_eq_getElem hm] at h7
        exact Option.some.inj h7
      rw [this];exact h8
    obtain ⟨q,hq1,hq2,hq3⟩:=cRow_parts (P:=P) (ev:=ev) (st:=st) hl
    have hrows:(l.zipIdx 0).map (fun p=>(p.2 * st,st,cellsV (ev p.1)))=((l.map fun p=>cellsV (ev p)).zipIdx 0).map (fun p=>(p.2 * st,st,p.1)):=by
      rw [List.zipIdx_map,List.map_map];rfl
    have hst:∀ r,r∈l.map (fun p=>cellsV (ev p))→r.length=st:=by
      intro r hr
      obtain ⟨p,hp,rfl⟩:=List.mem_map.1 hr
      exact (h1 p hp).2
    have hfl:((List.replicate n z).flatten).length=n * st:=by
      rw [flatten_length_const (st:=st) (fun r hr=>by rw [(List.mem_replicate.1 hr).2];exact hzs),List.length_replicate]
    obtain ⟨h5,h6⟩:=fillL_rows (st:=st) (l.map fun p=>cellsV (ev p)) 0 [] ((List.replicate n z).flatten) hst (by simp) (by rw [hfl,List.length_map,hn])
    rw [List.nil_append,List.nil_append] at h5
    rw [List.nil_append] at h6
    obtain ⟨cells,h7,h8⟩:=fill_ok (place:=fun i=>some (i * st,st)) (ev:=ev) (a:=a) hq1 hinit (fun p hp=>by
      have:p.2.2∈l:=by rw [← hq2];exact List.mem_map.2 ⟨p,hp,rfl⟩
      exact (h1 _ this).1) (by rw [hq2];exact hev) (by rw [hq3,hrows];exact h6)
    rw [hq3,hrows,h5] at h8
    have hrun:(Instr.buildSlice t n (parts.map fun (i,x)=>(i,a.eval x))).run P w=.ok (.slice (some ⟨w.heap.size,0,none⟩) n n) { w with heap:=w.heap.push (.cells cells e) }:=by
      have e1:(List.map (fun (p:Nat×Operand)=>(p.1,a.eval p.2)) parts.toList)=(List.map (fun x=>match x with | (i,x)=>(i,a.eval x)) parts.toList):=rfl
      have hlt:¬ 2 ^ 24 < n * st:=by omega
      simp only [Instr.buildSlice,Sem.run_bind,run_underlying ht,Result.andThen_ok,run_sizeT hs,gt_iff_lt,if_neg hlt,Sem.run_pure]
      by_cases hn0:n * st=0
      · have hne:n=0:=by rcases Nat.mul_eq_zero.1 hn0 with h | h <;> omega
        subst hne
        have hl0:l=[]:=List.eq_nil_of_length_eq_zero hn
        subst hl0
        have hp0:parts.toList=[]:=List.eq_nil_of_length_eq_zero (by have:=(cRow_get hl).1;simpa using this.symm)
        rw [hp0] at h7
        simp only [List.map_nil,Instr.fill,Option.some.injEq] at h7
        have hc0:cells = #[]:=by rw [← h7];simp [arr0]
        rw [hc0]
        have er:∀ f:Nat→Value,Array.map f (Array.range 0) = #[]:=fun f=>Array.eq_empty_of_size_eq_zero (by simp)
        simp [Instr.fill,newRow,hp0,er]
      · simp only [if_neg hn0,Sem.run_bind,hzr,Result.andThen_ok,Sem.run_pure,Array.toList_map]
        rw [← e1]
        have:Instr.fill (fun i=>some (i * st,st)) ((Array.range (n * st)).map (zv.cells[· % zv.cells.size]!)) (parts.toList.map fun p=>(p.1,a.eval p.2))=some cells:=h7
        rw [this]
        simp [newRow]
    refine Res.alloc (u:=.slice (some ⟨w.heap.size,0,none⟩) n n) (arr:=cells) (ty:=e) (fz:=(0,0)) hr hB (exec_v hex hrun) rfl ⟨rfl,rfl,rfl⟩ (hdN _ rfl) h2 rfl hst (by simp) (fun j lc hj=>h8.get hj) (fun hnew => ?_)
    subst hn
    refine rep_own_new (st:=st) (by simp [updR]) (by simp [updG];rfl) rfl (by simp) (Nat.le_refl _) hnew ?_
    have:=h8.1
    rw [this,flatten_length_const hst,List.length_map]
    exact Nat.le_refl _
  · subst hO;exact hob.elim
theorem s_mksl {t e:TypeId} {i0:TypeInfo} {x y:Operand} {x1 y1:Od} {zv:Value} {z:List Lc} (hr:Hr w S ρ G base) (hB:base.n≤w.heap.size) (hdN:∀ i,d=some i→i < 1000000) (hop:o.op=.makeSlice t x y) (ht:P.underlying t=some (.slice e)) (hi:P.info? e=some i0) (hz:i0.zero=some zv) (hzl:kLcs zv.cells.toList=some z) (h0:0 < i0.size) (hx:RepV w S ρ G (ev x1) (a.eval x)) (hy:RepV w S ρ G (ev y1) (a.eval y))
    (hob:(semI P gl c d (.mksl i0.size i0.bytes z x1 y1) ev G).ob):Res P o a w S ρ G base (semI P gl c d (.mksl i0.size i0.bytes z x1 y1) ev G).v (apG G (semI P gl c d (.mksl i0.size i0.bytes z x1 y1) ev G).ef):=by
  have hex:execOp a.eval o=(do pure (Next.value (← Instr.makeSlice t (a.eval x) (a.eval y))):Sem Next):=by unfold execOp;rw [hop]
  obtain ⟨h3,h4⟩:=kLcs_rep (w:=w) (S:=S) (ρ:=ρ) (G:=G) hzl
  generalize hO:semI P gl c d (.mksl i0.size i0.bytes z x1 y1) ev G=out at hob ⊢
  simp only [semI] at hO
  split at hO
  · rename_i i l cp e1 e2
    subst hO
    obtain ⟨g0,g1,g2,g3,g4,g5⟩:=hob
    obtain ⟨kx,hx2⟩:=intV_rep e1 hx
    obtain ⟨ky,hy2⟩:=intV_rep e2 hy
    have hzsz:zv.cells.size=i0.size:=by rw [← g4,h3,Array.length_toList]
    have wl:IntKind.i64.wrap l=l:=IntWalk.i64_in _ (by omega)
    have wc:IntKind.i64.wrap cp=cp:=IntWalk.i64_in _ (by omega)
    have hcb:¬ (281474976710656 < (i0.bytes:Int) * cp):=by rw [Int.mul_comm];omega
    have hzr:∀ w:World,(zeroValue e).run P w=.ok zv w:=by intro w;simp [zeroValue,typeInfo,hi,hz]
    have hrun:(Instr.makeSlice t (a.eval x) (a.eval y)).run P w=.ok (.slice (some ⟨w.heap.size,0,none⟩) l.toNat cp.toNat) { w with heap:=w.heap.push (.cells ((Array.range (cp.toNat * i0.size)).map (zv.cells[· % zv.cells.size]!)) e) }:=by
      rw [hx2,hy2]
      have n1:¬ cp < 0:=by omega
      have n2:¬ l < 0:=by omega
      have n3:¬ cp < l:=by omega
      have hsz:(sizeOf e).run P w=.ok i0.size w:=by simp [sizeOf,typeInfo,hi]
      simp only [Instr.makeSlice,Sem.run_bind,run_underlying ht,Result.andThen_ok,asInt,asIntOf,Sem.run_pure,typeInfo,run_program,hi,wl,wc]
      simp [n1,n2,n3,hcb,hsz,sizeOf,typeInfo,hi]
      by_cases hn0:cp.toNat * i0.size=0
      · have:cp.toNat=0∨i0.size=0:=Nat.mul_eq_zero.1 hn0
        have hc0:cp≤0:=by omega
        have er:∀ f:Nat→Value,Array.map f (Array.range 0) = #[]:=fun f=>Array.eq_empty_of_size_eq_zero (by simp)
        simp [hc0,hn0,newRow,er]
      · have hc0:¬ cp≤0:=by intro h;apply hn0;rw [Int.toNat_of_nonpos h,Nat.zero_mul]
        have hs0:¬ i0.size=0:=by omega
        simp [hc0,hs0,hzr,newRow]
        exact fun h=>absurd h hn0
    have hst:∀ r,r∈List.replicate l.toNat z→r.length=i0.size:=fun r hr=>by rw [(List.mem_replicate.1 hr).2];exact g4
    refine Res.alloc (u:=.slice (some ⟨w.heap.size,0,none⟩) l.toNat cp.toNat) (ty:=e) (fz:=(0,0)) hr hB (exec_v hex hrun) rfl ⟨rfl,rfl,rfl⟩ (hdN _ rfl) g5 rfl hst (by simp) (fun j lc hj => ?_) (fun hnew => ?_)
    · obtain ⟨h5,h6⟩:=flatten_rep g4 l.toNat j lc hj
      obtain ⟨u,h7,h8⟩:=h4 _ lc h5
      refine ⟨u,?_,h8⟩
      have hm:j % i0.size < zv.cells.size:=by rw [hzsz];exact Nat.mod_lt _ h0
      have hj2:j < cp.toNat * i0.size:=Nat.lt_of_lt_of_le h6 (Nat.mul_le_mul_right _ (by omega))
      rw [Array.getElem?_toList] at h7
      simp only [Array.getElem?_map,Array.getElem?_range,hj2,if_true,Option.map_some,hzsz,Option.some.injEq]
      rw [getElem!_pos zv.cells _ hm]
      rw [Array.getElem?_eq_getElem hm] at h7
      exact Option.some.inj h7
    · exact rep_own_new (st:=i0.size) (by simp [updR]) (by simp [updG];rfl) rfl (by simp) (by omega) hnew (by simp)
  · subst hO;exact hob.elim
open Go.Lib in
theorem s_s2b {src dst e:TypeId} {x:Operand} {x1:Od} (hr:Hr w S ρ G base) (hB:base.n≤w.heap.size) (hdN:∀ i,d=some i→i < 1000000) (hop:o.op=.convert src dst x) (h1:P.underlying src=some .string) (h2:P.underlying dst=some (.slice e)) (h3:P.underlying e=some (.int .u8)) (hx:RepV w S ρ G (ev x1) (a.eval x))
    (hob:(semI P gl c d (.cv .s2b x1) ev G).ob):Res P o a w S ρ G base (semI P gl c d (.cv .s2b x1) ev G).v (apG G (semI P gl c d (.cv .s2b x1) ev G).ef):=by
  have hex:execOp a.eval o=(do pure (Next.value (← convert src dst (a.eval x))):Sem Next):=by unfold execOp;rw [hop]
  generalize hO:semI P gl c d (.cv .s2b x1) ev G=out at hob ⊢
  simp only [semI] at hO
  split at hO <;> first | contradiction | (subst hO;exact hob.elim) | skip
  rename_i l _ e1
  split at hO
  · rename_i i
    subst hO
    rw [e1,rep_str] at hx
    have hrun:=Go.Lib.run_convert_string_bytes (P:=P) w src dst e ⟨⟨l⟩⟩ h1 h2 h3
    have hgc:l.length≤grownCap w (⟨⟨l⟩⟩:ByteArray).size 0 e:=by
      unfold grownCap
      simp only [Question.cut]
      exact Nat.le_add_right _ _
    refine Res.alloc (u:=.slice (some ⟨w.heap.size,0,none⟩) (⟨⟨l⟩⟩:ByteArray).size (grownCap w (⟨⟨l⟩⟩:ByteArray).size 0 e)) (w1:=bytesWorld w e ⟨⟨l⟩⟩) (arr:=bytesCells w e ⟨⟨l⟩⟩) (ty:=e) (fz:=((bytesCells w e ⟨⟨l⟩⟩).size,(bytesCells w e ⟨⟨l⟩⟩).size+1)) hr hB (exec_v hex (by rw [hx];exact hrun)) ?_ ?_ (hdN _ rfl) hob rfl ?_ (fun o ho=>by omega) (fun j lc hj => ?_) (fun hnew => ?_)
    · apply Array.ext_getElem?
      intro k
      rcases Nat.lt_trichotomy k w.heap.size with hk | hk | hk
      · rw [bytesWorld_at_old w e _ k hk,Array.getElem?_push,if_neg (by omega)]
      · subst hk
        rw [bytesWorld_at_new];simp
      · rw [Array.getElem?_eq_none (by rw [bytesWorld_size];omega),Array.getElem?_eq_none (by rw [Array.size_push];omega)]
    · unfold bytesWorld World.freeze
      simp only [Nat.one_ne_zero,if_false]
      exact ⟨rfl,rfl,rfl⟩
    · intro r hr2
      obtain ⟨cc,_,rfl⟩:=List.mem_map.1 hr2
      rfl
    · have hfl:(l.map fun cc=>(byteR cc).map Lc.d).flatten=l.map fun cc=>Lc.d (.int .u8 cc.toNat):=by
        clear hx hrun hob e1 hj hgc
        induction l with
        | nil=>rfl
        | cons x l ih=>rw [List.map_cons,List.flatten_cons,ih];rfl
      rw [hfl,List.getElem?_map,Option.map_eq_some_iff] at hj
      obtain ⟨cc,hcc,rfl⟩:=hj
      have hlt:=(List.getElem?_eq_some_iff.1 hcc).1
      refine ⟨.int .u8 cc.toNat,?_,.d _ _ (.int _ _)⟩
      unfold bytesCells
      rw [Array.getElem?_append_left (by simpa using hlt)]
      simp [hcc]
    · refine rep_own_new (st:=1) (by simp [updR]) (by simp [updG];rfl) rfl (by simp) hgc hnew ?_
      unfold bytesCells
      rw [Array.size_append,Array.size_map,Array.size_replicate,Nat.mul_one]
      show grownCap w l.length 0 e≤l.length+(grownCap w l.length 0 e - l.length)
      omega
  · subst hO;exact hob.elim
end Go.Proofs.YtedibjgdangfnaaGreatDoor.V
end

section
namespace Go.Proofs.YtedibjgdangfnaaGreatDoor.V
open Go Go.RowKit
set_option linter.unusedVariables false
set_option linter.unusedSimpArgs false
variable {P:Program} {gl:Gl} {c:Ch} {d:Option Nat} {o:Oper} {a:Act} {w w1:World} {S S1:Nat→Prop} {ρ ρ1:Nat→Option Nat} {G G1:Hf} {base:Base} {ev:Od→Va}
theorem setCells_blk (b:Nat):∀ (vs:List Value) (k:Nat) (w:World) (arr:Array Value) (ty:TypeId) (fz:Nat×Nat),w.heap[b]? = some (.cells arr ty fz)→k+vs.length≤arr.size →
    ∃ arr1,(w.setCells b k vs).heap[b]? = some (.cells arr1 ty fz)∧arr1.size=arr.size∧(∀ j,arr1[j]? = if k≤j∧j < k+vs.length then vs[j - k]? else arr[j]?)∧(∀ q,q ≠ b→(w.setCells b k vs).heap[q]? = w.heap[q]?)∧(w.setCells b k vs).heap.size=w.heap.size ∧
      (w.setCells b k vs).os=w.os∧(w.setCells b k vs).tape=w.tape∧(w.setCells b k vs).output=w.output
  | [],k,w,arr,ty,fz,h,hl=>⟨arr,h,rfl,fun j=>by rw [if_neg (by simp)],fun _ _=>rfl,rfl,rfl,rfl,rfl⟩
  | v :: vs,k,w,arr,ty,fz,h,hl=>by
    simp only [List.length_cons] at hl
    have h1:(w.setCell ⟨b,k,none⟩ v).heap[b]? = some (.cells (arr.setIfInBounds k v) ty fz):=by
      simp [World.setCell,Array.getElem?_modify,h]
    obtain ⟨arr1,h2,h3,h4,h5,h6,h7,h8,h9⟩:=setCells_blk b vs (k+1) (w.setCell ⟨b,k,none⟩ v) _ ty fz h1 (by rw [Array.size_setIfInBounds];omega)
    refine ⟨arr1,h2,by rw [h3,Array.size_setIfInBounds],fun j => ?_,fun q hq => ?_,?_,h7,h8,h9⟩
    · rw [h4 j,List.length_cons]
      by_cases hj:k+1≤j∧j < k+1+vs.length
      · rw [if_pos hj,if_pos (by omega)]
        have:j - k=(j - (k+1))+1:=by omega
        rw [this,List.getElem?_cons_succ]
      · rw [if_neg hj]
        by_cases hk:j=k
        · subst hk
          rw [if_pos (by omega),Array.getElem?_setIfInBounds_self_of_lt (by omega)];simp
        · rw [if_neg (by omega),Array.getElem?_setIfInBounds_ne (by omega)]
    · rw [World.setCells,h5 q hq]
      exact Below.heap_setCell w ⟨b,k,none⟩ v q hq
    · rw [World.setCells,h6,World.size_setCell]
theorem rows_set_flatten {rows:List (List Lc)} {st r q:Nat} {row new:List Lc} (hst:∀ x,x∈rows→x.length=st) (hrow:rows[r]? = some row) (hl:q+new.length≤row.length) :
    (∀ x,x∈rows.set r (replaceAt row q new)→x.length=st)∧∀ j,(rows.set r (replaceAt row q new)).flatten[j]? = if r * st+q≤j∧j < r * st+q+new.length then new[j - (r * st+q)]? else rows.flatten[j]? := by
  have hrl:row.length=st:=hst row (List.mem_of_getElem? hrow)
  have hr:r < rows.length:=(List.getElem?_eq_some_iff.1 hrow).1
  have hst2:∀ x,x∈rows.set r (replaceAt row q new)→x.length=st:=by
    intro x hx
    rcases List.mem_or_eq_of_mem_set hx with h | h
    · exact hst x h
    · rw [h,replaceAt_length hl,hrl]
  refine ⟨hst2,fun j => ?_⟩
  have hF:∀ (rs:List (List Lc)),(∀ x,x∈rs→x.length=st)→rs.length=rows.length→∀ j,rs.length * st≤j→rs.flatten[j]? = none:=by
    intro rs h1 h2 j hj
    rw [List.getElem?_eq_none]
    rw [flatten_length_const h1];exact hj
  by_cases hj:j < rows.length * st
  · have h0:0 < st:=Nat.pos_of_ne_zero (fun h=>by rw [h,Nat.mul_zero] at hj;omega)
    have hd:j / st < rows.length:=by rw [Nat.div_lt_iff_lt_mul h0];exact hj
    have hm:j % st < st:=Nat.mod_lt _ h0
    have e:j=j / st * st+j % st:=by rw [Nat.mul_comm,Nat.div_add_mod]
    have f1:rows.flatten[j]? = (rows[j / st])[j % st]? := by
      have:=flatten_row hst (j / st) (j % st) rows[j / st] (List.getElem?_eq_getElem hd) hm
      rw [← e] at this;exact this
    by_cases hjr:j / st=r
    · have f2:(rows.set r (replaceAt row q new)).flatten[j]? = (replaceAt row q new)[j % st]? := by
        have:=flatten_row hst2 (j / st) (j % st) (replaceAt row q new) (by rw [hjr,List.getElem?_set_self hr]) hm
        rw [← e] at this;exact this
      have f3:rows[j / st]=row:=by
        have h7:=hrow
        rw [← hjr,List.getElem?_eq_getElem hd] at h7
        exact Option.some.inj h7
      rw [f2,f1,f3,replaceAt_get hl]
      rw [hjr] at e
      by_cases hc:q≤j % st∧j % st < q+new.length
      · rw [if_pos hc,if_pos (by omega)]
        congr 1;omega
      · rw [if_neg hc,if_neg (by omega)]
    · have f2:(rows.set r (replaceAt row q new)).flatten[j]? = (rows[j / st])[j % st]? := by
        have:=flatten_row hst2 (j / st) (j % st) rows[j / st] (by rw [List.getElem?_set_ne (by omega)];exact List.getElem?_eq_getElem hd) hm
        rw [← e] at this;exact this
      rw [f2,f1,if_neg]
      intro hc
      apply hjr
      have h5:r * st≤j:=by omega
      have h6:j < (r+1) * st:=by rw [Nat.add_mul];omega
      exact Nat.le_antisymm (by have:=(Nat.div_lt_iff_lt_mul h0).2 h6;omega) ((Nat.le_div_iff_mul_le h0).2 h5)
  · rw [hF _ hst2 (by simp) j (by simpa using hj),hF rows hst rfl j (by omega),if_neg]
    intro hc
    have:(r+1) * st≤rows.length * st:=Nat.mul_le_mul_right _ hr
    rw [Nat.add_mul] at this
    omega
theorem s_store {t : TypeId} {sz:Nat} {x y:Operand} {x1 y1:Od} (hr:Hr w S ρ G base) (hB:base.n≤w.heap.size) (hop:o.op=.store t x y) (hs:sizeT P t=some sz) (hx:RepV w S ρ G (ev x1) (a.eval x)) (hy:RepV w S ρ G (ev y1) (a.eval y))
    (hob:(semI P gl c d (.store sz x1 y1) ev G).ob):Res P o a w S ρ G base (semI P gl c d (.store sz x1 y1) ev G).v (apG G (semI P gl c d (.store sz x1 y1) ev G).ef):=by
  have hex:execOp a.eval o=(do Instr.storeAt t (a.eval x) (a.eval y);pure Next.skip:Sem Next):=by unfold execOp;rw [hop]
  generalize hO:semI P gl c d (.store sz x1 y1) ev G=out at hob ⊢
  simp only [semI] at hO
  split at hO
  · rename_i i n r q e1
    rw [e1] at hx
    split at hO
    · rename_i e hG
      split at hO
      · rename_i row hrow
        subst hO
        obtain ⟨h1,h2,h3,h4,h5⟩:=hob
        obtain ⟨b,hb,hu,hrl,hcell⟩:=ptr_cells hr hx hG h1 hrow
        have hc:=rep_cells h4 hy
        have hbk:=hr.blk i e hG
        rcases hbk.2 with ⟨h6,_⟩ | ⟨b1,arr,ty,fz,h6,h7,h8,h9,h10⟩
        · rw [h6] at hb;cases hb
        · rw [h6] at hb;cases hb
          have hcs:=hc.1
          have hlen:(a.eval y).cells.toList.length=sz:=by rw [Array.length_toList,hcs,h5]
          have hfit:∀ j,j < sz→r * e.st+q+j < arr.size:=by
            intro j hj
            obtain ⟨x,g1,_⟩:=hcell (q+j) (row[q+j]'(by omega)) (List.getElem?_eq_getElem (by omega))
            simp only [World.cell?,h8] at g1
            simp only [Option.isSome_none,Bool.false_eq_true,if_false] at g1
            have:=(Array.getElem?_eq_some_iff.1 g1).1
            omega
          obtain ⟨arr1,g1,g2,g3,g4,g5,g6,g7,g8⟩:=setCells_blk b (a.eval y).cells.toList (r * e.st+q) w arr ty fz h8 (by
            rw [hlen]
            rcases Nat.eq_zero_or_pos sz with hz | hz
            · subst hz
              by_cases hq:q < row.length
              · obtain ⟨x,k1,_⟩:=hcell q (row[q]'hq) (List.getElem?_eq_getElem hq)
                simp only [World.cell?,h8] at k1
                simp only [Option.isSome_none,Bool.false_eq_true,if_false] at k1
                have:=(Array.getElem?_eq_some_iff.1 k1).1
                omega
              · have hql:q=row.length:=by omega
                rcases Nat.eq_zero_or_pos q with h0 | h0
                · have hst0:e.st=0:=by omega
                  simp [hst0,h0]
                · obtain ⟨x,k1,_⟩:=hcell (q - 1) (row[q - 1]'(by omega)) (List.getElem?_eq_getElem (by omega))
                  simp only [World.cell?,h8] at k1
                  simp only [Option.isSome_none,Bool.false_eq_true,if_false] at k1
                  have:=(Array.getElem?_eq_some_iff.1 k1).1
                  omega
            · have:=hfit (sz - 1) (by omega);omega)
          have hrun:(Instr.storeAt t (a.eval x) (a.eval y)).run P w=.ok () (w.setCells b (r * e.st+q) (a.eval y).cells.toList):=by
            have hst:=run_storeCells_cells (P:=P) b (r * e.st+q) (a.eval y).cells.toList 0 w (fun j hj=>by
              have:=hfit j (by omega)
              simp [World.cell?,h8,this]) (fun j hj=>by
              have:=h9 h2 (r * e.st+q+j) (hfit j (by omega))
              simp only [World.frozen?,h8,Nat.add_zero]
              rw [Bool.eq_false_iff];simpa using this) (fun v hv=>by
              obtain ⟨j,hj⟩:=List.mem_iff_getElem?.1 hv
              rw [Array.getElem?_toList] at hj
              have hjl:j < (cellsV (ev y1)).length:=by have:=(Array.getElem?_eq_some_iff.1 hj).1;omega
              obtain ⟨z,hz1,hz2⟩:=hc.get (List.getElem?_eq_getElem hjl)
              rw [hj] at hz1;cases hz1
              exact hz2.one)
            have hcsz:(a.eval y).cells.size=sz:=by rw [hcs,h5]
            rw [hu]
            simp only [Instr.storeAt,Sem.run_bind,Instr.sureAddr,Sem.run_pure,Result.andThen_ok,storeVar,run_sizeT hs,hcsz,ne_eq,not_true_eq_false,if_false]
            simpa using hst
          obtain ⟨hst2,hfl⟩:=rows_set_flatten (q:=q) (new:=cellsV (ev y1)) hbk.1 hrow (by omega)
          obtain ⟨k1,k2⟩:=hr.upd (w1:=w.setCells b (r * e.st+q) (a.eval y).cells.toList) hB i ⟨e.st,e.rows.set r (replaceAt row q (cellsV (ev y1))),false⟩ (some b) (fun k _ hne=>g4 k (fun e=>hne (by rw [h6,e]))) (by rw [g5];exact Nat.le_refl _) (fun x hx=>by
              rw [hG] at hx;cases hx;exact ⟨h2,rfl,.inl ⟨by simp,h6.symm⟩⟩) (fun b2 arr2 ty2 fz2 hb2 hw2=>by
              rw [h6] at hb2;cases hb2
              rw [h8] at hw2;cases hw2
              exact ⟨arr1,ty,fz,g1,by omega⟩) (.inl h6.symm) rfl hst2 (.inr ⟨b,arr1,ty,fz,rfl,g1,by rw [g2];exact h9 h2,fun j lc hj=>by
                rw [hfl j] at hj
                rw [g3 j,hlen]
                by_cases hjc:r * e.st+q≤j∧j < r * e.st+q+(cellsV (ev y1)).length
                · rw [if_pos hjc] at hj
                  rw [if_pos (by omega)]
                  obtain ⟨x,k1,k2⟩:=hc.get hj
                  exact ⟨x,by rw [Array.getElem?_toList];exact k1,k2⟩
                · rw [if_neg hjc] at hj
                  rw [if_neg (by omega)]
                  exact h10 j lc hj⟩)
          exact ⟨undef,_,S,_,.inr ⟨exec_u hex hrun,rfl⟩,k1,k2,trivial,Bel.one g6 g7 g8 (by rw [g5];exact Nat.le_refl _) (hr.own i b h6) g4 h8 g1 (by omega),fun k hk=>.inl hk⟩
      · subst hO;exact hob.elim
    · subst hO;exact hob.elim
  · subst hO;exact hob.elim
end Go.Proofs.YtedibjgdangfnaaGreatDoor.V
end

section
namespace Go.Proofs.YtedibjgdangfnaaGreatDoor.V
open Go Go.RowKit
set_option linter.unusedVariables false
set_option linter.unusedSimpArgs false
variable {P:Program} {gl:Gl} {c:Ch} {d:Option Nat} {o:Oper} {a:Act} {w w1:World} {S S1:Nat→Prop} {ρ ρ1:Nat→Option Nat} {G G1:Hf} {base:Base} {ev:Od→Va}
theorem cells_list {rep:Sc→Value→Prop} {cells:List Sc} {b k:Nat} (h:∀ (j:Nat) sc,cells[j]? = some sc→∃ x,w.cell? ⟨b,k+j,none⟩=some x∧rep sc x) :
    ∃ vs:List Value,vs.length=cells.length∧(∀ (j:Nat) x,vs[j]? = some x→w.cell? ⟨b,k+j,none⟩=some x)∧∀ (j:Nat) sc,cells[j]? = some sc→∃ x,vs[j]? = some x∧rep sc x:=by
  refine ⟨(List.range cells.length).map fun j=>(w.cell? ⟨b,k+j,none⟩).getD undef,by simp,fun j x hj => ?_,fun j sc hj => ?_⟩
  · rw [List.getElem?_map,Option.map_eq_some_iff] at hj
    obtain ⟨i,hi,rfl⟩:=hj
    obtain ⟨hlt,rfl⟩:=List.getElem?_eq_some_iff.1 hi
    simp only [List.getElem_range]
    rw [List.length_range] at hlt
    obtain ⟨x,h1,_⟩:=h j _ (List.getElem?_eq_getElem hlt)
    rw [h1];rfl
  · obtain ⟨x,h1,h2⟩:=h j sc hj
    have hlt:=(List.getElem?_eq_some_iff.1 hj).1
    exact ⟨x,by rw [List.getElem?_map,List.getElem?_range hlt,Option.map_some,h1];rfl,h2⟩
theorem cells_listL {rep:Lc→Value→Prop} {cells:List Lc} {b k:Nat} (h:∀ (j:Nat) sc,cells[j]? = some sc→∃ x,w.cell? ⟨b,k+j,none⟩=some x∧rep sc x) :
    ∃ vs:List Value,vs.length=cells.length∧(∀ (j:Nat) x,vs[j]? = some x→w.cell? ⟨b,k+j,none⟩=some x)∧∀ (j:Nat) sc,cells[j]? = some sc→∃ x,vs[j]? = some x∧rep sc x:=by
  refine ⟨(List.range cells.length).map fun j=>(w.cell? ⟨b,k+j,none⟩).getD undef,by simp,fun j x hj => ?_,fun j sc hj => ?_⟩
  · rw [List.getElem?_map,Option.map_eq_some_iff] at hj
    obtain ⟨i,hi,rfl⟩:=hj
    obtain ⟨hlt,rfl⟩:=List.getElem?_eq_some_iff.1 hi
    simp only [List.getElem_range]
    rw [List.length_range] at hlt
    obtain ⟨x,h1,_⟩:=h j _ (List.getElem?_eq_getElem hlt)
    rw [h1];rfl
  · obtain ⟨x,h1,h2⟩:=h j sc hj
    have hlt:=(List.getElem?_eq_some_iff.1 hj).1
    exact ⟨x,by rw [List.getElem?_map,List.getElem?_range hlt,Option.map_some,h1];rfl,h2⟩
theorem one_of_len {cells:List Sc} {vs:List Value} (hl:vs.length=cells.length) (h:∀ (j:Nat) sc,cells[j]? = some sc→∃ x,vs[j]? = some x∧RepD w S sc x):∀ v∈vs,v.oneCell'=true:=by
  intro v hv
  obtain ⟨j,hj⟩:=List.mem_iff_getElem?.1 hv
  have hlt:j < cells.length:=by have:=(List.getElem?_eq_some_iff.1 hj).1;omega
  obtain ⟨x,h1,h2⟩:=h j _ (List.getElem?_eq_getElem hlt)
  rw [hj] at h1;cases h1
  exact h2.one
theorem src_of {tx e':TypeId} {size:Nat} {rows:List (List Sc)} {u:Value} (hk:P.underlying tx=some (.slice e')) (h:SlOk w S rows u) (hst:∀ r,r∈rows→r.length=size) :
    ∃ news,Src P size tx u rows.length news w∧∀ (j:Nat) sc,rows.flatten[j]? = some sc→∃ x,news[j]? = some x∧RepD w S sc x:=by
  obtain ⟨p,cap,b,k,st,rfl,hc,hp,_,hcell⟩:=h
  by_cases hne:rows=[]
  · subst hne
    cases p with
    | none=>exact ⟨[],Src.ofNil w hk cap,by simp⟩
    | some q=>exact ⟨[],Src.ofSlice w hk q 0 cap [] (by simp) (by simp) (by simp),by simp⟩
  · rw [hp hne]
    obtain ⟨vs,h1,h2,h3⟩:=cells_list hcell
    exact ⟨vs,Src.ofSlice w hk _ _ cap vs (by rw [h1,flatten_length_const hst]) (fun j x hj=>by rw [add_none];exact h2 j x hj) (one_of_len h1 h3),h3⟩
theorem src_str {tx:TypeId} {l:List UInt8} (hk:P.underlying tx=some .string):∃ news,Src P 1 tx (strV l) (l.map byteR).length news w∧∀ (j:Nat) sc,(l.map byteR).flatten[j]? = some sc→∃ x,news[j]? = some x∧RepD w S sc x:=by
  refine ⟨_,by rw [List.length_map];exact Src.ofString w hk ⟨⟨l⟩⟩,fun j sc hj => ?_⟩
  have hfl:(l.map byteR).flatten=l.map fun cc=>Sc.int .u8 cc.toNat:=by
    clear hj
    induction l with
    | nil=>rfl
    | cons x l ih=>rw [List.map_cons,List.flatten_cons,ih];rfl
  rw [hfl,List.getElem?_map,Option.map_eq_some_iff] at hj
  obtain ⟨cc,hcc,rfl⟩:=hj
  refine ⟨.int .u8 cc.toNat,?_,.int _ _⟩
  unfold byteCells
  rw [List.getElem?_map]
  show Option.map _ (l[j]?)=_
  rw [hcc];rfl
theorem run_grow {t tx ty e:TypeId} {i0:TypeInfo} {z:Value} (ht:P.underlying t=some (.slice e)) (hi:P.info? e=some i0) (hz:i0.zero=some z) (hzs:z.cells.size=i0.size) (hb0:0 < i0.bytes) {p:Option Addr} {n cap m:Nat} {olds news:List Value} {x:Value}
    (hol:olds.length=n * i0.size) (hold:p=none∧n=0∨∃ q,p=some q∧∀ (j:Nat) v,olds[j]? = some v→w.cell? (q.add j)=some v) (hs:Src P i0.size tx x m news w) (hg:cap < n+m) (hl:(n+m) * i0.bytes≤140737488355328) :
    ∃ cap1 arr,(Builtin.append_ #[t,tx] ty #[.slice p n cap,x]).run P w=.ok (.slice (some ⟨w.heap.size,0,none⟩) (n+m) cap1) (w.drew.alloc (.cells arr e))∧n+m≤cap1∧arr.size=cap1 * i0.size∧∀ j,j < (n+m) * i0.size→arr[j]? = (olds++news)[j]? := by
  have hnm:n+m≤140737488355328:=Nat.le_trans (Nat.le_mul_of_pos_right _ hb0) hl
  have hfit:Builtin.nextslicecap (n+m) cap * i0.bytes≤281474976710656:=by
    have:=Go.Room.nextslicecap_le' hg
    exact Nat.le_trans (Nat.mul_le_mul_right _ this) (by rw [Nat.mul_assoc];omega)
  have hfc:(Builtin.firstCells i0.size n (.slice p n cap)).run P w.drew=.ok olds.toArray w.drew:=by
    rcases hold with ⟨rfl,rfl⟩ | ⟨q,rfl,hq⟩
    · have:olds=[]:=List.eq_nil_of_length_eq_zero (by simpa using hol)
      subst this
      exact run_firstCells_none w.drew i0.size 0 0 cap
    · exact run_firstCells_some w.drew i0.size n q n cap olds hol (by simpa using hq)
  have hrun:=run_append_grow_src w t tx ty e i0 z ht hi hz p n cap olds hfc x m news hs hg (by omega) hfit
  have hgc:n+m≤grownCap w (n+m) cap e:=by unfold grownCap;simp only [Question.cut];exact Nat.le_add_right _ _
  have hnl:=hs.newsLen
  refine ⟨_,_,hrun,hgc,?_,fun j hj => ?_⟩
  · have hzc:(Builtin.zeroCells z.cells (grownCap w (n+m) cap e - (n+m))).size=(grownCap w (n+m) cap e - (n+m)) * i0.size:=by simp [Builtin.zeroCells,hzs]
    rw [Array.size_append,hzc,List.size_toArray,List.length_append,hol,hnl,← Nat.add_mul,← Nat.add_mul]
    congr 1;omega
  · rw [Array.getElem?_append_left (by rw [List.size_toArray,List.length_append,hol,hnl,← Nat.add_mul];exact hj)]
    simp
theorem map_d_flatten (rows:List (List Sc)):(rows.map (fun r=>r.map Lc.d)).flatten=rows.flatten.map Lc.d:=by rw [List.map_flatten]
set_option maxHeartbeats 2000000 in
theorem app_own {t tx e:TypeId} {i0:TypeInfo} {z:Value} {x y:Value} (hr:Hr w S ρ G base) (hB:base.n≤w.heap.size) (hex:∀ u w2,(Builtin.append_ #[t,tx] o.type #[x,y]).run P w=.ok u w2→(execOp a.eval o).run P w=.ok (.value u) w2)
    (ht:P.underlying t=some (.slice e)) (hi:P.info? e=some i0) (hz:i0.zero=some z) (hzs:z.cells.size=i0.size) (h0:0 < i0.size) (hb0:0 < i0.bytes) {i n:Nat} (hi0:i < 1000000) {E:Ent} {new:List (List Sc)} {news:List Value} (hx:RepV w S ρ G (.b (.s (.own i n))) x) (hG:G i=some E) (hn:n=E.rows.length) (hfz:E.fz=false) (hst:E.st=i0.size) (hnew:∀ r,r∈new→r.length=i0.size)
    (hl:(n+new.length) * i0.bytes≤140737488355328) (hs:Src P i0.size tx y new.length news w) (hnr:∀ (j:Nat) sc,new.flatten[j]? = some sc→∃ x,news[j]? = some x∧RepD w S sc x) :
    Res P o a w S ρ G base (.b (.s (.own i (n+new.length)))) (apG G [(i,⟨i0.size,E.rows++new.map (fun r=>r.map Lc.d),false⟩)]):=by
  have hbk:=hr.blk i E hG
  have hfl:(E.rows++new.map (fun r=>r.map Lc.d)).flatten=E.rows.flatten++new.flatten.map Lc.d:=by rw [List.flatten_append,map_d_flatten]
  have hofl:E.rows.flatten.length=n * i0.size:=by rw [flatten_length_const hbk.1,hst,hn]
  have hrow:∀ r,r∈E.rows++new.map (fun r=>r.map Lc.d)→r.length=i0.size:=by
    intro r hr
    rcases List.mem_append.1 hr with h | h
    · rw [hbk.1 r h,hst]
    · obtain ⟨q,hq,rfl⟩:=List.mem_map.1 h
      rw [List.length_map];exact hnew q hq
  have hlen:(E.rows++new.map (fun r=>r.map Lc.d)).length=n+new.length:=by rw [List.length_append,List.length_map,hn]
  cases hx with
  | own _ _ E1 _ hG1 hm hone hh =>
    rw [hG] at hG1;cases hG1
    obtain ⟨p,cap,rfl,hd⟩:=hh hn
    have hnl:=hs.newsLen
    by_cases hroom:n+new.length≤cap
    · rcases hd with ⟨hn0,hc0⟩ | ⟨b,arr,ty,fz,hb,rfl,hcap,hw,hsz⟩
      ·
        have hm0:new.length=0:=by omega
        have hne:new=[]:=List.eq_nil_of_length_eq_zero hm0
        subst hne
        have hne2:news=[]:=List.eq_nil_of_length_eq_zero (by rw [hnl];simp)
        subst hne2
        have hrun:=run_append_nothing (P:=P) w t tx o.type e i0 ht hi p n cap (by omega) y hs
        have he:E.rows=[]:=List.eq_nil_of_length_eq_zero (by omega)
        obtain ⟨k1,k2⟩:=hr.upd (w1:=w) hB i ⟨i0.size,E.rows++([]:List (List Sc)).map (fun r=>r.map Lc.d),false⟩ (ρ i) (fun k _ _=>rfl) (Nat.le_refl _) (fun x hx=>by rw [hG] at hx;cases hx;exact ⟨hfz,hst.symm,.inl ⟨by simp,rfl⟩⟩) (fun b arr ty fz _ h=>⟨arr,ty,fz,h,Nat.le_refl _⟩) (.inl rfl) rfl hrow (by
          rcases hbk.2 with ⟨h1,h2⟩ | ⟨b,arr,ty,fz,h1,_,h2,h3,h4⟩
          · exact .inl ⟨h1,by simp [he]⟩
          · exact .inr ⟨b,arr,ty,fz,h1,h2,h3 hfz,by simp [he]⟩)
        refine ⟨_,w,S,_,.inl (hex _ _ hrun),k1,k2,?_,Bel.refl _ _,fun k hk=>.inl hk⟩
        exact .own i _ _ _ (by simp [apG,updG];rfl) (by simp [he];omega) ⟨_,_,rfl⟩ (fun _=>⟨p,cap,rfl,.inl ⟨by simpa using hn0,hc0⟩⟩)
      ·
        rcases hbk.2 with ⟨h1,_⟩ | ⟨b1,arr1,ty1,fz1,h1,_,h2,h3,h4⟩
        · rw [h1] at hb;cases hb
        · rw [h1] at hb;cases hb
          rw [h2] at hw;cases hw
          rw [hst] at hsz
          have hnm:n * i0.size+new.length * i0.size≤arr.size:=by rw [← Nat.add_mul];exact Nat.le_trans (Nat.mul_le_mul_right _ hroom) hsz
          have hrun:=run_append_room_src (P:=P) w t tx o.type e i0 ht hi b 0 n cap y new.length news hs hroom (fun j hj=>by
            have:n * i0.size+j < arr.size:=by omega
            simp [World.cell?,h2,this]) (fun j hj=>by
            have:=h3 hfz (0+n * i0.size+j) (by omega)
            simp only [World.frozen?,h2]
            rw [Bool.eq_false_iff];simpa using this)
          obtain ⟨arr2,g1,g2,g3,g4,g5,g6,g7,g8⟩:=setCells_blk b news (0+n * i0.size) w arr ty fz h2 (by omega)
          obtain ⟨k1,k2⟩:=hr.upd (w1:=w.setCells b (0+n * i0.size) news) hB i ⟨i0.size,E.rows++new.map (fun r=>r.map Lc.d),false⟩ (some b) (fun k _ hne=>g4 k (fun e=>hne (by rw [h1,e]))) (by rw [g5];exact Nat.le_refl _) (fun x hx=>by
              rw [hG] at hx;cases hx
              refine ⟨hfz,hst.symm,?_⟩
              rw [hlen,← hn]
              rcases Nat.eq_zero_or_pos new.length with h5 | h5
              · exact .inl ⟨by omega,h1.symm⟩
              · exact .inr (by omega)) (fun b2 arr3 ty3 fz3 hb2 hw2=>by
              rw [h1] at hb2;cases hb2
              rw [h2] at hw2;cases hw2
              exact ⟨arr2,ty,fz,g1,by omega⟩) (.inl h1.symm) rfl hrow (.inr ⟨b,arr2,ty,fz,rfl,g1,by rw [g2];exact h3 hfz,fun j lc hj=>by
                rw [hfl] at hj
                rw [g3 j]
                by_cases hjn:j < n * i0.size
                · rw [List.getElem?_append_left (by omega)] at hj
                  rw [if_neg (by omega)]
                  exact h4 j lc hj
                · rw [List.getElem?_append_right (by omega),hofl,List.getElem?_map,Option.map_eq_some_iff] at hj
                  obtain ⟨sc,hj,rfl⟩:=hj
                  obtain ⟨x,k1,k2⟩:=hnr _ sc hj
                  have:=(List.getElem?_eq_some_iff.1 k1).1
                  rw [if_pos (by omega),show j - (0+n * i0.size)=j - n * i0.size by omega]
                  exact ⟨x,k1,.d _ _ k2⟩⟩)
          refine ⟨_,_,S,_,.inl (hex _ _ hrun),k1,k2,?_,Bel.one g6 g7 g8 (by rw [g5];exact Nat.le_refl _) (hr.own i b h1) g4 h2 g1 (by omega),fun k hk=>.inl hk⟩
          exact rep_own_new (st:=i0.size) (by simp [updR]) (by simp [apG,updG];rfl) rfl (by simp [hn]) hroom g1 (by rw [g2];exact hsz)
    ·
      have hcl:∃ olds:List Value,olds.length=n * i0.size∧(p=none∧n=0∨∃ q,p=some q∧∀ (j:Nat) v,olds[j]? = some v→w.cell? (q.add j)=some v)∧∀ (j:Nat) lc,E.rows.flatten[j]? = some lc→∃ x,olds[j]? = some x∧RepL w S ρ G lc x:=by
        rcases hd with ⟨hn0,hc0⟩ | ⟨b,arr,ty,fz,hb,rfl,hcap,hw,hsz⟩
        · subst hn0
          have he:E.rows=[]:=List.eq_nil_of_length_eq_zero (by omega)
          refine ⟨[],by simp,?_,by simp [he]⟩
          cases p with
          | none=>exact .inl ⟨rfl,rfl⟩
          | some q=>exact .inr ⟨q,rfl,by simp⟩
        · obtain ⟨vs,h1,h2,h3⟩:=cells_listL (w:=w) (rep:=RepL w S ρ G) (cells:=E.rows.flatten) (b:=b) (k:=0) (fun j sc hj=>by
            obtain ⟨x,k1,_,k3⟩:=hbk.cell hb hj
            exact ⟨x,by rw [Nat.zero_add];exact k1,k3⟩)
          exact ⟨vs,by rw [h1,hofl],.inr ⟨_,rfl,fun j v hj=>by rw [add_none];exact h2 j v hj⟩,h3⟩
      obtain ⟨olds,ho1,ho2,ho3⟩:=hcl
      obtain ⟨cap1,arr,hrun,hc1,hasz,harr⟩:=run_grow (P:=P) (w:=w) (ty:=o.type) (p:=p) (n:=n) (cap:=cap) ht hi hz hzs hb0 ho1 ho2 hs (by omega) hl
      have hheap:(w.drew.alloc (.cells arr e)).heap=w.heap.push (.cells arr e (0,0)):=rfl
      have hold:∀ k,k < w.heap.size→(w.drew.alloc (.cells arr e)).heap[k]? = w.heap[k]? := fun k hk=>by rw [hheap,Array.getElem?_push];rw [if_neg (by omega)]
      have hnew2:(w.drew.alloc (.cells arr e)).heap[w.heap.size]? = some (.cells arr e (0,0)):=by rw [hheap];simp
      have hszz:w.heap.size≤(w.drew.alloc (.cells arr e)).heap.size:=by rw [hheap,Array.size_push];omega
      obtain ⟨k1,k2⟩:=hr.upd (w1:=w.drew.alloc (.cells arr e)) hB i ⟨i0.size,E.rows++new.map (fun r=>r.map Lc.d),false⟩ (some w.heap.size) (fun k hk _=>hold k hk) hszz (fun x hx=>by
          rw [hG] at hx;cases hx
          refine ⟨hfz,hst.symm,.inr ?_⟩
          rw [hlen,← hn]
          rcases hd with ⟨hn0,hc0⟩ | ⟨b,arr,ty,fz,hb,_,hcap,hw,hsz⟩ <;> omega) (fun b2 arr3 ty3 fz3 hb2 hw2=>⟨arr3,ty3,fz3,(hold b2 (hr.bound hb2)).trans hw2,Nat.le_refl _⟩) (.inr ⟨_,rfl,Nat.le_refl _,hi0⟩) rfl hrow (.inr ⟨_,arr,e,(0,0),rfl,hnew2,by simp,fun j lc hj=>by
            rw [hfl] at hj
            have hjl:=(List.getElem?_eq_some_iff.1 hj).1
            rw [List.length_append,hofl,List.length_map,flatten_length_const hnew,← Nat.add_mul] at hjl
            rw [harr j hjl]
            by_cases hjn:j < n * i0.size
            · rw [List.getElem?_append_left (by omega)] at hj
              rw [List.getElem?_append_left (by omega)]
              exact ho3 j lc hj
            · rw [List.getElem?_append_right (by omega),hofl,List.getElem?_map,Option.map_eq_some_iff] at hj
              obtain ⟨sc,hj,rfl⟩:=hj
              obtain ⟨x,k1,k2⟩:=hnr _ sc hj
              rw [List.getElem?_append_right (by omega),ho1]
              exact ⟨x,k1,.d _ _ k2⟩⟩)
      refine ⟨_,_,S,_,.inl (hex _ _ hrun),k1,k2,?_,below_of hB rfl rfl rfl hszz hold,fun k hk=>.inl hk⟩
      exact rep_own_new (st:=i0.size) (by simp [updR]) (by simp [apG,updG];rfl) rfl (by simp [hn]) hc1 hnew2 (by rw [hasz];exact Nat.le_refl _)
theorem app_nil {t tx e:TypeId} {i0:TypeInfo} {z:Value} {x y:Value} (hr:Hr w S ρ G base) (hB:base.n≤w.heap.size) (hex:∀ u w2,(Builtin.append_ #[t,tx] o.type #[x,y]).run P w=.ok u w2→(execOp a.eval o).run P w=.ok (.value u) w2)
    (ht:P.underlying t=some (.slice e)) (hi:P.info? e=some i0) (hz:i0.zero=some z) (hzs:z.cells.size=i0.size) (h0:0 < i0.size) (hb0:0 < i0.bytes) {i:Nat} {new:List (List Sc)} {news:List Value} {p:Option Addr} (hx:x=.slice p 0 0) (hi0:i < 1000000) (hG:G i=none) (hnew:∀ r,r∈new→r.length=i0.size)
    (hl:new.length * i0.bytes≤140737488355328) (hs:Src P i0.size tx y new.length news w) (hnr:∀ (j:Nat) sc,new.flatten[j]? = some sc→∃ x,news[j]? = some x∧RepD w S sc x) :
    Res P o a w S ρ G base (.b (.s (.own i new.length))) (apG G [(i,⟨i0.size,new.map (fun r=>r.map Lc.d),false⟩)]):=by
  subst hx
  have hρ:ρ i=none:=by
    cases h:ρ i with
    | none=>rfl
    | some b=>exact absurd hG (hr.dom i b h)
  have hrow:∀ r,r∈new.map (fun r=>r.map Lc.d)→r.length=i0.size:=by
    intro r hr
    obtain ⟨q,hq,rfl⟩:=List.mem_map.1 hr
    rw [List.length_map];exact hnew q hq
  have hnl:=hs.newsLen
  rcases Nat.eq_zero_or_pos new.length with hm0 | hm0
  · have hne:new=[]:=List.eq_nil_of_length_eq_zero hm0
    subst hne
    have hne2:news=[]:=List.eq_nil_of_length_eq_zero (by rw [hnl];simp)
    subst hne2
    have hrun:=run_append_nothing (P:=P) w t tx o.type e i0 ht hi p 0 0 (Nat.le_refl _) y hs
    obtain ⟨k1,k2⟩:=hr.upd (w1:=w) hB i ⟨i0.size,([]:List (List Sc)).map (fun r=>r.map Lc.d),false⟩ none (fun k _ _=>rfl) (Nat.le_refl _) (fun x hx=>by rw [hG] at hx;cases hx) (fun b arr ty fz hb _=>by rw [hρ] at hb;cases hb) (.inl hρ.symm) rfl hrow (.inl ⟨rfl,rfl⟩)
    refine ⟨_,w,S,_,.inl (hex _ _ hrun),k1,k2,?_,Bel.refl _ _,fun k hk=>.inl hk⟩
    exact .own i _ _ _ (by simp [apG,updG];rfl) (by simp) ⟨_,_,rfl⟩ (fun _=>⟨p,0,rfl,.inl ⟨rfl,rfl⟩⟩)
  · have ho2:p=none∧0=0∨∃ q,p=some q∧∀ (j:Nat) v,([]:List Value)[j]? = some v→w.cell? (q.add j)=some v:=by
      cases p with
      | none=>exact .inl ⟨rfl,rfl⟩
      | some q=>exact .inr ⟨q,rfl,by simp⟩
    obtain ⟨cap1,arr,hrun,hc1,hasz,harr⟩:=run_grow (P:=P) (w:=w) (ty:=o.type) (n:=0) (cap:=0) (olds:=[]) ht hi hz hzs hb0 (by simp) ho2 hs (by omega) (by rw [Nat.zero_add];exact hl)
    rw [Nat.zero_add] at hrun hc1 harr
    refine Res.alloc (arr:=arr) (ty:=e) (fz:=(0,0)) hr hB (hex _ _ hrun) rfl ⟨rfl,rfl,rfl⟩ hi0 hG rfl hrow (by simp) (fun j lc hj => ?_) (fun hw=>rep_own_new (st:=i0.size) (by simp [updR]) (by simp [apG,updG];rfl) rfl (by simp) hc1 hw (by rw [hasz];exact Nat.le_refl _))
    rw [map_d_flatten] at hj
    have hjl:=(List.getElem?_eq_some_iff.1 hj).1
    rw [List.length_map,flatten_length_const hnew] at hjl
    rw [List.getElem?_map,Option.map_eq_some_iff] at hj
    obtain ⟨sc,hj,rfl⟩:=hj
    obtain ⟨x,k1,k2⟩:=hnr _ sc hj
    rw [harr j hjl]
    exact ⟨x,by simpa using k1,.d _ _ k2⟩
theorem app_full {t tx e:TypeId} {i0:TypeInfo} {z:Value} {x y:Value} (hr:Hr w S ρ G base) (hB:base.n≤w.heap.size) (hex:∀ u w2,(Builtin.append_ #[t,tx] o.type #[x,y]).run P w=.ok u w2→(execOp a.eval o).run P w=.ok (.value u) w2)
    (ht:P.underlying t=some (.slice e)) (hi:P.info? e=some i0) (hz:i0.zero=some z) (hzs:z.cells.size=i0.size) (h0:0 < i0.size) (hb0:0 < i0.bytes) {rows new:List (List Sc)} {news:List Value} {p:Option Addr} (hx:x=.slice p rows.length rows.length) (hrep:RepD w S (.sl rows) x) (hrows:∀ r,r∈rows→r.length=i0.size) (hnew:∀ r,r∈new→r.length=i0.size)
    (hl:(rows.length+new.length) * i0.bytes≤140737488355328) (hs:Src P i0.size tx y new.length news w) (hnr:∀ (j:Nat) sc,new.flatten[j]? = some sc→∃ x,news[j]? = some x∧RepD w S sc x) :
    Res P o a w S ρ G base (.b (.s (.d (.sl (rows++new))))) G:=by
  have hnl:=hs.newsLen
  rcases Nat.eq_zero_or_pos new.length with hm0 | hm0
  · have hne:new=[]:=List.eq_nil_of_length_eq_zero hm0
    subst hne
    have hne2:news=[]:=List.eq_nil_of_length_eq_zero (by rw [hnl];simp)
    subst hne2
    have hrun:=run_append_nothing (P:=P) w t tx o.type e i0 ht hi p rows.length rows.length (Nat.le_refl _) y hs
    rw [← hx] at hrun
    refine Res.pure hr (hex _ _ hrun) (.d _ _ ?_)
    rw [List.append_nil];exact hrep
  · obtain ⟨p1,cap,b,k,st,hu,hc,hp,_,hcell⟩:=SlOk.of_rep hrep
    have hpp:p1=p:=by rw [hx] at hu;injection hu with h1 _ _;exact h1.symm
    subst hpp
    have hcl:∃ olds:List Value,olds.length=rows.length * i0.size∧(p1=none∧rows.length=0∨∃ q,p1=some q∧∀ (j:Nat) v,olds[j]? = some v→w.cell? (q.add j)=some v)∧∀ (j:Nat) sc,rows.flatten[j]? = some sc→∃ x,olds[j]? = some x∧RepD w S sc x:=by
      by_cases hne:rows=[]
      · subst hne
        refine ⟨[],by simp,?_,by simp⟩
        cases p1 with
        | none=>exact .inl ⟨rfl,rfl⟩
        | some q=>exact .inr ⟨q,rfl,by simp⟩
      · obtain ⟨vs,h1,h2,h3⟩:=cells_list hcell
        exact ⟨vs,by rw [h1,flatten_length_const hrows],.inr ⟨_,hp hne,fun j v hj=>by rw [add_none];exact h2 j v hj⟩,h3⟩
    obtain ⟨olds,ho1,ho2,ho3⟩:=hcl
    obtain ⟨cap1,arr,hrun,hc1,hasz,harr⟩:=run_grow (P:=P) (w:=w) (ty:=o.type) (p:=p1) (n:=rows.length) (cap:=rows.length) ht hi hz hzs hb0 ho1 ho2 hs (by omega) hl
    rw [← hx] at hrun
    have hheap:(w.drew.alloc (.cells arr e)).heap=w.heap.push (.cells arr e (0,0)):=rfl
    have hold:∀ k,k < w.heap.size→(w.drew.alloc (.cells arr e)).heap[k]? = w.heap[k]? := fun k hk=>by rw [hheap,Array.getElem?_push];rw [if_neg (by omega)]
    have hnew2:(w.drew.alloc (.cells arr e)).heap[w.heap.size]? = some (.cells arr e (0,0)):=by rw [hheap];simp
    have hszz:(w.drew.alloc (.cells arr e)).heap.size=w.heap.size+1:=by rw [hheap,Array.size_push]
    obtain ⟨k1,k2⟩:=hr.step (w1:=w.drew.alloc (.cells arr e)) (S1:=fun k=>S k∨k=w.heap.size) hold (by omega) (fun k hk=>.inl hk) (fun k hk=>by
      rcases hk with hk | hk
      · have:=hr.lt k hk;exact ⟨.inl hk,by omega⟩
      · exact ⟨.inr (by omega),by omega⟩)
    have hlen:(rows++new).length=rows.length+new.length:=List.length_append
    have hfll:(rows++new).flatten.length=(rows.length+new.length) * i0.size:=by rw [List.flatten_append,List.length_append,flatten_length_const hrows,flatten_length_const hnew,← Nat.add_mul]
    have hcells:∀ (j:Nat) sc,(rows++new).flatten[j]? = some sc→∃ x,arr[j]? = some x∧RepD w S sc x:=by
      intro j sc hj
      have hjl:=(List.getElem?_eq_some_iff.1 hj).1
      rw [hfll] at hjl
      rw [List.flatten_append] at hj
      rw [harr j hjl]
      have hrl:=flatten_length_const hrows
      by_cases hjn:j < rows.length * i0.size
      · rw [List.getElem?_append_left (by omega)] at hj
        rw [List.getElem?_append_left (by omega)]
        exact ho3 j sc hj
      · rw [List.getElem?_append_right (by omega),hrl] at hj
        rw [List.getElem?_append_right (by omega),ho1]
        exact hnr _ sc hj
    refine ⟨_,_,_,ρ,.inl (hex _ _ hrun),k1,k2,?_,below_of hB rfl rfl rfl (by omega) hold,fun k hk=>hk.elim .inl (fun h=>.inr (hr.fresh hB (by omega)))⟩
    refine .d _ _ ?_
    rw [← hlen]
    refine .sl (rows++new) _ cap1 i0.size w.heap.size 0 (fun j=>(arr[j]?).getD undef) (by omega) (fun h=>by cases h) (fun r hr=>by
      rcases List.mem_append.1 hr with h | h
      · exact hrows r h
      · exact hnew r h) (fun _=>⟨rfl,.inr rfl⟩) (fun j sc hj => ?_) (fun j sc hj => ?_)
    · obtain ⟨x,g1,g2⟩:=hcells j sc hj
      simp only [World.cell?,hnew2,Nat.zero_add,g1];rfl
    · obtain ⟨x,g1,g2⟩:=hcells j sc hj
      rw [g1]
      exact g2.mono (fun k hk=>.inl hk) (fun k hk=>hold k (hr.lt k hk))
theorem s_app {t tx e:TypeId} {dx:TypeDesc} {i0:TypeInfo} {str:Bool} {x y:Operand} {x1 y1:Od} {zv:Value} {zl:List Lc} (hr:Hr w S ρ G base) (hB:base.n≤w.heap.size) (hdN:∀ i,d=some i→i < 1000000) (hop:o.op=.call { callee:=.builtin .append,args := #[x,y],argTypes := #[t,tx] }) (ht:P.underlying t=some (.slice e)) (hi:P.info? e=some i0) (hz:i0.zero=some zv) (hzl:kLcs zv.cells.toList=some zl) (hzs:zl.length=i0.size) (h0:0 < i0.size) (hb0:0 < i0.bytes)
    (htx:P.underlying tx=some dx) (hd:(str=true∧dx=.string∧i0.size=1)∨(str=false∧∃ e',dx=.slice e')) (hx:RepV w S ρ G (ev x1) (a.eval x)) (hy:RepV w S ρ G (ev y1) (a.eval y))
    (hob:(semI P gl c d (.app i0.size i0.bytes str x1 y1) ev G).ob):Res P o a w S ρ G base (semI P gl c d (.app i0.size i0.bytes str x1 y1) ev G).v (apG G (semI P gl c d (.app i0.size i0.bytes str x1 y1) ev G).ef):=by
  have hex0:execOp a.eval o=(do pure (Next.value (← Builtin.append_ #[t,tx] o.type #[a.eval x,a.eval y])):Sem Next):=by
    unfold execOp;rw [hop]
    simp [resolve,invoke,builtin]
  have hex:∀ u w2,(Builtin.append_ #[t,tx] o.type #[a.eval x,a.eval y]).run P w=.ok u w2→(execOp a.eval o).run P w=.ok (.value u) w2:=fun u w2 h=>exec_v hex0 h
  have hzsz:zv.cells.size=i0.size:=by rw [← hzs,(kLcs_rep (w:=w) (S:=S) (ρ:=ρ) (G:=G) hzl).1,Array.length_toList]
  generalize hO:semI P gl c d (.app i0.size i0.bytes str x1 y1) ev G=out at hob ⊢
  simp only [semI] at hO
  have hsrc:∀ new:List (List Sc),newV G str (ev y1)=some new→(∀ r,r∈new→r.length=i0.size)→∃ news,Src P i0.size tx (a.eval y) new.length news w∧∀ (j:Nat) sc,new.flatten[j]? = some sc→∃ x,news[j]? = some x∧RepD w S sc x:=by
    intro new hnew hlen
    unfold newV at hnew
    rcases hd with ⟨hs,rfl,h1⟩ | ⟨hs,e',rfl⟩
    · rw [if_pos hs] at hnew
      split at hnew
      · rename_i l e2
        cases hnew
        rw [e2,rep_str] at hy
        rw [h1,hy]
        exact src_str htx
      · cases hnew
    · rw [hs,if_neg (by simp)] at hnew
      exact src_of htx (rowsV_ok hr hnew hy) hlen
  split at hO
  · subst hO;exact hob.elim
  · rename_i new hnew
    split at hO
    · rename_i i n e1
      rw [e1] at hx
      split at hO
      · rename_i E hG
        subst hO
        obtain ⟨g0,g1,g2,g3,g4,g5⟩:=hob
        obtain ⟨news,hs,hnr⟩:=hsrc new hnew g4
        exact app_own hr hB hex ht hi hz hzsz h0 hb0 g0 hx hG g1 g2 g3 g4 g5 hs hnr
      · subst hO;exact hob.elim
    · rename_i e1
      rw [e1] at hx
      split at hO
      · rename_i i
        subst hO
        obtain ⟨g1,g2,g3⟩:=hob
        obtain ⟨news,hs,hnr⟩:=hsrc new hnew g2
        have hp:a.eval x=.slice none 0 0:=by
          generalize a.eval x=u at hx
          cases hx;rfl
        exact app_nil hr hB hex ht hi hz hzsz h0 hb0 hp (hdN _ rfl) g1 g2 g3 hs hnr
      · subst hO;exact hob.elim
    · rename_i rows e1
      rw [e1] at hx
      subst hO
      obtain ⟨g1,g2,g3⟩:=hob
      obtain ⟨news,hs,hnr⟩:=hsrc new hnew g2
      obtain ⟨p,hp,hrep⟩:∃ p,a.eval x=.slice p rows.length rows.length∧RepD w S (.sl rows) (a.eval x):=by
        generalize a.eval x=u at hx
        cases hx with | full _ p h=>exact ⟨p,rfl,h⟩
      exact app_full hr hB hex ht hi hz hzsz h0 hb0 hp hrep g1 g2 g3 hs hnr
    · subst hO;exact hob.elim
end Go.Proofs.YtedibjgdangfnaaGreatDoor.V
end

section
namespace Go.Proofs.YtedibjgdangfnaaGreatDoor.V
open Go Go.RowKit
set_option linter.unusedVariables false
set_option linter.unusedSimpArgs false
variable {P:Program} {gl:Gl} {c:Ch} {d:Option Nat} {o:Oper} {a:Act} {w w1:World} {S S1:Nat→Prop} {ρ ρ1:Nat→Option Nat} {G G1:Hf} {base:Base} {ev:Od→Va}
theorem zeroT_some {t:TypeId} {z:List Lc} (h:zeroT P t=some z):∃ zv,(P.info? t).bind (·.zero)=some zv∧kLcs zv.cells.toList=some z:=by
  unfold zeroT at h
  exact Option.bind_eq_some_iff.1 h
theorem mpGet_ok {K:IntKind} {n:Int}:∀ {rows:List (List Sc)} {es:List MapEntry} {i0:Nat} {res:Option Sc},es.length=rows.length→(∀ (j:Nat) k v e,rows[j]? = some [k,v]→es[j]? = some e→RepD w S k e.key)→(∀ (j:Nat) k v e,rows[j]? = some [k,v]→es[j]? = some e→RepD w S v e.val)→mpGet K n rows=some res →
    ∃ q,Instr.findNow (.int K) (.int K n) es i0=some q∧match res with | none=>q=none | some v=>∃ i u,q=some (i,u)∧RepD w S v u
  | [],es,i0,res,hl,_,_,h=>by
    simp only [mpGet,Option.some.injEq] at h;subst h
    have:es=[]:=List.eq_nil_of_length_eq_zero hl
    subst this
    exact ⟨none,rfl,rfl⟩
  | row :: l, es,i0,res,hl,hk,hv,h=>by
    cases es with
    | nil=>simp at hl
    | cons e es =>
      unfold mpGet at h
      split at h
      · rename_i heq;cases heq
      · rename_i k j v l2 heq
        cases heq
        split at h
        · rename_i hkK
          subst hkK
          have h1:=hk 0 _ _ e rfl rfl
          have he:e.key=.int k j:=by cases hq:e.key <;> rw [hq] at h1 <;> cases h1;rfl
          unfold Instr.findNow
          rw [he]
          simp only [Instr.sameNow,if_true]
          cases hnj:(n == j) with
          | true =>
            rw [hnj] at h
            simp only [if_true,Option.some.injEq] at h;subst h
            exact ⟨_,rfl,_,_,rfl,hv 0 _ _ e rfl rfl⟩
          | false =>
            rw [hnj] at h
            simp only [Bool.false_eq_true,if_false] at h
            exact mpGet_ok (by simpa using hl) (fun j k v e h1 h2=>hk (j+1) k v e (by simpa using h1) (by simpa using h2)) (fun j k v e h1 h2=>hv (j+1) k v e (by simpa using h1) (by simpa using h2)) h
        · cases h
      · cases h
theorem s_lkm {t kt et:TypeId} {k:IntKind} {x ix:Operand} {zv:Value} {z:Sc} {x1 i1:Od} (hr:Hr w S ρ G base) (hop:o.op=.lookup t x ix true) (ht:P.underlying t=some (.map kt et)) (hk:P.underlying kt=some (.int k)) (hz:(P.info? et).bind (·.zero)=some zv) (hzk:kLc zv=some (.d z)) (hx:RepV w S ρ G (ev x1) (a.eval x)) (hi:RepV w S ρ G (ev i1) (a.eval ix))
    (hob:(semI P gl c d (.lkm k z x1 i1) ev G).ob):Res P o a w S ρ G base (semI P gl c d (.lkm k z x1 i1) ev G).v (apG G (semI P gl c d (.lkm k z x1 i1) ev G).ef):=by
  have hex:execOp a.eval o=(do pure (Next.value (← Instr.lookup t (a.eval x) (a.eval ix) true)):Sem Next):=by unfold execOp;rw [hop]
  have hzr:(zeroValue et).run P w=.ok zv w:=by
    obtain ⟨i,hi,hi2⟩:=Option.bind_eq_some_iff.1 hz
    simp [zeroValue,typeInfo,hi,hi2]
  generalize hO:semI P gl c d (.lkm k z x1 i1) ev G=out at hob ⊢
  simp only [semI] at hO
  split at hO
  · rename_i rows K n e1 e2
    rw [e1] at hx
    rw [e2] at hi
    have hi2:a.eval ix=.int K n:=by
      have:RepL w S ρ G (.d (.int K n)) (a.eval ix):=hi
      generalize a.eval ix=q at this ⊢
      cases this with | d _ _ h=>cases h;rfl
    obtain ⟨r,clock,es,hxe,hw,hl,hkk,hvv⟩:∃ r clock,∃ es:Array MapEntry,a.eval x=.map (some r)∧w.heap[r]? = some (.map es clock)∧es.size=rows.length∧(∀ (j:Nat) k v e,rows[j]? = some [k,v]→es[j]? = some e→RepD w S k e.key)∧∀ (j:Nat) k v e,rows[j]? = some [k,v]→es[j]? = some e→RepD w S v e.val:=by
      have:RepL w S ρ G (.d (.mp rows)) (a.eval x):=hx
      generalize a.eval x=q at this ⊢
      cases this with | d _ _ h=>cases h with | mp _ r clock es _ hw hl hk hv=>exact ⟨r,clock,es,rfl,hw,hl,hk,hv⟩
    have key:∀ res,mpGet K n rows=some res→K=k→∃ v b,(Instr.lookup t (a.eval x) (a.eval ix) true).run P w=.ok (.tuple #[v,.bool b]) w∧match res with | some v1=>b=true∧RepD w S v1 v | none=>b=false∧v=zv:=by
      intro res hres hKk
      subst hKk
      obtain ⟨q,hq,hq2⟩:=mpGet_ok (i0:=0) (es:=es.toList) (by simpa using hl) (fun j k v e h1 h2=>hkk j k v e h1 (by simpa using h2)) (fun j k v e h1 h2=>hvv j k v e h1 (by simpa using h2)) hres
      have hc:∀ e,(Instr.checkKey e 10000 kt (.int K n)).run P w=.ok () w:=fun e=>MapKept.run_checkKey (k:=.int K n) hk (by simp [MapKept.IsKey]) e 9999
      rw [hxe,hi2]
      cases res with
      | none =>
        have hq2:q=none:=hq2
        subst hq2
        refine ⟨zv,false,?_,rfl,rfl⟩
        simp [Instr.lookup,run_underlying ht,MapKept.run_getObj_map hw,hc,MapKept.run_findKey hk hq,hzr,Result.andThen]
      | some v1 =>
        obtain ⟨i,u,hq3,hu⟩:=hq2
        subst hq3
        refine ⟨u,true,?_,rfl,hu⟩
        simp [Instr.lookup,run_underlying ht,MapKept.run_getObj_map hw,hc,MapKept.run_findKey hk hq,Result.andThen]
    have two:∀ {v:Value} {b:Bool} {s:Sc},RepD w S s v→RepV w S ρ G (.tup [.s (.d s),.s (.d (.bool b))]) (.tuple #[v,.bool b]):=by
      intro v b s h
      refine ⟨_,rfl,rfl,fun j x hj => ?_⟩
      match j,hj with
      | 0,hj=>cases hj;exact .d _ _ h
      | 1,hj=>cases hj;exact .d _ _ (.bool b)
    split at hO
    · rename_i v hv
      subst hO
      obtain ⟨u,b,hrun,hb,hu⟩:=key _ hv hob
      subst hb
      exact Res.pure hr (exec_v hex hrun) (two hu)
    · rename_i hv
      subst hO
      obtain ⟨u,b,hrun,hb,hu⟩:=key _ hv hob
      subst hb;subst hu
      refine Res.pure hr (exec_v hex hrun) (two ?_)
      have:=kLc_rep (w:=w) (S:=S) (ρ:=ρ) (G:=G) hzk
      cases this with | d _ _ h=>exact h
    · subst hO;exact hob.elim
  · subst hO;exact hob.elim
set_option maxHeartbeats 2000000 in
theorem sem_ok {ins:Ins} (hr:Hr w S ρ G base) (hB:base.n≤w.heap.size) (hdN:∀ i,d=some i→i < 1000000) (hc:cIns P o=some ins) (hnc:∀ f l,ins ≠ .call f l) (hd:d=o.dst) (hev:EvOk w S ρ G ev a (opsOf ins))
    (hob:(semI P gl c d ins ev G).ob):Res P o a w S ρ G base (semI P gl c d ins ev G).v (apG G (semI P gl c d ins ev G).ef):=by
  unfold cIns at hc
  split at hc
  case h_1 x hop =>
    obtain ⟨od,h1,rfl⟩:=Option.map_eq_some_iff.1 hc
    exact s_mv hr (.inl hop) (hev x od (by simp [opsOf]) h1)
  case h_2 x hop =>
    obtain ⟨od,h1,rfl⟩:=Option.map_eq_some_iff.1 hc
    exact s_mv hr (.inr hop) (hev x od (by simp [opsOf]) h1)
  case h_3 p x y hop =>
    split at hc
    · rename_i p1 x1 y1 h1 h2 h3
      cases hc
      exact s_pick hr hop (hev _ _ (by simp [opsOf]) h1) (hev _ _ (by simp [opsOf]) h2) (hev _ _ (by simp [opsOf]) h3) hob
    · cases hc
  case h_4 e hop =>
    obtain ⟨z,h1,rfl⟩:=Option.map_eq_some_iff.1 hc
    obtain ⟨zv,h2,h3⟩:=zeroT_some h1
    exact s_new hr hB hdN hd hop h2 h3 hob
  case h_5 e x hop =>
    split at hc
    · rename_i s x1 h1 h2
      cases hc
      exact s_box hr hB hdN hop (hev _ _ (by simp [opsOf]) h2) hob
    · cases hc
  case h_6 t parts hop =>
    split at hc
    · rename_i fs z h1 h2
      split at hc
      · rename_i hfs
        obtain ⟨l,h3,rfl⟩:=Option.map_eq_some_iff.1 hc
        obtain ⟨zv,h4,h5⟩:=zeroT_some h2
        exact s_build hr hop h1 h4 h5 (.inl ⟨fs,rfl,hfs,rfl⟩) h3 hev hob
      · cases hc
    · rename_i n e z h1 h2
      split at hc
      · rename_i s hs
        obtain ⟨l,h3,rfl⟩:=Option.map_eq_some_iff.1 hc
        obtain ⟨zv,h4,h5⟩:=zeroT_some h2
        exact s_build hr hop h1 h4 h5 (.inr ⟨n,e,s,rfl,hs,rfl⟩) h3 hev hob
      · cases hc
    · cases hc
  case h_7 t n parts hop =>
    split at hc
    · rename_i e ht
      split at hc
      · rename_i s z l h1 h2 h3
        split at hc
        · rename_i hh
          cases hc
          obtain ⟨zv,h4,h5⟩:=zeroT_some h2
          exact s_bsl hr hB hdN hop ht h1 h4 h5 hh.2.2.1 hh.2.2.2 h3 hh.1 hh.2.1 hev hob
        · cases hc
      · cases hc
    · cases hc
  case h_8 t x hop =>
    split at hc
    · rename_i g s x1 h1 h2 h3
      split at hc
      · rename_i hh
        cases hc
        exact s_load hr hop h1 h2 hh (hev _ _ (by simp [opsOf]) h3) hob
      · cases hc
    · cases hc
  case h_9 t x y hop =>
    split at hc
    · rename_i s x1 y1 h1 h2 h3
      cases hc
      exact s_store hr hB hop h1 (hev _ _ (by simp [opsOf]) h2) (hev _ _ (by simp [opsOf]) h3) hob
    · cases hc
  case h_10 x hop =>
    obtain ⟨od,h1,rfl⟩:=Option.map_eq_some_iff.1 hc
    exact s_nilc hr hop (hev _ _ (by simp [opsOf]) h1) hob
  case h_11 op t x y t2 hop =>
    split at hc
    · rename_i e x1 y1 h0 h1 h2
      cases hc
      exact s_bnil hr hop h0 (hev _ _ (by simp [opsOf]) h1) (hev _ _ (by simp [opsOf]) h2) hob
    · rename_i fs x1 y1 h0 h1 h2
      split at hc
      · cases hc
      · rename_i hsh
        obtain ⟨ks,hk,rfl⟩:=Option.map_eq_some_iff.1 hc
        exact s_bagg hr hop h0 (by simpa using hsh) hk (hev _ _ (by simp [opsOf]) h1) (hev _ _ (by simp [opsOf]) h2) hob
    · cases hc
    · rename_i h0 h1 h2
      cases hc
      exact s_bic (cOd_c h2) hr hop h0 (hev _ _ (by simp [opsOf]) h1) (hev _ _ (by simp [opsOf]) h2) hob
    · cases hc
    · rename_i h0 h1 h2
      cases hc
      exact s_bbo hr hop h0 (hev _ _ (by simp [opsOf]) h1) (hev _ _ (by simp [opsOf]) h2) hob
    · rename_i h1 h2
      cases hc
      exact s_bin hr hop (hev _ _ (by simp [opsOf]) h1) (hev _ _ (by simp [opsOf]) h2) hob
    · cases hc
  case h_12 op t x hop =>
    obtain ⟨od,h1,rfl⟩:=Option.map_eq_some_iff.1 hc
    exact s_un hr hop (hev _ _ (by simp [opsOf]) h1) hob
  case h_13 src dst x hop =>
    split at hc
    · rename_i ds k x1 h1 h2 h3
      cases hc
      exact s_cvI hr hop h1 h2 (hev _ _ (by simp [opsOf]) h3) hob
    · rename_i x1 _ h1 h2 h3
      cases hc
      exact s_cvS hr hop h1 h2 (hev _ _ (by simp [opsOf]) h3) hob
    · rename_i e x1 h1 h2 h3
      split at hc
      · rename_i he
        cases hc
        exact s_b2s hr hop h1 h2 he (hev _ _ (by simp [opsOf]) h3) hob
      · cases hc
    · rename_i e x1 _ h1 h2 h3
      split at hc
      · rename_i he
        cases hc
        exact s_s2b hr hB hdN hop h1 h2 he (hev _ _ (by simp [opsOf]) h3) hob
      · cases hc
    · cases hc
  case h_14 t x hop =>
    split at hc
    · cases hc
    · rename_i dt x1 hni h1 h2
      cases hc
      exact s_mkif hr hop h1 (fun ms h=>hni ms h) (hev _ _ (by simp [opsOf]) h2) hob
    · cases hc
  case h_15 f first caps hop =>
    split at hc
    · rename_i hf
      obtain ⟨l,h1,rfl⟩:=Option.map_eq_some_iff.1 hc
      exact s_mkfn hr hop hf h1 hev hob
    · cases hc
  case h_16 name first caps hop =>
    split at hc
    · rename_i x h2 h3
      obtain ⟨od,h1,rfl⟩:=Option.map_eq_some_iff.1 hc
      exact s_mkm hr hop h2 h3 (hev _ _ (by simp [opsOf]) h1) hob
    · cases hc
  case h_17 t x y hop =>
    split at hc
    · rename_i e ht
      split at hc
      · rename_i i z x1 y1 h1 h2 h3 h4
        split at hc
        · rename_i h0
          cases hc
          obtain ⟨zv,h5,h6⟩:=zeroT_some h2
          rw [h1] at h5
          exact s_mksl hr hB hdN hop ht h1 h5 h6 h0 (hev _ _ (by simp [opsOf]) h3) (hev _ _ (by simp [opsOf]) h4) hob
        · cases hc
      · cases hc
    · cases hc
  case h_18 t x lo hi mx hop =>
    split at hc
    · cases hc
    · rename_i dt k x1 lo1 hi1 mx1 hna h1 h2 h3 h4 h5 h6
      cases hc
      exact s_slc hr hop h1 (fun n e h=>hna n e h) h2 h3 h4 h5 h6 hev hob
    · cases hc
  case h_19 s x f hop =>
    split at hc
    · rename_i fs x1 h1 h2
      split at hc
      · rename_i fd h3
        split at hc
        · rename_i n h4
          split at hc
          · cases hc
          · rename_i hn
            cases hc
            exact s_fadr hr hop h1 h3 h4 hn (hev _ _ (by simp [opsOf]) h2) hob
        · cases hc
      · cases hc
    · cases hc
  case h_20 t x i hop =>
    split at hc
    · rename_i k x1 i1 h1 h2 h3
      cases hc
      exact s_iadr hr hop h1 (hev _ _ (by simp [opsOf]) h2) (hev _ _ (by simp [opsOf]) h3) hob
    · cases hc
  case h_21 t x f hop =>
    split at hc
    · rename_i fs x1 h1 h2
      split at hc
      · rename_i fd h3
        split at hc
        · rename_i n g h4 h5
          cases hc
          exact s_fld hr hop h1 h3 h4 h5 (hev _ _ (by simp [opsOf]) h2) hob
        · cases hc
      · cases hc
    · cases hc
  case h_22 t x i hop =>
    split at hc
    · rename_i x1 i1 h1 h2 h3
      cases hc
      exact s_idx hr hop h1 (hev _ _ (by simp [opsOf]) h2) (hev _ _ (by simp [opsOf]) h3) hob
    · rename_i n s g x1 i1 h1 h2 h3
      cases hc
      exact s_idx hr hop h1 (hev _ _ (by simp [opsOf]) h2) (hev _ _ (by simp [opsOf]) h3) hob
    · cases hc
  case h_23 x i hop =>
    obtain ⟨od,h1,rfl⟩:=Option.map_eq_some_iff.1 hc
    exact s_ext hr hop (hev _ _ (by simp [opsOf]) h1) hob
  case h_24 args ts hop =>
    split at hc
    · rename_i x t h1 h2
      obtain rfl:args = #[x]:=Array.toList_inj.1 h1
      obtain rfl:ts = #[t]:=Array.toList_inj.1 h2
      split at hc
      · rename_i h3 h4
        cases hc
        exact s_len hr hop h3 (.inr (.inr ⟨_,_,_,_,rfl,rfl⟩)) (hev _ _ (by simp [opsOf]) h4) hob
      · rename_i h3 _ h4
        cases hc
        exact s_len hr hop h3 (.inl ⟨rfl,rfl⟩) (hev _ _ (by simp [opsOf]) h4) hob
      · rename_i e k x1 h3 _ h4
        cases hc
        exact s_len hr hop h3 (.inr (.inl ⟨_,_,rfl,rfl⟩)) (hev _ _ (by simp [opsOf]) h4) hob
      · cases hc
    · cases hc
  case h_25 args ts hop =>
    split at hc
    · rename_i x y t tx h1 h2
      obtain rfl:args = #[x,y]:=Array.toList_inj.1 h1
      obtain rfl:ts = #[t,tx]:=Array.toList_inj.1 h2
      split at hc
      · rename_i e ht
        split at hc
        · rename_i i z x1 y1 h3 h4 h5 h6 h7
          split at hc
          · rename_i hh
            cases hc
            obtain ⟨zv,h8,h9⟩:=zeroT_some h4
            rw [h3] at h8
            exact s_app hr hB hdN hop ht h3 h8 h9 hh.1 (by omega) hh.2.2 h5 (.inl ⟨rfl,rfl,hh.2.1⟩) (hev _ _ (by simp [opsOf]) h6) (hev _ _ (by simp [opsOf]) h7) hob
          · cases hc
        · rename_i i z e2 x1 y1 h3 h4 h5 h6 h7
          split at hc
          · rename_i hh
            cases hc
            obtain ⟨zv,h8,h9⟩:=zeroT_some h4
            rw [h3] at h8
            exact s_app hr hB hdN hop ht h3 h8 h9 hh.1 hh.2.1 hh.2.2 h5 (.inr ⟨rfl,_,rfl⟩) (hev _ _ (by simp [opsOf]) h6) (hev _ _ (by simp [opsOf]) h7) hob
          · cases hc
        · cases hc
      · cases hc
    · cases hc
  case h_26 args ts hop =>
    split at hc
    · rename_i x y h1
      obtain rfl:args = #[x,y]:=Array.toList_inj.1 h1
      split at hc
      · rename_i x1 y1 h2 h3
        cases hc
        exact s_mm (mx:=false) hr hop (hev _ _ (by simp [opsOf]) h2) (hev _ _ (by simp [opsOf]) h3) hob
      · cases hc
    · cases hc
  case h_27 args ts hop =>
    split at hc
    · rename_i x y h1
      obtain rfl:args = #[x,y]:=Array.toList_inj.1 h1
      split at hc
      · rename_i x1 y1 h2 h3
        cases hc
        exact s_mm (mx:=true) hr hop (hev _ _ (by simp [opsOf]) h2) (hev _ _ (by simp [opsOf]) h3) hob
      · cases hc
    · cases hc
  case h_28 f args ts hop =>
    split at hc
    · cases hc;exact absurd rfl (hnc _ _)
    · cases hc
  case h_29 x name args ts hop =>
    split at hc
    · cases hc;exact absurd rfl (hnc _ _)
    · cases hc
  case h_30 t x ix hop =>
    split at hc
    · rename_i kt et ht
      split at hc
      · rename_i k z x1 i1 h1 h2 h3 h4
        cases hc
        obtain ⟨zv,h5,h6⟩:=Option.bind_eq_some_iff.1 h2
        exact s_lkm hr hop ht h1 h5 h6 (hev _ _ (by simp [opsOf]) h3) (hev _ _ (by simp [opsOf]) h4) hob
      · cases hc
    · cases hc
  case h_31=>cases hc
end Go.Proofs.YtedibjgdangfnaaGreatDoor.V
end
