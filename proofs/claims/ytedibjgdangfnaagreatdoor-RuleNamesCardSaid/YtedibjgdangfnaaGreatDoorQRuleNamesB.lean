/- Rows by what a program's own kinds say: the rules by which printed walks go. -/
import Derived.Test.YtedibjgdangfnaaGreatDoorQRuleNamesA
import Derived.Below
import Derived.OwnWalk
import Derived.Orders
import Derived.WalkKit
import Derived.Laws.Slices
import Derived.ChangeSlices
import Derived.ChangeOld
import Derived.SizedLaws
import Derived.SliceStrings
import Derived.WideShapes
section
namespace Go.Proofs.YtedibjgdangfnaaGreatDoor.V
open Go Go.RowKit
set_option linter.unusedVariables false
set_option linter.unusedSimpArgs false
variable {P:Program} {gl:Gl} {c:Ch} {d:Option Nat} {o:Oper} {a:Act} {w w1:World} {S S1:Nat→Prop} {ρ ρ1:Nat→Option Nat} {G G1:Hf} {base:Base} {ev:Od→Va} {Q:Exit→Act→World→Prop} {K:Act→World→Prop}
theorem RepV.wide {v:Va} {u:Value} (h:RepV w S (fun _=>none) (fun _=>none) v u):RepV w S ρ G v u :=
  have e:Ext w S (fun _=>none) (fun _=>none) w S ρ G:=by
    refine ⟨fun _ h=>h,fun _ _=>rfl,?_,?_⟩
    · intro i e h;cases h
    · intro i b arr ty fz h;cases h
  RepV.mono e h
theorem GlOk.ext (e:Ext w S ρ G w1 S1 ρ1 G1) (h:GlOk gl w S):GlOk gl w1 S1:=fun g cs hg=>(h g cs hg).mono e.sub e.keep
theorem flatS_rep {x:Sc} {u:Value} (hf:flatS x=true) (h:RepD w S x u):RepD w1 S1 x u:=by
  cases h <;> first | exact .int _ _ | exact .bool _ | exact .str _ | exact .z _ | (simp [flatS] at hf)
theorem flatB_rep {x:Vb} {u:Value} (hf:flatB x=true) (h:RepB w S ρ G x u):RepB w1 S1 ρ1 G1 x u:=by
  cases x with
  | s l=>cases l with
    | d x=>cases h with | d _ _ h=>exact .d _ _ (flatS_rep hf h)
    | full r=>simp [flatB] at hf
    | nn r=>simp [flatB] at hf
    | nils=>simp [flatB] at hf
    | own i n=>simp [flatB] at hf
    | ptr i n r q=>simp [flatB] at hf
    | clo f l=>simp [flatB] at hf
  | agg cs =>
    obtain ⟨vs,h1,h2,h3⟩:=h
    refine ⟨vs,h1,h2,fun j lc hj => ?_⟩
    have h4:=refsC_get (show refsC _ cs=true from hf) j lc hj
    have h5:=h3 j lc hj
    cases lc with
    | d x=>generalize vs.getD j undef=u at h5 ⊢;cases h5 with | d _ _ h=>exact .d _ _ (flatS_rep h4 h)
    | full r=>simp at h4
    | nn r=>simp at h4
    | nils=>simp at h4
    | own i n=>simp at h4
    | ptr i n r q=>simp at h4
    | clo f l=>simp at h4
theorem flatV_rep {v:Va} {u:Value} (hf:flatV v=true) (h:RepV w S ρ G v u):RepV w1 S1 ρ1 G1 v u:=by
  cases v with
  | b x=>exact flatB_rep hf h
  | tup l =>
    obtain ⟨vs,h1,h2,h3⟩:=h
    exact ⟨vs,h1,h2,fun j x hj=>flatB_rep (List.all_eq_true.1 hf x (List.mem_of_getElem? hj)) (h3 j x hj)⟩
  | gv g x=>simp [flatV] at hf
  | dead=>simp [flatV] at hf
  | meth n x=>simp [flatV] at hf
theorem argsV_get (hr:Hr w S ρ G base) {F:List Nat} {n:Nat}:∀ {vs xs:List Va},argsV F G n vs=some xs→xs.length=vs.length∧∀ (j:Nat) x,xs[j]? = some x→∃ v,vs[j]? = some v∧∀ u,RepV w S ρ G v u→RepV w (Sup S ρ F) (fun _=>none) (fun _=>none) x u
  | [],xs,h=>by simp only [argsV,Option.some.injEq] at h;subst h;simp
  | v :: vs, xs,h=>by
    cases v with
    | b y =>
      cases y with
      | s l =>
        simp only [argsV] at h
        split at h
        · rename_i p r h1 h2
          cases h
          obtain ⟨h3,h4⟩:=argsV_get hr h2
          refine ⟨by simp [h3],fun j x hj => ?_⟩
          cases j with
          | zero =>
            simp only [List.getElem?_cons_zero,Option.some.injEq] at hj;subst hj
            exact ⟨_,rfl,fun u hu=>.d _ _ (conv_sound hr F n l p u h1 hu)⟩
          | succ j=>exact h4 j x (by simpa using hj)
        · cases h
      | agg cs =>
        simp only [argsV] at h
        split at h
        · rename_i p r h1 h2
          cases h
          obtain ⟨h3,h4⟩:=argsV_get hr h2
          refine ⟨by simp [h3],fun j x hj => ?_⟩
          cases j with
          | zero =>
            simp only [List.getElem?_cons_zero,Option.some.injEq] at hj;subst hj
            refine ⟨_,rfl,fun u hu => ?_⟩
            obtain ⟨us,g1,g2,g3⟩:=hu
            obtain ⟨k1,k2⟩:=convC_get h1
            refine ⟨us,g1,by simp [g2,k1],fun i lc hi => ?_⟩
            rw [List.getElem?_map,Option.map_eq_some_iff] at hi
            obtain ⟨sc,hi,rfl⟩:=hi
            obtain ⟨q,hq1,hq2⟩:=k2 i sc hi
            exact .d _ _ (conv_sound hr F n q sc _ hq2 (g3 i q hq1))
          | succ j=>exact h4 j x (by simpa using hj)
        · cases h
    | tup l=>simp [argsV] at h
    | gv g x=>simp [argsV] at h
    | dead=>simp [argsV] at h
    | meth n x=>simp [argsV] at h
theorem fnV_rep {v:Va} {f:FuncId} {caps:List Va} {u:Value} (h:fnV v=some (f,caps)) (hv:RepV w S ρ G v u):∃ vs:Array Value,u=.func (.func f) #[] vs∧vs.size=caps.length∧∀ (j:Nat) x,caps[j]? = some x→RepV w S ρ G x (vs.getD j undef):=by
  unfold fnV at h
  split at h
  · cases h
    cases hv with
    | d _ _ hv =>
      cases hv with
      | clo _ _ vs hl hu =>
        refine ⟨vs,rfl,by simp [hl],fun j x hj => ?_⟩
        rw [List.getElem?_map,Option.map_eq_some_iff] at hj
        obtain ⟨sc,hj,rfl⟩:=hj
        exact .d _ _ (hu j sc hj)
  · cases h
    cases hv with
    | clo _ _ vs hl hu =>
      refine ⟨vs,rfl,by simp [hl],fun j x hj => ?_⟩
      rw [List.getElem?_map,Option.map_eq_some_iff] at hj
      obtain ⟨sc,hj,rfl⟩:=hj
      exact hu j sc hj
  · cases h
theorem apG_frz (F0:List Nat) (G0:Hf):∀ (F:List Nat) (G:Hf),(∀ j,j∈F→j∈F0)→apG G (F.filterMap (fun i=>(frz F0 4 G0 i).map fun e=>(i,e)))=fun j=>if j∈F∧(frz F0 4 G0 j).isSome then frz F0 4 G0 j else G j
  | [],G,_=>by funext j;simp [apG]
  | i :: F,G,h=>by
    funext j
    cases hi:frz F0 4 G0 i with
    | none =>
      rw [List.filterMap_cons,hi]
      simp only [Option.map_none]
      rw [apG_frz F0 G0 F G (fun j hj=>h j (List.mem_cons_of_mem _ hj))]
      by_cases hji:j=i
      · subst hji;simp [hi]
      · simp [hji]
    | some e =>
      rw [List.filterMap_cons,hi]
      simp only [Option.map_some,apG]
      rw [apG_frz F0 G0 F (updG G i e) (fun j hj=>h j (List.mem_cons_of_mem _ hj))]
      by_cases hji:j=i
      · subst hji;simp [hi,updG]
      · simp [hji,updG]
theorem apG_frz_all (F:List Nat) (G:Hf):apG G (F.filterMap (fun i=>(frz F 4 G i).map fun e=>(i,e)))=frz F 4 G:=by
  rw [apG_frz F G F G (fun _ h=>h)]
  funext j
  by_cases hj:j∈F
  · by_cases hs:(frz F 4 G j).isSome
    · simp [hj,hs]
    · have:frz F 4 G j=none:=by cases h:frz F 4 G j <;> simp_all
      rw [if_neg (by simp [hs]),this]
      simp only [frz,List.contains_iff_mem,hj,if_true,Option.map_eq_none_iff] at this
      exact this
  · rw [if_neg (by simp [hj])]
    simp [frz,hj]
structure Post (w:World) (S:Nat→Prop) (ρ:Nat→Option Nat) (G:Hf) (base:Base) (v:Va) (u:Value) (w1:World) (S1:Nat→Prop) (ρ1:Nat→Option Nat) (G1:Hf):Prop where
  ext:Ext w S ρ G w1 S1 ρ1 G1
  hr:Hr w1 S1 ρ1 G1 base
  rep:RepV w1 S1 ρ1 G1 v u
  below:Bel base w w1
  sub:∀ k,S1 k→S k∨base.ok k
theorem run_methF {t:TypeId} {name:String} {f:FuncId} {v:Value} (h:methF P t name=some f) (n:Nat) (hn:n ≠ 0):(method n t v name).run P w=.ok (f,v) w:=by
  obtain ⟨n,rfl⟩:∃ k,n=k+1:=⟨n - 1,by omega⟩
  unfold methF at h
  cases hi:P.info? t with
  | none=>rw [hi] at h;cases h
  | some i =>
    rw [hi] at h
    dsimp only at h
    cases hf:i.methods.find? (·.name == name) with
    | none=>rw [hf] at h;cases h
    | some m =>
      rw [hf] at h
      dsimp only at h
      split at h
      · rename_i hp
        have hp2:m.path.toList=[]:=by simpa using hp
        split at h
        · cases h
        · rename_i g u hnp hm hu
          cases h
          unfold method
          have ht:=run_typeInfo w hi
          have hund:=run_underlying hu w
          simp only [Sem.run_bind,ht,Result.andThen_ok,hf,hp2,follow,Sem.run_pure,hm,receiverAt,hund]
          cases u <;> first | (exact absurd rfl (hnp _ )) | simp [Place.get,Sem.run_bind,Sem.run_pure,Result.andThen_ok]
        · cases h
      · cases h
theorem lk_mem {α:Type}:∀ {l:List (Nat×α)} {j:Nat} {x:α},l.lookup j=some x→(j,x)∈l
  | [],j,x,h=>by cases h
  | (i,y) :: l,j,x,h=>by
    rw [List.lookup_cons] at h
    by_cases e:j=i
    · subst e;simp only [beq_self_eq_true] at h;cases h;exact List.mem_cons_self ..
    · rw [show (j == i)=false by simpa using e] at h;exact List.mem_cons_of_mem _ (lk_mem h)
theorem lk_nodup {α:Type}:∀ {l:List (Nat×α)} {j:Nat} {x:α},(l.map (·.1)).Nodup→(j,x)∈l→l.lookup j=some x
  | [],j,x,_,h=>by cases h
  | (i, y) :: l,j,x,hn,h=>by
    rw [List.map_cons,List.nodup_cons] at hn
    rw [List.lookup_cons]
    rcases List.mem_cons.1 h with e | h2
    · cases e;simp
    · have hne:j ≠ i:=fun e=>hn.1 (List.mem_map.2 ⟨_,h2,e⟩)
      rw [show (j == i)=false by simpa using hne];exact lk_nodup hn.2 h2
theorem lk_none {α:Type}:∀ {l:List (Nat×α)} {j:Nat},j ∉ l.map (·.1)→l.lookup j=none
  | [],j,_=>rfl
  | (i,y) :: l,j,h=>by
    rw [List.map_cons,List.mem_cons,not_or] at h
    rw [List.lookup_cons,show (j == i)=false by simpa using h.1];exact lk_none h.2
theorem mapN_nodup:∀ {l:List (Nat×Nat)} {j x:Nat},(l.map (·.1)).Nodup→(j,x)∈l→mapN l j=x
  | [],j,x,_,h=>by cases h
  | (i, y) :: l,j,x,hn,h=>by
    rw [List.map_cons,List.nodup_cons] at hn
    rw [mapN]
    rcases List.mem_cons.1 h with e | h2
    · cases e;rw [if_pos rfl]
    · have hne:j ≠ i:=fun e=>hn.1 (List.mem_map.2 ⟨_,h2,e⟩)
      rw [if_neg hne];exact mapN_nodup hn.2 h2
theorem ap_other:∀ (l:List (Nat×Ent)) (G:Hf) (j:Nat),j ∉ l.map (·.1)→apG G l j=G j
  | [],G,j,h=>rfl
  | (i,e) :: l,G,j,h=>by
    simp only [List.map_cons,List.mem_cons,not_or] at h
    rw [apG,ap_other l _ j h.2,updG,if_neg h.1]
theorem ap_mem:∀ (l:List (Nat×Ent)) (G:Hf) (j:Nat) (e:Ent),(l.map (·.1)).Nodup→(j,e)∈l→apG G l j=some e
  | [],G,j,e,_,h=>by cases h
  | (i,x) :: l,G,j,e,hn,h=>by
    rw [List.map_cons,List.nodup_cons] at hn
    rcases List.mem_cons.1 h with e1 | h
    · cases e1;rw [apG,ap_other l _ _ hn.1];simp [updG]
    · rw [apG];exact ap_mem l _ j e hn.2 h
theorem ap_append:∀ (l m:List (Nat×Ent)) (G:Hf),apG G (l++m)=apG (apG G l) m
  | [],m,G=>rfl
  | (i,e) :: l,m,G=>by rw [List.cons_append,apG,apG,ap_append l m]
theorem RepL.ren {S' : Nat→Prop} {ρ':Nat→Option Nat} {G':Hf} {f:Nat→Nat} {K:List Nat} (hS:∀ k,S k→S' k) (hK:∀ i,i∈K→∀ e,G i=some e→∃ e',G' (f i)=some e'∧e'.st=e.st∧e'.rows.length=e.rows.length∧ρ' (f i)=ρ i) {n:Nat} {x:Lc} {u:Value} (hn:refsIn K n x=true) (h:RepL w S ρ G x u):RepL w S' ρ' G' (renL f n x) u:=by
  induction h generalizing n with
  | d x u h => have:renL f n (.d x)=.d x:=by cases n <;> rfl
               rw [this];exact .d x u (h.mono hS (fun _ _=>rfl))
  | full rows a h => have:renL f n (.full rows)=.full rows:=by cases n <;> rfl
                     rw [this];exact .full rows a (h.mono hS (fun _ _=>rfl))
  | nn rows q c h => have:renL f n (.nn rows)=.nn rows:=by cases n <;> rfl
                     rw [this];exact .nn rows q c (h.mono hS (fun _ _=>rfl))
  | nils => have:renL f n .nils=.nils:=by cases n <;> rfl
            rw [this];exact .nils
  | own i m e u hG hm hone hh =>
    have hi:i∈K:=by cases n <;> simpa [refsIn] using hn
    obtain ⟨e',h1,h2,h3,h4⟩:=hK i hi e hG
    have:renL f n (.own i m)=.own (f i) m:=by cases n <;> rfl
    rw [this]
    refine .own _ m e' u h1 (by omega) hone (fun h => ?_)
    obtain ⟨a,c,h5,h6⟩:=hh (by omega)
    refine ⟨a,c,h5,?_⟩
    rcases h6 with h6 | ⟨b,arr,ty,fz,h6,h7,h8,h9,h10⟩
    · exact .inl h6
    · exact .inr ⟨b,arr,ty,fz,h4.trans h6,h7,h8,h9,by rw [h2];exact h10⟩
  | ptr i m r o e u hG hm hone hh =>
    have hi:i∈K:=by cases n <;> simpa [refsIn] using hn
    obtain ⟨e',h1,h2,h3,h4⟩:=hK i hi e hG
    have:renL f n (.ptr i m r o)=.ptr (f i) m r o:=by cases n <;> rfl
    rw [this]
    refine .ptr _ m r o e' u h1 (by omega) hone (fun h => ?_)
    obtain ⟨b,h5,h6⟩:=hh (by omega)
    exact ⟨b,h4.trans h5,by rw [h2];exact h6⟩
  | clo g caps vs hl hu ih =>
    cases n with
    | zero=>simp [refsIn] at hn
    | succ n =>
      show RepL w S' ρ' G' (.clo g (caps.map (renL f n))) _
      refine .clo g _ vs (by simp [hl]) (fun j sc hj => ?_)
      rw [List.getElem?_map,Option.map_eq_some_iff] at hj
      obtain ⟨c,hc,rfl⟩:=hj
      exact ih j c hc (n:=n) (refsC_get (by simpa [refsIn] using hn) j c hc)
theorem RepL.lend {ρ':Nat→Option Nat} {G':Hf} {f:Nat→Nat} {F K:List Nat} (hr:Hr w S ρ G base) (he:Ext w S ρ G w (Sup S ρ F) ρ (frz F 4 G)) (hK:∀ i,i∈K→∀ e,frz F 4 G i=some e→∃ e',G' (f i)=some e'∧e'.st=e.st∧e'.rows.length=e.rows.length∧ρ' (f i)=ρ i) {x:Lc} {u:Value} (hn:lendK F G K x=true) (h:RepL w S ρ G x u):RepL w (Sup S ρ F) ρ' G' (lendL F G f x) u:=by
  unfold lendL
  unfold lendK at hn
  split
  · rename_i s hs
    exact .d _ _ (conv_sound hr F 4 x s u hs h)
  · rename_i hs
    rw [hs] at hn
    exact (h.mono he).ren (fun _ h=>h) hK hn
theorem RepB.map {G':Hf} {S':Nat→Prop} {ρ':Nat→Option Nat} {g:Lc→Lc} {K:List Nat} (hg:∀ x u,refsIn K 4 x=true→RepL w S ρ G x u→RepL w S' ρ' G' (g x) u) {x:Vb} {u:Value} (hn:refsB K x=true) (h:RepB w S ρ G x u):RepB w S' ρ' G' (renB g x) u:=by
  cases x with
  | s x=>exact hg x u hn h
  | agg cs =>
    obtain ⟨vs,h1,h2,h3⟩:=h
    refine ⟨vs,h1,by simp [h2],fun j lc hj => ?_⟩
    rw [List.getElem?_map,Option.map_eq_some_iff] at hj
    obtain ⟨c,hc,rfl⟩:=hj
    exact hg c _ (refsC_get hn j c hc) (h3 j c hc)
theorem RepV.map {G':Hf} {S':Nat→Prop} {ρ':Nat→Option Nat} {g:Lc→Lc} {K:List Nat} (hg:∀ x u,refsIn K 4 x=true→RepL w S ρ G x u→RepL w S' ρ' G' (g x) u) {x:Va} {u:Value} (hn:refsVa K x=true) (h:RepV w S ρ G x u):RepV w S' ρ' G' (renV g x) u:=by
  cases x with
  | b x=>exact RepB.map hg hn h
  | tup l =>
    obtain ⟨vs,h1,h2,h3⟩:=h
    refine ⟨vs,h1,by simp [h2],fun j x hj => ?_⟩
    rw [List.getElem?_map,Option.map_eq_some_iff] at hj
    obtain ⟨c,hc,rfl⟩:=hj
    exact RepB.map hg (List.all_eq_true.1 hn c (List.mem_of_getElem? hc)) (h3 j c hc)
  | gv _ _=>cases hn
  | dead=>cases hn
  | meth _ _=>cases hn
theorem lendIn_get {f:Nat→Nat} {F K:List Nat}:∀ {l:List (Nat×Nat×Ent)},lendIn F G f K l→∀ j i e0,(j,i,e0)∈l→F.contains i=false∧∃ e,G i=some e∧e.fz=false∧e0.fz=false∧e0.st=e.st∧e0.rows=renR (lendL F G f) e.rows∧lendKR F G K e.rows
  | [],_,j,i,e0,h=>by cases h
  | (j1,i1,e1) :: l,hl,j,i,e0,h=>by
    rcases List.mem_cons.1 h with e | h
    · cases e
      obtain ⟨h0,this⟩:=hl.1
      split at this
      · rename_i e he;exact ⟨h0,e,he,this⟩
      · exact this.elim
    · exact lendIn_get hl.2 j i e0 h
theorem lkE_mem:∀ {l:List (Nat×Nat×Ent)} {j i:Nat} {e:Ent},lkE l j i=some e→(j,i,e)∈l
  | [],j,i,e,h=>by cases h
  | (a,b,x) :: l,j,i,e,h=>by
    rw [lkE] at h
    split at h
    · rename_i hh;obtain ⟨rfl,rfl⟩:=hh;cases h;exact List.mem_cons_self ..
    · exact List.mem_cons_of_mem _ (lkE_mem h)
theorem lendOut_get {l0:List (Nat×Nat×Ent)} {K:List Nat}:∀ {l:List (Nat×Nat×Ent)},lendOut G l0 K l→∀ j i e1,(j,i,e1)∈l→((1000000≤j∧∃ e0,(j,i,e0)∈l0∧e1.st=e0.st∧e1.fz=false∧e1.rows.length=e0.rows.length∧0 < e0.rows.length)∨(j < 1000000∧i < 1000000∧G i=none))∧refsR K e1.rows
  | [],_,j,i,e0,h=>by cases h
  | (j1, i1,e1) :: l,hl,j,i,e0,h=>by
    rcases List.mem_cons.1 h with e | h
    · cases e
      refine ⟨?_,hl.2.1⟩
      have h1:=hl.1
      split at h1
      · rename_i hj
        split at h1
        · rename_i e2 he;exact .inl ⟨hj,e2,lkE_mem he,h1⟩
        · exact h1.elim
      · rename_i hj;exact .inr ⟨by omega,h1⟩
    · exact lendOut_get hl.2.2 j i e0 h
theorem lendA_get {F K:List Nat}:∀ {l:List Va},lendA F G K l=true→∀ v,v∈l→lendB F G K v=true
  | [],_,v,h=>by cases h
  | x :: l,hl,v,h=>by
    simp only [lendA,Bool.and_eq_true] at hl
    rcases List.mem_cons.1 h with rfl | h
    · exact hl.1
    · exact lendA_get hl.2 v h
theorem lendF_get {F:List Nat}:∀ {l:List Nat},lendF F G l→∀ i e,i∈l→G i=some e→(convR (conv F G 4) e.rows).isSome=true
  | [],_,i,e,h,_=>by cases h
  | j :: l,hl,i,e,h,hG=>by
    rcases List.mem_cons.1 h with rfl | h
    · have:=hl.1;rw [hG] at this;exact this
    · exact lendF_get hl.2 i e h hG
theorem RepV.lend {F K:List Nat} {S':Nat→Prop} {ρ':Nat→Option Nat} {G':Hf} {g:Lc→Lc} (hg:∀ x u,lendK F G K x=true→RepL w S ρ G x u→RepL w S' ρ' G' (g x) u) {x:Va} {u:Value} (hn:lendB F G K x=true) (h:RepV w S ρ G x u):RepV w S' ρ' G' (renV g x) u:=by
  cases x with
  | b x => cases x with
    | s x=>exact hg x u hn h
    | agg cs =>
      obtain ⟨vs,h1,h2,h3⟩:=h
      refine ⟨vs,h1,by simp [h2],fun j lc hj => ?_⟩
      rw [List.getElem?_map,Option.map_eq_some_iff] at hj
      obtain ⟨c,hc,rfl⟩:=hj
      exact hg c _ (refsC_get (f:=lendK F G K) hn j c hc) (h3 j c hc)
  | tup l=>cases hn
  | gv _ _=>cases hn
  | dead=>cases hn
  | meth _ _=>cases hn
theorem pinsIn_get {K:List Nat}:∀ {l:List (Nat×Nat×Ent)},pinsIn K l→∀ j i e0,(j,i,e0)∈l→1000000≤j→j∈K
  | [],_,j,i,e0,h,_=>by cases h
  | (j1,i1,e1) :: l,hl,j,i,e0,h,hj=>by
    rcases List.mem_cons.1 h with e | h
    · cases e;exact hl.1 hj
    · exact pinsIn_get hl.2 j i e0 h hj
theorem goneL_mem:∀ {l:List (Nat×Nat×Ent)} {i:Nat} {e:Ent},(i,e)∈goneL l↔∃ j e0,(j,i,e0)∈l∧j < 1000000∧e=goneE e0
  | [],i,e=>by simp [goneL]
  | (j1, i1,e1) :: l,i,e=>by
    unfold goneL
    split
    · rename_i hj
      rw [List.mem_cons,goneL_mem]
      constructor
      · rintro (h | ⟨j,e0,h1,h2,h3⟩)
        · cases h;exact ⟨j1,e1,List.mem_cons_self ..,hj,rfl⟩
        · exact ⟨j,e0,List.mem_cons_of_mem _ h1,h2,h3⟩
      · rintro ⟨j,e0,h1,h2,h3⟩
        rcases List.mem_cons.1 h1 with h | h
        · cases h;exact .inl (by rw [h3])
        · exact .inr ⟨j,e0,h,h2,h3⟩
    · rename_i hj
      rw [goneL_mem]
      constructor
      · rintro ⟨j,e0,h1,h2,h3⟩;exact ⟨j,e0,List.mem_cons_of_mem _ h1,h2,h3⟩
      · rintro ⟨j,e0,h1,h2,h3⟩
        rcases List.mem_cons.1 h1 with h | h
        · cases h;exact absurd h2 hj
        · exact ⟨j,e0,h,h2,h3⟩
theorem goneL_keys:∀ {l:List (Nat×Nat×Ent)},(l.map fun p=>p.2.1).Nodup→((goneL l).map (·.1)).Nodup
  | [],_=>List.nodup_nil
  | (j1,i1,e1) :: l,h=>by
    rw [List.map_cons,List.nodup_cons] at h
    unfold goneL
    split
    · rw [List.map_cons,List.nodup_cons]
      refine ⟨fun hm=>h.1 ?_,goneL_keys h.2⟩
      obtain ⟨⟨i,e⟩,hp,rfl⟩:=List.mem_map.1 hm
      obtain ⟨j,e0,h1,_,_⟩:=goneL_mem.1 hp
      exact List.mem_map.2 ⟨_,h1,rfl⟩
    · exact goneL_keys h.2
theorem renR_flatten (g:Lc→Lc) (rows:List (List Lc)):(renR g rows).flatten=rows.flatten.map g:=by unfold renR;rw [List.map_flatten]
theorem lend_ok {F:List Nat} {h:Lend} {fid:FuncId} {vs:List Va} {av:Array Value} (hr:Hr w S ρ G base) (hB:base.n≤w.heap.size) (hgl:GlOk gl w S) (hexec:(execOp a.eval o).run P w=.ok (.enter fid av) w) (hav:av.size=vs.length∧∀ (j:Nat) v,vs[j]? = some v→RepV w S ρ G v (av.getD j undef))
    (hob:(lendS P gl F h G fid vs).ob) (hK:∀ u w1 S1 ρ1,Post w S ρ G base (lendS P gl F h G fid vs).v u w1 S1 ρ1 (apG G (lendS P gl F h G fid vs).ef)→K (a.put o.dst u) w1):o.wp P a w K Q:=by
  obtain ⟨l0,xs,y,l1⟩:=h
  simp only [lendS,List.map_map,Function.comp_def] at hob hK
  obtain ⟨⟨_,hfun⟩,hF,hvs,hxs,hin,hout,hy,hpin,hn0,hn0',hn1,hn1'⟩:=hob
  obtain ⟨hef,hr2⟩:=hr.freeze F 4 (fun i e hi hG=>lendF_get hF i e hi hG)
  have hfrz:∀ i,F.contains i=false→frz F 4 G i=G i:=fun i hi=>by unfold frz;rw [hi];rfl
  have hin2:∀ j i e0,(j,i,e0)∈l0→∃ e,frz F 4 G i=some e∧e.fz=false∧e0.fz=false∧e0.st=e.st∧e0.rows=renR (lendL F G (mapN (l0.map fun p=>(p.2.1,p.1)))) e.rows∧lendKR F G (l0.map fun p=>p.2.1) e.rows∧G i=some e:=fun j i e0 hm=>by
    obtain ⟨q0,e,q1,q2,q3,q4,q5,q6⟩:=lendIn_get hin j i e0 hm
    exact ⟨e,by rw [hfrz i q0];exact q1,q2,q3,q4,q5,q6,q1⟩
  have hout2:∀ j i e1,(j,i,e1)∈l1→((1000000≤j∧∃ e0,(j,i,e0)∈l0∧e1.st=e0.st∧e1.fz=false∧e1.rows.length=e0.rows.length∧0 < e0.rows.length)∨(j < 1000000∧i < 1000000∧frz F 4 G i=none))∧refsR (l1.map fun p=>p.1) e1.rows:=fun j i e1 hm=>by
    obtain ⟨q1,q2⟩:=lendOut_get hout j i e1 hm
    refine ⟨q1.imp id fun q=>⟨q.1,q.2.1,?_⟩,q2⟩
    unfold frz
    split
    · rw [q.2.2];rfl
    · exact q.2.2
  have k0:∀ j i e0,(j,i,e0)∈l0→asG (l0.map fun p=>(p.1,p.2.2)) j=some e0∧(l0.map fun p=>(p.1,p.2.1)).lookup j=some i∧mapN (l0.map fun p=>(p.2.1,p.1)) i=j:=fun j i e0 hm =>
    ⟨lk_nodup (by simpa [List.map_map,Function.comp_def] using hn0') (List.mem_map.2 ⟨_,hm,rfl⟩),lk_nodup (by simpa [List.map_map,Function.comp_def] using hn0') (List.mem_map.2 ⟨_,hm,rfl⟩),mapN_nodup (by simpa [List.map_map,Function.comp_def] using hn0) (List.mem_map.2 ⟨_,hm,rfl⟩)⟩
  have k1:∀ j i e1,(j,i,e1)∈l1→asG (l1.map fun p=>(p.1,p.2.2)) j=some e1∧(l1.map fun p=>(p.2.1,p.1)).lookup i=some j∧mapN (l1.map fun p=>(p.1,p.2.1)) j=i:=fun j i e1 hm =>
    ⟨lk_nodup (by simpa [List.map_map,Function.comp_def] using hn1) (List.mem_map.2 ⟨_,hm,rfl⟩),lk_nodup (by simpa [List.map_map,Function.comp_def] using hn1') (List.mem_map.2 ⟨_,hm,rfl⟩),mapN_nodup (by simpa [List.map_map,Function.comp_def] using hn1) (List.mem_map.2 ⟨_,hm,rfl⟩)⟩
  have kk0:∀ i,i∈l0.map (fun p=>p.2.1)→∃ j e0,(j,i,e0)∈l0:=fun i hi=>by
    obtain ⟨⟨j,i2,e0⟩,hm,rfl⟩:=List.mem_map.1 hi;exact ⟨j,e0,hm⟩
  have kk1:∀ j,j∈l1.map (fun p=>p.1)→∃ i e1,(j,i,e1)∈l1:=fun j hj=>by
    obtain ⟨⟨j2,i,e1⟩,hm,rfl⟩:=List.mem_map.1 hj;exact ⟨i,e1,hm⟩
  have g0:∀ j e0,asG (l0.map fun p=>(p.1,p.2.2)) j=some e0→∃ i,(j,i,e0)∈l0:=fun j e0 hj=>by
    obtain ⟨⟨j2,i,e2⟩,hm,he⟩:=List.mem_map.1 (lk_mem hj);cases he;exact ⟨i,hm⟩
  have g1:∀ j e1,asG (l1.map fun p=>(p.1,p.2.2)) j=some e1→∃ i,(j,i,e1)∈l1:=fun j e1 hj=>by
    obtain ⟨⟨j2,i,e2⟩,hm,he⟩:=List.mem_map.1 (lk_mem hj);cases he;exact ⟨i,hm⟩
  let ρ':Nat→Option Nat:=fun j=>((l0.map fun p=>(p.1,p.2.1)).lookup j).bind ρ
  have hρ':∀ j i e0,(j,i,e0)∈l0→ρ' j=ρ i:=fun j i e0 hm=>by show (_:Option Nat).bind ρ=_;rw [(k0 j i e0 hm).2.1];rfl
  have hρ'2:∀ j b,ρ' j=some b→∃ i e0,(j,i,e0)∈l0∧ρ i=some b:=fun j b hj=>by
    obtain ⟨i,hi,hb⟩:=Option.bind_eq_some_iff.1 hj
    obtain ⟨⟨j2,i2,e2⟩,hm,he⟩:=List.mem_map.1 (lk_mem hi);cases he;exact ⟨i2,e2,hm,hb⟩
  let base':Base:=⟨base.n,fun k=>base.K k∨Sup S ρ F k∨∃ i,i ∉ l0.map (fun p=>p.2.1)∧ρ i=some k,fun j=>if 1000000≤j then ρ' j else none,fun j b hb=>by
    by_cases hj:1000000≤j
    · exact hj
    · rw [if_neg hj] at hb;cases hb⟩
  have hKid:∀ i,i∈l0.map (fun p=>p.2.1)→∀ e,frz F 4 G i=some e→∃ e',asG (l0.map fun p=>(p.1,p.2.2)) (mapN (l0.map fun p=>(p.2.1,p.1)) i)=some e'∧e'.st=e.st∧e'.rows.length=e.rows.length∧ρ' (mapN (l0.map fun p=>(p.2.1,p.1)) i)=ρ i:=by
    intro i hi e he
    obtain ⟨j,e0,hm⟩:=kk0 i hi
    obtain ⟨q1,_,q2⟩:=k0 j i e0 hm
    obtain ⟨e2,h1,_,_,h2,h3,_⟩:=hin2 j i e0 hm
    rw [he] at h1;cases h1
    rw [q2]
    exact ⟨e0,q1,h2,by rw [h3];simp [renR],hρ' j i e0 hm⟩
  have hrep:∀ x u,lendK F G (l0.map fun p=>p.2.1) x=true→RepL w S ρ G x u→RepL w (Sup S ρ F) ρ' (asG (l0.map fun p=>(p.1,p.2.2))) (lendL F G (mapN (l0.map fun p=>(p.2.1,p.1))) x) u:=fun x u hn hx=>hx.lend hr hef hKid hn
  have hnS:∀ j i e0 b,(j,i,e0)∈l0→ρ i=some b→¬ Sup S ρ F b:=by
    intro j i e0 b hm hb hS
    obtain ⟨e,h1,h2,_⟩:=hin2 j i e0 hm
    obtain ⟨e2,arr,ty,fz,h3,h4,_⟩:=hr2.real hb
    rw [h1] at h3;cases h3
    rw [h4,h2] at hS;cases hS
  have hHr : Hr w (Sup S ρ F) ρ' (asG (l0.map fun p=>(p.1,p.2.2))) base':=by
    refine ⟨fun j e0 hj => ?_,fun j1 j2 b h1 h2 => ?_,fun j b hj => ?_,fun j b hj => ?_,hr2.lt,fun k hk => ?_,fun j b p hj hp => ?_⟩
    · obtain ⟨i,hm⟩:=g0 j e0 hj
      obtain ⟨e,h1,h2,h3,h4,h5,h6,h7⟩:=hin2 j i e0 hm
      obtain ⟨m1,m2⟩:=hr.blk i e h7
      obtain ⟨_,n2⟩:=hr2.blk i e h1
      refine ⟨fun r hr1 => ?_,?_⟩
      · rw [h5] at hr1
        obtain ⟨q,hq,rfl⟩:=List.mem_map.1 hr1
        rw [List.length_map,h4];exact m1 q hq
      · rcases m2 with ⟨m2,m3⟩ | ⟨b,arr,ty,fz,m2,m3,m4,m5,m6⟩
        · exact .inl ⟨(hρ' j i e0 hm).trans m2,fun _=>by rw [h5,m3 h2];rfl⟩
        · have hS2:Sup S ρ F b↔e.fz=true:=by
            rcases n2 with ⟨n2,_⟩ | ⟨b1,_,_,_,n2,n3,_⟩
            · rw [m2] at n2;cases n2
            · rw [m2] at n2;cases n2;exact n3
          refine .inr ⟨b,arr,ty,fz,(hρ' j i e0 hm).trans m2,by rw [hS2,h2,h3],m4,fun _=>m5 h2,fun q lc hq => ?_⟩
          rw [h5,renR_flatten,List.getElem?_map,Option.map_eq_some_iff] at hq
          obtain ⟨c,hc,rfl⟩:=hq
          obtain ⟨u,hu,hu2⟩:=m6 q c hc
          obtain ⟨r,hr1,hcr⟩:=List.mem_flatten.1 (List.mem_of_getElem? hc)
          obtain ⟨p,hp⟩:=List.mem_iff_getElem?.1 hcr
          exact ⟨u,hu,hrep c u (refsC_get (f:=lendK F G _) (h6 r hr1) p c hp) hu2⟩
    · obtain ⟨i1,e1,hm1,hb1⟩:=hρ'2 j1 b h1
      obtain ⟨i2,e2,hm2,hb2⟩:=hρ'2 j2 b h2
      have:=hr.inj i1 i2 b hb1 hb2
      subst this
      rw [← (k0 j1 i1 e1 hm1).2.2,← (k0 j2 i1 e2 hm2).2.2]
    · obtain ⟨i,e0,hm,hb⟩:=hρ'2 j b hj
      refine ⟨(hr.own i b hb).1,?_⟩
      rintro (hk | hk | ⟨i2,h2,h3⟩)
      · exact (hr.own i b hb).2 hk
      · exact hnS j i e0 b hm hb hk
      · have:=hr.inj i i2 b hb h3
        subst this
        exact h2 (List.mem_map.2 ⟨_,hm,rfl⟩)
    · obtain ⟨i,e0,hm,hb⟩:=hρ'2 j b hj
      rw [(k0 j i e0 hm).1];simp
    · rcases hk with hk | hk | ⟨i2,h2,h3⟩
      · exact hr.klt k hk
      · exact hr2.lt k hk
      · exact hr.bound h3
    · have hp2:(if 1000000≤j then ρ' j else none)=some p:=hp
      split at hp2
      · rw [hj] at hp2;cases hp2;rfl
      · cases hp2
  have hargs:av.size=xs.length∧∀ (j:Nat) x,xs[j]? = some x→RepV w (Sup S ρ F) ρ' (asG (l0.map fun p=>(p.1,p.2.2))) x (av.getD j undef):=by
    refine ⟨by rw [hav.1,← hxs,List.length_map],fun j x hj => ?_⟩
    rw [← hxs,List.getElem?_map,Option.map_eq_some_iff] at hj
    obtain ⟨v,hv,rfl⟩:=hj
    exact RepV.lend hrep (lendA_get hvs v (List.mem_of_getElem? hv)) (hav.2 j v hv)
  unfold Oper.wp
  rw [hexec,Oper.upon_enter]
  refine (hfun base' w (Sup S ρ F) ρ' av hHr hB (fun g cs hg=>(hgl g cs hg).sup) hargs).mono fun e w1 hh => ?_
  obtain ⟨u,S1,ρ1,rfl,h1,h2,h3,h4⟩:=hh
  let Sn:Nat→Prop:=fun k=>Sup S ρ F k∨S1 k
  let ρn:Nat→Option Nat:=fun i=>match (l1.map fun p=>(p.2.1,p.1)).lookup i with
    | some j=>ρ1 j
    | none=>if i∈l0.map (fun p=>p.2.1) then none else ρ i
  have hA:∀ j i e1,(j,i,e1)∈l1→ρn i=ρ1 j:=fun j i e1 hm=>by
    show (match (l1.map fun (p:Nat×Nat×Ent)=>(p.2.1,p.1)).lookup i with | some j=>ρ1 j | none=>if i∈l0.map (fun (p:Nat×Nat×Ent)=>p.2.1) then none else ρ i)=_
    rw [(k1 j i e1 hm).2.1]
  have hBC:∀ i,i ∉ l1.map (fun p=>p.2.1)→ρn i=if i∈l0.map (fun p=>p.2.1) then none else ρ i:=fun i hi=>by
    show (match (l1.map fun (p:Nat×Nat×Ent)=>(p.2.1,p.1)).lookup i with | some j=>ρ1 j | none=>if i∈l0.map (fun (p:Nat×Nat×Ent)=>p.2.1) then none else ρ i)=_
    rw [lk_none (by simpa [List.map_map,Function.comp_def] using hi)]
  generalize hGn:apG G (F.filterMap (fun i=>(frz F 4 G i).map fun e=>(i,e))++(goneL l0++l1.map fun p=>(p.2.1,⟨p.2.2.st,renR (renL (mapN (l1.map fun p=>(p.1,p.2.1))) 4) p.2.2.rows,p.2.2.fz⟩)))=Gn at hK
  rw [ap_append,apG_frz_all,ap_append] at hGn
  have hGA:∀ j i e1,(j,i,e1)∈l1→Gn i=some ⟨e1.st,renR (renL (mapN (l1.map fun p=>(p.1,p.2.1))) 4) e1.rows,e1.fz⟩:=fun j i e1 hm=>by
    rw [← hGn]
    exact ap_mem _ _ _ _ (by simpa [List.map_map,Function.comp_def] using hn1') (List.mem_map.2 ⟨_,hm,rfl⟩)
  have hGB:∀ j i e0,(j,i,e0)∈l0→i ∉ l1.map (fun p=>p.2.1)→Gn i=some (goneE e0):=fun j i e0 hm hi=>by
    rw [← hGn,ap_other _ _ _ (by simpa [List.map_map,Function.comp_def] using hi)]
    refine ap_mem _ _ _ _ (goneL_keys (by simpa [List.map_map,Function.comp_def] using hn0)) (goneL_mem.2 ⟨j,e0,hm,?_,rfl⟩)
    by_cases hj:j < 1000000
    · exact hj
    · exfalso
      obtain ⟨i2,e1,hm1⟩:=kk1 j (pinsIn_get hpin j i e0 hm (by omega))
      rcases (hout2 j i2 e1 hm1).1 with ⟨_,e2,h5,_⟩ | ⟨h5,_⟩
      · have:=(k0 j i e0 hm).2.1
        rw [(k0 j i2 e2 h5).2.1] at this
        cases this
        exact hi (List.mem_map.2 ⟨_,hm1,rfl⟩)
      · omega
  have hGC:∀ i,i ∉ l1.map (fun p=>p.2.1)→i ∉ l0.map (fun p=>p.2.1)→Gn i=frz F 4 G i:=fun i hi1 hi0=>by
    rw [← hGn,ap_other _ _ _ (by simpa [List.map_map,Function.comp_def] using hi1),ap_other]
    intro hm
    obtain ⟨⟨i2,e⟩,hp,rfl⟩:=List.mem_map.1 hm
    obtain ⟨j,e0,h5,_⟩:=goneL_mem.1 hp
    exact hi0 (List.mem_map.2 ⟨_,h5,rfl⟩)
  have hcase:∀ i,(∃ j e1,(j,i,e1)∈l1)∨(i ∉ l1.map (fun p=>p.2.1)∧∃ j e0,(j,i,e0)∈l0)∨(i ∉ l1.map (fun p=>p.2.1)∧i ∉ l0.map (fun p=>p.2.1)):=fun i=>by
    by_cases hi:i∈l1.map (fun p=>p.2.1)
    · obtain ⟨⟨j,i2,e1⟩,hm,rfl⟩:=List.mem_map.1 hi;exact .inl ⟨j,e1,hm⟩
    · by_cases h0:i∈l0.map (fun p=>p.2.1)
      · exact .inr (.inl ⟨hi,kk0 i h0⟩)
      · exact .inr (.inr ⟨hi,h0⟩)
  have hpinned:∀ j i e0 e1,(j,i,e0)∈l0→(j,i,e1)∈l1→1000000≤j→e1.fz=false→e1.rows.length=e0.rows.length→0 < e0.rows.length→ρ1 j=ρ i:=by
    intro j i e0 e1 hm0 hm1 hj hf hl hp
    obtain ⟨e,q1,q2,q3,q4,q5,_⟩:=hin2 j i e0 hm0
    have hel:e0.rows.length=e.rows.length:=by rw [q5];simp [renR]
    rcases (hr2.blk i e q1).2 with ⟨_,m3⟩ | ⟨b,arr,ty,fz,m2,_⟩
    · have:=m3 q2;rw [this] at hel;rw [hel] at hp;cases hp
    · rcases (h1.blk j e1 (k1 j i e1 hm1).1).2 with ⟨_,n3⟩ | ⟨b2,arr2,ty2,fz2,n2,_⟩
      · have:=n3 hf;rw [this] at hl;rw [← hl] at hp;cases hp
      · have:=h1.pin j b2 b n2 (by show (if 1000000≤j then ρ' j else none)=_;rw [if_pos hj,hρ' j i e0 hm0,m2])
        rw [n2,m2,this]
  have hnew:∀ j b,ρ1 j=some b→¬ Sup S ρ F b:=fun j b hj hS=>(h1.own j b hj).2 (.inr (.inl hS))
  have hext:Ext w (Sup S ρ F) ρ (frz F 4 G) w1 Sn ρn Gn:=by
    refine ⟨fun k hk=>.inl hk,fun k hk=>h3.keep k (.inr (.inl hk)) (hr2.lt k hk),fun i e hi => ?_,fun i b arr ty fz _ hw=>h3.grow b arr ty fz hw⟩
    rcases hcase i with ⟨j,e1,hm⟩ | ⟨hi1,j,e0,hm⟩ | ⟨hi1,hi0⟩
    · rcases (hout2 j i e1 hm).1 with ⟨hj,e0,h5,h6,h6f,h7,h8⟩ | ⟨_,_,h5⟩
      · obtain ⟨e2,q1,q2,q3,q4,q5,_⟩:=hin2 j i e0 h5
        rw [hi] at q1;cases q1
        refine ⟨_,hGA j i e1 hm,h6.trans q4,.inl ⟨?_,(hA j i e1 hm).trans (hpinned j i e0 e1 h5 hm hj h6f h7 h8)⟩⟩
        show (renR _ e1.rows).length=_
        rw [show (renR (renL (mapN (l1.map fun p=>(p.1,p.2.1))) 4) e1.rows).length=e1.rows.length by simp [renR],h7,q5]
        simp [renR]
      · rw [hi] at h5;cases h5
    · obtain ⟨e2,q1,q2,q3,q4,q5,_⟩:=hin2 j i e0 hm
      rw [hi] at q1;cases q1
      refine ⟨_,hGB j i e0 hm hi1,q4,.inr ?_⟩
      show e.rows.length < (List.replicate (e0.rows.length+1) _).length
      rw [List.length_replicate,q5];simp [renR]
    · exact ⟨e,(hGC i hi1 hi0).trans hi,rfl,.inl ⟨rfl,by rw [hBC i hi1,if_neg hi0]⟩⟩
  have hKid1:∀ j,j∈l1.map (fun p=>p.1)→∀ e,asG (l1.map fun p=>(p.1,p.2.2)) j=some e→∃ e',Gn (mapN (l1.map fun p=>(p.1,p.2.1)) j)=some e'∧e'.st=e.st∧e'.rows.length=e.rows.length∧ρn (mapN (l1.map fun p=>(p.1,p.2.1)) j)=ρ1 j:=by
    intro j _ e he
    obtain ⟨i,hm⟩:=g1 j e he
    rw [(k1 j i e hm).2.2]
    exact ⟨_,hGA j i e hm,rfl,by simp [renR],hA j i e hm⟩
  have hrep1:∀ x u,refsIn (l1.map fun p=>p.1) 4 x=true→RepL w1 S1 ρ1 (asG (l1.map fun p=>(p.1,p.2.2))) x u→RepL w1 Sn ρn Gn (renL (mapN (l1.map fun p=>(p.1,p.2.1))) 4 x) u:=fun x u hn hx=>hx.ren (fun _ h=>.inr h) hKid1 hn
  have hHn : Hr w1 Sn ρn Gn base:=by
    refine ⟨fun i e hi => ?_,fun i1 i2 b hi1 hi2 => ?_,fun i b hi => ?_,fun i b hi => ?_,fun k hk => ?_,fun k hk=>Nat.lt_of_lt_of_le (hr.klt k hk) h3.below.size,fun i b p hi hp => ?_⟩
    · rcases hcase i with ⟨j,e1,hm⟩ | ⟨hi1,j,e0,hm⟩ | ⟨hi1,hi0⟩
      · rw [hGA j i e1 hm] at hi;cases hi
        obtain ⟨m1,m2⟩:=h1.blk j e1 (k1 j i e1 hm).1
        refine ⟨fun r hr1 => ?_,?_⟩
        · obtain ⟨q,hq,rfl⟩:=List.mem_map.1 hr1
          rw [List.length_map];exact m1 q hq
        · rcases m2 with ⟨m2,m3⟩ | ⟨b,arr,ty,fz,m2,m3,m4,m5,m6⟩
          · exact .inl ⟨(hA j i e1 hm).trans m2,fun hf=>by show renR _ e1.rows=[];rw [m3 hf];rfl⟩
          · refine .inr ⟨b,arr,ty,fz,(hA j i e1 hm).trans m2,?_,m4,m5,fun q lc hq => ?_⟩
            · rw [← m3]
              exact ⟨fun hk=>hk.elim (fun hs=>(hnew j b m2 hs).elim) id,.inr⟩
            · have hq2:(renR (renL (mapN (l1.map fun p=>(p.1,p.2.1))) 4) e1.rows).flatten[q]? = some lc:=hq
              rw [renR_flatten,List.getElem?_map,Option.map_eq_some_iff] at hq2
              obtain ⟨c,hc,rfl⟩:=hq2
              obtain ⟨x,hx,hx2⟩:=m6 q c hc
              obtain ⟨r,hr1,hcr⟩:=List.mem_flatten.1 (List.mem_of_getElem? hc)
              obtain ⟨p,hp⟩:=List.mem_iff_getElem?.1 hcr
              exact ⟨x,hx,hrep1 c x (refsC_get ((hout2 j i e1 hm).2 r hr1) p c hp) hx2⟩
      · rw [hGB j i e0 hm hi1] at hi;cases hi
        refine ⟨fun r hr1 => ?_,.inl ⟨?_,fun h=>by cases h⟩⟩
        · rw [List.eq_of_mem_replicate hr1];exact List.length_replicate
        · rw [hBC i hi1,if_pos (List.mem_map.2 ⟨_,hm,rfl⟩)]
      · rw [hGC i hi1 hi0] at hi
        obtain ⟨m1,m2⟩:=hr2.blk i e hi
        have hρi:ρn i=ρ i:=by rw [hBC i hi1,if_neg hi0]
        refine ⟨m1,?_⟩
        rcases m2 with ⟨m2,m3⟩ | ⟨b,arr,ty,fz,m2,m3,m4,m5,m6⟩
        · exact .inl ⟨hρi.trans m2,m3⟩
        · have hKb:base'.K b:=.inr (.inr ⟨i,hi0,m2⟩)
          refine .inr ⟨b,arr,ty,fz,hρi.trans m2,?_,(h3.keep b hKb (hr.bound m2)).trans m4,m5,fun q lc hq => ?_⟩
          · rw [← m3]
            refine ⟨fun hk=>hk.elim id fun hk=>(h4 b hk).elim id fun hok=>(hok.2 hKb).elim,.inl⟩
          · obtain ⟨x,hx,hx2⟩:=m6 q lc hq
            exact ⟨x,hx,hx2.mono hext⟩
    · rcases hcase i1 with ⟨j1,e1,hm1⟩ | ⟨hx1,j1,e1,hm1⟩ | ⟨hx1,hy1⟩
      · rw [hA j1 i1 e1 hm1] at hi1
        rcases hcase i2 with ⟨j2,e2,hm2⟩ | ⟨hx2,j2,e2,hm2⟩ | ⟨hx2,hy2⟩
        · rw [hA j2 i2 e2 hm2] at hi2
          have:=h1.inj j1 j2 b hi1 hi2
          subst this
          rw [← (k1 j1 i1 e1 hm1).2.2,← (k1 j1 i2 e2 hm2).2.2]
        · rw [hBC i2 hx2,if_pos (List.mem_map.2 ⟨_,hm2,rfl⟩)] at hi2;cases hi2
        · rw [hBC i2 hx2,if_neg hy2] at hi2
          exact ((h1.own j1 b hi1).2 (.inr (.inr ⟨i2,hy2,hi2⟩))).elim
      · rw [hBC i1 hx1,if_pos (List.mem_map.2 ⟨_,hm1,rfl⟩)] at hi1;cases hi1
      · rw [hBC i1 hx1,if_neg hy1] at hi1
        rcases hcase i2 with ⟨j2,e2,hm2⟩ | ⟨hx2,j2,e2,hm2⟩ | ⟨hx2,hy2⟩
        · rw [hA j2 i2 e2 hm2] at hi2
          exact ((h1.own j2 b hi2).2 (.inr (.inr ⟨i1,hy1,hi1⟩))).elim
        · rw [hBC i2 hx2,if_pos (List.mem_map.2 ⟨_,hm2,rfl⟩)] at hi2;cases hi2
        · rw [hBC i2 hx2,if_neg hy2] at hi2
          exact hr.inj i1 i2 b hi1 hi2
    · rcases hcase i with ⟨j,e1,hm⟩ | ⟨hi1,j,e0,hm⟩ | ⟨hi1,hi0⟩
      · rw [hA j i e1 hm] at hi
        have:=h1.own j b hi
        exact ⟨this.1,fun hk=>this.2 (.inl hk)⟩
      · rw [hBC i hi1,if_pos (List.mem_map.2 ⟨_,hm,rfl⟩)] at hi;cases hi
      · rw [hBC i hi1,if_neg hi0] at hi;exact hr.own i b hi
    · rcases hcase i with ⟨j,e1,hm⟩ | ⟨hi1,j,e0,hm⟩ | ⟨hi1,hi0⟩
      · rw [hGA j i e1 hm];simp
      · rw [hGB j i e0 hm hi1];simp
      · rw [hBC i hi1,if_neg hi0] at hi;rw [hGC i hi1 hi0];exact hr2.dom i b hi
    · rcases hk with hk | hk
      · exact Nat.lt_of_lt_of_le (hr2.lt k hk) h3.below.size
      · exact h1.lt k hk
    · have hbig:=base.lo i p hp
      rcases hcase i with ⟨j,e1,hm⟩ | ⟨hi1,j,e0,hm⟩ | ⟨hi1,hi0⟩
      · rcases (hout2 j i e1 hm).1 with ⟨hj,e0,h5,h6,h6f,h7,h8⟩ | ⟨_,h5,_⟩
        · rw [hA j i e1 hm,hpinned j i e0 e1 h5 hm hj h6f h7 h8] at hi
          exact hr.pin i b p hi hp
        · omega
      · rw [hBC i hi1,if_pos (List.mem_map.2 ⟨_,hm,rfl⟩)] at hi;cases hi
      · rw [hBC i hi1,if_neg hi0] at hi;exact hr.pin i b p hi hp
  have hsup:∀ k,Sup S ρ F k→S k∨base.ok k:=by
    rintro k (hk | ⟨i,_,hi⟩)
    · exact .inl hk
    · exact .inr (hr.own i k hi)
  exact hK u w1 Sn ρn ⟨hef.trans hext (fun i b arr ty fz _ hw=>h3.grow b arr ty fz hw),hHn,RepV.map hrep1 hy h2,⟨h3.below,fun k hk=>h3.keep k (.inl hk),h3.grow⟩,fun k hk=>hk.elim (hsup k) fun hk=>(h4 k hk).elim (hsup k) fun hok=>.inr ⟨hok.1,fun hx=>hok.2 (.inl hx)⟩⟩
theorem enter_ok {fid:FuncId} {xs:List Va} {av:Array Value} (hr:Hr w S ρ G base) (hB:base.n≤w.heap.size) (hdN:∀ i,d=some i→i < 1000000) (hgl:GlOk gl w S) (hexec:(execOp a.eval o).run P w=.ok (.enter fid av) w) (hrepA:RepA w (Sup S ρ c.F) xs av)
    (hob:(callS P gl c d G fid xs).ob) (hK:∀ u w1 S1 ρ1,Post w S ρ G base (callS P gl c d G fid xs).v u w1 S1 ρ1 (apG G (callS P gl c d G fid xs).ef)→K (a.put o.dst u) w1):o.wp P a w K Q:=by
  generalize hO:callS P gl c d G fid xs=out at hob hK
  unfold callS at hO
  have hgl2:GlOk gl w (Sup S ρ c.F):=fun g cs hg=>(hgl g cs hg).sup
  have hlt2:∀ k,Sup S ρ c.F k→k < w.heap.size:=by
    intro k hk
    rcases hk with hk | ⟨i,_,hi⟩
    · exact hr.lt k hk
    · exact hr.bound hi
  unfold Oper.wp
  rw [hexec,Oper.upon_enter]
  split at hO
  case h_2 st rows hown =>
    split at hO
    case h_2=>subst hO;exact hob.elim
    rename_i i
    subst hO
    obtain ⟨⟨_,hfun⟩,hGi,hfl⟩:=hob
    refine (hfun w (Sup S ρ c.F) av hlt2 hgl2 hrepA).mono fun e w1 hh => ?_
    obtain ⟨u,S2,ρ2,rfl,k1,k2,k3,k5,k4⟩:=hh
    have hbk:=k3.blk 0 ⟨st,rows.map (fun r=>r.map Lc.d),false⟩ (by simp [updG])
    have hρi:ρ i=none:=by
      cases h:ρ i with
      | none=>rfl
      | some b=>exact absurd hGi (hr.dom i b h)
    have hfin : ∀ S',(∀ k,S k→S' k)→(∀ k,S' k→S2 k)→(∀ k,S' k→(S k∨w.heap.size≤k)∧k < w1.heap.size)→(∀ sc u,sc∈rows.flatten→RepD w1 S2 sc u→RepD w1 S' sc u)→K (a.put o.dst u) w1:=by
      intro S' q1 q0 q2 q3
      obtain ⟨e1,e2⟩:=hr.step (w1:=w1) (S1:=S') (fun k hk=>k4.block k hk) k4.size q1 q2
      obtain ⟨e3, e4⟩:=e2.upd0 (w1:=w1) (Nat.le_trans hB k4.size) i ⟨st,rows.map (fun r=>r.map Lc.d),false⟩ (ρ2 0) (fun _ _ _=>rfl) (Nat.le_refl _) (fun x hx=>by rw [hGi] at hx;cases hx) (fun b _ _ _ hb _=>by rw [hρi] at hb;cases hb) (by
          cases hb:ρ2 0 with
          | none=>exact .inl hρi.symm
          | some b =>
            refine .inr ⟨b,rfl,hr.fresh hB (k3.own 0 b hb).1,fun hS => ?_,fun j hj => ?_,hdN _ rfl⟩
            · rcases hbk.2 with ⟨h1,_⟩ | ⟨b1,arr,ty,fz,h1,h2,_⟩
              · rw [hb] at h1;cases h1
              · rw [hb] at h1;cases h1
                have:=h2.1 (q0 b hS)
                cases this
            · have:=hr.bound hj
              have:=(k3.own 0 b hb).1
              have e9:(B0 w.heap.size).n=w.heap.size:=rfl
              omega) rfl hbk.1 (by
          rcases hbk.2 with ⟨h1,h2⟩ | ⟨b1,arr,ty,fz,h1,h2,h3,h4,h5⟩
          · exact .inl ⟨h1,h2 rfl⟩
          · refine .inr ⟨b1,arr,ty,fz,h1,h3,h4 rfl,fun j lc hj => ?_⟩
            obtain ⟨x,g1,g2⟩:=h5 j lc hj
            have hj2:(rows.map (fun r=>r.map Lc.d)).flatten[j]? = some lc:=hj
            rw [map_d_flatten,List.getElem?_map,Option.map_eq_some_iff] at hj2
            obtain ⟨sc,hsc,rfl⟩:=hj2
            cases g2 with
            | d _ _ g2=>exact ⟨x,g1,.d _ _ (q3 sc x (List.mem_of_getElem? hsc) g2)⟩)
      refine hK u w1 S' _ ⟨e1.trans e3 (fun j b arr ty fz hj hw=>⟨arr,ty,fz,(k4.block b (hr.bound hj)).trans hw,Nat.le_refl _⟩),e4,?_,Bel.old k4 hB,fun k hk=>(q2 k hk).1.elim .inl (fun h=>.inr (hr.fresh hB h))⟩
      cases k5 with
      | own _ _ e0 _ hG0 hn hone hh =>
        simp only [updG,if_true,Option.some.injEq] at hG0
        subst hG0
        refine .own i _ ⟨st,rows.map (fun r=>r.map Lc.d),false⟩ u (by simp [apG,updG]) hn hone (fun h => ?_)
        obtain ⟨p,cap,g1,g2⟩:=hh h
        refine ⟨p,cap,g1,?_⟩
        rcases g2 with g2 | ⟨b,arr,ty,fz,g2,g3⟩
        · exact .inl g2
        · exact .inr ⟨b,arr,ty,fz,by simp [updR,g2],g3⟩
    rcases hfl with hF | hflat
    · have hsup:∀ k,Sup S ρ c.F k→S k:=by
        intro k hk
        rcases hk with hk | ⟨j,hj,_⟩
        · exact hk
        · rw [hF] at hj;cases hj
      exact hfin S2 (fun k hk=>k1 k (.inl hk)) (fun _ h=>h) (fun k hk=>⟨(k2 k hk).1.imp (hsup k) id,(k2 k hk).2⟩) (fun _ _ _ h=>h)
    · refine hfin S (fun _ h=>h) (fun k hk=>k1 k (.inl hk)) (fun k hk=>⟨.inl hk,Nat.lt_of_lt_of_le (hr.lt k hk) k4.size⟩) (fun sc x hsc h=>flatS_rep ?_ h)
      obtain ⟨r,hr1,hr2⟩:=List.mem_flatten.1 hsc
      exact List.all_eq_true.1 (List.all_eq_true.1 hflat r hr1) sc hr2
  rename_i hown
  subst hO
  obtain ⟨⟨_,hfun⟩,hflat,hfz⟩:=hob
  refine (hfun w (Sup S ρ c.F) av hlt2 hgl2 hrepA).mono fun e w1 hh => ?_
  obtain ⟨u,S2,rfl,k1,k2,k3,k4⟩:=hh
  cases hkeep:c.keep with
  | false =>
    obtain ⟨e1,e2⟩:=hr.step (w1:=w1) (S1:=S) (fun k hk=>k4.block k hk) k4.size (fun _ h=>h) (fun k hk=>⟨.inl hk,Nat.lt_of_lt_of_le (hr.lt k hk) k4.size⟩)
    apply hK u w1 S ρ
    rw [hkeep]
    exact ⟨e1,e2,flatV_rep (hflat hkeep) k3,Bel.old k4 hB,fun k hk=>.inl hk⟩
  | true =>
    obtain ⟨e1,e2⟩:=hr.freeze c.F 4 (fun i e hi hG=>hfz i hi e hG)
    obtain ⟨e3,e4⟩:=e2.step (w1:=w1) (S1:=S2) (fun k hk=>k4.block k hk) k4.size k1 k2
    apply hK u w1 S2 ρ
    rw [hkeep]
    simp only [if_true,apG_frz_all]
    refine ⟨⟨fun k hk=>e3.sub k (e1.sub k hk),fun k hk=>e3.keep k (e1.sub k hk),fun i e hi => ?_,fun i b arr ty fz hi hw=>e3.size i b arr ty fz hi hw⟩,e4,k3.wide,Bel.old k4 hB,fun k hk => ?_⟩
    · exact e1.ids i e hi
    · rcases (k2 k hk).1 with (h | ⟨i,_,h⟩) | h
      · exact .inl h
      · exact .inr (hr.own i k h)
      · exact .inr (hr.fresh hB h)
theorem call_ok {f:Od} {l:List Od} (hr:Hr w S ρ G base) (hB:base.n≤w.heap.size) (hdN:∀ i,d=some i→i < 1000000) (hgl:GlOk gl w S) (hc:cIns P o=some (.call f l)) (hev:EvOk w S ρ G ev a (opsOf (.call f l)))
    (hob:(semI P gl c d (.call f l) ev G).ob) (hK:∀ u w1 S1 ρ1,Post w S ρ G base (semI P gl c d (.call f l) ev G).v u w1 S1 ρ1 (apG G (semI P gl c d (.call f l) ev G).ef)→K (a.put o.dst u) w1):o.wp P a w K Q:=by
  cases hm:mOf f with
  | some name =>
    obtain rfl:f=.m name:=by cases f <;> first | (cases hm;rfl) | cases hm
    obtain ⟨xo,args,ts,l0,y0,hop,rfl,hx,hl⟩:∃ xo args ts l0 y0,o.op=.call { callee:=.invoke xo name,args:=args,argTypes:=ts }∧l=y0 :: l0∧cOd xo=some y0∧cOds args.toList=some l0:=by
      unfold cIns at hc
      split at hc
      case h_28 f2 args ts hop =>
        split at hc
        · rename_i h1 h2
          cases hc
          cases f2 <;> simp [cOd] at h1
        · cases hc
      case h_29 x2 n2 args ts hop =>
        split at hc
        · rename_i h1 h2
          cases hc
          exact ⟨x2,args,ts,_,_,hop,rfl,h1,h2⟩
        · cases hc
      all_goals (exfalso;(repeat' split at hc) <;> first | cases hc | (obtain ⟨_,_,hc⟩:=Option.map_eq_some_iff.1 hc;cases hc))
    generalize hO:semI P gl c d (.call (.m name) (y0 :: l0)) ev G=out at hob hK
    simp only [semI,mOf,List.map_cons] at hO
    have hyv:=hev xo y0 (by simp [opsOf]) hx
    split at hO
    · rename_i sc l1 hsc hown
      obtain ⟨hy0,hl1⟩:=List.cons.inj hsc
      split at hO
      · rename_i xs hxs
        subst hO
        obtain ⟨⟨fid,t,ag,cells,rfl,hme,hfun⟩,hflat,hfz⟩:=hob
        obtain ⟨h1,h2⟩:=cOds_get hl
        rw [← hl1] at hxs
        obtain ⟨h3,h4⟩:=argsV_get hr hxs
        rw [hy0] at hyv
        obtain ⟨rv,hu,hrv⟩:∃ rv,a.eval xo=.iface t rv∧RepV w (Sup S ρ c.F) (fun _=>none) (fun _=>none) (recvV ag cells) rv:=by
          have hd:RepL w S ρ G (.d (.ifc t ag cells)) (a.eval xo):=hyv
          cases hd with
          | d _ _ hd =>
            have hd:=hd.sup (ρ:=ρ) (F:=c.F)
            revert hd
            generalize a.eval xo=q
            intro hd
            cases hd with
            | ifa _ _ vs hl hu =>
              refine ⟨.agg vs,rfl,vs,rfl,by simp [hl],fun j lc hj => ?_⟩
              rw [List.getElem?_map,Option.map_eq_some_iff] at hj
              obtain ⟨sc,hj,rfl⟩:=hj
              exact .d _ _ (hu j sc hj)
            | if1 _ c1 u1 hu=>exact ⟨u1,rfl,.d _ _ hu⟩
        have hca:=hfun.1
        have hexec:(execOp a.eval o).run P w=.ok (.enter fid (#[rv]++args.map a.eval)) w:=by
          unfold execOp;rw [hop]
          unfold callable at hca
          cases hfn:P.funcs[fid]? with
          | none=>rw [hfn] at hca;cases hca
          | some fn =>
            rw [hfn] at hca
            simp only [Bool.and_eq_true,Bool.not_eq_true'] at hca
            have hb:fn.body.isNone=false:=by cases h:fn.body <;> simp_all
            have hn:¬ (fn.name == "runtime.NumGoroutine")=true:=by rw [hca.2];simp
            have hmeth:=run_methF (w:=w) (v:=rv) hme (P.types.size+Made.depth) (by unfold Made.depth;omega)
            have e0:(#[Value.iface t rv]++args.map a.eval)[0]? = some (Value.iface t rv):=by rw [Array.getElem?_append_left (by simp)];rfl
            have e1:(#[Value.iface t rv]++args.map a.eval).extract 1 (#[Value.iface t rv]++args.map a.eval).size=args.map a.eval:=by
              apply Array.ext
              · simp
              · intro i h1 h2
                rw [Array.getElem_extract,Array.getElem_append_right (by simp)]
                simp
            simp only [resolve,hu,Sem.run_bind,Sem.run_pure,Result.andThen_ok,invoke,e0,e1,callMethod,callFunc,run_program,hmeth,hfn,hb,hn,if_false,Bool.false_eq_true]
        have hrepA:RepA w (Sup S ρ c.F) (recvV ag cells :: xs) (#[rv]++args.map a.eval):=by
          refine ⟨by simp [h3,h1];omega,fun j x hj => ?_⟩
          cases j with
          | zero =>
            simp only [List.getElem?_cons_zero,Option.some.injEq] at hj
            subst hj
            rw [Array.getD_eq_getD_getElem?,Array.getElem?_append_left (by simp)]
            exact hrv
          | succ j =>
            rw [List.getElem?_cons_succ] at hj
            obtain ⟨v,hv1,hv2⟩:=h4 j x hj
            apply hv2
            rw [List.getElem?_map,Option.map_eq_some_iff] at hv1
            obtain ⟨od,hod,rfl⟩:=hv1
            obtain ⟨x,hx1,hx2⟩:=h2 j od hod
            have e1:(#[rv]++args.map a.eval).getD (j+1) undef=a.eval x:=by
              rw [Array.getElem?_toList] at hx1
              rw [Array.getD_eq_getD_getElem?,Array.getElem?_append_right (by simp),Array.getElem?_map]
              simp [hx1]
            rw [e1]
            exact hev x od (by simp only [opsOf];exact List.mem_cons_of_mem _ (List.mem_cons_of_mem _ (List.mem_of_getElem? hod))) hx2
        have hS:callS P gl c d G fid (recvV ag cells :: xs)=⟨Fun P gl fid (recvV ag cells :: xs) c.y∧(c.keep=false→flatV c.y=true)∧(∀ i,i∈c.F→∀ e,G i=some e→(convR (conv c.F G 4) e.rows).isSome=true),c.y,
            if c.keep then c.F.filterMap (fun i=>(frz c.F 4 G i).map fun e=>(i,e)) else []⟩:=by unfold callS;rw [hown]
        exact enter_ok (xs:=recvV ag cells :: xs) hr hB hdN hgl hexec hrepA (by rw [hS];exact ⟨hfun,hflat,hfz⟩) (by rw [hS];exact hK)
      · subst hO;exact hob.elim
    · subst hO;exact hob.elim
  | none =>
    obtain ⟨fo,args,ts,hop,hfo,hl⟩:∃ fo args ts,o.op=.call { callee:=.value fo,args:=args,argTypes:=ts }∧cOd fo=some f∧cOds args.toList=some l:=by
      unfold cIns at hc
      split at hc
      case h_28 f2 args ts hop =>
        split at hc
        · rename_i h1 h2
          cases hc
          exact ⟨f2,args,ts,hop,h1,h2⟩
        · cases hc
      case h_29 x2 n2 args ts hop =>
        split at hc
        · cases hc;cases hm
        · cases hc
      all_goals (exfalso;(repeat' split at hc) <;> first | cases hc | (obtain ⟨_,_,hc⟩:=Option.map_eq_some_iff.1 hc;cases hc))
    generalize hO:semI P gl c d (.call f l) ev G=out at hob hK
    simp only [semI,hm] at hO
    split at hO
    · rename_i fid caps hf
      have hfv:=hev fo f (by simp [opsOf]) hfo
      obtain ⟨vs,hfu,hvs,hcap⟩:=fnV_rep hf hfv
      obtain ⟨h1,h2⟩:=cOds_get hl
      have hexec0:callable P fid=true→(execOp a.eval o).run P w=.ok (.enter fid (args.map a.eval++vs)) w:=by
          intro hca
          unfold execOp;rw [hop]
          unfold callable at hca
          cases hfn:P.funcs[fid]? with
          | none=>rw [hfn] at hca;cases hca
          | some fn =>
            rw [hfn] at hca
            simp only [Bool.and_eq_true,Bool.not_eq_true'] at hca
            have hb:fn.body.isNone=false:=by cases h:fn.body <;> simp_all
            have hn:¬ (fn.name == "runtime.NumGoroutine")=true:=by rw [hca.2];simp
            simp only [resolve,hfu,Deferred.ofValue,Sem.run_bind,Sem.run_pure,Result.andThen_ok,invoke,callFunc,run_program,hfn,hb,hn,Array.empty_append,if_false,Bool.false_eq_true]
      have hval : ∀ (j:Nat) v,(l.map ev++caps)[j]? = some v→RepV w S ρ G v ((args.map a.eval++vs).getD j undef):=by
          intro j v hv1
          by_cases hjl:j < l.length
          · rw [List.getElem?_append_left (by simpa using hjl),List.getElem?_map,Option.map_eq_some_iff] at hv1
            obtain ⟨od,hod,rfl⟩:=hv1
            obtain ⟨x,hx1,hx2⟩:=h2 j od hod
            have e1:(args.map a.eval++vs).getD j undef=a.eval x:=by
              rw [Array.getElem?_toList] at hx1
              rw [Array.getD_eq_getD_getElem?,Array.getElem?_append_left (by have:=(Array.getElem?_eq_some_iff.1 hx1).1;simpa using this),Array.getElem?_map,hx1];rfl
            rw [e1]
            exact hev x od (by simp only [opsOf];exact List.mem_cons_of_mem _ (List.mem_of_getElem? hod)) hx2
          · rw [List.getElem?_append_right (by simpa using hjl),List.length_map] at hv1
            have e1:(args.map a.eval++vs).getD j undef=vs.getD (j - l.length) undef:=by
              have hsz:(args.map a.eval).size=l.length:=by simp [h1]
              rw [Array.getD_eq_getD_getElem?,Array.getElem?_append_right (by omega),hsz,Array.getD_eq_getD_getElem?]
            rw [e1]
            exact hcap _ v hv1
      split at hO
      · rename_i h hlend
        subst hO
        exact lend_ok hr hB hgl (hexec0 hob.1.1) ⟨by simp [h1,hvs],hval⟩ hob hK
      split at hO
      · rename_i xs hxs
        have hcfo:∃ hca:callable P fid=true,True:=by
          rw [← hO] at hob
          unfold callS at hob
          split at hob
          · exact ⟨hob.1.1,trivial⟩
          · split at hob
            · exact ⟨hob.1.1,trivial⟩
            · exact hob.elim
        obtain ⟨hca,_⟩:=hcfo
        obtain ⟨h3,h4⟩:=argsV_get hr hxs
        have hexec:=hexec0 hca
        have hrepA:RepA w (Sup S ρ c.F) xs (args.map a.eval++vs):=by
          refine ⟨by simp [h3,h1,hvs],fun j x hj => ?_⟩
          obtain ⟨v,hv1,hv2⟩:=h4 j x hj
          exact hv2 _ (hval j v hv1)
        exact enter_ok hr hB hdN hgl hexec hrepA (by rw [hO];exact hob) (by rw [hO];exact hK)
      · subst hO;exact hob.elim
    · subst hO;exact hob.elim
theorem op_ok {ins:Ins} (hr:Hr w S ρ G base) (hB:base.n≤w.heap.size) (hdN:∀ i,d=some i→i < 1000000) (hgl:GlOk gl w S) (hc:cIns P o=some ins) (hd:d=o.dst) (hev:EvOk w S ρ G ev a (opsOf ins))
    (hob:(semI P gl c d ins ev G).ob) (hK:∀ u w1 S1 ρ1,Post w S ρ G base (semI P gl c d ins ev G).v u w1 S1 ρ1 (apG G (semI P gl c d ins ev G).ef)→K (a.put o.dst u) w1):o.wp P a w K Q:=by
  by_cases hcall:∃ f l,ins=.call f l
  · obtain ⟨f,l,rfl⟩:=hcall
    exact call_ok hr hB hdN hgl hc hev hob hK
  · obtain ⟨u,w1,S1,ρ1,h1,h2,h3,h4,h5,h6⟩:=sem_ok hr hB hdN hc (fun f l h=>hcall ⟨f,l,h⟩) hd hev hob
    have:=hK u w1 S1 ρ1 ⟨h2,h3,h4,h5,h6⟩
    unfold Oper.wp
    rcases h1 with h1 | ⟨h1,rfl⟩
    · rw [h1];exact this
    · rw [h1];exact this
end Go.Proofs.YtedibjgdangfnaaGreatDoor.V
end

section
namespace Go.Proofs.YtedibjgdangfnaaGreatDoor.V
open Go Go.RowKit
set_option linter.unusedVariables false
set_option linter.unusedSimpArgs false
structure St where
  T:Nat→Va
  G:Hf
def updT (T:Nat→Va) (i:Nat) (v:Va):Nat→Va:=fun j=>if j=i then v else T j
def putT (T:Nat→Va) (d:Option Nat) (v:Va):Nat→Va:=match d with
  | none=>T
  | some i=>updT T i v
def evT (gl:Gl) (T:Nat→Va):Od→Va
  | .t n=>T n
  | .c x=>.b x
  | .fn f=>.b (.s (.d (.clo f [])))
  | .g n=>match gl n with | some cs=>.b (.s (.d (.ref cs 0))) | none=>.dead
  | .m _=>.dead
def stripV:Va→Va
  | .gv _ x=>x
  | x=>x
theorem mOf_strip {gl:Gl} {T:Nat→Va} {f:Od} {r:FuncId×List Va} (h:fnV (stripV (evT gl T f))=some r):mOf f=none:=by
  cases f <;> first | rfl | cases h
def gOk (γ:Bool):Va→Prop
  | .gv g _=>γ=true→g=true
  | _=>True
def gval (T:Nat→Va):Option (Nat×Bool)→Option Bool
  | none=>some true
  | some (t,want)=>match boolV (T t) with
    | some (g,p)=>some (g && (if want then p else !p))
    | none=>none
def bareI (o:Opn):Bool:=match o.i with | .mv _=>o.g.isNone | .pick _ _ _=>true | _=>false
def evO (gl:Gl) (T:Nat→Va) (o:Opn):Od→Va:=fun od=>if bareI o then evT gl T od else stripV (evT gl T od)
section
variable (P:Program) (gl:Gl)
def outO (c:Ch) (o:Opn) (s:St):Out:=semI P gl c o.d o.i (evO gl s.T o) s.G
def okO (c:Ch) (o:Opn) (s:St):Prop :=
  ∃ γ,gval s.T o.g=some γ∧(bareI o=true∨∀ od,od∈opsOf o.i→gOk γ (evT gl s.T od))∧(γ=true→(outO P gl c o s).ob)∧(γ=true→∀ x,c.alt=some x→(outO P gl c o s).v=x)
def valO (c:Ch) (o:Opn) (s:St):Va:=match o.g with | none=>(outO P gl c o s).v | some _=>.gv ((gval s.T o.g).getD false) (match c.alt with | none=>(outO P gl c o s).v | some x=>x)
def nextO (c:Ch) (o:Opn) (s:St):St:=⟨putT s.T o.d (valO P gl c o s),if (gval s.T o.g).getD true then apG s.G (outO P gl c o s).ef else s.G⟩
end
structure Rel (gl:Gl) (N:Nat) (base:Base) (s:St) (a:Act) (w:World) (S:Nat→Prop) (ρ:Nat→Option Nat):Prop where
  hr:Hr w S ρ s.G base
  le:base.n≤w.heap.size
  gl:GlOk gl w S
  size:a.tmps.size=N
  tmps:∀ t,RepV w S ρ s.G (s.T t) (a.tmps.getD t undef)
  defers:a.defers=[]
def dstOk (N:Nat):Option Nat→Bool
  | some i=>Nat.blt i N && Nat.blt i 900000
  | none=>true
def cOpn (P:Program) (N:Nat) (ops:Array Oper) (o:Oper):Option Opn :=
  if dstOk N o.dst then
    match cIns P o,o.guard with
    | some i,none=>some ⟨o.dst,none,i⟩
    | some i,some (j,want)=>match (ops[j]?).bind (·.dst) with
      | some t=>some ⟨o.dst,some (t,want),i⟩
      | none=>none
    | none,_=>none
  else none
variable {P:Program} {gl:Gl} {c:Ch} {o:Oper} {a:Act} {w w1:World} {S S1:Nat→Prop} {ρ ρ1:Nat→Option Nat} {N:Nat} {base:Base} {s:St} {Q:Exit→Act→World→Prop} {K:Act→World→Prop}
theorem eval_rep (h:Rel gl N base s a w S ρ) {x:Operand} {od:Od} (hx:cOd x=some od):RepV w S ρ s.G (evT gl s.T od) (a.eval x):=by
  cases x with
  | tmp t=>simp only [cOd,Option.some.injEq] at hx;subst hx;exact h.tmps t
  | const v =>
    obtain ⟨y,hy,rfl⟩:=Option.map_eq_some_iff.1 hx
    exact kVb_rep hy
  | func f=>simp only [cOd,Option.some.injEq] at hx;subst hx;exact .d _ _ (.clo f [] #[] rfl (by simp))
  | global g =>
    simp only [cOd,Option.some.injEq] at hx;subst hx
    simp only [evT]
    cases hg:gl g with
    | none=>trivial
    | some cs=>exact .d _ _ (h.gl g cs hg)
theorem strip_rep {v:Va} {u:Value} {G:Hf} {γ:Bool} (hγ:γ=true) (hg:gOk γ v) (h:RepV w S ρ G v u):RepV w S ρ G (stripV v) u:=by
  cases v with
  | gv g x=>exact h.1 (hg hγ)
  | b x=>exact h
  | tup l=>exact h
  | dead=>exact h
  | meth n x=>exact h
theorem Rel.put (h:Rel gl N base s a w S ρ) {v:Va} {u:Value} {G1:Hf} (e:Ext w S ρ s.G w1 S1 ρ1 G1) (hr:Hr w1 S1 ρ1 G1 base) (hv:RepV w1 S1 ρ1 G1 v u) (hb:Bel base w w1) {d:Option Nat} (hd:∀ i,d=some i→i < N) :
    Rel gl N base ⟨putT s.T d v,G1⟩ (a.put d u) w1 S1 ρ1:=by
  cases d with
  | none=>exact ⟨hr,Nat.le_trans h.le hb.below.size,h.gl.ext e,h.size,fun t=>(h.tmps t).mono e,h.defers⟩
  | some i =>
    refine ⟨hr,Nat.le_trans h.le hb.below.size,h.gl.ext e,by simp [Act.put,h.size],fun t => ?_,h.defers⟩
    have hi:=hd i rfl
    simp only [Act.put,putT,updT]
    by_cases ht:t=i
    · subst ht
      rw [if_pos rfl]
      have:(a.tmps.setIfInBounds t u).getD t undef=u:=by
        rw [Array.getD_eq_getD_getElem?,Array.getElem?_setIfInBounds_self_of_lt (by rw [h.size];exact hi)];rfl
      rw [this];exact hv
    · rw [if_neg ht]
      have:(a.tmps.setIfInBounds i u).getD t undef=a.tmps.getD t undef:=by
        rw [Array.getD_eq_getD_getElem?,Array.getElem?_setIfInBounds_ne (by omega),Array.getD_eq_getD_getElem?]
      rw [this];exact (h.tmps t).mono e
theorem boolV_yield {v:Va} {g p:Bool} {tmps:Array Value} {t:Nat} {G:Hf} (hb:boolV v=some (g,p)) (h:RepV w S ρ G v (tmps.getD t undef)) (want:Bool) :
    ((match tmps[t]? with | some (.bool b)=>some b | _=>none) == some want)=(g && (if want then p else !p)):=by
  have key:∀ q,tmps.getD t undef=.bool q→tmps[t]? = some (.bool q):=by
    intro q hq
    rw [Array.getD_eq_getD_getElem?] at hq
    cases hx:tmps[t]? with
    | none=>rw [hx] at hq;simp [undef] at hq
    | some y=>rw [hx] at hq;simp at hq;rw [hq]
  unfold boolV at hb
  split at hb
  · simp only [Option.some.injEq,Prod.mk.injEq] at hb;obtain ⟨rfl,rfl⟩:=hb
    rw [key _ (rep_bool.1 h)]
    rename_i q
    cases q <;> cases want <;> rfl
  · simp only [Option.some.injEq,Prod.mk.injEq] at hb;obtain ⟨rfl,rfl⟩:=hb
    rename_i g q
    cases g with
    | true =>
      rw [key _ (rep_bool.1 (h.1 rfl))]
      cases q <;> cases want <;> rfl
    | false =>
      have hu:=h.2 rfl
      rw [Array.getD_eq_getD_getElem?] at hu
      cases hx:tmps[t]? with
      | none=>cases want <;> rfl
      | some y=>rw [hx] at hu;simp only [Option.getD_some] at hu;subst hu;cases want <;> rfl
  · simp only [Option.some.injEq,Prod.mk.injEq] at hb;obtain ⟨rfl,rfl⟩:=hb
    have hu:=h.2 rfl
    rw [Array.getD_eq_getD_getElem?] at hu
    cases hx:tmps[t]? with
    | none=>cases want <;> rfl
    | some y=>rw [hx] at hu;simp only [Option.getD_some] at hu;subst hu;cases want <;> rfl
  · cases hb
theorem step_sound {ops:Array Oper} {i:Nat} {q:Opn} (h:Rel gl N base s a w S ρ) (ho:ops[i]? = some o) (hc:cOpn P N ops o=some q) (hok:okO P gl c q s)
    (hK:∀ a1 w1 S1 ρ1,Rel gl N base (nextO P gl c q s) a1 w1 S1 ρ1→Bel base w w1→(∀ k,S1 k→S k∨base.ok k)→K a1 w1):wpOp P ops Q i K a w:=by
  unfold cOpn at hc
  by_cases hdst:dstOk N o.dst=true
  case neg=>rw [if_neg hdst] at hc;cases hc
  rw [if_pos hdst] at hc
  have hd2:∀ i,o.dst=some i→i < N∧i < 900000:=by
    intro i hi
    rw [hi] at hdst
    simpa [dstOk,Nat.blt_eq] using hdst
  have hd:∀ i,o.dst=some i→i < N:=fun i hi=>(hd2 i hi).1
  obtain ⟨ins,hins,hq⟩:∃ ins,cIns P o=some ins∧((o.guard=none∧q=⟨o.dst,none,ins⟩)∨∃ j want t,o.guard=some (j,want)∧(ops[j]?).bind (·.dst)=some t∧q=⟨o.dst,some (t,want),ins⟩):=by
    split at hc
    · rename_i ins h1 h2;cases hc;exact ⟨ins,h1,.inl ⟨h2,rfl⟩⟩
    · rename_i ins j want h1 h2
      split at hc
      · rename_i t ht;cases hc;exact ⟨ins,h1,.inr ⟨j,want,t,h2,ht,rfl⟩⟩
      · cases hc
    · cases hc
  obtain ⟨γ,hγ,hbare,hob,halt⟩:=hok
  have hqd:q.d=o.dst:=by rcases hq with ⟨_,rfl⟩ | ⟨_,_,_,_,_,rfl⟩ <;> rfl
  have hqi:q.i=ins:=by rcases hq with ⟨_,rfl⟩ | ⟨_,_,_,_,_,rfl⟩ <;> rfl
  have hwant:Region.wanted o (yielded ops a.tmps)=γ:=by
    rcases hq with ⟨h1,rfl⟩ | ⟨j,want,t,h1,h2,rfl⟩
    · simp only [gval,Option.some.injEq] at hγ;subst hγ;simp [Region.wanted,h1]
    · simp only [gval] at hγ
      split at hγ
      · rename_i g p hb
        simp only [Option.some.injEq] at hγ;subst hγ
        simp only [Region.wanted,h1,yielded,h2,Option.bind_some]
        exact boolV_yield hb (h.tmps t) want
      · cases hγ
  unfold wpOp
  rw [ho]
  simp only [hwant]
  cases hγt:γ with
  | true =>
    subst hγt
    simp only [if_true]
    left
    refine op_ok (d:=q.d) (c:=c) (ev:=evO gl s.T q) h.hr h.le (fun i hi=>Nat.lt_of_lt_of_le (hd2 i (hqd.symm.trans hi)).2 (by decide)) h.gl hins hqd ?_ ?_ ?_
    · intro x od hod hx
      have:=eval_rep h hx
      unfold evO
      rcases hbare with hb | hb
      · rw [if_pos hb];exact this
      · split
        · exact this
        · exact strip_rep rfl (hb od (by rw [hqi];exact hod)) this
    · have:=hob rfl
      unfold outO at this
      rw [hqi] at this
      exact this
    · intro u w1 S1 ρ1 hp
      refine hK _ w1 S1 ρ1 ?_ hp.below hp.sub
      have e1:nextO P gl c q s=⟨putT s.T o.dst (valO P gl c q s),apG s.G (outO P gl c q s).ef⟩:=by
        unfold nextO;rw [hqd,hγ];rfl
      rw [e1]
      have e2:outO P gl c q s=semI P gl c q.d ins (evO gl s.T q) s.G:=by unfold outO;rw [hqi]
      rw [e2]
      refine h.put hp.ext hp.hr ?_ hp.below hd
      unfold valO
      rw [e2,hγ]
      rcases hq with ⟨_,rfl⟩ | ⟨_,_,_,_,_,rfl⟩
      · exact hp.rep
      · refine ⟨fun _ => ?_,fun h=>by cases h⟩
        have hr2:=hp.rep
        have ha:=halt rfl
        rw [e2] at ha
        cases hc:c.alt with
        | none=>exact hr2
        | some x=>simp only;rw [← ha x hc];exact hr2
  | false =>
    subst hγt
    simp only [Bool.false_eq_true,if_false]
    have e1:nextO P gl c q s=⟨putT s.T o.dst (valO P gl c q s),s.G⟩:=by
      unfold nextO;rw [hqd,hγ];rfl
    refine hK _ w S ρ ?_ (Bel.refl _ _) (fun k hk=>.inl hk)
    rw [e1]
    refine h.put (Ext.refl _ _ _ _) h.hr ?_ (Bel.refl _ _) hd
    unfold valO
    rw [hγ]
    rcases hq with ⟨h1,rfl⟩ | ⟨_,_,_,_,_,rfl⟩
    · simp [gval] at hγ
    · show RepV w S ρ s.G (.gv false _) undef
      exact And.intro (fun h=>absurd h (by simp)) (fun _=>rfl)
end Go.Proofs.YtedibjgdangfnaaGreatDoor.V
end

section
namespace Go.Proofs.YtedibjgdangfnaaGreatDoor.V
open Go Go.RowKit
set_option linter.unusedVariables false
set_option linter.unusedSimpArgs false
def idsV:Va→List Nat
  | .b (.s (.ptr i _ _ _))=>[i]
  | .b (.s (.own i _))=>[i]
  | _=>[]
def allocI:Ins→Bool
  | .new _ | .box _ _ | .bsl _ _ | .mksl _ _ _ _ _ | .cv .s2b _ | .app _ _ _ _ _=>true
  | _=>false
def quietI:Ins→Bool
  | .mv _ | .pick _ _ _=>true
  | _=>false
def isCall:Ins→Bool
  | .call _ _=>true
  | _=>false
def lendIds (c:Ch):List Nat:=match c.lend with
  | some h=>h.l0.map (·.2.1)++h.l1.map (·.2.1)
  | none=>[]
def touchI (c:Ch) (d:Option Nat) (ins:Ins) (ev:Od→Va):List Nat :=
  (if quietI ins then [] else (opsOf ins).flatMap fun od=>idsV (ev od))++(if allocI ins then d.toList else [])++(if isCall ins then (c.F++(if c.own.isSome then d.toList else []))++lendIds c else [])
def tmpsOf (o:Opn):List Nat:=(opsOf o.i).filterMap (fun | .t n=>some n | _=>none)++(o.g.map (·.1)).toList
variable {P:Program} {gl:Gl} {c:Ch} {d:Option Nat} {ins:Ins} {ev ev1:Od→Va} {G G1:Hf}
theorem sem_congr (he:∀ od,od∈opsOf ins→ev od=ev1 od):semI P gl c d ins ev G=semI P gl c d ins ev1 G:=by
  cases ins with
  | mv x=>simp only [semI,he x (by simp [opsOf])]
  | pick x y z=>simp only [semI,he x (by simp [opsOf]),he y (by simp [opsOf]),he z (by simp [opsOf])]
  | new cells=>rfl
  | box sz x=>simp only [semI,he x (by simp [opsOf])]
  | build zero parts =>
    have h0:∀ p,p∈parts→ev p.2.2=ev1 p.2.2:=fun p hp=>he _ (List.mem_map.2 ⟨p,hp,rfl⟩)
    have h1:parts.map (fun p=>(p.1,p.2.1,cellsV (ev p.2.2)))=parts.map (fun p=>(p.1,p.2.1,cellsV (ev1 p.2.2))):=List.map_congr_left fun p hp=>by rw [h0 p hp]
    have h2:(∀ p,p∈parts→isB (ev p.2.2))=(∀ p,p∈parts→isB (ev1 p.2.2)):=propext ⟨fun h p hp=>h0 p hp ▸ h p hp,fun h p hp=>(h0 p hp).symm ▸ h p hp⟩
    simp only [semI,h1,h2]
  | bsl st parts =>
    have h0:∀ p,p∈parts→ev p=ev1 p:=fun p hp=>he _ hp
    have h1:parts.map (fun p=>cellsV (ev p))=parts.map (fun p=>cellsV (ev1 p)):=List.map_congr_left fun p hp=>by rw [h0 p hp]
    have h2:(∀ p,p∈parts→isB (ev p)∧(cellsV (ev p)).length=st)=(∀ p,p∈parts→isB (ev1 p)∧(cellsV (ev1 p)).length=st):=propext ⟨fun h p hp=>h0 p hp ▸ h p hp,fun h p hp=>(h0 p hp).symm ▸ h p hp⟩
    simp only [semI,h1,h2]
  | load agg sz x=>simp only [semI,he x (by simp [opsOf])]
  | store sz x y=>simp only [semI,he x (by simp [opsOf]),he y (by simp [opsOf])]
  | nilc x=>simp only [semI,he x (by simp [opsOf])]
  | bin op x y=>simp only [semI,he x (by simp [opsOf]),he y (by simp [opsOf])]
  | bnil op x y=>simp only [semI,he x (by simp [opsOf]),he y (by simp [opsOf])]
  | bagg op q x y=>simp only [semI,he x (by simp [opsOf]),he y (by simp [opsOf])]
  | bbo op x y=>simp only [semI,he x (by simp [opsOf]),he y (by simp [opsOf])]
  | bic op x y=>simp only [semI,he x (by simp [opsOf]),he y (by simp [opsOf])]
  | un op x=>simp only [semI,he x (by simp [opsOf])]
  | cv k x=>simp only [semI,he x (by simp [opsOf])]
  | mkif t x=>simp only [semI,he x (by simp [opsOf])]
  | mkm n x=>simp only [semI,he x (by simp [opsOf])]
  | lkm k z x y=>simp only [semI,he x (by simp [opsOf]),he y (by simp [opsOf])]
  | mkfn f caps =>
    have h0:∀ p,p∈caps→ev p=ev1 p:=fun p hp=>he _ hp
    have h1:caps.map (fun x=>lcOf (ev x))=caps.map (fun x=>lcOf (ev1 x)):=List.map_congr_left fun p hp=>by rw [h0 p hp]
    have h2:(∀ x,x∈caps→∃ l,ev x=.b (.s l))=(∀ x,x∈caps→∃ l,ev1 x=.b (.s l)):=propext ⟨fun h p hp=>h0 p hp ▸ h p hp,fun h p hp=>(h0 p hp).symm ▸ h p hp⟩
    simp only [semI,h1,h2]
  | mksl st b z x y=>simp only [semI,he x (by simp [opsOf]),he y (by simp [opsOf])]
  | slc k x lo hi mx =>
    have h1:∀ D,boundV ev D lo=boundV ev1 D lo:=by intro D;cases lo with | none=>rfl | some y=>simp only [boundV,he y (by simp [opsOf])]
    have h2:∀ D,boundV ev D hi=boundV ev1 D hi:=by intro D;cases hi with | none=>rfl | some y=>simp only [boundV,he y (by simp [opsOf])]
    have h3:mx.map (fun m=>intV (ev m))=mx.map (fun m=>intV (ev1 m)):=by cases mx with | none=>rfl | some y=>simp only [Option.map_some,he y (by simp [opsOf])]
    simp only [semI,he x (by simp [opsOf]),h1,h2,h3]
  | fadr off x=>simp only [semI,he x (by simp [opsOf])]
  | iadr k x y=>simp only [semI,he x (by simp [opsOf]),he y (by simp [opsOf])]
  | fld off agg sz x=>simp only [semI,he x (by simp [opsOf])]
  | idx k x y=>simp only [semI,he x (by simp [opsOf]),he y (by simp [opsOf])]
  | ext x i=>simp only [semI,he x (by simp [opsOf])]
  | len k x=>simp only [semI,he x (by simp [opsOf])]
  | app st b str x y=>simp only [semI,he x (by simp [opsOf]),he y (by simp [opsOf])]
  | mm mx x y=>simp only [semI,he x (by simp [opsOf]),he y (by simp [opsOf])]
  | call f l =>
    have h1:l.map ev=l.map ev1:=List.map_congr_left fun p hp=>he p (by simp [opsOf,hp])
    simp only [semI,he f (by simp [opsOf]),h1]
theorem conv_local {F:List Nat} (h:∀ i,i∈F→G i=G1 i):∀ n,conv F G n=conv F G1 n:=by
  intro n
  induction n with
  | zero=>funext lc;cases lc <;> rfl
  | succ n ih =>
    funext lc
    cases lc with
    | d x=>rfl
    | full r=>rfl
    | nn r=>rfl
    | nils=>rfl
    | own i m =>
      simp only [conv,ih]
      by_cases hi:i∈F
      · rw [h i hi]
      · simp [hi]
    | ptr i m r q =>
      simp only [conv,ih]
      by_cases hi:i∈F
      · rw [h i hi]
      · simp [hi]
    | clo f caps=>simp only [conv,ih]
theorem rowsV_local {v:Va} (h:∀ i,i∈idsV v→G i=G1 i):rowsV G v=rowsV G1 v:=by
  have hc:=conv_local (G:=G) (G1:=G1) (F:=[]) (by simp) 0
  cases v with
  | b x => cases x with
    | s l=>cases l with
      | own i n=>have:=h i (by simp [idsV]);simp only [rowsV,this,hc]
      | d x=>cases x <;> rfl
      | _=>rfl
    | agg cs=>rfl
  | _=>rfl
theorem argsV_local {F:List Nat} (h:∀ i,i∈F→G i=G1 i) (n:Nat):∀ l,argsV F G n l=argsV F G1 n l
  | []=>rfl
  | v :: l=>by
    have ih:=argsV_local h n l
    have hc:=conv_local h n
    cases v with
    | b x=>cases x with
      | s y=>simp only [argsV,ih,hc]
      | agg cs=>simp only [argsV,ih,hc]
    | _=>rfl
theorem frz_local {F:List Nat} (h:∀ i,i∈F→G i=G1 i) (n:Nat):∀ i,i∈F→frz F n G i=frz F n G1 i:=by
  intro i hi
  simp only [frz,List.contains_iff_mem,hi,if_true,h i hi,conv_local h n]
theorem lend_fns {F:List Nat} (h:∀ i,i∈F→G i=G1 i):lendL F G=lendL F G1∧lendK F G=lendK F G1:=by
  have hc:=conv_local h 4
  constructor
  · funext f x;simp only [lendL,hc]
  · funext K x;simp only [lendK,hc]
theorem lendIn_local {f:Nat→Nat} {F K:List Nat} (hF:∀ i,i∈F→G i=G1 i):∀ {l:List (Nat×Nat×Ent)},(∀ i,i∈l.map (·.2.1)→G i=G1 i)→lendIn F G f K l=lendIn F G1 f K l
  | [],_=>rfl
  | (j,i,e) :: l,h=>by
    have:=lendIn_local (f:=f) (K:=K) hF (l:=l) fun i hi=>h i (by rw [List.map_cons];exact List.mem_cons_of_mem _ hi)
    simp only [lendIn,h i (by simp),this,lendKR,(lend_fns hF).1,(lend_fns hF).2]
theorem lendOut_local {l0:List (Nat×Nat×Ent)} {K:List Nat}:∀ {l:List (Nat×Nat×Ent)},(∀ i,i∈l.map (·.2.1)→G i=G1 i)→lendOut G l0 K l=lendOut G1 l0 K l
  | [],_=>rfl
  | (j,i,e) :: l,h=>by
    have:=lendOut_local (l0:=l0) (K:=K) (l:=l) fun i hi=>h i (by rw [List.map_cons];exact List.mem_cons_of_mem _ hi)
    simp only [lendOut,h i (by simp),this]
theorem lendA_local {F K:List Nat} (hF:∀ i,i∈F→G i=G1 i):∀ l,lendA F G K l=lendA F G1 K l
  | []=>rfl
  | v :: l=>by
    have e:lendB F G K v=lendB F G1 K v:=by
      cases v with
      | b x=>cases x <;> simp only [lendB,(lend_fns hF).2]
      | _=>rfl
    simp only [lendA,e,lendA_local hF l]
theorem lendF_local {F:List Nat} (hF:∀ i,i∈F→G i=G1 i):∀ l,(∀ i,i∈l→i∈F)→lendF F G l=lendF F G1 l
  | [],_=>rfl
  | i :: l,h=>by simp only [lendF,hF i (h i (List.mem_cons_self ..)),conv_local hF 4,lendF_local hF l fun j hj=>h j (List.mem_cons_of_mem _ hj)]
theorem frzL_local {F:List Nat} (hF:∀ i,i∈F→G i=G1 i):F.filterMap (fun i=>(frz F 4 G i).map fun e=>(i,e))=F.filterMap (fun i=>(frz F 4 G1 i).map fun e=>(i,e)):=by
  have:∀ l:List Nat,(∀ i,i∈l→i∈F)→l.filterMap (fun i=>(frz F 4 G i).map fun e=>(i,e))=l.filterMap (fun i=>(frz F 4 G1 i).map fun e=>(i,e)):=by
    intro l
    induction l with
    | nil=>intro _;rfl
    | cons i l ih=>intro hl;rw [List.filterMap_cons,List.filterMap_cons,frz_local hF 4 i (hl i (List.mem_cons_self ..)),ih fun j hj=>hl j (List.mem_cons_of_mem _ hj)]
  exact this F fun _ h=>h
theorem lendS_local {F:List Nat} {h:Lend} {f:FuncId} {vs:List Va} (hF:∀ i,i∈F→G i=G1 i) (hl:∀ i,i∈h.l0.map (·.2.1)++h.l1.map (·.2.1)→G i=G1 i):lendS P gl F h G f vs=lendS P gl F h G1 f vs:=by
  simp only [lendS,lendIn_local hF fun i hi=>hl i (List.mem_append.2 (.inl hi)),lendOut_local (G:=G) (G1:=G1) fun i hi=>hl i (List.mem_append.2 (.inr hi)),lendA_local hF,lendF_local hF F fun _ h=>h,frzL_local hF,(lend_fns hF).1]
set_option maxHeartbeats 1000000 in
theorem sem_local (h:∀ i,i∈touchI c d ins ev→G i=G1 i):semI P gl c d ins ev G=semI P gl c d ins ev G1:=by
  have key:∀ x,x∈opsOf ins→quietI ins=false→∀ i,i∈idsV (ev x)→G i=G1 i:=by
    intro x hx hm i hi
    apply h
    unfold touchI
    rw [hm]
    simp only [Bool.false_eq_true,if_false,List.mem_append,List.mem_flatMap]
    exact .inl (.inl ⟨x,hx,hi⟩)
  have kd:allocI ins=true→∀ i,d=some i→G i=G1 i:=by
    intro ha i hi
    apply h
    unfold touchI
    simp only [List.mem_append]
    exact .inl (.inr (by rw [if_pos ha,hi];simp))
  have hz:∀ F,conv F G 0=conv F G1 0:=by intro F;funext lc;cases lc <;> rfl
  cases ins with
  | new cells=>cases d with | none=>rfl | some i=>simp only [semI,kd rfl i rfl]
  | box sz x=>cases d with | none=>rfl | some i=>simp only [semI,kd rfl i rfl]
  | bsl st parts=>cases d with | none=>rfl | some i=>simp only [semI,kd rfl i rfl]
  | mksl st b z x y=>cases d with | none=>rfl | some i=>have k:=kd rfl i rfl;cases h1:intV (ev x) <;> cases h2:intV (ev y) <;> simp only [semI,h1,h2,k]
  | load agg sz x =>
    have k:=key x (by simp [opsOf]) rfl
    simp only [semI]
    split
    · rename_i e1;rw [k _ (by rw [e1];simp [idsV])]
    · rfl
    · rfl
  | store sz x y =>
    have k:=key x (by simp [opsOf]) rfl
    simp only [semI]
    split
    · rename_i e1;rw [k _ (by rw [e1];simp [idsV])]
    · rfl
  | nilc x =>
    have k:=key x (by simp [opsOf]) rfl
    simp only [semI]
    split
    · rename_i e1;rw [k _ (by rw [e1];simp [idsV])]
    all_goals rfl
  | fadr off x =>
    have k:=key x (by simp [opsOf]) rfl
    simp only [semI]
    split
    · rename_i e1;rw [k _ (by rw [e1];simp [idsV])]
    all_goals rfl
  | iadr q x y =>
    have k:=key x (by simp [opsOf]) rfl
    simp only [semI]
    split
    · rfl
    · rfl
    · rename_i e1 _;rw [k _ (by rw [e1];simp [idsV])]
    · rename_i e1 _;rw [k _ (by rw [e1];simp [idsV])]
    · rfl
    · rfl
  | len q x=>rfl
  | cv q x =>
    have k:=key x (by simp [opsOf]) rfl
    simp only [semI]
    split
    · rfl
    · rfl
    · rw [rowsV_local k]
    · cases d with
      | none=>rfl
      | some i=>simp only [kd rfl i rfl]
    · rfl
  | mkif t x=>simp only [semI,hz]
  | app st b str x y =>
    have k1:=key x (by simp [opsOf]) rfl
    have k2:=key y (by simp [opsOf]) rfl
    have hn:newV G str (ev y)=newV G1 str (ev y):=by unfold newV;rw [rowsV_local k2]
    simp only [semI,hn]
    split
    · rfl
    · split
      · rename_i e1;rw [k1 _ (by rw [e1];simp [idsV])]
      · cases d with
        | none=>rfl
        | some i=>simp only [kd rfl i rfl]
      · cases d with
        | none=>rfl
        | some i=>simp only [kd rfl i rfl]
      · rfl
  | call f l =>
    have hF:∀ i,i∈c.F→G i=G1 i:=fun i hi=>h i (by unfold touchI;simp only [List.mem_append];exact .inr (by simp only [isCall,if_true,List.mem_append];exact .inl (.inl hi)))
    have h1:=argsV_local hF 4
    have h2:(∀ i,i∈c.F→∀ e,G i=some e→(convR (conv c.F G 4) e.rows).isSome=true)=(∀ i,i∈c.F→∀ e,G1 i=some e→(convR (conv c.F G1 4) e.rows).isSome=true):=by
      rw [conv_local hF 4]
      exact propext ⟨fun h i hi e he=>h i hi e ((hF i hi).trans he),fun h i hi e he=>h i hi e ((hF i hi).symm.trans he)⟩
    have h3:c.F.filterMap (fun i=>(frz c.F 4 G i).map fun e=>(i,e))=c.F.filterMap (fun i=>(frz c.F 4 G1 i).map fun e=>(i,e)):=by
      have:∀ l:List Nat,(∀ i,i∈l→i∈c.F)→l.filterMap (fun i=>(frz c.F 4 G i).map fun e=>(i,e))=l.filterMap (fun i=>(frz c.F 4 G1 i).map fun e=>(i,e)):=by
        intro l
        induction l with
        | nil=>intro _;rfl
        | cons i l ih=>intro hl;rw [List.filterMap_cons,List.filterMap_cons,frz_local hF 4 i (hl i (List.mem_cons_self ..)),ih fun j hj=>hl j (List.mem_cons_of_mem _ hj)]
      exact this c.F fun _ h=>h
    have h4:∀ p,c.own=some p→∀ i,d=some i→G i=G1 i:=fun p hp i hi=>h i (by
      unfold touchI
      simp only [List.mem_append]
      refine .inr ?_
      simp only [isCall,if_true,List.mem_append,hp,Option.isSome_some,hi]
      exact .inl (.inr (by simp)))
    have h5:∀ h,c.lend=some h→∀ i,i∈h.l0.map (·.2.1)++h.l1.map (·.2.1)→G i=G1 i:=fun h0 hh i hi=>h i (by
      unfold touchI
      simp only [List.mem_append]
      refine .inr ?_
      simp only [isCall,if_true,List.mem_append]
      exact .inr (by unfold lendIds;rw [hh];exact hi))
    simp only [semI,callS,h1,h2,h3]
    split
    · rfl
    · split
      · split
        · rename_i h0 hl0;exact lendS_local hF (h5 h0 hl0)
        split
        · split
          · rfl
          · rename_i st rows ho
            cases d with
            | none=>rfl
            | some i=>simp only [h4 _ ho i rfl]
        · rfl
      · rfl
  | _=>rfl
def touchO (gl:Gl) (c:Ch) (o:Opn) (T:Nat→Va):List Nat:=touchI c o.d o.i (evO gl T o)
theorem evO_agree {o:Opn} {T T1:Nat→Va} (h:∀ n,n∈tmpsOf o→T n=T1 n):∀ od,od∈opsOf o.i→evT gl T od=evT gl T1 od∧evO gl T o od=evO gl T1 o od:=by
  intro od hod
  have:evT gl T od=evT gl T1 od:=by
    cases od with
    | t n=>exact h n (by unfold tmpsOf;simp only [List.mem_append,List.mem_filterMap];exact .inl ⟨_,hod,rfl⟩)
    | _=>rfl
  exact ⟨this,by unfold evO;rw [this]⟩
theorem touchI_congr (he:∀ od,od∈opsOf ins→ev od=ev1 od):touchI c d ins ev=touchI c d ins ev1:=by
  unfold touchI
  congr 2
  refine ite_congr rfl (fun _=>rfl) (fun _ => ?_)
  have:∀ l:List Od,(∀ od,od∈l→ev od=ev1 od)→l.flatMap (fun od=>idsV (ev od))=l.flatMap (fun od=>idsV (ev1 od)):=by
    intro l
    induction l with
    | nil=>intro _;rfl
    | cons x l ih=>intro h;rw [List.flatMap_cons,List.flatMap_cons,h x (List.mem_cons_self ..),ih fun y hy=>h y (List.mem_cons_of_mem _ hy)]
  exact this _ he
theorem out_local {o:Opn} {s s1:St} (hT:∀ n,n∈tmpsOf o→s.T n=s1.T n) (hG:∀ i,i∈touchO gl c o s.T→s.G i=s1.G i) :
    outO P gl c o s=outO P gl c o s1∧(okO P gl c o s↔okO P gl c o s1)∧valO P gl c o s=valO P gl c o s1∧touchO gl c o s.T=touchO gl c o s1.T∧gval s.T o.g=gval s1.T o.g:=by
  have he:=evO_agree (gl:=gl) hT
  have h1:outO P gl c o s=outO P gl c o s1:=by
    unfold outO
    rw [sem_local hG]
    exact sem_congr fun od hod=>(he od hod).2
  have hg:gval s.T o.g=gval s1.T o.g:=by
    cases hgd:o.g with
    | none=>rfl
    | some p=>obtain ⟨t,want⟩:=p;simp only [gval];rw [hT t (by unfold tmpsOf;simp [hgd])]
  refine ⟨h1,?_,?_,touchI_congr fun od hod=>(he od hod).2,hg⟩
  · unfold okO
    rw [h1,hg]
    constructor
    · rintro ⟨γ,k1,k2,k3⟩
      exact ⟨γ,k1,k2.imp id (fun h od hod=>(he od hod).1 ▸ h od hod),k3⟩
    · rintro ⟨γ,k1,k2,k3⟩
      exact ⟨γ,k1,k2.imp id (fun h od hod=>(he od hod).1.symm ▸ h od hod),k3⟩
  · unfold valO
    rw [h1,hg]
structure Itm where
  o:Opn
  c:Ch
  fp:List Nat
  wr:List Nat
section
variable (P:Program) (gl:Gl)
def Tr:List Itm→St→St→Prop
  | [],s,s1=>s1=s
  | x :: l,s,s1=>okO P gl x.c x.o s∧touchO gl x.c x.o s.T=x.fp∧(outO P gl x.c x.o s).ef.map (·.1)=x.wr∧Tr l (nextO P gl x.c x.o s) s1
end
structure Ind (x y:Itm):Prop where
  a:∀ i,x.o.d=some i→i ∉ tmpsOf y.o∧y.o.d ≠ some i
  b:∀ i,y.o.d=some i→i ∉ tmpsOf x.o
  c:∀ i,i∈x.wr→i ∉ y.fp
  d:∀ i,i∈y.wr→i ∉ x.fp
  e:∀ i,i∈x.wr→i ∉ y.wr
theorem apG_other:∀ (l:List (Nat×Ent)) (G:Hf) (j:Nat),j ∉ l.map (·.1)→apG G l j=G j
  | [],G,j,h=>rfl
  | (i,e) :: l,G,j,h=>by
    simp only [List.map_cons,List.mem_cons,not_or] at h
    rw [apG,apG_other l _ j h.2,updG,if_neg h.1]
theorem apG_in:∀ (l:List (Nat×Ent)) (G G1:Hf) (j:Nat),j∈l.map (·.1)→apG G l j=apG G1 l j
  | [],G,G1,j,h=>by simp at h
  | (i, e) :: l,G,G1,j,h=>by
    by_cases hj:j∈l.map (·.1)
    · rw [apG,apG];exact apG_in l _ _ j hj
    · simp only [List.map_cons,List.mem_cons] at h
      rw [apG,apG,apG_other l _ j hj,apG_other l _ j hj,updG,updG,if_pos (h.resolve_right hj),if_pos (h.resolve_right hj)]
theorem apG_comm {l l1:List (Nat×Ent)} {G:Hf} (h:∀ i,i∈l.map (·.1)→i ∉ l1.map (·.1)):apG (apG G l) l1=apG (apG G l1) l:=by
  funext j
  by_cases hj:j∈l.map (·.1)
  · rw [apG_other l1 _ j (h j hj),apG_in l (apG G l1) G j hj]
  · rw [apG_other l _ j hj]
    by_cases hj1:j∈l1.map (·.1)
    · exact apG_in l1 _ _ j hj1
    · rw [apG_other l1 _ j hj1,apG_other l1 _ j hj1,apG_other l _ j hj]
theorem putT_other {T:Nat→Va} {d:Option Nat} {v:Va} {n:Nat} (h:d ≠ some n):putT T d v n=T n:=by
  cases d with
  | none=>rfl
  | some i=>simp only [putT,updT];rw [if_neg (fun e=>h (by rw [e]))]
theorem putT_comm {T:Nat→Va} {d d1:Option Nat} {v v1:Va} (h:∀ i,d=some i→d1 ≠ some i):putT (putT T d v) d1 v1=putT (putT T d1 v1) d v:=by
  cases d with
  | none=>rfl
  | some i=>cases d1 with
    | none=>rfl
    | some j =>
      have hij:j ≠ i:=fun e=>h i rfl (by rw [e])
      funext n
      simp only [putT,updT]
      by_cases h1:n=j
      · by_cases h2:n=i
        · exact absurd (h1.symm.trans h2) hij
        · simp [h1,hij]
      · simp [h1]
theorem nextG {c:Ch} {o:Opn} {s:St}:(nextO P gl c o s).G=if (gval s.T o.g).getD true then apG s.G (outO P gl c o s).ef else s.G:=rfl
theorem nextG_other {c:Ch} {o:Opn} {s:St} {i:Nat} (h:i ∉ (outO P gl c o s).ef.map (·.1)):(nextO P gl c o s).G i=s.G i:=by
  rw [nextG]
  split
  · exact apG_other _ _ i h
  · rfl
theorem Tr.swap {x y:Itm} {l:List Itm} {s s1:St} (h:Tr P gl (x :: y :: l) s s1) (hi:Ind x y):Tr P gl (y :: x :: l) s s1:=by
  obtain ⟨h1,h2,h3,h4,h5,h6,h7⟩:=h
  have hTy:∀ n,n∈tmpsOf y.o→(nextO P gl x.c x.o s).T n=s.T n:=fun n hn=>putT_other fun e=>(hi.a n e).1 hn
  have hGy:∀ i,i∈touchO gl y.c y.o (nextO P gl x.c x.o s).T→(nextO P gl x.c x.o s).G i=s.G i:=fun i hi2=>nextG_other (fun hm=>hi.c i (by rw [← h3];exact hm) (by rw [← h5];exact hi2))
  obtain ⟨a1,a2,a3,a4,a5⟩:=out_local (P:=P) (gl:=gl) (c:=y.c) hTy hGy
  have hTx:∀ n,n∈tmpsOf x.o→s.T n=(nextO P gl y.c y.o s).T n:=fun n hn=>(putT_other fun e=>hi.b n e hn).symm
  have hGx:∀ i,i∈touchO gl x.c x.o s.T→s.G i=(nextO P gl y.c y.o s).G i:=fun i hi2=>(nextG_other (fun hm=>hi.d i (by rw [← h6,a1];exact hm) (by rw [← h2];exact hi2))).symm
  obtain ⟨b1,b2,b3,b4,b5⟩:=out_local (P:=P) (gl:=gl) (c:=x.c) hTx hGx
  refine ⟨a2.1 h4,a4.symm.trans h5,by rw [← a1];exact h6,b2.1 h1,b4.symm.trans h2,by rw [← b1];exact h3,?_⟩
  have e : nextO P gl x.c x.o (nextO P gl y.c y.o s)=nextO P gl y.c y.o (nextO P gl x.c x.o s):=by
    have e1:(nextO P gl x.c x.o (nextO P gl y.c y.o s)).T=(nextO P gl y.c y.o (nextO P gl x.c x.o s)).T:=by
      simp only [nextO] at b3 a3 ⊢
      rw [← b3,a3]
      exact putT_comm fun i h1 h2=>(hi.a i h2).2 h1
    have e2:(nextO P gl x.c x.o (nextO P gl y.c y.o s)).G=(nextO P gl y.c y.o (nextO P gl x.c x.o s)).G:=by
      have hc:∀ i,i∈(outO P gl x.c x.o s).ef.map (·.1)→i∈(outO P gl y.c y.o (nextO P gl x.c x.o s)).ef.map (·.1)→False:=by
        intro i hi2 hi1
        rw [h3] at hi2
        have:i∈y.wr:=by rw [← h6];exact hi1
        exact hi.e i hi2 this
      rw [nextG,nextG,nextG (o:=y.o),nextG (o:=x.o),← b1,← b5,a1,a5]
      rw [a1] at hc
      split
      · split
        · exact apG_comm fun i hi1 hi2=>hc i hi2 hi1
        · rfl
      · rfl
    calc nextO P gl x.c x.o (nextO P gl y.c y.o s)=⟨(nextO P gl x.c x.o (nextO P gl y.c y.o s)).T,(nextO P gl x.c x.o (nextO P gl y.c y.o s)).G⟩:=rfl
      _=_:=by rw [e1,e2]
  rw [e]
  exact h7
theorem Tr.front {y:Itm} {l:List Itm} {s1:St}:∀ {pre:List Itm} {s:St},Tr P gl (pre++y :: l) s s1→(∀ x,x∈pre→Ind x y)→Tr P gl (y :: (pre++l)) s s1
  | [],s,h,_=>h
  | x :: pre,s,h,hi=>by
    obtain ⟨h1,h2,h3,h4⟩:=h
    have:=Tr.front (pre:=pre) h4 (fun z hz=>hi z (List.mem_cons_of_mem _ hz))
    exact Tr.swap (show Tr P gl (x :: y :: (pre++l)) s s1 from ⟨h1,h2,h3,this⟩) (hi x (List.mem_cons_self ..))
end Go.Proofs.YtedibjgdangfnaaGreatDoor.V
end

section
namespace Go.Proofs.YtedibjgdangfnaaGreatDoor.V
open Go Go.RowKit
set_option linter.unusedVariables false
set_option linter.unusedSimpArgs false
variable {P:Program} {gl:Gl} {ops:Array Oper} {a:Act} {w w1:World} {S S1:Nat→Prop} {ρ ρ1:Nat→Option Nat} {N:Nat} {base:Base} {s s1:St} {Q:Exit→Act→World→Prop} {K:Act→World→Prop}
def cOpns (P:Program) (N:Nat) (ops:Array Oper):List Oper→Option (List Opn)
  | []=>some []
  | o :: l=>match cOpn P N ops o,cOpns P N ops l with | some a,some b=>some (a :: b) | _,_=>none
theorem cOpns_get:∀ {l:List Oper} {q:List Opn},cOpns P N ops l=some q→q.length=l.length∧∀ (j:Nat) x,q[j]? = some x→∃ o,l[j]? = some o∧cOpn P N ops o=some x
  | [],q,h=>by simp only [cOpns,Option.some.injEq] at h;subst h;simp
  | o :: l,q,h=>by
    simp only [cOpns] at h
    split at h
    · rename_i x r h1 h2
      simp only [Option.some.injEq] at h;subst h
      obtain ⟨h3,h4⟩:=cOpns_get h2
      refine ⟨by simp [h3],fun j x hj => ?_⟩
      cases j with
      | zero=>simp only [List.getElem?_cons_zero,Option.some.injEq] at hj;subst hj;exact ⟨o,rfl,h1⟩
      | succ j=>exact h4 j x (by simpa using hj)
    · cases h
def Then (gl:Gl) (N:Nat) (base:Base) (s1:St) (w:World) (S:Nat→Prop) (K:Act→World→Prop):Prop :=
  ∀ a1 w1 S1 ρ1,Rel gl N base s1 a1 w1 S1 ρ1→Bel base w w1→(∀ k,S1 k→S k∨base.ok k)→K a1 w1
theorem Then.later (h:Then gl N base s1 w S K) (hb:Bel base w w1) (hs:∀ k,S1 k→S k∨base.ok k):Then gl N base s1 w1 S1 K:=fun a2 w2 S2 ρ2 hr hb2 hs2=>h a2 w2 S2 ρ2 hr (hb.trans hb2) fun k hk=>(hs2 k hk).elim (fun h=>hs k h) .inr
theorem seq_sound:∀ (its:List Itm) (k:Nat) (s:St) (a:Act) (w:World) (S:Nat→Prop) (ρ:Nat→Option Nat),(∀ (j:Nat) x,its[j]? = some x→∃ o,ops[k+j]? = some o∧cOpn P N ops o=some x.o)→Tr P gl its s s1→Rel gl N base s a w S ρ→Then gl N base s1 w S (Q .normal)→wpOps P ops Q (List.range' k its.length) a w
  | [],k,s,a,w,S,ρ,_,ht,hr,hK=>by
    have:s1=s:=ht
    subst this
    exact hK a w S ρ hr (Bel.refl _ _) fun k hk=>.inl hk
  | x :: its,k,s,a,w,S,ρ,hq,ht,hr,hK=>by
    obtain ⟨h1,_,_,h4⟩:=ht
    obtain ⟨o,ho,hc⟩:=hq 0 x rfl
    rw [List.length_cons,List.range'_succ,wpOps_cons]
    refine step_sound hr (by simpa using ho) hc h1 fun a1 w1 S1 ρ1 hr1 hb1 hs1 => ?_
    exact seq_sound its (k+1) _ a1 w1 S1 ρ1 (fun j y hj=>by
      obtain ⟨o,ho,hc⟩:=hq (j+1) y (by simpa using hj)
      exact ⟨o,by rw [← ho];congr 1;omega,hc⟩) h4 hr1 (hK.later hb1 hs1)
def ancOk (ops:Array Oper) (A:List Nat):Bool :=
  (List.range ops.size).all fun i=>match ops[i]? with
    | some o=>o.after.toList.all (fun e => !Region.binds .any e || decide (e.on < i)) && A.getD i 0 == o.after.toList.foldl (fun s e=>if Region.binds .any e then s ||| 2 ^ e.on ||| A.getD e.on 0 else s) 0
    | none=>false
def rankOk (md:Region.Mode) (ops:Array Oper) (R:List Nat):Bool :=
  (List.range ops.size).all fun i=>match ops[i]? with
    | some o=>o.after.toList.all (fun e => !Region.binds md e || (decide (e.on < ops.size) && decide (R.getD e.on 0 < R.getD i 0)))
    | none=>false
theorem foldl_mask (A:List Nat) (j:Nat):∀ (l:List Edge) (s:Nat),(l.foldl (fun s e=>if Region.binds .any e then s ||| 2 ^ e.on ||| A.getD e.on 0 else s) s).testBit j=true→s.testBit j=true∨∃ e,e∈l∧Region.binds .any e=true∧(j=e.on∨(A.getD e.on 0).testBit j=true)
  | [],s,h=>.inl h
  | e :: l,s,h=>by
    rw [List.foldl_cons] at h
    rcases foldl_mask A j l _ h with h | ⟨e1,h1,h2⟩
    · by_cases hb:Region.binds .any e=true
      · rw [if_pos hb,Nat.testBit_or,Nat.testBit_or,Bool.or_eq_true,Bool.or_eq_true,Nat.testBit_two_pow] at h
        rcases h with (h | h) | h
        · exact .inl h
        · exact .inr ⟨e,List.mem_cons_self ..,hb,.inl (by simpa using (of_decide_eq_true h).symm)⟩
        · exact .inr ⟨e,List.mem_cons_self ..,hb,.inr h⟩
      · rw [if_neg hb] at h;exact .inl h
    · exact .inr ⟨e1,List.mem_cons_of_mem _ h1,h2⟩
def Listed (listed:Array Bool) (i:Nat):Prop:=listed[i]? = some true
structure Closed (ops:Array Oper) (listed:Array Bool):Prop where
  size:listed.size=ops.size
  down:∀ (i:Nat) o,ops[i]? = some o→Listed listed i→∀ e,e∈o.after.toList→Region.binds .any e=true→Listed listed e.on
theorem anc_listed {A:List Nat} (hA:ancOk ops A=true) {listed:Array Bool} (hc:Closed ops listed):∀ (i:Nat) o,ops[i]? = some o→(∀ e,e∈o.after.toList→Region.binds .any e=true→Listed listed e.on)→∀ j,(A.getD i 0).testBit j=true→Listed listed j:=by
  intro i
  induction i using Nat.strongRecOn with
  | _ i ih =>
    intro o ho hd j hj
    have hi:i < ops.size:=(Array.getElem?_eq_some_iff.1 ho).1
    have h1:=List.all_eq_true.1 hA i (List.mem_range.2 hi)
    rw [ho] at h1
    simp only [Bool.and_eq_true,List.all_eq_true,beq_iff_eq] at h1
    rw [h1.2] at hj
    rcases foldl_mask A j _ 0 hj with h | ⟨e,he,hb,h⟩
    · simp at h
    · have hlt:e.on < i:=by have:=h1.1 e he;rw [hb] at this;simpa using this
      rcases h with rfl | h
      · exact hd e he hb
      · have hel:=hd e he hb
        cases hoe:ops[e.on]? with
        | none=>have:=Array.getElem?_eq_none_iff.1 hoe;omega
        | some oe=>exact ih e.on hlt oe hoe (hc.down e.on oe hoe hel) j h
theorem least_of {p:Nat→Prop} (h:∃ n,p n):∃ n,p n∧∀ m,m < n→¬ p m:=by
  obtain ⟨n,hn⟩:=h
  induction n using Nat.strongRecOn with
  | _ n ih =>
    by_cases hm:∃ m,m < n∧p m
    · obtain ⟨m,h1,h2⟩:=hm;exact ih m h1 h2
    · exact ⟨n,hn,fun m h1 h2=>hm ⟨m,h1,h2⟩⟩
def left (listed:Array Bool) (l:List (Itm×Nat)):List (Itm×Nat):=l.filter fun p=>listed[p.2]? == some false
theorem left_set {listed:Array Bool} {i:Nat} (hi:listed[i]? = some false) (l:List (Itm×Nat)):left (listed.setIfInBounds i true) l=(left listed l).filter fun p=>p.2 != i:=by
  unfold left
  rw [List.filter_filter]
  apply List.filter_congr
  intro p _
  have hlt:=(Array.getElem?_eq_some_iff.1 hi).1
  by_cases hp:p.2=i
  · rw [hp,Array.getElem?_setIfInBounds_self_of_lt hlt];simp
  · rw [Array.getElem?_setIfInBounds_ne (by omega)];simp [hp]
theorem ready_iff {md:Region.Mode} {listed:Array Bool} (hc:Closed ops listed) {i:Nat}:i∈Region.ready md ops listed↔listed[i]? = some false∧∃ o,ops[i]? = some o∧∀ e,e∈o.after.toList→Region.binds md e=true→Listed listed e.on:=by
  unfold Region.ready
  simp only [List.mem_filter,List.mem_range,Bool.and_eq_true,Bool.not_eq_true']
  constructor
  · rintro ⟨h1,h2,h3⟩
    have hlt:i < listed.size:=by rw [hc.size];exact h1
    have h4:listed[i]? = some false:=by
      rw [Array.getElem?_eq_getElem hlt]
      rw [Array.getD_eq_getD_getElem?,Array.getElem?_eq_getElem hlt] at h2
      simpa using h2
    refine ⟨h4,ops[i],Array.getElem?_eq_getElem h1,fun e he hb => ?_⟩
    rw [Array.getElem?_eq_getElem h1] at h3
    simp only [Option.map_some,Option.getD_some,← Array.all_toList] at h3
    have:=List.all_eq_true.1 h3 e he
    rw [hb] at this
    simp only [Bool.not_true,Bool.false_or] at this
    rw [Array.getD_eq_getD_getElem?] at this
    unfold Listed
    cases hx:listed[e.on]? with
    | none=>rw [hx] at this;simp at this
    | some b=>rw [hx] at this;simp at this;rw [this]
  · rintro ⟨h1,o,ho,h2⟩
    refine ⟨(Array.getElem?_eq_some_iff.1 ho).1,by rw [Array.getD_eq_getD_getElem?,h1];rfl,?_⟩
    rw [ho]
    simp only [Option.map_some,Option.getD_some,← Array.all_toList]
    rw [List.all_eq_true]
    intro e he
    cases hb:Region.binds md e with
    | false=>rfl
    | true =>
      have:=h2 e he hb
      unfold Listed at this
      rw [Array.getD_eq_getD_getElem?,this];rfl
def AllInd (A:List Nat) (its:List Itm):Prop:=∀ (i j:Nat) x y,its[i]? = some x→its[j]? = some y→i < j→(A.getD j 0).testBit i=false→Ind x y
theorem any_binds {md:Region.Mode} {e:Edge} (h:Region.binds .any e=true):Region.binds md e=true:=by
  unfold Region.binds at h ⊢
  split at h <;> first | rfl | (simp at h)
theorem any_sound {md:Region.Mode} {A rk:List Nat} {its:List Itm} (hR:rankOk md ops rk=true) (hA:ancOk ops A=true) (hI:AllInd A its) (hlen:its.length=ops.size) (hq:∀ (j:Nat) x,its[j]? = some x→∃ o,ops[j]? = some o∧cOpn P N ops o=some x.o) :
    ∀ (fuel:Nat) (listed:Array Bool) (s:St) (a:Act) (w:World) (S:Nat→Prop) (ρ:Nat→Option Nat),Closed ops listed→(left listed its.zipIdx).length≤fuel→Tr P gl ((left listed its.zipIdx).map (·.1)) s s1→Rel gl N base s a w S ρ→Then gl N base s1 w S (Q .normal)→wpAny P md ops Q fuel listed a w:=by
  have hzip:∀ (p:Itm×Nat),p∈its.zipIdx→its[p.2]? = some p.1:=by
    intro p hp
    have:=List.mem_zipIdx_iff_getElem?.1 hp
    exact this
  have hdone:∀ (listed:Array Bool) (s:St) (a:Act) (w:World) (S:Nat→Prop) (ρ:Nat→Option Nat),Closed ops listed→Tr P gl ((left listed its.zipIdx).map (·.1)) s s1→Rel gl N base s a w S ρ→Then gl N base s1 w S (Q .normal)→Region.ready md ops listed=[]→Q .normal a w:=by
    intro listed s a w S ρ hc ht hr hK hready
    have hnil:left listed its.zipIdx=[]:=by
      cases hl:left listed its.zipIdx with
      | nil=>rfl
      | cons p rest =>
        exfalso
        have hex:∃ i,i < ops.size∧listed[i]? = some false:=by
          have hp:p∈left listed its.zipIdx:=by rw [hl];exact List.mem_cons_self ..
          obtain ⟨h1,h2⟩:=List.mem_filter.1 hp
          have:=(List.getElem?_eq_some_iff.1 (hzip p h1)).1
          exact ⟨p.2,by omega,by simpa using h2⟩
        have hmin:∃ r,(∃ i,i < ops.size∧listed[i]? = some false∧rk.getD i 0=r)∧∀ q,q < r→¬ ∃ i,i < ops.size∧listed[i]? = some false∧rk.getD i 0=q:=by
          obtain ⟨i,h1,h2⟩:=hex
          exact least_of ⟨rk.getD i 0,i,h1,h2,rfl⟩
        obtain ⟨r,⟨i,h1,h2,h0⟩,h3⟩:=hmin
        have hm:i∈Region.ready md ops listed:=by
          refine (ready_iff hc).2 ⟨h2,ops[i],Array.getElem?_eq_getElem h1,fun e he hbm => ?_⟩
          have h4:=List.all_eq_true.1 hR i (List.mem_range.2 h1)
          rw [Array.getElem?_eq_getElem h1] at h4
          simp only [List.all_eq_true] at h4
          have h5:=h4 e he
          rw [hbm] at h5
          simp only [Bool.not_true,Bool.false_or,Bool.and_eq_true,decide_eq_true_eq] at h5
          have hsz:e.on < listed.size:=by rw [hc.size];omega
          have h6:=h3 (rk.getD e.on 0) (by rw [← h0];exact h5.2)
          unfold Listed
          rw [Array.getElem?_eq_getElem hsz]
          cases hb:listed[e.on] with
          | true=>rfl
          | false=>exact absurd ⟨e.on,h5.1,by rw [Array.getElem?_eq_getElem hsz,hb],rfl⟩ h6
        rw [hready] at hm
        cases hm
    rw [hnil] at ht
    have:s1=s:=ht
    subst this
    exact hK a w S ρ hr (Bel.refl _ _) fun k hk=>.inl hk
  intro fuel
  induction fuel with
  | zero =>
    intro listed s a w S ρ hc hf ht hr hK
    have hready:Region.ready md ops listed=[]:=by
      apply List.eq_nil_iff_forall_not_mem.2
      intro i hi
      obtain ⟨h1,o,ho,_⟩:=(ready_iff hc).1 hi
      have hlt:i < its.length:=by rw [hlen];exact (Array.getElem?_eq_some_iff.1 ho).1
      have:(its[i],i)∈left listed its.zipIdx:=List.mem_filter.2 ⟨List.mem_zipIdx_iff_getElem?.2 (List.getElem?_eq_getElem hlt),by simp [h1]⟩
      have h0:left listed its.zipIdx=[]:=List.eq_nil_of_length_eq_zero (by omega)
      rw [h0] at this
      cases this
    exact ⟨hready,hdone listed s a w S ρ hc ht hr hK hready⟩
  | succ fuel ih =>
    intro listed s a w S ρ hc hf ht hr hK
    refine ⟨hdone listed s a w S ρ hc ht hr hK,fun i hi => ?_⟩
    obtain ⟨h1,o,ho,h2⟩:=(ready_iff hc).1 hi
    have hio:i < ops.size:=(Array.getElem?_eq_some_iff.1 ho).1
    have hlt:i < its.length:=by rw [hlen];exact hio
    have hdeps:∀ e,e∈o.after.toList→Region.binds .any e=true→Listed listed e.on:=fun e he hb=>h2 e he (any_binds hb)
    have hmem:(its[i],i)∈left listed its.zipIdx:=List.mem_filter.2 ⟨List.mem_zipIdx_iff_getElem?.2 (List.getElem?_eq_getElem hlt),by simp [h1]⟩
    obtain ⟨pre,post,hsplit⟩:=List.append_of_mem hmem
    have hsorted:(left listed its.zipIdx).Pairwise (fun p q=>p.2 < q.2):=by
      apply List.Pairwise.filter
      rw [List.pairwise_iff_getElem]
      intro p q hp hq hpq
      simp only [List.getElem_zipIdx]
      omega
    rw [hsplit] at hsorted
    have hpre:∀ p,p∈pre→p.2 < i:=fun p hp=>(List.pairwise_append.1 hsorted).2.2 p hp (its[i],i) (List.mem_cons_self ..)
    have hpost:∀ p,p∈post→i < p.2:=fun p hp=>(List.pairwise_cons.1 (List.pairwise_append.1 hsorted).2.1).1 p hp
    rw [hsplit,List.map_append,List.map_cons] at ht
    have hind:∀ x,x∈pre.map (·.1)→Ind x its[i]:=by
      intro x hx
      obtain ⟨p,hp,rfl⟩:=List.mem_map.1 hx
      have hpm:p∈left listed its.zipIdx:=by rw [hsplit];exact List.mem_append.2 (.inl hp)
      obtain ⟨g1,g2⟩:=List.mem_filter.1 hpm
      refine hI p.2 i p.1 its[i] (hzip p g1) (List.getElem?_eq_getElem hlt) (hpre p hp) ?_
      rw [Bool.eq_false_iff]
      intro hb
      have:=anc_listed hA hc i o ho hdeps p.2 hb
      unfold Listed at this
      rw [this] at g2
      simp at g2
    obtain ⟨t1,t2,t3,t4⟩:=Tr.front ht hind
    obtain ⟨o2,ho2,hco⟩:=hq i its[i] (List.getElem?_eq_getElem hlt)
    refine step_sound hr ho2 hco t1 fun a1 w1 S1 ρ1 hr1 hb1 hs1 => ?_
    have hleft:left (listed.setIfInBounds i true) its.zipIdx=pre++post:=by
      rw [left_set h1,hsplit,List.filter_append,List.filter_cons]
      simp only [bne_self_eq_false,Bool.false_eq_true,if_false]
      rw [List.filter_eq_self.2 (fun p hp=>by have:=hpre p hp;simp;omega),List.filter_eq_self.2 (fun p hp=>by have:=hpost p hp;simp;omega)]
    refine ih _ _ a1 w1 S1 ρ1 ⟨by simp [hc.size],fun j oj hoj hj e he hbe => ?_⟩ ?_ ?_ hr1 (hK.later hb1 hs1)
    · have hil:i < listed.size:=by rw [hc.size];exact hio
      have hmono:∀ k,Listed listed k→Listed (listed.setIfInBounds i true) k:=by
        intro k hk
        unfold Listed at hk ⊢
        by_cases hki:k=i
        · rw [hki,Array.getElem?_setIfInBounds_self_of_lt hil]
        · rw [Array.getElem?_setIfInBounds_ne (by omega)];exact hk
      by_cases hji:j=i
      · subst hji
        rw [ho] at hoj;cases hoj
        exact hmono _ (hdeps e he hbe)
      · unfold Listed at hj
        rw [Array.getElem?_setIfInBounds_ne (by omega)] at hj
        exact hmono _ (hc.down j oj hoj hj e he hbe)
    · rw [hleft]
      have:(left listed its.zipIdx).length=pre.length+(post.length+1):=by rw [hsplit,List.length_append,List.length_cons]
      rw [List.length_append];omega
    · rw [hleft,List.map_append];exact t4
end Go.Proofs.YtedibjgdangfnaaGreatDoor.V
end

section
namespace Go.Proofs.YtedibjgdangfnaaGreatDoor.V
open Go Go.RowKit
set_option linter.unusedVariables false
set_option linter.unusedSimpArgs false
inductive C where
  | skip
  | reg (q:List Opn) (dr:Option (List Nat)) (keep:List Nat)
  | seq (x y:C)
  | cond (c:Od) (x y:C)
  | blk (id:Nat) (x:C)
  | loop (x:C)
  | exit (id:Nat)
  | ret
inductive It where
  | c (x:C)
  | blk (id:Nat)
  | lp (x:C)
def apart (x y:Opn):Bool :=
  (match x.d with | some i => !(tmpsOf y).contains i && (match y.d with | some j => !(j == i) | none=>true) | none=>true) && (match y.d with | some i => !(tmpsOf x).contains i | none=>true)
def apartAll (A:List Nat) (q:List Opn):Bool :=
  q.zipIdx.all fun y=>q.zipIdx.all fun x => !(decide (x.2 < y.2)) || (A.getD y.2 0).testBit x.2 || apart x.1 y.1
def modesOf (P:Program) (ops:Array Oper):List (Region.Mode×List Nat) :=
  if P.follows .mixedOrders || !Region.departs ops then [(.any,List.range ops.size)]
  else [(.text,List.range ops.size),(.gc,(List.range ops.size).map fun i=>(Region.linearise .gc ops 0).idxOf i)]
def cC (P:Program) (N:Nat) (K:List (Nat×List Nat)):Code→Option C
  | .skip=>some .skip
  | .label _=>some .skip
  | .region id ops draw=>match cOpns P N ops ops.toList with
    | some q=>if draw then (if (modesOf P ops).all (fun m=>rankOk m.1 ops m.2) && ancOk ops (Region.before ops).toList && apartAll (Region.before ops).toList q then some (.reg q (some (Region.before ops).toList) ((K.lookup id).getD [])) else none)
      else some (.reg q none ((K.lookup id).getD []))
    | none=>none
  | .seq x y=>match cC P N K x,cC P N K y with | some x,some y=>some (.seq x y) | _,_=>none
  | .cond c x y=>match cOd c,cC P N K x,cC P N K y with | some c,some x,some y=>some (.cond c x y) | _,_,_=>none
  | .block id x=>(cC P N K x).map (C.blk id)
  | .loop x=>(cC P N K x).map C.loop
  | .exit id=>some (.exit id)
  | .ret=>some .ret
  | _=>none
def exitC (id:Nat):List It→Option (List It)
  | .blk i :: k=>if i == id then some k else exitC id k
  | _ :: k=>exitC id k
  | []=>none
def mkT (l:List (Nat×Va)):Nat→Va:=fun t=>(l.lookup t).getD .dead
def pr (keep:List Nat) (s:St):St:=⟨mkT (keep.map fun t=>(t,s.T t)),s.G⟩
section
variable (gl:Gl) (N:Nat) (base:Base)
def Imp (s s1:St):Prop:=∀ base a w S ρ,Rel gl N base s a w S ρ→∃ S1 ρ1,Rel gl N base s1 a w S1 ρ1∧∀ k,S1 k→S k∨base.ok k
end
def meets (a b:List Nat):Bool:=a.any fun i=>b.contains i
def dynAll (A:List Nat) (its:List Itm):Prop:=∀ (i j:Nat) x y,its[i]? = some x→its[j]? = some y→i < j→(A.getD j 0).testBit i=false→meets x.wr y.fp=false∧meets y.wr x.fp=false∧meets x.wr y.wr=false
inductive W (P:Program) (gl:Gl) (N:Nat):List It→St→(St→Prop)→Prop where
  | nil {s:St} {R:St→Prop} (h:R s):W P gl N [] s R
  | ret {k:List It} {s:St} {R:St→Prop} (h:R s):W P gl N (.c .ret :: k) s R
  | skip {k:List It} {s:St} {R:St→Prop} (h:W P gl N k s R):W P gl N (.c .skip :: k) s R
  | seq {k:List It} {s:St} {R:St→Prop} {x y:C} (h:W P gl N (.c x :: .c y :: k) s R):W P gl N (.c (.seq x y) :: k) s R
  | cond {k:List It} {s:St} {R:St→Prop} {c:Od} {x y:C} {p:Bool} (hc:evT gl s.T c=.b (.s (.d (.bool p)))) (ht:p=true→W P gl N (.c x :: k) s R) (hf:p=false→W P gl N (.c y :: k) s R):W P gl N (.c (.cond c x y) :: k) s R
  | blk {k:List It} {s:St} {R:St→Prop} {id:Nat} {x:C} (h:W P gl N (.c x :: .blk id :: k) s R):W P gl N (.c (.blk id x) :: k) s R
  | eblk {k:List It} {s:St} {R:St→Prop} {id:Nat} (h:W P gl N k s R):W P gl N (.blk id :: k) s R
  | loop {k:List It} {s:St} {R:St→Prop} {x:C} (h:W P gl N (.c x :: .lp x :: k) s R):W P gl N (.c (.loop x) :: k) s R
  | lp {k:List It} {s:St} {R:St→Prop} {x:C} (h:W P gl N (.c x :: .lp x :: k) s R):W P gl N (.lp x :: k) s R
  | exit {k k1:List It} {s:St} {R:St→Prop} {id:Nat} (hk:exitC id k=some k1) (h:W P gl N k1 s R):W P gl N (.c (.exit id) :: k) s R
  | reg {k:List It} {s s1:St} {R:St→Prop} {q:List Opn} {dr:Option (List Nat)} {keep:List Nat} (its:List Itm) (hq:its.map (·.o)=q) (ht:Tr P gl its s s1) (hd:∀ A,dr=some A→dynAll A its) (h:W P gl N k (pr keep s1) R):W P gl N (.c (.reg q dr keep) :: k) s R
  | nil2 {k:List It} {s:St} {R:St→Prop} {t:Nat} {rows:List (List Sc)} (ht:s.T t=.b (.s (.d (.sl rows)))) (h0:rows=[]→W P gl N k ⟨updT s.T t (.b (.s .nils)),s.G⟩ R) (h1:W P gl N k ⟨updT s.T t (.b (.s (.nn rows))),s.G⟩ R):W P gl N k s R
  | weak {k:List It} {s s1:St} {R:St→Prop} (hi:Imp gl N s s1) (h:W P gl N k s1 R):W P gl N k s R
inductive Stk (P:Program) (N:Nat) (K:List (Nat×List Nat)):List It→List Item→Prop where
  | nil:Stk P N K [] []
  | c {x:C} {y:Code} {k:List It} {l:List Item} (h:cC P N K y=some x) (hk:Stk P N K k l):Stk P N K (.c x :: k) (.code y :: l)
  | blk {id:Nat} {k:List It} {l:List Item} (hk:Stk P N K k l):Stk P N K (.blk id :: k) (.inBlock id :: l)
  | lp {x:C} {y:Code} {k:List It} {l:List Item} (h:cC P N K y=some x) (hk:Stk P N K k l):Stk P N K (.lp x :: k) (.inLoop y :: l)
theorem Stk.exit {P:Program} {N:Nat} {K:List (Nat×List Nat)} {id:Nat} {k:List It} {l:List Item} (h:Stk P N K k l):∀ {k1},exitC id k=some k1→∃ l1,exitTo id l=some l1∧Stk P N K k1 l1:=by
  induction h with
  | nil=>intro k1 h;cases h
  | c h hk ih=>intro k1 h1;exact ih h1
  | @blk i k l hk ih =>
    intro k1 h1
    simp only [exitC] at h1
    by_cases hi:i=id
    · subst hi
      simp only [beq_self_eq_true,if_true,Option.some.injEq] at h1
      subst h1
      exact ⟨l,by simp [exitTo],hk⟩
    · have:(i == id)=false:=by simpa using hi
      rw [this] at h1
      obtain ⟨l1,h2,h3⟩:=ih h1
      exact ⟨l1,by simp only [exitTo,this];exact h2,h3⟩
  | lp h hk ih=>intro k1 h1;exact ih h1
variable {P:Program} {gl:Gl} {N:Nat} {K:List (Nat×List Nat)} {a:Act} {w w1:World} {S S1:Nat→Prop} {ρ ρ1:Nat→Option Nat} {base:Base} {s s1:St}
theorem mkT_keep (keep:List Nat) (T:Nat→Va) (t:Nat):mkT (keep.map fun t=>(t,T t)) t=T t∨mkT (keep.map fun t=>(t,T t)) t=.dead:=by
  unfold mkT
  induction keep with
  | nil=>exact .inr rfl
  | cons x l ih =>
    rw [List.map_cons,List.lookup_cons]
    by_cases h:t=x
    · subst h;simp
    · have:(t == x)=false:=by simpa using h
      rw [this];exact ih
theorem Rel.prune (keep:List Nat) (h:Rel gl N base s a w S ρ):Rel gl N base (pr keep s) a w S ρ:=by
  refine ⟨h.hr,h.le,h.gl,h.size,fun t => ?_,h.defers⟩
  rcases mkT_keep keep s.T t with h1 | h1
  · show RepV w S ρ s.G (mkT _ t) _
    rw [h1];exact h.tmps t
  · show RepV w S ρ s.G (mkT _ t) _
    rw [h1];trivial
theorem apart_ind {x y:Itm} (h:apart x.o y.o=true) (h1:meets x.wr y.fp=false) (h2:meets y.wr x.fp=false) (h3:meets x.wr y.wr=false):Ind x y:=by
  have hm:∀ {a b:List Nat},meets a b=false→∀ i,i∈a→i ∉ b:=by
    intro a b hab i hi hb
    unfold meets at hab
    rw [List.any_eq_false] at hab
    exact hab i hi (by simpa using hb)
  unfold apart at h
  simp only [Bool.and_eq_true] at h
  refine ⟨fun i hi => ?_,fun i hi => ?_,hm h1,hm h2,hm h3⟩
  · have h4:=h.1
    rw [hi] at h4
    simp only [Bool.and_eq_true,Bool.not_eq_true',List.contains_eq_mem,decide_eq_false_iff_not] at h4
    refine ⟨h4.1,fun e => ?_⟩
    have h5:=h4.2
    rw [e] at h5
    simp at h5
  · have h4:=h.2
    rw [hi] at h4
    simpa using h4
theorem region_sound {id:Nat} {ops:Array Oper} {draw:Bool} {q:List Opn} {dr:Option (List Nat)} {keep:List Nat} {its:List Itm} {Q:Exit→Act→World→Prop} (hc:cC P N K (.region id ops draw)=some (.reg q dr keep)) (hq:its.map (·.o)=q) (ht:Tr P gl its s s1) (hd:∀ A,dr=some A→dynAll A its) (hr:Rel gl N base s a w S ρ) (hK:Then gl N base s1 w S (Q .normal)):(Code.region id ops draw).wp P Q a w:=by
  simp only [cC] at hc
  split at hc
  · rename_i q1 hq1
    obtain ⟨g1,g2⟩:=cOpns_get hq1
    have hlen:∀ q2,q2=q1→its.map (·.o)=q2→its.length=ops.size∧∀ (j:Nat) x,its[j]? = some x→∃ o,ops[j]? = some o∧cOpn P N ops o=some x.o:=by
      rintro q2 rfl hq2
      refine ⟨by rw [← List.length_map (f:=(·.o)),hq2,g1,Array.length_toList],fun j x hj => ?_⟩
      have:q2[j]? = some x.o:=by rw [← hq2,List.getElem?_map,hj];rfl
      obtain ⟨o,ho,hco⟩:=g2 j _ this
      exact ⟨o,by rw [← Array.getElem?_toList];exact ho,hco⟩
    cases draw with
    | false =>
      simp only [Bool.false_eq_true,if_false,Option.some.injEq,C.reg.injEq] at hc
      obtain ⟨rfl,rfl,rfl⟩:=hc
      obtain ⟨h1,h2⟩:=hlen _ rfl hq
      apply wp_region
      rw [List.range_eq_range',← h1]
      exact seq_sound its 0 s a w S ρ (fun j x hj=>by rw [Nat.zero_add];exact h2 j x hj) ht hr hK
    | true =>
      simp only [if_true] at hc
      split at hc
      · rename_i hh
        simp only [Option.some.injEq,C.reg.injEq] at hc
        obtain ⟨rfl,rfl,rfl⟩:=hc
        simp only [Bool.and_eq_true] at hh
        obtain ⟨⟨hdep,hanc⟩,hap⟩:=hh
        obtain ⟨h1,h2⟩:=hlen _ rfl hq
        have hdyn:=hd _ rfl
        have hI:AllInd (Region.before ops).toList its:=by
          intro i j x y hi hj hij hb
          obtain ⟨m1,m2,m3⟩:=hdyn i j x y hi hj hij hb
          refine apart_ind ?_ m1 m2 m3
          unfold apartAll at hap
          rw [List.all_eq_true] at hap
          have ky:(y.o,j)∈q1.zipIdx:=List.mem_zipIdx_iff_getElem?.2 (by rw [← hq,List.getElem?_map,hj];rfl)
          have kx:(x.o,i)∈q1.zipIdx:=List.mem_zipIdx_iff_getElem?.2 (by rw [← hq,List.getElem?_map,hi];rfl)
          have:=List.all_eq_true.1 (hap _ ky) _ kx
          simp only [hij,decide_true,Bool.not_true,Bool.false_or,hb] at this
          exact this
        apply wp_region_draw
        intro t
        have hstep:=hr.hr.step (w1:={ w with drawn:=w.drawn+1 }) (S1:=S) (fun _ _=>rfl) (Nat.le_refl _) (fun _ h=>h) (fun k hk=>⟨.inl hk,hr.hr.lt k hk⟩)
        have hb:Bel base w { w with drawn:=w.drawn+1 }:=Bel.old ⟨rfl,rfl,rfl,Nat.le_refl _,fun _ _=>rfl⟩ hr.le
        have hr2:Rel gl N base s a { w with drawn:=w.drawn+1 } S ρ:=⟨hstep.2,hr.le,hr.gl.ext hstep.1,hr.size,fun t=>(hr.tmps t).mono hstep.1,hr.defers⟩
        have key:∀ (md:Region.Mode) (rk:List Nat) (t:Nat),rankOk md ops rk=true→wpOps P ops Q (Region.linearise md ops t) a { w with drawn:=w.drawn+1 }:=by
          intro md rk t hrk
          refine wpAny_sound ops.size t _ a _ ?_
          refine any_sound hrk hanc hI h1 h2 ops.size _ s a _ S ρ ⟨by simp,fun i o ho hl _ _ _ => ?_⟩ ?_ ?_ hr2 (hK.later hb (fun k hk=>.inl hk))
          · unfold Listed at hl
            rw [Array.getElem?_replicate] at hl
            split at hl <;> simp at hl
          · have:(left (Array.replicate ops.size false) its.zipIdx).length≤its.zipIdx.length:=List.length_filter_le _ _
            rw [List.length_zipIdx] at this;omega
          · have:left (Array.replicate ops.size false) its.zipIdx=its.zipIdx:=by
              unfold left
              rw [List.filter_eq_self]
              intro p hp
              have:=(List.getElem?_eq_some_iff.1 (List.mem_zipIdx_iff_getElem?.1 hp)).1
              rw [Array.getElem?_replicate,if_pos (by omega)];rfl
            rw [this,List.zipIdx_map_fst]
            exact ht
        unfold modesOf at hdep
        unfold Region.schedule
        by_cases hm:(P.follows .mixedOrders || !Region.departs ops)=true
        · rw [if_pos hm] at hdep ⊢
          exact key .any _ t (by simpa using hdep)
        · rw [if_neg hm] at hdep ⊢
          simp only [List.all_cons,List.all_nil,Bool.and_true,Bool.and_eq_true] at hdep
          split
          · exact key .text _ _ hdep.1
          · exact key .gc _ _ hdep.2
      · cases hc
  · cases hc
theorem W_sound {k:List It} {R:St→Prop} (h:W P gl N k s R):∀ (l:List Item),Stk P N K k l→∀ base a w S ρ,Rel gl N base s a w S ρ→∀ (b:Frame) (cs:List Frame),
    ∃ todo a1 w1 S1 ρ1 s1,R s1∧Rel gl N base s1 a1 w1 S1 ρ1∧Bel base w w1∧(∀ k,S1 k→S k∨base.ok k)∧Steps P (lone (b.at a l) cs w) (lone { b.at a1 todo with mode:=.returning } cs w1):=by
  induction h with
  | nil h =>
    intro l hl base a w S ρ hr b cs
    cases hl
    exact ⟨_,a,w,S,ρ,_,h,hr,Bel.refl _ _,fun k hk=>.inl hk,.one step_end⟩
  | ret h =>
    intro l hl base a w S ρ hr b cs
    cases hl with
    | c hc hk =>
      rename_i y l
      have:y=.ret:=by
        cases y <;> first | rfl | (exfalso;simp only [cC] at hc;(repeat' split at hc) <;> first | (cases hc;done) | (obtain ⟨_,_,hc⟩:=Option.map_eq_some_iff.1 hc;cases hc;done) | (contradiction;done))
      subst this
      exact ⟨_,a,w,S,ρ,_,h,hr,Bel.refl _ _,fun k hk=>.inl hk,.one step_ret⟩
  | skip h ih =>
    intro l hl base a w S ρ hr b cs
    cases hl with
    | c hc hk =>
      rename_i y l
      have:y=.skip∨∃ q,y=.label q:=by
        cases y <;> first | exact .inl rfl | exact .inr ⟨_,rfl⟩ | (exfalso;simp only [cC] at hc;(repeat' split at hc) <;> first | (cases hc;done) | (obtain ⟨_,_,hc⟩:=Option.map_eq_some_iff.1 hc;cases hc;done) | (contradiction;done))
      obtain ⟨todo,a1,w1,S1,ρ1,s1,h1,h2,h3,h4,h5⟩:=ih l hk base a w S ρ hr b cs
      rcases this with rfl | ⟨q,rfl⟩
      · exact ⟨todo,a1,w1,S1,ρ1,s1,h1,h2,h3,h4,.head step_skip h5⟩
      · exact ⟨todo,a1,w1,S1,ρ1,s1,h1,h2,h3,h4,.head step_label h5⟩
  | @seq _ _ _ x1 y1 h ih =>
    intro l hl base a w S ρ hr b cs
    cases hl with
    | c hc hk =>
      rename_i y l
      obtain ⟨p,q,rfl,hp,hq⟩:∃ p q,y=.seq p q∧cC P N K p=some x1∧cC P N K q=some y1:=by
        cases y <;> first | (exfalso;simp only [cC] at hc;(repeat' split at hc) <;> first | (cases hc;done) | (obtain ⟨_,_,hc⟩:=Option.map_eq_some_iff.1 hc;cases hc;done) | (contradiction;done)) | skip
        rename_i p q
        simp only [cC] at hc
        split at hc
        · rename_i g1 g2;cases hc;exact ⟨p,q,rfl,g1,g2⟩
        · cases hc
      obtain ⟨todo,a1,w1,S1,ρ1,s1,h1,h2,h3,h4,h5⟩:=ih _ (.c hp (.c hq hk)) base a w S ρ hr b cs
      exact ⟨todo,a1,w1,S1,ρ1,s1,h1,h2,h3,h4,.head step_seq h5⟩
  | @cond _ _ _ od x1 y1 pb hcv ht hf iht ihf =>
    intro l hl base a w S ρ hr b cs
    cases hl with
    | c hc hk =>
      rename_i y l
      obtain ⟨oc,p1,q1,rfl,ho,hp,hq⟩:∃ oc p q,y=.cond oc p q∧cOd oc=some od∧cC P N K p=some x1∧cC P N K q=some y1:=by
        cases y <;> first | (exfalso;simp only [cC] at hc;(repeat' split at hc) <;> first | (cases hc;done) | (obtain ⟨_,_,hc⟩:=Option.map_eq_some_iff.1 hc;cases hc;done) | (contradiction;done)) | skip
        rename_i oc p q
        simp only [cC] at hc
        split at hc
        · rename_i g0 g1 g2;cases hc;exact ⟨oc,p,q,rfl,g0,g1,g2⟩
        · cases hc
      have hv:=eval_rep hr ho
      rw [hcv,rep_bool] at hv
      cases pb with
      | true =>
        obtain ⟨todo,a1,w1,S1,ρ1,s1,h1,h2,h3,h4,h5⟩:=iht rfl _ (.c hp hk) base a w S ρ hr b cs
        exact ⟨todo,a1,w1,S1,ρ1,s1,h1,h2,h3,h4,.head (step_cond hv) h5⟩
      | false =>
        obtain ⟨todo,a1,w1,S1,ρ1,s1,h1,h2,h3,h4,h5⟩:=ihf rfl _ (.c hq hk) base a w S ρ hr b cs
        exact ⟨todo,a1,w1,S1,ρ1,s1,h1,h2,h3,h4,.head (step_cond hv) h5⟩
  | @blk _ _ _ id x1 h ih =>
    intro l hl base a w S ρ hr b cs
    cases hl with
    | c hc hk =>
      rename_i y l
      obtain ⟨p,rfl,hp⟩:∃ p,y=.block id p∧cC P N K p=some x1:=by
        cases y <;> first | (exfalso;simp only [cC] at hc;(repeat' split at hc) <;> first | (cases hc;done) | (obtain ⟨_,_,hc⟩:=Option.map_eq_some_iff.1 hc;cases hc;done) | (contradiction;done)) | skip
        rename_i id2 p
        simp only [cC] at hc
        obtain ⟨z,hz,hc⟩:=Option.map_eq_some_iff.1 hc
        cases hc
        exact ⟨p,rfl,hz⟩
      obtain ⟨todo,a1,w1,S1,ρ1,s1,h1,h2,h3,h4,h5⟩:=ih _ (.c hp (.blk hk)) base a w S ρ hr b cs
      exact ⟨todo,a1,w1,S1,ρ1,s1,h1,h2,h3,h4,.head step_block h5⟩
  | eblk h ih =>
    intro l hl base a w S ρ hr b cs
    cases hl with
    | blk hk =>
      obtain ⟨todo,a1,w1,S1,ρ1,s1,h1,h2,h3,h4,h5⟩:=ih _ hk base a w S ρ hr b cs
      exact ⟨todo,a1,w1,S1,ρ1,s1,h1,h2,h3,h4,.head step_inBlock h5⟩
  | @loop _ _ _ x1 h ih =>
    intro l hl base a w S ρ hr b cs
    cases hl with
    | c hc hk =>
      rename_i y l
      obtain ⟨p,rfl,hp⟩:∃ p,y=.loop p∧cC P N K p=some x1:=by
        cases y <;> first | (exfalso;simp only [cC] at hc;(repeat' split at hc) <;> first | (cases hc;done) | (obtain ⟨_,_,hc⟩:=Option.map_eq_some_iff.1 hc;cases hc;done) | (contradiction;done)) | skip
        rename_i p
        simp only [cC] at hc
        obtain ⟨z,hz,hc⟩:=Option.map_eq_some_iff.1 hc
        cases hc
        exact ⟨p,rfl,hz⟩
      obtain ⟨todo,a1,w1,S1,ρ1,s1,h1,h2,h3,h4,h5⟩:=ih _ (.c hp (.lp hp hk)) base a w S ρ hr b cs
      exact ⟨todo,a1,w1,S1,ρ1,s1,h1,h2,h3,h4,.head step_loop h5⟩
  | lp h ih =>
    intro l hl base a w S ρ hr b cs
    cases hl with
    | lp hc hk =>
      obtain ⟨todo,a1,w1,S1,ρ1,s1,h1,h2,h3,h4,h5⟩:=ih _ (.c hc (.lp hc hk)) base a w S ρ hr b cs
      exact ⟨todo,a1,w1,S1,ρ1,s1,h1,h2,h3,h4,.head step_inLoop h5⟩
  | @exit _ _ _ _ id hk1 h ih =>
    intro l hl base a w S ρ hr b cs
    cases hl with
    | c hc hk =>
      rename_i y l
      have:y=.exit id:=by
        cases y <;> first | (exfalso;simp only [cC] at hc;(repeat' split at hc) <;> first | (cases hc;done) | (obtain ⟨_,_,hc⟩:=Option.map_eq_some_iff.1 hc;cases hc;done) | (contradiction;done)) | skip
        simp only [cC,Option.some.injEq,C.exit.injEq] at hc
        rw [hc]
      subst this
      obtain ⟨l1,g1,g2⟩:=hk.exit hk1
      obtain ⟨todo,a1,w1,S1,ρ1,s1,h1,h2,h3,h4,h5⟩:=ih _ g2 base a w S ρ hr b cs
      exact ⟨todo,a1,w1,S1,ρ1,s1,h1,h2,h3,h4,.head (step_exit g1) h5⟩
  | @reg _ s0 s2 R0 q dr keep its hq ht hd h ih =>
    intro l hl base a w S ρ hr b cs
    cases hl with
    | c hc hk =>
      rename_i y l
      obtain ⟨id,ops,draw,rfl⟩:∃ id ops draw,y=.region id ops draw:=by
        cases y <;> first | exact ⟨_,_,_,rfl⟩ | (exfalso;simp only [cC] at hc;(repeat' split at hc) <;> first | (cases hc;done) | (obtain ⟨_,_,hc⟩:=Option.map_eq_some_iff.1 hc;cases hc;done) | (contradiction;done))
      have hwp:=region_sound (Q:=fun e a1 w1=>e=.normal∧∃ S1 ρ1,Rel gl N base s2 a1 w1 S1 ρ1∧Bel base w w1∧∀ k,S1 k→S k∨base.ok k) hc hq ht hd hr (fun a1 w1 S1 ρ1 h1 h2 h3=>⟨rfl,S1,ρ1,h1,h2,h3⟩)
      obtain ⟨e,a1,w1,⟨he,S1,ρ1,h1,h2,h3⟩,harr⟩:=hwp b l cs
      subst he
      obtain ⟨todo,a2,w2,S2,ρ2,s3,k1,k2,k3,k4,k5⟩:=ih l hk base a1 w1 S1 ρ1 (h1.prune keep) b cs
      exact ⟨todo,a2,w2,S2,ρ2,s3,k1,k2,h2.trans k3,fun k hk=>(k4 k hk).elim (h3 k) .inr,Steps.trans harr k5⟩
  | nil2 ht h0 h1 ih0 ih1 =>
    rename_i s0 R0 t rows
    intro l hl base a w S ρ hr b cs
    have hv:=hr.tmps t
    rw [ht] at hv
    have key:∀ {v:Va},RepV w S ρ s0.G v (a.tmps.getD t undef)→Rel gl N base ⟨updT s0.T t v,s0.G⟩ a w S ρ:=by
      intro v hv
      refine ⟨hr.hr,hr.le,hr.gl,hr.size,fun t1 => ?_,hr.defers⟩
      show RepV w S ρ s0.G (updT s0.T t v t1) _
      unfold updT
      split
      · rename_i h;subst h;exact hv
      · exact hr.tmps t1
    generalize hu:a.tmps.getD t undef=u at hv key
    cases hv with | d _ _ hv =>
    have hv2:=hv
    cases hv with
    | sl _ p cap st bb o us hc hn0 hst ha hcell hu2 =>
      cases p with
      | some q=>exact ih1 l hl base a w S ρ (key (.nn rows q cap hv2)) b cs
      | none =>
        have hrows:rows=[]:=by
          cases rows with
          | nil=>rfl
          | cons r rs=>have:=(ha (by simp)).1;cases this
        subst hrows
        have hc0:=hn0 rfl
        subst hc0
        exact ih0 rfl l hl base a w S ρ (key .nils) b cs
  | weak hi h ih =>
    intro l hl base a w S ρ hr b cs
    obtain ⟨S1,ρ1,h1,h2⟩:=hi base a w S ρ hr
    obtain ⟨todo,a2,w2,S2,ρ2,s3,k1,k2,k3,k4,k5⟩:=ih l hl base a w S1 ρ1 h1 b cs
    exact ⟨todo,a2,w2,S2,ρ2,s3,k1,k2,k3,fun k hk=>(k4 k hk).elim (h2 k) .inr,k5⟩
end Go.Proofs.YtedibjgdangfnaaGreatDoor.V
end

section
namespace Go.Proofs.YtedibjgdangfnaaGreatDoor.V
open Go Go.RowKit
set_option linter.unusedVariables false
set_option linter.unusedSimpArgs false
variable {P:Program} {gl:Gl} {N:Nat} {K:List (Nat×List Nat)} {a:Act} {w w1:World} {S S1:Nat→Prop} {ρ ρ1:Nat→Option Nat} {base:Base} {s s1:St} {k:List It} {R:St→Prop}
def ch0:Ch:=⟨.dead,[],false,none,none,none⟩
inductive RV where
  | t (n:Nat)
  | c (n:Nat) (agg:Bool) (sz:Nat)
def cRV (P:Program):ResultVar→Option RV
  | .tmp t=>some (.t t)
  | .cell a t=>match aggT P t,sizeT P t with | some g,some s=>if g∨s=1 then some (.c a g s) else none | _,_=>none
def cRVs (P:Program):List ResultVar→Option (List RV)
  | []=>some []
  | x :: l=>match cRV P x,cRVs P l with | some a,some b=>some (a :: b) | _,_=>none
section
variable (P:Program) (gl:Gl)
def rvOut (s:St):RV→Out
  | .t n=>out1 (s.T n)
  | .c n agg sz=>semI P gl ch0 none (.load agg sz (.t n)) (evT gl s.T) s.G
def convB (F:List Nat) (G:Hf):Va→Option Vb
  | .b (.s (.full rows))=>some (.s (.full rows))
  | .b (.s x)=>(conv F G 4 x).map fun y=>.s (.d y)
  | .b (.agg cs)=>(convC (conv F G 4) cs).map fun l=>.agg (l.map Lc.d)
  | _=>none
def convBs (F:List Nat) (G:Hf):List Va→Option (List Vb)
  | []=>some []
  | x :: l=>match convB F G x,convBs F G l with | some a,some b=>some (a :: b) | _,_=>none
def allOb (s:St):List RV→Prop
  | []=>True
  | r :: l=>(rvOut P gl s r).ob∧allOb s l
def Ret (F:List Nat) (rs:List RV) (y:Va) (s:St):Prop :=
  allOb P gl s rs∧match rs with
    | [r]=>(convB F s.G (rvOut P gl s r).v).map Va.b=some y
    | _=>(convBs F s.G (rs.map fun r=>(rvOut P gl s r).v)).map Va.tup=some y
end
theorem rv_run {r : ResultVar} {q:RV} (hr:Rel gl N base s a w S ρ) (hc:cRV P r=some q) (hob:(rvOut P gl s q).ob) :
    ∃ u,((match r with | .tmp t=>pure (a.tmps.getD t undef) | .cell x t=>do loadVar t (← asAddr (a.tmps.getD x undef))):Sem Value).run P w=.ok u w∧RepV w S ρ s.G (rvOut P gl s q).v u:=by
  cases r with
  | tmp t =>
    simp only [cRV,Option.some.injEq] at hc;subst hc
    exact ⟨_,rfl,hr.tmps t⟩
  | cell x t =>
    simp only [cRV] at hc
    split at hc
    · rename_i g sz h1 h2
      split at hc
      · rename_i hh
        simp only [Option.some.injEq] at hc;subst hc
        have hx:=hr.tmps x
        generalize hO:rvOut P gl s (.c x g sz)=out at hob ⊢
        simp only [rvOut,semI,evT] at hO
        split at hO
        · rename_i i n r q e1
          rw [e1] at hx
          split at hO
          · rename_i e hG
            split at hO
            · rename_i row hrow
              subst hO
              obtain ⟨hn,hl⟩:=hob
              obtain ⟨b,k2,k3,k4,k5⟩:=ptr_cells hr.hr hx hG hn hrow
              obtain ⟨u,k6,k7⟩:=run_loadVar (P:=P) (w:=w) (S:=S) (ρ:=ρ) (G:=s.G) (t:=t) (b:=b) (k:=r * e.st+q) (cs:=row.drop q) h1 h2 hh (by rw [List.length_drop];omega) (fun j lc hj=>by
                rw [List.getElem?_drop] at hj
                obtain ⟨x,g1,_,g3⟩:=k5 _ lc hj
                exact ⟨x,by rw [Nat.add_assoc];exact g1,g3⟩)
              refine ⟨u,by show ((do loadVar t (← asAddr (a.tmps.getD x undef))):Sem Value).run P w=_;rw [k3];simpa [asAddr] using k6,?_⟩
              have:(row.drop q).getD 0 lcA=row.getD q lcA:=by simp [List.getD]
              rw [this] at k7
              exact k7
            · subst hO;exact hob.elim
          · subst hO;exact hob.elim
        · rename_i cells q e1
          rw [e1] at hx
          subst hO
          obtain ⟨b,k,k2,k3⟩:=ref_cells hx
          have hl:q+sz≤cells.length:=hob
          obtain ⟨u,k6,k7⟩:=run_loadVar (P:=P) (w:=w) (S:=S) (ρ:=ρ) (G:=s.G) (t:=t) (b:=b) (k:=k+q) (cs:=(cells.drop q).map Lc.d) h1 h2 hh (by rw [List.length_map,List.length_drop];omega) (fun j lc hj=>by
            rw [List.getElem?_map,List.getElem?_drop,Option.map_eq_some_iff] at hj
            obtain ⟨sc,hj,rfl⟩:=hj
            obtain ⟨x,g1,g3⟩:=k3 _ sc hj
            exact ⟨x,by rw [Nat.add_assoc];exact g1,.d _ _ g3⟩)
          refine ⟨u,by show ((do loadVar t (← asAddr (a.tmps.getD x undef))):Sem Value).run P w=_;rw [k2];simpa [asAddr] using k6,?_⟩
          have e2:((cells.drop q).map Lc.d).getD 0 lcA=Lc.d (cells.getD q scA):=by
            simp only [List.getD,List.getElem?_map,List.getElem?_drop,Nat.add_zero]
            cases cells[q]? <;> rfl
          rw [e2,← List.map_take] at k7
          exact k7
        · subst hO;exact hob.elim
      · cases hc
    · cases hc
theorem rvs_run (hr:Rel gl N base s a w S ρ):∀ {rs:List ResultVar} {qs:List RV},cRVs P rs=some qs→allOb P gl s qs →
    ∃ us:List Value,(rs.mapM (fun | .tmp t=>pure (a.tmps.getD t undef) | .cell x t=>do loadVar t (← asAddr (a.tmps.getD x undef)):ResultVar→Sem Value)).run P w=.ok us w∧us.length=qs.length∧∀ (j:Nat) q,qs[j]? = some q→∃ u,us[j]? = some u∧RepV w S ρ s.G (rvOut P gl s q).v u
  | [],qs,h,_=>by simp only [cRVs,Option.some.injEq] at h;subst h;exact ⟨[],rfl,rfl,by simp⟩
  | r :: rs,qs,h,hob=>by
    simp only [cRVs] at h
    split at h
    · rename_i q l h1 h2
      simp only [Option.some.injEq] at h;subst h
      obtain ⟨u,k1,k2⟩:=rv_run hr h1 hob.1
      obtain ⟨us,k3,k4,k5⟩:=rvs_run hr h2 hob.2
      refine ⟨u :: us,?_,by simp [k4],fun j q hj => ?_⟩
      · rw [List.mapM_cons]
        simp only [Sem.run_bind]
        rw [k1]
        simp only [Result.andThen_ok,k3,Sem.run_pure]
      · cases j with
        | zero=>simp only [List.getElem?_cons_zero,Option.some.injEq] at hj;subst hj;exact ⟨u,rfl,k2⟩
        | succ j=>exact k5 j q (by simpa using hj)
    · cases h
theorem convB_ok (hr:Hr w S ρ s.G base) {F:List Nat} {v:Va} {b:Vb} {u:Value} (h:convB F s.G v=some b) (hv:RepV w S ρ s.G v u):RepB w (Sup S ρ F) (fun _=>none) (fun _=>none) b u:=by
  unfold convB at h
  split at h
  · cases h
    have hv1:RepL w S ρ s.G (.full _) u:=hv
    cases hv1 with
    | full _ p h=>exact .full _ p h.sup
  · obtain ⟨y,hy,rfl⟩:=Option.map_eq_some_iff.1 h
    exact .d _ _ (conv_sound hr F 4 _ y u hy hv)
  · obtain ⟨l,hl,rfl⟩:=Option.map_eq_some_iff.1 h
    obtain ⟨vs,g1,g2,g3⟩:=hv
    obtain ⟨k1,k2⟩:=convC_get hl
    refine ⟨vs,g1,by simp [g2,k1],fun i lc hi => ?_⟩
    rw [List.getElem?_map,Option.map_eq_some_iff] at hi
    obtain ⟨sc,hi,rfl⟩:=hi
    obtain ⟨q,hq1,hq2⟩:=k2 i sc hi
    exact .d _ _ (conv_sound hr F 4 q sc _ hq2 (g3 i q hq1))
  · cases h
theorem convBs_get {F:List Nat} {G:Hf}:∀ {l:List Va} {r:List Vb},convBs F G l=some r→r.length=l.length∧∀ (j:Nat) b,r[j]? = some b→∃ v,l[j]? = some v∧convB F G v=some b
  | [],r,h=>by simp only [convBs,Option.some.injEq] at h;subst h;simp
  | x :: l,r,h=>by
    simp only [convBs] at h
    split at h
    · rename_i a b h1 h2
      simp only [Option.some.injEq] at h;subst h
      obtain ⟨h3,h4⟩:=convBs_get h2
      refine ⟨by simp [h3],fun j s hj => ?_⟩
      cases j with
      | zero=>simp only [List.getElem?_cons_zero,Option.some.injEq] at hj;subst hj;exact ⟨x,rfl,h1⟩
      | succ j=>exact h4 j s (by simpa using hj)
    · cases h
theorem ret_ok {fn : Func} {F : List Nat} {rs:List RV} {y:Va} (hr:Rel gl N base s a w S ρ) (hc:cRVs P fn.results.toList=some rs) (h:Ret P gl F rs y s) :
    ∃ u,(results fn a.tmps).run P w=.ok u w∧RepV w (Sup S ρ F) (fun _=>none) (fun _=>none) y u:=by
  obtain ⟨us,k1,k2,k3⟩:=rvs_run hr hc h.1
  have hm:(fn.results.mapM (fun | .tmp t=>pure (a.tmps.getD t undef) | .cell x t=>do loadVar t (← asAddr (a.tmps.getD x undef)):ResultVar→Sem Value)).run P w=.ok us.toArray w:=by
    rw [Array.mapM_eq_mapM_toList,Sem.run_map,k1];rfl
  have hrun:(results fn a.tmps).run P w=.ok (if h:us.toArray.size=1 then us.toArray[0] else .tuple us.toArray) w:=by
    unfold results
    rw [Sem.run_bind]
    exact congrArg (fun r=>Result.andThen r (fun (a:Array Value) w'=>Sem.run P (pure (if h:a.size=1 then a[0] else Value.tuple a)) w')) hm
  have h2:=h.2
  by_cases h1:∃ r,rs=[r]
  · obtain ⟨r, rfl⟩ := h1
    obtain ⟨b,hb,rfl⟩:=Option.map_eq_some_iff.1 h2
    obtain ⟨u,g1,g2⟩:=k3 0 r rfl
    have hl:us.toArray.size=1:=by simpa using k2
    refine ⟨u,?_,convB_ok hr.hr hb g2⟩
    rw [hrun,dif_pos hl]
    have:us[0]? = some u:=g1
    simp only [List.getElem_toArray]
    rw [List.getElem?_eq_getElem (by have h9:us.length=1:=by simpa using hl
                                     omega)] at this
    rw [Option.some.inj this]
  · have h3:(convBs F s.G (rs.map fun r=>(rvOut P gl s r).v)).map Va.tup=some y:=by
      cases rs with
      | nil=>exact h2
      | cons r l=>cases l with
        | nil=>exact absurd ⟨r,rfl⟩ h1
        | cons _ _=>exact h2
    obtain ⟨bs,hbs,rfl⟩:=Option.map_eq_some_iff.1 h3
    obtain ⟨g1,g2⟩:=convBs_get hbs
    rw [List.length_map] at g1
    have hl:¬ us.toArray.size=1:=by
      simp only [List.size_toArray,k2]
      intro h4
      obtain ⟨r,hr1⟩:=List.length_eq_one_iff.1 h4
      exact h1 ⟨r,hr1⟩
    refine ⟨_,by rw [hrun,dif_neg hl],us.toArray,rfl,by simp [k2,g1],fun j x hj => ?_⟩
    obtain ⟨v,hv1,hv2⟩:=g2 j x hj
    rw [List.getElem?_map,Option.map_eq_some_iff] at hv1
    obtain ⟨q,hq,rfl⟩:=hv1
    obtain ⟨u,g3,g4⟩:=k3 j q hq
    have:us.toArray.getD j undef=u:=by simp [Array.getD_eq_getD_getElem?,g3]
    rw [this]
    exact convB_ok hr.hr hv2 g4
def start (xs:List Va):St:=⟨fun t=>(xs[t]?).getD .dead,fun _=>none⟩
theorem fun_of_W {f:FuncId} {fn:Func} {code:Code} {c:C} {rs:List RV} {F:List Nat} {xs:List Va} {y:Va} (hf:P.funcs[f]? = some fn) (hb:fn.body=some code) (hn:(fn.name == "runtime.NumGoroutine")=false) (hc:cC P fn.ntmps K code=some c) (hrs:cRVs P fn.results.toList=some rs) (hx:xs.length≤fn.ntmps)
    (h:W P gl fn.ntmps [.c c] (start xs) (Ret P gl F rs y)):Fun P gl f xs y:=by
  refine ⟨by simp [callable,hf,hb,hn],fun w S vs hS hgl hargs => ?_⟩
  intro cs
  let b:Frame:={ (default:Frame) with fn:=f,kind:=.normal }
  have henter:Frame.enter P f vs .normal=b.at { tmps:=vs++Array.replicate (fn.ntmps - vs.size) undef,defers:=[] } [.code code]:=by
    simp [Frame.enter,Frame.at,hf,hb,b]
  obtain ⟨hsz,hrep⟩:=hargs
  have hrel:Rel gl fn.ntmps (B0 w.heap.size) (start xs) { tmps:=vs++Array.replicate (fn.ntmps - vs.size) undef,defers:=[] } w S (fun _=>none):=by
    refine ⟨⟨fun i e h=>(by cases h),fun i j b h=>(by cases h),fun i b h=>(by cases h),fun i b h=>(by cases h),hS,fun k hk=>hk.elim,fun i b p h=>(by cases h)⟩,Nat.le_refl _,hgl,by simp;omega,fun t => ?_,rfl⟩
    show RepV w S _ _ ((xs[t]?).getD .dead) _
    by_cases ht:t < xs.length
    · have:=hrep t xs[t] (List.getElem?_eq_getElem ht)
      rw [List.getElem?_eq_getElem ht]
      have e1:(vs++Array.replicate (fn.ntmps - vs.size) undef).getD t undef=vs.getD t undef:=by
        rw [Array.getD_eq_getD_getElem?,Array.getElem?_append_left (by omega),Array.getD_eq_getD_getElem?]
      rw [e1];exact this
    · rw [List.getElem?_eq_none (by omega)];trivial
  obtain ⟨todo,a1,w1,S1,ρ1,s1,h1,h2,h3,h4,h5⟩:=W_sound h _ (.c hc .nil) (B0 w.heap.size) _ w S _ hrel b cs
  obtain ⟨u,k1,k2⟩:=ret_ok h2 hrs h1
  have hext:Ext w1 (Sup S1 ρ1 F) (fun _=>none) (fun _=>none) w1 (fun k=>S k∨Sup S1 ρ1 F k) (fun _=>none) (fun _=>none):=by
    refine ⟨fun k hk=>.inr hk,fun _ _=>rfl,?_,?_⟩
    · intro i e h;cases h
    · intro i b arr ty fz h;cases h
  refine ⟨.returned u,w1,({ b.at a1 todo with mode:=.returning }:Frame),⟨u,fun k=>S k∨Sup S1 ρ1 F k,rfl,fun k hk=>.inl hk,fun k hk => ?_,k2.mono hext,h3.below⟩,?_,rfl,rfl,h2.defers,rfl,fn,hf,k1⟩
  · rcases hk with hk | hk | ⟨i,_,hi⟩
    · exact ⟨.inl hk,Nat.lt_of_lt_of_le (hS k hk) h3.below.size⟩
    · exact ⟨(h4 k hk).imp id B0.ok_iff.1,h2.hr.lt k hk⟩
    · exact ⟨.inr (B0.ok_iff.1 (h2.hr.own i k hi)),h2.hr.bound hi⟩
  · rw [henter];exact h5
def RetO (P:Program) (gl:Gl) (t:Nat) (st:Nat) (rows:List (List Sc)) (s:St):Prop:=∃ i,s.T t=.b (.s (.own i rows.length))∧s.G i=some ⟨st,rows.map (fun r=>r.map Lc.d),false⟩
theorem funO_of_W {f : FuncId} {fn : Func} {code:Code} {c:C} {t:Nat} {st:Nat} {rows:List (List Sc)} {xs:List Va} (hf:P.funcs[f]? = some fn) (hb:fn.body=some code) (hn:(fn.name == "runtime.NumGoroutine")=false) (hc:cC P fn.ntmps K code=some c) (hrs:cRVs P fn.results.toList=some [.t t]) (hx:xs.length≤fn.ntmps)
    (h:W P gl fn.ntmps [.c c] (start xs) (RetO P gl t st rows)):FunO P gl f xs st rows:=by
  refine ⟨by simp [callable,hf,hb,hn],fun w S vs hS hgl hargs => ?_⟩
  intro cs
  let b:Frame:={ (default:Frame) with fn:=f,kind:=.normal }
  have henter:Frame.enter P f vs .normal=b.at { tmps:=vs++Array.replicate (fn.ntmps - vs.size) undef,defers:=[] } [.code code]:=by
    simp [Frame.enter,Frame.at,hf,hb,b]
  obtain ⟨hsz,hrep⟩:=hargs
  have hrel:Rel gl fn.ntmps (B0 w.heap.size) (start xs) { tmps:=vs++Array.replicate (fn.ntmps - vs.size) undef,defers:=[] } w S (fun _=>none):=by
    refine ⟨⟨fun i e h=>(by cases h),fun i j b h=>(by cases h),fun i b h=>(by cases h),fun i b h=>(by cases h),hS,fun k hk=>hk.elim,fun i b p h=>(by cases h)⟩,Nat.le_refl _,hgl,by simp;omega,fun t => ?_,rfl⟩
    show RepV w S _ _ ((xs[t]?).getD .dead) _
    by_cases ht:t < xs.length
    · have:=hrep t xs[t] (List.getElem?_eq_getElem ht)
      rw [List.getElem?_eq_getElem ht]
      have e1:(vs++Array.replicate (fn.ntmps - vs.size) undef).getD t undef=vs.getD t undef:=by
        rw [Array.getD_eq_getD_getElem?,Array.getElem?_append_left (by omega),Array.getD_eq_getD_getElem?]
      rw [e1];exact this
    · rw [List.getElem?_eq_none (by omega)];trivial
  obtain ⟨todo,a1,w1,S1,ρ1,s1,h1,h2,h3,h4,h5⟩:=W_sound h _ (.c hc .nil) (B0 w.heap.size) _ w S _ hrel b cs
  obtain ⟨i,h6,h7⟩:=h1
  obtain ⟨us,k1,k2,k3⟩:=rvs_run h2 hrs (show allOb P gl s1 [.t t] from ⟨trivial,trivial⟩)
  obtain ⟨u,g1,g2⟩:=k3 0 _ rfl
  have hm:(fn.results.mapM (fun | .tmp t=>pure (a1.tmps.getD t undef) | .cell x t=>do loadVar t (← asAddr (a1.tmps.getD x undef)):ResultVar→Sem Value)).run P w1=.ok us.toArray w1:=by
    rw [Array.mapM_eq_mapM_toList,Sem.run_map,k1];rfl
  have hl:us.toArray.size=1:=by simpa using k2
  have hrun : (results fn a1.tmps).run P w1=.ok u w1:=by
    have:(results fn a1.tmps).run P w1=.ok (if h:us.toArray.size=1 then us.toArray[0] else .tuple us.toArray) w1:=by
      unfold results
      rw [Sem.run_bind]
      exact congrArg (fun r=>Result.andThen r (fun (a:Array Value) w'=>Sem.run P (pure (if h:a.size=1 then a[0] else Value.tuple a)) w')) hm
    rw [this,dif_pos hl]
    simp only [List.getElem_toArray]
    rw [List.getElem?_eq_getElem (by have h9:us.length=1:=by simpa using hl
                                     omega)] at g1
    rw [Option.some.inj g1]
  have hbk:=h2.hr.blk i _ h7
  have hbS:∀ b,ρ1 i=some b→¬ S1 b:=by
    intro b hb hS
    rcases hbk.2 with ⟨k,_⟩ | ⟨b1,arr,ty,fz,k,k4,_⟩
    · rw [hb] at k;cases k
    · rw [hb] at k;cases k
      have:=k4.1 hS
      cases this
  let S2:Nat→Prop:=fun k=>S k∨S1 k
  have hS2:∀ b,ρ1 i=some b→¬ S2 b:=by
    rintro b hb (h | h)
    · have:=B0.ok_iff.1 (h2.hr.own i b hb)
      have:=hS b h
      omega
    · exact hbS b hb h
  let ρ2:Nat→Option Nat:=fun j=>if j=0 then ρ1 i else none
  let G2:Hf:=updG (fun _=>none) 0 ⟨st,rows.map (fun r=>r.map Lc.d),false⟩
  have hcells:∀ (j:Nat) sc,rows.flatten[j]? = some sc→(rows.map (fun r=>r.map Lc.d)).flatten[j]? = some (Lc.d sc):=by
    intro j sc hj
    rw [map_d_flatten,List.getElem?_map,hj];rfl
  have hr2 : Hr w1 S2 ρ2 G2 (B0 w.heap.size):=by
    refine ⟨fun j e hj => ?_,fun p q b hp hq => ?_,fun j b hj => ?_,fun j b hj => ?_,fun k hk => ?_,fun k hk=>hk.elim,fun i b p _ hp=>by cases hp⟩
    · by_cases hj0:j=0
      · subst hj0
        simp only [G2,updG,if_true,Option.some.injEq] at hj
        subst hj
        refine ⟨hbk.1,?_⟩
        rcases hbk.2 with ⟨k,k4⟩ | ⟨b1,arr,ty,fz,k,k4,k5,k6,k7⟩
        · exact .inl ⟨by simp [ρ2,k],k4⟩
        · refine .inr ⟨b1,arr,ty,fz,by simp [ρ2,k],⟨fun h=>(hS2 b1 k h).elim,fun h=>(by cases h)⟩,k5,k6,fun q lc hq => ?_⟩
          obtain ⟨x,m1,m2⟩:=k7 q lc hq
          have hq2:(rows.map (fun r=>r.map Lc.d)).flatten[q]? = some lc:=hq
          rw [map_d_flatten,List.getElem?_map,Option.map_eq_some_iff] at hq2
          obtain ⟨sc,hsc,rfl⟩:=hq2
          cases m2 with
          | d _ _ m2=>exact ⟨x,m1,.d _ _ (m2.mono (fun k hk=>.inr hk) (fun _ _=>rfl))⟩
      · simp only [G2,updG,if_neg hj0] at hj;cases hj
    · simp only [ρ2] at hp hq
      split at hp <;> split at hq <;> first | omega | (cases hp;done) | (cases hq;done)
    · simp only [ρ2] at hj
      split at hj
      · exact h2.hr.own i b hj
      · cases hj
    · simp only [ρ2] at hj
      split at hj
      · rename_i h0;subst h0;simp [G2,updG]
      · cases hj
    · rcases hk with hk | hk
      · exact Nat.lt_of_lt_of_le (hS k hk) h3.below.size
      · exact h2.hr.lt k hk
  refine ⟨.returned u,w1,({ b.at a1 todo with mode:=.returning }:Frame),⟨u,S2,ρ2,rfl,fun k hk=>.inl hk,fun k hk => ?_,hr2,?_,h3.below⟩,?_,rfl,rfl,h2.defers,rfl,fn,hf,hrun⟩
  · rcases hk with hk | hk
    · exact ⟨.inl hk,Nat.lt_of_lt_of_le (hS k hk) h3.below.size⟩
    · exact ⟨(h4 k hk).imp id B0.ok_iff.1,h2.hr.lt k hk⟩
  · have g3:RepV w1 S1 ρ1 s1.G (s1.T t) u:=g2
    rw [h6] at g3
    cases g3 with
    | own _ _ e0 _ hG0 hn0 hone hh =>
      rw [h7] at hG0;cases hG0
      refine .own 0 _ ⟨st,rows.map (fun r=>r.map Lc.d),false⟩ u (by simp [G2,updG]) hn0 hone (fun h => ?_)
      obtain ⟨p,cap,m1,m2⟩:=hh h
      refine ⟨p,cap,m1,?_⟩
      rcases m2 with m2 | ⟨b,arr,ty,fz,m2,m3⟩
      · exact .inl m2
      · exact .inr ⟨b,arr,ty,fz,by simp [ρ2,m2],m3⟩
  · rw [henter];exact h5
end Go.Proofs.YtedibjgdangfnaaGreatDoor.V
end

section
namespace Go.Proofs.YtedibjgdangfnaaGreatDoor.V
open Go Go.RowKit
set_option linter.unusedVariables false
set_option linter.unusedSimpArgs false
variable {P:Program} {gl:Gl} {N:Nat} {a:Act} {w w1:World} {S S1:Nat→Prop} {ρ ρ1:Nat→Option Nat} {base:Base} {s s1:St} {k:List It} {R:St→Prop}
section
variable (P:Program) (gl:Gl) (N:Nat) (k:List It) (R:St→Prop) (keep:List Nat)
def altI:Ins→Bool
  | .load _ _ _ | .iadr _ _ _=>true
  | _=>false
def CallStep (o:Opn) (s:St) (next:List Nat→List Nat→St→Prop):Prop:=∃ c,okO P gl c o s∧next (touchO gl c o s.T) ((outO P gl c o s).ef.map (·.1)) (nextO P gl c o s)
def Rg:List Opn→St→Prop
  | [],s=>W P gl N k (pr keep s) R
  | o :: l,s=>CallStep P gl o s (fun _ _ s=>Rg l s)
def dchk (m:Nat):Nat→List (List Nat×List Nat)→List Nat→List Nat→Bool
  | _,[],_,_=>true
  | j,(f,w) :: l,fp,wr=>(m.testBit j || (!meets w fp && !meets wr f && !meets w wr)) && dchk m (j+1) l fp wr
def RgD (A:List Nat):List (List Nat×List Nat)→List Opn→St→Prop
  | _,[],s=>W P gl N k (pr keep s) R
  | done,o :: l,s=>CallStep P gl o s (fun f w s=>dchk (A.getD done.length 0) 0 done f w=true∧RgD A (done++[(f,w)]) l s)
end
theorem Rg.tr {keep:List Nat}:∀ {q:List Opn} {s:St},Rg P gl N k R keep q s→∃ its s1,its.map (·.o)=q∧Tr P gl its s s1∧W P gl N k (pr keep s1) R
  | [],s,h=>⟨[],s,rfl,rfl,h⟩
  | o :: l,s,h=>by
    have hh:∃ c,okO P gl c o s∧Rg P gl N k R keep l (nextO P gl c o s):=by
      unfold Rg at h
      exact h
    obtain ⟨c,h1,h2⟩:=hh
    obtain ⟨its,s1,h3,h4,h5⟩:=Rg.tr h2
    exact ⟨⟨o,c,touchO gl c o s.T,(outO P gl c o s).ef.map (·.1)⟩ :: its,s1,by simp [h3],⟨h1,rfl,rfl,h4⟩,h5⟩
theorem Rg.walk {q:List Opn} {keep:List Nat} (h:Rg P gl N k R keep q s):W P gl N (.c (.reg q none keep) :: k) s R:=by
  obtain ⟨its,s1,h1,h2,h3⟩:=h.tr
  exact .reg its h1 h2 (fun A hA=>by cases hA) h3
theorem dchk_get {m:Nat} {fp wr:List Nat}:∀ {l:List (List Nat×List Nat)} {j:Nat},dchk m j l fp wr=true→∀ (i:Nat) f w,l[i]? = some (f,w)→m.testBit (j+i)=false→meets w fp=false∧meets wr f=false∧meets w wr=false
  | [],j,_,i,f,w,hi,_=>by simp at hi
  | (f0,w0) :: l,j,h,i,f,w,hi,hb=>by
    simp only [dchk,Bool.and_eq_true] at h
    cases i with
    | zero =>
      simp only [List.getElem?_cons_zero,Option.some.injEq,Prod.mk.injEq] at hi
      obtain ⟨rfl,rfl⟩:=hi
      rw [Nat.add_zero] at hb
      have:=h.1
      rw [hb] at this
      simp only [Bool.false_or,Bool.and_eq_true,Bool.not_eq_true'] at this
      exact ⟨this.1.1,this.1.2,this.2⟩
    | succ i=>exact dchk_get h.2 i f w (by simpa using hi) (by rw [← hb];congr 1;omega)
theorem RgD.tr {keep A:List Nat}:∀ {q:List Opn} {done:List (List Nat×List Nat)} {s:St},RgD P gl N k R keep A done q s→∃ its s1,its.map (·.o)=q∧Tr P gl its s s1∧W P gl N k (pr keep s1) R ∧
    (∀ (j:Nat) y,its[j]? = some y→(∀ (i:Nat) f w,done[i]? = some (f,w)→(A.getD (done.length+j) 0).testBit i=false→meets w y.fp=false∧meets y.wr f=false∧meets w y.wr=false) ∧
      ∀ (i:Nat) x,its[i]? = some x→i < j→(A.getD (done.length+j) 0).testBit (done.length+i)=false→meets x.wr y.fp=false∧meets y.wr x.fp=false∧meets x.wr y.wr=false)
  | [],done,s,h=>⟨[],s,rfl,rfl,h,fun j y hj=>by simp at hj⟩
  | o :: l, done,s,h=>by
    have hh:∃ c,okO P gl c o s∧dchk (A.getD done.length 0) 0 done (touchO gl c o s.T) ((outO P gl c o s).ef.map (·.1))=true∧RgD P gl N k R keep A (done++[(touchO gl c o s.T,(outO P gl c o s).ef.map (·.1))]) l (nextO P gl c o s):=by
      unfold RgD at h
      exact h
    obtain ⟨c,h1,h2,h3⟩:=hh
    obtain ⟨its,s1,h4,h5,h6,h7⟩:=RgD.tr h3
    refine ⟨⟨o,c,touchO gl c o s.T,(outO P gl c o s).ef.map (·.1)⟩ :: its,s1,by simp [h4],⟨h1,rfl,rfl,h5⟩,h6,fun j y hj => ?_⟩
    cases j with
    | zero =>
      simp only [List.getElem?_cons_zero,Option.some.injEq] at hj
      subst hj
      refine ⟨fun i f w hi hb => ?_,fun i x hi hij=>by omega⟩
      exact dchk_get h2 i f w hi (by rw [Nat.zero_add];exact hb)
    | succ j =>
      obtain ⟨g1,g2⟩:=h7 j y (by simpa using hj)
      rw [List.length_append,List.length_singleton] at g1 g2
      have e:done.length+(j+1)=done.length+1+j:=by omega
      rw [e]
      refine ⟨fun i f w hi hb => ?_,fun i x hi hij hb => ?_⟩
      · have hlt:=(List.getElem?_eq_some_iff.1 hi).1
        exact g1 i f w (by rw [List.getElem?_append_left hlt];exact hi) hb
      · cases i with
        | zero =>
          simp only [List.getElem?_cons_zero,Option.some.injEq] at hi
          subst hi
          exact g1 done.length _ _ (by rw [List.getElem?_append_right (Nat.le_refl _),Nat.sub_self];rfl) (by rw [Nat.add_zero] at hb;exact hb)
        | succ i =>
          exact g2 i x (by simpa using hi) (by omega) (by rw [← hb];congr 1;omega)
theorem RgD.walk {A:List Nat} {q:List Opn} {keep:List Nat} (h:RgD P gl N k R keep A [] q s):W P gl N (.c (.reg q (some A) keep) :: k) s R:=by
  obtain ⟨its,s1,h1,h2,h3,h4⟩:=h.tr
  refine .reg its h1 h2 (fun B hB => ?_) h3
  cases hB
  intro i j x y hi hj hij hb
  have:=(h4 j y hj).2 i x hi hij
  simp only [List.length_nil,Nat.zero_add] at this
  exact this hb
def mkG (l:List (Nat×Ent)):Hf:=fun i=>l.lookup i
def refsV (K:List Nat):Va→Bool
  | .b (.s x)=>refsIn K 4 x
  | .b (.agg cs)=>refsC (refsIn K 4) cs
  | .tup l=>l.all fun | .s x=>refsIn K 4 x | .agg cs=>refsC (refsIn K 4) cs
  | .gv _ x=>refsV K x
  | .dead=>true
  | .meth _ _=>true
theorem RepV.only {K:List Nat} {G:Hf} {v:Va} {u:Value} (h:refsV K v=true) (hv:RepV w S ρ G v u):RepV w S (onlyR K ρ) (onlyG K G) v u:=by
  have hB:∀ {x:Vb} {u:Value},(match x with | .s x=>refsIn K 4 x | .agg cs=>refsC (refsIn K 4) cs)=true→RepB w S ρ G x u→RepB w S (onlyR K ρ) (onlyG K G) x u:=by
    intro x u h hv
    cases x with
    | s x=>exact RepL.only K h hv
    | agg cs =>
      obtain ⟨vs,h1,h2,h3⟩:=hv
      exact ⟨vs,h1,h2,fun j lc hj=>(h3 j lc hj).only K (refsC_get h j lc hj)⟩
  induction v with
  | b x=>cases x with
    | s x=>exact hB (x:=.s x) h hv
    | agg cs=>exact hB (x:=.agg cs) h hv
  | tup l =>
    obtain ⟨vs,h1,h2,h3⟩:=hv
    refine ⟨vs,h1,h2,fun j x hj=>hB ?_ (h3 j x hj)⟩
    have:=List.all_eq_true.1 h x (List.mem_of_getElem? hj)
    cases x <;> exact this
  | gv g x ih=>exact ⟨fun hg=>ih h (hv.1 hg),hv.2⟩
  | dead=>trivial
  | meth n x=>exact hv
theorem lookup_mem {α:Type} {l:List (Nat×α)} {i:Nat} {x:α} (h:l.lookup i=some x):(i,x)∈l:=by
  induction l with
  | nil=>cases h
  | cons p l ih =>
    obtain ⟨j,y⟩:=p
    rw [List.lookup_cons] at h
    by_cases hi:i=j
    · subst hi
      simp only [beq_self_eq_true] at h
      cases h;exact List.mem_cons_self ..
    · have:(i == j)=false:=by simpa using hi
      rw [this] at h
      exact List.mem_cons_of_mem _ (ih h)
theorem lookup_none {α:Type} {l:List (Nat×α)} {i:Nat} (h:l.lookup i=none):i ∉ l.map (·.1):=by
  induction l with
  | nil=>simp
  | cons p l ih =>
    obtain ⟨j,y⟩:=p
    rw [List.lookup_cons] at h
    by_cases hi:i=j
    · subst hi;simp at h
    · have:(i == j)=false:=by simpa using hi
      rw [this] at h
      simp only [List.map_cons,List.mem_cons,not_or]
      exact ⟨hi,ih h⟩
def allE (G:Hf):List (Nat×Ent)→Prop
  | []=>True
  | (i,e) :: l=>G i=some e∧allE G l
theorem Imp.trans {s2:St} (h:Imp gl N s s1) (h1:Imp gl N s1 s2):Imp gl N s s2:=by
  intro base a w S ρ hr
  obtain ⟨S1,ρ1,h2,h3⟩:=h base a w S ρ hr
  obtain ⟨S2,ρ2,h4,h5⟩:=h1 base a w S1 ρ1 h2
  exact ⟨S2,ρ2,h4,fun k hk=>(h5 k hk).elim (h3 k) .inr⟩
theorem Imp.adoptN (t i st:Nat) (ht:s.T t=.b (.s .nils)) (hi:s.G i=none):Imp gl N s ⟨updT s.T t (.b (.s (.own i 0))),updG s.G i ⟨st,[],false⟩⟩:=by
  intro base a w S ρ hr
  have hρ:ρ i=none:=by
    cases h:ρ i with
    | none=>rfl
    | some b=>exact absurd hi (hr.hr.dom i b h)
  obtain ⟨k1,k2⟩:=hr.hr.upd (w1:=w) hr.le i ⟨st,[],false⟩ none (fun k _ _=>rfl) (Nat.le_refl _) (fun x hx=>by rw [hi] at hx;cases hx) (fun b arr ty fz hb _=>by rw [hρ] at hb;cases hb) (.inl hρ.symm) rfl (by simp) (.inl ⟨rfl,rfl⟩)
  refine ⟨S,_,⟨k2,hr.le,hr.gl,hr.size,fun t1 => ?_,hr.defers⟩,fun k hk=>.inl hk⟩
  show RepV _ _ _ _ (updT s.T t _ t1) _
  unfold updT
  split
  · rename_i h;subst h
    have:=hr.tmps t1
    rw [ht] at this
    generalize a.tmps.getD t1 undef=u at this ⊢
    cases this with
    | nils=>exact .own i 0 ⟨st,[],false⟩ _ (by simp [updG]) (Nat.le_refl _) ⟨_,_,rfl⟩ (fun _=>⟨none,0,rfl,.inl ⟨rfl,rfl⟩⟩)
  · exact (hr.tmps t1).mono k1
theorem fun_walk {f:FuncId} {fn:Func} {K:List (Nat×List Nat)} {c:C} {rs:List RV} {xs:List Va} {y:Va} (F:List Nat) (hf:P.funcs[f]? = some fn) (hN:fn.ntmps=N) (hbc:fn.body.bind (cC P N K)=some c) (hrs:cRVs P fn.results.toList=some rs) (hn:(fn.name == "runtime.NumGoroutine")=false) (hx:xs.length≤N)
    (h:W P gl N [.c c] (start xs) (Ret P gl F rs y)):Fun P gl f xs y:=by
  obtain ⟨code,hb,hc⟩:=Option.bind_eq_some_iff.1 hbc
  subst hN
  exact fun_of_W hf hb hn hc hrs hx h
theorem funO_walk {f:FuncId} {fn:Func} {K:List (Nat×List Nat)} {c:C} {t:Nat} {xs:List Va} {st:Nat} {rows:List (List Sc)} (hf:P.funcs[f]? = some fn) (hN:fn.ntmps=N) (hbc:fn.body.bind (cC P N K)=some c) (hrs:cRVs P fn.results.toList=some [.t t]) (hn:(fn.name == "runtime.NumGoroutine")=false) (hx:xs.length≤N)
    (h:W P gl N [.c c] (start xs) (RetO P gl t st rows)):FunO P gl f xs st rows:=by
  obtain ⟨code,hb,hc⟩:=Option.bind_eq_some_iff.1 hbc
  subst hN
  exact funO_of_W hf hb hn hc hrs hx h
def refsE (K:List Nat):List (Nat×Ent)→Prop
  | []=>True
  | p :: l=>refsR K p.2.rows∧refsE K l
def tupL:Va→Option (List Va)
  | .tup l=>some (l.map Va.b)
  | _=>none
def RetH (P:Program) (gl:Gl) (rs:List RV) (y:Va) (l1:List (Nat×Ent)) (s:St):Prop :=
  allOb P gl s rs∧(match rs with
    | [r]=>(rvOut P gl s r).v=y∧isB y
    | _=>tupL y=some (rs.map fun r=>(rvOut P gl s r).v))∧allE s.G l1∧refsVa (l1.map (·.1)) y=true∧refsE (l1.map (·.1)) l1
theorem RetH_one {P:Program} {gl:Gl} {y:Va} {l1:List (Nat×Ent)} {s:St} (r:RV):RetH P gl [r] y l1 s=(allOb P gl s [r]∧((rvOut P gl s r).v=y∧isB y)∧allE s.G l1∧refsVa (l1.map (·.1)) y=true∧refsE (l1.map (·.1)) l1):=rfl
theorem RetH_nil {P:Program} {gl:Gl} {y:Va} {l1:List (Nat×Ent)} {s:St}:RetH P gl [] y l1 s=(True∧tupL y=some []∧allE s.G l1∧refsVa (l1.map (·.1)) y=true∧refsE (l1.map (·.1)) l1):=rfl
theorem RetH_two {P:Program} {gl:Gl} {y:Va} {l1:List (Nat×Ent)} {s:St} (a b:RV) (l:List RV):RetH P gl (a :: b :: l) y l1 s=(allOb P gl s (a :: b :: l)∧tupL y=some ((a :: b :: l).map fun r=>(rvOut P gl s r).v)∧allE s.G l1∧refsVa (l1.map (·.1)) y=true∧refsE (l1.map (·.1)) l1):=rfl
end Go.Proofs.YtedibjgdangfnaaGreatDoor.V
end

section
namespace Go.Proofs.YtedibjgdangfnaaGreatDoor.V
open Go Go.RowKit
set_option linter.unusedVariables false
set_option linter.unusedSimpArgs false
variable {P:Program} {gl:Gl} {N:Nat} {s s1:St} {k:List It} {R:St→Prop} {keep:List Nat}
def lkT:List (Nat×Va)→Nat→Va
  | [],_=>.dead
  | (i,v) :: l,t=>if t=i then v else lkT l t
def lkG:List (Nat×Ent)→Hf
  | [],_=>none
  | (i,v) :: l,t=>if t=i then some v else lkG l t
def numd:Nat→List Va→List (Nat×Va)
  | _,[]=>[]
  | i,x :: l=>(i,x) :: numd (i+1) l
theorem lkT_nil (t:Nat):lkT [] t=.dead:=rfl
theorem lkT_cons (i:Nat) (v:Va) (l:List (Nat×Va)) (t:Nat):lkT ((i,v) :: l) t=if t=i then v else lkT l t:=rfl
theorem lkG_nil (t:Nat):lkG [] t=none:=rfl
theorem lkG_cons (i:Nat) (v:Ent) (l:List (Nat×Ent)) (t:Nat):lkG ((i,v) :: l) t=if t=i then some v else lkG l t:=rfl
theorem putT_lk (l:List (Nat×Va)) (i:Nat) (v:Va):putT (lkT l) (some i) v=lkT ((i,v) :: l):=rfl
theorem putT_no (T:Nat→Va) (v:Va):putT T none v=T:=rfl
theorem lkT_upd (l:List (Nat×Va)) (i:Nat) (v:Va):updT (lkT l) i v=lkT ((i,v) :: l):=rfl
theorem lkG_upd (l:List (Nat×Ent)) (i:Nat) (v:Ent):updG (lkG l) i v=lkG ((i,v) :: l):=rfl
theorem lkT_mk:∀ l,mkT l=lkT l
  | []=>rfl
  | (i, v) :: l=>by
    funext t
    have ih:=congrFun (lkT_mk l) t
    unfold mkT at ih ⊢
    rw [List.lookup_cons,lkT]
    by_cases h:t=i
    · subst h;simp
    · have:(t == i)=false:=by simpa using h
      rw [this,if_neg h];exact ih
theorem lkG_mk:∀ l,mkG l=lkG l
  | []=>rfl
  | (i, v) :: l=>by
    funext t
    have ih:=congrFun (lkG_mk l) t
    unfold mkG at ih ⊢
    rw [List.lookup_cons,lkG]
    by_cases h:t=i
    · subst h;simp
    · have:(t == i)=false:=by simpa using h
      rw [this,if_neg h];exact ih
theorem numd_get:∀ (xs:List Va) (i t:Nat),lkT (numd i xs) t=if i≤t then (xs[t - i]?).getD .dead else .dead
  | [],i,t=>by simp [numd,lkT]
  | x :: xs,i,t=>by
    rw [numd,lkT,numd_get xs (i+1) t]
    by_cases h:t=i
    · subst h;simp
    · by_cases h1:i+1≤t
      · rw [if_neg h,if_pos h1,if_pos (by omega)]
        have:t - i=(t - (i+1))+1:=by omega
        rw [this,List.getElem?_cons_succ]
      · rw [if_neg h,if_neg h1,if_neg (by omega)]
theorem start_lk (xs:List Va):start xs=⟨lkT (numd 0 xs),lkG []⟩:=by
  unfold start
  congr 1
  funext t
  rw [numd_get,if_pos (Nat.zero_le _)];rfl
def prL (T:Nat→Va):List Nat→List (Nat×Va)
  | []=>[]
  | t :: l=>(t,T t) :: prL T l
theorem pr_lk (keep:List Nat) (T:Nat→Va) (G:Hf):pr keep ⟨T,G⟩=⟨lkT (prL T keep),G⟩:=by
  unfold pr
  rw [lkT_mk]
  congr 2
  induction keep with
  | nil=>rfl
  | cons t l ih=>rw [List.map_cons,prL];exact congrArg _ ih
def gAll (γ:Bool) (ev:Od→Va):List Od→Prop
  | []=>True
  | x :: l=>gOk γ (ev x)∧gAll γ ev l
theorem gAll_mem {γ:Bool} {ev:Od→Va}:∀ {l:List Od},gAll γ ev l→∀ od,od∈l→gOk γ (ev od)
  | [],_,od,h=>by cases h
  | x :: l,h,od,hm=>by
    rcases List.mem_cons.1 hm with rfl | hm
    · exact h.1
    · exact gAll_mem h.2 od hm
section
variable (P:Program) (gl:Gl)
def evS (T:Nat→Va):Od→Va:=fun od=>stripV (evT gl T od)
def stO (o:Out) (d:Option Nat) (s:St):St:=⟨putT s.T d o.v,apG s.G o.ef⟩
def Go1 (o:Out) (d:Option Nat) (s:St) (next:St→Prop):Prop:=o.ob∧next (stO o d s)
def Go2 (γ:Bool) (o:Out) (d:Option Nat) (s:St) (next:St→Prop):Prop:=(γ=true→o.ob)∧(o.ef=[]∨γ=true)∧next ⟨putT s.T d (.gv γ o.v),apG s.G o.ef⟩
def nx (f:St→Prop):List Nat→List Nat→St→Prop:=fun _ _ s=>f s
def Gd (b:Option (Bool×Bool)) (w:Bool) (next:Bool→Prop):Prop :=
  match b with
  | some (g,p)=>next (g && (if w then p else !p))
  | none=>False
end
theorem Go1_mk {ob:Prop} {v:Va} {ef:List (Nat×Ent)} {d:Option Nat} {next:St→Prop}:Go1 ⟨ob,v,ef⟩ d s next=(ob∧next ⟨putT s.T d v,apG s.G ef⟩):=rfl
theorem Go2_mk {γ ob} {v:Va} {ef:List (Nat×Ent)} {d:Option Nat} {next:St→Prop}:Go2 γ ⟨ob,v,ef⟩ d s next=((γ=true→ob)∧(ef=[]∨γ=true)∧next ⟨putT s.T d (.gv γ v),apG s.G ef⟩):=rfl
theorem nx_mk (f:St→Prop) (a b:List Nat) (s:St):nx f a b s=f s:=rfl
theorem Gd_some {g p w:Bool} {next:Bool→Prop}:Gd (some (g,p)) w next=next (g && (if w then p else !p)):=rfl
section
variable (P:Program) (gl:Gl) (N:Nat) (k:List It) (R:St→Prop) (keep:List Nat)
def Rw:List Opn→St→Prop
  | [],s=>W P gl N k (pr keep s) R
  | ⟨d,g,.mv x⟩ :: l,s=>match g with
    | none=>Rw l ⟨putT s.T d (evT gl s.T x),s.G⟩
    | some (t,w)=>Gd (boolV (s.T t)) w fun γ=>gOk γ (evT gl s.T x)∧Rw l ⟨putT s.T d (.gv γ (stripV (evT gl s.T x))),s.G⟩
  | ⟨d,g,.pick x y z⟩ :: l,s=>match g with
    | none=>Go1 (semI P gl ch0 d (.pick x y z) (evT gl s.T) s.G) d s (Rw l)
    | some (t,w)=>Gd (boolV (s.T t)) w fun γ=>Go2 γ (semI P gl ch0 d (.pick x y z) (evT gl s.T) s.G) d s (Rw l)
  | ⟨d,g,.call f xs⟩ :: l,s=>CallStep P gl ⟨d,g,.call f xs⟩ s (nx (Rw l))
  | ⟨d,g,i⟩ :: l,s=>match g with
    | none=>gAll true (evT gl s.T) (opsOf i)∧Go1 (semI P gl ch0 d i (evS gl s.T) s.G) d s (Rw l)
    | some (t,w)=>if altI i then CallStep P gl ⟨d,some (t,w),i⟩ s (nx (Rw l)) else Gd (boolV (s.T t)) w fun γ=>gAll γ (evT gl s.T) (opsOf i)∧Go2 γ (semI P gl ch0 d i (evS gl s.T) s.G) d s (Rw l)
end
theorem okO_none {o:Opn} (hg:o.g=none) (h1:bareI o=true∨∀ od,od∈opsOf o.i→gOk true (evT gl s.T od)) (h2:(outO P gl ch0 o s).ob):okO P gl ch0 o s:=⟨true,by rw [hg];rfl,h1,fun _=>h2,fun _ x hx=>by cases hx⟩
theorem okO_some {o:Opn} {t:Nat} {w g p:Bool} (hg:o.g=some (t,w)) (hb:boolV (s.T t)=some (g,p)) (h1:bareI o=true∨∀ od,od∈opsOf o.i→gOk (g && (if w then p else !p)) (evT gl s.T od)) (h2:(g && (if w then p else !p))=true→(outO P gl ch0 o s).ob) (h3:(outO P gl ch0 o s).ef=[]∨(g && (if w then p else !p))=true):okO P gl ch0 o s :=
  ⟨_,by rw [hg];simp only [gval,hb],h1,h2,fun _ x hx=>by cases hx⟩
theorem Gd.of {b:Option (Bool×Bool)} {w:Bool} {next:Bool→Prop} (h:Gd b w next):∃ g p,b=some (g,p)∧next (g && (if w then p else !p)):=by
  unfold Gd at h
  split at h
  · exact ⟨_,_,rfl,h⟩
  · exact h.elim
theorem Rw.rg:∀ {q:List Opn} {s:St},Rw P gl N k R keep q s→Rg P gl N k R keep q s
  | [],s,h=>h
  | ⟨d, g, i⟩ :: l,s,h=>by
    have hnone:∀ (i:Ins),g=none→isCall i=false→(bareI ⟨d,g,i⟩=true∨∀ od,od∈opsOf i→gOk true (evT gl s.T od))→(outO P gl ch0 ⟨d,g,i⟩ s).ob→Rg P gl N k R keep l (stO (outO P gl ch0 ⟨d,g,i⟩ s) d s)→Rg P gl N k R keep (⟨d,g,i⟩ :: l) s:=by
      rintro i rfl hc h1 h2 h3
      unfold Rg
      exact ⟨ch0,okO_none rfl h1 h2,h3⟩
    have hsome:∀ (i:Ins) (t:Nat) (w g1 p:Bool),g=some (t,w)→(isCall i || altI i)=false→boolV (s.T t)=some (g1,p)→(bareI ⟨d,g,i⟩=true∨∀ od,od∈opsOf i→gOk (g1 && (if w then p else !p)) (evT gl s.T od))→((g1 && (if w then p else !p))=true→(outO P gl ch0 ⟨d,g,i⟩ s).ob) →
        ((outO P gl ch0 ⟨d,g,i⟩ s).ef=[]∨(g1 && (if w then p else !p))=true)→Rg P gl N k R keep l ⟨putT s.T d (.gv (g1 && (if w then p else !p)) (outO P gl ch0 ⟨d,g,i⟩ s).v),apG s.G (outO P gl ch0 ⟨d,g,i⟩ s).ef⟩→Rg P gl N k R keep (⟨d,g,i⟩ :: l) s:=by
      rintro i t w g1 p rfl hc hb h1 h2 h3 h4
      unfold Rg
      refine ⟨ch0,okO_some rfl hb h1 h2 h3,?_⟩
      have e:nextO P gl ch0 ⟨d,some (t,w),i⟩ s=⟨putT s.T d (.gv (g1 && (if w then p else !p)) (outO P gl ch0 ⟨d,some (t,w),i⟩ s).v),apG s.G (outO P gl ch0 ⟨d,some (t,w),i⟩ s).ef⟩:=by
        simp only [nextO,valO,gval,hb,Option.getD_some]
        rcases h3 with h3 | h3
        · simp only [h3,apG,ite_self];rfl
        · rw [h3];rfl
      rw [e];exact h4
    cases i with
    | mv x =>
      cases g with
      | none=>exact hnone (.mv x) rfl rfl (.inl rfl) trivial (Rw.rg h)
      | some p =>
        obtain ⟨t,w⟩:=p
        simp only [Rw] at h
        obtain ⟨g1,p,hb,h1,h2⟩:=Gd.of h
        refine hsome (.mv x) t w g1 p rfl rfl hb (.inr ?_) (fun _=>trivial) (.inl rfl) (Rw.rg h2)
        intro od hod
        simp only [opsOf,List.mem_singleton] at hod
        subst hod;exact h1
    | pick x y z =>
      cases g with
      | none=>exact hnone (.pick x y z) rfl rfl (.inl rfl) h.1 (Rw.rg h.2)
      | some p =>
        obtain ⟨t,w⟩:=p
        simp only [Rw] at h
        obtain ⟨g1,p,hb,h1,h2,h3⟩:=Gd.of h
        exact hsome (.pick x y z) t w g1 p rfl rfl hb (.inl rfl) h1 h2 (Rw.rg h3)
    | call f xs =>
      simp only [Rw] at h
      obtain ⟨c,h1,h2⟩:=h
      unfold Rg
      exact ⟨c,h1,Rw.rg h2⟩
    | _ =>
      cases g with
      | none =>
        simp only [Rw] at h
        obtain ⟨h1,h2,h3⟩:=h
        exact hnone _ rfl rfl (.inr (gAll_mem h1)) h2 (Rw.rg h3)
      | some p =>
        obtain ⟨t,w⟩:=p
        simp only [Rw] at h
        split at h
        · rename_i ha
          obtain ⟨c,h1,h2⟩:=h
          unfold Rg
          exact ⟨c,h1,Rw.rg h2⟩
        · rename_i ha
          obtain ⟨g1,p,hb,h1,h2,h3,h4⟩:=Gd.of h
          exact hsome _ t w g1 p rfl (by simpa [isCall] using ha) hb (.inr (gAll_mem h1)) h2 h3 (Rw.rg h4)
theorem Rw.walk {q:List Opn} (h:Rw P gl N k R keep q s):W P gl N (.c (.reg q none keep) :: k) s R:=h.rg.walk
theorem call_fun {f:Od} {xs:List Od} {d:Option Nat} {next:List Nat→List Nat→St→Prop} {fid:FuncId} {caps ys:List Va} {y:Va} (F:List Nat) (keepF:Bool) (hg:gAll true (evT gl s.T) (f :: xs)) (hf:fnV (evS gl s.T f)=some (fid,caps)) (hx:argsV F s.G 4 (xs.map (evS gl s.T)++caps)=some ys) (hfun:Fun P gl fid ys y)
    (hflat:keepF=false→flatV y=true) (hF:∀ i,i∈F→∀ e,s.G i=some e→(convR (conv F s.G 4) e.rows).isSome=true)
    (hn:next (touchO gl ⟨y,F,keepF,none,none,none⟩ ⟨d,none,.call f xs⟩ s.T) (if keepF then (F.filterMap fun i=>(frz F 4 s.G i).map fun e=>(i,e)).map (·.1) else []) ⟨putT s.T d y,if keepF then apG s.G (F.filterMap fun i=>(frz F 4 s.G i).map fun e=>(i,e)) else s.G⟩):CallStep P gl ⟨d,none,.call f xs⟩ s next:=by
  have hev:∀ x,evO gl s.T ⟨d,none,.call f xs⟩ x=evS gl s.T x:=fun x=>rfl
  have he:outO P gl ⟨y,F,keepF,none,none,none⟩ ⟨d,none,.call f xs⟩ s=⟨Fun P gl fid ys y∧(keepF=false→flatV y=true)∧(∀ i,i∈F→∀ e,s.G i=some e→(convR (conv F s.G 4) e.rows).isSome=true),y,if keepF then F.filterMap (fun i=>(frz F 4 s.G i).map fun e=>(i,e)) else []⟩:=by
    have h0:mOf f=none:=mOf_strip hf
    simp only [outO,semI,h0]
    have h1:fnV (evO gl s.T ⟨d,none,.call f xs⟩ f)=some (fid,caps):=hf
    have h2:argsV F s.G 4 (xs.map (evO gl s.T ⟨d,none,.call f xs⟩)++caps)=some ys:=hx
    rw [h1]
    simp only [h2,callS]
  refine ⟨⟨y,F,keepF,none,none,none⟩,⟨true,rfl,.inr (gAll_mem hg),fun _=>by rw [he];exact ⟨hfun,hflat,hF⟩,fun _ x hx=>by cases hx⟩,?_⟩
  simp only [nextO,valO,he]
  cases keepF with
  | true=>exact hn
  | false=>exact hn
theorem lendL_d (F:List Nat) (G:Hf) (f:Nat→Nat) (x:Sc):lendL F G f (.d x)=.d x:=rfl
theorem lendL_nils (F:List Nat) (G:Hf) (f:Nat→Nat):lendL F G f .nils=.d (.sl []):=rfl
theorem lendL_full (F:List Nat) (G:Hf) (f:Nat→Nat) (r:List (List Sc)):lendL F G f (.full r)=.d (.sl r):=rfl
theorem lendL_nn (F:List Nat) (G:Hf) (f:Nat→Nat) (r:List (List Sc)):lendL F G f (.nn r)=.d (.sl r):=rfl
theorem lendL_own (F:List Nat) (G:Hf) (f:Nat→Nat) (i n:Nat):lendL F G f (.own i n)=match conv F G 4 (.own i n) with | some s=>.d s | none=>.own (f i) n:=rfl
theorem lendL_ptr (F:List Nat) (G:Hf) (f:Nat→Nat) (i n r o:Nat):lendL F G f (.ptr i n r o)=match conv F G 4 (.ptr i n r o) with | some s=>.d s | none=>.ptr (f i) n r o:=rfl
theorem lendL_clo (F:List Nat) (G:Hf) (f:Nat→Nat) (g:FuncId) (l:List Lc):lendL F G f (.clo g l)=match conv F G 4 (.clo g l) with | some s=>.d s | none=>.clo g (l.map (renL f 3)):=rfl
theorem lendK_d (F:List Nat) (G:Hf) (K:List Nat) (x:Sc):lendK F G K (.d x)=true:=rfl
theorem lendK_nils (F:List Nat) (G:Hf) (K:List Nat):lendK F G K .nils=true:=rfl
theorem lendK_full (F:List Nat) (G:Hf) (K:List Nat) (r:List (List Sc)):lendK F G K (.full r)=true:=rfl
theorem lendK_nn (F:List Nat) (G:Hf) (K:List Nat) (r:List (List Sc)):lendK F G K (.nn r)=true:=rfl
theorem lendK_own (F:List Nat) (G:Hf) (K:List Nat) (i n:Nat):lendK F G K (.own i n)=match conv F G 4 (.own i n) with | some s=>true | none=>K.contains i:=rfl
theorem lendK_ptr (F:List Nat) (G:Hf) (K:List Nat) (i n r o:Nat):lendK F G K (.ptr i n r o)=match conv F G 4 (.ptr i n r o) with | some s=>true | none=>K.contains i:=rfl
theorem lendK_clo (F:List Nat) (G:Hf) (K:List Nat) (g:FuncId) (l:List Lc):lendK F G K (.clo g l)=match conv F G 4 (.clo g l) with | some s=>true | none=>refsC (refsIn K 3) l:=rfl
theorem lendKR_one (F:List Nat) (G:Hf) (K:List Nat) (r:List Lc):lendKR F G K [r]=(refsC (lendK F G K) r=true):=by simp [lendKR]
theorem renL_d (f:Nat→Nat) (n:Nat) (x:Sc):renL f n (.d x)=.d x:=by cases n <;> rfl
theorem renL_nils (f:Nat→Nat) (n:Nat):renL f n .nils=.nils:=by cases n <;> rfl
theorem renL_full (f:Nat→Nat) (n:Nat) (r:List (List Sc)):renL f n (.full r)=.full r:=by cases n <;> rfl
theorem renL_nn (f:Nat→Nat) (n:Nat) (r:List (List Sc)):renL f n (.nn r)=.nn r:=by cases n <;> rfl
theorem renL_own (f:Nat→Nat) (n i m:Nat):renL f n (.own i m)=.own (f i) m:=by cases n <;> rfl
theorem renL_ptr (f:Nat→Nat) (n i m r o:Nat):renL f n (.ptr i m r o)=.ptr (f i) m r o:=by cases n <;> rfl
theorem renL_clo (f:Nat→Nat) (n:Nat) (g:FuncId) (l:List Lc):renL f (n+1) (.clo g l)=.clo g (l.map (renL f n)):=rfl
theorem renR_one (g:Lc→Lc) (r:List Lc):renR g [r]=[r.map g]:=rfl
theorem renR_d (f:Nat→Nat) (n:Nat) (l:List (List Sc)):renR (renL f n) (l.map fun r=>r.map Lc.d)=l.map fun r=>r.map Lc.d:=by
  unfold renR
  rw [List.map_map]
  refine List.map_congr_left fun r _ => ?_
  rw [Function.comp_apply,List.map_map]
  refine List.map_congr_left fun x _=>renL_d f n x
theorem lendKR_d (F:List Nat) (G:Hf) (K:List Nat) (l:List (List Sc)):lendKR F G K (l.map fun r=>r.map Lc.d)=True:=by
  simp only [lendKR,eq_iff_iff,iff_true]
  have key:∀ q:List Sc,refsC (lendK F G K) (q.map Lc.d)=true:=by
    intro q
    induction q with
    | nil=>rfl
    | cons x l ih=>rw [List.map_cons,refsC,ih];rfl
  intro r hr
  obtain ⟨q,_,rfl⟩:=List.mem_map.1 hr
  exact key q
theorem renR_dl (F:List Nat) (G:Hf) (f:Nat→Nat) (l:List (List Sc)):renR (lendL F G f) (l.map fun r=>r.map Lc.d)=l.map fun r=>r.map Lc.d:=by
  unfold renR
  rw [List.map_map]
  refine List.map_congr_left fun r _ => ?_
  rw [Function.comp_apply,List.map_map]
  refine List.map_congr_left fun x _=>lendL_d F G f x
theorem refsR_one (K:List Nat) (r:List Lc):refsR K [r]=(refsC (refsIn K 4) r=true):=by simp [refsR]
theorem refsC_d (K:List Nat) (n:Nat):∀ l:List Sc,refsC (refsIn K n) (l.map Lc.d)=true
  | []=>rfl
  | x :: l=>by rw [List.map_cons,refsC,refsC_d K n l];simp only [refsIn,Bool.and_self]
theorem refsP_d (K:List Nat) (l:List (List Sc)):refsR K (l.map fun r=>r.map Lc.d)=True:=by
  simp only [refsR,eq_iff_iff,iff_true]
  intro r hr
  obtain ⟨q,_,rfl⟩:=List.mem_map.1 hr
  exact refsC_d K 4 q
theorem nodup_nil_:([]:List Nat).Nodup=True:=by simp
theorem nodup_cons_ (x:Nat) (l:List Nat):(x :: l).Nodup=(l.contains x=false∧l.Nodup):=by simp
theorem pins_mem (x:Nat) (l:List Nat):(x∈l)=(l.contains x=true):=by simp
def lendOk (F:List Nat) (h:Lend) (G:Hf) (vs:List Va):Prop :=
  lendF F G F∧lendA F G (h.l0.map fun p=>p.2.1) vs=true∧vs.map (renV (lendL F G (mapN (h.l0.map fun p=>(p.2.1,p.1)))))=h.xs ∧
      lendIn F G (mapN (h.l0.map fun p=>(p.2.1,p.1))) (h.l0.map fun p=>p.2.1) h.l0∧lendOut G h.l0 (h.l1.map fun p=>p.1) h.l1∧refsVa (h.l1.map fun p=>p.1) h.y=true∧pinsIn (h.l1.map fun p=>p.1) h.l0 ∧
      (h.l0.map fun p=>p.2.1).Nodup∧(h.l0.map fun p=>p.1).Nodup∧(h.l1.map fun p=>p.1).Nodup∧(h.l1.map fun p=>p.2.1).Nodup
def lendV (h:Lend):Va:=renV (renL (mapN (h.l1.map fun p=>(p.1,p.2.1))) 4) h.y
def lendE (F:List Nat) (G:Hf) (h:Lend):List (Nat×Ent):=F.filterMap (fun i=>(frz F 4 G i).map fun e=>(i,e))++(goneL h.l0++h.l1.map fun p=>(p.2.1,⟨p.2.2.st,renR (renL (mapN (h.l1.map fun p=>(p.1,p.2.1))) 4) p.2.2.rows,p.2.2.fz⟩))
theorem call_funG {f:Od} {xs:List Od} {d:Option Nat} {t:Nat} {w g p:Bool} {next:List Nat→List Nat→St→Prop} {fid:FuncId} {caps ys:List Va} {y:Va} (F:List Nat) (hb:boolV (s.T t)=some (g,p)) (hg:gAll (g && (if w then p else !p)) (evT gl s.T) (f :: xs)) (hf:fnV (evS gl s.T f)=some (fid,caps)) (hx:argsV F s.G 4 (xs.map (evS gl s.T)++caps)=some ys)
    (hfun:(g && (if w then p else !p))=true→Fun P gl fid ys y) (hflat:flatV y=true) (hF:∀ i,i∈F→∀ e,s.G i=some e→(convR (conv F s.G 4) e.rows).isSome=true)
    (hn:next (touchO gl ⟨y,F,false,none,none,none⟩ ⟨d,some (t,w),.call f xs⟩ s.T) [] ⟨putT s.T d (.gv (g && (if w then p else !p)) y),s.G⟩):CallStep P gl ⟨d,some (t,w),.call f xs⟩ s next:=by
  have he:outO P gl ⟨y,F,false,none,none,none⟩ ⟨d,some (t,w),.call f xs⟩ s=⟨Fun P gl fid ys y∧(false=false→flatV y=true)∧(∀ i,i∈F→∀ e,s.G i=some e→(convR (conv F s.G 4) e.rows).isSome=true),y,[]⟩:=by
    have h0:mOf f=none:=mOf_strip hf
    simp only [outO,semI,h0]
    have h1:fnV (evO gl s.T ⟨d,some (t,w),.call f xs⟩ f)=some (fid,caps):=hf
    have h2:argsV F s.G 4 (xs.map (evO gl s.T ⟨d,some (t,w),.call f xs⟩)++caps)=some ys:=hx
    rw [h1]
    simp only [h2,callS]
    rfl
  refine ⟨⟨y,F,false,none,none,none⟩,⟨_,by simp only [gval,hb],.inr (gAll_mem hg),fun h=>by rw [he];exact ⟨hfun h,fun _=>hflat,hF⟩,fun _ x hx=>by cases hx⟩,?_⟩
  simp only [nextO,valO,he,gval,hb,Option.getD_some,apG,ite_self]
  exact hn
section
variable {d:Option Nat} {g:Option (Nat×Bool)} {i:Ins} {l:List Opn}
theorem Rw_nil:Rw P gl N k R keep [] s=W P gl N k (pr keep s) R:=rfl
theorem Rw_mv (x:Od):Rw P gl N k R keep (⟨d,none,.mv x⟩ :: l) s=Rw P gl N k R keep l ⟨putT s.T d (evT gl s.T x),s.G⟩:=by simp only [Rw]
theorem Rw_mvg (x:Od) (t:Nat) (w:Bool):Rw P gl N k R keep (⟨d,some (t,w),.mv x⟩ :: l) s=Gd (boolV (s.T t)) w fun γ=>gOk γ (evT gl s.T x)∧Rw P gl N k R keep l ⟨putT s.T d (.gv γ (stripV (evT gl s.T x))),s.G⟩:=by simp only [Rw]
theorem Rw_pick (x y z:Od):Rw P gl N k R keep (⟨d,none,.pick x y z⟩ :: l) s=Go1 (semI P gl ch0 d (.pick x y z) (evT gl s.T) s.G) d s (Rw P gl N k R keep l):=by simp only [Rw]
theorem Rw_pickg (x y z:Od) (t:Nat) (w:Bool):Rw P gl N k R keep (⟨d,some (t,w),.pick x y z⟩ :: l) s=Gd (boolV (s.T t)) w fun γ=>Go2 γ (semI P gl ch0 d (.pick x y z) (evT gl s.T) s.G) d s (Rw P gl N k R keep l):=by simp only [Rw]
theorem Rw_call (f:Od) (xs:List Od):Rw P gl N k R keep (⟨d,g,.call f xs⟩ :: l) s=CallStep P gl ⟨d,g,.call f xs⟩ s (nx (Rw P gl N k R keep l)):=by simp only [Rw]
theorem Rw_op (hq:(quietI i || isCall i)=false):Rw P gl N k R keep (⟨d,none,i⟩ :: l) s=(gAll true (evT gl s.T) (opsOf i)∧Go1 (semI P gl ch0 d i (evS gl s.T) s.G) d s (Rw P gl N k R keep l)):=by
  cases i <;> first | (simp [quietI,isCall] at hq;done) | simp only [Rw]
theorem Rw_alt (t:Nat) (w:Bool) (ha:altI i=true):Rw P gl N k R keep (⟨d,some (t,w),i⟩ :: l) s=CallStep P gl ⟨d,some (t,w),i⟩ s (nx (Rw P gl N k R keep l)):=by
  cases i <;> first | (simp [altI] at ha;done) | simp [Rw,altI]
theorem Rw_opg (t:Nat) (w:Bool) (hq:(quietI i || isCall i || altI i)=false):Rw P gl N k R keep (⟨d,some (t,w),i⟩ :: l) s=Gd (boolV (s.T t)) w fun γ=>gAll γ (evT gl s.T) (opsOf i)∧Go2 γ (semI P gl ch0 d i (evS gl s.T) s.G) d s (Rw P gl N k R keep l):=by
  cases i <;> first | (simp [quietI,isCall,altI] at hq;done) | simp [Rw,altI]
end
end Go.Proofs.YtedibjgdangfnaaGreatDoor.V
end

section
namespace Go.Proofs.YtedibjgdangfnaaGreatDoor.V
open Go Go.RowKit
set_option linter.unusedVariables false
set_option linter.unusedSimpArgs false
variable {P:Program} {gl:Gl} {N:Nat} {s s1:St} {k:List It} {R:St→Prop} {keep:List Nat}
def dck (m:Nat) (done:List (List Nat×List Nat)) (fp wr:List Nat):Bool:=match fp,wr with
  | [],[]=>true
  | _,_=>dchk m 0 done fp wr
theorem meets_nil (a:List Nat):meets a []=false:=by unfold meets;simp
theorem nil_meets (a:List Nat):meets [] a=false:=rfl
theorem dchk_nil (m:Nat):∀ (done:List (List Nat×List Nat)) (j:Nat),dchk m j done [] []=true
  | [],j=>rfl
  | (f,w) :: l,j=>by simp only [dchk,meets_nil,nil_meets,dchk_nil m l (j+1)];simp
theorem dck_of {m:Nat} {done:List (List Nat×List Nat)} {fp wr:List Nat} (h:dck m done fp wr=true):dchk m 0 done fp wr=true:=by
  unfold dck at h
  split at h
  · exact dchk_nil m done 0
  · exact h
theorem dck_nil (m:Nat) (done:List (List Nat×List Nat)):dck m done [] []=true:=rfl
theorem dck_fp (m:Nat) (done:List (List Nat×List Nat)) (x:Nat) (fp wr:List Nat):dck m done (x :: fp) wr=dchk m 0 done (x :: fp) wr:=rfl
theorem dck_wr (m:Nat) (done:List (List Nat×List Nat)) (fp wr:List Nat) (x:Nat):dck m done fp (x :: wr)=dchk m 0 done fp (x :: wr):=by cases fp <;> rfl
def GoD1 (o:Out) (d:Option Nat) (s:St) (next:List Nat→St→Prop):Prop:=o.ob∧next (o.ef.map (·.1)) ⟨putT s.T d o.v,apG s.G o.ef⟩
def GoD2 (γ:Bool) (o:Out) (d:Option Nat) (s:St) (next:List Nat→St→Prop):Prop:=(γ=true→o.ob)∧(o.ef=[]∨γ=true)∧next (o.ef.map (·.1)) ⟨putT s.T d (.gv γ o.v),apG s.G o.ef⟩
theorem GoD1_mk {ob:Prop} {v:Va} {ef:List (Nat×Ent)} {d:Option Nat} {next:List Nat→St→Prop}:GoD1 ⟨ob,v,ef⟩ d s next=(ob∧next (ef.map (·.1)) ⟨putT s.T d v,apG s.G ef⟩):=rfl
theorem GoD2_mk {γ ob} {v:Va} {ef:List (Nat×Ent)} {d:Option Nat} {next:List Nat→St→Prop}:GoD2 γ ⟨ob,v,ef⟩ d s next=((γ=true→ob)∧(ef=[]∨γ=true)∧next (ef.map (·.1)) ⟨putT s.T d (.gv γ v),apG s.G ef⟩):=rfl
def touchS (gl:Gl) (T:Nat→Va) (d:Option Nat) (i:Ins):List Nat:=touchI ch0 d i (evS gl T)
section
variable (P:Program) (gl:Gl) (N:Nat) (k:List It) (R:St→Prop) (keep A:List Nat)
def nt (done:List (List Nat×List Nat)) (fp:List Nat) (F:List (List Nat×List Nat)→St→Prop):List Nat→St→Prop:=fun wr s=>dck (A.getD done.length 0) done fp wr=true∧F (done++[(fp,wr)]) s
def ntc (done:List (List Nat×List Nat)) (F:List (List Nat×List Nat)→St→Prop):List Nat→List Nat→St→Prop:=fun fp wr s=>dck (A.getD done.length 0) done fp wr=true∧F (done++[(fp,wr)]) s
def RwD:List Opn→List (List Nat×List Nat)→St→Prop
  | [],_,s=>W P gl N k (pr keep s) R
  | ⟨d,g,.mv x⟩ :: l,done,s=>match g with
    | none=>RwD l (done++[([],[])]) ⟨putT s.T d (evT gl s.T x),s.G⟩
    | some (t,w)=>Gd (boolV (s.T t)) w fun γ=>gOk γ (evT gl s.T x)∧RwD l (done++[([],[])]) ⟨putT s.T d (.gv γ (stripV (evT gl s.T x))),s.G⟩
  | ⟨d,g,.pick x y z⟩ :: l,done,s=>match g with
    | none=>GoD1 (semI P gl ch0 d (.pick x y z) (evT gl s.T) s.G) d s (nt A done [] (RwD l))
    | some (t,w)=>Gd (boolV (s.T t)) w fun γ=>GoD2 γ (semI P gl ch0 d (.pick x y z) (evT gl s.T) s.G) d s (nt A done [] (RwD l))
  | ⟨d,g,.call f xs⟩ :: l,done,s=>CallStep P gl ⟨d,g,.call f xs⟩ s (ntc A done (RwD l))
  | ⟨d,g,i⟩ :: l,done,s=>match g with
    | none=>gAll true (evT gl s.T) (opsOf i)∧GoD1 (semI P gl ch0 d i (evS gl s.T) s.G) d s (nt A done (touchS gl s.T d i) (RwD l))
    | some (t,w)=>if altI i then CallStep P gl ⟨d,some (t,w),i⟩ s (ntc A done (RwD l)) else Gd (boolV (s.T t)) w fun γ=>gAll γ (evT gl s.T) (opsOf i)∧GoD2 γ (semI P gl ch0 d i (evS gl s.T) s.G) d s (nt A done (touchS gl s.T d i) (RwD l))
end
theorem nt_mk (A:List Nat) (done:List (List Nat×List Nat)) (fp wr:List Nat) (F:List (List Nat×List Nat)→St→Prop) (s:St):nt A done fp F wr s=(dck (A.getD done.length 0) done fp wr=true∧F (done++[(fp,wr)]) s):=rfl
theorem ntc_mk (A:List Nat) (done:List (List Nat×List Nat)) (fp wr:List Nat) (F:List (List Nat×List Nat)→St→Prop) (s:St):ntc A done F fp wr s=(dck (A.getD done.length 0) done fp wr=true∧F (done++[(fp,wr)]) s):=rfl
theorem touch_quiet {d:Option Nat} {i:Ins} {ev:Od→Va} (h:quietI i=true):touchI ch0 d i ev=[]:=by
  cases i <;> first | rfl | (simp [quietI] at h)
theorem touch_strip {d:Option Nat} {g:Option (Nat×Bool)} {i:Ins} {T:Nat→Va} (h:quietI i=false):touchO gl ch0 ⟨d,g,i⟩ T=touchS gl T d i:=by
  unfold touchO touchS
  have:bareI ⟨d,g,i⟩=false:=by cases i <;> first | rfl | (simp [quietI] at h)
  have:evO gl T ⟨d,g,i⟩=evS gl T:=by funext od;unfold evO evS;rw [this];simp
  rw [this]
theorem RwD.rg {A:List Nat}:∀ {q:List Opn} {done:List (List Nat×List Nat)} {s:St},RwD P gl N k R keep A q done s→RgD P gl N k R keep A done q s
  | [],done,s,h=>h
  | ⟨d, g, i⟩ :: l,done,s,h=>by
    have hnone:∀ (i:Ins) (fp:List Nat),g=none→isCall i=false→(bareI ⟨d,g,i⟩=true∨∀ od,od∈opsOf i→gOk true (evT gl s.T od))→(outO P gl ch0 ⟨d,g,i⟩ s).ob→touchO gl ch0 ⟨d,g,i⟩ s.T=fp→dck (A.getD done.length 0) done fp ((outO P gl ch0 ⟨d,g,i⟩ s).ef.map (·.1))=true →
        RgD P gl N k R keep A (done++[(fp,(outO P gl ch0 ⟨d,g,i⟩ s).ef.map (·.1))]) l ⟨putT s.T d (outO P gl ch0 ⟨d,g,i⟩ s).v,apG s.G (outO P gl ch0 ⟨d,g,i⟩ s).ef⟩→RgD P gl N k R keep A done (⟨d,g,i⟩ :: l) s:=by
      rintro i fp rfl hc h1 h2 h4 h5 h3
      unfold RgD
      refine ⟨ch0,okO_none rfl h1 h2,?_⟩
      rw [h4]
      exact ⟨dck_of h5,h3⟩
    have hsome:∀ (i:Ins) (fp:List Nat) (t:Nat) (w g1 p:Bool),g=some (t,w)→(isCall i || altI i)=false→boolV (s.T t)=some (g1,p)→(bareI ⟨d,g,i⟩=true∨∀ od,od∈opsOf i→gOk (g1 && (if w then p else !p)) (evT gl s.T od))→((g1 && (if w then p else !p))=true→(outO P gl ch0 ⟨d,g,i⟩ s).ob) →
        ((outO P gl ch0 ⟨d,g,i⟩ s).ef=[]∨(g1 && (if w then p else !p))=true)→touchO gl ch0 ⟨d,g,i⟩ s.T=fp→dck (A.getD done.length 0) done fp ((outO P gl ch0 ⟨d,g,i⟩ s).ef.map (·.1))=true →
        RgD P gl N k R keep A (done++[(fp,(outO P gl ch0 ⟨d,g,i⟩ s).ef.map (·.1))]) l ⟨putT s.T d (.gv (g1 && (if w then p else !p)) (outO P gl ch0 ⟨d,g,i⟩ s).v),apG s.G (outO P gl ch0 ⟨d,g,i⟩ s).ef⟩→RgD P gl N k R keep A done (⟨d,g,i⟩ :: l) s:=by
      rintro i fp t w g1 p rfl hc hb h1 h2 h3 h5 h6 h4
      unfold RgD
      have e:nextO P gl ch0 ⟨d,some (t,w),i⟩ s=⟨putT s.T d (.gv (g1 && (if w then p else !p)) (outO P gl ch0 ⟨d,some (t,w),i⟩ s).v),apG s.G (outO P gl ch0 ⟨d,some (t,w),i⟩ s).ef⟩:=by
        simp only [nextO,valO,gval,hb,Option.getD_some]
        rcases h3 with h3 | h3
        · simp only [h3,apG,ite_self];rfl
        · rw [h3];rfl
      refine ⟨ch0,okO_some rfl hb h1 h2 h3,?_⟩
      rw [e,h5]
      exact ⟨dck_of h6,h4⟩
    cases i with
    | mv x =>
      cases g with
      | none=>exact hnone (.mv x) [] rfl rfl (.inl rfl) trivial (touch_quiet rfl) rfl (RwD.rg h)
      | some p =>
        obtain ⟨t,w⟩:=p
        simp only [RwD] at h
        obtain ⟨g1,p,hb,h1,h2⟩:=Gd.of h
        refine hsome (.mv x) [] t w g1 p rfl rfl hb (.inr ?_) (fun _=>trivial) (.inl rfl) (touch_quiet rfl) rfl (RwD.rg h2)
        intro od hod
        simp only [opsOf,List.mem_singleton] at hod
        subst hod;exact h1
    | pick x y z =>
      cases g with
      | none =>
        simp only [RwD] at h
        obtain ⟨h1,h2,h3⟩:=h
        exact hnone (.pick x y z) [] rfl rfl (.inl rfl) h1 (touch_quiet rfl) h2 (RwD.rg h3)
      | some p =>
        obtain ⟨t,w⟩:=p
        simp only [RwD] at h
        obtain ⟨g1,p,hb,h1,h2,h3,h4⟩:=Gd.of h
        exact hsome (.pick x y z) [] t w g1 p rfl rfl hb (.inl rfl) h1 h2 (touch_quiet rfl) h3 (RwD.rg h4)
    | call f xs =>
      simp only [RwD] at h
      obtain ⟨c,h1,h2,h3⟩:=h
      unfold RgD
      exact ⟨c,h1,dck_of h2,RwD.rg h3⟩
    | _ =>
      cases g with
      | none =>
        simp only [RwD] at h
        obtain ⟨h1,h2,h3,h4⟩:=h
        exact hnone _ _ rfl rfl (.inr (gAll_mem h1)) h2 (touch_strip rfl) h3 (RwD.rg h4)
      | some p =>
        obtain ⟨t,w⟩:=p
        simp only [RwD] at h
        split at h
        · rename_i ha
          obtain ⟨c,h1,h2,h3⟩:=h
          unfold RgD
          exact ⟨c,h1,dck_of h2,RwD.rg h3⟩
        · rename_i ha
          obtain ⟨g1,p,hb,h1,h2,h3,h4,h5⟩:=Gd.of h
          exact hsome _ _ t w g1 p rfl (by simpa [isCall] using ha) hb (.inr (gAll_mem h1)) h2 h3 (touch_strip rfl) h4 (RwD.rg h5)
theorem RwD.walk {A:List Nat} {q:List Opn} (h:RwD P gl N k R keep A q [] s):W P gl N (.c (.reg q (some A) keep) :: k) s R:=h.rg.walk
section
variable {d:Option Nat} {g:Option (Nat×Bool)} {i:Ins} {l:List Opn} {A:List Nat} {done:List (List Nat×List Nat)}
theorem RwD_nil:RwD P gl N k R keep A [] done s=W P gl N k (pr keep s) R:=rfl
theorem RwD_mv (x:Od):RwD P gl N k R keep A (⟨d,none,.mv x⟩ :: l) done s=RwD P gl N k R keep A l (done++[([],[])]) ⟨putT s.T d (evT gl s.T x),s.G⟩:=by simp only [RwD]
theorem RwD_mvg (x:Od) (t:Nat) (w:Bool):RwD P gl N k R keep A (⟨d,some (t,w),.mv x⟩ :: l) done s=Gd (boolV (s.T t)) w fun γ=>gOk γ (evT gl s.T x)∧RwD P gl N k R keep A l (done++[([],[])]) ⟨putT s.T d (.gv γ (stripV (evT gl s.T x))),s.G⟩:=by simp only [RwD]
theorem RwD_pick (x y z:Od):RwD P gl N k R keep A (⟨d,none,.pick x y z⟩ :: l) done s=GoD1 (semI P gl ch0 d (.pick x y z) (evT gl s.T) s.G) d s (nt A done [] (RwD P gl N k R keep A l)):=by simp only [RwD]
theorem RwD_pickg (x y z:Od) (t:Nat) (w:Bool):RwD P gl N k R keep A (⟨d,some (t,w),.pick x y z⟩ :: l) done s=Gd (boolV (s.T t)) w fun γ=>GoD2 γ (semI P gl ch0 d (.pick x y z) (evT gl s.T) s.G) d s (nt A done [] (RwD P gl N k R keep A l)):=by simp only [RwD]
theorem RwD_call (f:Od) (xs:List Od):RwD P gl N k R keep A (⟨d,g,.call f xs⟩ :: l) done s=CallStep P gl ⟨d,g,.call f xs⟩ s (ntc A done (RwD P gl N k R keep A l)):=by simp only [RwD]
theorem RwD_op (hq:(quietI i || isCall i)=false):RwD P gl N k R keep A (⟨d,none,i⟩ :: l) done s=(gAll true (evT gl s.T) (opsOf i)∧GoD1 (semI P gl ch0 d i (evS gl s.T) s.G) d s (nt A done (touchS gl s.T d i) (RwD P gl N k R keep A l))):=by
  cases i <;> first | (simp [quietI,isCall] at hq;done) | simp only [RwD]
theorem RwD_alt (t:Nat) (w:Bool) (ha:altI i=true):RwD P gl N k R keep A (⟨d,some (t,w),i⟩ :: l) done s=CallStep P gl ⟨d,some (t,w),i⟩ s (ntc A done (RwD P gl N k R keep A l)):=by
  cases i <;> first | (simp [altI] at ha;done) | simp [RwD,altI]
theorem RwD_opg (t:Nat) (w:Bool) (hq:(quietI i || isCall i || altI i)=false):RwD P gl N k R keep A (⟨d,some (t,w),i⟩ :: l) done s=Gd (boolV (s.T t)) w fun γ=>gAll γ (evT gl s.T) (opsOf i)∧GoD2 γ (semI P gl ch0 d i (evS gl s.T) s.G) d s (nt A done (touchS gl s.T d i) (RwD P gl N k R keep A l)):=by
  cases i <;> first | (simp [quietI,isCall,altI] at hq;done) | simp [RwD,altI]
end
theorem conv_d (F:List Nat) (G:Hf) (n:Nat) (x:Sc):conv F G n (.d x)=some x:=by cases n <;> rfl
theorem convC_d (F:List Nat) (G:Hf) (n:Nat):∀ l:List Sc,convC (conv F G n) (l.map Lc.d)=some l
  | []=>rfl
  | x :: l=>by rw [List.map_cons,convC,conv_d,convC_d F G n l]
theorem convR_d (F:List Nat) (G:Hf) (n:Nat):∀ l:List (List Sc),convR (conv F G n) (l.map fun r=>r.map Lc.d)=some l
  | []=>rfl
  | x :: l=>by rw [List.map_cons,convR,convC_d,convR_d F G n l]
theorem argsV_caps (F:List Nat) (G:Hf) (n:Nat):∀ l:List Sc,argsV F G n (l.map fun x=>.b (.s (.d x)))=some (l.map fun x=>.b (.s (.d x)))
  | []=>rfl
  | x :: l=>by rw [List.map_cons,argsV,conv_d,argsV_caps F G n l]
theorem i64_in {n:Int} (h0 : -9223372036854775808≤n) (h1:n≤9223372036854775807):IntKind.i64.wrap n=n:=IntWalk.i64_in n ⟨h0,h1⟩
theorem W.cut {κ:Type} (st':κ→St) (h1:∀ j,W P gl N k (st' j) R) {x:C} (h2:(∀ j,W P gl N k (st' j) R)→W P gl N (.c x :: k) s R):W P gl N (.c x :: k) s R:=h2 h1
theorem map_len {α:Type} (f:α→List Sc) (n:Nat) (h:∀ x,(f x).length=n) (l:List α):∀ r,r∈l.map f→r.length=n:=by
  intro r hr
  obtain ⟨x,_,rfl⟩:=List.mem_map.1 hr
  exact h x
theorem refs_d (K:List Nat) (n:Nat):∀ l:List Sc,refsC (refsIn K n) (l.map Lc.d)=true
  | []=>rfl
  | x :: l=>by rw [List.map_cons,refsC,refs_d K n l];simp only [refsIn,Bool.and_self]
theorem refsR_d (K:List Nat) (n:Nat) (l:List (List Sc)):(l.map fun r=>r.map Lc.d).all (refsC (refsIn K n))=true:=by
  simp [List.all_eq_true,refs_d]
theorem own_set {α:Type} (f:α→List Sc) (l:List α) (i:Nat) (x:α):((l.map f).map fun r=>r.map Lc.d).set i ((f x).map Lc.d)=((l.set i x).map f).map fun r=>r.map Lc.d:=by
  rw [List.map_set,List.map_set]
end Go.Proofs.YtedibjgdangfnaaGreatDoor.V
end

section
namespace Go.Proofs.YtedibjgdangfnaaGreatDoor.V
open Go Go.RowKit
set_option linter.unusedVariables false
set_option linter.unusedSimpArgs false
def RepRow (w:World) (l:List Sc) (cs:List Value):Prop:=cs.length=l.length∧∀ (j:Nat) sc,l[j]? = some sc→RepD w (fun k=>k < w.heap.size) sc (cs.getD j undef)
theorem RepRow.append {w:World} {l l2:List Sc} {cs:List Value} (n:Nat) (hn:l.length=n) (h:RepRow w l (cs.take n)) (h2:RepRow w l2 (cs.drop n)) (hl:n≤cs.length):RepRow w (l++l2) cs:=by
  refine ⟨?_,fun j sc hj => ?_⟩
  · have:=h2.1
    rw [List.length_drop] at this
    rw [List.length_append]
    omega
  · by_cases hjn:j < n
    · rw [List.getElem?_append_left (by omega)] at hj
      have:=h.2 j sc hj
      simpa [List.getD,List.getElem?_take,hjn] using this
    · rw [List.getElem?_append_right (by omega),hn] at hj
      have:=h2.2 (j - n) sc hj
      simpa [List.getD,List.getElem?_drop,show n+(j - n)=j by omega] using this
def OpS {α:Type} (P:Program) (t:TypeId) (n:Nat) (enc:α→List Sc) (W:α→Prop):Prop :=
  ∀ (H:Type) (enc':TypeId×Value→H) (w:World) (base fuel:Nat) (held:Bool) (cs:List Value) (x:DataW H×List MemPlace),DataW.trod enc' P w base (fun _=>true) held fuel t cs=some x→∃ a,W a∧(enc a).length=n∧RepRow w (enc a) cs
theorem repRow_one {w:World} {x:Sc} {v:Value} (h:RepD w (fun k=>k < w.heap.size) x v):RepRow w [x] [v]:=by
  refine ⟨rfl,fun j sc hj => ?_⟩
  cases j with
  | zero=>cases hj;exact h
  | succ j=>cases hj
abbrev ecI (k:IntKind) (n:Int):List Sc:=[.int k n]
abbrev ecB (b:Bool):List Sc:=[.bool b]
abbrev ecS (l:List UInt8):List Sc:=[.str l]
theorem ops_int {P:Program} {t:TypeId} {k:IntKind} (hu:P.underlying t=some (.int k)):OpS P t 1 (ecI k) (fun n=>(Lit.int k n).wf=true):=by
  intro H enc w base fuel held cs x h
  obtain ⟨n,rfl,_,hw⟩:=DataW.trod_int hu h
  exact ⟨n,hw,rfl,repRow_one (.int _ _)⟩
theorem ops_bool {P:Program} {t:TypeId} (hu:P.underlying t=some .bool):OpS P t 1 ecB (fun _=>True):=by
  intro H enc w base fuel held cs x h
  obtain ⟨n,rfl,_⟩:=DataW.trod_bool hu h
  exact ⟨n,trivial,rfl,repRow_one (.bool _)⟩
theorem ops_str {P:Program} {t:TypeId} (hu:P.underlying t=some .string):OpS P t 1 ecS (fun s=>s.length≤9223372036854775807):=by
  intro H enc w base fuel held cs x h
  obtain ⟨s,rfl,_,hw⟩:=DataW.trod_string hu h
  exact ⟨s.data.toList,by unfold maxLen at hw;exact hw,rfl,repRow_one (.str _)⟩
theorem cell?_lt {w:World} {a:Addr} {v:Value} (h:w.cell? a=some v):a.block < w.heap.size:=by
  unfold World.cell? at h
  cases hb:w.heap[a.block]? with
  | none=>rw [hb] at h;cases h
  | some q=>exact (Array.getElem?_eq_some_iff.1 hb).1
theorem rows_at {α:Type} {n:Nat} (h0:0 < n):∀ (rows:List (List α)),(∀ r,r∈rows→r.length=n)→∀ (j:Nat) (x:α),rows.flatten[j]? = some x→∃ row,rows[j / n]? = some row∧row[j % n]? = some x
  | [],_,j,x,hj=>by simp at hj
  | r :: l,h,j,x,hj=>by
    have hr:=h r (List.mem_cons_self ..)
    rw [List.flatten_cons] at hj
    by_cases hlt:j < n
    · rw [List.getElem?_append_left (by omega)] at hj
      exact ⟨r,by rw [Nat.div_eq_of_lt hlt];rfl,by rw [Nat.mod_eq_of_lt hlt];exact hj⟩
    · rw [List.getElem?_append_right (by omega),hr] at hj
      obtain ⟨row,h1,h2⟩:=rows_at h0 l (fun q hq=>h q (List.mem_cons_of_mem _ hq)) (j - n) x hj
      refine ⟨row,?_,?_⟩
      · rw [Nat.div_eq_sub_div h0 (by omega)]
        exact h1
      · rw [Nat.mod_eq_sub_mod (by omega)]
        exact h2
theorem ops_slice {α:Type} {P:Program} {t e:TypeId} {n:Nat} {encE:α→List Sc} {W:α→Prop} (hu:P.underlying t=some (.slice e)) (hc:P.cellsOf e=n) (h0:0 < n) (he:OpS P e n encE W):OpS P t 1 (fun l:List α=>[.sl (l.map encE)]) (fun l=>l.length≤9223372036854775807∧∀ x∈l,W x):=by
  intro H enc w base fuel held cs x h
  rcases DataW.trod_slice hu h with ⟨rfl,_⟩ | ⟨a,len,cap,elems,rest,m,_,rfl,_,_,hl,hm,hlen,hel,_⟩
  · exact ⟨[],⟨by simp,by simp⟩,rfl,repRow_one (.sl [] none 0 0 0 0 (fun _=>undef) (Nat.le_refl _) (fun _=>rfl) (by simp) (fun h=>absurd rfl h) (fun j sc hj=>by simp at hj) (fun j sc hj=>by simp at hj))⟩
  have each:∀ i:Fin len,∃ y:α,W y∧(encE y).length=n∧∃ c:List Value,RepRow w (encE y) c∧∀ j u,c[j]? = some u→w.cell? (a.add (i.val * n+j))=some u:=by
    intro i
    have h1:=hel i.val i.isLt
    rw [hc,List.getElem?_eq_getElem (by omega),Option.bind_eq_some_iff] at h1
    obtain ⟨cs',h2,h3⟩:=h1
    obtain ⟨y,hw,hn,hk⟩:=he H enc w base m held cs' _ h3
    obtain ⟨_,hl2,hc2⟩:=World.cells?_some h2
    refine ⟨y,hw,hn,cs',hk,fun j u hu => ?_⟩
    have hj:j < cs'.length:=(List.getElem?_eq_some_iff.1 hu).1
    have h4:=hc2 j (by omega)
    rw [Addr.add_add] at h4
    rw [h4,hu]
  have hL:((List.finRange len).map fun i=>(each i).choose).length=len:=by simp
  have hlen_rows:(((List.finRange len).map fun i=>(each i).choose).map encE).length=len:=by simp
  have hst:∀ r,r∈((List.finRange len).map fun i=>(each i).choose).map encE→r.length=n:=by
    intro r hr
    obtain ⟨y,hy,rfl⟩:=List.mem_map.1 hr
    obtain ⟨i,_,rfl⟩:=List.mem_map.1 hy
    exact (each i).choose_spec.2.1
  have cell:∀ j sc,(((List.finRange len).map fun i=>(each i).choose).map encE).flatten[j]? = some sc→∃ u,w.cell? (a.add j)=some u∧RepD w (fun k=>k < w.heap.size) sc u:=by
    intro j sc hj
    obtain ⟨row,h1,h2⟩:=rows_at h0 _ hst j sc hj
    rw [List.getElem?_map,Option.map_eq_some_iff] at h1
    obtain ⟨y,h3,rfl⟩:=h1
    rw [List.getElem?_map,Option.map_eq_some_iff] at h3
    obtain ⟨i,h4,rfl⟩:=h3
    obtain ⟨hlt,h5⟩:=List.getElem?_eq_some_iff.1 h4
    have hij:i.val=j / n:=by rw [← h5];simp
    obtain ⟨_,hn,c,hk,hcell⟩:=(each i).choose_spec
    have hjn:j % n < c.length:=by rw [hk.1,hn];exact Nat.mod_lt _ h0
    have h6:=hcell (j % n) c[j % n] (List.getElem?_eq_getElem hjn)
    rw [hij,show j / n * n+j % n=j by rw [Nat.mul_comm];exact Nat.div_add_mod j n] at h6
    have h7:=hk.2 (j % n) sc h2
    rw [List.getD,List.getElem?_eq_getElem hjn] at h7
    exact ⟨_,h6,h7⟩
  refine ⟨(List.finRange len).map fun i=>(each i).choose,⟨by rw [hL];unfold maxLen at hm;omega,fun y hy => ?_⟩,rfl,repRow_one ?_⟩
  · obtain ⟨i,_,rfl⟩:=List.mem_map.1 hy
    exact (each i).choose_spec.1
  · have hlen2:(Value.slice (some a) len cap)=.slice (some a) (((List.finRange len).map fun i=>(each i).choose).map encE).length cap:=by rw [hlen_rows]
    rw [hlen2]
    generalize hR:(((List.finRange len).map fun i=>(each i).choose).map encE)=rows at hst cell hlen_rows
    by_cases hne:rows=[]
    · subst hne
      exact .sl [] (some a) cap n 0 0 (fun _=>undef) (Nat.zero_le _) (fun h=>by cases h) hst (fun h=>absurd rfl h) (fun j sc hj=>by simp at hj) (fun j sc hj=>by simp at hj)
    · have hf:∃ sc,rows.flatten[0]? = some sc:=by
        cases rows with
        | nil=>exact absurd rfl hne
        | cons r l =>
          have:=hst r (List.mem_cons_self ..)
          cases r with
          | nil=>simp at this;omega
          | cons x r=>exact ⟨x,rfl⟩
      obtain ⟨sc0,hf⟩:=hf
      obtain ⟨u0,hu0,_⟩:=cell 0 sc0 hf
      have hsp:a.spot=none:=by
        rw [show a.add 0=a from rfl] at hu0
        unfold World.cell? at hu0
        cases hs:a.spot with
        | none=>rfl
        | some q=>rw [hs] at hu0;simp at hu0;split at hu0 <;> cases hu0
      obtain ⟨b,o,q⟩:=a
      simp only at hsp
      subst hsp
      have hadd:∀ j,(⟨b,o,none⟩:Addr).add j=⟨b,o+j,none⟩:=by
        intro j
        unfold Addr.add
        split
        · rename_i h;subst h;rfl
        · rfl
      refine .sl rows _ cap n b o (fun j=>(w.cell? ⟨b,o+j,none⟩).getD undef) (by omega) (fun h=>by cases h) hst (fun _=>⟨rfl,(cell?_lt hu0)⟩) (fun j sc hj => ?_) (fun j sc hj => ?_)
      · obtain ⟨u,h1,_⟩:=cell j sc hj
        rw [hadd] at h1
        rw [h1];rfl
      · obtain ⟨u,h1,h2⟩:=cell j sc hj
        rw [hadd] at h1
        simp only [h1,Option.getD_some]
        exact h2
def OpSF {α:Type} (P:Program) (fs:Array Field) (i o T:Nat) (enc:α→List Sc) (W:α→Prop):Prop :=
  ∀ (H:Type) (enc':TypeId×Value→H) (w:World) (base n:Nat) (held:Bool) (cs:List Value),cs.length=T →
    (∀ (j:Nat) (f:Field),fs[j]? = some f→∃ y,DataW.trod enc' P w base (fun _=>true) held n f.type ((cs.drop f.offset).take (P.cellsOf f.type))=some y)→∃ a,W a∧(enc a).length+o=T∧RepRow w (enc a) (cs.drop o)
theorem OpSF.one {α:Type} {P:Program} {fs:Array Field} {i o T n:Nat} {f:Field} {enc:α→List Sc} {W:α→Prop} (hf:fs[i]? = some f) (ho:f.offset=o) (hc:P.cellsOf f.type=n) (hT:T=o+n) (h:OpS P f.type n enc W):OpSF P fs i o T enc W:=by
  intro H enc' w base m held cs hl hall
  obtain ⟨y,hy⟩:=hall i f hf
  rw [ho,hc,List.take_of_length_le (by rw [List.length_drop];omega)] at hy
  obtain ⟨a,h1,h2,h3⟩:=h H enc' w base m held _ y hy
  exact ⟨a,h1,by omega,h3⟩
theorem OpSF.cons {α β:Type} {P:Program} {fs:Array Field} {i o T n:Nat} {f:Field} {enc:α→List Sc} {W:α→Prop} {enc2:β→List Sc} {W2:β→Prop} (hf:fs[i]? = some f) (ho:f.offset=o) (hc:P.cellsOf f.type=n) (h:OpS P f.type n enc W) (h2:OpSF P fs (i+1) (o+n) T enc2 W2) :
    OpSF P fs i o T (fun x:α×β=>enc x.1++enc2 x.2) (fun x=>W x.1∧W2 x.2):=by
  intro H enc' w base m held cs hl hall
  obtain ⟨y,hy⟩:=hall i f hf
  rw [ho,hc] at hy
  obtain ⟨a,hw,hn,hk⟩:=h H enc' w base m held _ y hy
  obtain ⟨b,hw2,hn2,hk2⟩:=h2 H enc' w base m held cs hl hall
  refine ⟨(a,b),⟨hw,hw2⟩,by simp only [List.length_append];omega,RepRow.append n hn hk ?_ ?_⟩
  · rw [List.drop_drop]
    exact hk2
  · rw [List.length_drop]
    omega
theorem ops_struct {α β:Type} {P:Program} {t:TypeId} {fs:Array Field} {T:Nat} {enc:α→List Sc} {W:α→Prop} {enc2:β→List Sc} {W2:β→Prop} (g:α→β) (hu:P.underlying t=some (.struct fs)) (hc:P.cellsOf t=T) (h:OpSF P fs 0 0 T enc W) (hg:∀ a,enc a=enc2 (g a)) (hW:∀ a,W a→W2 (g a)):OpS P t T enc2 W2:=by
  intro H enc' w base fuel held cs x hx
  obtain ⟨xs,n,_,_,hl,hxl,hall⟩:=DataW.trod_struct hu hx
  obtain ⟨a,hw,hn,hk⟩:=h H enc' w base n held cs (by omega) (fun j fl hj=>by
    have hj2:j < xs.length:=by rw [hxl];exact (Array.getElem?_eq_some_iff.1 hj).1
    exact ⟨xs[j],by rw [hall j fl hj,List.getElem?_eq_getElem hj2]⟩)
  rw [List.drop_zero] at hk
  exact ⟨g a,hW a hw,by rw [← hg];omega,by rw [← hg];exact hk⟩
def At (w:World) (x:Vb) (v:Value):Prop:=RepB w (fun k=>k < w.heap.size) (fun _=>none) (fun _=>none) x v
open Go.ChangeShapes Go.WideShapes in
theorem arg_struct {α:Type} {P:Program} {t:TypeId} {fs:Array Field} {n:Nat} {enc:α→List Sc} {W:α→Prop} {H:Type} {enc':TypeId×Value→H} {w:World} {base b0:Nat} {held:Bool} {v:Value} {dd:DataW H} {ps:List MemPlace} (hu:P.underlying t=some (.struct fs)) (ho:OpS P t n enc W) (hok:Value.okWide P w .any b0 t v) (h:DataW.Trod enc' P w base (fun _=>true) held t v dd ps):∃ a,At w (.agg ((enc a).map Lc.d)) v∧W a:=by
  have h2:∃ cs,v=.agg cs∧cs.size=P.cellsOf t∧Row.okWide P w .any b0 t cs:=by
    unfold Value.okWide at hok
    rw [hu] at hok
    exact hok
  obtain ⟨cs,rfl,_⟩:=h2
  obtain ⟨fuel,hf⟩:=h
  obtain ⟨a,hw,hn,hk⟩:=ho H enc' w base fuel held _ _ hf
  refine ⟨a,⟨cs,rfl,?_,fun j lc hj => ?_⟩,hw⟩
  · have:cs.toList.length=(enc a).length:=hk.1
    simpa using this
  · rw [List.getElem?_map,Option.map_eq_some_iff] at hj
    obtain ⟨sc,hj,rfl⟩:=hj
    have:RepD w _ sc (cs.toList.getD j undef):=hk.2 j sc hj
    refine .d _ _ ?_
    simpa [List.getD,Array.getD_eq_getD_getElem?] using this
open Go.ChangeMaps in
theorem arg_str {P:Program} {t:TypeId} {H:Type} {enc':TypeId×Value→H} {w:World} {base b0:Nat} {held:Bool} {v:Value} {dd:DataW H} {ps:List MemPlace} (hu:P.underlying t=some .string) (hok:Value.okWide P w .any b0 t v) (h:DataW.Trod enc' P w base (fun _=>true) held t v dd ps):∃ s:List UInt8,At w (.s (.d (.str s))) v∧dd=.lit (.string s)∧s.length≤9223372036854775807:=by
  obtain ⟨s,rfl,hd,_,hw⟩:=open_string hu hok h
  exact ⟨s.data.toList,.d _ _ (.str _),hd,by unfold maxLen at hw;exact hw⟩
def AtAll (w:World):List Vb→List Value→Prop
  | [],[]=>True
  | x :: l,v :: vs=>At w x v∧AtAll w l vs
  | _,_=>False
theorem AtAll.get {w:World}:∀ {xs:List Vb} {vs:List Value},AtAll w xs vs→vs.length=xs.length∧∀ (j:Nat) x,xs[j]? = some x→At w x (vs.getD j undef)
  | [],[],_=>⟨rfl,fun j x hj=>by cases hj⟩
  | [],_ :: _,h=>h.elim
  | _ :: _,[],h=>h.elim
  | x :: l,v :: vs,h=>by
    obtain ⟨h1,h2⟩:=AtAll.get h.2
    refine ⟨by simp [h1],fun j y hj => ?_⟩
    cases j with
    | zero=>cases hj;exact h.1
    | succ j=>exact h2 j y hj
section
variable {P:Program} {w:World} {S:Nat→Prop} {ρ:Nat→Option Nat} {G:Hf}
theorem repv_str {l:List UInt8} {v:Value} (h:RepV w S ρ G (.st l) v):v=strV l:=by
  cases h with
  | d _ _ h=>cases h with | str _=>rfl
theorem args1 {x:Va} {vs:Array Value} (h:RepA w S [x] vs):∃ v,vs = #[v]∧RepV w S (fun _=>none) (fun _=>none) x v:=by
  obtain ⟨vs⟩:=vs
  obtain ⟨hl,hr⟩:=h
  match vs,hl with
  | [v],_=>exact ⟨v,rfl,hr 0 x rfl⟩
theorem args2 {x y:Va} {vs:Array Value} (h:RepA w S [x,y] vs):∃ v u,vs = #[v,u]∧RepV w S (fun _=>none) (fun _=>none) x v∧RepV w S (fun _=>none) (fun _=>none) y u:=by
  obtain ⟨vs⟩:=vs
  obtain ⟨hl,hr⟩:=h
  match vs,hl with
  | [v,u],_=>exact ⟨v,u,rfl,hr 0 x rfl,hr 1 y rfl⟩
theorem args3 {x y z:Va} {vs:Array Value} (h:RepA w S [x,y,z] vs):∃ v u t,vs = #[v,u,t]∧RepV w S (fun _=>none) (fun _=>none) x v∧RepV w S (fun _=>none) (fun _=>none) y u∧RepV w S (fun _=>none) (fun _=>none) z t:=by
  obtain ⟨vs⟩:=vs
  obtain ⟨hl,hr⟩:=h
  match vs,hl with
  | [v,u,t],_=>exact ⟨v,u,t,rfl,hr 0 x rfl,hr 1 y rfl,hr 2 z rfl⟩
theorem Fun.flat {gl:Gl} {f:FuncId} {xs:List Va} {y:Va} {v:Value} (hc:callable P f=true) (hy:∀ w S,RepV w S (fun _=>none) (fun _=>none) y v) (h:∀ w S vs,RepA w S xs vs→Calls P f vs w fun e w1=>e=.returned v∧Below w.heap.size w w1):Fun P gl f xs y:=by
  refine ⟨hc,fun w S vs hS hgl hA=>(h w S vs hA).mono fun e w1 => ?_⟩
  rintro ⟨rfl,hb⟩
  exact ⟨v,S,rfl,fun _ h=>h,fun k hk=>⟨.inl hk,Nat.lt_of_lt_of_le (hS k hk) hb.size⟩,hy _ _,hb⟩
theorem of_str (l:List UInt8):∀ w S,RepV w S (fun _=>none) (fun _=>none) (.st l) (strV l):=fun _ _=>.d _ _ (.str _)
theorem of_int (k:IntKind) (n:Int):∀ w S,RepV w S (fun _=>none) (fun _=>none) (.i k n) (.int k n):=fun _ _=>.d _ _ (.int _ _)
theorem of_bool (b:Bool):∀ w S,RepV w S (fun _=>none) (fun _=>none) (.bo b) (.bool b):=fun _ _=>.d _ _ (.bool _)
end
end Go.Proofs.YtedibjgdangfnaaGreatDoor.V
end

section
namespace Go.Proofs.YtedibjgdangfnaaGreatDoor.V
open Go Go.RowKit
set_option linter.unusedVariables false
set_option linter.unusedSimpArgs false
end Go.Proofs.YtedibjgdangfnaaGreatDoor.V
end

section
namespace Go.Proofs.YtedibjgdangfnaaGreatDoor.V
open Go Go.RowKit
set_option linter.unusedVariables false
set_option linter.unusedSimpArgs false
abbrev Str:=List UInt8
section
variable {α β:Type}
def er (enc:α→List Sc) (l:List α):List (List Lc):=(l.map enc).map fun r=>r.map Lc.d
def ix (l:List α) (i:Int):Option α:=if 0≤i then l[i.toNat]? else none
def cut (l:List α) (a b:Int):List α:=(l.take b.toNat).drop a.toNat
def gd (p:Prop) [Decidable p] (k:Option α):Option α:=if p then k else none
def gx (γ:Bool) (k:Option α) (d:α):Option α:=if γ then k else some d
theorem gd_iff {p:Prop} [Decidable p] {k:Option α} {y:α}:gd p k=some y↔p∧k=some y:=by unfold gd;split <;> simp_all
theorem gx_iff {γ:Bool} {k:Option α} {d y:α} (h:gx γ k d=some y):γ=true→k=some y:=by intro hg;subst hg;exact h
theorem ix_iff {l:List α} {i:Int} {a:α}:ix l i=some a↔0≤i∧i < l.length∧l[i.toNat]? = some a:=by
  unfold ix
  by_cases h:0≤i
  · rw [if_pos h]
    refine ⟨fun h1=>⟨h,?_,h1⟩,fun h1=>h1.2.2⟩
    have:=(List.getElem?_eq_some_iff.1 h1).1
    omega
  · rw [if_neg h]
    exact ⟨fun h1=>(by cases h1),fun h1=>absurd h1.1 h⟩
theorem er_len {enc:α→List Sc} {l:List α}:(er enc l).length=l.length:=by simp [er]
theorem er_add {enc:α→List Sc} {l m:List α}:er enc l++er enc m=er enc (l++m):=by simp [er]
theorem er_get {enc:α→List Sc} {l:List α} {i:Int} {a:α} (h:ix l i=some a):(er enc l)[i.toNat]? = some ((enc a).map Lc.d):=by
  obtain ⟨_,_,h⟩:=ix_iff.1 h
  simp [er,h]
theorem er_getN {enc:α→List Sc} {l:List α} {i:Nat} {a:α} (h:ix l i=some a):(er enc l)[i]? = some ((enc a).map Lc.d):=er_get h
theorem ix_set {l:List α} {i:Int} {a a2:α} (h:ix l i=some a):ix (l.set i.toNat a2) i=some a2:=by
  obtain ⟨h0,h1,h2⟩:=ix_iff.1 h
  refine ix_iff.2 ⟨h0,by simpa using h1,?_⟩
  rw [List.getElem?_set_self (List.getElem?_eq_some_iff.1 h2).1]
theorem ix_setN {l:List α} {i:Nat} {a a2:α} (h:ix l i=some a):ix (l.set i a2) i=some a2:=ix_set h
theorem er_ren (f:Nat→Nat) (n:Nat) (enc:α→List Sc) (l:List α):renR (renL f n) (er enc l)=er enc l:=renR_d f n _
theorem er_lend (F:List Nat) (G:Hf) (f:Nat→Nat) (enc:α→List Sc) (l:List α):renR (lendL F G f) (er enc l)=er enc l:=renR_dl F G f _
theorem er_lendK (F:List Nat) (G:Hf) (K:List Nat) (enc:α→List Sc) (l:List α):lendKR F G K (er enc l)=True:=lendKR_d F G K _
theorem er_refsP (K:List Nat) (enc:α→List Sc) (l:List α):refsR K (er enc l)=True:=refsP_d K _
theorem row_get {enc:α→List Sc} {l:List α} {i:Int} {a:α} (h:ix l i=some a):(l.map enc).getD i.toNat []=enc a:=by
  obtain ⟨_,_,h⟩:=ix_iff.1 h
  simp [List.getD,h]
theorem er_conv (F:List Nat) (G:Hf) (n:Nat) (enc:α→List Sc) (l:List α):convR (conv F G n) (er enc l)=some (l.map enc):=convR_d F G n _
theorem er_refs (K:List Nat) (n:Nat) (enc:α→List Sc) (l:List α):(er enc l).all (refsC (refsIn K n))=true:=refsR_d K n _
theorem er_nil (enc:α→List Sc):er enc []=[]:=rfl
theorem map_st {enc:α→List Sc} {st:Nat} (hn:∀ a,(enc a).length=st) (l:List α):∀ r,r∈l.map enc→r.length=st:=map_len enc st hn l
theorem er_st {enc:α→List Sc} {st:Nat} (hn:∀ a,(enc a).length=st) (l:List α):∀ r,r∈er enc l→r.length=st:=by
  intro r hr
  obtain ⟨q,hq,rfl⟩:=List.mem_map.1 hr
  rw [List.length_map];exact map_st hn l q hq
end
def eI (k:IntKind) (n:Int):List Sc:=[.int k n]
def eB (b:Bool):List Sc:=[.bool b]
def eS (s:Str):List Sc:=[.str s]
def eX (x:Sc):List Sc:=[x]
def eL {α:Type} (enc:α→List Sc) (l:List α):List Sc:=[.sl (l.map enc)]
theorem eI_len (k:IntKind) (n:Int):(eI k n).length=1:=rfl
theorem eS_len (n:Str):(eS n).length=1:=rfl
theorem eX_len (n:Sc):(eX n).length=1:=rfl
def bn (c:UInt8):Int:=c.toNat
theorem bytes_rows (s:Str):s.map byteR=(s.map bn).map (eI .u8):=by simp [byteR,eI,bn]
section
variable {α:Type} {P:Program} {gl:Gl} {c:Ch} {d:Option Nat} {ev:Od→Va} {G:Hf} {enc:α→List Sc} {l m:List α} {a:α} {i:Int} {x y z:Od} {st b j:Nat} {fz:Bool}
theorem ite_t {β:Type} {p:Bool} {a b:β} (h:p=true):(if p=true then a else b)=a:=if_pos h
theorem ite_f {β:Type} {p:Bool} {a b:β} (h:p=false):(if p=true then a else b)=b:=if_neg (by simp [h])
def bAll (ev:Od→Va):List Od→Prop
  | []=>True
  | x :: l=>isB (ev x)∧bAll ev l
theorem bAll_get:∀ {xs:List Od},bAll ev xs→∀ p,p∈xs→isB (ev p)
  | x :: l,h,p,hp=>by
    rcases List.mem_cons.1 hp with rfl | hp
    · exact h.1
    · exact bAll_get h.2 p hp
theorem er_conv0 (enc:α→List Sc) (l:List α):convR (conv [] G 0) (er enc l)=some (l.map enc):=convR_d [] G 0 _
theorem rowsV_own {v:Va} (hv:v=.b (.s (.own j m.length))) (hG:G j=some ⟨st,er enc m,fz⟩):rowsV G v=some (m.map enc):=by
  subst hv
  simp only [rowsV,hG,er_len,if_true,er_conv0]
theorem newV_own {v:Va} (hv:v=.b (.s (.own j m.length))) (hG:G j=some ⟨st,er enc m,fz⟩):newV G false v=some (m.map enc):=by
  simp only [newV,Bool.false_eq_true,if_false]
  exact rowsV_own hv hG
theorem Go1.of {o o':Out} {s:St} {next:St→Prop} (h:o=o') (hn:Go1 o' d s next):Go1 o d s next:=h ▸ hn
theorem Go2.of {γ:Bool} {o o':Out} {s:St} {next:St→Prop} (h:o=o') (hn:Go2 γ o' d s next):Go2 γ o d s next:=h ▸ hn
theorem GoD1.of {o o':Out} {s:St} {next:List Nat→St→Prop} (h:o=o') (hn:GoD1 o' d s next):GoD1 o d s next:=h ▸ hn
theorem GoD2.of {γ:Bool} {o o':Out} {s:St} {next:List Nat→St→Prop} (h:o=o') (hn:GoD2 γ o' d s next):GoD2 γ o d s next:=h ▸ hn
theorem sem_iadr (hn:∀ a,(enc a).length=st) (h:ix l i=some a) (hx:ev x=.b (.s (.d (.sl (l.map enc))))) (hi:intV (ev y)=some i):semI P gl c d (.iadr (.sl st) x y) ev G=⟨True,.b (.s (.d (.ref (enc a) 0))),[]⟩:=by
  obtain ⟨h0,h1,_⟩:=ix_iff.1 h
  simp only [semI,hx,hi,row_get h,List.length_map]
  congr 1
  simp only [eq_iff_iff,iff_true]
  exact ⟨h0,h1,map_st hn l⟩
theorem sem_iadrO (h:ix l i=some a) (hx:ev x=.b (.s (.own j l.length))) (hi:intV (ev y)=some i) (hG:G j=some ⟨st,er enc l,fz⟩):semI P gl c d (.iadr (.sl st) x y) ev G=⟨True,.b (.s (.ptr j l.length i.toNat 0)),[]⟩:=by
  obtain ⟨h0,h1,_⟩:=ix_iff.1 h
  simp only [semI,hx,hi,hG,er_len]
  congr 1
  simp only [eq_iff_iff,iff_true]
  exact ⟨h0,h1,trivial,trivial⟩
theorem sem_idx {s:Str} {k:UInt8} (h:ix s i=some k) (hx:ev x=.b (.s (.d (.str s)))) (hi:intV (ev y)=some i):semI P gl c d (.idx .str x y) ev G=⟨True,.b (.s (.d (.int .u8 (bn k)))),[]⟩:=by
  obtain ⟨h0,h1,h2⟩:=ix_iff.1 h
  simp only [semI,hx,hi,Va.i]
  rw [show s.getD i.toNat 0=k by simp [List.getD,h2]]
  congr 1
  simp only [eq_iff_iff,iff_true]
  exact ⟨h0,h1⟩
theorem sem_slc {lo hi:Option Od} {p q:Int} (hn:∀ a,(enc a).length=st) (hx:ev x=.b (.s (.d (.sl (l.map enc))))) (h1:boundV ev 0 lo=some p) (h2:boundV ev l.length hi=some q):semI P gl c d (.slc (.sl st) x lo hi none) ev G=⟨0≤p∧p≤q∧q≤l.length,.b (.s (.d (.sl ((cut l p q).map enc)))),[]⟩:=by
  simp only [semI,hx,h1,List.length_map,h2,Option.map_none]
  simp only [cut,List.map_drop,List.map_take]
  congr 1
  exact propext ⟨fun h=>⟨h.1,h.2.1,h.2.2.1⟩,fun h=>⟨h.1,h.2.1,h.2.2,map_st hn l⟩⟩
theorem sem_app {str:Bool} (hn:∀ a,(enc a).length=st) (hx:ev x=.b (.s (.own j l.length))) (hG:G j=some ⟨st,er enc l,false⟩) (hy:newV G str (ev y)=some (m.map enc)) (hj:j < 1000000:=by decide):semI P gl c d (.app st b str x y) ev G=⟨(l.length+m.length) * b≤140737488355328,.b (.s (.own j (l++m).length)),[(j,⟨st,er enc (l++m),false⟩)]⟩:=by
  simp only [semI,hx,hG,hy,er_len,List.length_map,List.length_append]
  rw [← er_add]
  congr 1
  exact propext ⟨fun h=>h.2.2.2.2.2,fun h=>⟨hj,trivial,trivial,trivial,map_st hn m,h⟩⟩
theorem sem_mksl {z0:List Lc} {z1:α} {i0:Nat} {p q:Int} (hz:z0=(enc z1).map Lc.d) (hn:(enc z1).length=st) (h1:intV (ev x)=some p) (h2:intV (ev y)=some q) (hG:G i0=none):semI P gl c (some i0) (.mksl st b z0 x y) ev G=⟨0≤p∧p≤q∧q * b≤140737488355328∧q < 9223372036854775808,.b (.s (.own i0 (List.replicate p.toNat z1).length)),[(i0,⟨st,er enc (List.replicate p.toNat z1),false⟩)]⟩:=by
  subst hz
  simp only [semI,h1,h2,hG,er,List.map_replicate,List.length_replicate,List.length_map,hn]
  congr 1
  exact propext ⟨fun h=>⟨h.1,h.2.1,h.2.2.1,h.2.2.2.1⟩,fun h=>⟨h.1,h.2.1,h.2.2.1,h.2.2.2,trivial,trivial⟩⟩
theorem sem_bsl {i0:Nat} {xs:List Od} (hn:∀ a,(enc a).length=st) (hG:G i0=none) (hl:m.length=xs.length) (hm:xs.map (fun p=>cellsV (ev p))=er enc m) (hb:bAll ev xs):semI P gl c (some i0) (.bsl st xs) ev G=⟨True,.b (.s (.own i0 m.length)),[(i0,⟨st,er enc m,false⟩)]⟩:=by
  simp only [semI,hG,hm,hl]
  congr 1
  simp only [eq_iff_iff,iff_true]
  refine ⟨fun p hp=>⟨bAll_get hb p hp,?_⟩,trivial⟩
  have h1:cellsV (ev p)∈er enc m:=by rw [← hm];exact List.mem_map_of_mem hp
  exact er_st hn m _ h1
theorem sem_s2b {i0:Nat} {s:Str} (hx:ev x=.b (.s (.d (.str s)))) (hG:G i0=none):semI P gl c (some i0) (.cv .s2b x) ev G=⟨True,.b (.s (.own i0 (s.map bn).length)),[(i0,⟨1,er (eI .u8) (s.map bn),false⟩)]⟩:=by
  have e:er (eI .u8) (s.map bn)=s.map fun c=>(byteR c).map Lc.d:=by rw [er,← bytes_rows];simp
  simp only [semI,hx,hG,List.length_map,e]
theorem sem_store {a':α} {r o sz:Nat} {v:Va} (hx:ev x=.b (.s (.ptr j l.length r o))) (hG:G j=some ⟨st,er enc l,false⟩) (hr:(er enc l)[r]? = some ((enc a).map Lc.d)) (hv:ev y=v) (hb:isB v) (hs:(cellsV v).length=sz) (ho:o+sz≤(enc a).length) (hp:replaceAt ((enc a).map Lc.d) o (cellsV v)=(enc a').map Lc.d):semI P gl c d (.store sz x y) ev G=⟨True,.dead,[(j,⟨st,er enc (l.set r a'),false⟩)]⟩:=by
  have e:(er enc l).set r ((enc a').map Lc.d)=er enc (l.set r a'):=by rw [er,own_set];rfl
  simp only [semI,hx,hG,hr,hv,er_len,hp,e]
  congr 1
  simp only [eq_iff_iff,iff_true]
  exact ⟨trivial,trivial,by rw [List.length_map];exact ho,hb,hs⟩
end
def ea {α:Type} (enc:α→List Sc) (l:List α):List Lc:=(l.map enc).flatten.map Lc.d
section
variable {α:Type} {P:Program} {gl:Gl} {c:Ch} {d:Option Nat} {ev:Od→Va} {G:Hf} {enc:α→List Sc} {l m:List α} {a:α} {i:Int} {x y z:Od} {st b j N0 n0:Nat} {fz:Bool}
theorem ea_len (hn:∀ a,(enc a).length=st):(ea enc l).length=l.length * st:=by
  rw [ea,List.length_map,flatten_length_const (map_st hn l),List.length_map]
theorem ea_conv (F:List Nat) (G:Hf) (n:Nat) (enc:α→List Sc) (l:List α):convC (conv F G n) (ea enc l)=some ((l.map enc).flatten):=convC_d F G n _
theorem ea_nil (enc:α→List Sc):ea enc []=[]:=rfl
theorem ea_cons (enc:α→List Sc) (a:α) (l:List α):ea enc (a :: l)=(enc a).map Lc.d++ea enc l:=by simp [ea]
theorem ea_fold (enc:α→List Sc) (l:List α):((l.map enc).flatten).map Lc.d=ea enc l:=rfl
theorem ea_refs (K:List Nat) (n:Nat) (enc:α→List Sc) (l:List α):refsC (refsIn K n) (ea enc l)=true:=refs_d K n _
theorem flat_row (hn:∀ a,(enc a).length=st) (h:ix l i=some a):(((l.map enc).flatten).drop (i.toNat * st)).take st=enc a:=by
  obtain ⟨h0,h1,h2⟩:=ix_iff.1 h
  have e:l=l.take i.toNat++a :: l.drop (i.toNat+1):=by
    obtain ⟨hlt,rfl⟩:=List.getElem?_eq_some_iff.1 h2
    exact (List.take_append_drop i.toNat l).symm.trans (by rw [List.drop_eq_getElem_cons hlt])
  have e1:((l.take i.toNat).map enc).flatten.length=i.toNat * st:=by
    rw [flatten_length_const (map_st hn _),List.length_map,List.length_take]
    congr 1;omega
  conv=>lhs;rw [e]
  rw [List.map_append,List.flatten_append,List.map_cons,List.flatten_cons,List.drop_append_of_le_length (by omega),List.drop_of_length_le (by omega),List.nil_append,List.take_append_of_le_length (by rw [hn];omega),List.take_of_length_le (by rw [hn];omega)]
theorem ea_row (hn:∀ a,(enc a).length=st) (h:ix l i=some a):((ea enc l).drop (i.toNat * st)).take st=(enc a).map Lc.d:=by
  rw [ea,← List.map_drop,← List.map_take,flat_row hn h]
theorem ea_bound (hn:∀ a,(enc a).length=st) (h:ix l i=some a):i.toNat * st+st≤(ea enc l).length:=by
  obtain ⟨h0,h1,h2⟩:=ix_iff.1 h
  rw [ea_len hn,← Nat.succ_mul]
  exact Nat.mul_le_mul_right st (by omega)
theorem ea_cell {s:Sc} (hn:∀ a,(enc a).length=1) (h:ix l i=some a) (hs:enc a=[s]):(ea enc l).getD (i.toNat * 1) lcA=.d s:=by
  have:=ea_row hn h
  rw [hs] at this
  have h2:((ea enc l).drop (i.toNat * 1)).take 1=[.d s]:=this
  have h3:(((ea enc l).drop (i.toNat * 1)).take 1)[0]? = some (.d s):=by rw [h2];rfl
  simp only [List.getElem?_take,List.getElem?_drop,Nat.zero_lt_one,if_true,Nat.add_zero] at h3
  simp only [List.getD,h3,Option.getD_some]
theorem replace_mid {A B C B':List Lc} {n:Nat} (h:B'.length=B.length) (hn:n=A.length):replaceAt (A++(B++C)) n B'=A++(B'++C):=by
  subst hn
  unfold replaceAt
  rw [List.take_left,List.append_assoc,← List.append_assoc A B C,List.drop_left' (by rw [List.length_append,h])]
theorem ea_set {a':α} (hn:∀ a,(enc a).length=st) (h0:0≤i) (h1:i < l.length):replaceAt (ea enc l) (i.toNat * st) ((enc a').map Lc.d)=ea enc (l.set i.toNat a'):=by
  have hlt:i.toNat < l.length:=by omega
  have e:l=l.take i.toNat++l[i.toNat] :: l.drop (i.toNat+1):=(List.take_append_drop i.toNat l).symm.trans (by rw [List.drop_eq_getElem_cons hlt])
  have e2:l.set i.toNat a'=l.take i.toNat++a' :: l.drop (i.toNat+1):=by
    rw [List.set_eq_take_append_cons_drop,if_pos hlt]
  have e1:((l.take i.toNat).map enc).flatten.length=i.toNat * st:=by
    rw [flatten_length_const (map_st hn _),List.length_map,List.length_take]
    congr 1;omega
  have e3:(l.map enc).flatten=((l.take i.toNat).map enc).flatten++(enc l[i.toNat]++((l.drop (i.toNat+1)).map enc).flatten):=by
    conv=>lhs;rw [e]
    rw [List.map_append,List.flatten_append,List.map_cons,List.flatten_cons]
  have e4:ea enc l=((l.take i.toNat).map enc).flatten.map Lc.d++((enc l[i.toNat]).map Lc.d++((l.drop (i.toNat+1)).map enc).flatten.map Lc.d):=by
    rw [ea,e3,List.map_append,List.map_append]
  have e5:ea enc (l.set i.toNat a')=((l.take i.toNat).map enc).flatten.map Lc.d++((enc a').map Lc.d++((l.drop (i.toNat+1)).map enc).flatten.map Lc.d):=by
    rw [ea,e2,List.map_append,List.flatten_append,List.map_cons,List.flatten_cons,List.map_append,List.map_append]
  rw [e4,e5]
  exact replace_mid (by rw [List.length_map,List.length_map,hn,hn]) (by rw [List.length_map,e1])
theorem sem_newA {i0:Nat} {cells:List Lc} (hc:cells=ea enc l) (hN:cells.length=N0) (hG:G i0=none):semI P gl c (some i0) (.new cells) ev G=⟨True,.b (.s (.ptr i0 1 0 0)),[(i0,⟨N0,[ea enc l],false⟩)]⟩:=by
  subst hc
  simp only [semI,hG,hN]
def bAllP (ev:Od→Va):List (Nat×Nat×Od)→Prop
  | []=>True
  | x :: l=>isB (ev x.2.2)∧bAllP ev l
theorem bAllP_get:∀ {xs:List (Nat×Nat×Od)},bAllP ev xs→∀ p,p∈xs→isB (ev p.2.2)
  | x :: l,h,p,hp=>by
    rcases List.mem_cons.1 hp with rfl | hp
    · exact h.1
    · exact bAllP_get h.2 p hp
theorem sem_buildA {zero:List Lc} {parts:List (Nat×Nat×Od)} (h1:fillOb zero.length (parts.map fun p=>(p.1,p.2.1,cellsV (ev p.2.2)))) (h2:bAllP ev parts) (h3:fillL zero (parts.map fun p=>(p.1,p.2.1,cellsV (ev p.2.2)))=ea enc l):semI P gl c d (.build zero parts) ev G=⟨True,.b (.agg (ea enc l)),[]⟩:=by
  simp only [semI,h3]
  congr 1
  simp only [eq_iff_iff,iff_true]
  exact ⟨h1,bAllP_get h2⟩
theorem sem_idxA {g:Bool} (hg:g=true) (hn:∀ a,(enc a).length=st) (h:ix l i=some a) (h0:0 < st) (hx:ev x=.b (.agg (ea enc l))) (hi:intV (ev y)=some i):semI P gl c d (.idx (.arr n0 st g) x y) ev G=⟨l.length=n0,.b (.agg ((enc a).map Lc.d)),[]⟩:=by
  subst hg
  obtain ⟨k0,h1,h2⟩:=ix_iff.1 h
  simp only [semI,hx,hi,ea_len hn,if_true,ea_row hn h]
  congr 1
  exact propext ⟨fun h=>Nat.eq_of_mul_eq_mul_right h0 h.2.2.1,fun h=>⟨k0,by omega,by rw [h],fun h=>by cases h⟩⟩
theorem sem_iadrA (hx:ev x=.b (.s (.ptr j 1 0 0))) (hi:intV (ev y)=some i) {row:List Lc} (hG:G j=some ⟨N0,[row],fz⟩):semI P gl c d (.iadr (.ptr n0 st) x y) ev G=⟨0≤i∧i < n0,.b (.s (.ptr j 1 0 (i.toNat * st))),[]⟩:=by
  simp only [semI,hx,hi,hG,Nat.zero_add,List.length_cons,List.length_nil,and_true]
theorem sem_loadA1 {s:Sc} (hn:∀ a,(enc a).length=1) (h:ix l i=some a) (hs:enc a=[s]) (hx:ev x=.b (.s (.ptr j 1 0 (i.toNat * 1)))) (hG:G j=some ⟨N0,[ea enc l],fz⟩):semI P gl c d (.load false 1 x) ev G=⟨True,.b (.s (.d s)),[]⟩:=by
  have e:=ea_cell hn h hs
  have e2:=ea_bound hn h
  simp only [semI,hx,hG,List.getElem?_cons_zero,Bool.false_eq_true,if_false,e]
  congr 1
  simp only [eq_iff_iff,iff_true]
  exact ⟨rfl,e2⟩
theorem sem_loadW {g:Bool} (hg:g=true) (hn:∀ a,(enc a).length=st) (hN:n0 * st=N0) (hx:ev x=.b (.s (.ptr j 1 0 0))) (hG:G j=some ⟨N0,[ea enc l],fz⟩) (hl:l.length=n0):semI P gl c d (.load g N0 x) ev G=⟨True,.b (.agg (ea enc l)),[]⟩:=by
  subst hg
  have e:(ea enc l).length=N0:=by rw [ea_len hn,hl,hN]
  simp only [semI,hx,hG,List.getElem?_cons_zero,if_true,List.drop_zero,List.take_of_length_le (Nat.le_of_eq e),e]
  congr 1
  simp only [eq_iff_iff,iff_true]
  exact ⟨rfl,by omega⟩
theorem sem_storeA {a':α} (hn:∀ a,(enc a).length=st) (hx:ev x=.b (.s (.ptr j 1 0 (i.toNat * st)))) (hG:G j=some ⟨N0,[ea enc l],false⟩) (h0:0≤i) (h1:i < l.length) {v:Va} (hv:ev y=v) (hb:isB v) (hc:cellsV v=(enc a').map Lc.d):semI P gl c d (.store st x y) ev G=⟨True,.dead,[(j,⟨N0,[ea enc (l.set i.toNat a')],false⟩)]⟩:=by
  subst hv
  have e2:=ea_set (a':=a') hn h0 h1
  have e3:i.toNat * st+st≤(ea enc l).length:=by rw [ea_len hn,← Nat.succ_mul];exact Nat.mul_le_mul_right st (by omega)
  simp only [semI,hx,hG,List.getElem?_cons_zero,hc,e2,List.set_cons_zero,List.length_map,hn]
  congr 1
  simp only [eq_iff_iff,iff_true]
  exact ⟨rfl,trivial,e3,hb,trivial⟩
theorem sem_storeW (hn:∀ a,(enc a).length=st) (hN:n0 * st=N0) (hx:ev x=.b (.s (.ptr j 1 0 0))) (hG:G j=some ⟨N0,[ea enc l],false⟩) (hl:l.length=n0) (hv:ev y=.b (.agg (ea enc m))) (hm:m.length=n0):semI P gl c d (.store N0 x y) ev G=⟨True,.dead,[(j,⟨N0,[ea enc m],false⟩)]⟩:=by
  have e:(ea enc l).length=N0:=by rw [ea_len hn,hl,hN]
  have e1:(ea enc m).length=N0:=by rw [ea_len hn,hm,hN]
  have e2:replaceAt (ea enc l) 0 (ea enc m)=ea enc m:=by
    unfold replaceAt
    rw [List.take_zero,List.nil_append,List.drop_of_length_le (by omega),List.append_nil]
  simp only [semI,hx,hG,List.getElem?_cons_zero,hv,cellsV,e2,List.set_cons_zero,e1,isB]
  congr 1
  simp only [eq_iff_iff,iff_true]
  exact ⟨rfl,trivial,by omega,trivial,trivial⟩
end
section
variable {P:Program} {gl:Gl} {N:Nat} {s s1:St} {k:List It} {R:St→Prop}
theorem alt_ef {c:Ch} {d:Option Nat} {i:Ins} {ev:Od→Va} {G:Hf} (h:altI i=true):(semI P gl c d i ev G).ef=[]:=by
  cases i with
  | load g n x =>
    simp only [semI]
    split
    · split
      · split <;> rfl
      · rfl
    · rfl
    · rfl
  | iadr k x y =>
    simp only [semI]
    split
    · rfl
    · rfl
    · split <;> rfl
    · split <;> rfl
    · rfl
    · rfl
  | _=>simp [altI] at h
theorem ret_cellA {α:Type} {enc:α→List Sc} {l:List α} {F:List Nat} {t j st n0 N0:Nat} {fz:Bool} (hn:∀ a,(enc a).length=st) (hN:n0 * st=N0) (hT:s.T t=.b (.s (.ptr j 1 0 0))) (hG:s.G j=some ⟨N0,[ea enc l],fz⟩) (hl:l.length=n0):Ret P gl F [.c t true N0] (.b (.agg (ea enc l))) s:=by
  have e:semI P gl ch0 none (.load true N0 (.t t)) (evT gl s.T) s.G=⟨True,.b (.agg (ea enc l)),[]⟩:=sem_loadW rfl hn hN hT hG hl
  refine ⟨⟨by rw [rvOut,e];trivial,trivial⟩,?_⟩
  show (convB F s.G (rvOut P gl s (.c t true N0)).v).map Va.b=_
  rw [rvOut,e]
  simp only [convB,ea_conv,Option.map_some]
  rfl
theorem call_alt {i:Ins} {d:Option Nat} {t:Nat} {w g p:Bool} {v:Va} {next:List Nat→List Nat→St→Prop} (ha:altI i=true) (hb:boolV (s.T t)=some (g,p)) (hg:gAll (g && (if w then p else !p)) (evT gl s.T) (opsOf i))
    (h:(g && (if w then p else !p))=true→∃ ob:Prop,semI P gl ch0 d i (evS gl s.T) s.G=⟨ob,v,[]⟩∧ob) (hn:next (touchO gl ⟨.dead,[],false,none,some v,none⟩ ⟨d,some (t,w),i⟩ s.T) [] ⟨putT s.T d (.gv (g && (if w then p else !p)) v),s.G⟩):CallStep P gl ⟨d,some (t,w),i⟩ s next:=by
  have hc:∀ c c1:Ch,∀ G ev,semI P gl c d i ev G=semI P gl c1 d i ev G:=by
    intro c c1 G ev
    cases i <;> first | rfl | (simp [altI] at ha;done)
  have hev:evO gl s.T ⟨d,some (t,w),i⟩=evS gl s.T:=by
    funext od
    unfold evO evS
    have:bareI ⟨d,some (t,w),i⟩=false:=by cases i <;> first | rfl | (simp [altI] at ha;done)
    rw [this];simp
  have ho:outO P gl ⟨.dead,[],false,none,some v,none⟩ ⟨d,some (t,w),i⟩ s=semI P gl ch0 d i (evS gl s.T) s.G:=by
    unfold outO;rw [hev];exact hc _ _ _ _
  have hef:=alt_ef (P:=P) (gl:=gl) (c:=ch0) (d:=d) (ev:=evS gl s.T) (G:=s.G) ha
  refine ⟨⟨.dead,[],false,none,some v,none⟩,⟨_,by simp only [gval,hb],.inr (gAll_mem hg),fun hγ => ?_,fun hγ x hx => ?_⟩,?_⟩
  · obtain ⟨ob,h1,h2⟩:=h hγ
    rw [ho,h1];exact h2
  · cases hx
    obtain ⟨ob,h1,h2⟩:=h hγ
    rw [ho,h1]
  · rw [ho,hef]
    simp only [nextO,valO,ho,hef,gval,hb,Option.getD_some,apG,ite_self]
    exact hn
theorem call_inv {name:String} {x:Od} {xs:List Od} {d:Option Nat} {next:List Nat→List Nat→St→Prop} {sc:Sc} {ys:List Va} {y:Va} (F:List Nat) (keepF:Bool) (hg:gAll true (evT gl s.T) (.m name :: x :: xs)) (hf:evS gl s.T x=.b (.s (.d sc))) (hx:argsV F s.G 4 (xs.map (evS gl s.T))=some ys) (hfun:Inv P gl name sc ys y)
    (hflat:keepF=false→flatV y=true) (hF:∀ i,i∈F→∀ e,s.G i=some e→(convR (conv F s.G 4) e.rows).isSome=true)
    (hn:next (touchO gl ⟨y,F,keepF,none,none,none⟩ ⟨d,none,.call (.m name) (x :: xs)⟩ s.T) (if keepF then (F.filterMap fun i=>(frz F 4 s.G i).map fun e=>(i,e)).map (·.1) else []) ⟨putT s.T d y,if keepF then apG s.G (F.filterMap fun i=>(frz F 4 s.G i).map fun e=>(i,e)) else s.G⟩):CallStep P gl ⟨d,none,.call (.m name) (x :: xs)⟩ s next:=by
  have he:outO P gl ⟨y,F,keepF,none,none,none⟩ ⟨d,none,.call (.m name) (x :: xs)⟩ s=⟨Inv P gl name sc ys y∧(keepF=false→flatV y=true)∧(∀ i,i∈F→∀ e,s.G i=some e→(convR (conv F s.G 4) e.rows).isSome=true),y,if keepF then F.filterMap (fun i=>(frz F 4 s.G i).map fun e=>(i,e)) else []⟩:=by
    have h1:evO gl s.T ⟨d,none,.call (.m name) (x :: xs)⟩ x=.b (.s (.d sc)):=hf
    have h2:argsV F s.G 4 (xs.map (evO gl s.T ⟨d,none,.call (.m name) (x :: xs)⟩))=some ys:=hx
    simp only [outO,semI,mOf,List.map_cons,h1,h2]
  refine ⟨⟨y,F,keepF,none,none,none⟩,⟨true,rfl,.inr (gAll_mem hg),fun _=>by rw [he];exact ⟨hfun,hflat,hF⟩,fun _ x hx=>by cases hx⟩,?_⟩
  simp only [nextO,valO,he]
  cases keepF with
  | true=>exact hn
  | false=>exact hn
theorem W.cdef {x y:C} (h:x=y) (hw:W P gl N (.c y :: k) s R):W P gl N (.c x :: k) s R:=h ▸ hw
theorem W.cut1 (s':St) {x:C} (h1:W P gl N k s' R) (h2:W P gl N k s' R→W P gl N (.c x :: k) s R):W P gl N (.c x :: k) s R:=h2 h1
def Br (γ:Bool) (f:St→Prop) (s0:St) (B:Bool→Prop):Prop:=(γ=false→f s0)∧(γ=true→B true)
def GoU (b:Bool) (A:Prop) (o:Out) (d:Option Nat) (s:St) (next:List Nat→St→Prop):Prop:=A∧o.ob∧next (o.ef.map (·.1)) ⟨putT s.T d (.gv true o.v),apG s.G o.ef⟩
theorem Br_yes {f:St→Prop} {s0:St} {B:Bool→Prop}:Br true f s0 B=B true:=by simp [Br]
theorem Br_no {f:St→Prop} {s0:St} {B:Bool→Prop}:Br false f s0 B=f s0:=by simp [Br]
theorem GoU_mk {A ob:Prop} {v:Va} {ef:List (Nat×Ent)} {d:Option Nat} {next:List Nat→St→Prop}:GoU true A ⟨ob,v,ef⟩ d s next=(A∧ob∧next (ef.map (·.1)) ⟨putT s.T d (.gv true v),apG s.G ef⟩):=rfl
theorem GoU.of {A:Prop} {o o':Out} {d:Option Nat} {next:List Nat→St→Prop} (h:o=o') (hn:GoU true A o' d s next):GoU true A o d s next:=h ▸ hn
def nxw (f:St→Prop):List Nat→St→Prop:=fun _ s=>f s
theorem nxw_mk (f:St→Prop) (a:List Nat) (s:St):nxw f a s=f s:=rfl
section
variable (P:Program) (gl:Gl) (N:Nat) (k:List It) (R:St→Prop) (keep:List Nat)
def Rs:List Opn→St→Prop
  | [],s=>W P gl N k (pr keep s) R
  | ⟨d,g,.mv x⟩ :: l,s=>match g with
    | none=>Rs l ⟨putT s.T d (evT gl s.T x),s.G⟩
    | some (t,w)=>Gd (boolV (s.T t)) w fun γ=>Br γ (Rs l) ⟨putT s.T d (.gv false .dead),s.G⟩ fun b=>GoU b (gOk true (evT gl s.T x)) ⟨True,stripV (evT gl s.T x),[]⟩ d s (nxw (Rs l))
  | ⟨d,g,.call f xs⟩ :: l,s=>match g with
    | none=>CallStep P gl ⟨d,none,.call f xs⟩ s (nx (Rs l))
    | some (t,w)=>Gd (boolV (s.T t)) w fun γ=>Br γ (Rs l) ⟨putT s.T d (.gv false .dead),s.G⟩ fun _=>CallStep P gl ⟨d,some (t,w),.call f xs⟩ s (nx (Rs l))
  | ⟨d,g,.pick x y z⟩ :: l,s=>match g with
    | none=>Go1 (semI P gl ch0 d (.pick x y z) (evT gl s.T) s.G) d s (Rs l)
    | some (t,w)=>Gd (boolV (s.T t)) w fun γ=>Br γ (Rs l) ⟨putT s.T d (.gv false .dead),s.G⟩ fun b=>GoU b True (semI P gl ch0 d (.pick x y z) (evT gl s.T) s.G) d s (nxw (Rs l))
  | ⟨d,g,i⟩ :: l,s=>match g with
    | none=>gAll true (evT gl s.T) (opsOf i)∧Go1 (semI P gl ch0 d i (evS gl s.T) s.G) d s (Rs l)
    | some (t,w)=>Gd (boolV (s.T t)) w fun γ=>Br γ (Rs l) ⟨putT s.T d (.gv false .dead),s.G⟩ fun b=>GoU b (gAll true (evT gl s.T) (opsOf i)) (semI P gl ch0 d i (evS gl s.T) s.G) d s (nxw (Rs l))
variable (A:List Nat)
def RsD:List Opn→List (List Nat×List Nat)→St→Prop
  | [],_,s=>W P gl N k (pr keep s) R
  | ⟨d,g,.mv x⟩ :: l,done,s=>match g with
    | none=>RsD l (done++[([],[])]) ⟨putT s.T d (evT gl s.T x),s.G⟩
    | some (t,w)=>Gd (boolV (s.T t)) w fun γ=>Br γ (RsD l (done++[([],[])])) ⟨putT s.T d (.gv false .dead),s.G⟩ fun b=>GoU b (gOk true (evT gl s.T x)) ⟨True,stripV (evT gl s.T x),[]⟩ d s (nxw (RsD l (done++[([],[])])))
  | ⟨d,g,.call f xs⟩ :: l,done,s=>match g with
    | none=>CallStep P gl ⟨d,none,.call f xs⟩ s (ntc A done (RsD l))
    | some (t,w)=>Gd (boolV (s.T t)) w fun γ=>Br γ (nt A done (touchO gl ⟨.dead,[],false,none,some .dead,none⟩ ⟨d,some (t,w),.call f xs⟩ s.T) (RsD l) []) ⟨putT s.T d (.gv false .dead),s.G⟩ fun _=>CallStep P gl ⟨d,some (t,w),.call f xs⟩ s (ntc A done (RsD l))
  | ⟨d,g,.pick x y z⟩ :: l,done,s=>match g with
    | none=>GoD1 (semI P gl ch0 d (.pick x y z) (evT gl s.T) s.G) d s (nt A done [] (RsD l))
    | some (t,w)=>Gd (boolV (s.T t)) w fun γ=>Br γ (RsD l (done++[([],[])])) ⟨putT s.T d (.gv false .dead),s.G⟩ fun b=>GoU b True (semI P gl ch0 d (.pick x y z) (evT gl s.T) s.G) d s (nt A done [] (RsD l))
  | ⟨d,g,i⟩ :: l,done,s=>match g with
    | none=>gAll true (evT gl s.T) (opsOf i)∧GoD1 (semI P gl ch0 d i (evS gl s.T) s.G) d s (nt A done (touchS gl s.T d i) (RsD l))
    | some (t,w)=>Gd (boolV (s.T t)) w fun γ=>Br γ (fun s'=>nt A done (touchS gl s.T d i) (RsD l) ((semI P gl ch0 d i (evS gl s.T) s.G).ef.map (·.1)) s') ⟨putT s.T d (.gv false .dead),s.G⟩ fun b=>GoU b (gAll true (evT gl s.T) (opsOf i)) (semI P gl ch0 d i (evS gl s.T) s.G) d s (nt A done (touchS gl s.T d i) (RsD l))
end
section
variable {keep A:List Nat} {d:Option Nat} {g:Option (Nat×Bool)} {i:Ins} {l:List Opn} {done:List (List Nat×List Nat)}
theorem boolV_dead:boolV (.gv false .dead)=some (false,false):=rfl
theorem Rs_nil:Rs P gl N k R keep [] s=W P gl N k (pr keep s) R:=rfl
theorem Rs_mv (x:Od):Rs P gl N k R keep (⟨d,none,.mv x⟩ :: l) s=Rs P gl N k R keep l ⟨putT s.T d (evT gl s.T x),s.G⟩:=by simp only [Rs]
theorem Rs_mvg (x:Od) (t:Nat) (w:Bool):Rs P gl N k R keep (⟨d,some (t,w),.mv x⟩ :: l) s=Gd (boolV (s.T t)) w fun γ=>Br γ (Rs P gl N k R keep l) ⟨putT s.T d (.gv false .dead),s.G⟩ fun b=>GoU b (gOk true (evT gl s.T x)) ⟨True,stripV (evT gl s.T x),[]⟩ d s (nxw (Rs P gl N k R keep l)):=by simp only [Rs]
theorem Rs_pick (x y z:Od):Rs P gl N k R keep (⟨d,none,.pick x y z⟩ :: l) s=Go1 (semI P gl ch0 d (.pick x y z) (evT gl s.T) s.G) d s (Rs P gl N k R keep l):=by simp only [Rs]
theorem Rs_pickg (x y z:Od) (t:Nat) (w:Bool):Rs P gl N k R keep (⟨d,some (t,w),.pick x y z⟩ :: l) s=Gd (boolV (s.T t)) w fun γ=>Br γ (Rs P gl N k R keep l) ⟨putT s.T d (.gv false .dead),s.G⟩ fun b=>GoU b True (semI P gl ch0 d (.pick x y z) (evT gl s.T) s.G) d s (nxw (Rs P gl N k R keep l)):=by simp only [Rs]
theorem Rs_call (f:Od) (xs:List Od):Rs P gl N k R keep (⟨d,none,.call f xs⟩ :: l) s=CallStep P gl ⟨d,none,.call f xs⟩ s (nx (Rs P gl N k R keep l)):=by simp only [Rs]
theorem Rs_callg (f:Od) (xs:List Od) (t:Nat) (w:Bool):Rs P gl N k R keep (⟨d,some (t,w),.call f xs⟩ :: l) s=Gd (boolV (s.T t)) w fun γ=>Br γ (Rs P gl N k R keep l) ⟨putT s.T d (.gv false .dead),s.G⟩ fun _=>CallStep P gl ⟨d,some (t,w),.call f xs⟩ s (nx (Rs P gl N k R keep l)):=by simp only [Rs]
theorem Rs_op (hq:(quietI i || isCall i)=false):Rs P gl N k R keep (⟨d,none,i⟩ :: l) s=(gAll true (evT gl s.T) (opsOf i)∧Go1 (semI P gl ch0 d i (evS gl s.T) s.G) d s (Rs P gl N k R keep l)):=by
  cases i <;> first | (simp [quietI,isCall] at hq;done) | simp only [Rs]
theorem Rs_opg (t:Nat) (w:Bool) (hq:(quietI i || isCall i)=false):Rs P gl N k R keep (⟨d,some (t,w),i⟩ :: l) s=Gd (boolV (s.T t)) w fun γ=>Br γ (Rs P gl N k R keep l) ⟨putT s.T d (.gv false .dead),s.G⟩ fun b=>GoU b (gAll true (evT gl s.T) (opsOf i)) (semI P gl ch0 d i (evS gl s.T) s.G) d s (nxw (Rs P gl N k R keep l)):=by
  cases i <;> first | (simp [quietI,isCall] at hq;done) | simp only [Rs]
theorem RsD_nil:RsD P gl N k R keep A [] done s=W P gl N k (pr keep s) R:=rfl
theorem RsD_mv (x:Od):RsD P gl N k R keep A (⟨d,none,.mv x⟩ :: l) done s=RsD P gl N k R keep A l (done++[([],[])]) ⟨putT s.T d (evT gl s.T x),s.G⟩:=by simp only [RsD]
theorem RsD_mvg (x:Od) (t:Nat) (w:Bool):RsD P gl N k R keep A (⟨d,some (t,w),.mv x⟩ :: l) done s=Gd (boolV (s.T t)) w fun γ=>Br γ (RsD P gl N k R keep A l (done++[([],[])])) ⟨putT s.T d (.gv false .dead),s.G⟩ fun b=>GoU b (gOk true (evT gl s.T x)) ⟨True,stripV (evT gl s.T x),[]⟩ d s (nxw (RsD P gl N k R keep A l (done++[([],[])]))):=by simp only [RsD]
theorem RsD_pick (x y z:Od):RsD P gl N k R keep A (⟨d,none,.pick x y z⟩ :: l) done s=GoD1 (semI P gl ch0 d (.pick x y z) (evT gl s.T) s.G) d s (nt A done [] (RsD P gl N k R keep A l)):=by simp only [RsD]
theorem RsD_pickg (x y z:Od) (t:Nat) (w:Bool):RsD P gl N k R keep A (⟨d,some (t,w),.pick x y z⟩ :: l) done s=Gd (boolV (s.T t)) w fun γ=>Br γ (RsD P gl N k R keep A l (done++[([],[])])) ⟨putT s.T d (.gv false .dead),s.G⟩ fun b=>GoU b True (semI P gl ch0 d (.pick x y z) (evT gl s.T) s.G) d s (nt A done [] (RsD P gl N k R keep A l)):=by simp only [RsD]
theorem RsD_call (f:Od) (xs:List Od):RsD P gl N k R keep A (⟨d,none,.call f xs⟩ :: l) done s=CallStep P gl ⟨d,none,.call f xs⟩ s (ntc A done (RsD P gl N k R keep A l)):=by simp only [RsD]
theorem RsD_callg (f:Od) (xs:List Od) (t:Nat) (w:Bool):RsD P gl N k R keep A (⟨d,some (t,w),.call f xs⟩ :: l) done s=Gd (boolV (s.T t)) w fun γ=>Br γ (nt A done (touchO gl ⟨.dead,[],false,none,some .dead,none⟩ ⟨d,some (t,w),.call f xs⟩ s.T) (RsD P gl N k R keep A l) []) ⟨putT s.T d (.gv false .dead),s.G⟩ fun _=>CallStep P gl ⟨d,some (t,w),.call f xs⟩ s (ntc A done (RsD P gl N k R keep A l)):=by simp only [RsD]
theorem RsD_op (hq:(quietI i || isCall i)=false):RsD P gl N k R keep A (⟨d,none,i⟩ :: l) done s=(gAll true (evT gl s.T) (opsOf i)∧GoD1 (semI P gl ch0 d i (evS gl s.T) s.G) d s (nt A done (touchS gl s.T d i) (RsD P gl N k R keep A l))):=by
  cases i <;> first | (simp [quietI,isCall] at hq;done) | simp only [RsD]
theorem RsD_opg (t:Nat) (w:Bool) (hq:(quietI i || isCall i)=false):RsD P gl N k R keep A (⟨d,some (t,w),i⟩ :: l) done s=Gd (boolV (s.T t)) w fun γ=>Br γ (fun s'=>nt A done (touchS gl s.T d i) (RsD P gl N k R keep A l) ((semI P gl ch0 d i (evS gl s.T) s.G).ef.map (·.1)) s') ⟨putT s.T d (.gv false .dead),s.G⟩ fun b=>GoU b (gAll true (evT gl s.T) (opsOf i)) (semI P gl ch0 d i (evS gl s.T) s.G) d s (nt A done (touchS gl s.T d i) (RsD P gl N k R keep A l)):=by
  cases i <;> first | (simp [quietI,isCall] at hq;done) | simp only [RsD]
def chN:Ch:=⟨.dead,[],false,none,some .dead,none⟩
theorem ef_chN {ev:Od→Va} {G:Hf} {f:Od} {xs:List Od}:(semI P gl chN d (.call f xs) ev G).ef=[]:=by
  simp only [semI,chN,callS]
  split
  · split
    · split <;> rfl
    · rfl
  · split
    · split <;> rfl
    · rfl
theorem step_no {o:Opn} {t:Nat} {w g1 p:Bool} {next:List Nat→List Nat→St→Prop} (hg:o.g=some (t,w)) (hb:boolV (s.T t)=some (g1,p)) (hγ:(g1 && (if w then p else !p))=false) (hn:next (touchO gl chN o s.T) ((outO P gl chN o s).ef.map (·.1)) ⟨putT s.T o.d (.gv false .dead),s.G⟩):CallStep P gl o s next:=by
  refine ⟨chN,⟨false,by rw [hg];simp only [gval,hb,hγ],.inr fun od hod => ?_,fun h=>(by cases h),fun h=>(by cases h)⟩,?_⟩
  · cases evT gl s.T od with
    | gv g v=>intro h;cases h
    | _=>trivial
  · simp only [nextO,valO,hg,gval,hb,hγ,Option.getD_some]
    exact hn
theorem step_yes {c:Ch} {o:Opn} {t:Nat} {w g1 p:Bool} {next:List Nat→List Nat→St→Prop} (ha:c.alt=none) (hg:o.g=some (t,w)) (hb:boolV (s.T t)=some (g1,p)) (hγ:(g1 && (if w then p else !p))=true) (h1:bareI o=true∨∀ od,od∈opsOf o.i→gOk true (evT gl s.T od)) (h2:(outO P gl c o s).ob) (hn:next (touchO gl c o s.T) ((outO P gl c o s).ef.map (·.1)) ⟨putT s.T o.d (.gv true (outO P gl c o s).v),apG s.G (outO P gl c o s).ef⟩):CallStep P gl o s next:=by
  refine ⟨c,⟨true,by rw [hg];simp only [gval,hb,hγ],h1,fun _=>h2,fun _ x hx=>by rw [ha] at hx;cases hx⟩,?_⟩
  simp only [nextO,valO,hg,gval,hb,hγ,Option.getD_some,ha]
  exact hn
theorem chN_out {o:Opn} (hc:isCall o.i=false):outO P gl chN o s=outO P gl ch0 o s:=by
  obtain ⟨d,g,i⟩:=o
  cases i <;> first | rfl | (simp [isCall] at hc)
theorem Rs.rg:∀ {q:List Opn} {s:St},Rs P gl N k R keep q s→Rg P gl N k R keep q s
  | [],s,h=>h
  | ⟨d, g, i⟩ :: l,s,h=>by
    have hnone:g=none→isCall i=false→(bareI ⟨d,g,i⟩=true∨∀ od,od∈opsOf i→gOk true (evT gl s.T od))→(outO P gl ch0 ⟨d,g,i⟩ s).ob→Rg P gl N k R keep l (stO (outO P gl ch0 ⟨d,g,i⟩ s) d s)→Rg P gl N k R keep (⟨d,g,i⟩ :: l) s:=by
      rintro rfl hc h1 h2 h3
      unfold Rg
      exact ⟨ch0,okO_none rfl h1 h2,h3⟩
    have hno:∀ (t:Nat) (w g1 p:Bool),g=some (t,w)→boolV (s.T t)=some (g1,p)→(g1 && (if w then p else !p))=false→Rg P gl N k R keep l ⟨putT s.T d (.gv false .dead),s.G⟩→Rg P gl N k R keep (⟨d,g,i⟩ :: l) s:=by
      rintro t w g1 p rfl hb hγ h1
      unfold Rg
      exact step_no rfl hb hγ h1
    have hyes:∀ (t:Nat) (w g1 p:Bool),g=some (t,w)→boolV (s.T t)=some (g1,p)→(g1 && (if w then p else !p))=true→(bareI ⟨d,g,i⟩=true∨∀ od,od∈opsOf i→gOk true (evT gl s.T od))→(outO P gl ch0 ⟨d,g,i⟩ s).ob→Rg P gl N k R keep l ⟨putT s.T d (.gv true (outO P gl ch0 ⟨d,g,i⟩ s).v),apG s.G (outO P gl ch0 ⟨d,g,i⟩ s).ef⟩→Rg P gl N k R keep (⟨d,g,i⟩ :: l) s:=by
      rintro t w g1 p rfl hb hγ h1 h2 h3
      unfold Rg
      exact step_yes rfl rfl hb hγ h1 h2 h3
    cases i with
    | mv x =>
      cases g with
      | none=>exact hnone rfl rfl (.inl rfl) trivial (Rs.rg h)
      | some p =>
        obtain ⟨t,w⟩:=p
        simp only [Rs] at h
        obtain ⟨g1,p,hb,h1,h2⟩:=Gd.of h
        cases hγ:(g1 && (if w then p else !p)) with
        | false=>exact hno t w g1 p rfl hb hγ (Rs.rg (h1 hγ))
        | true =>
          obtain ⟨h3,_,h4⟩:=h2 hγ
          refine hyes t w g1 p rfl hb hγ (.inr ?_) trivial (Rs.rg h4)
          intro od hod
          simp only [opsOf,List.mem_singleton] at hod
          subst hod;exact h3
    | pick x y z =>
      cases g with
      | none=>exact hnone rfl rfl (.inl rfl) h.1 (Rs.rg h.2)
      | some p =>
        obtain ⟨t,w⟩:=p
        simp only [Rs] at h
        obtain ⟨g1,p,hb,h1,h2⟩:=Gd.of h
        cases hγ:(g1 && (if w then p else !p)) with
        | false=>exact hno t w g1 p rfl hb hγ (Rs.rg (h1 hγ))
        | true =>
          obtain ⟨_,h3,h4⟩:=h2 hγ
          exact hyes t w g1 p rfl hb hγ (.inl rfl) h3 (Rs.rg h4)
    | call f xs =>
      cases g with
      | none =>
        simp only [Rs] at h
        obtain ⟨c,h1,h2⟩:=h
        unfold Rg
        exact ⟨c,h1,Rs.rg h2⟩
      | some p =>
        obtain ⟨t,w⟩:=p
        simp only [Rs] at h
        obtain ⟨g1,p,hb,h1,h2⟩:=Gd.of h
        cases hγ:(g1 && (if w then p else !p)) with
        | false=>exact hno t w g1 p rfl hb hγ (Rs.rg (h1 hγ))
        | true =>
          obtain ⟨c,h3,h4⟩:=h2 hγ
          unfold Rg
          exact ⟨c,h3,Rs.rg h4⟩
    | _ =>
      cases g with
      | none =>
        simp only [Rs] at h
        obtain ⟨h1,h2,h3⟩:=h
        exact hnone rfl rfl (.inr (gAll_mem h1)) h2 (Rs.rg h3)
      | some p =>
        obtain ⟨t,w⟩:=p
        simp only [Rs] at h
        obtain ⟨g1,p,hb,h1,h2⟩:=Gd.of h
        cases hγ:(g1 && (if w then p else !p)) with
        | false=>exact hno t w g1 p rfl hb hγ (Rs.rg (h1 hγ))
        | true =>
          obtain ⟨h3,h4,h5⟩:=h2 hγ
          exact hyes t w g1 p rfl hb hγ (.inr (gAll_mem h3)) h4 (Rs.rg h5)
theorem Rs.walk {q:List Opn} (h:Rs P gl N k R keep q s):W P gl N (.c (.reg q none keep) :: k) s R:=h.rg.walk
theorem RsD.rg:∀ {q:List Opn} {done:List (List Nat×List Nat)} {s:St},RsD P gl N k R keep A q done s→RgD P gl N k R keep A done q s
  | [],done,s,h=>h
  | ⟨d, g, i⟩ :: l,done,s,h=>by
    have hnone:∀ fp,g=none→isCall i=false→(bareI ⟨d,g,i⟩=true∨∀ od,od∈opsOf i→gOk true (evT gl s.T od))→(outO P gl ch0 ⟨d,g,i⟩ s).ob→touchO gl ch0 ⟨d,g,i⟩ s.T=fp→dck (A.getD done.length 0) done fp ((outO P gl ch0 ⟨d,g,i⟩ s).ef.map (·.1))=true→RgD P gl N k R keep A (done++[(fp,(outO P gl ch0 ⟨d,g,i⟩ s).ef.map (·.1))]) l ⟨putT s.T d (outO P gl ch0 ⟨d,g,i⟩ s).v,apG s.G (outO P gl ch0 ⟨d,g,i⟩ s).ef⟩→RgD P gl N k R keep A done (⟨d,g,i⟩ :: l) s:=by
      rintro fp rfl hc h1 h2 h4 h5 h3
      unfold RgD
      refine ⟨ch0,okO_none rfl h1 h2,?_⟩
      rw [h4]
      exact ⟨dck_of h5,h3⟩
    have hno:∀ (fp wr:List Nat) (t:Nat) (w g1 p:Bool),g=some (t,w)→boolV (s.T t)=some (g1,p)→(g1 && (if w then p else !p))=false→touchO gl chN ⟨d,g,i⟩ s.T=fp→(outO P gl chN ⟨d,g,i⟩ s).ef.map (·.1)=wr→dck (A.getD done.length 0) done fp wr=true→RgD P gl N k R keep A (done++[(fp,wr)]) l ⟨putT s.T d (.gv false .dead),s.G⟩→RgD P gl N k R keep A done (⟨d,g,i⟩ :: l) s:=by
      rintro fp wr t w g1 p rfl hb hγ rfl rfl h2 h1
      unfold RgD
      exact step_no rfl hb hγ ⟨dck_of h2,h1⟩
    have hyes:∀ (fp:List Nat) (t:Nat) (w g1 p:Bool),g=some (t,w)→boolV (s.T t)=some (g1,p)→(g1 && (if w then p else !p))=true→(bareI ⟨d,g,i⟩=true∨∀ od,od∈opsOf i→gOk true (evT gl s.T od))→(outO P gl ch0 ⟨d,g,i⟩ s).ob→touchO gl ch0 ⟨d,g,i⟩ s.T=fp→dck (A.getD done.length 0) done fp ((outO P gl ch0 ⟨d,g,i⟩ s).ef.map (·.1))=true→RgD P gl N k R keep A (done++[(fp,(outO P gl ch0 ⟨d,g,i⟩ s).ef.map (·.1))]) l ⟨putT s.T d (.gv true (outO P gl ch0 ⟨d,g,i⟩ s).v),apG s.G (outO P gl ch0 ⟨d,g,i⟩ s).ef⟩→RgD P gl N k R keep A done (⟨d,g,i⟩ :: l) s:=by
      rintro fp t w g1 p rfl hb hγ h1 h2 h4 h5 h3
      unfold RgD
      refine step_yes rfl rfl hb hγ h1 h2 ?_
      rw [h4]
      exact ⟨dck_of h5,h3⟩
    have htN:isCall i=false→touchO gl chN ⟨d,g,i⟩ s.T=touchO gl ch0 ⟨d,g,i⟩ s.T:=by
      intro hc
      cases i <;> first | rfl | (simp [isCall] at hc)
    cases i with
    | mv x =>
      cases g with
      | none=>exact hnone [] rfl rfl (.inl rfl) trivial (touch_quiet rfl) rfl (RsD.rg h)
      | some p =>
        obtain ⟨t,w⟩:=p
        simp only [RsD] at h
        obtain ⟨g1,p,hb,h1,h2⟩:=Gd.of h
        cases hγ:(g1 && (if w then p else !p)) with
        | false=>exact hno [] [] t w g1 p rfl hb hγ rfl rfl rfl (RsD.rg (h1 hγ))
        | true =>
          obtain ⟨h3,_,h4⟩:=h2 hγ
          refine hyes [] t w g1 p rfl hb hγ (.inr ?_) trivial (touch_quiet rfl) rfl (RsD.rg h4)
          intro od hod
          simp only [opsOf,List.mem_singleton] at hod
          subst hod;exact h3
    | pick x y z =>
      cases g with
      | none =>
        simp only [RsD] at h
        obtain ⟨h1,h2,h3⟩:=h
        exact hnone [] rfl rfl (.inl rfl) h1 (touch_quiet rfl) h2 (RsD.rg h3)
      | some p =>
        obtain ⟨t,w⟩:=p
        simp only [RsD] at h
        obtain ⟨g1,p,hb,h1,h2⟩:=Gd.of h
        cases hγ:(g1 && (if w then p else !p)) with
        | false =>
          refine hno [] [] t w g1 p rfl hb hγ rfl ?_ rfl (RsD.rg (h1 hγ))
          simp only [outO,semI]
          split <;> rfl
        | true =>
          obtain ⟨_,h3,h5,h4⟩:=h2 hγ
          exact hyes [] t w g1 p rfl hb hγ (.inl rfl) h3 (touch_quiet rfl) h5 (RsD.rg h4)
    | call f xs =>
      cases g with
      | none =>
        simp only [RsD] at h
        obtain ⟨c,h1,h2,h3⟩:=h
        unfold RgD
        exact ⟨c,h1,dck_of h2,RsD.rg h3⟩
      | some p =>
        obtain ⟨t,w⟩:=p
        simp only [RsD] at h
        obtain ⟨g1,p,hb,h1,h2⟩:=Gd.of h
        cases hγ:(g1 && (if w then p else !p)) with
        | false =>
          obtain ⟨h3,h4⟩:=h1 hγ
          exact hno _ [] t w g1 p rfl hb hγ rfl (by rw [outO,ef_chN];rfl) h3 (RsD.rg h4)
        | true =>
          obtain ⟨c,h3,h4,h5⟩:=h2 hγ
          unfold RgD
          exact ⟨c,h3,dck_of h4,RsD.rg h5⟩
    | _ =>
      cases g with
      | none =>
        simp only [RsD] at h
        obtain ⟨h1,h2,h3,h4⟩:=h
        exact hnone _ rfl rfl (.inr (gAll_mem h1)) h2 (touch_strip rfl) h3 (RsD.rg h4)
      | some p =>
        obtain ⟨t,w⟩:=p
        simp only [RsD] at h
        obtain ⟨g1,p,hb,h1,h2⟩:=Gd.of h
        cases hγ:(g1 && (if w then p else !p)) with
        | false =>
          obtain ⟨h3,h4⟩:=h1 hγ
          exact hno _ _ t w g1 p rfl hb hγ ((htN rfl).trans (touch_strip rfl)) (by rw [chN_out rfl];rfl) h3 (RsD.rg h4)
        | true =>
          obtain ⟨h3,h4,h5,h6⟩:=h2 hγ
          exact hyes _ t w g1 p rfl hb hγ (.inr (gAll_mem h3)) h4 (touch_strip rfl) h5 (RsD.rg h6)
theorem RsD.walk {q:List Opn} (h:RsD P gl N k R keep A q [] s):W P gl N (.c (.reg q (some A) keep) :: k) s R:=h.rg.walk
theorem call_funT {f:Od} {xs:List Od} {t:Nat} {w g1 p:Bool} {next:List Nat→List Nat→St→Prop} {fid:FuncId} {caps ys:List Va} {y:Va} (F:List Nat) (keepF:Bool) (hb:boolV (s.T t)=some (g1,p)) (hγ:(g1 && (if w then p else !p))=true) (hg:gAll true (evT gl s.T) (f :: xs)) (hf:fnV (evS gl s.T f)=some (fid,caps)) (hx:argsV F s.G 4 (xs.map (evS gl s.T)++caps)=some ys) (hfun:Fun P gl fid ys y)
    (hflat:keepF=false→flatV y=true) (hF:∀ i,i∈F→∀ e,s.G i=some e→(convR (conv F s.G 4) e.rows).isSome=true)
    (hn:next (touchO gl ⟨y,F,keepF,none,none,none⟩ ⟨d,some (t,w),.call f xs⟩ s.T) (if keepF then (F.filterMap fun i=>(frz F 4 s.G i).map fun e=>(i,e)).map (·.1) else []) ⟨putT s.T d (.gv true y),if keepF then apG s.G (F.filterMap fun i=>(frz F 4 s.G i).map fun e=>(i,e)) else s.G⟩):CallStep P gl ⟨d,some (t,w),.call f xs⟩ s next:=by
  have he:outO P gl ⟨y,F,keepF,none,none,none⟩ ⟨d,some (t,w),.call f xs⟩ s=⟨Fun P gl fid ys y∧(keepF=false→flatV y=true)∧(∀ i,i∈F→∀ e,s.G i=some e→(convR (conv F s.G 4) e.rows).isSome=true),y,if keepF then F.filterMap (fun i=>(frz F 4 s.G i).map fun e=>(i,e)) else []⟩:=by
    have h0:mOf f=none:=mOf_strip hf
    simp only [outO,semI,h0]
    have h1:fnV (evO gl s.T ⟨d,some (t,w),.call f xs⟩ f)=some (fid,caps):=hf
    have h2:argsV F s.G 4 (xs.map (evO gl s.T ⟨d,some (t,w),.call f xs⟩)++caps)=some ys:=hx
    rw [h1]
    simp only [h2,callS]
  refine step_yes rfl rfl hb hγ (.inr (gAll_mem hg)) (by rw [he];exact ⟨hfun,hflat,hF⟩) ?_
  rw [he]
  cases keepF <;> exact hn
end
def idxK (k:Xk) (v:Va) (i:Option Int):Out:=match k,v,i with
  | .str,.b (.s (.d (.str l))),some i=>⟨0≤i∧i < l.length,.i .u8 (l.getD i.toNat 0).toNat,[]⟩
  | .arr n st agg,.b (.agg cs),some i=>⟨0≤i∧i < n∧cs.length=n * st∧(agg=false→st=1),.b (if agg then .agg ((cs.drop (i.toNat * st)).take st) else .s (cs.getD (i.toNat * st) lcA)),[]⟩
  | _,_,_=>fail
def lenK (G:Hf) (k:Xk) (v:Va):Out:=match k,v with
  | .str,.b (.s (.d (.str l)))=>out1 (.i .i64 l.length)
  | .sl _,.b (.s (.d (.sl rows)))=>out1 (.i .i64 rows.length)
  | .sl _,.b (.s (.full rows))=>out1 (.i .i64 rows.length)
  | .sl _,.b (.s .nils)=>out1 (.i .i64 0)
  | .sl _,.b (.s (.own _ n))=>out1 (.i .i64 n)
  | .arr n _ _,_=>out1 (.i .i64 n)
  | .ptr n _,_=>out1 (.i .i64 n)
  | _,_=>fail
def slcK (ev:Od→Va) (lo hi mx:Option Od) (k:Xk) (v:Va):Out:=match k,v with
  | .str,.b (.s (.d (.str l)))=>match boundV ev 0 lo,boundV ev l.length hi with
    | some a,some b=>⟨0≤a∧a≤b∧b≤l.length∧mx.isNone,.st ((l.take b.toNat).drop a.toNat),[]⟩
    | _,_=>fail
  | .sl st,.b (.s (.d (.sl rows)))=>match boundV ev 0 lo,boundV ev rows.length hi,mx.map (fun m=>intV (ev m)) with
    | some a,some b,none=>⟨0≤a∧a≤b∧b≤rows.length∧∀ r,r∈rows→r.length=st,.b (.s (.d (.sl ((rows.take b.toNat).drop a.toNat)))),[]⟩
    | some a,some b,some (some m)=>⟨hi.isSome=true∧0≤a∧a≤b∧b≤rows.length∧m=b∧∀ r,r∈rows→r.length=st,.b (.s (.full ((rows.take b.toNat).drop a.toNat))),[]⟩
    | _,_,_=>fail
  | .sl st,.b (.s (.full rows))=>match boundV ev 0 lo,boundV ev rows.length hi,mx.map (fun m=>intV (ev m)) with
    | some a,some b,none=>⟨0≤a∧a≤b∧b≤rows.length∧∀ r,r∈rows→r.length=st,.b (.s (.d (.sl ((rows.take b.toNat).drop a.toNat)))),[]⟩
    | some a,some b,some (some m)=>⟨hi.isSome=true∧0≤a∧a≤b∧b≤rows.length∧m=b∧∀ r,r∈rows→r.length=st,.b (.s (.full ((rows.take b.toNat).drop a.toNat))),[]⟩
    | _,_,_=>fail
  | _,_=>fail
def iadrK (G:Hf) (k:Xk) (v:Va) (i:Option Int):Out:=match k,v,i with
  | .sl st,.b (.s (.d (.sl rows))),some i=>⟨0≤i∧i < rows.length∧∀ r,r∈rows→r.length=st,.b (.s (.d (.ref (rows.getD i.toNat []) 0))),[]⟩
  | .sl st,.b (.s (.full rows)),some i=>⟨0≤i∧i < rows.length∧∀ r,r∈rows→r.length=st,.b (.s (.d (.ref (rows.getD i.toNat []) 0))),[]⟩
  | .sl st,.b (.s (.own j n)),some i=>match G j with
    | some e=>⟨0≤i∧i < n∧n=e.rows.length∧e.st=st,.b (.s (.ptr j n i.toNat 0)),[]⟩
    | none=>fail
  | .ptr n st,.b (.s (.ptr j m r o)),some i=>match G j with
    | some e=>⟨0≤i∧i < n∧m=e.rows.length,.b (.s (.ptr j m r (o+i.toNat * st))),[]⟩
    | none=>fail
  | .ptr n st,.b (.s (.d (.ref cs o))),some i=>⟨0≤i∧i < n,.b (.s (.d (.ref cs (o+i.toNat * st)))),[]⟩
  | _,_,_=>fail
def cvK (G:Hf) (d:Option Nat) (k:Ck) (v:Va):Out:=match k,v with
  | .toInt k,.b (.s (.d (.int _ n)))=>out1 (.i k (k.wrap n))
  | .same,.b (.s (.d (.str l)))=>out1 (.st l)
  | .b2s,v=>match rowsV G v with
    | some rows=>⟨∀ r,r∈rows→isByteR r,.st (rows.map unbyteR),[]⟩
    | none=>fail
  | .s2b,.b (.s (.d (.str l)))=>match d with
    | some i=>⟨G i=none,.b (.s (.own i l.length)),[(i,⟨1,l.map fun c=>(byteR c).map Lc.d,false⟩)]⟩
    | none=>fail
  | _,_=>fail
section
variable {c:Ch} {d:Option Nat} {ev:Od→Va} {G:Hf} {x y:Od}
theorem se_idxS:semI P gl c d (.idx .str x y) ev G=idxK .str (ev x) (intV (ev y)):=rfl
theorem se_len (k:Xk):semI P gl c d (.len k x) ev G=lenK G k (ev x):=rfl
theorem se_slcS (lo hi mx:Option Od):semI P gl c d (.slc .str x lo hi mx) ev G=slcK ev lo hi mx .str (ev x):=rfl
theorem slcK_str (lo hi mx:Option Od) (l:Str):slcK ev lo hi mx .str (.b (.s (.d (.str l))))=match boundV ev 0 lo,boundV ev l.length hi with
    | some a,some b=>⟨0≤a∧a≤b∧b≤l.length∧mx.isNone,.b (.s (.d (.str (cut l a b)))),[]⟩
    | _,_=>fail:=rfl
theorem idxK_str (l:Str) (i:Int):idxK .str (.b (.s (.d (.str l)))) (some i)=⟨0≤i∧i < l.length,.b (.s (.d (.int .u8 (bn (l.getD i.toNat 0))))),[]⟩:=rfl
theorem se_cvI (k:IntKind):semI P gl c d (.cv (.toInt k) x) ev G=cvK G d (.toInt k) (ev x):=rfl
theorem se_cvC:semI P gl c d (.cv .same x) ev G=cvK G d .same (ev x):=rfl
end
def coL (F:List Nat) (G:Hf) (x y:Lc):Prop:=x=y∨(conv F G 4 x).map Lc.d=some y
def coC (F:List Nat) (G:Hf):List Lc→List Lc→Prop
  | [],[]=>True
  | x :: l,y :: m=>coL F G x y∧coC F G l m
  | _,_=>False
def coR (F:List Nat) (G:Hf):List (List Lc)→List (List Lc)→Prop
  | [],[]=>True
  | x :: l,y :: m=>coC F G x y∧coR F G l m
  | _,_=>False
def coV (F:List Nat) (G:Hf) (x y:Va):Prop:=x=y∨match x,y with
  | .b (.s a),.b (.s b)=>coL F G a b
  | .b (.agg a),.b (.agg b)=>coC F G a b
  | _,_=>False
theorem coL_refl (F:List Nat) (G:Hf) (x:Lc):coL F G x x=True:=by simp [coL]
theorem coV_refl (F:List Nat) (G:Hf) (x:Va):coV F G x x=True:=by simp [coV]
theorem coV_s (F:List Nat) (G:Hf) (x y:Lc):coV F G (.b (.s x)) (.b (.s y))=coL F G x y:=by
  simp only [coV,eq_iff_iff]
  refine ⟨fun h=>h.elim (fun h => ?_) id,.inr⟩
  cases h;exact .inl rfl
theorem coV_g (F:List Nat) (G:Hf) (x y:List Lc):coV F G (.b (.agg x)) (.b (.agg y))=(x=y∨coC F G x y):=by
  simp only [coV,eq_iff_iff,Va.b.injEq,Vb.agg.injEq]
def coT (F:List Nat) (G:Hf) (T:Nat→Va):List (Nat×Va)→Prop
  | []=>True
  | (t,v) :: l=>coV F G (T t) v∧coT F G T l
def coE (F:List Nat) (G:Hf) (i:Nat) (e:Ent):Prop:=F.contains i=false∧match G i with
  | some x=>x.st=e.st∧x.fz=e.fz∧(x.rows=e.rows∨coR F G x.rows e.rows)
  | none=>False
def coG (F:List Nat) (G:Hf):List (Nat×Ent)→Prop
  | []=>True
  | (i,e) :: l=>coE F G i e∧coG F G l
def coF (F:List Nat) (G:Hf):List Nat→Prop
  | []=>True
  | i :: l=>(match G i with | some e=>(convR (conv F G 4) e.rows).isSome=true | none=>True)∧coF F G l
theorem coF_get {F:List Nat} {G:Hf}:∀ {l:List Nat},coF F G l→∀ i e,i∈l→G i=some e→(convR (conv F G 4) e.rows).isSome=true
  | [],_,i,e,hi,_=>by cases hi
  | j :: l,h,i,e,hi,hG=>by
    rcases List.mem_cons.1 hi with rfl | hi
    · have:=h.1
      rw [hG] at this
      exact this
    · exact coF_get h.2 i e hi hG
theorem coT_get {F:List Nat} {G:Hf} {T:Nat→Va}:∀ {l:List (Nat×Va)},coT F G T l→∀ t,lkT l t=.dead∨coV F G (T t) (lkT l t)
  | [],_,t=>.inl rfl
  | (j,v) :: l,h,t=>by
    rw [lkT_cons]
    split
    · rename_i e;subst e;exact .inr h.1
    · exact coT_get h.2 t
theorem coG_get {F:List Nat} {G:Hf}:∀ {l:List (Nat×Ent)},coG F G l→∀ i e,lkG l i=some e→coE F G i e
  | [],_,i,e,h=>by cases h
  | (j,v) :: l,h,i,e,hi=>by
    rw [lkG_cons] at hi
    split at hi
    · rename_i e1;subst e1;cases hi;exact h.1
    · exact coG_get h.2 i e hi
theorem coC_get {F:List Nat} {G:Hf}:∀ {l m:List Lc},coC F G l m→l.length=m.length∧∀ (j:Nat) y,m[j]? = some y→∃ x,l[j]? = some x∧coL F G x y
  | [],[],_=>⟨rfl,fun j y h=>by cases h⟩
  | x :: l,y :: m,h=>by
    obtain ⟨h1,h2⟩:=coC_get h.2
    refine ⟨by simp [h1],fun j z hj => ?_⟩
    cases j with
    | zero=>simp only [List.getElem?_cons_zero,Option.some.injEq] at hj;subst hj;exact ⟨x,rfl,h.1⟩
    | succ j=>exact h2 j z (by simpa using hj)
  | [],_ :: _,h=>h.elim
  | _ :: _,[],h=>h.elim
theorem coR_get {F:List Nat} {G:Hf}:∀ {l m:List (List Lc)},coR F G l m→l.length=m.length∧(∀ q,(∀ r,r∈l→r.length=q)→∀ r,r∈m→r.length=q)∧∀ (j:Nat) y,m.flatten[j]? = some y→∃ x,l.flatten[j]? = some x∧coL F G x y
  | [],[],_=>⟨rfl,fun _ h=>h,fun j y h=>by cases h⟩
  | x :: l,y :: m,h=>by
    obtain ⟨h1,h2⟩:=coC_get h.1
    obtain ⟨h3,h4,h5⟩:=coR_get h.2
    refine ⟨by simp [h3],fun q hq r hr => ?_,fun j z hj => ?_⟩
    · rcases List.mem_cons.1 hr with rfl | hr
      · rw [← h1];exact hq x (List.mem_cons_self ..)
      · exact h4 q (fun r hr=>hq r (List.mem_cons_of_mem _ hr)) r hr
    · rw [List.flatten_cons] at hj ⊢
      by_cases hlt:j < y.length
      · rw [List.getElem?_append_left hlt] at hj
        rw [List.getElem?_append_left (by omega)]
        exact h2 j z hj
      · rw [List.getElem?_append_right (by omega)] at hj
        rw [List.getElem?_append_right (by omega),h1]
        exact h5 _ z hj
  | [],_ :: _,h=>h.elim
  | _ :: _,[],h=>h.elim
theorem Imp.co (F:List Nat) (lT:List (Nat×Va)) (lG:List (Nat×Ent)) (hF:coF F s.G F) (hT:coT F s.G s.T lT) (hG:coG F s.G lG) (hrT:lT.all (fun p=>refsV (lG.map (·.1)) p.2)=true) (hrG:lG.all (fun p=>p.2.rows.all (refsC (refsIn (lG.map (·.1)) 4)))=true):Imp gl N s ⟨lkT lT,lkG lG⟩:=by
  intro base a w S ρ hr
  obtain ⟨e1,h1⟩:=hr.hr.freeze F 4 (fun i e hi hg=>coF_get hF i e hi hg)
  have keyL:∀ x y u,coL F s.G x y→RepL w S ρ s.G x u→RepL w (Sup S ρ F) ρ (frz F 4 s.G) y u:=by
    intro x y u h hu
    rcases h with rfl | h
    · exact hu.mono e1
    · obtain ⟨z,hz,rfl⟩:=Option.map_eq_some_iff.1 h
      exact .d _ _ (conv_sound hr.hr F 4 x z u hz hu)
  have keyC:∀ x y vs,coC F s.G x y→RepC w S ρ s.G x vs→RepC w (Sup S ρ F) ρ (frz F 4 s.G) y vs:=by
    intro x y vs h hu
    obtain ⟨h2,h3⟩:=coC_get h
    refine ⟨by rw [← h2];exact hu.1,fun j lc hj => ?_⟩
    obtain ⟨q,hq,hc⟩:=h3 j lc hj
    exact keyL q lc _ hc (hu.2 j q hq)
  have keyV:∀ x y u,coV F s.G x y→RepV w S ρ s.G x u→RepV w (Sup S ρ F) ρ (frz F 4 s.G) y u:=by
    intro x y u h hu
    rcases h with rfl | h
    · exact RepV.mono e1 hu
    · split at h
      · exact keyL _ _ _ h hu
      · obtain ⟨vs,hv,hc⟩:=hu
        exact ⟨vs,hv,keyC _ _ _ h hc⟩
      · exact h.elim
  have hfr:∀ i,F.contains i=false→frz F 4 s.G i=s.G i:=by
    intro i hi
    unfold frz
    rw [hi];rfl
  have hnew:∀ i e,lkG lG i=some e→∃ x,frz F 4 s.G i=some x∧s.G i=some x∧x.st=e.st∧x.fz=e.fz∧x.rows.length=e.rows.length∧((∀ r,r∈x.rows→r.length=x.st)→∀ r,r∈e.rows→r.length=x.st)∧∀ (j:Nat) y,e.rows.flatten[j]? = some y→∃ z,x.rows.flatten[j]? = some z∧coL F s.G z y:=by
    intro i e hi
    obtain ⟨h2,h3⟩:=coG_get hG i e hi
    split at h3
    · rename_i x hx
      obtain ⟨h4,h5,h6⟩:=h3
      refine ⟨x,by rw [hfr i h2];exact hx,hx,h4,h5,?_⟩
      rcases h6 with h6 | h6
      · rw [h6]
        exact ⟨rfl,fun h=>h,fun j y hj=>⟨y,hj,.inl rfl⟩⟩
      · obtain ⟨h7,h8,h9⟩:=coR_get h6
        exact ⟨h7,h8 _,h9⟩
    · exact h3.elim
  let G2:Hf:=fun i=>match lkG lG i with | some e=>some e | none=>frz F 4 s.G i
  have hG2:∀ i e,lkG lG i=some e→G2 i=some e:=by
    intro i e h
    show (match lkG lG i with | some e=>some e | none=>frz F 4 s.G i)=_
    rw [h]
  have hG2n:∀ i,lkG lG i=none→G2 i=frz F 4 s.G i:=by
    intro i h
    show (match lkG lG i with | some e=>some e | none=>frz F 4 s.G i)=_
    rw [h]
  have hE:Ext w (Sup S ρ F) ρ (frz F 4 s.G) w (Sup S ρ F) ρ G2:=by
    refine ⟨fun _ h=>h,fun _ _=>rfl,fun i x hx => ?_,fun i b arr ty fz _ h=>⟨arr,ty,fz,h,Nat.le_refl _⟩⟩
    cases hl:lkG lG i with
    | none=>exact ⟨x,by rw [hG2n i hl];exact hx,rfl,.inl ⟨rfl,rfl⟩⟩
    | some e =>
      obtain ⟨x1,h2,_,h3,_,h5,_⟩:=hnew i e hl
      rw [hx] at h2;cases h2
      exact ⟨e,hG2 i e hl,h3.symm,.inl ⟨h5.symm,rfl⟩⟩
  have hH : Hr w (Sup S ρ F) ρ G2 base:=by
    refine ⟨fun i e hi => ?_,h1.inj,h1.own,fun i b hb => ?_,h1.lt,h1.klt,h1.pin⟩
    · cases hl:lkG lG i with
      | none =>
        rw [hG2n i hl] at hi
        obtain ⟨h2,h3⟩:=h1.blk i e hi
        refine ⟨h2,?_⟩
        rcases h3 with h3 | ⟨b,arr,ty,fz,h4,h5,h6,h7,h8⟩
        · exact .inl h3
        · refine .inr ⟨b,arr,ty,fz,h4,h5,h6,h7,fun q lc hq => ?_⟩
          obtain ⟨u,h9,h10⟩:=h8 q lc hq
          exact ⟨u,h9,h10.mono hE⟩
      | some e2 =>
        rw [hG2 i e2 hl] at hi;cases hi
        obtain ⟨x,h2,h3,h4,h5,h6,h7,h8⟩:=hnew i e hl
        obtain ⟨k1,k2⟩:=h1.blk i x h2
        obtain ⟨m1,m2⟩:=hr.hr.blk i x h3
        refine ⟨by rw [← h4];exact h7 k1,?_⟩
        rcases k2 with ⟨k2,k3⟩ | ⟨b,arr,ty,fz,k2,k3,k4,k5,k6⟩
        · refine .inl ⟨k2,fun hf => ?_⟩
          rw [k3 (h5.trans hf)] at h6
          exact List.eq_nil_of_length_eq_zero h6.symm
        · refine .inr ⟨b,arr,ty,fz,k2,by rw [← h5];exact k3,k4,by rw [← h5];exact k5,fun q lc hq => ?_⟩
          obtain ⟨z,hz,hc⟩:=h8 q lc hq
          rcases m2 with ⟨m2,_⟩ | ⟨b1,arr1,ty1,fz1,m2,_,m4,_,m6⟩
          · rw [m2] at k2;cases k2
          · rw [m2] at k2;cases k2
            rw [m4] at k4;cases k4
            obtain ⟨u,g1,g2⟩:=m6 q z hz
            exact ⟨u,g1,(keyL z lc u hc g2).mono hE⟩
    · cases hl:lkG lG i with
      | none=>rw [hG2n i hl];exact h1.dom i b hb
      | some e=>rw [hG2 i e hl];simp
  have hGe:onlyG (lG.map (·.1)) G2=lkG lG:=by
    funext i
    rw [← lkG_mk]
    simp only [onlyG,mkG]
    cases h:lG.lookup i with
    | none=>rw [if_neg (by simpa using lookup_none h)]
    | some e =>
      have hm:=lookup_mem h
      rw [if_pos (by simp only [List.contains_iff_mem];exact List.mem_map.2 ⟨_,hm,rfl⟩)]
      exact hG2 i e (by rw [← lkG_mk];exact h)
  refine ⟨Sup S ρ F,onlyR (lG.map (·.1)) ρ,⟨?_,hr.le,fun g cs hg=>(hr.gl g cs hg).sup,hr.size,fun t => ?_,hr.defers⟩,fun k hk => ?_⟩
  · show Hr w _ _ (lkG lG) base
    rw [← hGe]
    refine hH.only (lG.map (·.1)) 4 (fun i e hi hGi r hrr => ?_) (fun _ _ _ _=>trivial)
    have hl:lkG lG i=some e:=by
      rw [← hGe]
      simp only [onlyG,List.contains_iff_mem,hi,if_true]
      exact hGi
    rw [← lkG_mk] at hl
    exact List.all_eq_true.1 (List.all_eq_true.1 hrG _ (lookup_mem hl)) r hrr
  · show RepV w _ _ (lkG lG) (lkT lT t) _
    rw [← hGe]
    rcases coT_get hT t with h2 | h2
    · rw [h2];trivial
    · have h3:=RepV.mono hE (keyV _ _ _ h2 (hr.tmps t))
      cases hl:lT.lookup t with
      | none =>
        have:lkT lT t=.dead:=by rw [← lkT_mk];simp [mkT,hl]
        rw [this];trivial
      | some v =>
        have:lkT lT t=v:=by rw [← lkT_mk];simp [mkT,hl]
        rw [this] at h3 ⊢
        exact h3.only (List.all_eq_true.1 hrT _ (lookup_mem hl))
  · rcases hk with hk | ⟨i,_,hi⟩
    · exact .inl hk
    · exact .inr (hr.hr.own i k hi)
theorem Imp.coA (F:List Nat) (lT:List (Nat×Va)) (lG:List (Nat×Ent)) (h:coF F s.G F∧coT F s.G s.T lT∧coG F s.G lG∧lT.all (fun p=>refsV (lG.map (·.1)) p.2)=true∧lG.all (fun p=>p.2.rows.all (refsC (refsIn (lG.map (·.1)) 4)))=true):Imp gl N s ⟨lkT lT,lkG lG⟩:=Imp.co F lT lG h.1 h.2.1 h.2.2.1 h.2.2.2.1 h.2.2.2.2
theorem Imp.ren (t i j n:Nat) (e:Ent) (lT:List (Nat×Va)) (lG:List (Nat×Ent)) (hi:(lG.map (·.1)).contains i=false) (hj:(lG.map (·.1)).contains j=false) (hrT:lT.all (fun p=>refsV (lG.map (·.1)) p.2)=true) (hrG:lG.all (fun p=>p.2.rows.all (refsC (refsIn (lG.map (·.1)) 4)))=true) (hre:e.rows.all (refsC (refsIn (lG.map (·.1)) 4))=true) (hi0:i < 1000000:=by decide) :
    Imp gl N ⟨lkT ((t,.b (.s (.own j n))) :: lT),lkG ((j,e) :: lG)⟩ ⟨lkT ((t,.b (.s (.own i n))) :: lT),lkG ((i,e) :: lG)⟩:=by
  intro base a w S ρ hr
  have hK:∀ k,(lG.map (·.1)).contains k=true→k ≠ i∧k ≠ j:=by
    intro k hk
    exact ⟨fun h=>(by rw [h,hi] at hk;cases hk),fun h=>(by rw [h,hj] at hk;cases hk)⟩
  have hGj:lkG ((j,e) :: lG) j=some e:=by rw [lkG_cons,if_pos rfl]
  have hGi:lkG ((i,e) :: lG) i=some e:=by rw [lkG_cons,if_pos rfl]
  have hGk:∀ k,(lG.map (·.1)).contains k=true→lkG ((j,e) :: lG) k=lkG lG k∧lkG ((i,e) :: lG) k=lkG lG k:=by
    intro k hk
    obtain ⟨h1,h2⟩:=hK k hk
    exact ⟨by rw [lkG_cons,if_neg h2],by rw [lkG_cons,if_neg h1]⟩
  have hsome:∀ k x,lkG lG k=some x→(lG.map (·.1)).contains k=true:=by
    intro k x h
    rw [← lkG_mk] at h
    simp only [List.contains_iff_mem]
    exact List.mem_map.2 ⟨_,lookup_mem h,rfl⟩
  let ρ1:Nat→Option Nat:=fun k=>if k=i then ρ j else onlyR (lG.map (·.1)) ρ k
  have hρi:ρ1 i=ρ j:=by show (if i=i then ρ j else _)=_;rw [if_pos rfl]
  have hρk:∀ k,k ≠ i→ρ1 k=onlyR (lG.map (·.1)) ρ k:=by
    intro k hk
    show (if k=i then ρ j else _)=_
    rw [if_neg hk]
  have hρK:∀ k,(lG.map (·.1)).contains k=true→ρ1 k=ρ k:=by
    intro k hk
    rw [hρk k (hK k hk).1]
    unfold onlyR
    rw [if_pos hk]
  have hE:Ext w S (onlyR (lG.map (·.1)) ρ) (onlyG (lG.map (·.1)) (lkG ((j,e) :: lG))) w S ρ1 (lkG ((i,e) :: lG)):=by
    refine ⟨fun _ h=>h,fun _ _=>rfl,fun k x hk => ?_,fun k b arr ty fz _ h=>⟨arr,ty,fz,h,Nat.le_refl _⟩⟩
    unfold onlyG at hk
    split at hk
    · rename_i hc
      refine ⟨x,by rw [(hGk k hc).2,← (hGk k hc).1];exact hk,rfl,.inl ⟨rfl,?_⟩⟩
      rw [hρk k (hK k hc).1]
    · cases hk
  have keyL:∀ n lc u,refsIn (lG.map (·.1)) n lc=true→RepL w S ρ (lkG ((j,e) :: lG)) lc u→RepL w S ρ1 (lkG ((i,e) :: lG)) lc u:=fun n lc u h1 h2=>(h2.only (lG.map (·.1)) h1).mono hE
  have keyR:∀ (rows:List (List Lc)),rows.all (refsC (refsIn (lG.map (·.1)) 4))=true→∀ (q:Nat) lc,rows.flatten[q]? = some lc→refsIn (lG.map (·.1)) 4 lc=true:=by
    intro rows h q lc hq
    obtain ⟨r,hr1,hr2⟩:=List.mem_flatten.1 (List.mem_of_getElem? hq)
    obtain ⟨p,hp⟩:=List.mem_iff_getElem?.1 hr2
    exact refsC_get (List.all_eq_true.1 h r hr1) p lc hp
  have hblk:∀ k x kk,lkG ((j,e) :: lG) k=some x→x.rows.all (refsC (refsIn (lG.map (·.1)) 4))=true→ρ1 kk=ρ k→Blk w S ρ1 (lkG ((i,e) :: lG)) kk x:=by
    intro k x kk hk hx hρ
    obtain ⟨h1,h2⟩:=hr.hr.blk k x hk
    refine ⟨h1,?_⟩
    rcases h2 with ⟨h2,h3⟩ | ⟨b,arr,ty,fz,h2,h3,h4,h5,h6⟩
    · exact .inl ⟨hρ.trans h2,h3⟩
    · refine .inr ⟨b,arr,ty,fz,hρ.trans h2,h3,h4,h5,fun q lc hq => ?_⟩
      obtain ⟨u,h7,h8⟩:=h6 q lc hq
      exact ⟨u,h7,keyL 4 lc u (keyR _ hx q lc hq) h8⟩
  have hlG:∀ k x,lkG lG k=some x→x.rows.all (refsC (refsIn (lG.map (·.1)) 4))=true:=by
    intro k x h
    rw [← lkG_mk] at h
    exact List.all_eq_true.1 hrG _ (lookup_mem h)
  have hinK:∀ k b,k ≠ i→ρ1 k=some b→(lG.map (·.1)).contains k=true∧ρ k=some b:=by
    intro k b hk h
    rw [hρk k hk] at h
    unfold onlyR at h
    split at h
    · rename_i hc;exact ⟨hc,h⟩
    · cases h
  refine ⟨S,ρ1,⟨⟨fun k x hk => ?_,fun k k2 b h1 h2 => ?_,fun k b h1 => ?_,fun k b h1 => ?_,hr.hr.lt,hr.hr.klt,fun k b p h1 hp => ?_⟩,hr.le,hr.gl,hr.size,fun t1 => ?_,hr.defers⟩,fun k hk=>.inl hk⟩
  · by_cases hki:k=i
    · subst hki
      have:x=e:=by
        have h2:lkG ((k,e) :: lG) k=some x:=hk
        rw [hGi] at h2;cases h2;rfl
      subst this
      exact hblk j x k hGj hre hρi
    · have hk2:lkG lG k=some x:=by
        have h2:lkG ((i,e) :: lG) k=some x:=hk
        rw [lkG_cons,if_neg hki] at h2;exact h2
      have hc:=hsome k x hk2
      exact hblk k x k (by rw [(hGk k hc).1];exact hk2) (hlG k x hk2) (hρK k hc)
  · by_cases h3:k=i
    · by_cases h4:k2=i
      · rw [h3,h4]
      · rw [h3,hρi] at h1
        obtain ⟨h5,h6⟩:=hinK k2 b h4 h2
        have:=hr.hr.inj j k2 b h1 h6
        rw [← this,hj] at h5;cases h5
    · by_cases h4:k2=i
      · rw [h4,hρi] at h2
        obtain ⟨h5,h6⟩:=hinK k b h3 h1
        have:=hr.hr.inj j k b h2 h6
        rw [← this,hj] at h5;cases h5
      · exact hr.hr.inj k k2 b (hinK k b h3 h1).2 (hinK k2 b h4 h2).2
  · by_cases h3:k=i
    · rw [h3,hρi] at h1;exact hr.hr.own j b h1
    · exact hr.hr.own k b (hinK k b h3 h1).2
  · by_cases h3:k=i
    · rw [h3];show lkG ((i,e) :: lG) i ≠ none;rw [hGi];simp
    · obtain ⟨h4,h5⟩:=hinK k b h3 h1
      have:=hr.hr.dom k b h5
      show lkG ((i,e) :: lG) k ≠ none
      rw [(hGk k h4).2,← (hGk k h4).1];exact this
  · by_cases h3:k=i
    · have:=base.lo k p hp;omega
    · exact hr.hr.pin k b p (hinK k b h3 h1).2 hp
  · show RepV w S ρ1 (lkG ((i,e) :: lG)) (lkT ((t,.b (.s (.own i n))) :: lT) t1) _
    have ht:=hr.tmps t1
    have ht2:RepV w S ρ (lkG ((j,e) :: lG)) (lkT ((t,.b (.s (.own j n))) :: lT) t1) (a.tmps.getD t1 undef):=ht
    rw [lkT_cons] at ht2 ⊢
    split
    · rename_i h3
      rw [if_pos h3] at ht2
      cases ht2 with
      | own _ _ e1 u hG hn hone hh =>
        rw [hGj] at hG;cases hG
        refine .own i n e _ hGi hn hone (fun h => ?_)
        obtain ⟨p,cp,k1,k2⟩:=hh h
        refine ⟨p,cp,k1,?_⟩
        rcases k2 with k2 | ⟨b,arr,ty,fz,k2,k3⟩
        · exact .inl k2
        · exact .inr ⟨b,arr,ty,fz,hρi.trans k2,k3⟩
    · rename_i h3
      rw [if_neg h3] at ht2
      cases hl:lT.lookup t1 with
      | none =>
        have:lkT lT t1=.dead:=by rw [← lkT_mk];simp [mkT,hl]
        rw [this];trivial
      | some v =>
        have:lkT lT t1=v:=by rw [← lkT_mk];simp [mkT,hl]
        rw [this] at ht2 ⊢
        exact RepV.mono hE (ht2.only (List.all_eq_true.1 hrT _ (lookup_mem hl)))
end
theorem nilI_ifc (t:TypeId) (a:Bool) (cells:List Sc):nilI (.ifc t a cells)=false:=rfl
instance:Inhabited Sc:=⟨.bool false⟩
end Go.Proofs.YtedibjgdangfnaaGreatDoor.V
end
