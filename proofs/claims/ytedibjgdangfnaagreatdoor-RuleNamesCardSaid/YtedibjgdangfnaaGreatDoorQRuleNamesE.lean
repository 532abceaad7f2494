/- Rows: what a row lays of type handles. -/
import Derived.Test.YtedibjgdangfnaaGreatDoorQRuleNamesD
import Derived.Lib.Join
import Derived.Test.YtedibjgdangfnaaGreatDoorQRuleNamesC
import Derived.Below
import Derived.OwnWalk
import Derived.Orders
import Derived.WalkKit
import Derived.Laws.Slices
import Derived.LaidMore
import Derived.FnData
section
namespace Go.Proofs.YtedibjgdangfnaaGreatDoor.V.M
set_option linter.unusedVariables false
set_option linter.unusedSimpArgs false
open Go Go.RowKit
abbrev intsN (l:List Nat):List Int:=l.map fun n:Nat=>(n:Int)
theorem mem_intsN (l:List Nat) (n:Nat):(n:Int)∈intsN l↔n∈l:=by
  rw [List.mem_map]
  constructor
  · rintro ⟨a,h1,h2⟩;rwa [show a=n by omega] at h1
  · intro h;exact ⟨n,h,rfl⟩
def onceN:List Nat→List Nat→List Nat
  | out,[]=>out
  | out,n :: r=>if n∈out then onceN out r else onceN (out++[n]) r
theorem onceN_mem:∀ (r out:List Nat) (n:Nat),n∈onceN out r↔n∈out∨n∈r
  | [],out,n=>by simp [onceN]
  | x :: r,out,n=>by
    rw [onceN]
    split
    · rename_i h
      rw [onceN_mem r out n,List.mem_cons]
      constructor
      · rintro (h1 | h1);exact .inl h1;exact .inr (.inr h1)
      · rintro (h1 | rfl | h1);exact .inl h1;exact .inl h;exact .inr h1
    · rw [onceN_mem r _ n,List.mem_append,List.mem_singleton,List.mem_cons,or_assoc]
theorem onceN_len:∀ (r out:List Nat),(onceN out r).length≤out.length+r.length
  | [],out=>by simp [onceN]
  | x :: r,out=>by
    rw [onceN,List.length_cons]
    split
    · have:=onceN_len r out;omega
    · have:=onceN_len r (out++[x]);rw [List.length_append,List.length_singleton] at this;omega
theorem words8_ok (w:List Str) (s:Str) (hs:s.length≤1000000) (hw:w.length≤1000000) (k:Nat):∀ (v m:Nat) (out:List Nat),v+k=w.length→k < m→out.length≤v →
    ∃ z,f_glob_words_takes_l8 w s m (v:Int) (intsN out)=some (z,intsN (onceN out (((w.drop v).filter fun x=>hasP s x).map List.length))):=by
  induction k with
  | zero =>
    intro v m out hv hm hl
    obtain ⟨m,rfl⟩:∃ k,m=k+1:=⟨m - 1,by omega⟩
    rw [f_glob_words_takes_l8,if_neg (by simp;omega),List.drop_eq_nil_of_le (by omega)]
    exact ⟨_,rfl⟩
  | succ k ih =>
    intro v m out hv hm hl
    obtain ⟨m,rfl⟩:∃ k,m=k+1:=⟨m - 1,by omega⟩
    rw [f_glob_words_takes_l8,if_pos (by simp;omega),ix_nat,List.getElem?_eq_getElem (by omega),Option.bind_some,hasPrefix_ok,Option.bind_some,List.drop_eq_getElem_cons (show v < w.length by omega),List.filter_cons,containsI _ _ (by simp;omega),wG_s (by omega)]
    have hlen:(intsN out).length=out.length:=by simp
    cases hp:hasP s (w[v]'(by omega)) with
    | false =>
      rw [show gx false (some (decide (((w[v]'(by omega)).length:Int)∈intsN out))) default=some default from rfl,Option.bind_some,if_neg (by simp),if_neg (by decide)]
      exact ih (v+1) m out (by omega) (by omega) (by omega)
    | true =>
      rw [show gx true (some (decide (((w[v]'(by omega)).length:Int)∈intsN out))) default=some (decide (((w[v]'(by omega)).length:Int)∈intsN out)) from rfl,Option.bind_some,if_pos rfl,List.map_cons,onceN]
      by_cases c:(w[v]'(by omega)).length∈out
      · rw [if_neg (by simp only [mem_intsN,c,decide_true];decide),if_pos c]
        exact ih (v+1) m out (by omega) (by omega) (by omega)
      · rw [if_pos (by simp only [mem_intsN,c,decide_false];decide),if_neg c,gd_t _ (by rw [hlen];omega)]
        have:=ih (v+1) m (out++[(w[v]'(by omega)).length]) (by omega) (by omega) (by simp;omega)
        rw [show intsN (out++[(w[v]'(by omega)).length])=intsN out++[((w[v]'(by omega)).length:Int)] by simp] at this
        exact this
theorem unSs_map:∀ l:List Str,unSs (l.map eS)=some l
  | []=>rfl
  | x :: l=>by rw [List.map_cons,unSs,unSs_map l];rfl
theorem inv_takes (p:Pc) (s:Str) (hs:s.length≤1000000) (hp:∀ l,p=.words l→l.length≤1000000):m_glob_takes p.enc=true∧∃ t:List Nat,f_inv_glob_takes p.enc s=some (intsN t)∧t.length≤10000000∧∀ n,n∈t↔n≤s.length∧p.is (s.take n)=true:=by
  cases p with
  | plain c=>exact ⟨rfl,_,plain_takes c s,by simp only [Pc.takes];split <;> simp,fun n=>Pc.takes_iff _ s n⟩
  | one=>exact ⟨rfl,_,one_takes s,by simp only [Pc.takes];split;simp;split <;> simp,fun n=>Pc.takes_iff _ s n⟩
  | many b=>exact ⟨rfl,_,many_takes b s hs,by have:=List.length_filter_le (fun n=>b || !((s.take n).contains 47)) (List.range (s.length+1));rw [List.length_range] at this;simp only [Pc.takes];omega,fun n=>Pc.takes_iff _ s n⟩
  | words l =>
    have hl:=hp l rfl
    refine ⟨rfl,?_⟩
    have e:f_inv_glob_takes (Pc.words l).enc s=f_glob_words_takes l s:=by
      show (if tyWords=tyWords then (unSs (l.map eS)).bind fun l=>f_glob_words_takes l s else none)=_
      rw [if_pos rfl,unSs_map,Option.bind_some]
    obtain ⟨z,q⟩:=words8_ok l s hs hl l.length 0 ((((l.length:Int):Int) - 0).toNat+1) [] (by omega) (by omega) (by simp)
    rw [show ((0:Nat):Int)=0 from rfl,List.drop_zero,show intsN []=[] from rfl] at q
    refine ⟨onceN [] ((l.filter fun x=>hasP s x).map List.length),?_,?_,fun n => ?_⟩
    · rw [e];unfold f_glob_words_takes;rw [q];rfl
    · have h1:=onceN_len ((l.filter fun x=>hasP s x).map List.length) []
      have h2:=List.length_filter_le (fun x=>hasP s x) l
      rw [List.length_map,List.length_nil] at h1;omega
    · rw [onceN_mem]
      have:=Pc.takes_iff (.words l) s n
      simp only [Pc.takes,List.mem_eraseDups] at this
      rw [← this];simp
def stepB (p:Pc) (s:Str) (f:Nat→Bool) (j:Nat):Bool:=(List.range (j+1)).any fun i=>f i && p.is ((s.drop i).take (j - i))
theorem stepB_iff (p:Pc) (s:Str) (f:Nat→Bool) (j:Nat):stepB p s f j=true↔∃ i,i≤j∧f i=true∧p.is ((s.drop i).take (j - i))=true:=by
  unfold stepB
  rw [List.any_eq_true]
  constructor
  · rintro ⟨i,h1,h2⟩
    rw [Bool.and_eq_true] at h2
    exact ⟨i,by have:=List.mem_range.mp h1;omega,h2.1,h2.2⟩
  · rintro ⟨i,h1,h2,h3⟩
    exact ⟨i,List.mem_range.mpr (by omega),by rw [h2,h3];rfl⟩
theorem match16_ok (l:List Sc) (s:Str) (v21:Int) (at_:List Bool) (x2:Sc) (v31 N:Nat) (hN:N≤1000000) (t:List Nat) (ht:∀ n∈t,v31+n≤N) (htl:t.length≤10000000) (k:Nat):∀ (v m:Nat) (next:List Bool),v+k=t.length→k < m→next.length=N+1 →
    ∃ z n2,f_glob_match_l16 l s v21 at_ x2 (v31:Int) (intsN t) m (v:Int) next=some (z,n2)∧n2.length=N+1∧∀ j,n2[j]? = some true↔next[j]? = some true∨∃ n,n∈t.drop v∧v31+n=j:=by
  induction k with
  | zero =>
    intro v m next hv hm hn
    obtain ⟨m,rfl⟩:∃ k,m=k+1:=⟨m - 1,by omega⟩
    rw [f_glob_match_l16,if_neg (by simp;omega),List.drop_eq_nil_of_le (by omega)]
    exact ⟨_,next,rfl,hn,fun j=>by simp⟩
  | succ k ih =>
    intro v m next hv hm hn
    obtain ⟨m,rfl⟩:∃ k,m=k+1:=⟨m - 1,by omega⟩
    have hb:=ht _ (List.getElem_mem (show v < t.length by omega))
    have ex:ix (intsN t) (v:Int)=some ((t[v]'(by omega):Nat):Int):=by rw [ix_nat,List.getElem?_map,List.getElem?_eq_getElem (by omega)];rfl
    have w:IntKind.i64.wrap ((v31:Int)+((t[v]'(by omega):Nat):Int))=((v31+t[v]'(by omega):Nat):Int):=by rw [w_i64 (by omega) (by omega)];omega
    rw [f_glob_match_l16,if_pos (by simp;omega),ex,Option.bind_some,w,ix_nat,List.getElem?_eq_getElem (by omega),Option.bind_some,Int.toNat_natCast,wG_s (by omega)]
    obtain ⟨z,n2,q1,q2,q3⟩:=ih (v+1) m (next.set (v31+t[v]'(by omega)) true) (by omega) (by omega) (by rw [List.length_set];exact hn)
    refine ⟨z,n2,q1,q2,fun j => ?_⟩
    rw [q3 j,List.drop_eq_getElem_cons (show v < t.length by omega)]
    by_cases c:v31+t[v]'(by omega)=j
    · rw [← c,List.getElem?_set_self (by omega)]
      exact ⟨fun _=>.inr ⟨_,List.mem_cons_self ..,rfl⟩,fun _=>.inl rfl⟩
    · rw [List.getElem?_set_ne c]
      constructor
      · rintro (h | ⟨n,h1,h2⟩)
        · exact .inl h
        · exact .inr ⟨n,List.mem_cons_of_mem _ h1,h2⟩
      · rintro (h | ⟨n,h1,h2⟩)
        · exact .inl h
        · rcases List.mem_cons.mp h1 with rfl | h1
          · exact absurd h2 c
          · exact .inr ⟨n,h1,h2⟩
def Bools (f:Nat→Bool) (N:Nat) (l:List Bool):Prop:=l.length=N+1∧∀ j,j≤N→(l[j]? = some true↔f j=true)
theorem match18_ok (l:List Sc) (s:Str) (v21:Int) (hs:s.length≤1000) (at_:List Bool) (p:Pc) (hp:∀ l,p=.words l→l.length≤1000000) (f:Nat→Bool) (hat:Bools f s.length at_) (k:Nat):∀ (v m:Nat) (next:List Bool),v+k=s.length+1→k < m→next.length=s.length+1 →
    ∃ z n2,f_glob_match_l18 l s v21 at_ p.enc m (v:Int) next=some (z,n2)∧n2.length=s.length+1∧∀ j,j≤s.length→(n2[j]? = some true↔next[j]? = some true∨∃ i,v≤i∧i≤j∧f i=true∧p.is ((s.drop i).take (j - i))=true):=by
  induction k with
  | zero =>
    intro v m next hv hm hn
    obtain ⟨m,rfl⟩:∃ k,m=k+1:=⟨m - 1,by omega⟩
    rw [f_glob_match_l18,hat.1,if_neg (by simp;omega)]
    refine ⟨_,next,rfl,hn,fun j hj => ?_⟩
    constructor
    · exact .inl
    · rintro (h | ⟨i,h1,h2,_⟩)
      · exact h
      · omega
  | succ k ih =>
    intro v m next hv hm hn
    obtain ⟨m,rfl⟩:∃ k,m=k+1:=⟨m - 1,by omega⟩
    have hv2:v < at_.length:=by rw [hat.1];omega
    rw [f_glob_match_l18,if_pos (by rw [hat.1];simp;omega),ix_nat,List.getElem?_eq_getElem hv2,Option.bind_some,wG_s (by omega)]
    have hf:=hat.2 v (by omega)
    rw [List.getElem?_eq_getElem hv2,Option.some.injEq] at hf
    cases hb:at_[v]'hv2 with
    | false =>
      rw [if_pos (by decide)]
      obtain ⟨z,n2,q1,q2,q3⟩:=ih (v+1) m next (by omega) (by omega) hn
      refine ⟨z,n2,q1,q2,fun j hj => ?_⟩
      rw [q3 j hj]
      constructor
      · rintro (h | ⟨i,h1,h2⟩)
        · exact .inl h
        · exact .inr ⟨i,by omega,h2⟩
      · rintro (h | ⟨i,h1,h2,h3,h4⟩)
        · exact .inl h
        · by_cases c:i=v
          · subst c;rw [hb] at hf;exact absurd (hf.mpr h3) (by decide)
          · exact .inr ⟨i,by omega,h2,h3,h4⟩
    | true =>
      have hfv:f v=true:=hf.mp hb
      obtain ⟨hm1,t,ht1,htl,ht2⟩:=inv_takes p (s.drop v) (by rw [List.length_drop];omega) hp
      rw [if_neg (by decide),gd_t _ (by omega),gd_t _ hm1,cut_all,ht1,Option.bind_some]
      obtain ⟨z1,n1,r1,r2,r3⟩:=match16_ok l s v21 at_ p.enc v s.length (by omega) t (fun n hn=>by have:=((ht2 n).mp hn).1;rw [List.length_drop] at this;omega) htl t.length 0 ((((intsN t).length:Int) - 0).toNat+1) next (by omega) (by simp) hn
      rw [show ((0:Nat):Int)=0 from rfl] at r1
      rw [r1,Option.bind_some]
      obtain ⟨z,n2,q1,q2,q3⟩:=ih (v+1) m n1 (by omega) (by omega) r2
      refine ⟨z,n2,q1,q2,fun j hj => ?_⟩
      rw [q3 j hj,r3 j,List.drop_zero]
      constructor
      · rintro ((h | ⟨n,h1,h2⟩) | ⟨i,h1,h2⟩)
        · exact .inl h
        · have h3:=(ht2 n).mp h1
          refine .inr ⟨v,Nat.le_refl _,by omega,hfv,?_⟩
          rw [show j - v=n by omega];exact h3.2
        · exact .inr ⟨i,by omega,h2⟩
      · rintro (h | ⟨i,h1,h2,h3,h4⟩)
        · exact .inl (.inl h)
        · by_cases c:i=v
          · subst c
            exact .inl (.inr ⟨j - i,(ht2 _).mpr ⟨by rw [List.length_drop];omega,h4⟩,by omega⟩)
          · exact .inr ⟨i,by omega,h2,h3,h4⟩
end Go.Proofs.YtedibjgdangfnaaGreatDoor.V.M
end

section
namespace Go.Proofs.YtedibjgdangfnaaGreatDoor.V.M
set_option linter.unusedVariables false
set_option linter.unusedSimpArgs false
open Go Go.RowKit
def runB (l:List Pc) (s:Str) (f:Nat→Bool):Nat→Bool:=l.foldl (fun f p=>stepB p s f) f
def okW (l:List Pc):Prop:=∀ p∈l,∀ w,p=.words w→w.length≤1000000
theorem match21_ok (L:List Pc) (s:Str) (hs:s.length≤1000) (hw:okW L) (hl:L.length≤1000000) (k:Nat):∀ (v m:Nat) (at_:List Bool) (f:Nat→Bool),v+k=L.length→k < m→Bools f s.length at_ →
    ∃ z a2,f_glob_match_l21 (L.map Pc.enc) s m (v:Int) at_=some (z,a2)∧Bools (runB (L.drop v) s f) s.length a2:=by
  induction k with
  | zero =>
    intro v m at_ f hv hm hb
    obtain ⟨m,rfl⟩:∃ k,m=k+1:=⟨m - 1,by omega⟩
    rw [f_glob_match_l21,if_neg (by simp;omega),List.drop_eq_nil_of_le (by omega)]
    exact ⟨_,at_,rfl,hb⟩
  | succ k ih =>
    intro v m at_ f hv hm hb
    obtain ⟨m,rfl⟩:∃ k,m=k+1:=⟨m - 1,by omega⟩
    have ex:ix (L.map Pc.enc) (v:Int)=some (L[v]'(by omega)).enc:=by rw [ix_nat,List.getElem?_map,List.getElem?_eq_getElem (by omega)];rfl
    rw [f_glob_match_l21,if_pos (by simp;omega),ex,Option.bind_some,wG_s (by omega),gd_t _ (by omega),Int.toNat_natCast,wG_s (by omega)]
    obtain ⟨z,n2,q1,q2,q3⟩:=match18_ok (L.map Pc.enc) s (v:Int) hs at_ (L[v]'(by omega)) (hw _ (List.getElem_mem _)) f hb (s.length+1) 0 ((((at_.length:Int):Int) - 0).toNat+1) (List.replicate (s.length+1) false) (by omega) (by rw [hb.1];omega) (by simp)
    rw [show ((0:Nat):Int)=0 from rfl] at q1
    rw [q1,Option.bind_some]
    have hb2:Bools (stepB (L[v]'(by omega)) s f) s.length n2:=by
      refine ⟨q2,fun j hj => ?_⟩
      rw [q3 j hj,stepB_iff]
      constructor
      · rintro (h | ⟨i,_,h1,h2⟩)
        · rw [List.getElem?_replicate] at h;split at h <;> cases h
        · exact ⟨i,h1,h2⟩
      · rintro ⟨i,h1,h2⟩;exact .inr ⟨i,Nat.zero_le _,h1,h2⟩
    obtain ⟨z2,a2,r1,r2⟩:=ih (v+1) m n2 _ (by omega) (by omega) hb2
    refine ⟨z2,a2,r1,?_⟩
    rw [List.drop_eq_getElem_cons (show v < L.length by omega)];exact r2
theorem match_ok (L:List Pc) (s:Str) (hs:s.length≤1000) (hw:okW L) (hl:L.length≤1000000):f_glob_match (L.map Pc.enc) s=some (runB L s (fun i=>i == 0) s.length):=by
  unfold f_glob_match
  rw [wG_s (by omega),gd_t _ (by omega),Int.toNat_natCast,show ix (List.replicate (s.length+1) false) 0=some false from rfl,Option.bind_some]
  have hb:Bools (fun i=>i == 0) s.length ((List.replicate (s.length+1) false).set 0 true):=by
    refine ⟨by simp,fun j hj => ?_⟩
    by_cases c:j=0
    · subst c;rw [List.getElem?_set_self (by simp)];simp
    · rw [List.getElem?_set_ne (by omega),List.getElem?_replicate,if_pos (by omega)];simp [c]
  obtain ⟨z,a2,q1,q2⟩:=match21_ok L s hs hw hl L.length 0 (((((L.map Pc.enc).length:Int):Int) - 0).toNat+1) _ _ (by omega) (by simp) hb
  rw [show ((0:Nat):Int)=0 from rfl] at q1
  rw [q1,Option.bind_some,List.drop_zero] at *
  have hlt:s.length < a2.length:=by rw [q2.1];omega
  have:=q2.2 s.length (Nat.le_refl _)
  rw [ix_nat,List.getElem?_eq_getElem hlt,Option.bind_some]
  rw [List.getElem?_eq_getElem hlt,Option.some.injEq] at this
  congr 1
  rw [Bool.eq_iff_iff];exact this
def piecesG:Nat→Str→List Pc→Option (List Pc)
  | 0,_,_=>none
  | m + 1,s,out=>match s with
    | []=>some out
    | c :: r =>
      if hasP (c :: r) [42,42] then piecesG m (r.drop 1) (out++[.many true])
      else if c=42 then piecesG m r (out++[.many false])
      else if c=63 then piecesG m r (out++[.one])
      else if c=123 then
        if (cutS r 125).2.2=false∨123∈(cutS r 125).1 then none
        else piecesG m (r.drop ((cutS r 125).1.length+1)) (out++[.words (splitOnB 44 (cutS r 125).1)])
      else if c=125 then none
      else piecesG m r (out++[.plain c])
def badC (c:UInt8):Bool:=decide (c.toNat < 33) || decide (126 < c.toNat)
def piecesS (p:Str):Option (List Pc):=if p=[]∨128 < p.length∨p.any badC=true then none else piecesG (p.length+1) p []
theorem cutS_len (s:Str) (c:UInt8):(cutS s c).1.length≤s.length:=by
  unfold cutS;split
  · rw [List.length_take];omega
  · exact Nat.le_refl _
theorem cutS_lt {s:Str} {c:UInt8} (h:(cutS s c).2.2=true):(cutS s c).1.length+1≤s.length:=by
  unfold cutS at h ⊢
  split
  · rename_i h1
    obtain ⟨i,e1,e2,_⟩:=indexByte_at h1
    rw [e1,List.length_take];omega
  · rename_i h1;rw [if_neg h1] at h;cases h
def resX (o:Option (List Pc)):(Str×(List Sc)) ⊕ ((List Sc)×Bool):=match o with | some l=>.inl ([],l.map Pc.enc) | none=>.inr ([],false)
theorem bnG (c:UInt8) (n:Nat) (h:n < 256):(bn c == (n:Int))=decide (c=UInt8.ofNat n):=by
  have e:(n:Int)=bn (UInt8.ofNat n):=by unfold bn;rw [UInt8.toNat_ofNat'];congr 1;omega
  rw [e,bn_eqG]
theorem pieces24_ok (b:Bool) (m:Nat):∀ (s:Str) (out:List Pc),s.length < m→s.length≤1000→out.length+s.length≤2000→f_glob_pieces_l24 b m s (out.map Pc.enc)=some (resX (piecesG m s out)):=by
  induction m with
  | zero=>intro s out h _ _;omega
  | succ m ih =>
    intro s out hm hs ho
    rw [f_glob_pieces_l24]
    cases s with
    | nil=>rfl
    | cons c r =>
      simp only [List.length_cons] at hm hs ho
      have go:=fun (x:Pc) (u:Str) (hu:u.length≤r.length)=>ih u (out++[x]) (by omega) (by omega) (by simp;omega)
      simp only [List.map_append,List.map_cons,List.map_nil] at go
      have hl:(out.map Pc.enc).length=out.length:=List.length_map _
      rw [if_pos (by simp),show ix (c :: r) 0=some c from rfl,Option.bind_some,hasPrefix_ok,Option.bind_some,piecesG]
      by_cases h0:hasP (c :: r) [42,42]=true
      · have h2:2≤(c :: r).length:=(hasP_iff.mp h0).1
        rw [if_pos h0,if_pos h0,gd_t _ (by omega),gd_t _ (by omega),show cut (c :: r) 2 (((c :: r).length:Nat):Int)=r.drop 1 from cut_all (c :: r) 2]
        exact go (.many true) _ (by rw [List.length_drop];omega)
      · rw [if_neg h0,if_neg h0]
        rw [show ((bn c) == 42)=decide (c=42) from bnG c 42 (by decide),show ((bn c) == 63)=decide (c=63) from bnG c 63 (by decide),show ((bn c) == 123)=decide (c=123) from bnG c 123 (by decide),show ((bn c) == 125)=decide (c=125) from bnG c 125 (by decide)]
        have e1:cut (c :: r) 1 (((c :: r).length:Nat):Int)=r:=cut_all (c :: r) 1
        by_cases h1:c=42
        · rw [if_pos (decide_eq_true h1),if_pos h1,gd_t _ (by omega),gd_t _ (by simp;omega),e1]
          exact go (.many false) _ (Nat.le_refl _)
        · rw [if_neg (by simpa using h1),if_neg h1]
          by_cases h2:c=63
          · rw [if_pos (decide_eq_true h2),if_pos h2,gd_t _ (by omega),gd_t _ (by simp;omega),e1]
            exact go .one _ (Nat.le_refl _)
          · rw [if_neg (by simpa using h2),if_neg h2]
            by_cases h3:c=123
            · have hc:=cutS_len r 125
              rw [if_pos (decide_eq_true h3),if_pos h3,gd_t _ (by simp;omega),e1,cut_ok r 125 (by omega),Option.bind_some,contains_ok]
              cases hx:(cutS r 125).2.2 with
              | false=>rw [if_pos (.inl rfl)];rfl
              | true =>
                have hlt:=cutS_lt hx
                rw [show gx (!(!true)) (some (decide ((123:UInt8)∈(cutS r 125).1))) default=some (decide ((123:UInt8)∈(cutS r 125).1)) from rfl,Option.bind_some]
                by_cases h4:123∈(cutS r 125).1
                · rw [if_pos (by simp [h4]),if_pos (.inr h4)];rfl
                · rw [if_neg (by simp [h4]),if_neg (by rintro (h5 | h5);cases h5;exact h4 h5),split_ok _ _ (by omega),Option.bind_some,gd_t _ (by omega)]
                  have w:IntKind.i64.wrap (((cutS r 125).1.length:Int)+2)=(((cutS r 125).1.length+2:Nat):Int):=by rw [w_i64 (by omega) (by omega)];omega
                  rw [w,gd_t _ (by simp;omega),show cut (c :: r) (((cutS r 125).1.length+2:Nat):Int) (((c :: r).length:Nat):Int)=r.drop ((cutS r 125).1.length+1) from (cut_all (c :: r) _).trans rfl]
                  exact go (.words (splitOnB 44 (cutS r 125).1)) _ (by rw [List.length_drop];omega)
            · rw [if_neg (by simpa using h3),if_neg h3]
              by_cases h4:c=125
              · rw [if_pos (decide_eq_true h4),if_pos h4];rfl
              · rw [if_neg (by simpa using h4),if_neg h4,gd_t _ (by omega),gd_t _ (by simp;omega),e1]
                exact go (.plain c) _ (Nat.le_refl _)
def resP (o:Option (List Pc)):List Sc×Bool:=match o with | some l=>(l.map Pc.enc,true) | none=>([],false)
theorem pieces_ok (p:Str) (hp:p.length < 4611686018427387904):f_glob_pieces p=some (resP (piecesS p)):=by
  unfold f_glob_pieces piecesS
  by_cases h0:p=[]
  · subst h0;rfl
  · rw [if_neg (by simpa using h0)]
    by_cases h1:128 < p.length
    · rw [if_pos (by simp;omega),if_pos (.inr (.inl h1))];rfl
    · rw [if_neg (by simp;omega),containsB (p.map bn) f_glob_pieces_1 (fun c=>decide (c < 33) || decide (c > 126)) (fun x=>rfl) (by simp;omega),Option.bind_some,Option.bind_some]
      have e:(p.map bn).any (fun c=>decide (c < 33) || decide (c > 126))=p.any badC:=by
        rw [List.any_map]
        congr 1
        funext c
        unfold badC bn
        simp only [Function.comp]
        congr 1
        · rw [decide_eq_decide];omega
        · rw [decide_eq_decide];omega
      rw [e]
      cases h2:p.any badC with
      | true=>rw [if_pos rfl,if_pos (.inr (.inr rfl))];rfl
      | false =>
        rw [if_neg (by decide),if_neg (by rintro (h | h | h);exact h0 h;exact h1 h;cases h)]
        have q:=pieces24_ok false (p.length+1) p [] (by omega) (by omega) (by simp;omega)
        rw [List.map_nil] at q
        rw [q,Option.bind_some]
        cases piecesG (p.length+1) p [] <;> rfl
theorem piecesG_okW:∀ (m:Nat) (s:Str) (out l:List Pc),piecesG m s out=some l→s.length≤1000→okW out→out.length+s.length≤100000→okW l∧l.length≤out.length+s.length
  | 0,_,_,_,h,_,_,_=>by cases h
  | m + 1, s, out,l,h,hs,ho,hl=>by
    cases s with
    | nil=>rw [piecesG] at h;cases h;exact ⟨ho,by simp⟩
    | cons c r =>
      rw [piecesG] at h
      simp only [List.length_cons] at hs hl ⊢
      have app:∀ x:Pc,(∀ w,x=.words w→w.length≤1000000)→okW (out++[x]):=by
        intro x hx p hp
        rcases List.mem_append.mp hp with hp | hp
        · exact ho p hp
        · rw [List.mem_singleton.mp hp];exact hx
      have go:=fun (x:Pc) (hx:∀ w,x=.words w→w.length≤1000000) (u:Str) (hu:u.length≤r.length) (h:piecesG m u (out++[x])=some l)=>by
        have:=piecesG_okW m u (out++[x]) l h (by omega) (app x hx) (by simp;omega)
        simp only [List.length_append,List.length_singleton] at this
        exact (⟨this.1,by omega⟩:okW l∧l.length≤out.length+(r.length+1))
      split at h
      · exact go _ (fun w h=>by cases h) _ (by rw [List.length_drop];omega) h
      · split at h
        · exact go _ (fun w h=>by cases h) _ (Nat.le_refl _) h
        · split at h
          · exact go _ (fun w h=>by cases h) _ (Nat.le_refl _) h
          · split at h
            · split at h
              · cases h
              · refine go _ (fun w h => ?_) _ (by rw [List.length_drop];omega) h
                cases h
                have h1:=count_split 44 (cutS r 125).1
                have h2:(cutS r 125).1.count 44≤(cutS r 125).1.length:=List.count_le_length
                have h3:=cutS_len r 125
                omega
            · split at h
              · cases h
              · exact go _ (fun w h=>by cases h) _ (Nat.le_refl _) h
theorem piecesS_okW {p:Str} {l:List Pc} (h:piecesS p=some l):okW l∧l.length≤128:=by
  unfold piecesS at h
  split at h
  · cases h
  · rename_i hn
    have:=piecesG_okW _ _ _ _ h (by omega) (by intro p hp;cases hp) (by simp;omega)
    simp only [List.length_nil] at this
    exact ⟨this.1,by omega⟩
def matchS (p s:Str):Bool:=match piecesS p with
  | some l=>decide (s.length≤200) && runB l s (fun i=>i == 0) s.length
  | none=>false
theorem Match_ok (p s:Str) (hp:p.length < 4611686018427387904):f_glob_Match p s=some (matchS p s):=by
  unfold f_glob_Match matchS
  rw [pieces_ok p hp,Option.bind_some]
  cases h:piecesS p with
  | none=>rfl
  | some l =>
    obtain ⟨h1,h2⟩:=piecesS_okW h
    dsimp only [resP]
    by_cases c:s.length≤200
    · rw [show decide ((s.length:Int)≤200)=true from decide_eq_true (by omega),decide_eq_true c,match_ok l s (by omega) h1 (by omega)];rfl
    · rw [show decide ((s.length:Int)≤200)=false from decide_eq_false (by omega),decide_eq_false c];rfl
theorem Right_ok (p:Str) (hp:p.length < 4611686018427387904):f_glob_Right p=some (piecesS p).isSome:=by
  unfold f_glob_Right
  rw [pieces_ok p hp,Option.bind_some]
  cases piecesS p <;> rfl
end Go.Proofs.YtedibjgdangfnaaGreatDoor.V.M
end

section
namespace Go.Proofs.YtedibjgdangfnaaGreatDoor.V.M
set_option linter.unusedVariables false
set_option linter.unusedSimpArgs false
open Go Go.RowKit
theorem gx_some {α:Type} (γ:Bool) (x d:α):gx γ (some x) d=some (bif γ then x else d):=by cases γ <;> rfl
end Go.Proofs.YtedibjgdangfnaaGreatDoor.V.M
end

section
namespace Go.Proofs.YtedibjgdangfnaaGreatDoor.V.M
set_option linter.unusedVariables false
set_option linter.unusedSimpArgs false
open Go Go.RowKit
def someR (s:Str) (l:List Str):Bool×Int:=if 200 < s.length∨(l.any fun p => !(piecesS p).isSome)=true then (false,1) else ((l.length == 0) || l.any (fun p=>matchS p s),0)
theorem some_ok (s:Str) (l:List Str) (hl:l.length < 1000000) (hp:∀ p∈l,p.length < 4611686018427387904):f_glob_Some s l=some (someR s l):=by
  unfold f_glob_Some someR
  rw [containsGS l f_glob_Some_1 (fun p => !(piecesS p).isSome) (fun x hx=>by unfold f_glob_Some_1;rw [Right_ok _ (hp x hx)];rfl) (by omega),gx_some,Option.bind_some]
  rw [containsGS l (fun a0=>f_glob_Some_2 a0 s) (fun p=>matchS p s) (fun x hx=>by show (f_glob_Match x s).bind _=_;rw [Match_ok _ _ (hp x hx)];rfl) (by omega),gx_some]
  have e0:((l.length:Int) == 0)=(l.length == 0):=by rw [Bool.eq_iff_iff];simp
  by_cases c:200 < s.length
  · rw [if_pos (by simp;omega),if_pos (.inl c)]
  · rw [show decide ((s.length:Int) > 200)=false from decide_eq_false (by omega)]
    cases h:l.any fun p => !(piecesS p).isSome with
    | true=>rw [if_pos (by rfl),if_pos (.inr rfl)]
    | false =>
      rw [if_neg (by decide),if_neg (by rintro (h | h);exact c h;cases h),Option.bind_some,e0]
      cases (l.length == 0) <;> rfl
end Go.Proofs.YtedibjgdangfnaaGreatDoor.V.M
end

section
namespace Go.Proofs.YtedibjgdangfnaaGreatDoor.V.M
set_option linter.unusedVariables false
set_option linter.unusedSimpArgs false
open Go Go.RowKit
end Go.Proofs.YtedibjgdangfnaaGreatDoor.V.M
end

section
namespace Go.Proofs.YtedibjgdangfnaaGreatDoor.V.M
set_option linter.unusedVariables false
set_option linter.unusedSimpArgs false
open Go Go.RowKit
end Go.Proofs.YtedibjgdangfnaaGreatDoor.V.M
end

section
namespace Go.Proofs.YtedibjgdangfnaaGreatDoor.V.M
set_option linter.unusedVariables false
set_option linter.unusedSimpArgs false
open Go Go.RowKit
def sm (c:UInt8):Bool:=(decide (97≤c.toNat) && decide (c.toNat≤122)) || (decide (48≤c.toNat) && decide (c.toNat≤57))
theorem nsmall_ok (c:UInt8):f_name_small (bn c)=some (sm c):=u8_all (P:=fun c=>f_name_small (bn c)=some (sm c)) (by kernel_rfl) c
theorem bn45 (c:UInt8):(bn c == 45)=decide (c=45):=u8_all (P:=fun c=>(bn c == 45)=decide (c=45)) (by kernel_rfl) c
theorem bn46 (c:UInt8):(bn c == 46)=decide (c=46):=u8_all (P:=fun c=>(bn c == 46)=decide (c=46)) (by kernel_rfl) c
theorem bn95 (c:UInt8):(bn c == 95)=decide (c=95):=u8_all (P:=fun c=>(bn c == 95)=decide (c=95)) (by kernel_rfl) c
def partGo:Nat→UInt8→Str→Bool
  | run,_,[]=>run == 0
  | run,p,c :: l=>if sm c then partGo 0 c l else if c=45 then (if run ≠ 0∧p ≠ 45 then false else partGo (run+1) c l) else if c=95∧run=1∧p=95 then partGo (run+1) c l else if (c=95∨c=46)∧run=0 then partGo (run+1) c l else false
def partS:Str→Bool
  | []=>false
  | c :: l=>sm c && partGo 0 c l
theorem ix_app {α:Type} (pre:List α) (c:α) (l:List α) (n:Nat) (hn:n=pre.length):ix (pre++c :: l) (n:Int)=some c:=by subst hn;rw [ix_nat];simp
theorem getD_app (pre:Str) (c:UInt8) (l:Str) (n:Nat) (hn:n=pre.length):(pre++c :: l).getD n 0=c:=by subst hn;simp
theorem w_s {n:Nat} (h:n+1 < 9223372036854775808):IntKind.i64.wrap ((n:Int)+1)=((n+1:Nat):Int):=by rw [w_i64 (by omega) (by omega)];rfl
theorem w_p {n:Nat} (h:n < 9223372036854775808):IntKind.i64.wrap (((n+1:Nat):Int) - 1)=(n:Int):=by rw [w_i64 (by omega) (by omega)];omega
theorem l21_step (s pre l:Str) (p c:UInt8) (run m:Nat) (hs:s=pre++p :: c :: l) (hb:s.length < 4611686018427387904) (hr:run < 4611686018427387904) :
    f_name_part_l21 s (m+1) run ((pre.length+1:Nat):Int)=if sm c then f_name_part_l21 s m ((0:Nat):Int) ((pre.length+1+1:Nat):Int) else if c=45 then (if run ≠ 0∧p ≠ 45 then some (.inr false) else f_name_part_l21 s m ((run+1:Nat):Int) ((pre.length+1+1:Nat):Int)) else if c=95∧run=1∧p=95 then f_name_part_l21 s m ((run+1:Nat):Int) ((pre.length+1+1:Nat):Int) else if (c=95∨c=46)∧run=0 then f_name_part_l21 s m ((run+1:Nat):Int) ((pre.length+1+1:Nat):Int) else some (.inr false):=by
  have hl:s.length=pre.length+2+l.length:=by rw [hs];simp;omega
  rw [f_name_part_l21.eq_2,if_pos (by simp;omega)]
  have e1:ix s ((pre.length+1:Nat):Int)=some c:=by rw [hs,show pre++p :: c :: l=(pre++[p])++c :: l by simp];exact ix_app _ _ _ _ (by simp)
  have e2:s.getD pre.length 0=p:=by rw [hs];exact getD_app _ _ _ _ rfl
  rw [e1,Option.bind_some,nsmall_ok,Option.bind_some,w_s (by omega),w_s (by omega),w_p (by omega),Int.toNat_natCast,e2,bn45,bn95,bn46,show (bn p != 45) = !(decide (p=45)) by rw [bne,bn45],bn95]
  by_cases h1:sm c=true
  · rw [if_pos h1,if_pos h1];rfl
  · rw [if_neg h1,if_neg h1]
    by_cases h2:c=45
    · subst h2
      rw [if_pos rfl,if_pos (by decide),gd_t _ (fun _=>by omega)]
      by_cases h3:run ≠ 0∧p ≠ 45
      · rw [if_pos h3,if_pos (by simp [h3];omega)]
      · rw [if_neg h3,if_neg (by simp at h3 ⊢;intro h;exact h3 (by omega)),if_neg (by simp;omega)]
    · rw [if_neg h2,if_neg (by simpa using h2),gd_t _ (fun _=>by omega)]
      have hz:(((pre.length+1:Nat):Int) == 0)=false:=by simp;omega
      by_cases h4:c=95∧run=1∧p=95
      · rw [if_pos h4]
        obtain ⟨rfl,rfl,rfl⟩:=h4
        simp [hz];intro h;omega
      · rw [if_neg h4,if_neg (by simp at h4 ⊢;intro a b;exact h4 a (by omega))]
        by_cases h5:(c=95∨c=46)∧run=0
        · rw [if_pos h5]
          obtain ⟨h5,rfl⟩:=h5
          rcases h5 with rfl | rfl
          · simp [hz];intro h;omega
          · simp [hz];intro h;omega
        · rw [if_neg h5]
          by_cases h6:c=95
          · rw [if_pos (by simpa using h6),if_pos (by simp;simp [h6] at h5;omega)]
          · rw [if_neg (by simpa using h6)]
            by_cases h7:c=46
            · rw [if_pos (by simpa using h7),if_pos (by simp;simp [h7] at h5;omega)]
            · rw [if_neg (by simpa using h7)]
theorem l21_ok (s:Str) (hb:s.length < 4611686018427387904):∀ (suf pre:Str) (p:UInt8) (run m:Nat),s=pre++p :: suf→run+suf.length≤s.length→suf.length < m →
    (partGo run p suf=false∧f_name_part_l21 s m run ((pre.length+1:Nat):Int)=some (.inr false))∨∃ r:Nat,f_name_part_l21 s m run ((pre.length+1:Nat):Int)=some (.inl ((r:Int),(s.length:Int)))∧partGo run p suf=(r == 0):=by
  intro suf
  induction suf with
  | nil =>
    intro pre p run m hs hr hm
    obtain ⟨m,rfl⟩:∃ k,m=k+1:=⟨m - 1,by omega⟩
    have hl:s.length=pre.length+1:=by rw [hs];simp
    refine .inr ⟨run,?_,rfl⟩
    rw [f_name_part_l21.eq_2,if_neg (by simp;omega),hl]
  | cons c l ih =>
    intro pre p run m hs hr hm
    obtain ⟨m,rfl⟩:∃ k,m=k+1:=⟨m - 1,by omega⟩
    have hl:s.length=pre.length+2+l.length:=by rw [hs];simp;omega
    have hs2:s=(pre++[p])++c :: l:=by rw [hs];simp
    simp only [List.length_cons] at hr hm
    rw [l21_step s pre l p c run m hs hb (by omega),partGo]
    have key:=fun (r:Nat) (h:r+l.length≤s.length)=>ih (pre++[p]) c r m hs2 h (by omega)
    simp only [List.length_append,List.length_singleton] at key
    by_cases h1:sm c=true
    · rw [if_pos h1,if_pos h1];exact key 0 (by omega)
    · rw [if_neg h1,if_neg h1]
      by_cases h2:c=45
      · rw [if_pos h2,if_pos h2]
        by_cases h3:run ≠ 0∧p ≠ 45
        · rw [if_pos h3,if_pos h3];exact .inl ⟨rfl,rfl⟩
        · rw [if_neg h3,if_neg h3];exact key (run+1) (by omega)
      · rw [if_neg h2,if_neg h2]
        by_cases h4:c=95∧run=1∧p=95
        · rw [if_pos h4,if_pos h4];exact key (run+1) (by omega)
        · rw [if_neg h4,if_neg h4]
          by_cases h5:(c=95∨c=46)∧run=0
          · rw [if_pos h5,if_pos h5];exact key (run+1) (by omega)
          · rw [if_neg h5,if_neg h5];exact .inl ⟨rfl,rfl⟩
theorem part_first (c:UInt8) (l:Str) (m:Nat) (hb:(c :: l).length < 4611686018427387904):f_name_part_l21 (c :: l) (m+1) 0 0=if sm c then f_name_part_l21 (c :: l) m ((0:Nat):Int) ((0+1:Nat):Int) else some (.inr false):=by
  rw [f_name_part_l21.eq_2,if_pos (by simp),show ix (c :: l) 0=some c from rfl,Option.bind_some,nsmall_ok,Option.bind_some]
  by_cases h1:sm c=true
  · rw [if_pos h1,if_pos h1];rfl
  · rw [if_neg h1,if_neg h1,show (decide ((0:Int) > 0))=false from rfl,show ((0:Int) == 1)=false from rfl,show ((0:Int) == 0)=true from rfl]
    simp only [Bool.and_false,Bool.false_and,if_true,Bool.false_eq_true,if_false]
    rw [gd_t _ (fun h=>by cases h),gd_t _ (fun h=>by cases h)]
    split
    · rfl
    · split
      · rfl
      · split <;> rfl
theorem part_ok (s:Str) (hb:s.length < 4611686018427387904):f_name_part s=some (partS s):=by
  unfold f_name_part
  cases s with
  | nil=>rfl
  | cons c l =>
    rw [show ((((c :: l).length:Int):Int) - 0).toNat+1=(l.length+1)+1 by simp,part_first c l _ hb,partS]
    by_cases h1:sm c=true
    · rw [if_pos h1,h1]
      rcases l21_ok (c :: l) hb l [] c 0 (l.length+1) rfl (by simp) (by omega) with ⟨h2,h3⟩ | ⟨r,h2,h3⟩
      · simp only [List.length_nil] at h3
        rw [h3,Option.bind_some,h2];rfl
      · simp only [List.length_nil] at h2
        rw [h2,Option.bind_some,h3]
        have:((r:Int) == 0)=(r == 0):=by rw [Bool.eq_iff_iff];simp
        simp [this]
    · rw [if_neg h1,Option.bind_some]
      have:sm c=false:=by simpa using h1
      rw [this];rfl
end Go.Proofs.YtedibjgdangfnaaGreatDoor.V.M
end

section
namespace Go.Proofs.YtedibjgdangfnaaGreatDoor.V.M
set_option linter.unusedVariables false
set_option linter.unusedSimpArgs false
open Go Go.RowKit
def markS (m:Str):Bool:=m == [46] || m == [95] || m == [95,95] || (m.all (· == 45) && m != [])
def refGo:Str→Str→Bool
  | _,[]=>true
  | now,c :: l=>if sm c then (if now ≠ []∧markS now=false then false else refGo [] l) else refGo (now++[c]) l
def ends:Str→Str→Bool
  | now,[]=>now == []
  | now,c :: l=>ends (if sm c then [] else now++[c]) l
def V (now l:Str):Bool:=refGo now l && ends now l
end Go.Proofs.YtedibjgdangfnaaGreatDoor.V.M
end

section
namespace Go.Proofs.YtedibjgdangfnaaGreatDoor.V.M
set_option linter.unusedVariables false
set_option linter.unusedSimpArgs false
open Go Go.RowKit
theorem splitOnB_len (c:UInt8):∀ (s:Str),(splitOnB c s).length≤s.length+1∧∀ x∈splitOnB c s,x.length≤s.length
  | []=>⟨by simp [splitOnB],by simp [splitOnB]⟩
  | x :: l=>by
    obtain ⟨h1,h2⟩:=splitOnB_len c l
    unfold splitOnB
    by_cases h:x=c
    · rw [if_pos h]
      refine ⟨by simp;omega,fun y hy => ?_⟩
      rcases List.mem_cons.1 hy with rfl | hy
      · simp
      · have:=h2 y hy;simp;omega
    · rw [if_neg h]
      split
      · rename_i y t e
        rw [e] at h1 h2
        simp only [List.length_cons] at h1
        refine ⟨by simp;omega,fun z hz => ?_⟩
        rcases List.mem_cons.1 hz with rfl | hz
        · have:=h2 y (List.mem_cons_self ..);simp;omega
        · have:=h2 z (List.mem_cons_of_mem _ hz);simp;omega
      · simp
def repoS (s:Str):Bool:=decide (s.length≤128) && (splitOnB 47 s).all partS
theorem allO_ok {α:Type} {f:α→Option Bool} {g:α→Bool}:∀ (l:List α),(∀ x∈l,f x=some (g x))→allO f l=some (l.all g)
  | [],_=>rfl
  | x :: l,h=>by
    rw [allO,h x (List.mem_cons_self ..),Option.bind_some,List.all_cons]
    cases g x with
    | true=>rw [if_pos rfl,allO_ok l (fun y hy=>h y (List.mem_cons_of_mem _ hy))];rfl
    | false=>rfl
theorem repo_ok (s:Str) (hb:s.length < 1000000000000):f_name_Repo s=some (repoS s):=by
  unfold f_name_Repo repoOf repoS
  by_cases h:128 < s.length
  · rw [if_pos h]
    have:decide (s.length≤128)=false:=by simp;omega
    rw [this];rfl
  · rw [if_neg h,allO_ok (g:=partS) _ (fun x hx=>part_ok x (by have:=(splitOnB_len 47 s).2 x hx;omega))]
    have:decide (s.length≤128)=true:=by simp;omega
    rw [this];rfl
def tg (c:UInt8):Bool:=sm c || (decide (65≤c.toNat) && decide (c.toNat≤90)) || decide (c=95)
def tgm (c:UInt8):Bool:=decide (c=46) || decide (c=45)
def tagS:Str→Bool
  | []=>false
  | c :: l=>decide ((c :: l).length≤128) && (tg c && l.all fun c=>tg c || tgm c)
theorem tg_ok (c:UInt8):((sm c || ((decide ((bn c)≥65)) && (decide ((bn c)≤90)))) || ((bn c) == 95))=tg c:=u8_all (P:=fun c=>((sm c || ((decide ((bn c)≥65)) && (decide ((bn c)≤90)))) || ((bn c) == 95))=tg c) (by kernel_rfl) c
theorem tgm_ok (c:UInt8):(((bn c) == 46) || ((bn c) == 45))=tgm c:=u8_all (P:=fun c=>(((bn c) == 46) || ((bn c) == 45))=tgm c) (by kernel_rfl) c
theorem tag8_ok (s:Str) (hb:s.length < 4611686018427387904):∀ (suf pre:Str) (m:Nat),s=pre++suf→0 < pre.length→suf.length < m→f_name_Tag_l8 s m (pre.length:Int)=some (if suf.all (fun c=>tg c || tgm c) then .inl (s.length:Int) else .inr false):=by
  intro suf
  induction suf with
  | nil =>
    intro pre m hs h0 hm
    obtain ⟨m,rfl⟩:∃ k,m=k+1:=⟨m - 1,by omega⟩
    have hl:s.length=pre.length:=by rw [hs];simp
    rw [f_name_Tag_l8.eq_2,if_neg (by simp;omega),hl];rfl
  | cons c l ih =>
    intro pre m hs h0 hm
    obtain ⟨m,rfl⟩:∃ k,m=k+1:=⟨m - 1,by omega⟩
    have hl:s.length=pre.length+1+l.length:=by rw [hs];simp;omega
    simp only [List.length_cons] at hm
    rw [f_name_Tag_l8.eq_2,if_pos (by simp;omega),show ix s (pre.length:Int)=some c by rw [hs];exact ix_app _ _ _ _ rfl,Option.bind_some,nsmall_ok,Option.bind_some,w_s (by omega),tg_ok,tgm_ok,show decide ((pre.length:Int) > 0)=true by simp;omega,Bool.true_and,List.all_cons]
    by_cases h:(tg c || tgm c)=true
    · rw [if_pos h]
      have:=ih (pre++[c]) m (by rw [hs];simp) (by simp) (by omega)
      simp only [List.length_append,List.length_singleton] at this
      rw [this,h];rfl
    · rw [if_neg h]
      have:(tg c || tgm c)=false:=by simpa using h
      rw [this];rfl
theorem tag_ok (s:Str) (hb:s.length < 4611686018427387904):f_name_Tag s=some (tagS s):=by
  unfold f_name_Tag
  cases s with
  | nil=>rfl
  | cons c l =>
    rw [show ((((c :: l).length:Int):Int) - 0).toNat+1=(l.length+1)+1 by simp,f_name_Tag_l8.eq_2,if_pos (by simp),show ix (c :: l) 0=some c from rfl,Option.bind_some,nsmall_ok,Option.bind_some,tg_ok,tgm_ok,show decide ((0:Int) > 0)=false from rfl,Bool.false_and,Bool.or_false,show IntKind.i64.wrap ((0:Int)+1)=(([c]:Str).length:Int) from rfl,tag8_ok (c :: l) hb l [c] _ rfl (by simp) (by omega),tagS]
    have e:decide (((c :: l).length:Int)≤128)=decide ((c :: l).length≤128):=by rw [decide_eq_decide];omega
    by_cases h1:tg c=true
    · rw [if_pos h1,Option.bind_some,h1,e]
      by_cases h2:l.all (fun c=>tg c || tgm c)=true
      · rw [if_pos h2,h2];simp
      · rw [if_neg h2]
        have:l.all (fun c=>tg c || tgm c)=false:=by simpa using h2
        rw [this];simp
    · rw [if_neg h1,Option.bind_some]
      have:tg c=false:=by simpa using h1
      rw [this];simp
end Go.Proofs.YtedibjgdangfnaaGreatDoor.V.M
end

section
namespace Go.Proofs.YtedibjgdangfnaaGreatDoor.V.M
set_option linter.unusedVariables false
set_option linter.unusedSimpArgs false
open Go Go.RowKit
def RW (r:api_Rule):Prop:=(r.Repos.length≤10000∧∀ x∈r.Repos,x.length≤10000)∧(r.Tags.length≤10000∧∀ x∈r.Tags,x.length≤10000)∧r.Prefix.length≤10000∧r.Cron.length≤210
def pc (s:Str):api_Cron×Int:=match f_cron_Parse s with | some r=>r | none=>(⟨0,0,0,0,0,false,false⟩,6)
theorem pc_ok (s:Str) (h:s.length≤210):f_cron_Parse s=some (pc s)∧((pc s).2=0∨(pc s).2=6)∧CW (pc s).1:=by
  obtain ⟨c,ok,e,hc⟩:=Cr.parse_one s h
  unfold pc
  rw [e]
  refine ⟨rfl,?_,hc⟩
  cases ok <;> simp
def patS (l:List Str):Bool:=decide (l.length≤8) && l.all fun p=>(piecesS p).isSome
theorem pat_ok (l:List Str) (h:l.length≤10000∧∀ x∈l,x.length≤10000):f_rule_patterns l=some (patS l):=by
  unfold f_rule_patterns patS
  rw [containsGS l f_rule_patterns_1 (fun p => !(piecesS p).isSome) (fun x hx=>by unfold f_rule_patterns_1;rw [Right_ok _ (by have:=h.2 x hx;omega)];rfl) (by omega)]
  have e:(decide ((l.length:Int)≤8))=decide (l.length≤8):=by rw [decide_eq_decide];omega
  rw [e]
  cases decide (l.length≤8) with
  | false=>rfl
  | true =>
    show Option.bind (some (l.any fun p => !(piecesS p).isSome)) _=_
    rw [Option.bind_some]
    congr 1
    rw [Bool.true_and,Bool.true_and,List.not_any_eq_all_not]
    congr 1
    funext p
    cases (piecesS p).isSome <;> rfl
def idS (r:api_Rule):Bool:=((decide (r.Id≥1)) && (decide (r.Id≤1048576))) && ((r.From == 0) || (r.From == 1))
def rightS (r:api_Rule):Bool:=(((idS r && patS r.Repos) && patS r.Tags) && ((r.Prefix == ([]:Str)) || repoS r.Prefix)) && ((r.Cron == ([]:Str)) || ((pc r.Cron).2 == 0))
theorem rright_ok (r:api_Rule) (h:RW r):f_rule_Right r=some (rightS r):=by
  obtain ⟨h1,h2,h3,h4⟩:=h
  unfold f_rule_Right rightS
  rw [(pc_ok _ h4).1,Option.bind_some,pat_ok _ h1,pat_ok _ h2,repo_ok _ (by omega)]
  show Option.bind (gx (idS r) (some (patS r.Repos)) default) _=_
  generalize hid:idS r=a
  unfold idS at hid
  simp only [hid]
  generalize patS r.Repos=b
  generalize patS r.Tags=c
  generalize repoS r.Prefix=d
  generalize (r.Prefix == ([]:Str))=e
  cases a <;> cases b <;> cases c <;> cases d <;> cases e <;> rfl
def toT (r:api_Rule) (repo:Str):Str:=if r.Prefix=[] then repo else r.Prefix++47 :: repo
def toS (r:api_Rule) (repo:Str):Str×Int:=if rightS r=true then (if repoS repo=true∧repoS (toT r repo)=true then (toT r repo,0) else ([],5)) else ([],18)
theorem to_ok (r:api_Rule) (h:RW r) (repo:Str) (hr:repo.length≤10000):f_rule_To r repo=some (toS r repo):=by
  have hp:=h.2.2.1
  unfold f_rule_To
  have e:(if (!(r.Prefix == ([]:Str)))=true then
      gd (r.Prefix.length+1≤9223372036854775807) <|
      gd ((r.Prefix++([47]:Str)).length+repo.length≤9223372036854775807) <|
      some ((r.Prefix++([47]:Str))++repo)
    else
      some repo)=some (toT r repo):=by
    unfold toT
    by_cases h0:r.Prefix=[]
    · rw [if_neg (by simpa using h0),if_pos h0]
    · rw [if_pos (by simpa using h0),if_neg h0,gd_t _ (by omega),gd_t _ (by simp;omega)]
      simp
  have hl:(toT r repo).length≤30000:=by
    unfold toT;split
    · omega
    · simp;omega
  rw [show (Option.bind _ _:Option (Str×Int))=Option.bind (some (toT r repo)) _ from congrArg (fun o=>Option.bind o _) e,Option.bind_some,rright_ok r h,Option.bind_some]
  unfold toS
  cases hR:rightS r with
  | false=>rfl
  | true =>
    rw [if_neg (by decide),if_pos rfl,repo_ok _ (by omega),Option.bind_some,repo_ok _ (by omega)]
    cases h1:repoS repo <;> cases h2:repoS (toT r repo) <;> simp [gx]
def pickS (r:api_Rule) (repo tag:Str):Bool:=(r.On && rightS r) && (repoS repo && tagS tag) && ((someR repo r.Repos).1 && (someR tag r.Tags).1)
theorem picks_ok (r:api_Rule) (h:RW r) (repo tag:Str) (hr:repo.length≤10000) (ht:tag.length≤10000):f_rule_Picks r repo tag=some (pickS r repo tag):=by
  obtain ⟨h1,h2,h3,h4⟩:=id h
  unfold f_rule_Picks f_rule_test_on f_rule_test_named f_rule_test_picked pickS
  dsimp only
  rw [rright_ok r h,repo_ok _ (by omega),tag_ok _ (by omega),some_ok repo _ (by omega) (fun p hp=>by have:=h1.2 p hp;omega),some_ok tag _ (by omega) (fun p hp=>by have:=h2.2 p hp;omega)]
  generalize rightS r=a
  generalize r.On=b
  generalize repoS repo=c
  generalize tagS tag=d
  generalize someR repo r.Repos=x
  generalize someR tag r.Tags=y
  cases a <;> cases b <;> cases c <;> cases d <;> simp [gx]
def firesX (c:api_Cron) (t:Int):Bool:=if 0≤t∧t≤1099511627776 then firesT c t else false
theorem fires_ok (c:api_Cron) (h:CW c) (t:Int):f_cron_Fires c t=some (firesX c t):=by
  unfold firesX
  by_cases h1:0≤t∧t≤1099511627776
  · rw [if_pos h1,Fires_ok c h t h1.1 h1.2]
  · rw [if_neg h1,Fires_bad c t (by omega)]
def dueS (r:api_Rule) (t:Int):Bool:=((rightS r && r.On) && ((pc r.Cron).2 == 0)) && firesX (pc r.Cron).1 t
theorem due_ok (r:api_Rule) (h:RW r) (t:Int):f_rule_Due r t=some (dueS r t):=by
  unfold f_rule_Due dueS
  obtain ⟨e,_,hc⟩:=pc_ok _ h.2.2.2
  rw [e,Option.bind_some,rright_ok r h,Option.bind_some,fires_ok _ hc]
  cases ((rightS r && r.On) && ((pc r.Cron).2 == 0)) <;> rfl
def cutR (l:List Str):List Str:=(l.take 10).map fun x=>x.take 130
def fewS (r:api_Rule):api_Rule:=⟨r.Id,r.From,cutR r.Repos,cutR r.Tags,r.Prefix.take 130,r.Override,r.Delete,r.On,r.Cron.take 205⟩
theorem RW_few (r:api_Rule):RW (fewS r):=by
  unfold fewS RW cutR
  refine ⟨⟨by simp;omega,fun x hx => ?_⟩,⟨by simp;omega,fun x hx => ?_⟩,by simp;omega,by simp;omega⟩ <;>
  · obtain ⟨y,_,rfl⟩:=List.mem_map.1 hx
    simp;omega
theorem min_cut {α:Type} (l:List α) (n:Nat):cut l 0 (if (n:Int) < (l.length:Int) then (n:Int) else (l.length:Int))=l.take n∧0≤(if (n:Int) < (l.length:Int) then (n:Int) else (l.length:Int))∧(if (n:Int) < (l.length:Int) then (n:Int) else (l.length:Int))≤(l.length:Int):=by
  split
  · exact ⟨cut_zero l n,by omega,by omega⟩
  · refine ⟨?_,by omega,by omega⟩
    rw [cut_zero,List.take_length,List.take_of_length_le (by omega)]
theorem set_mid {α:Type} (a:List α) (x y:α) (b:List α):(a++x :: b).set a.length y=a++y :: b:=by simp
theorem few7_ok (r:api_Rule):∀ (k i m:Nat) (v:List Str),i+k=(r.Repos.take 10).length→k < m→v=((r.Repos.take 10).take i).map (fun x=>x.take 130)++(r.Repos.take 10).drop i →
    ∃ z,f_law14_few_l7 r m (i:Int) v=some (z,cutR r.Repos)
  | k,i,0,v,h0,h1,h2=>by omega
  | 0,i,m+1,v,h0,h1,h2=>by
    have e:=(min_cut r.Repos 10).1
    rw [f_law14_few_l7,List.nil_append,show cut r.Repos 0 (if (10:Int) < (r.Repos.length:Int) then (10:Int) else (r.Repos.length:Int))=r.Repos.take 10 from e,if_neg (by simp;simp at h0;omega)]
    refine ⟨(i:Int),?_⟩
    rw [h2,List.take_of_length_le (by omega),List.drop_eq_nil_of_le (by omega),List.append_nil]
    rfl
  | k + 1,i,m+1,v,h0,h1,h2=>by
    have e:=(min_cut r.Repos 10).1
    have hlt:i < (r.Repos.take 10).length:=by omega
    have hten:(r.Repos.take 10).length≤10:=by simp;omega
    rw [f_law14_few_l7,List.nil_append,show cut r.Repos 0 (if (10:Int) < (r.Repos.length:Int) then (10:Int) else (r.Repos.length:Int))=r.Repos.take 10 from e,if_pos (by simp;simp at hlt;omega)]
    generalize hL:r.Repos.take 10=L at *
    have hd:L.drop i=L[i] :: L.drop (i+1):=List.drop_eq_getElem_cons hlt
    have hlen:((L.take i).map fun x=>x.take 130).length=i:=by simp;omega
    have e1:ix v (i:Int)=some L[i]:=by
      rw [ix_nat,h2,List.getElem?_append_right (by omega),hlen,Nat.sub_self,hd];rfl
    obtain ⟨c1,c2,c3⟩:=min_cut L[i] 130
    rw [e1,Option.bind_some,gd_t _ ⟨c2,c3⟩,Option.bind_some,w_s (by omega)]
    rw [show cut L[i] 0 (if (130:Int) < (L[i].length:Int) then (130:Int) else (L[i].length:Int))=L[i].take 130 from c1]
    have:=few7_ok r k (i+1) m (v.set i (L[i].take 130)) (by rw [hL];omega) (by omega) (by
      rw [hL,h2,hd,List.take_succ_eq_append_getElem hlt,List.map_append]
      have:=set_mid ((L.take i).map fun x=>x.take 130) L[i] (L[i].take 130) (L.drop (i+1))
      rw [hlen] at this
      rw [this];simp)
    exact this
theorem few13_ok (r:api_Rule) (s:Int×List Str):∀ (k i m:Nat) (v:List Str),i+k=(r.Tags.take 10).length→k < m→v=((r.Tags.take 10).take i).map (fun x=>x.take 130)++(r.Tags.take 10).drop i →
    ∃ z,f_law14_few_l13 r s m (i:Int) v=some (z,cutR r.Tags)
  | k,i,0,v,h0,h1,h2=>by omega
  | 0,i,m+1,v,h0,h1,h2=>by
    have e:=(min_cut r.Tags 10).1
    rw [f_law14_few_l13,List.nil_append,show cut r.Tags 0 (if (10:Int) < (r.Tags.length:Int) then (10:Int) else (r.Tags.length:Int))=r.Tags.take 10 from e,if_neg (by simp;simp at h0;omega)]
    refine ⟨(i:Int),?_⟩
    rw [h2,List.take_of_length_le (by omega),List.drop_eq_nil_of_le (by omega),List.append_nil]
    rfl
  | k + 1,i,m+1,v,h0,h1,h2=>by
    have e:=(min_cut r.Tags 10).1
    have hlt:i < (r.Tags.take 10).length:=by omega
    have hten:(r.Tags.take 10).length≤10:=by simp;omega
    rw [f_law14_few_l13,List.nil_append,show cut r.Tags 0 (if (10:Int) < (r.Tags.length:Int) then (10:Int) else (r.Tags.length:Int))=r.Tags.take 10 from e,if_pos (by simp;simp at hlt;omega)]
    generalize hL:r.Tags.take 10=L at *
    have hd:L.drop i=L[i] :: L.drop (i+1):=List.drop_eq_getElem_cons hlt
    have hlen:((L.take i).map fun x=>x.take 130).length=i:=by simp;omega
    have e1:ix v (i:Int)=some L[i]:=by
      rw [ix_nat,h2,List.getElem?_append_right (by omega),hlen,Nat.sub_self,hd];rfl
    obtain ⟨c1,c2,c3⟩:=min_cut L[i] 130
    rw [e1,Option.bind_some,gd_t _ ⟨c2,c3⟩,Option.bind_some,w_s (by omega)]
    rw [show cut L[i] 0 (if (130:Int) < (L[i].length:Int) then (130:Int) else (L[i].length:Int))=L[i].take 130 from c1]
    have:=few13_ok r s k (i+1) m (v.set i (L[i].take 130)) (by rw [hL];omega) (by omega) (by
      rw [hL,h2,hd,List.take_succ_eq_append_getElem hlt,List.map_append]
      have:=set_mid ((L.take i).map fun x=>x.take 130) L[i] (L[i].take 130) (L.drop (i+1))
      rw [hlen] at this
      rw [this];simp)
    exact this
theorem few_ok (r:api_Rule):f_law14_few r=some (fewS r):=by
  obtain ⟨a1,a2,a3⟩:=min_cut r.Repos 10
  obtain ⟨b1,b2,b3⟩:=min_cut r.Tags 10
  obtain ⟨c1,c2,c3⟩:=min_cut r.Prefix 130
  obtain ⟨d1,d2,d3⟩:=min_cut r.Cron 205
  have a1':cut r.Repos 0 (if (10:Int) < (r.Repos.length:Int) then (10:Int) else (r.Repos.length:Int))=r.Repos.take 10:=a1
  have b1':cut r.Tags 0 (if (10:Int) < (r.Tags.length:Int) then (10:Int) else (r.Tags.length:Int))=r.Tags.take 10:=b1
  have c1':cut r.Prefix 0 (if (130:Int) < (r.Prefix.length:Int) then (130:Int) else (r.Prefix.length:Int))=r.Prefix.take 130:=c1
  have d1':cut r.Cron 0 (if (205:Int) < (r.Cron.length:Int) then (205:Int) else (r.Cron.length:Int))=r.Cron.take 205:=d1
  unfold f_law14_few
  rw [a1',b1',c1',d1',gd_t _ ⟨a2,a3⟩,gd_t _ (by simp;omega),gd_t _ ⟨b2,b3⟩,gd_t _ (by simp;omega),List.nil_append,List.nil_append]
  obtain ⟨z,e1⟩:=few7_ok r (r.Repos.take 10).length 0 (((((r.Repos.take 10).length:Int):Int) - 0).toNat+1) (r.Repos.take 10) (by omega) (by omega) (by simp)
  rw [show f_law14_few_l7 r _ 0 (r.Repos.take 10)=_ from e1,Option.bind_some]
  obtain ⟨z2,e2⟩:=few13_ok r (z,cutR r.Repos) (r.Tags.take 10).length 0 (((((r.Tags.take 10).length:Int):Int) - 0).toNat+1) (r.Tags.take 10) (by omega) (by omega) (by simp)
  rw [show f_law14_few_l13 r (z,cutR r.Repos) _ 0 (r.Tags.take 10)=_ from e2,Option.bind_some,gd_t _ ⟨c2,c3⟩,gd_t _ ⟨d2,d3⟩]
  rfl
theorem alive14:f_law14_alive=some true:=by kernel_rfl
end Go.Proofs.YtedibjgdangfnaaGreatDoor.V.M
end

section
namespace Go.Proofs.YtedibjgdangfnaaGreatDoor.V.M
set_option linter.unusedVariables false
set_option linter.unusedSimpArgs false
open Go Go.RowKit
theorem RW_noneC {r:api_Rule} (h:RW r) (a b:Int) (c d e:Bool):RW ⟨a,b,[],[],r.Prefix,c,d,e,r.Cron⟩:=⟨⟨by simp,by simp⟩,⟨by simp,by simp⟩,h.2.2.1,h.2.2.2⟩
theorem toT_inj {r:api_Rule} {a b:Str} (h:toT r a=toT r b):a=b:=by
  unfold toT at h
  split at h
  · exact h
  · have:=List.append_cancel_left h
    exact (List.cons.inj this).2
theorem ruleNames_true (r:api_Rule) (a b tag:Str):f_law14_RuleNames r a b tag=some true:=by
  unfold f_law14_RuleNames
  have hr:=RW_few r
  obtain ⟨a1,a2,a3⟩:=min_cut a 130
  obtain ⟨b1,b2,b3⟩:=min_cut b 130
  obtain ⟨c1,c2,c3⟩:=min_cut tag 130
  have a1':cut a 0 (if (130:Int) < (a.length:Int) then (130:Int) else (a.length:Int))=a.take 130:=a1
  have b1':cut b 0 (if (130:Int) < (b.length:Int) then (130:Int) else (b.length:Int))=b.take 130:=b1
  have c1':cut tag 0 (if (130:Int) < (tag.length:Int) then (130:Int) else (tag.length:Int))=tag.take 130:=c1
  have la:(a.take 130).length≤130:=by simp;omega
  have lb:(b.take 130).length≤130:=by simp;omega
  have lc:(tag.take 130).length≤130:=by simp;omega
  rw [few_ok,Option.bind_some,gd_t _ ⟨a2,a3⟩,gd_t _ ⟨b2,b3⟩,gd_t _ ⟨c2,c3⟩,a1',b1',c1']
  generalize fewS r=t at hr ⊢
  generalize a.take 130=A at la ⊢
  generalize b.take 130=B at lb ⊢
  generalize tag.take 130=C at lc ⊢
  have hx:=RW_noneC hr t.Id t.From t.Override t.Delete true
  have hy:=RW_noneC hr t.Id t.From t.Override t.Delete false
  have hl2:(toT t A).length≤30000:=by
    have hp:=hr.2.2.1
    unfold toT;split
    · omega
    · simp;omega
  have hl:(toS t A).1.length < 1000000000000:=by
    unfold toS;split
    · split
      · show (toT t A).length < _;omega
      · simp
    · simp
  rw [to_ok t hr A (by omega),Option.bind_some,to_ok t hr B (by omega),Option.bind_some,repo_ok _ hl,alive14,rright_ok _ hx,picks_ok _ hx A C (by omega) (by omega),repo_ok A (by omega),tag_ok C (by omega),picks_ok _ hy A C (by omega) (by omega),due_ok _ hy]
  have g : ((((toS t A).2 == 0) && ((toS t B).2 == 0)) && ((!(((toS t A).1 == (toS t B).1) == (A == B))) || (!(cond ((((toS t A).2 == 0) && ((toS t B).2 == 0)) && (!(!(((toS t A).1 == (toS t B).1) == (A == B))))) (repoS (toS t A).1) default))))=false:=by
    cases h1:(((toS t A).2 == 0) && ((toS t B).2 == 0)) with
    | false=>rfl
    | true =>
      rw [Bool.and_eq_true,beq_iff_eq,beq_iff_eq] at h1
      have kA : (toS t A).1=toT t A∧repoS (toT t A)=true:=by
        have:=h1.1
        unfold toS at this ⊢
        split at this
        · rename_i hR
          rw [if_pos hR]
          split at this
          · rename_i hq
            rw [if_pos hq];exact ⟨rfl,hq.2⟩
          · cases this
        · cases this
      have kB : (toS t B).1=toT t B:=by
        have:=h1.2
        unfold toS at this ⊢
        split at this
        · rename_i hR
          rw [if_pos hR]
          split at this
          · rename_i hq
            rw [if_pos hq]
          · cases this
        · cases this
      rw [kA.1,kB,kA.2]
      have he:(toT t A == toT t B)=(A == B):=by
        by_cases hab:A=B
        · subst hab;simp
        · have:toT t A ≠ toT t B:=fun q=>hab (toT_inj q)
          rw [beq_eq_false_iff_ne.2 this,beq_eq_false_iff_ne.2 hab]
      rw [he]
      simp
  have hpx:rightS ⟨t.Id,t.From,[],[],t.Prefix,t.Override,t.Delete,true,t.Cron⟩=true→pickS ⟨t.Id,t.From,[],[],t.Prefix,t.Override,t.Delete,true,t.Cron⟩ A C=(repoS A && tagS C):=by
    intro hR
    unfold pickS someR
    rw [hR,if_neg (by simp;omega),if_neg (by simp;omega)]
    simp
  have hpy:pickS ⟨t.Id,t.From,[],[],t.Prefix,t.Override,t.Delete,false,t.Cron⟩ A C=false:=rfl
  have hdy:dueS ⟨t.Id,t.From,[],[],t.Prefix,t.Override,t.Delete,false,t.Cron⟩ 0=false:=by unfold dueS;simp
  rw [hpy,hdy]
  rw [gx_some,Option.bind_some]
  rw [g]
  simp only [Bool.not_false,gx_some,Option.bind_some,cond_true,Bool.not_true,Bool.or_false,Bool.false_eq_true,if_false]
  cases hR:rightS ⟨t.Id,t.From,[],[],t.Prefix,t.Override,t.Delete,true,t.Cron⟩ with
  | false=>simp
  | true =>
    rw [hpx hR]
    cases repoS A <;> cases tagS C <;> simp
end Go.Proofs.YtedibjgdangfnaaGreatDoor.V.M
end

section
namespace Go.Proofs.YtedibjgdangfnaaGreatDoor.V
theorem ruleNames_true (r:api_Rule) (a b tag:Str) (w0:W_api_Rule r) (w1:a.length≤140737488351232) (w2:b.length≤140737488351232) (w3:tag.length≤140737488351232):f_law14_RuleNames r a b tag=some true:=M.ruleNames_true r a b tag
end Go.Proofs.YtedibjgdangfnaaGreatDoor.V
end

section
namespace Go.Proofs.YtedibjgdangfnaaGreatDoor.V
open Go Go.RowKit
set_option linter.unusedVariables false
set_option linter.unusedSimpArgs false
end Go.Proofs.YtedibjgdangfnaaGreatDoor.V
end
