/- A part of the claim: see its last text. -/
import Derived.Test.YtfemlajeomohhaaGreatDoorUK28
import Derived.Test.YtfemlajeomohhaaGreatDoorUK22

set_option maxRecDepth 100000
set_option maxHeartbeats 16000000
namespace Go.Proofs.YtfemlajeomohhaaGreatDoor
open Go Go.RowKit Go.Proofs
def Dl(n:Int)(l:List AO):Prop:=l.Pairwise (fun a b=>a.1<b.1)∧∀ u∈l,1≤u.1∧u.1≤n
def CR(n:Int)(p:AA):Prop:=∀ l∈p,Dl n l
theorem Dl.nil_(n:Int):Dl n []:=⟨List.Pairwise.nil,fun u hu=>by simp at hu⟩
theorem Dl.sub{n:Int}{l l':List AO}(h:Dl n l)(hs:l'.Sublist l):Dl n l':=⟨h.1.sublist hs,fun u hu=>h.2 u (hs.subset hu)⟩
theorem Dl.drop {n:Int} {l:List AO} (h:Dl n l) (mc:Int):Dl n (DX l mc):=by
 unfold DX
 split
 · exact h
 · rename_i i hi
   rw[← List.eraseIdx_eq_take_drop_succ]
   exact h.sub (List.eraseIdx_sublist _ _)
theorem R9 {l:List AO} {i:Nat} {u:AO} (hi:i<l.length) (h:l.Pairwise (fun a b=>a.1<b.1)) (e:l[i].1=u.1):(l.set i u).Pairwise (fun a b=>a.1<b.1):=by
 rw[List.pairwise_iff_getElem] at h ⊢
 intro a b ha hb hab
 have ha':a<l.length:=by simpa using ha
 have hb':b<l.length:=by simpa using hb
 have:=h a b ha' hb' hab
 rw[List.getElem_set,List.getElem_set]
 split
 · rename_i h1;subst h1;rw[if_neg (by omega)];rw[← e];exact this
 · split
   · rename_i h2;subst h2;rw[← e];exact this
   · exact this
theorem Dl.put {n:Int} {l:List AO} (h:Dl n l) {mc:Int} (st:Int) (h1:1≤mc) (h2:mc≤n):Dl n (CX l mc st):=by
 unfold CX
 split
 · rename_i i hi
   unfold Ch at hi
   rw[List.findIdx?_eq_some_iff_getElem] at hi
   obtain⟨hl,hp,_⟩:=hi
   refine⟨R9 hl h.1 (by simpa using hp),fun u hu=>?_⟩
   rcases List.mem_or_eq_of_mem_set hu with h3|h3
   · exact h.2 u h3
   · subst h3;exact⟨h1,h2⟩
 · rename_i hn
   unfold Ch at hn
   rw[List.findIdx?_eq_none_iff] at hn
   obtain⟨a,ha⟩:∃ a,a=Fh l mc:=⟨_,rfl⟩
   rw[← ha]
   have hlo:∀ u∈l.take a,u.1<mc:=fun u hu=>by
    obtain⟨j,hj,rfl⟩:=List.getElem_of_mem hu
    have hj2:j<a:=by simp at hj;omega
    have hj3:j<l.length:=by simp at hj;omega
    rw[List.getElem_take]
    have hne:=hn l[j] (List.getElem_mem hj3)
    simp at hne
    have hle:¬ mc<l[j].1:=by
     unfold Fh at ha
     cases hf:l.findIdx? (fun u=>decide (mc<u.1)) with
     | none =>
       rw[List.findIdx?_eq_none_iff] at hf
       simpa using hf l[j] (List.getElem_mem hj3)
     | some b =>
       rw[hf] at ha
       simp at ha
       rw[List.findIdx?_eq_some_iff_getElem] at hf
       obtain⟨_,_,hb⟩:=hf
       simpa using hb j (by omega)
    omega
   have hhi:∀ u∈l.drop a,mc<u.1:=fun u hu=>by
    unfold Fh at ha
    cases hf:l.findIdx? (fun u=>decide (mc<u.1)) with
    | none=>rw[hf] at ha;simp at ha;subst ha;simp at hu
    | some b =>
      rw[hf] at ha
      simp at ha
      subst ha
      rw[List.findIdx?_eq_some_iff_getElem] at hf
      obtain⟨hb,hp,_⟩:=hf
      have hp2:mc<l[a].1:=by simpa using hp
      have hd:=h.1.sublist (List.drop_sublist a l)
      rw[List.drop_eq_getElem_cons hb] at hu hd
      rcases List.mem_cons.1 hu with rfl|h3
      · exact hp2
      · have:=(List.pairwise_cons.1 hd).1 u h3
        omega
   have hpw:=h.1
   rw[← List.take_append_drop a l] at hpw
   obtain⟨q1,q2,q3⟩:=List.pairwise_append.1 hpw
   refine⟨List.pairwise_append.2 ⟨q1,List.pairwise_cons.2 ⟨fun u hu=>hhi u hu,q2⟩,fun x hx y hy=>?_⟩,fun u hu=>?_⟩
   · rcases List.mem_cons.1 hy with rfl|h3
     · exact hlo x hx
     · exact q3 x hx y h3
   · rcases List.mem_append.1 hu with h3|h3
     · exact h.2 u (List.mem_of_mem_take h3)
     · rcases List.mem_cons.1 h3 with rfl|h4
       · exact⟨h1,h2⟩
       · exact h.2 u (List.mem_of_mem_drop h4)
theorem CR.units {n:Int} {p:AA} (h:CR n p) (item:Int):Dl n (AQ p item):=by
 unfold AQ
 split
 · rw[List.getD_eq_getElem?_getD]
   cases hx:p[(item - 1).toNat]? with
   | none=>exact Dl.nil_ n
   | some l=>exact h l (List.mem_of_getElem? hx)
 · exact Dl.nil_ n
theorem CR.withP {n:Int} {p:AA} (h:CR n p) (item:Int) {l:List AO} (hl:Dl n l):CR n (BL p item l):=by
 unfold Go.Proofs.YtfemlajeomohhaaGreatDoor.BL
 split
 · intro x hx
   rcases List.mem_or_eq_of_mem_set hx with h3|h3
   · exact h x h3
   · rw[h3];exact hl
 · exact h
theorem CR.drop{n:Int}{p:AA}(h:CR n p)(item mc:Int):CR n (Cf p item mc):=h.withP item ((h.units item).drop mc)
theorem CR.put{n:Int}{p:AA}(h:CR n p)(item st:Int){mc:Int}(h1:1≤mc)(h2:mc≤n):CR n (Cn p item mc st):=h.withP item ((h.units item).put st h1 h2)
theorem JC {n:Int} {p:AA} (h:CR n p) (item:Int):∀ k,CR n (CY p item k)
 | 0=>h
 | k+1=>by rw[← Et];exact(JC h item k).drop item _
theorem JD {m:AC} (item:Int):∀ (l:List Int) {p:AA},CR m.mT.length p→CR m.mT.length (l.foldl (BH m item) p)
 | [],_,h=>h
 | x :: l,p,h=>by
   refine JD item l ?_
   unfold BH
   split
   · rename_i hx
     simp only[AP,Bool.and_eq_true,decide_eq_true_eq] at hx
     exact h.put item 0 hx.1 hx.2
   · exact h
theorem CR.step {m:AC} {p:AA} (h:CR m.mT.length p) (e:EvM):CR m.mT.length (DI m p e):=by
 unfold DI
 split
 · rename_i hc
   unfold Ac
   split
   · exact JD e.group _ (JC h e.group _)
   · rename_i hk
     have hm:1≤e.mach∧e.mach≤m.mT.length:=by
      by_cases h3:e.kind=3
      · rw[Dt h3,Bool.and_eq_true] at hc
        simpa[AP] using hc.2
      · rw[Ea hk h3] at hc;cases hc
     split
     · exact h.drop _ _
     · split
       · exact h.put _ 2 hm.1 hm.2
       · exact h.put _ 0 hm.1 hm.2
 · exact h
theorem Rv {n:Int} {l:List Int} (h:EP n l=true):l.Pairwise (· < ·)∧∀ k∈l,1≤k∧k≤n:=by
 unfold EP at h
 rw[Bool.and_eq_true,decide_eq_true_eq,decide_eq_true_eq] at h
 obtain⟨_,h⟩:=h
 have step:∀ i (hi:i+1<l.length),l[i]<l[i+1]:=fun i hi=>by
  have:=(h (i+1) hi).2 (by omega)
  rw[List.getD_eq_getElem?_getD,Nat.add_sub_cancel,List.getElem?_eq_getElem (by omega)] at this
  simpa using this
 refine⟨?_,fun k hk=>?_⟩
 · rw [List.pairwise_iff_getElem]
   intro a b ha hb hab
   obtain⟨d,rfl⟩:∃ d,b=a+1+d:=⟨b - a - 1,by omega⟩
   clear hab
   induction d with
   | zero=>exact step a hb
   | succ d ih =>
     have h1:=ih (by omega)
     have h2:=step (a+1+d) (by omega)
     have h3:a+1+(d+1)=a+1+d+1:=rfl
     simp only[h3]
     omega
 · obtain⟨i,hi,rfl⟩:=List.getElem_of_mem hk
   have:=(h i hi).1
   simpa[AP] using this
theorem CR.init {m:AC} (hv:Ab m=true):CR m.mT.length (Al m):=fun l hl=>by
 unfold Al at hl
 obtain⟨x,hx,rfl⟩:=List.mem_map.1 hl
 have hi:BM m x=true:=by
  simp only[Ab,Bool.and_eq_true,List.all_eq_true] at hv
  exact hv.1.1.2 x hx
 unfold BM at hi
 simp only[Bool.and_eq_true] at hi
 obtain⟨h1,h2⟩:=Rv hi.1.1.1.1
 refine⟨List.pairwise_map.2 h1,fun u hu=>?_⟩
 obtain⟨k,hk,rfl⟩:=List.mem_map.1 hu
 exact h2 k hk
theorem GU {m:AC} (hv:Ab m=true) (l:List EvM):∀ k,k≤l.length→CR m.mT.length (AX m l k)
 | 0,_=>CR.init hv
 | k+1,hk=>by
   rw[Cz m l (by omega)]
   exact(GU hv l k (by omega)).step _
theorem G8 (m:AC) (l:List EvM) (k:Nat):(AX m l k).length=m.iT.length:=by
 have hs:∀ (p:AA) (e:EvM),(DI m p e).length=p.length:=fun p e=>by
  have hd:∀ (p:AA) i n,(CY p i n).length=p.length:=fun p i n=>by
   induction n with
   | zero=>rfl
   | succ n ih=>rw[← Et,Cf,Cc,ih]
  have ho:∀ (l:List Int) (p:AA) i,(l.foldl (BH m i) p).length=p.length:=fun l=>by
   induction l with
   | nil=>intro p i;rfl
   | cons x l ih =>
     intro p i
     rw[List.foldl_cons,ih]
     unfold BH
     split
     · rw[Cn,Cc]
     · rfl
  unfold DI
  split
  · unfold Ac
    split
    · rw[ho,hd]
    · split
      · rw[Cf,Cc]
      · split <;> rw[Cn,Cc]
  · rfl
 have hf:∀ (l:List EvM) (p:AA),(l.foldl (DI m) p).length=p.length:=fun l=>by
  induction l with
  | nil=>intro p;rfl
  | cons e l ih=>intro p;rw[List.foldl_cons,ih,hs]
 rw[AX,hf];simp[Al]
theorem KQ:∀ (l:List AO) (a n:Int),l.Pairwise (fun a b=>a.1<b.1)→(∀ u∈l,a<u.1∧u.1≤n)→(l.length:Int)≤max 0 (n - a)
 | [],_,_,_,_=>by simp;omega
 | u :: l,a,n,hp,hr=>by
   obtain⟨h1,h2⟩:=List.pairwise_cons.1 hp
   have hu:=hr u (by simp)
   have:=KQ l u.1 n h2 (fun v hv=>⟨h1 v hv,(hr v (by simp[hv])).2⟩)
   rw[List.length_cons]
   omega
theorem KN {m:AC} (hv:Ab m=true) (l:List EvM) (k:Nat) (hk:k≤l.length):Room 16 (AX m l k):=by
 obtain⟨s1,s2,s3,s4,s5,s6⟩:=Dh hv
 refine⟨by rw[G8];omega,fun x hx=>?_⟩
 have hs:=GU hv l k hk x hx
 have:=KQ x 0 m.mT.length hs.1 (fun u hu=>by have:=hs.2 u hu;omega)
 omega
theorem Gj (m:AC) (b:List EvM):∀ (a:List EvM) (p:AA),DC m p (a++b)=DC m p a++DC m (a.foldl (DI m) p) b
 | [],p=>rfl
 | e :: a,p=>by
   have ih:=Gj m b a
   simp only[List.cons_append,List.foldl_cons]
   rw[DC,DC]
   split
   · rename_i h
     rw[ih,DI,if_pos h];rfl
   · rename_i h
     rw[ih,DI,if_neg h]
theorem EF {m:AC} {l:List EvM} {k:Nat} (hk:k<l.length):Ay m (l.take (k+1))=Ay m (l.take k)++if Ah m l[k] then [AX m l (k+1)] else []:=by
 rw[Cz m l hk,Ay,Ay,List.take_succ_eq_append_getElem hk,Gj]
 show _ :: (_++_)=_ :: _++_
 rw[List.cons_append]
 congr 2
 show DC m (AX m l k) [l[k]]=_
 cases h:Ah m l[k] <;> simp[DC,DI,h]
theorem GN (m:AC):∀ (l:List EvM) (p:AA),(DC m p l).length≤l.length
 | [],_=>Nat.le_refl _
 | e :: l,p=>by
   rw[DC]
   split
   · simpa using GN m l _
   · have:=GN m l p;simp;omega
theorem FT(m:AC)(l:List EvM):(Ay m l).length≤l.length+1:=by simpa[Ay] using GN m l (Al m)
structure Jy (w0:World) (bx bp:Nat) (ps:List AA) (W:World):Prop where
 b:Below w0.heap.size w0 W
 v:∃ v,AB W bx 33 #[v]∧Dj w0.heap.size W v ps∧v.ownBlock≠some bp
theorem K4 (w0:World) (bx bp i:Nat) (A':Option Addr) (c' n:Nat) (ps:List AA) (W:World) (hv:Jy w0 bx bp ps W) :
    Calls Tryz.prog 26 #[.int .i64 i,.agg #[.slice A' n c'],.bool false,.pointer (some ⟨bx,0,none⟩)] W (Ia fun W'=>Jy w0 bx bp ps W'∧Bb w0.heap.size bp W W'):=by
 have hb:=(Below.refl W.heap.size W).alloc (Nat.le_refl _) (.cells #[.slice A' n c'] 56)
 have HB:=hide hb
 clear hb
 go_enter Tryz.func26,Tryz.ntmps26
 go_wp2_with fail
 go_end0
 obtain⟨v,h1,h2,h3⟩:=hv.v
 have hsz:=hv.b.size
 exact⟨rfl,⟨hv.b.trans (HB.out.mono hsz),v,h1.below HB.out h1.lt,h2.below HB.out,h3⟩,⟨HB.out.mono hsz,KT.below HB.out,KT.below HB.out,KT.below HB.out,fun cs h=>h.below HB.out h.lt⟩⟩
theorem KM (w0:World) (bx bp i:Nat) (A':Option Addr) (c':Nat) (q:AA) (ps:List AA) (W:World) (hv:Jy w0 bx bp ps W) (hp:PT W (.slice A' q.length c') q) (hx0:w0.heap.size≤bx) (hbp:bx<bp) (hbl:bp<W.heap.size) (hlen:ps.length≤1000) :
    Calls Tryz.prog 26 #[.int .i64 i,.agg #[.slice A' q.length c'],.bool true,.pointer (some ⟨bx,0,none⟩)] W (Ia fun W'=>Jy w0 bx bp (ps ++ [q]) W'∧Bb w0.heap.size bp W W'):=by
 obtain⟨v,h1,h2,h3⟩:=hv.v
 have hb:=(Below.refl W.heap.size W).alloc (Nat.le_refl _) (.cells #[.slice A' q.length c'] 56)
 have hb2:=hb.alloc (by simp) (.cells #[.slice A' q.length c'] 56)
 have HB2:=hide hb2
 have x0:=h1.cell 0
 have xl:=h1.lt
 simp at x0
 obtain⟨A1,c1,rfl,_⟩:=h2.form
 have HO2:=hide (h2.below hb2)
 have HP2:=hide (hp.below hb2)
 have HX2:=hide (h1.below hb2 h1.lt)
 have hr0:=Reads.newRow (W.alloc (.cells #[.slice A' q.length c'] 56)) #[.slice A' q.length c'] 56 1 1 rfl
 rw[show(W.alloc (.cells #[.slice A' q.length c'] 56)).heap.size=W.heap.size+1 by simp] at hr0
 have HR:=hide hr0
 have HV:=hide (And.intro hv h3)
 have hsz:=hv.b.size
 clear hb hb2 h1 h2 h3 hp hv hr0
 go_enter Tryz.func26,Tryz.ntmps26
 go_wp2_with (at_builtin;refine MR rfl _ _ rfl w0.heap.size (.slice A1 ps.length c1) ps rfl HO2.out _ _ 1 A' c' q rfl HR.out HP2.out (by omega) (by simp;omega) ?_;intro v3 w3 ho3 hg3 hv3 k1 k2 k3
              obtain⟨A4,c4,rfl,_⟩:=ho3.form
              have hx3:=HX2.out.grown hg3 (fun e=>HO2.out.ne HX2.out (by decide) e.symm)
              have y0:=hx3.cell 0
              have yf:=hx3.frozen 0
              have yl:=hx3.lt
              simp at y0
              have HG3:=hide hg3
              have HO3:=hide ho3
              have HX3:=hide hx3
              have HV3:=hide hv3
              have HK:=hide (And.intro k1 (And.intro k2 k3))
              clear hg3 ho3 hx3 hv3 k1 k2 k3)
 go_end0
 obtain⟨k1,k2,k3⟩:=HK.out
 obtain⟨hv,hne⟩:=HV.out
 have hbx:bx≠bp:=by omega
 have hlo:=HO2.out.lt
 have hg:Below w0.heap.size W w3:=(HB2.out.mono hsz).grown HG3.out (by simp;omega) (fun g e=>(hlo g e).1)
 have hne3:(Value.slice A4 (ps ++ [q]).length c4).ownBlock≠some bp:=by
  rcases HV3.out with e|e
  · rw[e];exact hne
  · rw[e];simp;omega
 refine⟨rfl,⟨(hv.b.trans hg).setCell (by simpa using hx0) _,_,by simpa using HX3.out.set_ 0 _,HO3.out.keep (KT.set_ HX3.out (by decide) 0 _) (KT.set_ HX3.out (by decide) 0 _) (fun g cur e hB=>hB.far (fun e2=>?_) _),hne3⟩,⟨hg.setCell (by simpa using hx0) _,((KT.below HB2.out).trans k3).trans (KT.set_ HX3.out (by decide) 0 _),((KT.below HB2.out).trans k1).trans (KT.set_ HX3.out (by decide) 0 _),((KT.below HB2.out).trans k2).trans (KT.set_ HX3.out (by decide) 0 _),fun cs hB=>?_⟩⟩
 · simp only at e2
   subst e2
   exact HO3.out.ne HX3.out (by decide) e
 · exact((hB.below HB2.out hB.lt).grown HG3.out (fun e=>hne e.symm)).far (by simpa using fun e=>hbx e.symm) _
theorem Jy.besides {w0 W W':World} {bx bp:Nat} {ps:List AA} (h:Jy w0 bx bp ps W) (hs:Am bp W W') (hb:∃ cs,AB W bp 56 cs) (h1:w0.heap.size≤bp) (h2:bx≠bp):Jy w0 bx bp ps W':=by
 obtain⟨v,x1,x2,x3⟩:=h.v
 exact⟨h.b.trans (hs.toBelow h1 h.b.size),v,hs.blk x1 h2,x2.besides hs hb x3,x3⟩
def Oo(w:World)(ps:List AA)(e:Ending)(w':World):Prop:=∃ A c,e=.returned (.slice A ps.length c)∧ps.length≤c∧c≤9223372036854775807∧Jz w' A ps∧Below w.heap.size w w'
theorem Pg (h:MH) (m:AC) (l:List EvM) (A:Option Addr) (c:Nat) (w w2:World) (A2:Option Addr) (c2:Nat) (d:MD w w.heap.size h m) (hE:Rows BD 22 w w.heap.size A l) (hi:m.iT.length≤100) (hm:m.mT.length≤100) (hon:∀ x∈m.iT,x.on.length≤100) (hl:l.length≤1000) (hroom:∀ k,k≤l.length→Room 800 (AX m l k)) (hold:∀ x∈l,x.old.length≤10)
    (hb:Below w.heap.size w w2) (hp:PT w2 (.slice A2 (Al m).length c2) (Al m)) :
    Calls Tryz.prog 25 #[.agg #[.slice h.s m.sT.length h.sc,.slice h.f m.fT.length h.fc,.slice h.r m.rT.length h.rc,.slice h.m m.mT.length h.mc,.slice h.l m.lT.length h.lc,.slice h.i m.iT.length h.ic,.int .i64 m.dT,.int .i64 m.oT,.int .i64 m.vT,.int .i64 m.aT,.slice h.u m.uT.length h.uc],.slice A l.length c,.func (.func 26) #[] #[.pointer (some ⟨w2.heap.size+1,0,none⟩)]]
     ((w2.alloc (.cells #[.slice A2 (Al m).length c2] 56)).alloc (.cells #[.slice (some ⟨w2.heap.size,0,none⟩) 1 1] 33))
     (Ia fun w'=>∃ bp,w2.heap.size+2≤bp∧Jy w (w2.heap.size+1) bp (Ay m l) w'):=by
 obtain⟨w4,e4⟩:∃ w4,w4=(w2.alloc (.cells #[.slice A2 (Al m).length c2] 56)).alloc (.cells #[.slice (some ⟨w2.heap.size,0,none⟩) 1 1] 33):=⟨_,rfl⟩
 have hz:=hb.size
 have hsz:w4.heap.size=w2.heap.size+2:=by rw[e4];simp
 have hb4:Below w.heap.size w w4:=by rw[e4];exact(hb.alloc hz _).alloc (by simp;omega) _
 have hO:Dj w.heap.size w4 (.slice (some ⟨w2.heap.size,0,none⟩) 1 1) [Al m]:=by rw[e4];exact(Dj.one w2 hz hp).below ((Below.refl _ _).alloc (Nat.le_refl _) _)
 have hX:AB w4 (w2.heap.size+1) 33 #[.slice (some ⟨w2.heap.size,0,none⟩) 1 1]:=by
  rw[e4]
  have:=AB.new (w2.alloc (.cells #[.slice A2 (Al m).length c2] 56)) 33 #[.slice (some ⟨w2.heap.size,0,none⟩) 1 1]
  simpa using this
 rw[← e4]
 have hh:=Ld 26 #[.pointer (some ⟨w2.heap.size+1,0,none⟩)] (fun _ _=>by kernel_rfl) (fun bp k W=>Jy w (w2.heap.size+1) bp (Ay m (l.take k)) W) h m l A c w.heap.size w4 (by omega) (d.below hb4) (hE.below hb4) hi hm hon hl hroom hold
  (fun bp W hW h1 h2=>⟨hb4.trans (hW.mono (by omega)),_,hX.below hW (by omega),hO.below hW,fun e=>by have:=Option.some.inj (show some w2.heap.size=some bp from e);omega⟩)
  (fun bp i W W' h1 h2 h3 h4=>h4.besides h3 h2 (by omega) (by omega))
  (fun bp i hil W A' c' h4 h1 h2 h5 h6=>by
    cases hc:Ah m l[i]
    · have:=K4 w (w2.heap.size+1) bp i A' c' (AX m l (i+1)).length (Ay m (l.take i)) W h4
      rw[EF hil,hc,if_neg (by decide),List.append_nil]
      exact this
    · have:=KM w (w2.heap.size+1) bp i A' c' (AX m l (i+1)) (Ay m (l.take i)) W h4 h6 (by omega) (by omega) h2 (by have:=FT m (l.take i);simp at this;omega)
      rw[EF hil,hc,if_pos rfl]
      exact this)
 refine hh.mono fun e w' ⟨he,bp,h1,h2⟩=>⟨he,bp,by omega,?_⟩
 rw[List.take_length] at h2
 exact h2
theorem Gi (h:MH) (m:AC) (l:List EvM) (A:Option Addr) (c:Nat) (w:World) (d:MD w w.heap.size h m) (k1:m.rT.length≤h.rc) (k2:m.mT.length≤h.mc) (k3:m.lT.length≤h.lc) (ha:Asc w) (hv:Ab m=true)
    (hE:Rows BD 22 w w.heap.size A l) (hi:m.iT.length≤100) (hm:m.mT.length≤100) (hon:∀ x∈m.iT,x.on.length≤100) (hl:l.length≤1000) (hold:∀ x∈l,x.old.length≤10) :
    Calls Tryz.prog 7 #[.agg #[.slice h.s m.sT.length h.sc,.slice h.f m.fT.length h.fc,.slice h.r m.rT.length h.rc,.slice h.m m.mT.length h.mc,.slice h.l m.lT.length h.lc,.slice h.i m.iT.length h.ic,.int .i64 m.dT,.int .i64 m.oT,.int .i64 m.vT,.int .i64 m.aT,.slice h.u m.uT.length h.uc],.slice A l.length c] w (Oo w (Ay m l)):=by
 have hb:=(Below.refl w.heap.size w).alloc (Nat.le_refl _) (.cells #[.slice h.s m.sT.length h.sc,.slice h.f m.fT.length h.fc,.slice h.r m.rT.length h.rc,.slice h.m m.mT.length h.mc,.slice h.l m.lT.length h.lc,.slice h.i m.iT.length h.ic,.int .i64 m.dT,.int .i64 m.oT,.int .i64 m.vT,.int .i64 m.aT,.slice h.u m.uT.length h.uc] 29)
 have HB:=hide hb
 have HD:=hide (fun W (hW:Below w.heap.size w W)=>(d.below hW).more hW.size)
 have HEV:=hide (fun W (hW:Below w.heap.size w W)=>hE.below hW)
 have HV:=hide (D7 h m _ (d.grow hb) k1 k2 k3 (ha.below (Nat.le_refl _) hb) hv)
 have HIN:=hide (And.intro hi (And.intro hm (And.intro hon (And.intro hl hold))))
 have HRO:=hide (fun k hk=>(KN hv l k hk).mono (show 16≤800 by decide))
 have HM0:=hide (AB.new w 29 #[.slice h.s m.sT.length h.sc,.slice h.f m.fT.length h.fc,.slice h.r m.rT.length h.rc,.slice h.m m.mT.length h.mc,.slice h.l m.lT.length h.lc,.slice h.i m.iT.length h.ic,.int .i64 m.dT,.int .i64 m.oT,.int .i64 m.vT,.int .i64 m.aT,.slice h.u m.uT.length h.uc])
 clear d hE k1 k2 k3 ha hv hi hm hon hl hold hb
 go_enter Tryz.func7,Tryz.ntmps7
 go_wp2_with (first
  | (go_at_call 23;refine HV.out.mono ?_;rintro e w1 ⟨rfl,hb1⟩
     have HB1:=hide (HB.out.trans (hb1.mono HB.out.size))
     have hm1:=HM0.out.below hb1 (by simp)
     have HM1:=hide hm1
     obtain⟨a0,a1,a2,a3,a4,a5,a6,a7,a8,a9,a10⟩:=MB.cells hm1
     have al:=hm1.lt
     have HI:=hide (GJ h m w1 (HD.out w1 HB1.out) (by have:=HIN.out.1;omega) (fun x hx=>by have:=HIN.out.2.2.1 x hx;omega))
     clear hb1 hm1)
  | (go_at_call 24;refine HI.out.mono ?_;rintro e w2 ⟨A2,c2,rfl,hp2,hb2⟩
     have HB2:=hide (HB1.out.trans (hb2.mono HB1.out.size))
     have hm2:=HM1.out.below hb2 HM1.out.lt
     have HM2:=hide hm2
     obtain⟨b0,b1,b2,b3,b4,b5,b6,b7,b8,b9,b10⟩:=MB.cells hm2
     have bl:=hm2.lt
     have HW:=hide (Pg h m l A c w w2 A2 c2 (HD.out w (Below.refl _ _)) (HEV.out w (Below.refl _ _)) HIN.out.1 HIN.out.2.1 HIN.out.2.2.1 HIN.out.2.2.2.1 HRO.out HIN.out.2.2.2.2 HB2.out hp2)
     clear hb2 hm2 hp2)
  | (go_at_call 25;refine HW.out.mono ?_;rintro e w5 ⟨rfl,bp,hbp,hV⟩
     obtain⟨v,hx5,ho5,hne5⟩:=hV.v
     obtain⟨A6,c6,rfl,hlc6,hcm6,hR6⟩:=ho5.form
     have y0:=hx5.cell 0
     have yl:=hx5.lt
     simp at y0
     have HR6:=hide (And.intro hR6 hV.b)
     have HC6:=hide (And.intro hlc6 hcm6)
     clear hV hx5 ho5 hne5 hbp hlc6 hcm6 hR6))
 go_ret
 exact⟨A6,c6,rfl,HC6.out.1,HC6.out.2,HR6.out.1,HR6.out.2⟩
theorem NP (h:MH) (m:AC) (x:AR) (A:Option Addr) (c:Nat) (w:World) (C:En w h m x A) :
    Calls Tryz.prog 27 #[.agg #[.slice h.s m.sT.length h.sc,.slice h.f m.fT.length h.fc,.slice h.r m.rT.length h.rc,.slice h.m m.mT.length h.mc,.slice h.l m.lT.length h.lc,.slice h.i m.iT.length h.ic,.int .i64 m.dT,.int .i64 m.oT,.int .i64 m.vT,.int .i64 m.aT,.slice h.u m.uT.length h.uc],.agg #[.int .i64 x.kind,.int .i64 x.item,.int .i64 x.other,.int .i64 x.n,.int .i64 x.by_,.bool x.always,.slice A x.machines.length c]] w (Br w (.bool (BB m x))):=by
 by_cases hk:0≤x.kind∧x.kind<4
 · by_cases hj:Ai m x.item=2
   · have e:BB m x=false:=by simp[BB,hj]
     rw[e]
     exact Oi h m x A c w C.d hk hj
   · have e:BB m x=CB m x (Al m):=by
       have h4:x.kind=0∨x.kind=1∨x.kind=2∨x.kind=3:=by omega
       unfold BB
       rcases h4 with h4|h4|h4|h4 <;> simp[h4,hj]
     rw[e]
     exact Ol h m x.kind.toNat (by omega) x (by omega) A c w C hj
 · have e:BB m x=false:=by
     have:¬ (x.kind=0)∧¬ (x.kind=1)∧¬ (x.kind=2)∧¬ (x.kind=3):=by omega
     simp[BB,this]
   rw[e]
   exact QL h m x A c w hk
structure JQ (w:World) (h:MH) (m:AC) (bm bx bw r:Nat) (W:World):Prop where
 b:Below w.heap.size w W
 mo:AB W bm 29 #[.slice h.s m.sT.length h.sc,.slice h.f m.fT.length h.fc,.slice h.r m.rT.length h.rc,.slice h.m m.mT.length h.mc,.slice h.l m.lT.length h.lc,.slice h.i m.iT.length h.ic,.int .i64 m.dT,.int .i64 m.oT,.int .i64 m.vT,.int .i64 m.aT,.slice h.u m.uT.length h.uc]
 wt:AB W bw 68 #[.map (some r)]
 o:AB W bx 35 #[.slice none 0 0]
theorem JQ.grow {w:World} {h:MH} {m:AC} {bm bx bw r:Nat} {W W':World} (s:JQ w h m bm bx bw r W) (hb:Below W.heap.size W W'):JQ w h m bm bx bw r W' :=
 ⟨s.b.trans (hb.mono s.b.size),s.mo.below hb s.mo.lt,s.wt.below hb s.wt.lt,s.o.below hb s.o.lt⟩
theorem JQ.put {w:World} {h:MH} {m:AC} {bm bx bw r:Nat} {W:World} {es:Array MapEntry} {c:Nat} (s:JQ w h m bm bx bw r W) (hr:W.heap[r]? = some (.map es c)) (hrw:w.heap.size≤r) (o':Obj):JQ w h m bm bx bw r (W.putObj r o') :=
 ⟨s.b.grown (grownBy_putObj' W r o') s.b.size (fun g e=>by cases e;exact hrw),(KT.putObj_ W r _ o' hr rfl).2 _ _ s.mo,(KT.putObj_ W r _ o' hr rfl).2 _ _ s.wt,(KT.putObj_ W r _ o' hr rfl).2 _ _ s.o⟩
structure E8 (w:World) (h:MH) (m:AC) (bm bx bw r xb:Nat) (x:AR) (A:Option Addr) (c:Nat) (W:World):Prop where
 s:JQ w h m bm bx bw r W
 x:AB W xb 51 #[.int .i64 x.kind,.int .i64 x.item,.int .i64 x.other,.int .i64 x.n,.int .i64 x.by_,.bool x.always,.slice A x.machines.length c]
theorem E8.drew{w:World}{h:MH}{m:AC}{bm bx bw r xb:Nat}{x:AR}{A:Option Addr}{c:Nat}{W:World}(s:E8 w h m bm bx bw r xb x A c W):E8 w h m bm bx bw r xb x A c W.drew:=⟨⟨s.s.b.drew,s.s.mo,s.s.wt,s.s.o⟩,s.x⟩
theorem E8.grow{w:World}{h:MH}{m:AC}{bm bx bw r xb:Nat}{x:AR}{A:Option Addr}{c:Nat}{W W':World}(s:E8 w h m bm bx bw r xb x A c W)(hb:Below W.heap.size W W'):E8 w h m bm bx bw r xb x A c W':=⟨s.s.grow hb,s.x.below hb s.x.lt⟩
theorem E8.put {w:World} {h:MH} {m:AC} {bm bx bw r xb:Nat} {x:AR} {A:Option Addr} {c:Nat} {W:World} {es:Array MapEntry} {k:Nat} (s:E8 w h m bm bx bw r xb x A c W) (hr:W.heap[r]? = some (.map es k)) (hrw:w.heap.size≤r) (o':Obj):E8 w h m bm bx bw r xb x A c (W.putObj r o') :=
 ⟨s.s.put hr hrw o',(KT.putObj_ W r _ o' hr rfl).2 _ _ s.x⟩
theorem E8.cells {w:World} {h:MH} {m:AC} {bm bx bw r xb:Nat} {x:AR} {A:Option Addr} {c:Nat} {W:World} (s:E8 w h m bm bx bw r xb x A c W):(W.cell? ⟨bm,0,none⟩=some (.slice h.s m.sT.length h.sc)∧W.cell? ⟨bm,1,none⟩=some (.slice h.f m.fT.length h.fc)∧W.cell? ⟨bm,2,none⟩=some (.slice h.r m.rT.length h.rc)∧W.cell? ⟨bm,3,none⟩=some (.slice h.m m.mT.length h.mc)∧W.cell? ⟨bm,4,none⟩=some (.slice h.l m.lT.length h.lc)∧W.cell? ⟨bm,5,none⟩=some (.slice h.i m.iT.length h.ic)∧W.cell? ⟨bm,6,none⟩=some (.int .i64 m.dT)∧W.cell? ⟨bm,7,none⟩=some (.int .i64 m.oT)∧W.cell? ⟨bm,8,none⟩=some (.int .i64 m.vT)∧W.cell? ⟨bm,9,none⟩=some (.int .i64 m.aT)∧W.cell? ⟨bm,10,none⟩=some (.slice h.u m.uT.length h.uc))∧(W.cell? ⟨xb,0,none⟩=some (.int .i64 x.kind)∧W.cell? ⟨xb,1,none⟩=some (.int .i64 x.item)∧W.cell? ⟨xb,2,none⟩=some (.int .i64 x.other)∧W.cell? ⟨xb,3,none⟩=some (.int .i64 x.n)∧W.cell? ⟨xb,4,none⟩=some (.int .i64 x.by_)∧W.cell? ⟨xb,5,none⟩=some (.bool x.always)∧W.cell? ⟨xb,6,none⟩=some (.slice A x.machines.length c))∧W.cell? ⟨bw,0,none⟩=some (.map (some r)) :=
 ⟨MB.cells s.s.mo,⟨s.x.cell 0,s.x.cell 1,s.x.cell 2,s.x.cell 3,s.x.cell 4,s.x.cell 5,s.x.cell 6⟩,s.s.wt.cell 0⟩
theorem MX (h:MH) (m:AC) (l:List EvM) (A:Option Addr) (c:Nat) (w wr:World) (bm bw bx r:Nat) (C:Jv w h m) (hE:Rows BD 22 w w.heap.size A l) (hl:l.length≤60) (hold:∀ x∈l,x.old.length≤10) (hbx:w.heap.size≤bx)
    (s:JQ w h m bm bx bw r wr) (hP:wr.heap[r]? = some (.map (BR (EX m) m.uT.length) m.uT.length)) :
    Calls Tryz.prog 25 #[.agg #[.slice h.s m.sT.length h.sc,.slice h.f m.fT.length h.fc,.slice h.r m.rT.length h.rc,.slice h.m m.mT.length h.mc,.slice h.l m.lT.length h.lc,.slice h.i m.iT.length h.ic,.int .i64 m.dT,.int .i64 m.oT,.int .i64 m.vT,.int .i64 m.aT,.slice h.u m.uT.length h.uc],.slice A l.length c,.func (.func 28) #[] #[.pointer (some ⟨bm,0,none⟩),.pointer (some ⟨bw,0,none⟩),.pointer (some ⟨bx,0,none⟩)]] wr
     (Ia fun w'=>∃ bp,w.heap.size≤bp∧Eg w h m bm bw bx r (CE m l) w'):=by
 have hR:=Room.placeAt (m:=m) (l:=l) (by have:=C.il2;omega) C.on hold
 have hh:=Ld 28 #[.pointer (some ⟨bm,0,none⟩),.pointer (some ⟨bw,0,none⟩),.pointer (some ⟨bx,0,none⟩)] (fun _ _=>by kernel_rfl) (fun bp k W=>Eg w h m bm bw bx r (BJ m l k) W) h m l A c w.heap.size wr s.b.size (C.d.below s.b) (hE.below s.b) C.il2 C.f.cm C.on (by omega) (UZ (by have:=C.il2;omega) C.on hl hold) hold
  (fun bp W hW h1 h2=>Eg.grow ⟨s.b,s.mo,s.wt,hP,_,s.o,CL.nil_ _ _⟩ hW)
  (fun bp i W W' h1 h2 h3 h4=>h4.besides h3 h2 (by have:=s.b.size;omega))
  (fun bp i hil W A' c' h4 h1 h2 h5 h6=>by
    cases hc:Ah m l[i]
    · have:=MV w h m C bm bw bx r bp i (BJ m l i) A' c' (AX m l (i+1)).length W h4
      rw[D8 m l hil,hc,if_neg (by decide),List.append_nil]
      exact this
    · have hr:=hR (i+1)
      have hlen:=Dp m l i
      have hm1:i*m.uT.length≤60*100:=Nat.mul_le_mul (by omega) C.rl
      have:=Li w h m C bm bw bx r bp i (BJ m l i) A' c' (AX m l (i+1)) W h4 h6 hr.1 (fun q hq=>by have:=hr.2 q hq;omega) hbx (by omega) (by omega)
      rw[D8 m l hil,hc,if_pos rfl]
      exact this)
 refine hh.mono fun e w' ⟨he,bp,h1,h2⟩=>⟨he,bp,by have:=s.b.size;omega,h2⟩
def VP (w:World) (h:MH) (m:AC) (bm bx bw r:Nat) (iv:Value) (wr:World):Prop :=
 ∃ k:Nat,k≤m.uT.length∧iv=.int .i64 k∧JQ w h m bm bx bw r wr∧wr.heap[r]? = some (.map (BR (EX m) k) k)
theorem IR (h : MH) (m:AC) (l:List EvM) (A:Option Addr) (c:Nat) (w:World) (C:Jv w h m) (k1:m.rT.length≤h.rc) (k2:m.mT.length≤h.mc) (k3:m.lT.length≤h.lc) (ha:Asc w) (hv:Ab m=true)
    (hE:Rows BD 22 w w.heap.size A l) (hl:l.length≤60) (hold:∀ x∈l,x.old.length≤10) :
    Calls Tryz.prog 8 #[.agg #[.slice h.s m.sT.length h.sc,.slice h.f m.fT.length h.fc,.slice h.r m.rT.length h.rc,.slice h.m m.mT.length h.mc,.slice h.l m.lT.length h.lc,.slice h.i m.iT.length h.ic,.int .i64 m.dT,.int .i64 m.oT,.int .i64 m.vT,.int .i64 m.aT,.slice h.u m.uT.length h.uc],.slice A l.length c] w (fun e w'=>∃ v,e=.returned v∧CL w.heap.size w' v (CE m l)∧Below w.heap.size w w'):=by
 have hb:=(Below.refl w.heap.size w).alloc (Nat.le_refl _) (.cells #[.slice h.s m.sT.length h.sc,.slice h.f m.fT.length h.fc,.slice h.r m.rT.length h.rc,.slice h.m m.mT.length h.mc,.slice h.l m.lT.length h.lc,.slice h.i m.iT.length h.ic,.int .i64 m.dT,.int .i64 m.oT,.int .i64 m.vT,.int .i64 m.aT,.slice h.u m.uT.length h.uc] 29)
 have HB:=hide hb
 have HC:=hide C
 have HE:=hide hE
 have HV:=hide (D7 h m _ (C.d.grow hb) k1 k2 k3 (ha.below (Nat.le_refl _) hb) hv)
 have HM0:=hide (AB.new w 29 #[.slice h.s m.sT.length h.sc,.slice h.f m.fT.length h.fc,.slice h.r m.rT.length h.rc,.slice h.m m.mT.length h.mc,.slice h.l m.lT.length h.lc,.slice h.i m.iT.length h.ic,.int .i64 m.dT,.int .i64 m.oT,.int .i64 m.vT,.int .i64 m.aT,.slice h.u m.uT.length h.uc])
 have HIN:=hide (And.intro hl hold)
 have hr100:=C.rl
 have hmm:=@run_makeMap Tryz.prog
 clear C k1 k2 k3 ha hv hE hl hold hb
 go_enter Tryz.func8,Tryz.ntmps8
 go_wp2_with (go_at_call 23;refine HV.out.mono ?_;rintro e w1 ⟨rfl,hb1⟩;have hm1:=HM0.out.below hb1 (by simp);obtain⟨a0,a1,a2,a3,a4,a5,a6,a7,a8,a9,a10⟩:=MB.cells hm1;have al:=hm1.lt
              have hb3:Below w1.heap.size w1 (((w1.alloc (.cells #[.slice none 0 0] 35)).alloc (.map #[] 0)).alloc (.cells #[.map (some (w1.heap.size+1))] 68)):=(((Below.refl _ _).alloc (Nat.le_refl _) _).alloc (by simp) _).alloc (by simp;omega) _
              have hm3:=hm1.below hb3 al
              have b10:=hm3.cell 10
              have bl:=hm3.lt
              simp at b10 bl
              have HB1:=hide (HB.out.trans (hb1.mono HB.out.size))
              have HS3:=hide (show JQ w h m w.heap.size w1.heap.size (w1.heap.size+1+1) (w1.heap.size+1) (((w1.alloc (.cells #[.slice none 0 0] 35)).alloc (.map #[] 0)).alloc (.cells #[.map (some (w1.heap.size+1))] 68)) from
               ⟨HB1.out.trans (hb3.mono HB1.out.size),hm3,by have:=AB.new ((w1.alloc (.cells #[.slice none 0 0] 35)).alloc (.map #[] 0)) 68 #[.map (some (w1.heap.size+1))];simpa using this,((AB.new w1 35 #[.slice none 0 0]).alloc _).alloc _⟩)
              have HP3:=hide (show(((w1.alloc (.cells #[.slice none 0 0] 35)).alloc (.map #[] 0)).alloc (.cells #[.map (some (w1.heap.size+1))] 68)).heap[w1.heap.size+1]? = some (.map (BR (EX m) 0) 0) from by
               have hn:=heap_alloc_new (w1.alloc (.cells #[.slice none 0 0] 35)) (.map #[] 0)
               rw[World.size_alloc] at hn
               have this:=(Below.heap_alloc ((w1.alloc (.cells #[.slice none 0 0] 35)).alloc (.map #[] 0)) (.cells #[.map (some (w1.heap.size+1))] 68) (w1.heap.size+1) (by simp)).trans hn
               exact this)
              clear hm1 hb1 hb3 hm3 a0 a1 a2 a3 a4 a5 a6 a7 a8 a9 a10)
 have HBW:=hide (show w.heap.size≤w1.heap.size from HB1.out.size)
 clear b10 bl al
 go_loopw [16] (fun iv wr=>VP w h m w.heap.size w1.heap.size (w1.heap.size+1+1) (w1.heap.size+1) iv wr) (fun i _=>m.uT.length - (intOf i).toNat)
 case atStart=>exact⟨0,Nat.zero_le _,rfl,HS3.out,HP3.out⟩
 case round =>
  clear HS3 HP3
  obtain⟨k,hk,rfl,hS,hP⟩:=hrel
  by_cases hlt:k<m.uT.length
  · obtain⟨b,off,A2,c2,hA,hb0,x0,x1,x2,x3,x4,x5,x6,_,_,gI⟩:=(HC.out.d.dU.below hS.b).rule hlt
    have HA:=hide hA
    obtain⟨x,hx⟩:∃ x,x=m.uT[k]:=⟨_,rfl⟩
    have hxm:x∈m.uT:=by rw[hx];exact List.getElem_mem hlt
    rw[← hx] at x0 x1 x2 x3 x4 x5 x6 gI
    have hb:=(Below.refl wr.heap.size wr).alloc (Nat.le_refl _) (.cells #[.int .i64 x.kind,.int .i64 x.item,.int .i64 x.other,.int .i64 x.n,.int .i64 x.by_,.bool x.always,.slice A2 x.machines.length c2] 51)
    have HX:=hide (show E8 w h m w.heap.size w1.heap.size (w1.heap.size+1+1) (w1.heap.size+1) wr.heap.size x A2 c2 _ from⟨hS.grow hb,AB.new wr _ _⟩)
    have HRC:=hide (fun W (hW:Below w.heap.size w W) (hI:Ints W W.heap.size A2 x.machines)=>NP h m x A2 c2 W ⟨HC.out.d.grow hW,HC.out.f,hI,HC.out.il x hxm,HC.out.il2,HC.out.on⟩)
    have HGI:=hide (show Ints wr wr.heap.size A2 x.machines from gI.more hS.b.size)
    have HPB:=hide ((hb.block (w1.heap.size+1) (Array.getElem?_eq_some_iff.1 hP).1).trans hP)
    have HB:=hide hb
    have HWE:=hide (show(.bool (BB m x):Value)=EX m k by simp[EX,hlt,hx])
    have hbl:=Nat.lt_of_lt_of_le hb0 hS.b.size
    clear hS hP hx gI hb hxm
    rw[hA]
    clear hA
    go_wp2_with fail
    refine wp_region_held_drew (S:=(fun W=>((W.cell? ⟨w.heap.size,0,none⟩=some (.slice h.s m.sT.length h.sc)∧W.cell? ⟨w.heap.size,1,none⟩=some (.slice h.f m.fT.length h.fc)∧W.cell? ⟨w.heap.size,2,none⟩=some (.slice h.r m.rT.length h.rc)∧W.cell? ⟨w.heap.size,3,none⟩=some (.slice h.m m.mT.length h.mc)∧W.cell? ⟨w.heap.size,4,none⟩=some (.slice h.l m.lT.length h.lc)∧W.cell? ⟨w.heap.size,5,none⟩=some (.slice h.i m.iT.length h.ic)∧W.cell? ⟨w.heap.size,6,none⟩=some (.int .i64 m.dT)∧W.cell? ⟨w.heap.size,7,none⟩=some (.int .i64 m.oT)∧W.cell? ⟨w.heap.size,8,none⟩=some (.int .i64 m.vT)∧W.cell? ⟨w.heap.size,9,none⟩=some (.int .i64 m.aT)∧W.cell? ⟨w.heap.size,10,none⟩=some (.slice h.u m.uT.length h.uc))∧(W.cell? ⟨wr.heap.size,0,none⟩=some (.int .i64 x.kind)∧W.cell? ⟨wr.heap.size,1,none⟩=some (.int .i64 x.item)∧W.cell? ⟨wr.heap.size,2,none⟩=some (.int .i64 x.other)∧W.cell? ⟨wr.heap.size,3,none⟩=some (.int .i64 x.n)∧W.cell? ⟨wr.heap.size,4,none⟩=some (.int .i64 x.by_)∧W.cell? ⟨wr.heap.size,5,none⟩=some (.bool x.always)∧W.cell? ⟨wr.heap.size,6,none⟩=some (.slice A2 x.machines.length c2))∧W.cell? ⟨w1.heap.size+1+1,0,none⟩=some (.map (some (w1.heap.size+1))))∧E8 w h m w.heap.size w1.heap.size (w1.heap.size+1+1) (w1.heap.size+1) wr.heap.size x A2 c2 W)) (by kernel_rfl) (⟨E8.cells HX.out.drew,HX.out.drew⟩) (fun hHeld=>?_)
    refine wpAnyH_take (i:=0) (oi:=_) (v:=?_) rfl (by kernel_rfl) (by kernel_rfl) (by kernel_rfl) (fun _ _ _ h=>h) (Or.inl ⟨by rfl,?_⟩) hHeld ?_
    rotate_left
    · intro W hSw;(try dsimp only at hSw);go_simp;try with_reducible rfl
    simp only[Act.put,List.getElem_toArray,List.getElem_cons_zero,List.setIfInBounds_toArray,List.set_cons_zero,List.set_cons_succ]
    refine wpAnyH_take (i:=1) (oi:=_) (v:=?_) rfl (by kernel_rfl) (by kernel_rfl) (by kernel_rfl) (fun _ _ _ h=>h) (Or.inl ⟨by rfl,?_⟩) hHeld ?_
    rotate_left
    · intro W hSw;(try dsimp only at hSw);go_simp;try with_reducible rfl
    simp only[Act.put,List.getElem_toArray,List.getElem_cons_succ,List.getElem_cons_zero,List.setIfInBounds_toArray,List.set_cons_zero,List.set_cons_succ]
    refine wpAnyH_take (i:=2) (oi:=_) (v:=?_) rfl (by kernel_rfl) (by kernel_rfl) (by kernel_rfl) (fun _ _ _ h=>h) (Or.inl ⟨by rfl,?_⟩) hHeld ?_
    rotate_left
    · intro W hSw;(try dsimp only at hSw);go_simp;try with_reducible rfl
    simp only[Act.put,List.getElem_toArray,List.getElem_cons_succ,List.getElem_cons_zero,List.setIfInBounds_toArray,List.set_cons_zero,List.set_cons_succ]
    refine wpAnyH_take (i:=3) (oi:=_) (v:=?_) rfl (by kernel_rfl) (by kernel_rfl) (by kernel_rfl) (fun _ _ _ h=>h) (Or.inl ⟨by rfl,?_⟩) hHeld ?_
    rotate_left
    · intro W hSw;(try dsimp only at hSw);go_simp;try with_reducible rfl
    simp only[Act.put,List.getElem_toArray,List.getElem_cons_succ,List.getElem_cons_zero,List.setIfInBounds_toArray,List.set_cons_zero,List.set_cons_succ]
    refine wpAnyH_ready (rs:=[4]) (by kernel_rfl) (by simp) ?_
    refine AllReadyH.cons rfl (fun K hK=>?_) AllReadyH.nil
    go_simp
    go_at_call 27
    refine(HRC.out _ HX.out.drew.s.b ((HGI.out.grow HB.out).below (Below.refl _ _).drew)).mono ?_
    rintro e w5 ⟨rfl,hb5⟩
    have c7:=E8.grow HX.out.drew hb5
    have hP5:=(hb5.block (w1.heap.size+1) (Array.getElem?_eq_some_iff.1 HPB.out).1).trans HPB.out
    have hup:=KO (P:=Tryz.prog) (v:=.bool (BB m x)) (EX m) Tryz.underlying68 Tryz.underlying3 hP5 HWE.out
    have HP5:=hide hP5
    clear hb5 hP5
    dsimp only
    refine hK.out _ _ (⟨E8.cells c7,c7⟩) (fun hHeld=>?_)
    clear hK K
    refine wpAnyH_ready (rs:=[5]) (by kernel_rfl) (by simp) ?_
    refine AllReadyH.cons rfl (fun K hK=>?_) AllReadyH.nil
    go_simp
    have c8:=E8.put c7 HP5.out (by have:=HBW.out;omega) (.map (BR (EX m) (k+1)) (k+1))
    refine hK.out _ _ (⟨E8.cells c8,c8⟩) (fun hHeld=>?_)
    clear hK K
    refine wpAnyH_done (by kernel_rfl) ?_ _
    go_wp2_with fail
    go_roundw
    case rel=>exact⟨k+1,by omega,by go_num,c8.s,World.putObj_heap_same (Array.getElem?_eq_some_iff.1 HP5.out).1⟩
    case measure=>simp[intOf];omega
  · obtain rfl:k=m.uT.length:=by omega
    have hW:=MX h m l A c w wr w.heap.size (w1.heap.size+1+1) w1.heap.size (w1.heap.size+1) HC.out HE.out HIN.out.1 HIN.out.2 HBW.out hS hP
    have HW:=hide hW
    obtain⟨a0,a1,a2,a3,a4,a5,a6,a7,a8,a9,a10⟩:=MB.cells hS.mo
    have al:=hS.mo.lt
    have hbw:=hS.b
    have HBX:=hide hbw
    clear hS hP hW hbw
    go_wp2_with (go_at_call 25;refine HW.out.mono ?_;rintro e w5 ⟨rfl,bp,_,hV⟩;obtain⟨v,hv1,hv2⟩:=hV.o;have v0:=hv1.cell 0;have vl:=hv1.lt;simp at v0;have HV5:=hide hv2;have HB5:=hide hV.b;clear hV hv1 hv2)
    go_ret
    exact⟨v,rfl,HV5.out,HB5.out⟩
end Go.Proofs.YtfemlajeomohhaaGreatDoor
