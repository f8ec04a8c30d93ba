/-
  tree.part: a new sector is taken, both halves are written. tree.put at a leaf.
-/
import Derived.Test.YtgfbepakonjbnaaGreatZ13
set_option maxRecDepth 100000
set_option maxHeartbeats 16000000
section
section
namespace Go.Proofs.YtgfbepakonjbnaaGreat
open Go.RowKit Go.MapKept Go.ChangeMaps
def L7(S:List Nat)(w:World)(kd:Int)(vk vv vd:Value)(enc:Sec):Prop:=
 (∀a l c,vk=.slice (some a) l c->a.block∉S)/\(∀a l c,vv=.slice (some a) l c->a.block∉S)/\(∀a l c,vd=.slice (some a) l c->a.block∉S)/\
 ((∃ks vs,kd=1/\RRd w vk 32 (ks.map bts)/\RRd w vv 16 (vs.map bts)/\K5 ks vs/\enc=C8 ks vs)∨(∃ks ds,kd=2/\RRd w vk 32 (ks.map bts)/\KRd w vd ds/\G0 ks ds/\enc=B5 ks ds))
theorem L7.keep{S:List Nat}{w w':World}{kd:Int}{vk vv vd:Value}{enc:Sec}(h:L7 S w kd vk vv vd enc)(hu:Upd S w w'):L7 S w' kd vk vv vd enc:=by
 obtain⟨a1,a2,a3,⟨ks,vs,e1,h1,h2,h3,h4⟩ | ⟨ks,ds,e1,h1,h2,h3,h4⟩⟩:=h
 ·exact⟨a1,a2,a3,.inl ⟨ks,vs,e1,h1.keep hu a1,h2.keep hu a2,h3,h4⟩⟩
 ·exact⟨a1,a2,a3,.inr ⟨ks,ds,e1,h1.keep hu a1,h2.keep hu a3,h3,h4⟩⟩
theorem L7.below{S:List Nat}{w w':World}{kd:Int}{vk vv vd:Value}{enc:Sec}(h:L7 S w kd vk vv vd enc)(hu:Upd [] w w'):L7 S w' kd vk vv vd enc:=by
 exact h.keep (hu.mono (by simp))
theorem N6{w:World}{g:Sg}{M:Nat->Option Sec}(h:B7 w g M){S:List Nat}{kd:Int}{vk vv vd:Value}{enc:Sec}(hn:L7 S w kd vk vv vd enc)(at_:Nat)(hat:at_<g.h)(hat2:at_<4294967296)(hc:(M at_).isSome=true∨F2 M g.h<40) :
  Calls Tryz.prog 127 #[.agg #[.int .i64 kd,vk,vv,vd],.pointer (some ⟨g.x.tb,0,none⟩),.int .u32 (at_:Int)] w λ e w'=>e=.returned (.int .i64 0)/\B7 w' g (F1 M at_ enc)/\Upd [g.x.wb] w w':=by
 obtain⟨_,_,_,⟨ks,vs,rfl,h1,h2,h3,rfl⟩ | ⟨ks,ds,rfl,h1,h2,h3,rfl⟩⟩:=hn
 ·exact Ah0 h h1 h2 h3 at_ hat hat2 hc
 ·exact Aj0 h h1 h2 h3 at_ hat hat2 hc
def K4:Option (Bs × Nat)->List Value
 | none=>bts (List.replicate 32 0) ++ [.int .u32 0,.bool false]
 | some (k,b)=>bts k ++ [.int .u32 (b:Int),.bool true]
def Az5(o:Option (Bs × Nat)):Value:=.agg (K4 o).toArray
def Q5(g:Sg)(M:Nat->Option Sec)(s:Nat):Nat->Option Sec:=Ai0 M (Ai6 (Y5 (g.cur M 1)) s true 1)
theorem At6{T:Nat->Bool}:∀{h:Nat},0<N3 T h->∃s,s<h/\T s=false/\∀q,q<s->T q=true
 | 0,h=>by simp[N3] at h
 | h+1,hp=>by
  by_cases hq:0<N3 T h
  ·obtain⟨s,h1,h2,h3⟩:=At6 hq;exact⟨s,by omega,h2,h3⟩
  ·unfold N3 at hp;cases hT:T h
   ·refine⟨h,by omega,hT,λ q hq2=>?_⟩;have h0:N3 T h=0:=by omega
    exact leftN_zero h0 q hq2
   ·rw[hT] at hp;simp at hp;omega
where leftN_zero {T:Nat->Bool}:∀{h:Nat},N3 T h=0->∀q,q<h->T q=true
 | 0,_,q,hq=>by omega
 | h+1,h0,q,hq=>by
  unfold N3 at h0;cases hT:T h
  ·rw[hT] at h0;simp at h0
  ·rw[hT] at h0;simp at h0;by_cases e:q=h
   ·rw[e];exact hT
   ·exact leftN_zero h0 q (by omega)
def Sg.Fr(g:Sg)(M:Nat->Option Sec)(s:Nat):Prop:=g.T M s=false/\∀i,i<s->g.T M i=true
def Sg.Pre(g:Sg)(M:Nat->Option Sec):Prop:=∃F,∀i,g.T M i=decide (i<F)
theorem Az6{w:World}{g:Sg}{M:Nat->Option Sec}(h:B7 w g M)(hh:1<g.h)(hh2:g.h<=4096)(hc:(M 1).isSome=true∨F2 M g.h<40)(hl:0<N3 (g.T M) g.h) :
  Calls Tryz.prog 50 #[.pointer (some ⟨g.x.tb,0,none⟩),.int .i64 1] w λ e w'=>∃s,4<=s/\s<g.h/\g.Fr M s/\e=.returned (.tuple #[.int .i64 (s:Int),.int .i64 0])/\B7 w' g (Q5 g M s)/\Upd g.S w w':=by
 obtain⟨s,h1,h2,h3⟩:=At6 hl;refine(By9 h hh hh2 hc 1 (by omega) (by omega)).mono λ e w' hp=>?_;have hp:=hp.at (s:=s) (by omega) (λ q hq=>by rw[show s+q=s from by omega];exact h2) (λ s' hs=>⟨0,by omega,h3 _ (by omega)⟩);refine⟨s,?_,h1,⟨h2,h3⟩,hp.1,hp.2.1,hp.2.2⟩;cases Nat.lt_or_ge s 4 with
 | inr q=>exact q
 | inl q=>rw[Sg.T_low (h.cur_len 1) q] at h2;simp at h2
def Ty9(T:TypeId):Prop:=T=228∨T=220∨T=35∨T=115∨T=79
theorem B7.other9{w:World}{g:Sg}{M:Nat->Option Sec}(h:B7 w g M){b:Nat}{c:Array Value}{T:TypeId}{fr:Nat × Nat}(hb:w.heap[b]?=some (.cells c T fr))(t1:Ty9 T):b∉g.S:=by
 simp only[Sg.S,List.mem_cons,not_or];rcases t1 with rfl | rfl | rfl | rfl | rfl;all_goals exact⟨by rintro rfl;exact h.tx.map hb,h.jr.at_.kind hb (by decide) (by decide) (by decide)⟩
theorem B7.turned9{w w':World}{g:Sg}{M:Nat->Option Sec}(h:B7 w g M){S:List Nat}(hb:∀b,b∈S->∃c T fr,w.heap[b]?=some (.cells c T fr)/\Ty9 T)(hu:Upd S w w'):B7 w' g M:=by
 refine⟨h.jr.own hu (λ k hk=>?_),h.tx.upd hu (λ hk=>?_) (λ hk=>?_) (λ k c hk e=>?_),h.ne,h.ok,h.len,h.fx⟩
 ·obtain⟨c,T,fr,hb,t⟩:=hb k hk;rcases t with rfl | rfl | rfl | rfl | rfl;all_goals exact⟨_,_,_,hb,by decide,by decide,by decide,by decide⟩
 ·obtain⟨c,T,fr,hb,t⟩:=hb _ hk;have:=h.tx.st;rw[hb] at this;rcases t with rfl | rfl | rfl | rfl | rfl;all_goals simp at this
 ·obtain⟨c,T,fr,hb,t⟩:=hb _ hk;exact h.tx.map hb
 ·obtain⟨c2,T,fr,hb,t⟩:=hb _ hk;rcases t with rfl | rfl | rfl | rfl | rfl;all_goals rw[hb] at e;simp at e
attribute [-go_sem] loadCells storeCells Instr.build
theorem Ah2(w:World):(Instr.build 228 #[]).run Tryz.prog w=.ok (Az5 none) w:=run_build w _ _ _ (by kernel_rfl)
theorem Bs9{key:Bs}(hk:key.length=32)(s:Int)(w:World):(Instr.build 228 #[(0,.agg (bts key).toArray),(1,.int .u32 s),(2,.bool true)]).run Tryz.prog w=.ok (.agg (bts key ++ [Value.int .u32 s,Value.bool true]).toArray) w:=by
 match key,hk with
 | [x0,x1,x2,x3,x4,x5,x6,x7,x8,x9,x10,x11,x12,x13,x14,x15,x16,x17,x18,x19,x20,x21,x22,x23,x24,x25,x26,x27,x28,x29,x30,x31],_=>exact run_build w _ _ _ (by kernel_rfl)
theorem C7{w:World}{b:Nat}{C:Array Value}{T:TypeId}(h:w.heap[b]?=some (.cells C T (0,0))){l:List Value}(hl:l.length=C.size)(h1:∀u∈l,u.oneCell'=true):(storeCells ⟨b,0,none⟩ l 0).run Tryz.prog w=.ok () (w.setRow b l.toArray):=by
 have:=run_storeCells_from (P:=Tryz.prog) b T l 0 C w h (by omega) h1;rw[this,List.take_zero,List.nil_append]
theorem M4(o:Option (Bs × Nat))(h:∀k b,o=some (k,b)->k.length=32):(K4 o).length=34:=by
 cases o with
 | none=>rfl
 | some p=>obtain⟨k,b⟩:=p;unfold K4;rw[List.length_append,A8,h k b rfl];rfl
theorem V5(o:Option (Bs × Nat)):∀u∈K4 o,u.oneCell'=true:=by
 intro u hu;cases o with
 | none=>exact(List.mem_append.1 hu).elim (G7 _ u) (by simp;rintro(rfl | rfl)<;>rfl)
 | some p=>exact(List.mem_append.1 hu).elim (G7 _ u) (by simp;rintro(rfl | rfl)<;>rfl)
theorem Cl8:(Tryz.prog.info? 228).map (·.size)=some 34:=by kernel_rfl
theorem Ac6{o:Option (Bs × Nat)}(h:∀k b,o=some (k,b)->k.length=32):(Tryz.prog.info? 228).map (·.size)=some (K4 o).toArray.size:=by
 rw[Cl8,List.size_toArray,M4 o h]
theorem Be4{w:World}{g:Sg}{M:Nat->Option Sec}(h:B7 w g M)(hh:1<g.h)(hh2:g.h<=4096){kx ky:Int}{a1 a2 a3 a4 a5 a6:Option Addr}{n1 n2 n3 n4 n5 n6 c1 c2 c3 c4 c5 c6:Nat}{ex ey:Sec}
  (hx:L7 g.S w kx (.slice a1 n1 c1) (.slice a2 n2 c2) (.slice a3 n3 c3) ex) (hy:L7 g.S w ky (.slice a4 n4 c4) (.slice a5 n5 c5) (.slice a6 n6 c6) ey) (at_:Nat) (hat:at_<g.h) (key:Bs) (hkey:key.length=32)
  (hl:0<N3 (g.T M) g.h) (hc:(M 1).isSome=true∨F2 M g.h<40) (hc2:∀s,4<=s->s<g.h->g.Fr M s->((Q5 g M s) at_).isSome=true∨F2 (Q5 g M s) g.h<40) (hc3:∀s,4<=s->s<g.h->g.Fr M s->F2 (F1 (Q5 g M s) at_ ex) g.h<40) :
  Calls Tryz.prog 208 #[.pointer (some ⟨g.x.tb,0,none⟩),.int .u32 (at_:Int),.agg #[.int .i64 kx,.slice a1 n1 c1,.slice a2 n2 c2,.slice a3 n3 c3],.agg #[.int .i64 ky,.slice a4 n4 c4,.slice a5 n5 c5,.slice a6 n6 c6],arr key] w λ e w'=>
   ∃s,4<=s/\s<g.h/\g.Fr M s/\e=.returned (.tuple #[Az5 (some (key,s)),.int .i64 0])/\B7 w' g (F1 (F1 (Q5 g M s) at_ ex) s ey)/\Upd g.S w w':=by
 obtain⟨wA,hwA⟩:∃wA,wA=(((w.alloc (.cells #[.int .i64 kx,.slice a1 n1 c1,.slice a2 n2 c2,.slice a3 n3 c3] 220)).alloc (.cells #[.int .i64 ky,.slice a4 n4 c4,.slice a5 n5 c5,.slice a6 n6 c6] 220)).alloc (.cells (bts key).toArray 35)).alloc (.cells (K4 none).toArray 228):=⟨_,rfl⟩;have huA:Upd [] w wA:=by rw[hwA];exact((((Upd.refl _ _).alloc _).alloc _).alloc _).alloc _
 obtain⟨b7,hb7⟩:∃b,b=w.heap.size:=⟨_,rfl⟩;obtain⟨b8,hb8⟩:∃b,b=w.heap.size+1:=⟨_,rfl⟩;obtain⟨b9,hb9⟩:∃b,b=w.heap.size+1+1:=⟨_,rfl⟩;obtain⟨b10,hb10⟩:∃b,b=w.heap.size+1+1+1:=⟨_,rfl⟩;have H10:Hid (wA.heap[b10]?=some (.cells (K4 none).toArray 228 (0,0))):=by
  show wA.heap[b10]?=_
  rw[hwA];have:=A6 (w:=((w.alloc (.cells #[.int .i64 kx,.slice a1 n1 c1,.slice a2 n2 c2,.slice a3 n3 c3] 220)).alloc (.cells #[.int .i64 ky,.slice a4 n4 c4,.slice a5 n5 c5,.slice a6 n6 c6] 220)).alloc (.cells (bts key).toArray 35)) (.cells (K4 none).toArray 228);simpa [hb10] using this
 have H9:Hid (wA.heap[b9]?=some (.cells (bts key).toArray 35 (0,0))):=by
  show wA.heap[b9]?=_
  rw[hwA,A9 (by simp[hb9];try omega)];have:=A6 (w:=(w.alloc (.cells #[.int .i64 kx,.slice a1 n1 c1,.slice a2 n2 c2,.slice a3 n3 c3] 220)).alloc (.cells #[.int .i64 ky,.slice a4 n4 c4,.slice a5 n5 c5,.slice a6 n6 c6] 220)) (.cells (bts key).toArray 35);simpa [hb9] using this
 have H8:Hid (wA.heap[b8]?=some (.cells #[.int .i64 ky,.slice a4 n4 c4,.slice a5 n5 c5,.slice a6 n6 c6] 220 (0,0))):=by
  show wA.heap[b8]?=_
  rw[hwA,A9 (by simp[hb8];try omega),A9 (by simp[hb8];try omega)];have:=A6 (w:=w.alloc (.cells #[.int .i64 kx,.slice a1 n1 c1,.slice a2 n2 c2,.slice a3 n3 c3] 220)) (.cells #[.int .i64 ky,.slice a4 n4 c4,.slice a5 n5 c5,.slice a6 n6 c6] 220);simpa [hb8] using this
 have H7:Hid (wA.heap[b7]?=some (.cells #[.int .i64 kx,.slice a1 n1 c1,.slice a2 n2 c2,.slice a3 n3 c3] 220 (0,0))):=by
  show wA.heap[b7]?=_
  rw[hwA,hb7,A9 (by simp;try omega),A9 (by simp;try omega),A9 (by simp)];exact A6 _
 have HTK:=η (Az6 (h.below huA) hh hh2 hc hl);have HX:=η (hx.below huA);have HY:=η (hy.below huA);have HA:=η (h.below huA);have HW:=η hwA;have HUA:=η huA;have HB:=η (And.intro hb7 (And.intro hb8 (And.intro hb9 hb10)));have HC2:=η hc2;have HC3:=η hc3;clear h hx hy hwA huA hb7 hb8 hb9 hb10 hl hc hc2 hc3;unfold arr;go_enter Tryz.func208,Tryz.ntmps208
 go_wp2_with fail
 have hwA:=HW.out;obtain⟨hb7,hb8,hb9,hb10⟩:=HB.out;rw[show(#[.int .u8 0,.int .u8 0,.int .u8 0,.int .u8 0,.int .u8 0,.int .u8 0,.int .u8 0,.int .u8 0,.int .u8 0,.int .u8 0,.int .u8 0,.int .u8 0,.int .u8 0,.int .u8 0,.int .u8 0,.int .u8 0,.int .u8 0,.int .u8 0,.int .u8 0,.int .u8 0,.int .u8 0,.int .u8 0,.int .u8 0,.int .u8 0,.int .u8 0,.int .u8 0,.int .u8 0,.int .u8 0,.int .u8 0,.int .u8 0,.int .u8 0,.int .u8 0,.int .u32 0,.bool false]:Array Value)=(K4 none).toArray from rfl,← hwA,← hb10,← hb9,← hb8,← hb7];clear hwA hb7 hb8 hb9 hb10;refine HTK.out.mono ?_;rintro e w1 ⟨s,hs4,hsh,hsT,rfl,h1,hu1⟩;have h7:=(hu1.block _ (A2 H7.out) (HA.out.other9 H7.out (.inr (.inl rfl)))).trans H7.out;have h8:=(hu1.block _ (A2 H8.out) (HA.out.other9 H8.out (.inr (.inl rfl)))).trans H8.out;have h9:=(hu1.block _ (A2 H9.out) (HA.out.other9 H9.out (.inr (.inr (.inl rfl))))).trans H9.out;have h10:=(hu1.block _ (A2 H10.out) (HA.out.other9 H10.out (.inl rfl))).trans H10.out;have l7:=A7 (n:=4) (cs:=[.int .i64 kx,.slice a1 n1 c1,.slice a2 n2 c2,.slice a3 n3 c3]) h7 rfl;have hx1:=HX.out.keep hu1;have hy1:=HY.out.keep hu1;have HWX:=η (N6 h1 hx1 at_ hat (by omega) (HC2.out s hs4 hsh hsT));have HC3s:=η (HC3.out s hs4 hsh hsT);have ws:IntKind.u32.wrap (s:Int)=(s:Int):=by rw[IntKind.wrap_u32];omega
 have HU1:=η hu1;have H71:=η h7;have H81:=η h8;have H91:=η h9;have H101:=η h10;have HY1:=η hy1;have H1:=η h1;have HT:=η hsT;clear hu1 h7 h8 h9 h10 hx1 hy1 h1 hsT;go_wp2_with fail
 refine HWX.out.mono ?_;rintro e w2 ⟨rfl,h2,hu2⟩;have nS:∀b,b∉g.S->b∉[g.x.wb]:=λ b hb=>by simp[Sg.S] at hb;simpa using hb.1
 have h8:=(hu2.block _ (A2 H81.out) (nS _ (H1.out.other9 H81.out (.inr (.inl rfl))))).trans H81.out;have h9:=(hu2.block _ (A2 H91.out) (nS _ (H1.out.other9 H91.out (.inr (.inr (.inl rfl)))))).trans H91.out;have h10:=(hu2.block _ (A2 H101.out) (nS _ (H1.out.other9 H101.out (.inl rfl)))).trans H101.out;have l8:=A7 (n:=4) (cs:=[.int .i64 ky,.slice a4 n4 c4,.slice a5 n5 c5,.slice a6 n6 c6]) h8 rfl;have hy2:=HY1.out.keep (hu2.mono g.memw);have HWY:=η (N6 h2 hy2 s hsh (by omega) (.inr HC3s.out));have HU2:=η (HU1.out.trans (hu2.mono g.memw));have H92:=η h9;have H102:=η h10;have H2:=η h2;clear hu2 h8 h9 h10 hy2 h2 nS;go_wp2_with fail
 refine HWY.out.mono ?_;rintro e w3 ⟨rfl,h3,hu3⟩;have nS:∀b,b∉g.S->b∉[g.x.wb]:=λ b hb=>by simp[Sg.S] at hb;simpa using hb.1
 have h9:=(hu3.block _ (A2 H92.out) (nS _ (H2.out.other9 H92.out (.inr (.inr (.inl rfl)))))).trans H92.out;have h10:=(hu3.block _ (A2 H102.out) (nS _ (H2.out.other9 H102.out (.inl rfl)))).trans H102.out;have l9:=A7 (n:=32) h9 (by rw[A8,hkey]);have s10:=C7 h10 (l:=K4 (some (key,s))) (by rw[List.size_toArray,M4 _ (by intro k b e;cases e;exact hkey),M4 _ (by simp)]) (V5 _);have HU3:=η (HU2.out.trans (hu3.mono g.memw));have H3:=η h3;clear hu3 nS h9 h3;have b10s:=Bs9 hkey (s:Int);unfold K4 at s10;go_wp2_with fail
 refine bodyPost_ret (C5 (p:=10) (u:=11) (ty:=228) (by rfl) _ _ b10 _ (by rfl) (run_loadVar_row _ b10 _ _ _ _ _ (setRow_heap _ _ _ _ _ _ h10) Tryz.underlying228 rfl (Ac6 (o:=some (key,s)) (by intro k b e;cases e;exact hkey)))) (by rfl) ?_;have hr:Upd [b10] w3 (w3.setRow b10 (K4 (some (key,s))).toArray):=D5 (Upd.refl _ _) _ (.inl (by simp));refine⟨s,hs4,hsh,HT.out,rfl,H3.out.turned9 (λ b hb=>?_) hr,((HUA.out.mono (by simp)).trans HU3.out).late hr (λ k hk=> .inr ?_)⟩
 ·simp at hb;subst hb;exact⟨_,_,_,h10,.inl rfl⟩
 ·simp at hk;subst hk;have:=HB.out.2.2.2;omega
end Go.Proofs.YtgfbepakonjbnaaGreat
end
section
namespace Go.Proofs.YtgfbepakonjbnaaGreat
open Go.RowKit Go.MapKept Go.ChangeMaps
theorem M5{sz:Nat}:∀{es:List (List Value)},(∀e,e∈es->e.length=sz)->es.flatten.length=es.length*sz
 | [],_=>by simp
 | e :: es,h=>by
  have:=M5 (es:=es) (λ x hx=>h x (by simp[hx]));rw[List.flatten_cons,List.length_append,this,h e (by simp),List.length_cons,Nat.add_mul];omega
theorem Ak8{sz:Nat}:∀{es:List (List Value)} (i:Nat),(∀e,e∈es->e.length=sz)->(es.take i).flatten=es.flatten.take (i*sz)
 | [],i,_=>by simp
 | e :: es,0,_=>by simp
 | e :: es,i+1,h=>by
  have:=Ak8 (es:=es) i (λ x hx=>h x (by simp[hx]));have he:=h e (by simp);rw[List.take_succ_cons,List.flatten_cons,List.flatten_cons,this,List.take_append,List.take_of_length_le (l:=e) (by rw[he,Nat.add_mul];omega),he,Nat.add_mul,Nat.one_mul,Nat.add_sub_cancel]
theorem Ab7{sz:Nat}:∀{es:List (List Value)} (i:Nat),(∀e,e∈es->e.length=sz)->(es.drop i).flatten=es.flatten.drop (i*sz)
 | [],i,_=>by simp
 | e :: es,0,_=>by simp
 | e :: es,i+1,h=>by
  have:=Ab7 (es:=es) i (λ x hx=>h x (by simp[hx]));have he:=h e (by simp);rw[List.drop_succ_cons,List.flatten_cons,this,List.drop_append,List.drop_eq_nil_of_le (show e.length<=(i+1)*sz by rw[he,Nat.add_mul];omega),he,Nat.add_mul,Nat.one_mul,Nat.add_sub_cancel,List.nil_append]
theorem M9{ls:List Bs}{n:Nat}(h:∀x,x∈ls->x.length=n):∀e,e∈ls.map bts->e.length=n:=λ e he=>by
 obtain⟨k,hk,rfl⟩:=List.mem_map.1 he;rw[A8];exact h k hk
theorem Bm8{ls:List Bs}{n i:Nat}{x:Bs}(h:∀x,x∈ls->x.length=n):((E6 ls i x).map bts).flatten=((ls.map bts).flatten.take (i*n)++bts x)++(ls.map bts).flatten.drop (i*n):=by
 rw[← Ak8 i (M9 h),← Ab7 i (M9 h)];simp[E6,List.map_take,List.map_drop]
theorem Bm9{ls:List Bs}{n i:Nat}{x:Bs}(h:∀x,x∈ls->x.length=n)(hi:i<ls.length):((ls.set i x).map bts).flatten=((ls.map bts).flatten.take (i*n)++bts x)++(ls.map bts).flatten.drop ((i+1)*n):=by
 rw[← Ak8 i (M9 h),← Ab7 (i+1) (M9 h),List.set_eq_take_append_cons_drop,if_pos hi];simp[List.map_take,List.map_drop]
theorem V6(ls:List Bs):∀u∈(ls.map bts).flatten,u.oneCell'=true:=by
 intro u hu;obtain⟨e,he,hu⟩:=List.mem_flatten.1 hu;obtain⟨k,_,rfl⟩:=List.mem_map.1 he;exact G7 k u hu
theorem F7.turn{w:World}{B:Nat}{v:Value}{vs:List Bs}(h:F7 w B v vs)(hl:∀x,x∈vs->x.length=16){P:Nat}(hP:P<vs.length){x:Bs}(hx:x.length=16) :
  ∃gv cap cur r,v=.slice (some ⟨gv,0,none⟩) vs.length cap/\B<=gv/\w.heap[gv]?=some (.cells cur 115 (0,0))/\(storeCells ⟨gv,P*16,none⟩ (bts x) 0).run Tryz.prog w=.ok () (w.setRow gv r)/\F7 (w.setRow gv r) B v (vs.set P x):=by
 rcases h.2 with⟨_,h0⟩ | ⟨gv,cap,cur,rfl,hb,hg,hc,hm,hs,ht⟩
 ·omega
 ·have hcl:cur.toList.length=cap*16:=by rw[Array.length_toList,hs]
  have hbl:=A8 x;have hrun:=run_storeCells_at (P:=Tryz.prog) gv (P*16) _ (bts x) 0 cur w hg (by rw[hbl,hx,hs];omega) (G7 x);refine⟨gv,cap,cur,_,rfl,hb,hg,hrun,?_⟩;have hfl:=M5 (M9 hl);rw[List.length_map] at hfl;unfold F7;refine⟨?_,.inr ⟨gv,cap,_,by rw[List.length_set],hb,setRow_heap _ _ _ _ _ _ hg,by rw[List.length_set];exact hc,hm,?_,?_⟩⟩
  ·rw[M5 (M9 (n:=16) (by intro y hy;rcases List.mem_or_eq_of_mem_set hy with q | q;exact hl y q;rw[q];exact hx)),List.length_map]
  ·rw[List.size_toArray];simp only[List.length_append,List.length_take,List.length_drop,hcl,hbl,hx];omega
  ·rw[Bm9 hl hP,List.length_set,← ht,Nat.add_zero,hbl,hx];have e1:(List.take (vs.length*16) cur.toList).take (P*16)=cur.toList.take (P*16):=by rw[List.take_take];congr 1;omega
   rw[e1,List.append_assoc,List.append_assoc,List.take_append,List.take_append,List.take_of_length_le (i:=vs.length*16) (l:=cur.toList.take (P*16)) (by rw[List.length_take];omega),List.take_of_length_le (i:=_) (l:=bts x) (by rw[List.length_take,hcl,hbl,hx];omega)];congr 2
   rw[List.drop_take,show P*16+16=(P+1)*16 from by omega];congr 1
   rw[List.length_take,hcl,hbl,hx];omega
theorem Ak9{w w5:World}{g:Sg}{M:Nat->Option Sec}{b10:Nat}{C:Array Value}(h5:B7 w5 g M)(h10:w5.heap[b10]?=some (.cells C 228 (0,0)))(hb:w.heap.size<=b10)(hu:Upd g.S w w5)(cs:Array Value):B7 (w5.setRow b10 cs) g M/\Upd g.S w (w5.setRow b10 cs):=by
 have hr:Upd [b10] w5 (w5.setRow b10 cs):=D5 (Upd.refl _ _) _ (.inl (by simp));refine⟨h5.turned9 (λ b hb=>?_) hr,hu.late hr (λ k hk=> .inr ?_)⟩
 ·simp at hb;subst hb;exact⟨_,_,_,h10,.inl rfl⟩
 ·simp at hk;subst hk;exact hb
theorem Sg.notw{g:Sg}{b:Nat}(hb:b∉g.S):b∉[g.x.wb]:=λ q=>hb (g.memw b q)
attribute [-go_sem] loadCells storeCells Instr.build
attribute [local go_sem] Ah2 L6
theorem Bz7{w:World}{g:Sg}{M:Nat->Option Sec}(h:B7 w g M)(at_:Nat)(hat:at_<g.h)(hat2:at_<4294967296){ks vs:List Bs}(hok:K5 ks vs)(hcur:g.cur M at_=C8 ks vs)(key v:Bs)(hkey:key.length=32)(hv:v.length=16)(deep:Int)(hd:(deep == 0)=false)(hc:(M at_).isSome=true∨F2 M g.h<40)(hh:I4 ks key=true){P:Nat}(hPk:F4 ks key=P) :
  Calls Tryz.prog 131 #[.pointer (some ⟨g.x.tb,0,none⟩),.int .u32 (at_:Int),arr key,arr v,.int .i64 deep] w λ e w'=>e=.returned (.tuple #[Az5 none,.int .i64 0])/\B7 w' g (F1 M at_ (C8 ks (vs.set P v)))/\Upd g.S w w':=by
 obtain⟨wA,hwA⟩:∃wA,wA=((w.alloc (.cells (bts key).toArray 35)).alloc (.cells (bts v).toArray 115)).alloc (.cells (K4 none).toArray 228):=⟨_,rfl⟩;have huA:Upd [] w wA:=by rw[hwA];exact(((Upd.refl _ _).alloc _).alloc _).alloc _
 obtain⟨b7,hb7⟩:∃b,b=w.heap.size:=⟨_,rfl⟩;obtain⟨b8,hb8⟩:∃b,b=w.heap.size+1:=⟨_,rfl⟩;obtain⟨b10,hb10⟩:∃b,b=w.heap.size+1+1:=⟨_,rfl⟩;have H10:Hid (wA.heap[b10]?=some (.cells (K4 none).toArray 228 (0,0))):=by
  show wA.heap[b10]?=_
  rw[hwA];have:=A6 (w:=(w.alloc (.cells (bts key).toArray 35)).alloc (.cells (bts v).toArray 115)) (.cells (K4 none).toArray 228);simpa [hb10] using this
 have H8:Hid (wA.heap[b8]?=some (.cells (bts v).toArray 115 (0,0))):=by
  show wA.heap[b8]?=_
  rw[hwA,A9 (by simp[hb8];try omega)];have:=A6 (w:=w.alloc (.cells (bts key).toArray 35)) (.cells (bts v).toArray 115);simpa [hb8] using this
 have H7:Hid (wA.heap[b7]?=some (.cells (bts key).toArray 35 (0,0))):=by
  show wA.heap[b7]?=_
  rw[hwA,hb7,A9 (by simp;try omega),A9 (by simp;try omega)];exact A6 _
 have hA:=h.below huA;have HO7:=η (hA.other9 H7.out (.inr (.inr (.inl rfl))));have HO8:=η (hA.other9 H8.out (.inr (.inr (.inr (.inl rfl)))));have HO10:=η (hA.other9 H10.out (.inl rfl));have HBB:Hid (b7<wA.heap.size/\b8<wA.heap.size/\b10<wA.heap.size):=η ⟨A2 H7.out,A2 H8.out,A2 H10.out⟩;have HR:=η (Y9 hA at_ hat hat2 hok hcur);have HW:=η hwA;have HUA:=η huA;have HB:=η (And.intro hb7 (And.intro hb8 hb10));have HOK:=η hok;have HA:=η hA;clear h hA hok hcur hwA huA hb7 hb8 hb10;unfold arr;go_enter Tryz.func131,Tryz.ntmps131
 go_wp2_with fail
 have hwA:=HW.out;obtain⟨hb7,hb8,hb10⟩:=HB.out;rw[show(#[.int .u8 0,.int .u8 0,.int .u8 0,.int .u8 0,.int .u8 0,.int .u8 0,.int .u8 0,.int .u8 0,.int .u8 0,.int .u8 0,.int .u8 0,.int .u8 0,.int .u8 0,.int .u8 0,.int .u8 0,.int .u8 0,.int .u8 0,.int .u8 0,.int .u8 0,.int .u8 0,.int .u8 0,.int .u8 0,.int .u8 0,.int .u8 0,.int .u8 0,.int .u8 0,.int .u8 0,.int .u8 0,.int .u8 0,.int .u8 0,.int .u8 0,.int .u8 0,.int .u32 0,.bool false]:Array Value)=(K4 none).toArray from rfl,← hwA,← hb10,← hb8,← hb7];clear hwA hb7 hb8 hb10;refine HR.out.mono ?_;rintro e w1 ⟨vk,vv,rfl,hK,hV,h1,hu1⟩;obtain⟨ak,ck,rfl⟩:=C4 hK;obtain⟨av,cv,rfl⟩:=C4 hV;have nj:∀b,b∉g.S->b∉[g.j.jb]:=λ b hb q=>hb (g.mem b q);obtain⟨w2,hw2⟩:∃w2,w2=w1.alloc (.cells #[.int .i64 1,.slice ak ks.length ck,.slice av vs.length cv,.slice none 0 0] 220):=⟨_,rfl⟩;have hu2:Upd [] w1 w2:=by rw[hw2];exact(Upd.refl _ _).alloc _
 obtain⟨b12,hb12⟩:∃b,b=w1.heap.size:=⟨_,rfl⟩;have h7:=(hu2.block _ (Nat.lt_of_lt_of_le HBB.out.1 hu1.size) (by simp)).trans ((hu1.block _ HBB.out.1 (nj _ HO7.out)).trans H7.out);have h8:=(hu2.block _ (Nat.lt_of_lt_of_le HBB.out.2.1 hu1.size) (by simp)).trans ((hu1.block _ HBB.out.2.1 (nj _ HO8.out)).trans H8.out);have h10:=(hu2.block _ (Nat.lt_of_lt_of_le HBB.out.2.2 hu1.size) (by simp)).trans ((hu1.block _ HBB.out.2.2 (nj _ HO10.out)).trans H10.out);have h12:w2.heap[b12]?=some (.cells #[.int .i64 1,.slice ak ks.length ck,.slice av vs.length cv,.slice none 0 0] 220 (0,0)):=by rw[hw2,hb12];exact A6 _
 have H712:=η h7;have H812:=η h8;have H1012:=η h10;have H12:=η h12;have H2:=η (h1.below hu2);have HK2:=η (B8 (S:=[]) hK hu2 (by simp));have HV2:=η (B8 (S:=[]) hV hu2 (by simp));have HU2:=η ((hu1.mono (by simp)).trans (hu2.mono (by simp)):Upd [g.j.jb] wA w2);have HW2:=η hw2;have HB12:=η hb12;have HBG:=η (Nat.le_trans (Nat.le_of_eq rfl) hu1.size:wA.heap.size<=w1.heap.size);have l1:=A7 (n:=4) (cs:=[.int .i64 1,.slice ak ks.length ck,.slice av vs.length cv,.slice none 0 0]) h12 rfl;have l7:=A7 (n:=32) h7 (by rw[A8,hkey]);have m0:=A4 h12 0;rw[hw2] at l1 l7;rw[hw2,hb12] at m0;rw[hb12] at l1;clear hK hV h1 hu1 hu2 h7 h8 h10 h12 nj hw2 hb12;have hF:=Af2 (w:=w2) (vv:=.slice av vs.length cv) (vd:=.slice none 0 0) 1 (C3.rd HK2.out HOK.out.k) HOK.out.k (by have:=HOK.out.most;omega) key hkey;rw[hh,hPk] at hF;have HF:=η hF;clear hF;unfold arr at *;have hP:P<vs.length:=by
  have:=HOK.out.n;rw[← hPk];unfold I4 at hh;have:=of_decide_eq_true hh;have:=(List.getElem?_eq_some_iff.1 this).1;omega
 clear hh hPk;have hP0:(P:Int)<(vs.length:Int):=by omega
 go_wp2_with fail
 have hw2:=HW2.out;have hb12:=HB12.out;rw[← hw2,← hb12];clear hw2 hb12;refine HF.out.mono ?_;rintro e w3 ⟨rfl,hu3⟩;have hV3:=B8 (S:=[]) HV2.out hu3 (by simp);have hK3:=B8 (S:=[]) HK2.out hu3 (by simp);obtain⟨gv,cap,cur,r,ev,hBg,hgv,hst,hV4⟩:=F7.turn hV3 HOK.out.v hP hv;injection ev with e1 _ e3;subst e1 e3;have h7:=(hu3.block _ (A2 H712.out) (by simp)).trans H712.out;have h8:=(hu3.block _ (A2 H812.out) (by simp)).trans H812.out;have h10:=(hu3.block _ (A2 H1012.out) (by simp)).trans H1012.out;have h12:=(hu3.block _ (A2 H12.out) (by simp)).trans H12.out;have h3:=H2.out.below hu3;have m2:=A4 h12 2;have l8:=A7 (n:=16) h8 (by rw[A8,hv]);obtain⟨w4,hw4⟩:∃w4,w4=w3.setRow gv r:=⟨_,rfl⟩;have hu4:Upd [gv] w3 w4:=by rw[hw4];exact D5 (Upd.refl _ _) _ (.inl (by simp))
 have n12:b12≠gv:=by rintro rfl;rw[hgv] at h12;simp at h12
 have n10:b10≠gv:=by rintro rfl;rw[hgv] at h10;simp at h10
 have h12':=(hu4.block _ (A2 h12) (by simpa using n12)).trans h12;have h10':=(hu4.block _ (A2 h10) (by simpa using n10)).trans h10;have h4:=h3.turned9 (S:=[gv]) (λ b hb=>by simp at hb;subst hb;exact⟨_,_,_,hgv,.inr (.inr (.inr (.inl rfl)))⟩) hu4;have hK4:=B8 hK3 hu4 (λ k c hk _ e=>by simp at hk;subst hk;rw[hgv] at e;simp at e);rw[← hw4] at hst hV4;have hok2:K5 ks (vs.set P v):=⟨HOK.out.k,λ x hx=>by rcases List.mem_or_eq_of_mem_set hx with q | q;exact HOK.out.v x q;rw[q];exact hv,by rw[List.length_set];exact HOK.out.n,HOK.out.most⟩;have hWR:=Ah0 h4 (vd:=.slice none 0 0) (C3.rd hK4 HOK.out.k) (F7.rd hV4 hok2.v) hok2 at_ hat hat2 hc;have l12:=A7 (n:=4) (cs:=[.int .i64 1,.slice ak ks.length ck,.slice (some ⟨gv,0,none⟩) vs.length cv,.slice none 0 0]) h12' rfl;have HWR:=η hWR;have H10':=η h10';have H4:=η h4;have HU4:Hid (Upd [g.j.jb] wA w4):=by
  show Upd _ _ _
  exact(HU2.out.trans (hu3.mono (by simp))).late hu4 (λ k hk=> .inr (by simp at hk;subst hk;exact hBg))
 clear hV3 hK3 hgv hV4 h7 h8 h10 h12 h3 hu4 hw4 n12 n10 h12' h10' h4 hK4 hok2 hWR;go_wp2_with fail
 refine HWR.out.mono ?_;rintro e w5 ⟨rfl,h5,hu5⟩;have h10:=(hu5.block _ (A2 H10'.out) (Sg.notw HO10.out)).trans H10'.out;have s10:=C7 h10 (l:=K4 none) (by rw[List.size_toArray]) (V5 _);have HU5:=η ((HU4.out.mono g.mem).trans (hu5.mono g.memw));have H5:=η h5;clear hu5 h5;unfold Az5;go_wp2_with fail
 refine bodyPost_ret (C5 (p:=10) (u:=11) (ty:=228) (by rfl) _ _ b10 _ (by rfl) (run_loadVar_row _ b10 _ _ _ _ _ (setRow_heap _ _ _ _ _ _ h10) Tryz.underlying228 rfl (Ac6 (o:=none) (by simp)))) (by rfl) ?_;exact⟨rfl,Ak9 H5.out h10 (by have:=HB.out.2.2;omega) ((HUA.out.mono (by simp)).trans HU5.out) _⟩
end Go.Proofs.YtgfbepakonjbnaaGreat
end
end
section
section
namespace Go.Proofs.YtgfbepakonjbnaaGreat
open Go.RowKit
theorem Ah3{T T':Nat->Bool}{s:Nat}(h1:∀i,T' i=(T i || decide (i=s)))(h2:T s=false):∀h,N3 T h=N3 T' h+(if s<h then 1 else 0)
 | 0=>by simp[N3]
 | h+1=>by
  have ih:=Ah3 h1 h2 h;unfold N3;rw[h1 h];by_cases e:h=s
  ·subst e;rw[h2,ih];simp
  ·rw[ih];have:(s<h+1)=(s<h):=by rw[eq_iff_iff];omega
   simp only[this,e,decide_false,Bool.or_false];cases T h
   ·simp only[Bool.false_eq_true,if_false];omega
   ·simp
def c1M(M:Nat->Option Sec):Nat:=if(M 1).isSome then 0 else 1
theorem Az8{g:Sg}{M:Nat->Option Sec}{a:Nat}(x:Sec)(ha:a≠1)(i:Nat):g.T (F1 M a x) i=g.T M i:=by
 unfold Sg.T Sg.cur F1;rw[if_neg (Ne.symm ha)]
theorem Bw4{g:Sg}{M:Nat->Option Sec}(a:Nat)(x:Sec)(i:Nat):g.cur (F1 M a x) i=if i=a then x else g.cur M i:=by
 unfold Sg.cur F1;split<;>rfl
theorem Bw5{g:Sg}{M:Nat->Option Sec}(s i:Nat)(hi:i≠1):g.cur (Q5 g M s) i=g.cur M i:=by
 unfold Sg.cur Q5 Ai0;rw[if_neg hi]
theorem Cq6{g:Sg}{M:Nat->Option Sec}(hl:(g.cur M 1).length=512){s:Nat}(hs:4<=s)(hh:s<4096)(i:Nat):g.T (Q5 g M s) i=(g.T M i || decide (i=s)):=by
 unfold Q5;rw[Sg.T_turn hl true hs (by omega)];by_cases e:i=s
 ·subst e;simp
 ·rw[if_neg (by omega)];simp[e]
theorem Ar0{M:Nat->Option Sec}{a:Nat}(x:Sec)(ha:a≠1):c1M (F1 M a x)=c1M M:=by
 unfold c1M F1;rw[if_neg (Ne.symm ha)]
theorem Cp3(g:Sg)(M:Nat->Option Sec)(s:Nat):c1M (Q5 g M s)=0:=by
 unfold c1M Q5 Ai0;simp
theorem T4{M:Nat->Option Sec}{h a:Nat}{x:Sec}(ho:MOk M h)(ha:a<h):F2 (F1 M a x) h<=F2 M h+1:=by
 have:=Ao2 (s:=x) ho ha;unfold F1;rw[this];split<;>omega
theorem Ao8{g:Sg}{M:Nat->Option Sec}{h:Nat}(s:Nat)(ho:MOk M h)(hh:1<h):F2 (Q5 g M s) h=F2 M h+c1M M:=by
 unfold Q5 Ai0 c1M;rw[Ao2 ho hh];split<;>rfl
structure Q6(g:Sg)(M M':Nat->Option Sec)(S S':List Nat)(n m:Nat):Prop where
 sub:∀s,s∈S->s∈S'
 nd:S'.Nodup
 new:∀s,s∈S'->s∈S∨(g.T M s=false/\4<=s/\s<g.h)
 T:∀i,g.T M' i=(g.T M i || decide (i∈S'))
 keep:∀i,i∉S'->i≠1->M' i=M i
 cnt:F2 M' g.h+c1M M'<=F2 M g.h+c1M M+m
 left:N3 (g.T M') g.h+S'.length=N3 (g.T M) g.h+S.length
 len:S'.length<=S.length+n
 pre:g.Pre M->g.Pre M'
structure K7(g:Sg)(M:Nat->Option Sec)(S:List Nat):Prop where
 nd:S.Nodup
 low:∀s,s∈S->4<=s/\s<g.h
 T:∀s,s∈S->g.T M s=true
section
variable {g:Sg} {M M1:Nat->Option Sec} {S S':List Nat} {n m:Nat}
theorem K7.refl(h:K7 g M S):Q6 g M M S S 0 0:=
 ⟨λ _ q=>q,h.nd,λ _ q=> .inl q,λ i=>by
  by_cases e:i∈S
  ·rw[h.T i e];simp
  ·simp[e],λ _ _ _=>rfl,Nat.le_refl _,rfl,Nat.le_refl _,id⟩
theorem Q6.held(h:Q6 g M M1 S S' n m)(hs:K7 g M S):K7 g M1 S':=
 ⟨h.nd,λ s q=>by rcases h.new s q with r | r;exact hs.low s r;exact r.2,λ s q=>by rw[h.T];simp[q]⟩
theorem Q6.perm(h:Q6 g M M1 S S' n m){S2:List Nat}(hp:S'.Perm S2):Q6 g M M1 S S2 n m:=
 ⟨λ s q=>hp.mem_iff.1 (h.sub s q),hp.nodup_iff.1 h.nd,λ s q=>h.new s (hp.mem_iff.2 q),λ i=>by rw[h.T];simp only[hp.mem_iff],λ i q=>h.keep i (λ r=>q (hp.mem_iff.1 r)),h.cnt,by rw[← hp.length_eq];exact h.left,by rw[← hp.length_eq];exact h.len,h.pre⟩
theorem Q6.mono(h:Q6 g M M1 S S' n m){n' m':Nat}(hn:n<=n')(hm:m<=m'):Q6 g M M1 S S' n' m':=
 ⟨h.sub,h.nd,h.new,h.T,h.keep,Nat.le_trans h.cnt (by omega),h.left,Nat.le_trans h.len (by omega),h.pre⟩
theorem Q6.put(h:Q6 g M M1 S S' n m)(ho:MOk M1 g.h){a:Nat}(ha:a∈S')(ha1:4<=a)(hh:a<g.h)(x:Sec):Q6 g M (F1 M1 a x) S S' n (m+1):=by
 refine⟨h.sub,h.nd,h.new,λ i=>by rw[Az8 x (by omega)];exact h.T i,λ i q r=>?_,?_,?_,h.len,λ q=>by
  have e:g.T (F1 M1 a x)=g.T M1:=funext λ i=>Az8 x (by omega) i;unfold Sg.Pre;rw[e];exact h.pre q⟩
 ·unfold F1;rw[if_neg (by rintro rfl;exact q ha)];exact h.keep i q r
 ·rw[Ar0 x (by omega)];have:=T4 (x:=x) ho hh;have:=h.cnt;omega
 ·rw[show g.T (F1 M1 a x)=g.T M1 from funext λ i=>Az8 x (by omega) i];exact h.left
theorem Q6.take(h:Q6 g M M1 S S' n m)(ho:MOk M1 g.h)(hl:(g.cur M1 1).length=512)(hh:1<g.h)(hh2:g.h<=4096){s:Nat}(hs:4<=s)(hs2:s<g.h)(hF:g.Fr M1 s):Q6 g M (Q5 g M1 s) S (s :: S') (n+1) m:=by
 have hT:=hF.1;have hT1:=Cq6 hl hs (show s<4096 by omega);have h0:g.T M s=false/\s∉S':=by
  have:=h.T s;rw[hT] at this;cases q:g.T M s
  ·rw[q] at this;simp at this;exact⟨rfl,this⟩
  ·rw[q] at this;simp at this
 refine⟨λ i q=>List.mem_cons_of_mem _ (h.sub i q),List.nodup_cons.2 ⟨h0.2,h.nd⟩,λ i q=>?_,λ i=>?_,λ i q r=>?_,?_,?_,?_,λ q=>?_⟩
 ·rcases List.mem_cons.1 q with rfl | q
  ·exact .inr ⟨h0.1,hs,hs2⟩
  ·exact h.new i q
 ·rw[hT1,h.T];by_cases e:i=s
  ·subst e;simp
  ·simp[e]
 ·simp only[List.mem_cons,not_or] at q;unfold Q5 Ai0;rw[if_neg r];exact h.keep i q.2 r
 ·rw[Cp3,Ao8 s ho hh];exact h.cnt
 ·have:=Ah3 hT1 hT g.h;rw[if_pos hs2] at this;have:=h.left;simp only[List.length_cons];omega
 ·have:=h.len;simp only[List.length_cons];omega
 ·obtain⟨F,hFF⟩:=h.pre q;have e:s=F:=by
   have a1:¬s<F:=by have:=hFF s;rw[hT] at this;simpa using this.symm
   have a2:¬F<s:=λ hlt=>by have:=hF.2 F hlt;rw[hFF F] at this;simp at this
   omega
  refine⟨F+1,λ i=>?_⟩;rw[hT1,hFF,e];by_cases a:i=F
  ·subst a;simp
  ·by_cases b:i<F
   ·simp[b];omega
   ·simp[a,b];omega
theorem Q6.lift{Sc Sc' X Y:List Nat}(h:Q6 g M M1 Sc Sc' n m)(hs:K7 g M (X++(Sc++Y))):Q6 g M M1 (X++(Sc++Y)) (X++(Sc'++Y)) n m:=by
 have hX:∀s,s∈X->g.T M s=true:=λ s q=>hs.T s (by simp[q]);have hY:∀s,s∈Y->g.T M s=true:=λ s q=>hs.T s (by simp[q]);have hd1:=List.nodup_append.1 hs.nd;have hd2:=List.nodup_append.1 hd1.2.1;have out:∀s,s∈Sc'->(s∈X∨s∈Y)->s∈Sc:=λ s q r=>by
  rcases h.new s q with c | c
  ·exact c
  ·rcases r with r | r
   ·rw[hX s r] at c;simp at c
   ·rw[hY s r] at c;simp at c
 refine⟨λ s q=>?_,?_,λ s q=>?_,λ i=>?_,λ i q r=>?_,h.cnt,?_,?_,h.pre⟩
 ·simp only[List.mem_append] at q ⊢;rcases q with q | q | q
  ·exact .inl q
  ·exact .inr (.inl (h.sub s q))
  ·exact .inr (.inr q)
 ·refine List.nodup_append.2 ⟨hd1.1,List.nodup_append.2 ⟨h.nd,hd2.2.1,λ a ha b hb e=>?_⟩,λ a ha b hb e=>?_⟩
  ·subst e;exact hd2.2.2 a (out a ha (.inr hb)) a hb rfl
  ·subst e;rcases List.mem_append.1 hb with q | q
   ·exact hd1.2.2 a ha a (by simp[out a q (.inl ha)]) rfl
   ·exact hd1.2.2 a ha a (by simp[q]) rfl
 ·simp only[List.mem_append] at q ⊢;rcases q with q | q | q
  ·exact .inl (.inl q)
  ·rcases h.new s q with c | c
   ·exact .inl (.inr (.inl c))
   ·exact .inr c
  ·exact .inl (.inr (.inr q))
 ·rw[h.T i];by_cases e:i∈X∨i∈Y
  ·have:g.T M i=true:=by rcases e with e | e;exact hX i e;exact hY i e
   rw[this];simp
  ·simp only[not_or] at e;simp[e.1,e.2]
 ·simp only[List.mem_append,not_or] at q;exact h.keep i q.2.1 r
 ·have:=h.left;simp only[List.length_append];omega
 ·have:=h.len;simp only[List.length_append];omega
end
end Go.Proofs.YtgfbepakonjbnaaGreat
end
section
namespace Go.Proofs.YtgfbepakonjbnaaGreat
open Go.RowKit
def U7(g:Sg)(M M':Nat->Option Sec)(root:Bool)(d a:Nat)(l:List B0)(S:List Nat)(key v:Bs):Option (Bs × Nat)->Prop
 | none=>∃S',E3 (g.cur M') root d a (J8 l key v) S'/\Q6 g M M' S S' d (2*d+1)/\(G9 l key≠none->∃x s,x∈S/\M'=F1 M x s)
 | some (k',b)=>G9 l key=none/\∃l1 l2 S1 S2,J8 l key v=l1++l2/\k'.length=32/\E3 (g.cur M') false d a l1 S1/\E3 (g.cur M') false d b l2 S2/\(∀p,p∈l1->ltB p.1 k'=true)/\(∀p,p∈l2->ltB p.1 k'=false)/\Q6 g M M' S (S1++S2) (d+1) (2*d+2)
theorem U7.grown{g:Sg}{M M':Nat->Option Sec}{root:Bool}{d a:Nat}{l:List B0}{S:List Nat}{key v:Bs}:∀{o:Option (Bs × Nat)},U7 g M M' root d a l S key v o->∃S',Q6 g M M' S S' (d+1) (2*d+2)
 | none,h=>by obtain⟨S',_,h,_⟩:=h;exact⟨S',h.mono (by omega) (by omega)⟩
 | some (k',b),h=>by obtain⟨_,l1,l2,S1,S2,_,_,_,_,_,_,h⟩:=h;exact⟨_,h⟩
theorem K5.pairs{l:List B0}(h:K5 (l.map (·.1)) (l.map (·.2))):∀p,p∈l->p.1.length=32/\p.2.length=16:=λ p hp=>⟨h.k _ (List.mem_map.2 ⟨p,hp,rfl⟩),h.v _ (List.mem_map.2 ⟨p,hp,rfl⟩)⟩
theorem Be6{l:List B0}(h:∀p,p∈l->p.1.length=32/\p.2.length=16)(hm:l.length<=10):K5 (l.map (·.1)) (l.map (·.2)):=
 ⟨λ x hx=>by obtain⟨p,hp,rfl⟩:=List.mem_map.1 hx;exact(h p hp).1,λ x hx=>by obtain⟨p,hp,rfl⟩:=List.mem_map.1 hx;exact(h p hp).2,by simp,by simpa using hm⟩
theorem E3.leaf{C:Nat->Sec}{root:Bool}{a:Nat}{l:List B0}(ha:a<4294967296)(h:∀p,p∈l->p.1.length=32/\p.2.length=16)(hm:l.length<=10)(hc:C a=C8 (l.map (·.1)) (l.map (·.2)))(hn:(if root then 1 else 5)<=l.length)(hs:(l.map (·.1)).Pairwise (λ x y=>ltB x y=true)):E3 C root 0 a l [a]:=
 ⟨rfl,ha,Be6 h hm,hc,hn,hs⟩
theorem Am9{l:List B0}{key v:Bs}(h:∀p,p∈l->p.1.length=32/\p.2.length=16)(hk:key.length=32)(hv:v.length=16):∀p,p∈J8 l key v->p.1.length=32/\p.2.length=16:=λ p hp=>by
 rcases Aa5 hp with rfl | q
 ·exact⟨hk,hv⟩
 ·exact h p q
section
variable {g:Sg} {M M1:Nat->Option Sec} {S:List Nat} {root:Bool} {a d:Nat} {l:List B0} {key v:Bs}
theorem J5(g:Sg)(M:Nat->Option Sec)(a:Nat)(x:Sec):g.cur (F1 M a x) a=x:=by rw[Bw4,if_pos rfl]
theorem G6(g:Sg)(M:Nat->Option Sec){a i:Nat}(x:Sec)(h:i≠a):g.cur (F1 M a x) i=g.cur M i:=by rw[Bw4,if_neg h]
theorem Bn1(hs:E3 (g.cur M) root 0 a l S)(hh:K7 g M S)(ho:MOk M g.h)(hk:key.length=32)(hv:v.length=16)(ht:I4 (l.map (·.1)) key=true):U7 g M (F1 M a (C8 (l.map (·.1)) ((l.map (·.2)).set (F4 (l.map (·.1)) key) v))) root 0 a l S key v none:=by
 have hlow:=hh.low a hs.mem.1;obtain⟨rfl,ha,hok,hc,hn,hp⟩:=hs;have hl:(J8 l key v).length=l.length:=by rw[Ad8,if_pos ht]
 refine⟨[a],E3.leaf ha (Am9 hok.pairs hk hv) (by rw[hl];simpa using hok.most) ?_ (by rw[hl];exact hn) (Ad7 hp),hh.refl.put ho (by simp) hlow.1 hlow.2 _,λ _=>⟨a,_,by simp,rfl⟩⟩;rw[J5,Af6,Ak7,if_pos ht,if_pos ht]
theorem Bt0(hs:E3 (g.cur M) root 0 a l S)(hh:K7 g M S)(ho:MOk M g.h)(hk:key.length=32)(hv:v.length=16)(ht:I4 (l.map (·.1)) key=false)(hr:(l.map (·.1)).length<=9):U7 g M (F1 M a (C8 (E6 (l.map (·.1)) (F4 (l.map (·.1)) key) key) (E6 (l.map (·.2)) (F4 (l.map (·.1)) key) v))) root 0 a l S key v none:=by
 have hlow:=hh.low a hs.mem.1;obtain⟨rfl,ha,hok,hc,hn,hp⟩:=hs;have hl:(J8 l key v).length=l.length+1:=by rw[Ad8,ht];simp
 rw[List.length_map] at hr;refine⟨[a],E3.leaf ha (Am9 hok.pairs hk hv) (by omega) ?_ (by rw[hl];omega) (Ad7 hp),hh.refl.put ho (by simp) hlow.1 hlow.2 _,λ _=>⟨a,_,by simp,rfl⟩⟩;rw[J5,Af6,Ak7,ht];simp
theorem Bt1(hs:E3 (g.cur M) root 0 a l S)(hh:K7 g M S)(ho:MOk M g.h)(hl1:(g.cur M 1).length=512)(h1:1<g.h)(h2:g.h<=4096)(hk:key.length=32)(hv:v.length=16)(ht:I4 (l.map (·.1)) key=false)(hr:(l.map (·.1)).length=10){K V:List Bs}(hK:E6 (l.map (·.1)) (F4 (l.map (·.1)) key) key=K)(hV:E6 (l.map (·.2)) (F4 (l.map (·.1)) key) v=V)
  {k':Bs} (hk':K[5]?=some k') {s:Nat} (hs4:4<=s) (hsh:s<g.h) (hT:g.Fr M s) (ho1:MOk (Q5 g M s) g.h) (ho2:MOk (F1 (Q5 g M s) a (C8 (K.take 5) (V.take 5))) g.h):U7 g M (F1 (F1 (Q5 g M s) a (C8 (K.take 5) (V.take 5))) s (C8 (K.drop 5) (V.drop 5))) root 0 a l S key v (some (k',s)):=by
 have hlow:=hh.low a hs.mem.1;have hTa:=hh.T a hs.mem.1;obtain⟨rfl,ha,hok,hc,hn,hp⟩:=hs;rw[List.length_map] at hr;have hl:(J8 l key v).length=11:=by rw[Ad8,ht];simp[hr]
 have hK2:(J8 l key v).map (·.1)=K:=by rw[Af6,ht];simpa using hK
 have hV2:(J8 l key v).map (·.2)=V:=by rw[Ak7,ht];simpa using hV
 have hso:=Ad7 (key:=key) (v:=v) hp;have hpr:=Am9 hok.pairs hk hv;have hlk:G9 l key=none:=by rw[W0,ht];simp
 obtain⟨L,hL⟩:∃L,J8 l key v=L:=⟨_,rfl⟩;rw[hL] at hl hK2 hV2 hso;simp only[hL] at hpr;have has:a≠s:=by rintro rfl;have hT:=hT.1;rw[hTa] at hT;simp at hT
 subst hK2 hV2;refine⟨hlk,L.take 5,L.drop 5,[a],[s],by rw[List.take_append_drop];exact hL,?_,?_,?_,?_,?_,?_⟩
 ·obtain⟨p,hp,rfl⟩:=List.mem_map.1 (List.mem_of_getElem? hk');exact(hpr p hp).1
 ·refine E3.leaf ha (λ p q=>hpr p (List.mem_of_mem_take q)) (by simp;omega) ?_ (by simp;omega) ?_
  ·rw[G6 _ _ _ has,J5,List.map_take,List.map_take]
  ·rw[List.map_take];exact hso.sublist (List.take_sublist _ _)
 ·refine E3.leaf (by omega) (λ p q=>hpr p (List.mem_of_mem_drop q)) (by simp;omega) ?_ (by simp;omega) ?_
  ·rw[J5,List.map_drop,List.map_drop]
  ·rw[List.map_drop];exact hso.sublist (List.drop_sublist _ _)
 ·intro p hp;obtain⟨i,hi⟩:=List.mem_iff_getElem?.1 hp;have hi5:i<5:=by
   have:=(List.getElem?_eq_some_iff.1 hi).1;simp at this;omega
  rw[List.getElem?_take_of_lt hi5] at hi;obtain⟨hj,ej⟩:=List.getElem?_eq_some_iff.1 hk';obtain⟨hi',ei⟩:=List.getElem?_eq_some_iff.1 hi;have:=List.pairwise_iff_getElem.1 hso i 5 (by simpa using hi') hj hi5;rw[ej] at this;rw[← ei];simpa using this
 ·intro p hp;obtain⟨i,hi⟩:=List.mem_iff_getElem?.1 hp;rw[List.getElem?_drop] at hi;obtain⟨hj,ej⟩:=List.getElem?_eq_some_iff.1 hk';obtain⟨hi',ei⟩:=List.getElem?_eq_some_iff.1 hi;cases i with
  | zero=>
   have:p.1=k':=by rw[← ei,← ej];simp
   rw[this];exact L5 _
  | succ i=>
   have:=List.pairwise_iff_getElem.1 hso 5 (5+(i+1)) hj (by simpa using hi') (by omega);rw[ej] at this;have e:p.1=(L.map (·.1))[5+(i+1)]'(by simpa using hi'):=by rw[← ei];simp
   rw[e];exact P3 this
 ·have t1:=hh.refl.take ho hl1 h1 h2 hs4 hsh hT;have t2:=t1.put ho1 (a:=a) (by simp) hlow.1 hlow.2 (C8 ((L.map (·.1)).take 5) ((L.map (·.2)).take 5));have t3:=t2.put ho2 (a:=s) (by simp) hs4 hsh (C8 ((L.map (·.1)).drop 5) ((L.map (·.2)).drop 5));exact t3.perm (List.Perm.swap _ _ _)
end
structure Cn3(g:Sg)(M:Nat->Option Sec)(root:Bool)(d a:Nat)(l:List B0)(S:List Nat)(key v:Bs)(ks:List Bs)(ds:List Nat)(kid:Nat)(lc:List B0)(Sc:List Nat):Prop where
 ok:G0 ks ds
 enc:g.cur M a=B5 ks ds
 at_:ds[chK ks key]?=some kid
 shape:E3 (g.cur M) false d kid lc Sc
 held:K7 g M Sc
 whole:∀M1,U7 g M M1 false d kid lc Sc key v none->U7 g M M1 root (d+1) a l S key v none
 len:∀M1 k' b,U7 g M M1 false d kid lc Sc key v (some (k',b))->k'.length=32/\b<4294967296
 room:∀M1 k' b,U7 g M M1 false d kid lc Sc key v (some (k',b))->MOk M1 g.h->ks.length<=12->U7 g M (F1 M1 a (B5 (E6 ks (chK ks key) k') (E6 ds (chK ks key+1) b))) root (d+1) a l S key v none
 part:∀M1 k' b,U7 g M M1 false d kid lc Sc key v (some (k',b))->MOk M1 g.h->(g.cur M1 1).length=512->1<g.h->g.h<=4096->ks.length=13->∀k7 s,(E6 ks (chK ks key) k')[7]?=some k7->4<=s->s<g.h->g.Fr M1 s->MOk (Q5 g M1 s) g.h->MOk (F1 (Q5 g M1 s) a (B5 ((E6 ks (chK ks key) k').take 7) ((E6 ds (chK ks key+1) b).take 8))) g.h->
  U7 g M (F1 (F1 (Q5 g M1 s) a (B5 ((E6 ks (chK ks key) k').take 7) ((E6 ds (chK ks key+1) b).take 8))) s (B5 ((E6 ks (chK ks key) k').drop 8) ((E6 ds (chK ks key+1) b).drop 8))) root (d+1) a l S key v (some (k7,s))
theorem Az9(ks:List Bs)(key:Bs):chK ks key<=ks.length:=by
 unfold chK I4;split
 ·next h=>have:=(List.getElem?_eq_some_iff.1 (of_decide_eq_true h)).1;omega
 ·exact Z9 _ _
theorem Aj1{ks:List Bs}{ds:List Nat}(h:G0 ks ds){i:Nat}(hi:i<=ks.length){k':Bs}(hk:k'.length=32){b:Nat}(hb:b<4294967296):(∀x,x∈E6 ks i k'->x.length=32)/\(∀x,x∈E6 ds (i+1) b->x<4294967296)/\(E6 ks i k').length=ks.length+1/\(E6 ds (i+1) b).length=ks.length+2:=by
 refine⟨λ x q=>?_,λ x q=>?_,M8 _ _ _ hi,?_⟩
 ·rcases Af5 q with rfl | r
  ·exact hk
  ·exact h.k x r
 ·rcases Af5 q with rfl | r
  ·exact hb
  ·exact h.d x r
 ·rw[M8 _ _ _ (by rw[h.n];omega),h.n]
theorem Q6.cur{g:Sg}{M M1:Nat->Option Sec}{S S':List Nat}{n m:Nat}(h:Q6 g M M1 S S' n m){i:Nat}(hi:i∉S')(h1:i≠1):g.cur M1 i=g.cur M i:=by
 unfold Sg.cur;rw[h.keep i hi h1]
theorem E3.at{g:Sg}{M:Nat->Option Sec}{root:Bool}{d a:Nat}{l:List B0}{S:List Nat}{key v:Bs}(hs:E3 (g.cur M) root (d+1) a l S)(hh:K7 g M S):∃ks ds kid lc Sc,Cn3 g M root d a l S key v ks ds kid lc Sc:=by
 have hlow:=hh.low a hs.mem.1;obtain⟨ha,ks,ds,S',rfl,hok,hc,hn,hp,hkids⟩:=hs;obtain⟨kid,la,lc,lb,Sa,Sc,Sb,e1,rfl,rfl,hsc,hla,hlb,hf,t1,t2⟩:=hkids.turn (key:=key) hp;have hh2:K7 g M ((a :: Sa)++(Sc++Sb)):=hh;have hI:=Az9 ks key;have hlc:K7 g M Sc:=⟨(List.nodup_append.1 (List.nodup_append.1 hh2.nd).2.1).1,λ s q=>hh.low s (by simp[q]),λ s q=>hh.T s (by simp[q])⟩;have out:∀{M1:Nat->Option Sec} {Sc':List Nat} {n m:Nat},Q6 g M M1 Sc Sc' n m->∀i,(i=a∨i∈Sa∨i∈Sb)->i∉Sc'/\g.cur M1 i=g.cur M i:=by
  intro M1 Sc' n m hG i hi;have hnd:=(hG.lift hh2).nd;have hout:i∉Sc':=by
   have n1:=List.nodup_append.1 hnd;have n2:=List.nodup_append.1 n1.2.1;intro q;rcases hi with rfl | hi | hi
   ·exact n1.2.2 i (by simp) i (by simp[q]) rfl
   ·exact n1.2.2 i (by simp[hi]) i (by simp[q]) rfl
   ·exact n2.2.2 i q i hi rfl
  have hi4:4<=i:=by
   rcases hi with rfl | hi | hi
   ·exact hlow.1
   ·exact(hh.low i (by simp[hi])).1
   ·exact(hh.low i (by simp[hi])).1
  exact⟨hout,hG.cur hout (by omega)⟩
 have ana:∀i,(i∈Sa∨i∈Sb)->i≠a:=by
  rintro i hi rfl;have:=(List.nodup_cons.1 hh.nd).1;rcases hi with q | q<;>simp[q] at this
 refine⟨ks,ds,kid,lc,Sc,hok,hc,e1,hsc,hlc,?_,?_,?_,?_⟩
 ·rintro M1 ⟨Sc',hq,hG,hlk⟩;have ho:=out hG;refine⟨(a :: Sa)++(Sc'++Sb),⟨ha,ks,ds,Sa++(Sc'++Sb),rfl,hok,(ho a (.inl rfl)).2.trans hc,hn,hp,?_⟩,(hG.lift hh2).mono (by omega) (by omega),λ hn=>?_⟩
  ·rw[Az2 hla hlb];exact t1 _ _ _ (λ k l2 S2 hP hS=>hP.keep λ s q=>(ho s (.inr (hS s q))).2) hq hf.ins
  ·rw[Ab6 hla hlb] at hn;obtain⟨x,s,hx,e⟩:=hlk hn;exact⟨x,s,by simp[hx],e⟩
 ·rintro M1 k' b ⟨_,l1,l2,S1,S2,_,hk',_,h2,_⟩;exact⟨hk',h2.mem.2⟩
 ·rintro M1 k' b ⟨hlk,l1,l2,S1,S2,el,hk',q1,q2,b1,b2,hG⟩ ho1 hroom;have ho:=out hG;obtain⟨i1,i2,i3,i4⟩:=Aj1 hok hI hk' q2.mem.2;have hG2:=(hG.lift hh2).put ho1 (a:=a) (by simp) hlow.1 hlow.2 (B5 (E6 ks (chK ks key) k') (E6 ds (chK ks key+1) b));have na:∀s,s∈S1++S2->s≠a:=by rintro s q rfl;exact(ho s (.inl rfl)).1 q
  have hf2:Aq7 ks key (l1++l2):=by rw[← el];exact hf.ins
  have hfk:=hf2.key q1.ne q2.ne b1 b2;refine⟨(a :: Sa)++((S1++S2)++Sb),⟨ha,_,_,Sa++((S1++S2)++Sb),rfl,⟨i1,i2,by rw[i3,i4],by omega⟩,J5 _ _ _ _,by rw[i3];omega,Az0 hp hfk,?_⟩,hG2.mono (by omega) (by omega),λ hn=>absurd ((Ab6 hla hlb).trans hlk) hn⟩;rw[Az2 hla hlb,el];exact t2 _ _ _ _ _ _ _ (λ k l2 S2 hP hS=>hP.keep λ s q=>by rw[G6 _ _ _ (ana s (hS s q))];exact(ho s (.inr (hS s q))).2) (q1.keep λ s q=>G6 _ _ _ (na s (by simp[q]))) (q2.keep λ s q=>G6 _ _ _ (na s (by simp[q]))) b1 b2 hf2 hfk
 ·rintro M1 k' b ⟨hlk,l1,l2,S1,S2,el,hk',q1,q2,b1,b2,hG⟩ ho1 hl1 h1 h2 hr k7 s h7 hs4 hsh hT ho2 ho3;have ho:=out hG;obtain⟨i1,i2,i3,i4⟩:=Aj1 hok hI hk' q2.mem.2;have hL:=hG.lift hh2;have hHL:=hL.held hh2;have hG1:=hL.take ho1 hl1 h1 h2 hs4 hsh hT;have hG2:=hG1.put ho2 (a:=a) (by simp) hlow.1 hlow.2 (B5 ((E6 ks (chK ks key) k').take 7) ((E6 ds (chK ks key+1) b).take 8));have hG3:=hG2.put ho3 (a:=s) (by simp) hs4 hsh (B5 ((E6 ks (chK ks key) k').drop 8) ((E6 ds (chK ks key+1) b).drop 8));have ns:∀i,i∈(a :: Sa)++((S1++S2)++Sb)->i≠s/\i≠1:=by
   intro i q;refine⟨?_,by have:=(hHL.low i q).1;omega⟩;rintro rfl;have hT:=hT.1;rw[hHL.T i q] at hT;simp at hT
  have na:∀i,i∈S1++S2->i≠a:=by rintro i q rfl;exact(ho i (.inl rfl)).1 q
  have hcur:∀i,i∈Sa++((S1++S2)++Sb)->i≠a->g.cur (F1 (F1 (Q5 g M1 s) a (B5 ((E6 ks (chK ks key) k').take 7) ((E6 ds (chK ks key+1) b).take 8))) s (B5 ((E6 ks (chK ks key) k').drop 8) ((E6 ds (chK ks key+1) b).drop 8))) i=g.cur M1 i:=by
   intro i q qa;have:=ns i (List.mem_cons_of_mem _ q);rw[G6 _ _ _ this.1,G6 _ _ _ qa,Bw5 _ _ this.2]
  have hf2:Aq7 ks key (l1++l2):=by rw[← el];exact hf.ins
  have hfk:=hf2.key q1.ne q2.ne b1 b2;have hps:=Az0 hp hfk;have hK:=t2 (λ k l S=>E3 (g.cur (F1 (F1 (Q5 g M1 s) a (B5 ((E6 ks (chK ks key) k').take 7) ((E6 ds (chK ks key+1) b).take 8))) s (B5 ((E6 ks (chK ks key) k').drop 8) ((E6 ds (chK ks key+1) b).drop 8)))) false d k l S) b k' l1 S1 l2 S2
   (λ k l2 S2 hP hS=>hP.keep λ i q=>by
    rw[hcur i (by rcases hS i q with r | r<;>simp[r]) (ana i (hS i q))];exact(ho i (.inr (hS i q))).2)
   (q1.keep λ i q=>hcur i (by simp[q]) (na i (by simp[q]))) (q2.keep λ i q=>hcur i (by simp[q]) (na i (by simp[q]))) b1 b2 hf2 hfk
  obtain⟨L1,T1,L2,T2,f1,f2,k1,k2,c1,c2⟩:=hK.part hps h7;have has:a≠s:=(ns a (by simp)).1;refine⟨(Ab6 hla hlb).trans hlk,L1,L2,a :: T1,s :: T2,by rw[Az2 hla hlb,el,f1],i1 _ (List.mem_of_getElem? h7),⟨ha,_,_,T1,rfl,⟨λ x q=>i1 x (List.mem_of_mem_take q),λ x q=>i2 x (List.mem_of_mem_take q),by rw[List.length_take,List.length_take,i3,i4];omega,by rw[List.length_take];omega⟩,?_,?_,hps.sublist (List.take_sublist _ _),k1⟩,
   ⟨by omega,_,_,T2,rfl,⟨λ x q=>i1 x (List.mem_of_mem_drop q),λ x q=>i2 x (List.mem_of_mem_drop q),by rw[List.length_drop,List.length_drop,i3,i4];omega,by rw[List.length_drop,i3];omega⟩,?_,?_,hps.sublist (List.drop_sublist _ _),k2⟩,c1,c2,?_⟩
  ·rw[G6 _ _ _ has,J5]
  ·rw[List.length_take,i3,hr];decide
  ·rw[J5]
  ·rw[List.length_drop,i3,hr];decide
  ·refine(hG3.mono (by omega) (by omega)).perm ?_;have e:s :: ((a :: Sa)++((S1++S2)++Sb))=s :: a :: (T1++T2):=by rw[← f2];rfl
   rw[e];refine(List.Perm.swap _ _ _).trans (List.Perm.cons _ ?_);exact List.perm_middle.symm
end Go.Proofs.YtgfbepakonjbnaaGreat
end
section
namespace Go.Proofs.YtgfbepakonjbnaaGreat
open Go.RowKit
theorem I6.size{P:Nat->List B0->List Nat->Prop}(hP:∀k l S,P k l S->4*S.length+1<=l.length){ks:List Bs}{ds:List Nat}{l:List B0}{S:List Nat}(h:I6 P ks ds l S):4*S.length+ks.length+1<=l.length:=by
 induction h with
 | one h=>have:=hP _ _ _ h;simpa using this
 | more h _ _ _ ih=>have:=hP _ _ _ h;simp only[List.length_append,List.length_cons];omega
theorem E3.size{C:Nat->Sec}:∀{d:Nat} {root:Bool} {a:Nat} {l:List B0} {S:List Nat},E3 C root d a l S->4*S.length+(if root then 0 else 4)<=l.length+3
 | 0,root,a,l,S,h=>by
  obtain⟨rfl,_,_,_,hn,_⟩:=h;cases root<;>simp at hn ⊢<;>omega
 | d+1,root,a,l,S,h=>by
  obtain⟨_,ks,ds,S',rfl,_,_,hn,_,hk⟩:=h;have:=hk.size λ k l S h=>by have:=E3.size (d:=d) h;simp at this;omega
  cases root<;>simp at hn ⊢<;>omega
theorem I6.many{P:Nat->List B0->List Nat->Prop}{B:Nat}(hP:∀k l S,P k l S->B<=l.length){ks:List Bs}{ds:List Nat}{l:List B0}{S:List Nat}(h:I6 P ks ds l S):(ks.length+1)*B<=l.length:=by
 induction h with
 | one h=>have:=hP _ _ _ h;simpa using this
 | more h _ _ _ ih=>
  have:=hP _ _ _ h;simp only[List.length_append,List.length_cons];rw[Nat.add_mul (_+1) 1 B,Nat.one_mul];omega
theorem E3.many{C:Nat->Sec}:∀{d:Nat} {a:Nat} {l:List B0} {S:List Nat},E3 C false d a l S->5*7 ^ d<=l.length
 | 0,a,l,S,h=>by simpa using h.2.2.2.2.1
 | d+1,a,l,S,h=>by
  obtain⟨_,ks,ds,S',_,_,_,hn,_,hk⟩:=h;have:=hk.many λ k l S h=>E3.many (d:=d) h;have hn:6<=ks.length:=by simpa using hn
  have h2:=Nat.mul_le_mul_right (5*7 ^ d) (show 7<=ks.length+1 by omega);rw[Nat.pow_succ];omega
theorem E3.manyR{C:Nat->Sec}{d:Nat}{a:Nat}{l:List B0}{S:List Nat}(h:E3 C true (d+1) a l S):10*7 ^ d<=l.length:=by
 obtain⟨_,ks,ds,S',_,_,_,hn,_,hk⟩:=h;have:=hk.many λ k l S h=>E3.many (d:=d) h;have hn:1<=ks.length:=by simpa using hn
 have h2:=Nat.mul_le_mul_right (5*7 ^ d) (show 2<=ks.length+1 by omega);omega
theorem E3.flat{C:Nat->Sec}{d:Nat}{a:Nat}{l:List B0}{S:List Nat}(h:E3 C true d a l S)(hl:l.length<490):d<=2:=by
 cases d with
 | zero=>omega
 | succ d=>
  have:=h.manyR;cases d with
  | zero=>omega
  | succ d=>
   cases d with
   | zero=>omega
   | succ d=>
    have:1<=7 ^ d:=Nat.pos_of_ne_zero (by simp);simp only[Nat.pow_succ] at *;omega
def Ae2(C:Nat->Sec)(r:Nat)(l:List B0)(S:List Nat):Prop:=(r=0/\l=[]/\S=[])∨(r≠0/\∃d,E3 C true d r l S)
theorem Ae2.size{C:Nat->Sec}{r:Nat}{l:List B0}{S:List Nat}(h:Ae2 C r l S):4*S.length<=l.length+3:=by
 rcases h with⟨_,rfl,rfl⟩ | ⟨_,d,h⟩
 ·simp
 ·have:=h.size;simp at this;omega
def Aj2(g:Sg)(M M':Nat->Option Sec)(r r':Nat)(l:List B0)(S:List Nat)(key v:Bs)(m:Nat):Prop:=
 ∃S',Ae2 (g.cur M') r' (J8 l key v) S'/\r'≠0/\Q6 g M M' S S' 4 m/\(G9 l key≠none->r'=r/\∃x s,x∈S/\M'=F1 M x s)
theorem Bi1{g:Sg}{M M':Nat->Option Sec}{d r:Nat}{l:List B0}{S:List Nat}{key v:Bs}(hr:r≠0)(hd:d<=2)(h:U7 g M M' true d r l S key v none){m:Nat}(hm:2*d+1<=m):Aj2 g M M' r r l S key v m:=by
 obtain⟨S',h1,h2,h3⟩:=h;exact⟨S',.inr ⟨hr,d,h1⟩,hr,h2.mono (by omega) hm,λ q=>⟨rfl,h3 q⟩⟩
theorem Bn2{g:Sg}{M M1:Nat->Option Sec}{d r:Nat}{l:List B0}{S:List Nat}{key v k':Bs}{b:Nat}(hr:r<4294967296)(hd:d<=2)(hh:K7 g M S)(h:U7 g M M1 true d r l S key v (some (k',b))){m:Nat}(hm:2*d+3<=m)(ho:MOk M1 g.h)(hl1:(g.cur M1 1).length=512)(h1:1<g.h)(h2:g.h<=4096){s:Nat}(hs4:4<=s)(hsh:s<g.h)(hT:g.Fr M1 s)(ho1:MOk (Q5 g M1 s) g.h) :
  G0 [k'] [r,b]/\Aj2 g M (F1 (Q5 g M1 s) s (B5 [k'] [r,b])) r s l S key v m:=by
 obtain⟨hlk,l1,l2,S1,S2,el,hk',q1,q2,b1,b2,hG⟩:=h;have hG1:=hG.take ho hl1 h1 h2 hs4 hsh hT;have hG2:=hG1.put ho1 (a:=s) (by simp) hs4 hsh (B5 [k'] [r,b]);have hH:=hG.held hh;have ns:∀i,i∈S1++S2->i≠s/\i≠1:=by
  intro i q;refine⟨?_,by have:=(hH.low i q).1;omega⟩;rintro rfl;have hT:=hT.1;rw[hH.T i q] at hT;simp at hT
 have hcur:∀i,i∈S1++S2->g.cur (F1 (Q5 g M1 s) s (B5 [k'] [r,b])) i=g.cur M1 i:=λ i q=>by
  rw[G6 _ _ _ (ns i q).1,Bw5 _ _ (ns i q).2]
 have hok:G0 [k'] [r,b]:=⟨by simpa using hk',by intro x q;simp at q;rcases q with rfl | rfl;exact hr;exact q2.mem.2,rfl,by simp⟩;refine⟨hok,s :: (S1++S2),.inr ⟨by omega,d+1,by omega,[k'],[r,b],S1++S2,rfl,hok,J5 _ _ _ _,by simp,by simp,?_⟩,by omega,hG2.mono (by omega) (by omega),λ q=>absurd hlk q⟩;rw[el];exact .more (q1.keep λ i q=>hcur i (by simp[q])) b1 b2 (.one (q2.keep λ i q=>hcur i (by simp[q])))
theorem Bi2{g:Sg}{M:Nat->Option Sec}{key v:Bs}(hk:key.length=32)(hv:v.length=16)(ho:MOk M g.h)(hl1:(g.cur M 1).length=512)(h1:1<g.h)(h2:g.h<=4096){s:Nat}(hs4:4<=s)(hsh:s<g.h)(hT:g.Fr M s)(ho1:MOk (Q5 g M s) g.h) :
  K5 [key] [v]/\Aj2 g M (F1 (Q5 g M s) s (C8 [key] [v])) 0 s [] [] key v 1:=by
 have hh:K7 g M []:=⟨by simp,by simp,by simp⟩;have hG1:=hh.refl.take ho hl1 h1 h2 hs4 hsh hT;have hG2:=hG1.put ho1 (a:=s) (by simp) hs4 hsh (C8 [key] [v]);have hok:K5 [key] [v]:=⟨by simpa using hk,by simpa using hv,rfl,by simp⟩;refine⟨hok,[s],.inr ⟨by omega,0,E3.leaf (by omega) (by intro p hp;simp[J8] at hp;rw[hp];exact⟨hk,hv⟩) (by simp[J8]) (J5 _ _ _ _) (by simp[J8]) (by simp[J8])⟩,by omega,hG2.mono (by omega) (by omega),λ q=>absurd rfl q⟩
theorem I6.sorted{P:Nat->List B0->List Nat->Prop}(hP:∀k l S,P k l S->(l.map (·.1)).Pairwise (λ x y=>ltB x y=true)){ks:List Bs}{ds:List Nat}{l:List B0}{S:List Nat}(h:I6 P ks ds l S):(l.map (·.1)).Pairwise (λ x y=>ltB x y=true):=by
 induction h with
 | one h=>exact hP _ _ _ h
 | more h h1 h2 _ ih=>
  rw[List.map_append];refine List.pairwise_append.2 ⟨hP _ _ _ h,ih,λ x hx y hy=>?_⟩;obtain⟨p,hp,rfl⟩:=List.mem_map.1 hx;obtain⟨q,hq,rfl⟩:=List.mem_map.1 hy;have e1:=h1 p hp;cases e:ltB p.1 q.1
  ·have:=J9 (a:=q.1) e e1;rw[h2 q hq] at this;simp at this
  ·rfl
theorem E3.sorted{C:Nat->Sec}:∀{d:Nat} {root:Bool} {a:Nat} {l:List B0} {S:List Nat},E3 C root d a l S->(l.map (·.1)).Pairwise (λ x y=>ltB x y=true)
 | 0,_,_,_,_,h=>h.2.2.2.2.2
 | d+1,_,_,_,_,h=>by
  obtain⟨_,ks,ds,S',_,_,_,_,_,hk⟩:=h;exact hk.sorted λ k l S h=>E3.sorted (d:=d) h
theorem Ae2.sorted{C:Nat->Sec}{r:Nat}{l:List B0}{S:List Nat}(h:Ae2 C r l S):(l.map (·.1)).Pairwise (λ x y=>ltB x y=true):=by
 rcases h with⟨_,rfl,_⟩ | ⟨_,d,h⟩
 ·simp
 ·exact h.sorted
end Go.Proofs.YtgfbepakonjbnaaGreat
end
end
