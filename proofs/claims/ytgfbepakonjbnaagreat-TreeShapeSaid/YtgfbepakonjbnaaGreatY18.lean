/-
  cofferlaw9.Key, tree.onlyOK. A tree on sectors of which it is known which are taken; trees grown key by key. No program in sight.
-/
import Derived.Test.YtgfbepakonjbnaaGreatY14
import Derived.Test.YtgfbepakonjbnaaGreatY17
import Derived.Test.YtgfbepakonjbnaaGreatY15
set_option maxRecDepth 100000
set_option maxHeartbeats 16000000
section
section
namespace Go.Proofs.YtgfbepakonjbnaaGreat
open Go.RowKit Go.MapKept Go.ChangeMaps
def u8I(x:Int):UInt8:=UInt8.ofNat (x % 256).toNat
def z32:Bs:=List.replicate 32 0
theorem Ab3:z32.length=32:=rfl
def Q2(k:Int):Bs:=((z32.set 0 (u8I (wrap64 (Int.tmod k 7*41)))).set 1 (u8I (k / 256))).set 31 (u8I k)
theorem Q5(k:Int):(Q2 k).length=32:=by unfold Q2;rw[List.length_set,List.length_set,List.length_set,Ab3]
theorem Br4(x:Int):Value.int .u8 (x % 256)=Value.int .u8 (((x % 256).toNat:Nat):Int):=by
 rw[Int.toNat_of_nonneg (Int.emod_nonneg _ (by decide))]
theorem Ca2(x:Int):(x % 256).toNat<256:=by have:=Int.emod_lt_of_pos x (show(0:Int)<256 by decide);omega
theorem Ce3{w:World}{b:Nat}{C:Array Value}{T:TypeId}(h:w.heap[b]?=some (.cells C T (0,0)))(i:Nat){v:Value}(hi:i<C.size)(h1:v.oneCell'=true):(storeCells ⟨b,i,none⟩ [v] 0).run Tryz.prog w=.ok () (w.setCell ⟨b,i,none⟩ v):=by
 have hc:w.cell? ⟨b,i,none⟩=some C[i]:=by rw[A3 h];simp[hi]
 have hf:=E0 h i;have:=run_storeCells_cells (P:=Tryz.prog) b i [v] 0 w (by simp[hc]) (by simpa using hf) (by simpa using h1);simpa [World.setCells] using this
attribute [-go_sem] loadCells storeCells
theorem V3(r:Int)(w:World):Calls Tryz.prog 128 #[.int .u32 r,.int .i64 0] w λ e w'=>e=.returned (.tuple #[.int .u32 r,.int .i64 0])/\Upd [] w w':=by
 go_enter Tryz.func128,Tryz.ntmps128
 go_wp2_with fail
 go_ret2;exact⟨rfl,Upd.refl [] w⟩
theorem Ce4:(#[.int .u8 0,.int .u8 0,.int .u8 0,.int .u8 0,.int .u8 0,.int .u8 0,.int .u8 0,.int .u8 0,.int .u8 0,.int .u8 0,.int .u8 0,.int .u8 0,.int .u8 0,.int .u8 0,.int .u8 0,.int .u8 0,.int .u8 0,.int .u8 0,.int .u8 0,.int .u8 0,.int .u8 0,.int .u8 0,.int .u8 0,.int .u8 0,.int .u8 0,.int .u8 0,.int .u8 0,.int .u8 0,.int .u8 0,.int .u8 0,.int .u8 0,.int .u8 0]:Array Value)=(bts z32).toArray:=rfl
theorem Be4{w:World}{b:Nat}{l:Bs}(h:w.heap[b]?=some (.cells (bts l).toArray 35 (0,0)))(i:Nat)(hi:i<l.length)(x:Int):(storeCells ⟨b,i,none⟩ [.int .u8 (x % 256)] 0).run Tryz.prog w=.ok () (w.setCell ⟨b,i,none⟩ (.int .u8 (x % 256)))/\(w.setCell ⟨b,i,none⟩ (.int .u8 (x % 256))).heap[b]?=some (.cells (bts (l.set i (u8I x))).toArray 35 (0,0)):=by
 refine⟨Ce3 h i (by rw[List.size_toArray,A9];exact hi) rfl,?_⟩;rw[Br4];exact X1 h i (Ca2 x)
theorem Am4(k:Int)(w:World):Calls Tryz.prog 20 #[.int .i64 k] w λ e w'=>e=.returned (arr (Q2 k))/\Upd [] w w':=by
 obtain⟨wA,hwA⟩:∃wA,wA=(w.alloc (.cells #[.int .u8 0,.int .u8 0,.int .u8 0,.int .u8 0,.int .u8 0,.int .u8 0,.int .u8 0,.int .u8 0,.int .u8 0,.int .u8 0,.int .u8 0,.int .u8 0,.int .u8 0,.int .u8 0,.int .u8 0,.int .u8 0,.int .u8 0,.int .u8 0,.int .u8 0,.int .u8 0,.int .u8 0,.int .u8 0,.int .u8 0,.int .u8 0,.int .u8 0,.int .u8 0,.int .u8 0,.int .u8 0,.int .u8 0,.int .u8 0,.int .u8 0,.int .u8 0] 35)).alloc (.cells #[.int .u8 0,.int .u8 0,.int .u8 0,.int .u8 0,.int .u8 0,.int .u8 0,.int .u8 0,.int .u8 0,.int .u8 0,.int .u8 0,.int .u8 0,.int .u8 0,.int .u8 0,.int .u8 0,.int .u8 0,.int .u8 0,.int .u8 0,.int .u8 0,.int .u8 0,.int .u8 0,.int .u8 0,.int .u8 0,.int .u8 0,.int .u8 0,.int .u8 0,.int .u8 0,.int .u8 0,.int .u8 0,.int .u8 0,.int .u8 0,.int .u8 0,.int .u8 0] 35):=⟨_,rfl⟩;obtain⟨b2,hb2⟩:∃b,b=w.heap.size:=⟨_,rfl⟩;obtain⟨b3,hb3⟩:∃b,b=w.heap.size+1:=⟨_,rfl⟩;have hne:b2≠b3:=by omega
 have h2:wA.heap[b2]?=some (.cells (bts z32).toArray 35 (0,0)):=by rw[hwA,hb2,A8 (by simp)];exact A6 _
 have h3:wA.heap[b3]?=some (.cells (bts z32).toArray 35 (0,0)):=by rw[hwA,hb3,Ce4];have:=A6 (w:=w.alloc (.cells (bts z32).toArray 35)) (.cells (bts z32).toArray 35);simpa using this
 have s1:=Be4 h3 0 (by rw[Ab3];omega) (wrap64 (Int.tmod k 7*41));have s2:=Be4 s1.2 1 (by rw[List.length_set,Ab3];omega) (k / 256);have s3:=Be4 s2.2 31 (by rw[List.length_set,List.length_set,Ab3];omega) k;obtain⟨w1,hw1⟩:∃w1,w1=wA.setCell ⟨b3,0,none⟩ (.int .u8 (wrap64 (Int.tmod k 7*41) % 256)):=⟨_,rfl⟩;rw[← hw1] at s1 s2 s3;obtain⟨wB,hwB⟩:∃w2,w2=w1.setCell ⟨b3,1,none⟩ (.int .u8 (k / 256 % 256)):=⟨_,rfl⟩;rw[← hwB] at s2 s3;obtain⟨wC,hwC⟩:∃w3,w3=wB.setCell ⟨b3,31,none⟩ (.int .u8 (k % 256)):=⟨_,rfl⟩;rw[← hwC] at s3;have u1:Upd [b3] wA w1:=by rw[hw1];exact(Upd.refl _ _).set _ (.inl (by simp))
 have u2:Upd [b3] wA wB:=by rw[hwB];exact u1.set _ (.inl (by simp))
 have u3:Upd [b3] wA wC:=by rw[hwC];exact u2.set _ (.inl (by simp))
 have h2C:=(u3.block _ (A4 h2) (by simpa using hne)).trans h2;have l3:=A7 (n:=32) s3.2 (by rw[A9];exact Q5 k);have s4:=C9 h2C (l:=bts (Q2 k)) (by rw[List.size_toArray,A9,A9,Q5,Ab3]) (I9 _);have r1:=s1.1;have r2:=s2.1;have r3:=s3.1;have HU:Hid (Upd [] w (wC.setRow b2 (bts (Q2 k)).toArray)):=by
  show Upd _ _ _
  have a1:Upd [] w wA:=by rw[hwA];exact((Upd.refl _ _).alloc _).alloc _
  have a2:Upd [b2] wC (wC.setRow b2 (bts (Q2 k)).toArray):=C7 (Upd.refl _ _) _ (.inl (by simp));exact(a1.late u3 (λ i hi=> .inr (by simp at hi;omega))).late a2 (λ i hi=> .inr (by simp at hi;omega))
 have H2C:=η h2C;have HW:=η hwA;have HB:=η (And.intro hb2 hb3);have rr:=@results_cell_row Tryz.prog;rw[hwA,hb3] at r1;rw[hb3] at r2 r3 l3;rw[hb2] at s4;have hik:(Tryz.prog.info? 35).map (·.size)=some (bts (Q2 k)).toArray.size:=by rw[List.size_toArray,A9,Q5];exact Ag7
 clear hwA hb3 h2 h3 s1 s2 s3 hw1 hwB hwC u1 u2 u3 h2C hne rr HW HB;have HB2:=η hb2;have el:Q2 k=((z32.set 0 (u8I (wrap64 (Int.tmod k 7*41)))).set 1 (u8I (k / 256))).set 31 (u8I k):=rfl;rw[← el] at l3;clear el hb2;go_enter Tryz.func20,Tryz.ntmps20
 go_wp2_with fail
 have hb2:=HB2.out;rw[← hb2];refine bodyPost_ret (results_cell_row (p:=2) (ty:=35) ?_ _ _ b2 _ _ _ _ ?_ (setRow_heap _ _ _ _ _ _ H2C.out) Tryz.underlying35 rfl hik) ?_ ?_
 ·rfl
 ·rfl
 ·rfl
 exact⟨rfl,HU.out⟩
end Go.Proofs.YtgfbepakonjbnaaGreat
end
section
namespace Go.Proofs.YtgfbepakonjbnaaGreat
open Go.RowKit
structure Q3(C:Nat->Sec)(h r:Nat)(l:List B0)(S:List Nat):Prop where
 at_:Y8 C r l S
 nd:S.Nodup
 low:∀s,s∈S->4<=s/\s<h
 T:∀i,Ac4 (V9 (C 1)) i=(decide (i<4) || decide (i∈S))
theorem Q3.sgT{g:Sg}{M:Nat->Option Sec}{h r:Nat}{l:List B0}{S:List Nat}(ht:Q3 (g.cur M) h r l S)(i:Nat):g.T M i=(decide (i<4) || decide (i∈S)):=ht.T i
theorem Q3.held{g:Sg}{M:Nat->Option Sec}{r:Nat}{l:List B0}{S:List Nat}(ht:Q3 (g.cur M) g.h r l S):K5 g M S:=
 ⟨ht.nd,ht.low,λ s hs=>by rw[ht.sgT];simp[hs]⟩
theorem Aw8:∀h,I6 (λ i=>decide (i<4)) h=h-4
 | 0=>rfl
 | h+1=>by
  unfold I6;rw[Aw8 h];by_cases e:h<4
  ·rw[decide_eq_true e];simp;omega
  ·rw[decide_eq_false e];simp;omega
theorem Aw9{h:Nat}:∀{S:List Nat},S.Nodup->(∀s,s∈S->4<=s/\s<h)->I6 (λ i=>decide (i<4) || decide (i∈S)) h+S.length=h-4
 | [],_,_=>by
  have:(λ i=>decide (i<4) || decide (i∈([]:List Nat)))=λ i=>decide (i<4):=by funext i;simp
  rw[this,Aw8];simp
 | s :: S,hn,hl=>by
  have ih:=Aw9 (h:=h) (List.nodup_cons.1 hn).2 (λ x hx=>hl x (List.mem_cons_of_mem _ hx));have hs:=hl s (by simp);have:=Af1 (T:=λ i=>decide (i<4) || decide (i∈S)) (T':=λ i=>decide (i<4) || decide (i∈s :: S)) (s:=s) (λ i=>by
   by_cases e:i=s
   ·subst e;simp
   ·simp[e]) (by simp[(List.nodup_cons.1 hn).1];omega) h
  rw[if_pos hs.2] at this;simp only[List.length_cons];omega
theorem Q3.left{g:Sg}{M:Nat->Option Sec}{r:Nat}{l:List B0}{S:List Nat}(ht:Q3 (g.cur M) g.h r l S):I6 (g.T M) g.h+S.length=g.h-4:=by
 have:g.T M=λ i=>decide (i<4) || decide (i∈S):=funext ht.sgT;rw[this];exact Aw9 ht.nd ht.low
theorem Q3.put{g:Sg}{M M':Nat->Option Sec}{r r':Nat}{l:List B0}{S:List Nat}{key v:Bs}{m:Nat}(ht:Q3 (g.cur M) g.h r l S)(hp:Af2 g M M' r r' l S key v m):∃S',Q3 (g.cur M') g.h r' (N2 l key v) S'/\P7 g M M' S S' 4 m:=by
 obtain⟨S',h1,_,h3,_⟩:=hp;have hh:=h3.held ht.held;refine⟨S',⟨h1,hh.nd,hh.low,λ i=>?_⟩,h3⟩;show g.T M' i=_
 rw[h3.T,ht.sgT];by_cases e:i∈S
 ·simp[e,h3.sub i e]
 ·simp[e]
theorem Bu9{M:Nat->Option Sec}{h:Nat}{L:List Nat}(ho:MOk M h)(hL:∀i,(M i).isSome=true->i∈L):F3 M h<=L.length:=by
 unfold F3;exact(S7 M h).length_le_of_subset λ i hi=>hL i ((T6 ho).1 hi)
theorem P7.some{g:Sg}{M M':Nat->Option Sec}{S S':List Nat}{n m:Nat}(h:P7 g M M' S S' n m)(hM:∀i,(M i).isSome=true->i=1∨i∈S):∀i,(M' i).isSome=true->i=1∨i∈S':=λ i hi=>by
 by_cases e1:i=1
 ·exact .inl e1
 ·by_cases e2:i∈S'
  ·exact .inr e2
  ·rw[h.keep i e2 e1] at hi;exact .inr (((hM i hi).resolve_left e1) |> h.sub i)
theorem Bj4{M:Nat->Option Sec}{h:Nat}{S:List Nat}(ho:MOk M h)(hM:∀i,(M i).isSome=true->i=1∨i∈S):F3 M h+c1M M<=S.length+2:=by
 have:=Bu9 (L:=1 :: S) ho (λ i hi=>by rcases hM i hi with q | q<;>simp[q])
 have h2:c1M M<=1:=by unfold c1M;split<;>omega
 simp only[List.length_cons] at this;omega
def Z5(k:Int):Bs:=z16.set 0 (u8I k)
theorem Ac3(k:Int):(Z5 k).length=16:=by unfold Z5;rw[List.length_set];rfl
def P8(l:List B0)(ks:List Int):List B0:=ks.foldl (λ l k=>N2 l (Q2 k) (Z5 k)) l
theorem Ax0(l:List B0)(ks:List Int)(k:Int):P8 l (ks ++ [k])=N2 (P8 l ks) (Q2 k) (Z5 k):=by unfold P8;rw[List.foldl_append];rfl
theorem Aq8(l:List B0)(key v:Bs):(N2 l key v).length<=l.length+1:=by rw[Ac2];split<;>omega
theorem Ai7:∀(ks:List Int) (l:List B0),(P8 l ks).length<=l.length+ks.length
 | [],l=>by simp[P8]
 | k :: ks,l=>by
  have:=Ai7 ks (N2 l (Q2 k) (Z5 k));have h2:=Aq8 l (Q2 k) (Z5 k);show(P8 (N2 l (Q2 k) (Z5 k)) ks).length<=_
  simp only[List.length_cons];omega
end Go.Proofs.YtgfbepakonjbnaaGreat
end
end
section
set_option linter.unusedSimpArgs false
set_option linter.unusedVariables false
namespace Go.Proofs.YtgfbepakonjbnaaGreat
open Go.RowKit Go.MapKept Go.ChangeMaps
section
theorem Bj5:∀(d:Nat) {w:World} {g:Sg} {M:Nat->Option Sec} (_:B8 w g M) {root:Bool} {a:Nat} {l:List B0} {S:List Nat} (_:E6 (g.cur M) root d a l S) (_:K5 g M S) (key v:Bs) (_:key.length=32) (_:v.length=16) (deep:Int) (_:(d:Int)+1<=deep) (_:deep<=16) (_:1<g.h) (_:g.h<=4096) (_:(F3 M g.h+c1M M+(2*d+2)<=40/\d+1<=I6 (g.T M) g.h)∨(d=0/\l.length<=8/\F3 M g.h<40)),
  Calls Tryz.prog 131 #[.pointer (some ⟨g.x.tb,0,none⟩),.int .u32 (a:Int),arr key,arr v,.int .i64 deep] w (As1 g M root d a l S key v w)
 | 0,w,g,M,h,root,a,l,S,hs,hh,key,v,hkey,hv,deep,hd0,hd1,hh1,hh2,hres=>by
  have hlow:=hh.low a hs.mem.1;have hlt:=hs.mem.2;have hd:(deep == 0)=false:=by rw[beq_eq_false_iff_ne];omega
  cases ht:M3 (l.map (·.1)) key
  ·exact Ca1 h a hlow.2 hlt hs.2.2.1 hs.2.2.2.1 key v hkey hv deep hd ht rfl hh1 hh2 (.inr (by omega)) (λ q=>by rw[List.length_map] at q;omega) rfl rfl
    (λ hr=>Bo3 hs hh h.ok hkey hv ht hr)
    (λ hr k' s hk' h4 hsh hT ho1 ho2=>Bo4 hs hh h.ok (h.cur_len 1) hh1 hh2 hkey hv ht hr rfl rfl hk' h4 hsh hT ho1 ho2)
  ·refine(Bu4 h a hlow.2 hlt hs.2.2.1 hs.2.2.2.1 key v hkey hv deep hd (.inr (by omega)) ht rfl).mono λ e w' ⟨e1,e2,e3⟩=>?_;exact⟨_,none,e1,Bi9 hs hh h.ok hkey hv ht,e2,e3⟩
 | d+1,w,g,M,h,root,a,l,S,hs,hh,key,v,hkey,hv,deep,hd0,hd1,hh1,hh2,hres=>by
  have hlow:=hh.low a hs.mem.1;have hlt:=hs.mem.2;obtain⟨ks,ds,kid,lc,Sc,hA⟩:=hs.at (key:=key) (v:=v) hh;refine Ce2 h a hlow.2 hlt hA.ok hA.enc key v hkey hv deep (by omega) hd1 hA hh1 hh2 (by omega) (by omega) (λ w' h'=>?_);exact Bj5 d h' hA.shape hA.held key v hkey hv (deep-1) (by omega) (by omega) hh1 hh2 (.inl ⟨by omega,by omega⟩)
attribute [-go_sem] loadCells storeCells Instr.build Instr.buildSlice
theorem Bj6(a a':Option Addr)(n c n' c':Nat)(w:World):(Instr.build 220 #[(0,.int .i64 1),(1,.slice a n c),(2,.slice a' n' c')]).run Tryz.prog w=.ok (.agg #[.int .i64 1,.slice a n c,.slice a' n' c',.slice none 0 0]) w:=run_build w _ _ _ (by kernel_rfl)
theorem Ay8(a b:Int)(w:World):(Instr.buildSlice 218 2 #[(0,.int .u32 a),(1,.int .u32 b)]).run Tryz.prog w=.ok (.slice (some ⟨w.heap.size,0,none⟩) 2 2) (w.alloc (.cells #[.int .u32 a,.int .u32 b] 79)):=by kernel_rfl
theorem Bj7{w:World}{b:Nat}{key:Bs}(hk:key.length=32)(h:w.heap[b]?=some (.cells (bts key).toArray 35 (0,0))):C0 w b (.slice (some ⟨b,0,none⟩) 1 1) [key]:=by
 refine⟨by simp[hk],.inr ⟨b,1,_,rfl,Nat.le_refl _,h,Nat.le_refl _,by decide,by simp[hk],?_⟩⟩;simp only[List.length_cons,List.length_nil,List.map_cons,List.map_nil,List.flatten_cons,List.flatten_nil,List.append_nil];exact List.take_of_length_le (by rw[A9,hk];omega)
theorem Ca3{w:World}{b:Nat}{key:Bs}(hk:key.length=16)(h:w.heap[b]?=some (.cells (bts key).toArray 115 (0,0))):F7 w b (.slice (some ⟨b,0,none⟩) 1 1) [key]:=by
 refine⟨by simp[hk],.inr ⟨b,1,_,rfl,Nat.le_refl _,h,Nat.le_refl _,by decide,by simp[hk],?_⟩⟩;simp only[List.length_cons,List.length_nil,List.map_cons,List.map_nil,List.flatten_cons,List.flatten_nil,List.append_nil];exact List.take_of_length_le (by rw[A9,hk];omega)
theorem Ca4{w:World}{k a b:Nat}(h:w.heap[k]?=some (.cells #[.int .u32 (a:Int),.int .u32 (b:Int)] 79 (0,0))):D8 w k (.slice (some ⟨k,0,none⟩) 2 2) [a,b]:=
 ⟨rfl,.inr ⟨k,2,_,rfl,Nat.le_refl _,h,Nat.le_refl _,by decide,rfl,rfl⟩⟩
theorem Bv0{w:World}{g:Sg}{M:Nat->Option Sec}(h:B8 w g M)(hh1:1<g.h)(hh2:g.h<=4096)(key v:Bs)(hkey:key.length=32)(hv:v.length=16)(hres:F3 M g.h+c1M M+1<=40)(hleft:1<=I6 (g.T M) g.h) :
  Calls Tryz.prog 58 #[.pointer (some ⟨g.x.tb,0,none⟩),.int .u32 0,arr key,arr v] w λ e w'=>∃s:Nat,4<=s/\s<g.h/\g.Fr M s/\e=.returned (.tuple #[.int .u32 (s:Int),.int .i64 0])/\B8 w' g (E9 (P6 g M s) s (C3 [key] [v]))/\Upd g.S w w':=by
 have hb:((g.h:Int) == 0)=false:=by rw[beq_eq_false_iff_ne];omega
 have hhb:=hh2;obtain⟨wA,hwA⟩:∃wA,wA=(w.alloc (.cells (bts key).toArray 35)).alloc (.cells (bts v).toArray 115):=⟨_,rfl⟩;have huA:Upd [] w wA:=by rw[hwA];exact((Upd.refl _ _).alloc _).alloc _
 have hA:=h.below huA;have H6:Hid (wA.heap[w.heap.size]?=some (.cells (bts key).toArray 35 (0,0))):=by
  show wA.heap[_]?=_
  rw[hwA,A8 (by simp)];exact A6 _
 have H7:Hid (wA.heap[w.heap.size+1]?=some (.cells (bts v).toArray 115 (0,0))):=by
  show wA.heap[_]?=_
  rw[hwA];have:=A6 (w:=w.alloc (.cells (bts key).toArray 35)) (.cells (bts v).toArray 115);simpa using this
 have HO:=η (Y7 hA);have HA:=η hA;have HUA:=η huA;have HW:=η hwA;clear h hA huA hwA;unfold arr;go_enter Tryz.func58,Tryz.ntmps58
 go_wp2_with fail
 have hwA:=HW.out;rw[← hwA];clear hwA;refine HO.out.mono ?_;rintro e w1 ⟨rfl,n1,hn1⟩;have hu1:Upd [] wA w1:=by rw[hn1];exact(Upd.refl _ _).drewN _
 have h1:=HA.out.below hu1;have HTK:=η (Aw5 h1 hh1 hh2 (.inr (by omega)) hleft);have HU1:=η (HUA.out.trans hu1);have H61:=η ((hu1.block _ (A4 H6.out) (by simp)).trans H6.out);have H71:=η ((hu1.block _ (A4 H7.out) (by simp)).trans H7.out);have H1:=η h1;clear hn1 hu1 h1;go_wp2_with fail
 refine HTK.out.mono ?_;rintro e w2 ⟨s,hs4,hsh,hsT,rfl,h2,hu2⟩;have h6:=(hu2.block _ (A4 H61.out) (H1.out.other9 H61.out (.inr (.inr (.inl rfl))))).trans H61.out;have h7:=(hu2.block _ (A4 H71.out) (H1.out.other9 H71.out (.inr (.inr (.inr (.inl rfl)))))).trans H71.out;have l6:=A7 (n:=32) h6 (by rw[A9,hkey]);have l7:=A7 (w:=w2.alloc (.cells (bts key).toArray 35)) (n:=16) ((A8 (A4 h7)).trans h7) (by rw[A9,hv]);have bk:=Am1 hkey w2;have bw:=Br0 hv (w2.alloc (.cells (bts key).toArray 35));rw[show(w2.alloc (.cells (bts key).toArray 35)).heap.size=w2.heap.size+1 by simp] at bw;have bn:=Bj6;obtain⟨w5,hw5⟩:∃w5,w5=((w2.alloc (.cells (bts key).toArray 35)).alloc (.cells (bts v).toArray 115)).alloc (.cells #[.int .i64 1,.slice (some ⟨w2.heap.size,0,none⟩) 1 1,.slice (some ⟨w2.heap.size+1,0,none⟩) 1 1,.slice none 0 0] 220):=⟨_,rfl⟩;have st:=M8 ((w2.alloc (.cells (bts key).toArray 35)).alloc (.cells (bts v).toArray 115)) (some ⟨w2.heap.size,0,none⟩) (some ⟨w2.heap.size+1,0,none⟩) none 1 1 1 1 1 0 0;rw[← hw5,show((w2.alloc (.cells (bts key).toArray 35)).alloc (.cells (bts v).toArray 115)).heap.size=w2.heap.size+1+1 by simp] at st;have hu5:Upd [] w2 w5:=by rw[hw5];exact(((Upd.refl _ _).alloc _).alloc _).alloc _
 have k5:w5.heap[w2.heap.size]?=some (.cells (bts key).toArray 35 (0,0)):=by rw[hw5,A8 (by simp;omega),A8 (by simp)];exact A6 _
 have v5:w5.heap[w2.heap.size+1]?=some (.cells (bts v).toArray 115 (0,0)):=by
  rw[hw5,A8 (by simp)];have:=A6 (w:=w2.alloc (.cells (bts key).toArray 35)) (.cells (bts v).toArray 115);simpa using this
 have n5:w5.heap[w2.heap.size+1+1]?=some (.cells #[.int .i64 1,.slice (some ⟨w2.heap.size,0,none⟩) 1 1,.slice (some ⟨w2.heap.size+1,0,none⟩) 1 1,.slice none 0 0] 220 (0,0)):=by
  rw[hw5];have:=A6 (w:=(w2.alloc (.cells (bts key).toArray 35)).alloc (.cells (bts v).toArray 115)) (.cells #[.int .i64 1,.slice (some ⟨w2.heap.size,0,none⟩) 1 1,.slice (some ⟨w2.heap.size+1,0,none⟩) 1 1,.slice none 0 0] 220);simpa using this
 have l5:=A7 (n:=4) (cs:=[.int .i64 1,.slice (some ⟨w2.heap.size,0,none⟩) 1 1,.slice (some ⟨w2.heap.size+1,0,none⟩) 1 1,.slice none 0 0]) n5 rfl;have ws:IntKind.u32.wrap (s:Int)=(s:Int):=by rw[IntKind.wrap_u32];omega
 have hok:K7 [key] [v]:=⟨by simpa using hkey,by simpa using hv,rfl,by simp⟩;have hcn:=Am2 (g:=g) (M:=M) s H1.out.ok hh1;have HWR:=η (Ae6 (h2.below hu5) (vd:=.slice none 0 0) (C0.rd (Bj7 hkey k5) hok.k) (F7.rd (Ca3 hv v5) hok.v) hok s hsh (by omega) (.inr (by rw[hcn];omega)));have HU5:=η (((HU1.out.mono (by simp)).trans hu2).trans (hu5.mono (by simp)));have HT:=η hsT;clear h2 hu2 h6 h7 hw5 hu5 k5 v5 n5 hok hcn hsT;go_wp2_with fail
 refine HWR.out.mono ?_;rintro e w6 ⟨rfl,h6,hu6⟩;have H6':=η h6;have HU6:=η (HU5.out.trans (hu6.mono g.memw));clear h6 hu6;go_wp2_with fail
 refine(V3 _ w6).mono ?_;rintro e w7 ⟨rfl,hu7⟩;have H7':=η (H6'.out.below hu7);have HU7:=η (HU6.out.trans (hu7.mono (by simp)));clear hu7;go_wp2_with fail
 go_ret2;exact⟨s,hs4,hsh,HT.out,rfl,H7'.out,HU7.out⟩
theorem Ci3:(#[.int .u8 0,.int .u8 0,.int .u8 0,.int .u8 0,.int .u8 0,.int .u8 0,.int .u8 0,.int .u8 0,.int .u8 0,.int .u8 0,.int .u8 0,.int .u8 0,.int .u8 0,.int .u8 0,.int .u8 0,.int .u8 0,.int .u8 0,.int .u8 0,.int .u8 0,.int .u8 0,.int .u8 0,.int .u8 0,.int .u8 0,.int .u8 0,.int .u8 0,.int .u8 0,.int .u8 0,.int .u8 0,.int .u8 0,.int .u8 0,.int .u8 0,.int .u8 0,.int .u32 0,.bool false]:Array Value)=(J6 none).toArray:=rfl
theorem Ca5{w:World}{g:Sg}{M:Nat->Option Sec}(h:B8 w g M)(hh1:1<g.h)(hh2:g.h<=4096){r:Nat}(hr:r≠0)(hr4:r<4294967296){d:Nat}{l:List B0}{S:List Nat}(hs:E6 (g.cur M) true d r l S)(hh:K5 g M S)(hd2:d<=2)(key v:Bs)(hkey:key.length=32)(hv:v.length=16)(hres:(F3 M g.h+c1M M+7<=40/\4<=I6 (g.T M) g.h)∨(d=0/\l.length<=8/\F3 M g.h<40)) :
  Calls Tryz.prog 58 #[.pointer (some ⟨g.x.tb,0,none⟩),.int .u32 (r:Int),arr key,arr v] w λ e w'=>∃M' r',e=.returned (.tuple #[.int .u32 ((r':Nat):Int),.int .i64 0])/\Af2 g M M' r r' l S key v 7/\B8 w' g M'/\Upd g.S w w':=by
 have hb:((g.h:Int) == 0)=false:=by rw[beq_eq_false_iff_ne];omega
 have hrb:((r:Int) == 0)=false:=by rw[beq_eq_false_iff_ne];omega
 have hhb:=hh2;obtain⟨wA,hwA⟩:∃wA,wA=(w.alloc (.cells (bts key).toArray 35)).alloc (.cells (bts v).toArray 115):=⟨_,rfl⟩;have huA:Upd [] w wA:=by rw[hwA];exact((Upd.refl _ _).alloc _).alloc _
 have hA:=h.below huA;have H6:Hid (wA.heap[w.heap.size]?=some (.cells (bts key).toArray 35 (0,0))):=by
  show wA.heap[_]?=_
  rw[hwA,A8 (by simp)];exact A6 _
 have H7:Hid (wA.heap[w.heap.size+1]?=some (.cells (bts v).toArray 115 (0,0))):=by
  show wA.heap[_]?=_
  rw[hwA];have:=A6 (w:=w.alloc (.cells (bts key).toArray 35)) (.cells (bts v).toArray 115);simpa using this
 have HO:=η (Y7 hA);have HA:=η hA;have HUA:=η huA;have HW:=η hwA;have HSH:=η hs;have HH:=η hh;clear h hA huA hwA hs hh;unfold arr;go_enter Tryz.func58,Tryz.ntmps58
 go_wp2_with fail
 have hwA:=HW.out;rw[← hwA];clear hwA;refine HO.out.mono ?_;rintro e w1 ⟨rfl,n1,hn1⟩;have hu1:Upd [] wA w1:=by rw[hn1];exact(Upd.refl _ _).drewN _
 have h1:=HA.out.below hu1;have h6:=(hu1.block _ (A4 H6.out) (by simp)).trans H6.out;have h7:=(hu1.block _ (A4 H7.out) (by simp)).trans H7.out;have l6:=A7 (n:=32) h6 (by rw[A9,hkey]);have l7:=A7 (n:=16) h7 (by rw[A9,hv]);have HPC:=η (Bj5 d h1 HSH.out HH.out key v hkey hv 16 (by omega) (by omega) hh1 hh2 (by omega));have HU1:=η (HUA.out.trans hu1);clear hn1 hu1 h1 h6 h7;unfold arr at HPC;go_wp2_with fail
 refine HPC.out.mono ?_;rintro e w2 ⟨M1,o,rfl,hPA,h2,hu2⟩;have hol:∀k b,o=some (k,b)->k.length=32:=by
  intro k b e;subst e;obtain⟨_,_,_,_,_,_,q,_⟩:=hPA;exact q
 obtain⟨w3,hw3⟩:∃w3,w3=(w2.alloc (.cells (J6 none).toArray 228)).setRow w2.heap.size (J6 o).toArray:=⟨_,rfl⟩;have s13:=C9 (A6 (w:=w2) (.cells (J6 none).toArray 228)) (l:=J6 o) (by rw[List.size_toArray,L7 _ hol,L7 _ (by simp)]) (U5 _);rw[← hw3,← Ci3] at s13;have c13:w3.heap[w2.heap.size]?=some (.cells (J6 o).toArray 228 (0,0)):=by rw[hw3];exact setRow_heap _ _ _ _ _ _ (A6 _)
 have hu3:Upd [] w2 w3:=by
  rw[hw3,V5];exact(Upd.refl _ _).alloc _
 have HU3:=η (((HU1.out.mono (by simp)).trans hu2).trans (hu3.mono (by simp)));have H3:=η (h2.below hu3);clear h2 hu2 hu3 hw3 hol;unfold Aw4;cases o with
 | none=>
  have m13:w3.cell? ⟨w2.heap.size,33,none⟩=some (.bool false):=A3 c13 33;have HPA:=η hPA;clear c13 hPA;go_wp2_with fail
  refine(V3 _ _).mono ?_;rintro e w7 ⟨rfl,hu7⟩;have H7':=η (H3.out.below hu7);have HU7:=η (HU3.out.trans (hu7.mono (by simp)));clear hu7;go_wp2_with fail
  go_ret2;exact⟨M1,r,rfl,Be1 hr hd2 HPA.out (by omega),H7'.out,HU7.out⟩
 | some p=>
  obtain⟨k',b⟩:=p;have hk':k'.length=32:=by
   obtain⟨_,_,_,_,_,_,q,_⟩:=hPA;exact q
  have hz:(J6 (some (k',b))).length=34:=L7 _ (by intro x y e;cases e;exact hk');have hres:F3 M g.h+c1M M+7<=40/\4<=I6 (g.T M) g.h:=by
   rcases hres with q | ⟨rfl,q,_⟩
   ·exact q
   ·exfalso
    obtain⟨_,l1,l2,S1,S2,el,_,q1,q2,_⟩:=hPA;have e1:=congrArg List.length el;rw[List.length_append] at e1;have e2:=Aq8 l key v;have e3:5<=l1.length:=q1.2.2.2.2.1;have e4:5<=l2.length:=q2.2.2.2.2.1;omega
  obtain⟨S1,hG⟩:=hPA.grown;have hcn:=hG.cnt;have hlf:=hG.left;have hln:=hG.len;obtain⟨m13,m14,r13⟩:=X5 hk' c13;have HTK:=η (Aw5 H3.out hh1 hh2 (.inr (by omega)) (by omega));have HPA:=η hPA;have H13:=η c13;have HCN:Hid (F3 M1 g.h+c1M M1+1<=40):=by show _<=_;omega
  clear c13 hPA hG hcn hlf hln m14 r13;go_wp2_with fail
  refine HTK.out.mono ?_;rintro e w4 ⟨s,hs4,hsh,hsT,rfl,h4,hu4⟩;have c13:=(hu4.block _ (A4 H13.out) (H3.out.other9 H13.out (.inl rfl))).trans H13.out;obtain⟨m13',m14,r13⟩:=X5 hk' c13;have l13:=B3 r13 hk';have bk:=Am1 hk' w4;have m14':=C8 (w':=w4.alloc (.cells (bts k').toArray 35)) m14 ((Upd.refl [] _).alloc _) (by simp);have bw:=Ay8 (r:Int) (b:Int) (w4.alloc (.cells (bts k').toArray 35));rw[show(w4.alloc (.cells (bts k').toArray 35)).heap.size=w4.heap.size+1 by simp] at bw;have bn:=Aq7;obtain⟨w5,hw5⟩:∃w5,w5=((w4.alloc (.cells (bts k').toArray 35)).alloc (.cells #[.int .u32 (r:Int),.int .u32 (b:Int)] 79)).alloc (.cells #[.int .i64 2,.slice (some ⟨w4.heap.size,0,none⟩) 1 1,.slice none 0 0,.slice (some ⟨w4.heap.size+1,0,none⟩) 2 2] 220):=⟨_,rfl⟩;have st:=M8 ((w4.alloc (.cells (bts k').toArray 35)).alloc (.cells #[.int .u32 (r:Int),.int .u32 (b:Int)] 79)) (some ⟨w4.heap.size,0,none⟩) none (some ⟨w4.heap.size+1,0,none⟩) 2 1 1 0 0 2 2;rw[← hw5,show((w4.alloc (.cells (bts k').toArray 35)).alloc (.cells #[.int .u32 (r:Int),.int .u32 (b:Int)] 79)).heap.size=w4.heap.size+1+1 by simp] at st;have hu5:Upd [] w4 w5:=by rw[hw5];exact(((Upd.refl _ _).alloc _).alloc _).alloc _
  have k5:w5.heap[w4.heap.size]?=some (.cells (bts k').toArray 35 (0,0)):=by rw[hw5,A8 (by simp;omega),A8 (by simp)];exact A6 _
  have v5:w5.heap[w4.heap.size+1]?=some (.cells #[.int .u32 (r:Int),.int .u32 (b:Int)] 79 (0,0)):=by
   rw[hw5,A8 (by simp)];have:=A6 (w:=w4.alloc (.cells (bts k').toArray 35)) (.cells #[.int .u32 (r:Int),.int .u32 (b:Int)] 79);simpa using this
  have n5:w5.heap[w4.heap.size+1+1]?=some (.cells #[.int .i64 2,.slice (some ⟨w4.heap.size,0,none⟩) 1 1,.slice none 0 0,.slice (some ⟨w4.heap.size+1,0,none⟩) 2 2] 220 (0,0)):=by
   rw[hw5];have:=A6 (w:=(w4.alloc (.cells (bts k').toArray 35)).alloc (.cells #[.int .u32 (r:Int),.int .u32 (b:Int)] 79)) (.cells #[.int .i64 2,.slice (some ⟨w4.heap.size,0,none⟩) 1 1,.slice none 0 0,.slice (some ⟨w4.heap.size+1,0,none⟩) 2 2] 220);simpa using this
  have l5:=A7 (n:=4) (cs:=[.int .i64 2,.slice (some ⟨w4.heap.size,0,none⟩) 1 1,.slice none 0 0,.slice (some ⟨w4.heap.size+1,0,none⟩) 2 2]) n5 rfl;have ws:IntKind.u32.wrap (s:Int)=(s:Int):=by rw[IntKind.wrap_u32];omega
  have hcn2:=Am2 (g:=g) (M:=M1) s H3.out.ok hh1;have hpt:=Bj0 (m:=7) hr4 hd2 HH.out HPA.out (by omega) H3.out.ok (H3.out.cur_len 1) hh1 hh2 hs4 hsh hsT (As2 H3.out s hh1);have HWR:=η (Ag8 (h4.below hu5) (vv:=.slice none 0 0) (C0.rd (Bj7 hk' k5) hpt.1.k) (D8.rd (Ca4 v5)) hpt.1 s hsh (by omega) (.inr (by rw[hcn2];have:=HCN.out;omega)));have HU5:=η ((HU3.out.trans hu4).trans (hu5.mono (by simp)));have HT:=η hpt.2;clear h4 hu4 c13 m14 r13 hw5 hu5 k5 v5 n5 hpt hcn2 hsT;go_wp2_with fail
  refine HWR.out.mono ?_;rintro e w6 ⟨rfl,h6,hu6⟩;have H6':=η h6;have HU6:=η (HU5.out.trans (hu6.mono g.memw));clear h6 hu6;go_wp2_with fail
  refine(V3 _ w6).mono ?_;rintro e w7 ⟨rfl,hu7⟩;have H7':=η (H6'.out.below hu7);have HU7:=η (HU6.out.trans (hu7.mono (by simp)));clear hu7;go_wp2_with fail
  go_ret2;exact⟨_,s,rfl,HT.out,H7'.out,HU7.out⟩
theorem Ca6{w:World}{g:Sg}{M:Nat->Option Sec}(h:B8 w g M)(hh1:1<g.h)(hh2:g.h<=4096){r:Nat}{l:List B0}{S:List Nat}(ht:Y8 (g.cur M) r l S)(hh:K5 g M S)(hl:l.length<490)(key v:Bs)(hkey:key.length=32)(hv:v.length=16)
  (hres:(F3 M g.h+c1M M+7<=40/\4<=I6 (g.T M) g.h)∨(r≠0/\l.length<=8/\F3 M g.h<40)) :
  Calls Tryz.prog 58 #[.pointer (some ⟨g.x.tb,0,none⟩),.int .u32 (r:Int),arr key,arr v] w λ e w'=>∃M' r',e=.returned (.tuple #[.int .u32 ((r':Nat):Int),.int .i64 0])/\Af2 g M M' r r' l S key v 7/\B8 w' g M'/\Upd g.S w w':=by
 rcases ht with⟨rfl,rfl,rfl⟩ | ⟨hr,d,hs⟩
 ·have hres':F3 M g.h+c1M M+7<=40/\4<=I6 (g.T M) g.h:=hres.resolve_right λ q=>q.1 rfl;refine(Bv0 h hh1 hh2 key v hkey hv (by omega) (by omega)).mono ?_;rintro e w' ⟨s,hs4,hsh,hsT,rfl,h1,hu1⟩;obtain⟨S',q1,q2,q3,q4⟩:=(Be2 hkey hv h.ok (h.cur_len 1) hh1 hh2 hs4 hsh hsT (As2 h s hh1)).2;exact⟨_,s,rfl,⟨S',q1,q2,q3.mono (Nat.le_refl _) (by omega),q4⟩,h1,hu1⟩
 ·refine Ca5 h hh1 hh2 hr hs.mem.2 hs hh (hs.flat hl) key v hkey hv ?_;rcases hres with q | ⟨_,q1,q2⟩
  ·exact .inl q
  ·refine .inr ⟨?_,q1,q2⟩;cases d with
   | zero=>rfl
   | succ d=>
    exfalso
    have e1:=hs.manyR;have e2:1<=7 ^ d:=Nat.pos_of_ne_zero (by simp);omega
theorem Br5{w:World}{g:Sg}{M:Nat->Option Sec}(h:B8 w g M)(hh1:1<g.h)(hh2:g.h<=4096){r:Nat}{l:List B0}{S:List Nat}(ht:Q3 (g.cur M) g.h r l S)(hl:l.length<490)(key v:Bs)(hkey:key.length=32)(hv:v.length=16)(hres:F3 M g.h+c1M M+7<=40)(hleft:4<=I6 (g.T M) g.h) :
  Calls Tryz.prog 58 #[.pointer (some ⟨g.x.tb,0,none⟩),.int .u32 (r:Int),arr key,arr v] w λ e w'=>∃M' r',e=.returned (.tuple #[.int .u32 ((r':Nat):Int),.int .i64 0])/\Af2 g M M' r r' l S key v 7/\B8 w' g M'/\Upd g.S w w':=
 Ca6 h hh1 hh2 ht.at_ ht.held hl key v hkey hv (.inl ⟨hres,hleft⟩)
end
end Go.Proofs.YtgfbepakonjbnaaGreat
end
section
set_option linter.unusedSimpArgs false
set_option linter.unusedVariables false
namespace Go.Proofs.YtgfbepakonjbnaaGreat
open Go.RowKit
section
def Y9(g:Sg)(M:Nat->Option Sec)(s:Nat):Nat->Option Sec:=Af8 M (Ag4 (V9 (g.cur M 1)) s false 1)
theorem Am6{g:Sg}{M:Nat->Option Sec}(s i:Nat)(hi:i≠1):g.cur (Y9 g M s) i=g.cur M i:=by
 unfold Sg.cur Y9 Af8;rw[if_neg hi]
theorem Ci4{g:Sg}{M:Nat->Option Sec}(hl:(g.cur M 1).length=512){s:Nat}(hs:4<=s)(hh:s<4096)(i:Nat):g.T (Y9 g M s) i=(g.T M i && !decide (i=s)):=by
 unfold Y9;rw[Sg.T_turn hl false hs (by omega)];by_cases e:i=s
 ·subst e;simp
 ·rw[if_neg (by omega)];simp[e]
theorem Cg9(g:Sg)(M:Nat->Option Sec)(s:Nat):c1M (Y9 g M s)=0:=by
 unfold c1M Y9 Af8;simp
theorem Be5{g:Sg}{M:Nat->Option Sec}{h:Nat}(s:Nat)(ho:MOk M h)(hh:1<h):F3 (Y9 g M s) h=F3 M h+c1M M:=by
 unfold Y9 Af8 c1M;rw[Al6 ho hh];split<;>rfl
theorem Ce6{g:Sg}{M:Nat->Option Sec}(ho:MOk M g.h)(hl:(g.cur M 1).length=512)(s:Nat)(h1:1<g.h):MOk (Y9 g M s) g.h:=by
 intro i x e;unfold Y9 Af8 at e;split at e
 ·next q=>cases e;exact⟨by omega,by rw[T3,T4];exact hl⟩
 ·exact ho i x e
theorem Ca9{g:Sg}{M:Nat->Option Sec}{a:Nat}{x:Sec}(ha:4<=a)(hl:(g.cur M 1).length=512):(g.cur (E9 M a x) 1).length=512:=by rw[F8 _ _ _ (by omega)];exact hl
def Ah4(M:Nat->Option Sec)(d a:Nat)(ks vs:List Bs)(ds:List Nat):Nat->Option Sec:=if N3 d<=ks.length then E9 M a (Ah3 d ks vs ds) else M
structure L9(g:Sg)(M M':Nat->Option Sec)(S S':List Nat)(m:Nat):Prop where
 sub:∀s,s∈S'->s∈S
 nd:S'.Nodup
 T:∀i,g.T M' i=(g.T M i && !(decide (i∈S) && !decide (i∈S')))
 keep:∀i,i∉S->i≠1->M' i=M i
 cnt:F3 M' g.h+c1M M'<=F3 M g.h+c1M M+m
 left:I6 (g.T M') g.h+S'.length=I6 (g.T M) g.h+S.length
section
variable {g:Sg} {M M1:Nat->Option Sec} {S S':List Nat} {m:Nat}
theorem K5.shr(h:K5 g M S):L9 g M M S S 0:=
 ⟨λ _ q=>q,h.nd,λ i=>by by_cases e:i∈S<;>simp[e],λ _ _ _=>rfl,Nat.le_refl _,rfl⟩
theorem L9.held(h:L9 g M M1 S S' m)(hs:K5 g M S):K5 g M1 S':=
 ⟨h.nd,λ s q=>hs.low s (h.sub s q),λ s q=>by rw[h.T,hs.T s (h.sub s q)];simp[q]⟩
theorem L9.perm(h:L9 g M M1 S S' m){S2:List Nat}(hp:S'.Perm S2):L9 g M M1 S S2 m:=
 ⟨λ s q=>h.sub s (hp.mem_iff.2 q),hp.nodup_iff.1 h.nd,λ i=>by rw[h.T];simp only[hp.mem_iff],h.keep,h.cnt,by rw[← hp.length_eq];exact h.left⟩
theorem L9.mono(h:L9 g M M1 S S' m){m':Nat}(hm:m<=m'):L9 g M M1 S S' m':=
 ⟨h.sub,h.nd,h.T,h.keep,Nat.le_trans h.cnt (by omega),h.left⟩
theorem L9.put(h:L9 g M M1 S S' m)(ho:MOk M1 g.h){a:Nat}(ha:a∈S')(ha1:4<=a)(hh:a<g.h)(x:Sec):L9 g M (E9 M1 a x) S S' (m+1):=by
 refine⟨h.sub,h.nd,λ i=>by rw[Aw7 x (by omega)];exact h.T i,λ i q r=>?_,?_,?_⟩
 ·unfold E9;rw[if_neg (by rintro rfl;exact q (h.sub _ ha))];exact h.keep i q r
 ·rw[Ao2 x (by omega)];have:=R8 (x:=x) ho hh;have:=h.cnt;omega
 ·rw[show g.T (E9 M1 a x)=g.T M1 from funext λ i=>Aw7 x (by omega) i];exact h.left
theorem L9.keepM(h:L9 g M M1 S S' m)(ho:MOk M1 g.h){a:Nat}(ha:a∈S')(ha1:4<=a)(hh:a<g.h)(d:Nat)(ks vs:List Bs)(ds:List Nat):L9 g M (Ah4 M1 d a ks vs ds) S S' (m+1):=by
 unfold Go.Proofs.YtgfbepakonjbnaaGreat.Ah4;split
 ·exact h.put ho ha ha1 hh _
 ·exact h.mono (by omega)
theorem L9.free{s:Nat}(h:L9 g M M1 S (s :: S') m)(hs:K5 g M S)(ho:MOk M1 g.h)(hl:(g.cur M1 1).length=512)(hh:1<g.h)(hh2:g.h<=4096):L9 g M (Y9 g M1 s) S S' m:=by
 have hin:=h.sub s (by simp);have hlow:=hs.low s hin;have hT:=Ci4 hl hlow.1 (show s<4096 by omega);have hnd:=List.nodup_cons.1 h.nd;refine⟨λ i q=>h.sub i (by simp[q]),hnd.2,λ i=>?_,λ i q r=>?_,?_,?_⟩
 ·rw[hT,h.T];by_cases e:i=s
  ·subst e;simp[hin,hnd.1]
  ·simp[e]
 ·unfold Y9 Af8;rw[if_neg r];exact h.keep i q r
 ·rw[Cg9,Be5 s ho hh];exact h.cnt
 ·have:=Af1 (T:=g.T (Y9 g M1 s)) (T':=g.T M1) (s:=s) (λ i=>by
   rw[hT];by_cases e:i=s
   ·subst e;rw[(h.held hs).T i (by simp)];simp
   ·simp[e]) (by rw[hT];simp) g.h
  rw[if_pos hlow.2] at this;have:=h.left;simp only[List.length_cons] at this;omega
theorem L9.out{Sc Sc' X Y:List Nat}(h:L9 g M M1 Sc Sc' m)(hs:K5 g M (X++(Sc++Y))):∀i,i∈X∨i∈Y->i∉Sc/\g.cur M1 i=g.cur M i:=by
 intro i hi;have n1:=List.nodup_append.1 hs.nd;have n2:=List.nodup_append.1 n1.2.1;have hout:i∉Sc:=λ q=>by
  rcases hi with r | r
  ·exact n1.2.2 i r i (by simp[q]) rfl
  ·exact n2.2.2 i q i r rfl
 have hi4:4<=i:=by
  rcases hi with r | r
  ·exact(hs.low i (by simp[r])).1
  ·exact(hs.low i (by simp[r])).1
 exact⟨hout,by unfold Sg.cur;rw[h.keep i hout (by omega)]⟩
theorem L9.lift{Sc Sc' X Y:List Nat}(h:L9 g M M1 Sc Sc' m)(hs:K5 g M (X++(Sc++Y))):L9 g M M1 (X++(Sc++Y)) (X++(Sc'++Y)) m:=by
 have hd1:=List.nodup_append.1 hs.nd;have hd2:=List.nodup_append.1 hd1.2.1;have out:=h.out hs;refine⟨λ s q=>?_,?_,λ i=>?_,λ i q r=>?_,h.cnt,?_⟩
 ·simp only[List.mem_append] at q ⊢;rcases q with q | q | q
  ·exact .inl q
  ·exact .inr (.inl (h.sub s q))
  ·exact .inr (.inr q)
 ·refine List.nodup_append.2 ⟨hd1.1,List.nodup_append.2 ⟨h.nd,hd2.2.1,λ a ha b hb e=>?_⟩,λ a ha b hb e=>?_⟩
  ·subst e;exact hd2.2.2 a (h.sub a ha) a hb rfl
  ·subst e;rcases List.mem_append.1 hb with q | q
   ·exact hd1.2.2 a ha a (by simp[h.sub a q]) rfl
   ·exact hd1.2.2 a ha a (by simp[q]) rfl
 ·rw[h.T i];by_cases e:i∈X∨i∈Y
  ·have:=(out i e).1;rcases e with e | e<;>simp[e,this]
  ·simp only[not_or] at e;simp[e.1,e.2]
 ·simp only[List.mem_append,not_or] at q;exact h.keep i q.2.1 r
 ·have:=h.left;simp only[List.length_append];omega
end
theorem Ax3{d:Nat}{ks vs:List Bs}{ds:List Nat}{C:Nat->Sec}{l:List B0}{S:List Nat}(h:P9 C d ks vs ds l S)(hm:ks.length<=T9 d):(Ah3 d ks vs ds).length=512:=by
 obtain⟨h1,h2,h3,h4⟩:=h.len;cases d with
 | zero=>simp at h4;exact K4 ⟨h1,h2,h4.1,hm⟩ (Nat.le_refl _)
 | succ d=>simp at h4;exact G9 ⟨h1,h3,h4.1,hm⟩ (Nat.le_refl _)
theorem P9.ne{C:Nat->Sec}{d:Nat}{ks vs:List Bs}{ds:List Nat}{l:List B0}{S:List Nat}(h:P9 C d ks vs ds l S)(hk:0<ks.length):l≠[]:=by
 cases d with
 | zero=>obtain⟨_,_,rfl,_⟩:=h;rintro rfl;simp at hk
 | succ d=>obtain⟨_,_,_,_,h5⟩:=h;exact h5.ne λ k l S h=>E6.ne h
def V1(g:Sg)(M M':Nat->Option Sec)(root:Bool)(d a:Nat)(l:List B0)(S:List Nat)(key:Bs)(ks vs:List Bs)(ds:List Nat):Prop:=
 ∃S',P9 (g.cur M') d ks vs ds (S4 l key) S'/\ks.length<=T9 d/\(if root then 1 else N3 d)<=ks.length+1/\(N3 d<=ks.length->g.cur M' a=Ah3 d ks vs ds)/\L9 g M M' S (a :: S') (3*d+1)
theorem Bk5{g:Sg}{M:Nat->Option Sec}{root:Bool}{a:Nat}{l:List B0}{S:List Nat}{key:Bs}(hs:E6 (g.cur M) root 0 a l S)(hh:K5 g M S)(ho:MOk M g.h)(hk:M3 (l.map (·.1)) key=true):V1 g M (Ah4 M 0 a ((l.map (·.1)).eraseIdx (I8 (l.map (·.1)) key)) ((l.map (·.2)).eraseIdx (I8 (l.map (·.1)) key)) []) root 0 a l S key ((l.map (·.1)).eraseIdx (I8 (l.map (·.1)) key)) ((l.map (·.2)).eraseIdx (I8 (l.map (·.1)) key)) []:=by
 have hlow:=hh.low a hs.mem.1;obtain⟨rfl,ha,hok,hc,hn,hp⟩:=hs;obtain⟨e1,e2⟩:=Bb1 hp hk;refine⟨[],?_,?_,?_,λ hl=>?_,hh.shr.keepM ho (by simp) hlow.1 hlow.2 _ _ _ _⟩
 ·rw[← e1,← e2];exact⟨rfl,rfl,rfl,rfl,λ p hp=>hok.pairs p (Y6 hp),Bk3 hp key⟩
 ·have:=hok.most;rw[List.length_map] at this;rw[← e1,List.length_map];exact Nat.le_trans (Am5 l key) this
 ·rw[List.length_eraseIdx,List.length_map];have h2:l.length<=(if I8 (l.map (·.1)) key<l.length then l.length-1 else l.length)+1:=by split<;>omega
  exact Nat.le_trans hn h2
 ·unfold Ah4;rw[if_pos hl,G8]
def Ar6(g:Sg)(M M1:Nat->Option Sec)(root:Bool)(d a:Nat)(l:List B0)(S:List Nat)(key:Bs)(ks:List Bs)(ds:List Nat)(i:Nat)(k0:Bs)(c1 c2:Nat)(k1 v1:List Bs)(d1:List Nat)(k2 v2:List Bs)(d2:List Nat):Prop:=
 ∃la l1 l2 lb Sa S1 S2 Sb l1' T1 l2' T2,a<4294967296/\K5 g M S/\ks.Pairwise (λ x y=>ltB x y=true)/\F6 ks ds/\(∃S0,S=a :: S0/\Cf1 (λ k l S=>E6 (g.cur M) false d k l S) ks ds l S0 i k0 c1 c2 la l1 l2 lb Sa S1 S2 Sb)/\
  P9 (g.cur M1) d k1 v1 d1 l1' T1/\P9 (g.cur M1) d k2 v2 d2 l2' T2/\(∀p,p∈l1'->p∈l1)/\(∀p,p∈l2'->p∈l2)/\S4 l key=la++((l1'++l2')++lb)/\(∀s,s∈Sa∨s∈Sb->g.cur M1 s=g.cur M s)/\
  L9 g M M1 S ((a :: Sa)++((c1 :: T1)++((c2 :: T2)++Sb))) (3*d+1)/\k1.length<=T9 d/\k2.length<=T9 d/\(N3 d<=k1.length∨N3 d<=k2.length)/\0<k1.length/\0<k2.length/\(if root then 1 else 6)<=ks.length
section
variable {g:Sg} {M M1:Nat->Option Sec} {root:Bool} {d a:Nat} {l:List B0} {S:List Nat} {key:Bs} {ks:List Bs} {ds:List Nat} {i:Nat} {k0:Bs} {c1 c2:Nat} {k1 v1:List Bs} {d1:List Nat} {k2 v2:List Bs} {d2:List Nat}
theorem Ar6.in_(h:Ar6 g M M1 root d a l S key ks ds i k0 c1 c2 k1 v1 d1 k2 v2 d2):(c1<4294967296/\4<=c1/\c1<g.h)/\(c2<4294967296/\4<=c2/\c2<g.h)/\(4<=a/\a<g.h)/\i<ks.length/\ks[i]?=some k0/\ds[i]?=some c1/\ds[i+1]?=some c2:=by
 obtain⟨la,l1,l2,lb,Sa,S1,S2,Sb,l1',T1,l2',T2,ha,hh,hp,hok,⟨S0,rfl,H⟩,_⟩:=h;have m1:=H.p1.mem;have m2:=H.p2.mem;have e1:=hh.low c1 (by rw[H.eS];simp[m1.1]);have e2:=hh.low c2 (by rw[H.eS];simp[m2.1]);exact⟨⟨m1.2,e1⟩,⟨m2.2,e2⟩,hh.low a (by simp),(List.getElem?_eq_some_iff.1 H.k).1,H.k,H.d1,H.d2⟩
theorem Ar6.join(h:Ar6 g M M1 root d a l S key ks ds i k0 c1 c2 k1 v1 d1 k2 v2 d2)(hm:(Af7 d k1 k0 k2).length<=T9 d)(ho:MOk M1 g.h)(hl1:(g.cur M1 1).length=512)(h1:1<g.h)(h2:g.h<=4096) :
  V1 g M (Ah4 (Y9 g (E9 M1 c1 (Ah3 d (Af7 d k1 k0 k2) (v1++v2) (d1++d2))) c2) (d+1) a (ks.eraseIdx i) [] (ds.eraseIdx (i+1))) root (d+1) a l S key (ks.eraseIdx i) [] (ds.eraseIdx (i+1)):=by
 obtain⟨⟨c1a,c1b,c1c⟩,⟨c2a,c2b,c2c⟩,⟨ha4,hah⟩,hi,_⟩:=h.in_;obtain⟨la,l1,l2,lb,Sa,S1,S2,Sb,l1',T1,l2',T2,ha,hh,hp,hok,⟨S0,rfl,H⟩,o1,o2,sub1,sub2,el,hk,hS,_,_,hbig,_,_,hroot⟩:=h;have hkl:k0.length=32:=hok.k _ (List.mem_of_getElem? H.k);have b1:∀p,p∈l1'->ltB p.1 k0=true:=λ p hp=>H.low p (by simp[sub1 p hp]);have b2:∀p,p∈l2'->ltB p.1 k0=false:=λ p hp=>H.high p (by simp[sub2 p hp]);have oj:=o1.join o2 hkl b1 b2;have hlen:=Ax3 oj hm;obtain⟨E,hE⟩:∃E,E=Ah3 d (Af7 d k1 k0 k2) (v1++v2) (d1++d2):=⟨_,rfl⟩;rw[← hE] at hlen ⊢;have hnd:=hS.nd;have hlow:=(hS.held hh).low;have f1:=hS.put ho (a:=c1) (by simp) c1b c1c E;have p1:((a :: Sa)++((c1 :: T1)++((c2 :: T2)++Sb))).Perm (c2 :: ((a :: Sa)++((c1 :: (T1++T2))++Sb))):=by
  have:=List.perm_middle (a:=c2) (l₁:=a :: (Sa++(c1 :: T1))) (l₂:=T2++Sb);simpa using this
 have ho2:=Af3 ho c1c hlen;have hl2:=Ca9 (x:=E) c1b hl1;have f2:=(f1.perm p1).free hh ho2 hl2 h1 h2;have ho3:=Ce6 ho2 hl2 c2 h1;have f3:=f2.keepM ho3 (a:=a) (by simp) ha4 hah (d+1) (ks.eraseIdx i) [] (ds.eraseIdx (i+1));have hcur:∀s,s≠a->s≠c1->s≠1->g.cur (Ah4 (Y9 g (E9 M1 c1 E) c2) (d+1) a (ks.eraseIdx i) [] (ds.eraseIdx (i+1))) s=g.cur M1 s:=by
  intro s q1 q2 q3;unfold Ah4;split
  ·rw[F8 _ _ _ q1,Am6 _ _ q3,F8 _ _ _ q2]
  ·rw[Am6 _ _ q3,F8 _ _ _ q2]
 have hac:a≠c1:=by rintro rfl;simp at hnd
 have hcur1:g.cur (Ah4 (Y9 g (E9 M1 c1 E) c2) (d+1) a (ks.eraseIdx i) [] (ds.eraseIdx (i+1))) c1=E:=by
  unfold Ah4;split
  ·rw[F8 _ _ _ (Ne.symm hac),Am6 _ _ (by omega),G8]
  ·rw[Am6 _ _ (by omega),G8]
 have hin:∀s,s∈Sa++(T1++(T2++Sb))->s≠a/\s≠c1/\s≠1:=by
  intro s q;have hmem:s∈(a :: Sa)++((c1 :: T1)++((c2 :: T2)++Sb)):=by
   simp only[List.mem_append,List.mem_cons] at q ⊢;rcases q with q | q | q | q<;>simp[q]
  have:=hlow s hmem;refine⟨?_,?_,by omega⟩
  ·rintro rfl;have:=(List.nodup_cons.1 hnd).1;apply this;simp only[List.mem_append,List.mem_cons] at q ⊢;rcases q with q | q | q | q<;>simp[q]
  ·rintro rfl;have n0:=(List.nodup_cons.1 hnd).2;have n1:=List.nodup_append.1 n0;have n2:=(List.nodup_cons.1 n1.2.1).1;simp only[List.mem_append] at q;rcases q with q | q | q | q
   ·exact n1.2.2 s q s (by simp) rfl
   ·exact n2 (by simp[q])
   ·exact n2 (by simp[q])
   ·exact n2 (by simp[q])
 have hcurs:∀s,s∈Sa++(T1++(T2++Sb))->g.cur (Ah4 (Y9 g (E9 M1 c1 E) c2) (d+1) a (ks.eraseIdx i) [] (ds.eraseIdx (i+1))) s=g.cur M1 s:=λ s q=>hcur s (hin s q).1 (hin s q).2.1 (hin s q).2.2;refine⟨Sa++((c1 :: (T1++T2))++Sb),⟨rfl,λ x q=>hok.k x ((List.eraseIdx_sublist _ _).subset q),λ x q=>hok.d x ((List.eraseIdx_sublist _ _).subset q),hp.sublist (List.eraseIdx_sublist _ _),?_⟩,?_,?_,λ hl=>?_,(f3.mono (by omega)).perm (by simp)⟩
 ·rw[el];refine H.join _ _ _ (λ k l S hP hs=>hP.keep λ s q=>?_) ((oj.keep λ s q=>hcurs s ?_).close c1a (by rw[hcur1,hE]) ?_ hm) (λ p hp=>?_)
  ·rw[hcurs s (by rcases hs s q with r | r<;>simp[r])];exact hk s (hs s q)
  ·rcases List.mem_append.1 q with r | r<;>simp[r]
  ·have:k1.length<=(Af7 d k1 k0 k2).length/\k2.length<=(Af7 d k1 k0 k2).length:=by
    cases d<;>(unfold Af7;simp;try omega)
   simp only[Bool.false_eq_true,if_false];omega
  ·rcases List.mem_append.1 hp with r | r
   ·simp[sub1 p r]
   ·simp[sub2 p r]
 ·have:=hok.most;rw[List.length_eraseIdx];show _<=13
  split<;>omega
 ·rw[List.length_eraseIdx,if_pos hi];show(if root then 1 else 6)<=_
  omega
 ·unfold Ah4;rw[if_pos hl,G8]
theorem Ar6.share(h:Ar6 g M M1 root d a l S key ks ds i k0 c1 c2 k1 v1 d1 k2 v2 d2){K:List Bs}(hK:Af7 d k1 k0 k2=K)(hm:T9 d<K.length){hf:Nat}(hhf:hf=K.length / 2){k':Bs}(hk':K[hf]?=some k')(ho:MOk M1 g.h)(hl1:(g.cur M1 1).length=512)(h1:1<g.h)(h2:g.h<=4096) :
  (K.take hf).length<=T9 d/\(Aj6 d K hf).length<=T9 d/\k'.length=32/\V1 g M (E9 (E9 (E9 M1 c1 (Ah3 d (K.take hf) ((v1++v2).take hf) ((d1++d2).take (hf+1)))) c2 (Ah3 d (Aj6 d K hf) ((v1++v2).drop hf) ((d1++d2).drop (hf+1)))) a (B4 (ks.set i k') ds)) root (d+1) a l S key (ks.set i k') [] ds:=by
 obtain⟨⟨c1a,c1b,c1c⟩,⟨c2a,c2b,c2c⟩,⟨ha4,hah⟩,hi,_⟩:=h.in_;obtain⟨la,l1,l2,lb,Sa,S1,S2,Sb,l1',T1,l2',T2,ha,hh,hp,hok,⟨S0,rfl,H⟩,o1,o2,sub1,sub2,el,hk,hS,hm1,hm2,hbig,_,_,hroot⟩:=h;have hkl:k0.length=32:=hok.k _ (List.mem_of_getElem? H.k);have b1:∀p,p∈l1'->ltB p.1 k0=true:=λ p hp=>H.low p (by simp[sub1 p hp]);have b2:∀p,p∈l2'->ltB p.1 k0=false:=λ p hp=>H.high p (by simp[sub2 p hp]);have oj:=o1.join o2 hkl b1 b2;rw[hK] at oj;obtain⟨m1,U1,m2,U2,e1,e2,q1,q2,x1,x2⟩:=oj.share hk';have hKl:K.length<=2*T9 d+(if d=0 then 0 else 1):=by
  rw[← hK];cases d<;>(unfold Af7;simp;omega)
 have hlens:N3 d<=(K.take hf).length/\(K.take hf).length<=T9 d/\N3 d<=(Aj6 d K hf).length/\(Aj6 d K hf).length<=T9 d:=by
  cases d with
  | zero=>simp only[Aj6,List.length_take,List.length_drop,N3,T9] at hm hKl ⊢;simp at hKl;omega
  | succ d=>simp only[Aj6,List.length_take,List.length_drop,N3,T9] at hm hKl ⊢;simp at hKl;omega
 have hk32:k'.length=32:=oj.len.1 _ (List.mem_of_getElem? hk');refine⟨hlens.2.1,hlens.2.2.2,hk32,?_⟩;have g1:=Ax3 q1 hlens.2.1;have g2:=Ax3 q2 hlens.2.2.2;obtain⟨E1,hE1⟩:∃E,E=Ah3 d (K.take hf) ((v1++v2).take hf) ((d1++d2).take (hf+1)):=⟨_,rfl⟩;obtain⟨E2,hE2⟩:∃E,E=Ah3 d (Aj6 d K hf) ((v1++v2).drop hf) ((d1++d2).drop (hf+1)):=⟨_,rfl⟩;rw[← hE1] at g1 ⊢;rw[← hE2] at g2 ⊢;have hnd:=hS.nd;have hlow:=(hS.held hh).low;have f1:=hS.put ho (a:=c1) (by simp) c1b c1c E1;have ho2:=Af3 ho c1c g1;have f2:=f1.put ho2 (a:=c2) (by simp) c2b c2c E2;have ho3:=Af3 ho2 c2c g2;have f3:=f2.put ho3 (a:=a) (by simp) ha4 hah (B4 (ks.set i k') ds);have n0:=List.nodup_cons.1 hnd;have n1:=List.nodup_append.1 n0.2;have n2:=List.nodup_cons.1 n1.2.1;have n3:=List.nodup_append.1 n2.2;have n4:=List.nodup_cons.1 n3.2.1;have hac:a≠c1:=by rintro rfl;exact n0.1 (by simp)
 have hac2:a≠c2:=by rintro rfl;exact n0.1 (by simp)
 have hcc:c1≠c2:=by rintro rfl;exact n2.1 (by simp)
 have hin:∀s,s∈Sa++(T1++(T2++Sb))->s≠a/\s≠c1/\s≠c2:=by
  intro s q;refine⟨?_,?_,?_⟩
  ·rintro rfl;apply n0.1;simp only[List.mem_append,List.mem_cons] at q ⊢;rcases q with q | q | q | q<;>simp[q]
  ·rintro rfl;simp only[List.mem_append] at q;rcases q with q | q | q | q
   ·exact n1.2.2 s q s (by simp) rfl
   ·exact n2.1 (by simp[q])
   ·exact n2.1 (by simp[q])
   ·exact n2.1 (by simp[q])
  ·rintro rfl;simp only[List.mem_append] at q;rcases q with q | q | q | q
   ·exact n1.2.2 s q s (by simp) rfl
   ·exact n3.2.2 s q s (by simp) rfl
   ·exact n4.1 (by simp[q])
   ·exact n4.1 (by simp[q])
 have hcurs:∀s,s∈Sa++(T1++(T2++Sb))->g.cur (E9 (E9 (E9 M1 c1 E1) c2 E2) a (B4 (ks.set i k') ds)) s=g.cur M1 s:=λ s q=>by
  obtain⟨r1,r2,r3⟩:=hin s q;rw[F8 _ _ _ r1,F8 _ _ _ r3,F8 _ _ _ r2]
 have hUT:∀s,s∈U1++U2->s∈T1++T2:=λ s q=>by rw[e2];exact q
 have hsh:=H.share (λ k l S=>E6 (g.cur (E9 (E9 (E9 M1 c1 E1) c2 E2) a (B4 (ks.set i k') ds))) false d k l S) k' m1 (c1 :: U1) m2 (c2 :: U2) (λ k l S hP hs=>hP.keep λ s q=>by
   rw[hcurs s (by rcases hs s q with r | r<;>simp[r])];exact hk s (hs s q))
  ((q1.keep λ s q=>hcurs s (by
   have:=hUT s (by simp[q]);simp only[List.mem_append] at this ⊢;rcases this with r | r<;>simp[r])).close c1a (by rw[F8 _ _ _ (Ne.symm hac),F8 _ _ _ hcc,G8,hE1]) (by simpa using hlens.1) hlens.2.1)
  ((q2.keep λ s q=>hcurs s (by
   have:=hUT s (by simp[q]);simp only[List.mem_append] at this ⊢;rcases this with r | r<;>simp[r])).close c2a (by rw[F8 _ _ _ (Ne.symm hac2),G8,hE2]) (by simpa using hlens.2.2.1) hlens.2.2.2)
  (q1.ne (by have:=hlens.1;cases d<;>(simp only[N3] at this;omega))) (q2.ne (by have:=hlens.2.2.1;cases d<;>(simp only[N3] at this;omega))) x1 x2 (λ p hp=>by
   rw[← e1] at hp;rcases List.mem_append.1 hp with r | r
   ·simp[sub1 p r]
   ·simp[sub2 p r])
 refine⟨Sa++(((c1 :: U1)++(c2 :: U2))++Sb),⟨rfl,λ x q=>?_,hok.d,hsh.2,by rw[el,e1];exact hsh.1⟩,by rw[List.length_set];exact hok.most,by rw[List.length_set];show(if root then 1 else 6)<=_;omega,λ _=>G8 _ _ _ _,(f3.mono (by omega)).perm ?_⟩
 ·rcases List.mem_or_eq_of_mem_set q with q | rfl
  ·exact hok.k x q
  ·exact hk32
 ·refine List.Perm.cons _ (List.Perm.append_left _ ?_);have:(c1 :: (T1++(c2 :: (T2++Sb)))).Perm (c1 :: c2 :: ((T1++T2)++Sb)):=List.Perm.cons _ (by simp);refine(show(c1 :: T1++(c2 :: T2++Sb)).Perm _ from this).trans ?_;rw[e2];have:(c1 :: (U1++(c2 :: (U2++Sb)))).Perm (c1 :: c2 :: ((U1++U2)++Sb)):=List.Perm.cons _ (by simp);simpa using this.symm
end
def Ch0(g:Sg)(M1:Nat->Option Sec)(d c:Nat)(k v:List Bs)(ds:List Nat):Prop:=c<4294967296/\c<g.h/\g.cur M1 c=Ah3 d k v ds/\k.length<=T9 d/\(∃l S,P9 (g.cur M1) d k v ds l S)
structure Br6(g:Sg)(M:Nat->Option Sec)(root:Bool)(d a:Nat)(l:List B0)(S:List Nat)(key:Bs)(ks:List Bs)(ds:List Nat)(kid:Nat)(lc:List B0)(Sc:List Nat):Prop where
 ok:F6 ks ds
 enc:g.cur M a=B4 ks ds
 pos:0<ks.length
 at_:ds[chK ks key]?=some kid
 shape:E6 (g.cur M) false d kid lc Sc
 held:K5 g M Sc
 look:J9 l key=J9 lc key
 whole:∀M1 k1 v1 d1,V1 g M M1 false d kid lc Sc key k1 v1 d1->N3 d<=k1.length->V1 g M M1 root (d+1) a l S key ks [] ds
 left:chK ks key=0->∀M1 k1 v1 d1,V1 g M M1 false d kid lc Sc key k1 v1 d1->∃k0 c2 k2 v2 d2,Ch0 g M1 d c2 k2 v2 d2/\Ar6 g M M1 root d a l S key ks ds 0 k0 kid c2 k1 v1 d1 k2 v2 d2
 right:∀i,chK ks key=i+1->∀M1 k2 v2 d2,V1 g M M1 false d kid lc Sc key k2 v2 d2->∃k0 c1 k1 v1 d1,Ch0 g M1 d c1 k1 v1 d1/\Ar6 g M M1 root d a l S key ks ds i k0 c1 kid k1 v1 d1 k2 v2 d2
theorem K5.part{g:Sg}{M:Nat->Option Sec}{X Y Sc:List Nat}(h:K5 g M (X++(Sc++Y))):K5 g M Sc:=
 ⟨(List.nodup_append.1 (List.nodup_append.1 h.nd).2.1).1,λ s q=>h.low s (by simp[q]),λ s q=>h.T s (by simp[q])⟩
theorem Bk6{α:Type}{l:List α}{i:Nat}{x:α}(h:l[i]?=some x):l.set i x=l:=by
 obtain⟨h1,h2⟩:=List.getElem?_eq_some_iff.1 h;rw[← h2,List.set_getElem_self]
theorem Bb3{d n:Nat}(h:N3 d<=n):0<n:=by cases d<;>(simp only[N3] at h;omega)
theorem Br7{d n:Nat}(h:(if false=true then 1 else N3 d)<=n+1):0<n:=by cases d<;>(simp[N3] at h;omega)
theorem E6.dropKid{g:Sg}{M:Nat->Option Sec}{root:Bool}{d a:Nat}{l:List B0}{S:List Nat}{key:Bs}(hs:E6 (g.cur M) root (d+1) a l S)(hh:K5 g M S):∃ks ds kid lc Sc,Br6 g M root d a l S key ks ds kid lc Sc:=by
 have hlow:=hh.low a hs.mem.1;obtain⟨ha,ks,ds,S',rfl,hok,hc,hn,hp,hkids⟩:=hs;have hpos:0<ks.length:=by cases root<;>simp at hn<;>omega
 have hI:=Be0 ks key;cases hch:chK ks key with
 | zero=>
  obtain⟨k0,c1,c2,la,l1,l2,lb,Sa,S1,S2,Sb,H⟩:=hkids.pair hp hpos;have hla:=H.first rfl;have hkk:ltB key k0=true:=Ao5 hp (by rw[hch];exact H.k);have hhi:∀p,p∈l2++lb->ltB key p.1=true:=λ p hq=>by
   cases r:ltB key p.1
   ·have:=J8 (a:=p.1) r hkk;rw[H.high p hq] at this;simp at this
   ·rfl
  have hh2:K5 g M ((a :: Sa)++(S1++(S2++Sb))):=by have:=hh;rw[H.eS] at this;exact this
  have hd:S4 l key=la++(S4 l1 key++(l2++lb)):=by rw[H.el];exact Bk1 (by rw[hla];simp) hhi
  have hs2:=hh2;refine⟨ks,ds,c1,l1,S1,hok,hc,hpos,by rw[hch];exact H.d1,H.p1,hh2.part,by rw[H.el];exact Aa1 (by rw[hla];simp) hhi,?_,?_,λ i e=>by omega⟩
  ·rintro M1 k1 v1 d1 ⟨T1,o1,hm,hlo1,henc,hS⟩ hle;have ho:=hS.out hh2;have hna:a∉S1/\g.cur M1 a=g.cur M a:=ho a (.inl (by simp));have q1:=o1.close (root:=false) H.p1.mem.2 (henc hle) (by simpa using hle) hm;have q2:=H.p2.keep (C':=g.cur M1) (λ s q=>(ho s (.inr (by simp[q]))).2);have:=H.share (λ k l S=>E6 (g.cur M1) false d k l S) k0 (S4 l1 key) (c1 :: T1) l2 S2 (λ k l S hP hs=>hP.keep λ s q=>by
    rcases hs s q with r | r
    ·exact(ho s (.inl (by simp[r]))).2
    ·exact(ho s (.inr (by simp[r]))).2) q1 q2 q1.ne q2.ne (λ p q=>H.low p (by simp[Y6 q])) (λ p q=>H.high p (by simp[q])) (λ p q=>by
     rcases List.mem_append.1 q with r | r
     ·simp[Y6 r]
     ·simp[r])
   rw[Bk6 H.k] at this;refine⟨Sa++(((c1 :: T1)++S2)++Sb),⟨rfl,hok.k,hok.d,hp,by rw[hd];simpa using this.1⟩,hok.most,by show(if root then 1 else 6)<=_;omega,λ _=>by rw[hna.2];exact hc,?_⟩;have:=(hS.lift hh2).mono (show 3*d+1<=3*(d+1)+1 by omega);rw[H.eS];exact this.perm (by simp)
  ·rintro _ M1 k1 v1 d1 ⟨T1,o1,hm,hlo1,henc,hS⟩;have ho:=hS.out hh2;obtain⟨k2,v2,d2,T2,e2,hc2,o2,henc2,hle2,hm2⟩:=H.p2.open;have hk2:∀s,s∈S2->g.cur M1 s=g.cur M s:=λ s q=>(ho s (.inr (by simp[q]))).2;have o2':=o2.keep (C':=g.cur M1) (λ s q=>hk2 s (by rw[e2];simp[q]));have hlow2:=hh2.low c2 (by simp[H.p2.mem.1]);refine⟨k0,c2,k2,v2,d2,⟨hc2,hlow2.2,by rw[hk2 c2 H.p2.mem.1];exact henc2,hm2,_,_,o2'⟩,la,l1,l2,lb,Sa,S1,S2,Sb,_,T1,_,T2,ha,hh,hp,hok,⟨_,rfl,H⟩,o1,o2',λ p q=>Y6 q,λ p q=>q,by rw[hd];simp,λ s q=>?_,?_,hm,hm2,.inr (by simpa using hle2),Br7 hlo1,Bb3 (by simpa using hle2),hn⟩
   ·rcases q with q | q
    ·exact(ho s (.inl (by simp[q]))).2
    ·exact(ho s (.inr (by simp[q]))).2
   ·have:=hS.lift hh2;rw[H.eS];rw[← e2];exact this.perm (by simp)
 | succ i=>
  have hi:i<ks.length:=by omega
  obtain⟨k0,c1,c2,la,l1,l2,lb,Sa,S1,S2,Sb,H⟩:=hkids.pair hp hi;have hkk:ltB key k0=false:=Bb2 hp (by omega) H.k;have hlo:∀p,p∈la++l1->ltB p.1 key=true:=λ p hq=>by
   cases r:ltB p.1 key
   ·have:=J8 (a:=key) r (H.low p hq);rw[hkk] at this;simp at this
   ·rfl
  have hhi:∀p,p∈lb->ltB key p.1=true:=λ p hq=>by
   cases hx:ks[i+1]? with
   | none=>
    have:=List.getElem?_eq_none_iff.1 hx;rw[H.last (by omega)] at hq;simp at hq
   | some x=>
    have h1:=(H.next x hx).2 p hq;have h2:ltB key x=true:=Ao5 hp (by rw[hch];exact hx);cases r:ltB key p.1
    ·have:=J8 (a:=p.1) r h2;rw[h1] at this;simp at this
    ·rfl
  have hh2:K5 g M ((a :: (Sa++S1))++(S2++Sb)):=by have:=hh;rw[H.eS] at this;simpa using this
  have hd:S4 l key=(la++l1)++(S4 l2 key++lb):=by rw[H.el,← List.append_assoc];exact Bk1 hlo hhi
  refine⟨ks,ds,c2,l2,S2,hok,hc,hpos,by rw[hch];exact H.d2,H.p2,hh2.part,by rw[H.el,← List.append_assoc];exact Aa1 hlo hhi,?_,λ e=>by omega,?_⟩
  ·rintro M1 k2 v2 d2 ⟨T2,o2,hm,hlo2,henc,hS⟩ hle;have ho:=hS.out hh2;have hna:a∉S2/\g.cur M1 a=g.cur M a:=ho a (.inl (by simp));have q2:=o2.close (root:=false) H.p2.mem.2 (henc hle) (by simpa using hle) hm;have q1:=H.p1.keep (C':=g.cur M1) (λ s q=>(ho s (.inl (by simp[q]))).2);have:=H.share (λ k l S=>E6 (g.cur M1) false d k l S) k0 l1 S1 (S4 l2 key) (c2 :: T2) (λ k l S hP hs=>hP.keep λ s q=>by
    rcases hs s q with r | r
    ·exact(ho s (.inl (by simp[r]))).2
    ·exact(ho s (.inr (by simp[r]))).2) q1 q2 q1.ne q2.ne (λ p q=>H.low p (by simp[q])) (λ p q=>H.high p (by simp[Y6 q])) (λ p q=>by
     rcases List.mem_append.1 q with r | r
     ·simp[r]
     ·simp[Y6 r])
   rw[Bk6 H.k] at this;refine⟨Sa++((S1++(c2 :: T2))++Sb),⟨rfl,hok.k,hok.d,hp,by rw[hd];simpa using this.1⟩,hok.most,by show(if root then 1 else 6)<=_;omega,λ _=>by rw[hna.2];exact hc,?_⟩;have:=(hS.lift hh2).mono (show 3*d+1<=3*(d+1)+1 by omega);have e:(a :: (Sa++S1))++(S2++Sb)=a :: (Sa++(S1++(S2++Sb))):=by simp
   rw[H.eS,← e];exact this.perm (by simp)
  ·intro i' e M1 k2 v2 d2 hD;obtain rfl:i=i':=by omega
   obtain⟨T2,o2,hm,hlo2,henc,hS⟩:=hD;have ho:=hS.out hh2;obtain⟨k1,v1,d1,T1,e1,hc1,o1,henc1,hle1,hm1⟩:=H.p1.open;have hk1:∀s,s∈S1->g.cur M1 s=g.cur M s:=λ s q=>(ho s (.inl (by simp[q]))).2;have o1':=o1.keep (C':=g.cur M1) (λ s q=>hk1 s (by rw[e1];simp[q]));have hlow1:=hh2.low c1 (by simp[H.p1.mem.1]);refine⟨k0,c1,k1,v1,d1,⟨hc1,hlow1.2,by rw[hk1 c1 H.p1.mem.1];exact henc1,hm1,_,_,o1'⟩,la,l1,l2,lb,Sa,S1,S2,Sb,_,T1,_,T2,ha,hh,hp,hok,⟨_,rfl,H⟩,o1',o2,λ p q=>q,λ p q=>Y6 q,by rw[hd];simp,λ s q=>?_,?_,hm1,hm,.inl (by simpa using hle1),Bb3 (by simpa using hle1),Br7 hlo2,hn⟩
   ·rcases q with q | q
    ·exact(ho s (.inl (by simp[q]))).2
    ·exact(ho s (.inr (by simp[q]))).2
   ·have:=hS.lift hh2;have e:(a :: (Sa++S1))++(S2++Sb)=a :: (Sa++(S1++(S2++Sb))):=by simp
    rw[H.eS,← e];rw[← e1];exact this.perm (by simp)
def Ai8(g:Sg)(M M':Nat->Option Sec)(r':Nat)(l:List B0)(S:List Nat)(key:Bs)(m:Nat):Prop:=∃S',Y8 (g.cur M') r' (S4 l key) S'/\L9 g M M' S S' m
theorem E6.root{C:Nat->Sec}{d a:Nat}{l:List B0}{S:List Nat}(h:E6 C false d a l S):E6 C true d a l S:=by
 obtain⟨ks,vs,ds,S',rfl,ha,ho,hc,hl,hm⟩:=h.open;refine ho.close ha hc ?_ hm;cases d<;>(simp[N3] at hl ⊢;omega)
section
variable {g:Sg} {M M1:Nat->Option Sec} {d r:Nat} {l:List B0} {S:List Nat} {key:Bs} {ks vs:List Bs} {ds:List Nat}
theorem Bk7(h:V1 g M M1 true d r l S key ks vs ds)(hh:K5 g M S)(hr:r<4294967296)(hl:N3 d<=ks.length):Ai8 g M M1 r l S key (3*d+2):=by
 obtain⟨S',ho,hm,_,hc,hS⟩:=h;have:=(hh.low r (hS.sub r (by simp))).1;exact⟨_,.inr ⟨by omega,d,ho.close hr (hc hl) (by cases d<;>(simp[N3] at hl ⊢;omega)) hm⟩,hS.mono (by omega)⟩
theorem Ay9(h:V1 g M M1 true d r l S key ks vs ds)(hh:K5 g M S)(hr:r<4294967296)(hl:0<ks.length)(ho1:MOk M1 g.h):Ai8 g M (E9 M1 r (Ah3 d ks vs ds)) r l S key (3*d+2):=by
 obtain⟨S',ho,hm,_,hc,hS⟩:=h;have hlow:=hh.low r (hS.sub r (by simp));refine⟨_,.inr ⟨by omega,d,(ho.keep λ s q=>F8 _ _ _ ?_).close hr (G8 _ _ _ _) (by simp;omega) hm⟩,(hS.put ho1 (by simp) hlow.1 hlow.2 _).mono (by omega)⟩;rintro rfl;exact(List.nodup_cons.1 hS.nd).1 q
theorem Be6(h:V1 g M M1 true 0 r l S key [] vs ds)(hh:K5 g M S)(ho1:MOk M1 g.h)(hl1:(g.cur M1 1).length=512)(h1:1<g.h)(h2:g.h<=4096):Ai8 g M (Y9 g M1 r) 0 l S key (3*0+2):=by
 obtain⟨S',ho,hm,_,hc,hS⟩:=h;obtain⟨rfl,_,e,_⟩:=ho;exact⟨[],.inl ⟨rfl,by cases q:S4 l key with | nil=>rfl | cons a b=>rw[q] at e;simp at e,rfl⟩,((hS.free hh ho1 hl1 h1 h2).mono (by omega))⟩
theorem Az0(h:V1 g M M1 true (d+1) r l S key [] vs ds)(hh:K5 g M S)(ho1:MOk M1 g.h)(hl1:(g.cur M1 1).length=512)(h1:1<g.h)(h2:g.h<=4096):∃c,ds=[c]/\c<4294967296/\Ai8 g M (Y9 g M1 r) c l S key (3*(d+1)+2):=by
 obtain⟨S',ho,hm,_,hc,hS⟩:=h;have hf:=hS.free hh ho1 hl1 h1 h2;obtain⟨rfl,_,_,_,hk⟩:=ho;generalize hq:S4 l key=L at hk;cases hk with
 | one hk=>
  have hm1:=hk.mem;have h4:=hh.low _ (hf.sub _ hm1.1);refine⟨_,rfl,hm1.2,_,.inr ⟨by omega,d,?_⟩,hf.mono (by omega)⟩;rw[hq];exact hk.root.keep λ s q=>Am6 _ _ (by have:=(hh.low s (hf.sub s q)).1;omega)
end
end
end Go.Proofs.YtgfbepakonjbnaaGreat
end
